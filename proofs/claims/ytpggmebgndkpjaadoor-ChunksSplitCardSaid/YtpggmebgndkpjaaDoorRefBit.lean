/- The contract of the reference's Bit. -/
import Derived.Test.YtpggmebgndkpjaaDoorRef4
namespace Go.Proofs.YtpggmebgndkpjaaDoor
set_option linter.all false
open Go.RowKit

def sh (x k : Nat) : Nat := x / 2 ^ k
def bitn (b i : Nat) : Nat := b / 2 ^ i % 2
theorem sh_zero (x : Nat) : sh x 0 = x := by simp [sh]
theorem sh_succ (x k : Nat) : sh x (k + 1) = sh x k / 2 := by
  unfold sh; rw [Nat.pow_succ, Nat.div_div_eq_div_mul]
theorem sh_lt {x : Nat} (h : x < W) (k : Nat) : sh x k < W := Nat.lt_of_le_of_lt (Nat.div_le_self _ _) h
theorem sh_bit (b i : Nat) : sh (dg (i / 64) b) (i % 64) % 2 = bitn b i := by
  unfold sh bitn dg
  have e : W ^ (i / 64) = 2 ^ (64 * (i / 64)) := by rw [Nat.pow_mul]; rfl
  have e2 : W = 2 ^ (i % 64) * 2 ^ (64 - i % 64) := by rw [← Nat.pow_add, show i % 64 + (64 - i % 64) = 64 by omega]; rfl
  have e3 : 2 ^ i = 2 ^ (64 * (i / 64)) * 2 ^ (i % 64) := by rw [← Nat.pow_add, show 64 * (i / 64) + i % 64 = i by omega]
  rw [e, e3, ← Nat.div_div_eq_div_mul]
  generalize b / 2 ^ (64 * (i / 64)) = x
  have h : x % W / 2 ^ (i % 64) = x / 2 ^ (i % 64) % 2 ^ (64 - i % 64) := by
    rw [e2, Nat.mod_mul_right_div_self]
  rw [h]
  obtain ⟨n, hn⟩ : ∃ n, 64 - i % 64 = n + 1 := ⟨63 - i % 64, by omega⟩
  rw [hn, Nat.pow_succ, Nat.mul_comm, Nat.mod_mul_right_mod]

set_option maxRecDepth 100000 in
set_option maxHeartbeats 1000000 in
theorem refBit_c (b i : Nat) (hi : i < 256) (w : World) :
    Calls Tryd.prog 111 #[vec b, .int .i64 (i : Int)] w fun e w' => e = .returned (.int .u64 ((bitn b i : Nat) : Int)) ∧ Below w.heap.size w w' := by
  have hj : i / 64 < 4 := by omega
  have d1 := digit_at b (i / 64) hj
  have hb := Lib.hid (show ((sh (dg (i / 64) b) (i % 64) : Nat) : Int) % 2 = ((bitn b i : Nat) : Int) from by rw [← sh_bit b i]; rfl)
  have hl := sh_lt (dg_lt (i / 64) b)
  go_enter Tryd.func111, Tryd.ntmps111
  go_wp2_with fail
  go_loopw [5, 6] (fun x k wr => ∃ (n : Nat), n ≤ i % 64 ∧ x = .int .u64 ((sh (dg (i / 64) b) n : Nat) : Int) ∧ k = .int .i64 (n : Int) ∧ wr = w.alloc
      (.cells #[.int .u64 ((dg 0 b : Nat) : Int), .int .u64 ((dg 1 b : Nat) : Int), .int .u64 ((dg 2 b : Nat) : Int), .int .u64 ((dg 3 b : Nat) : Int)] 44)) (fun _ k _ => 64 - (intOf k).toNat)
  case atStart => exact ⟨0, by omega, by rw [sh_zero], rfl, rfl⟩
  case round =>
    obtain ⟨n, hn, rfl, rfl, rfl⟩ := hrel
    by_cases hk : n < i % 64
    · go_wp2_with fail
      all_goals go_roundw
      case rel => exact ⟨n + 1, by omega, by rw [sh_succ, IntKind.wrap_u64]; exact congrArg (Value.int .u64) (by have := hl n; unfold W at this; omega), by go_num, trivial⟩
      case measure => simp [intOf]; omega
    · obtain rfl : n = i % 64 := by omega
      go_wp2_with fail
      rw [hb.out]
      refine bodyPost_ret (v := .int .u64 ((bitn b i : Nat) : Int)) (by simp only [results, Tryd.results111]; go_simp) rfl ⟨rfl, ?_⟩
      repeat first
        | with_reducible exact Below.refl _ _
        | with_reducible refine Below.drew ?_
        | with_reducible refine below_dN ?_
        | with_reducible refine Below.alloc ?_ (by first | omega | (simp; done) | (simp; omega)) _
        | with_reducible refine Below.setCell ?_ (by first | omega | (simp; done) | (simp; omega)) _
        | with_reducible refine Below.trans ?_ (Below.mono (by assumption) (by first | omega | (simp; done) | (simp; omega)))
end Go.Proofs.YtpggmebgndkpjaaDoor
