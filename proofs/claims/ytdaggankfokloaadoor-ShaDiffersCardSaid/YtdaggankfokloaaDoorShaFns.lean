/- The contracts of the small functions: rotations, shifts. -/
import Derived.Test.YtdaggankfokloaaDoorSha
import Derived.Test.YtdaggankfokloaaDoorProg
import Derived.Test.YtdaggankfokloaaDoorShelf
import Derived.Test.YtdaggankfokloaaDoorRegion
import Derived.WalkLawsBesides
import Derived.WalkSpells
import Derived.Deep.DeepFit
import Derived.Deep.RegionHeld3
import Derived.Deep.QuietTactic
import Derived.BigQuiet
namespace Go.Proofs.YtdaggankfokloaaDoor
set_option linter.all false
open Go Go.RowKit

theorem rot_val {n x : Nat} (hn : n ≤ 32) (hx : x < B) :
    bits BinOp.or IntKind.u32 ((x : Int) * 2 ^ (32 - n) % 4294967296) ((x : Int) / 2 ^ (32 - (32 - n))) = ((rr n x : Nat) : Int) := by
  have h1 := rr_or hn hx
  have l1 : x / 2 ^ n < 4294967296 := Nat.lt_of_le_of_lt (Nat.div_le_self _ _) hx
  rw [show 32 - (32 - n) = n by omega, show ((2 : Int) ^ (32 - n)) = ((2 ^ (32 - n) : Nat) : Int) from (Int.natCast_pow 2 _).symm, show ((2 : Int) ^ n) = ((2 ^ n : Nat) : Int) from (Int.natCast_pow 2 _).symm]
  unfold B at h1
  generalize 2 ^ (32 - n) = p at h1 ⊢
  generalize 2 ^ n = q at h1 l1 ⊢
  rw [show ((x : Int) * (p : Int) % 4294967296) = ((x * p % 4294967296 : Nat) : Int) from rfl, show ((x : Int) / (q : Int)) = ((x / q : Nat) : Int) from rfl, u32_or_nat _ _ (Nat.mod_lt _ (by decide)) l1, h1]

set_option maxRecDepth 100000 in
set_option maxHeartbeats 2000000 in
theorem rotl_c (n x : Nat) (h0 : 0 < n) (hn : n < 32) (hx : x < B) (w : World) :
    Calls Tryd.prog 32 #[.int .u32 (x : Int), .int .i64 (-(n : Int))] w fun e w' => e = .returned (.int .u32 ((rr n x : Nat) : Int)) ∧ w = w' := by
  have e1 : bits BinOp.and IntKind.u64 (IntKind.u64.wrap (-(n : Int))) 31 = ((32 - n : Nat) : Int) := by
    have : n = 1 ∨ n = 2 ∨ n = 3 ∨ n = 4 ∨ n = 5 ∨ n = 6 ∨ n = 7 ∨ n = 8 ∨ n = 9 ∨ n = 10 ∨ n = 11 ∨ n = 12 ∨ n = 13 ∨ n = 14 ∨ n = 15 ∨ n = 16 ∨ n = 17 ∨ n = 18 ∨ n = 19 ∨ n = 20 ∨ n = 21 ∨ n = 22 ∨ n = 23 ∨ n = 24 ∨ n = 25 ∨ n = 26 ∨ n = 27 ∨ n = 28 ∨ n = 29 ∨ n = 30 ∨ n = 31 := by omega
    rcases this with rfl | rfl | rfl | rfl | rfl | rfl | rfl | rfl | rfl | rfl | rfl | rfl | rfl | rfl | rfl | rfl | rfl | rfl | rfl | rfl | rfl | rfl | rfl | rfl | rfl | rfl | rfl | rfl | rfl | rfl | rfl <;> decide
  have Hx := Lib.hid hx
  have Hn := Lib.hid hn
  clear hx hn h0
  go_enter Tryd.func32, Tryd.ntmps32
  go_wp2_with fail
  exact bodyPost_ret (v := .int .u32 ((rr n x : Nat) : Int)) (by simp only [results, Tryd.results32]; go_simp; rw [rot_val (Nat.le_of_lt Hn.out) Hx.out]) rfl ⟨rfl, rfl⟩

set_option maxRecDepth 100000 in
set_option maxHeartbeats 2000000 in
theorem rot_c (n x : Nat) (h0 : 0 < n) (hn : n < 32) (hx : x < B) (w : World) :
    Calls Tryd.prog 29 #[.int .u32 (x : Int), .int .i64 (n : Int)] w fun e w' => e = .returned (.int .u32 ((rr n x : Nat) : Int)) ∧ w = w' := by
  have H := Lib.hid (rotl_c n x h0 hn hx)
  have hneg : IntKind.i64.wrap (-(n : Int)) = -(n : Int) := by rw [IntKind.wrap_i64]; omega
  clear h0 hn hx
  go_enter Tryd.func29, Tryd.ntmps29
  go_wp2_with fail
  refine Calls.mono (H.out _) ?_
  rintro _ _ ⟨rfl, rfl⟩
  go_wp2_with fail
  exact bodyPost_ret (v := .int .u32 ((rr n x : Nat) : Int)) (by simp only [results, Tryd.results29]; go_simp) rfl ⟨rfl, rfl⟩

set_option maxRecDepth 100000 in
set_option maxHeartbeats 2000000 in
theorem refRot_c (n x : Nat) (hn : n < 32) (hx : x < B) (w : World) :
    Calls Tryd.prog 26 #[.int .u32 (x : Int), .int .i64 (n : Int)] w fun e w' => e = .returned (.int .u32 ((rr n x : Nat) : Int)) ∧ w = w' := by
  have hn' := hn
  have Hx := Lib.hid hx
  clear hx
  go_enter Tryd.func26, Tryd.ntmps26
  go_wp2_with fail
  go_loop [0, 5] (fun y i => ∃ k : Nat, k ≤ n ∧ i = .int .i64 (k : Int) ∧ y = .int .u32 ((rr k x : Nat) : Int)) (fun _ i => n - (intOf i).toNat)
  case atStart => exact ⟨0, by omega, rfl, by rw [rr_zero]⟩
  case round =>
    obtain ⟨k, hk, rfl, rfl⟩ := hrel
    by_cases hlt : k < n
    · have hs : rr k x / 2 + rr k x % 2 * 2147483648 = rr (k + 1) x := rr_succ (by omega)
      have hl : rr (k + 1) x < B := rr_lt (by omega) Hx.out
      have hl0 : rr k x < B := rr_lt (by omega) Hx.out
      unfold B at hl hl0
      rw [← hs] at hl
      go_wp2_with fail
      go_round
      case rel => exact ⟨k + 1, by omega, by go_num, by rw [← hs]; go_num⟩
      case measure => simp [intOf]; omega
    · obtain rfl : k = n := by omega
      clear hlt hk hn'
      go_wp2_with fail
      exact bodyPost_ret (v := .int .u32 ((rr k x : Nat) : Int)) (by simp only [results, Tryd.results26]; go_simp) rfl ⟨rfl, rfl⟩

set_option maxRecDepth 100000 in
set_option maxHeartbeats 2000000 in
theorem refShr_c (n x : Nat) (hn : n < 32) (hx : x < B) (w : World) :
    Calls Tryd.prog 27 #[.int .u32 (x : Int), .int .i64 (n : Int)] w fun e w' => e = .returned (.int .u32 ((x / 2 ^ n : Nat) : Int)) ∧ w = w' := by
  have hn' := hn
  have Hx := Lib.hid hx
  clear hx
  obtain ⟨sh, hsh⟩ : ∃ sh : Nat → Nat, sh = fun k => x / 2 ^ k := ⟨_, rfl⟩
  have e0 : sh 0 = x := by rw [hsh]; simp
  have es : ∀ k, sh k / 2 = sh (k + 1) := fun k => by rw [hsh]; simp only; rw [Nat.div_div_eq_div_mul, Nat.pow_succ]
  have el : ∀ k, sh k < 4294967296 := fun k => by rw [hsh]; exact Nat.lt_of_le_of_lt (Nat.div_le_self _ _) Hx.out
  rw [show x / 2 ^ n = sh n by rw [hsh]]
  have Es := Lib.hid es
  have El := Lib.hid el
  have E0 := Lib.hid e0
  clear hsh es el e0 Hx
  go_enter Tryd.func27, Tryd.ntmps27
  go_wp2_with fail
  go_loop [0, 5] (fun y i => ∃ k : Nat, k ≤ n ∧ i = .int .i64 (k : Int) ∧ y = .int .u32 ((sh k : Nat) : Int)) (fun _ i => n - (intOf i).toNat)
  case atStart => exact ⟨0, by omega, rfl, by rw [E0.out]⟩
  case round =>
    obtain ⟨k, hk, rfl, rfl⟩ := hrel
    by_cases hlt : k < n
    · have hl0 := El.out k
      go_wp2_with fail
      go_round
      case rel => exact ⟨k + 1, by omega, by go_num, by rw [← Es.out]; go_num⟩
      case measure => simp [intOf]; omega
    · obtain rfl : k = n := by omega
      clear hlt hk hn'
      go_wp2_with fail
      exact bodyPost_ret (v := .int .u32 ((sh k : Nat) : Int)) (by simp only [results, Tryd.results27]; go_simp) rfl ⟨rfl, rfl⟩
end Go.Proofs.YtdaggankfokloaaDoor
