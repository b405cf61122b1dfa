/- The contracts of the reference's Radix and Modulus. -/
import Derived.Test.YtpggmebgndkpjaaDoorRefMul
import Derived.Test.YtpggmebgndkpjaaDoorField
namespace Go.Proofs.YtpggmebgndkpjaaDoor
set_option linter.all false
open Go.RowKit

/-- What Radix holds after i rounds. -/
def rx (p i : Nat) : Nat := 2 ^ i % p
theorem rx_lt {p : Nat} (hp : 0 < p) (i : Nat) : rx p i < p := Nat.mod_lt _ hp
theorem rx_zero {p : Nat} (hp : 1 < p) : rx p 0 = 1 := by simp [rx, Nat.mod_eq_of_lt hp]
theorem rx_succ (p i : Nat) : addm p (rx p i) (rx p i) = rx p (i + 1) := by
  unfold addm rx; rw [← Nat.add_mod, ← Nat.two_mul, Nat.pow_succ, Nat.mul_comm]

set_option maxRecDepth 100000 in
set_option maxHeartbeats 2000000 in
theorem refRadix_c (p : Nat) (hp : p < R4) (hp1 : 1 < p) (w : World) :
    Calls Tryd.prog 93 #[vec p] w fun e w' => e = .returned (vec (R4 % p)) ∧ Below w.heap.size w w' := by
  have Hp := Lib.hid hp
  have Hp0 := Lib.hid (show 0 < p by omega)
  have H1 := Lib.hid (rx_zero hp1)
  have He : rx p 256 = R4 % p := rfl
  rw [← He]
  clear hp hp1 He
  go_enter Tryd.func93, Tryd.ntmps93
  go_wp2_with fail
  refine Calls.mono (refOne_c _) ?_
  rintro _ w1 ⟨rfl, h1⟩
  obtain ⟨c1, f1, s1⟩ := bfacts h1
  try simp only [World.size_alloc, World.size_setCell, size_drew, size_drewN] at s1
  have l_w_w1_0 : w.heap.size < w1.heap.size := by omega
  have l_w_w1_1 : w.heap.size + 1 < w1.heap.size := by omega
  go_wp2_with fail
  go_loopw [4] (fun i wr => ∃ (k : Nat), k ≤ 256 ∧ i = .int .i64 (k : Int) ∧ Below (w1.heap.size + 1) (w1.alloc
      (.cells #[.int .u64 ((dg 0 (rx p k) : Nat) : Int), .int .u64 ((dg 1 (rx p k) : Nat) : Int), .int .u64 ((dg 2 (rx p k) : Nat) : Int), .int .u64 ((dg 3 (rx p k) : Nat) : Int)] 44)) wr) (fun i _ => 256 - (intOf i).toNat)
  case atStart => exact ⟨0, by omega, rfl, by rw [H1.out]; exact Below.refl _ _⟩
  case round =>
    obtain ⟨k, hk, rfl, hB⟩ := hrel
    obtain ⟨c2, f2, s2⟩ := bfactsB hB
    simp only [World.size_alloc] at s2
    have l_w_wr_0 : w.heap.size < wr.heap.size := by omega
    have l_w_wr_1 : w.heap.size + 1 < wr.heap.size := by omega
    have l2 : w1.heap.size < wr.heap.size := by omega
    by_cases hk2 : k < 256
    · go_wp2_with fail
      refine Calls.mono (refAdd_c p (rx p k) (rx p k) Hp.out (rx_lt Hp0.out _) (rx_lt Hp0.out _) _) ?_
      rintro _ w3 ⟨rfl, h3⟩
      obtain ⟨c3, f3, s3⟩ := bfacts h3
      try simp only [World.size_alloc, World.size_setCell, size_drew, size_drewN] at s3
      rw [rx_succ]
      have l_w_w3_0 : w.heap.size < w3.heap.size := by omega
      have l_w_w3_1 : w.heap.size + 1 < w3.heap.size := by omega
      have l3 : w1.heap.size < w3.heap.size := by omega
      have hB4 := below_four (d0 := .int .u64 ((dg 0 (rx p (k + 1)) : Nat) : Int)) (d1 := .int .u64 ((dg 1 (rx p (k + 1)) : Nat) : Int)) (d2 := .int .u64 ((dg 2 (rx p (k + 1)) : Nat) : Int)) (d3 := .int .u64 ((dg 3 (rx p (k + 1)) : Nat) : Int)) (hB.trans (h3.mono s2)) (n := w1.heap.size) rfl
      have HB4 := Lib.hid hB4
      clear hB4
      go_wp2_with fail
      go_roundw
      case rel => exact ⟨k + 1, by omega, by go_num, HB4.out⟩
      case measure => simp [intOf]; omega
    · have e : k = 256 := by omega
      clear hk hk2
      have E2 := Lib.hid (show vec (rx p 256) = vec (rx p k) by rw [e])
      generalize rx p k = x at *
      subst e
      go_wp2_with fail
      rw [E2.out]
      refine bodyPost_ret (v := vec x) (by simp only [results, Tryd.results93]; go_simp) rfl ⟨rfl, ?_⟩
      repeat first
        | with_reducible exact Below.refl _ _
        | with_reducible refine Below.drew ?_
        | with_reducible refine below_dN ?_
        | with_reducible refine Below.alloc ?_ (by first | omega | (simp; done) | (simp; omega)) _
        | with_reducible refine Below.setCell ?_ (by first | omega | (simp; done) | (simp; omega)) _
        | with_reducible refine Below.trans ?_ (Below.mono (by assumption) (by first | omega | (simp; done) | (simp; omega)))
end Go.Proofs.YtpggmebgndkpjaaDoor
