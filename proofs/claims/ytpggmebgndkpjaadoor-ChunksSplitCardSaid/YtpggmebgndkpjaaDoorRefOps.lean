/- Contracts of the reference of layer 4: Subtract, Add, Sub, One. -/
import Derived.Test.YtpggmebgndkpjaaDoorRefSub
namespace Go.Proofs.YtpggmebgndkpjaaDoor
set_option linter.all false
open Go.RowKit

set_option maxRecDepth 100000 in
set_option maxHeartbeats 1000000 in
theorem refOne_c (w : World) :
    Calls Tryd.prog 87 #[] w fun e w' => e = .returned (vec 1) ∧ Below w.heap.size w w' := by
  go_enter Tryd.func87, Tryd.ntmps87
  go_wp2_with fail
  have hv : vec 1 = .agg #[.int .u64 1, .int .u64 0, .int .u64 0, .int .u64 0] := rfl
  rw [hv]
  refine bodyPost_ret (v := .agg #[.int .u64 1, .int .u64 0, .int .u64 0, .int .u64 0]) (by simp only [results, Tryd.results87]; go_simp) rfl ⟨rfl, ?_⟩
  repeat first
    | with_reducible exact Below.refl _ _
    | with_reducible refine Below.drew ?_
    | with_reducible refine below_dN ?_
    | with_reducible refine Below.alloc ?_ (by first | omega | (simp; done) | (simp; omega)) _
    | with_reducible refine Below.setCell ?_ (by first | omega | (simp; done) | (simp; omega)) _
    | with_reducible refine Below.trans ?_ (Below.mono (by assumption) (by first | omega | (simp; done) | (simp; omega)))

set_option maxRecDepth 100000 in
set_option maxHeartbeats 1000000 in
theorem refSubtract_c (m a c : Nat) (hm : m < R4) (ha : a < R4) (w : World) :
    Calls Tryd.prog 121 #[vec m, vec a, .int .u64 (c : Int)] w fun e w' => e = .returned (vec (rdc m a c)) ∧ Below w.heap.size w w' := by
  go_enter Tryd.func121, Tryd.ntmps121
  go_wp2_with fail
  refine Calls.mono (refsub_c a m ha hm _) ?_
  rintro _ w1 ⟨rfl, h1⟩
  obtain ⟨c1, f1, s1⟩ := bfacts h1
  try simp only [World.size_alloc, World.size_setCell, size_drew, size_drewN] at s1
  have l_w_w1_0 : w.heap.size < w1.heap.size := by omega
  have l_w_w1_1 : w.heap.size + 1 < w1.heap.size := by omega
  have l_w_w1_2 : w.heap.size + 1 + 1 < w1.heap.size := by omega
  by_cases h1 : a < m
  · have e1 : subC a m = 1 := if_pos h1
    rw [e1]
    by_cases h2 : c % 2 = 0
    · have E2 := Lib.hid (show vec (rdc m a c) = vec a from congrArg vec (if_pos ⟨h1, h2⟩))
      go_wp2_with fail
      rw [E2.out]
      refine bodyPost_ret (v := vec a) (by simp only [results, Tryd.results121]; go_simp) rfl ⟨rfl, ?_⟩
      repeat first
        | with_reducible exact Below.refl _ _
        | with_reducible refine Below.drew ?_
        | with_reducible refine below_dN ?_
        | with_reducible refine Below.alloc ?_ (by first | omega | (simp; done) | (simp; omega)) _
        | with_reducible refine Below.setCell ?_ (by first | omega | (simp; done) | (simp; omega)) _
        | with_reducible refine Below.trans ?_ (Below.mono (by assumption) (by first | omega | (simp; done) | (simp; omega)))
    · have E2 := Lib.hid (show vec (rdc m a c) = vec (subV a m) from congrArg vec (if_neg (fun e => h2 e.2)))
      go_wp2_with fail
      rw [E2.out]
      refine bodyPost_ret (v := vec (subV a m)) (by simp only [results, Tryd.results121]; go_simp) rfl ⟨rfl, ?_⟩
      repeat first
        | with_reducible exact Below.refl _ _
        | with_reducible refine Below.drew ?_
        | with_reducible refine below_dN ?_
        | with_reducible refine Below.alloc ?_ (by first | omega | (simp; done) | (simp; omega)) _
        | with_reducible refine Below.setCell ?_ (by first | omega | (simp; done) | (simp; omega)) _
        | with_reducible refine Below.trans ?_ (Below.mono (by assumption) (by first | omega | (simp; done) | (simp; omega)))
  · have e1 : subC a m = 0 := if_neg h1
    rw [e1]
    have E2 := Lib.hid (show vec (rdc m a c) = vec (subV a m) from congrArg vec (if_neg (fun e => h1 e.1)))
    by_cases h2 : c % 2 = 0
    · go_wp2_with fail
      rw [E2.out]
      refine bodyPost_ret (v := vec (subV a m)) (by simp only [results, Tryd.results121]; go_simp) rfl ⟨rfl, ?_⟩
      repeat first
        | with_reducible exact Below.refl _ _
        | with_reducible refine Below.drew ?_
        | with_reducible refine below_dN ?_
        | with_reducible refine Below.alloc ?_ (by first | omega | (simp; done) | (simp; omega)) _
        | with_reducible refine Below.setCell ?_ (by first | omega | (simp; done) | (simp; omega)) _
        | with_reducible refine Below.trans ?_ (Below.mono (by assumption) (by first | omega | (simp; done) | (simp; omega)))
    · go_wp2_with fail
      rw [E2.out]
      refine bodyPost_ret (v := vec (subV a m)) (by simp only [results, Tryd.results121]; go_simp) rfl ⟨rfl, ?_⟩
      repeat first
        | with_reducible exact Below.refl _ _
        | with_reducible refine Below.drew ?_
        | with_reducible refine below_dN ?_
        | with_reducible refine Below.alloc ?_ (by first | omega | (simp; done) | (simp; omega)) _
        | with_reducible refine Below.setCell ?_ (by first | omega | (simp; done) | (simp; omega)) _
        | with_reducible refine Below.trans ?_ (Below.mono (by assumption) (by first | omega | (simp; done) | (simp; omega)))

/-- Sum and difference modulo p, of the reference. -/
def addm (p a b : Nat) : Nat := (a + b) % p
def subm (p a b : Nat) : Nat := (a + p - b) % p
theorem addm_lt {p : Nat} (hp : 0 < p) (a b : Nat) : addm p a b < p := Nat.mod_lt _ hp
theorem subm_lt {p : Nat} (hp : 0 < p) (a b : Nat) : subm p a b < p := Nat.mod_lt _ hp
theorem rdc_add {p a b : Nat} (hp : p < R4) (ha : a < p) (hb : b < p) : rdc p (addV a b) (addC a b) = addm p a b := by
  unfold rdc addV addC subV addm
  have h2 : (a + b) / R4 ≤ 1 := by
    have : (a + b) / R4 < 2 := Nat.div_lt_of_lt_mul (by omega)
    omega
  by_cases h3 : a + b < p
  · rw [Nat.mod_eq_of_lt (show a + b < R4 by omega), Nat.div_eq_of_lt (show a + b < R4 by omega), if_pos ⟨h3, rfl⟩, Nat.mod_eq_of_lt h3]
  · have e : (a + b) % p = a + b - p := by rw [Nat.mod_eq_sub_mod (by omega), Nat.mod_eq_of_lt (by omega)]
    rw [e]
    by_cases h4 : a + b < R4
    · rw [Nat.mod_eq_of_lt h4, if_neg (fun x => h3 x.1), Nat.mod_eq_sub_mod (by omega), show a + b + R4 - p - R4 = a + b - p by omega, Nat.mod_eq_of_lt (by omega)]
    · have e5 : (a + b) / R4 = 1 := by
        have := Nat.div_pos (show R4 ≤ a + b by omega) (show 0 < R4 by decide)
        omega
      have e6 : (a + b) % R4 = a + b - R4 := by rw [Nat.mod_eq_sub_mod (by omega), Nat.mod_eq_of_lt (by omega)]
      rw [e5, if_neg (fun x => absurd x.2 (by decide)), e6, show a + b - R4 + R4 - p = a + b - p by omega, Nat.mod_eq_of_lt (by omega)]
theorem sub_borrow {p a b : Nat} (hp : p < R4) (ha : a < p) (hb : b < p) (h : a < b) : addV (subV a b) p = subm p a b := by
  unfold addV subV subm
  rw [Nat.mod_eq_of_lt (show a + R4 - b < R4 by omega), Nat.mod_eq_of_lt (show a + p - b < p by omega), show a + R4 - b + p = (a + p - b) + R4 by omega, Nat.add_mod_right, Nat.mod_eq_of_lt (by omega)]
theorem sub_plain {p a b : Nat} (hp : p < R4) (ha : a < p) (h : ¬ a < b) : subV a b = subm p a b := by
  unfold subV subm
  rw [show a + R4 - b = (a - b) + R4 by omega, Nat.add_mod_right, show a + p - b = (a - b) + p by omega, Nat.add_mod_right, Nat.mod_eq_of_lt (show a - b < R4 by omega), Nat.mod_eq_of_lt (show a - b < p by omega)]

set_option maxRecDepth 100000 in
set_option maxHeartbeats 1000000 in
theorem refAdd_c (p a b : Nat) (hp : p < R4) (ha : a < p) (hb : b < p) (w : World) :
    Calls Tryd.prog 110 #[vec p, vec a, vec b] w fun e w' => e = .returned (vec (addm p a b)) ∧ Below w.heap.size w w' := by
  rw [← rdc_add hp ha hb]
  have ha4 : a < R4 := by omega
  have hb4 : b < R4 := by omega
  clear ha hb
  go_enter Tryd.func110, Tryd.ntmps110
  go_wp2_with fail
  refine Calls.mono (refSum_c a b ha4 hb4 _) ?_
  rintro _ w1 ⟨rfl, h1⟩
  obtain ⟨c1, f1, s1⟩ := bfacts h1
  try simp only [World.size_alloc, World.size_setCell, size_drew, size_drewN] at s1
  have l_w_w1_0 : w.heap.size < w1.heap.size := by omega
  have l_w_w1_1 : w.heap.size + 1 < w1.heap.size := by omega
  have l_w_w1_2 : w.heap.size + 1 + 1 < w1.heap.size := by omega
  have l_w_w1_3 : w.heap.size + 1 + 1 + 1 < w1.heap.size := by omega
  go_wp2_with fail
  refine Calls.mono (refSubtract_c p _ (addC a b) hp (addV_lt a b) _) ?_
  rintro _ w2 ⟨rfl, h2⟩
  obtain ⟨c2, f2, s2⟩ := bfacts h2
  try simp only [World.size_alloc, World.size_setCell, size_drew, size_drewN] at s2
  have l_w_w2_0 : w.heap.size < w2.heap.size := by omega
  have l_w_w2_1 : w.heap.size + 1 < w2.heap.size := by omega
  have l_w_w2_2 : w.heap.size + 1 + 1 < w2.heap.size := by omega
  have l_w_w2_3 : w.heap.size + 1 + 1 + 1 < w2.heap.size := by omega
  go_wp2_with fail
  refine bodyPost_ret (v := vec (rdc p (addV a b) (addC a b))) (by simp only [results, Tryd.results110]; go_simp) rfl ⟨rfl, ?_⟩
  repeat first
    | with_reducible exact Below.refl _ _
    | with_reducible refine Below.drew ?_
    | with_reducible refine below_dN ?_
    | with_reducible refine Below.alloc ?_ (by first | omega | (simp; done) | (simp; omega)) _
    | with_reducible refine Below.setCell ?_ (by first | omega | (simp; done) | (simp; omega)) _
    | with_reducible refine Below.trans ?_ (Below.mono (by assumption) (by first | omega | (simp; done) | (simp; omega)))
end Go.Proofs.YtpggmebgndkpjaaDoor
