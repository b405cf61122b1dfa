/- The contracts of mont.From and mont.Sub. -/
import Derived.Test.YtpebojiijgkadaaDoorMontEasy
import Derived.Test.YtpebojiijgkadaaDoorRefOps
namespace Go.Proofs.YtpebojiijgkadaaDoor
set_option linter.all false
open Go.RowKit

theorem one_fits {s : Bool} {a : Nat} (ha : a < R4) : a * 1 < R4 * pr s := mul_fits ha (show 1 < pr s by cases s <;> decide)

set_option maxRecDepth 100000 in
set_option maxHeartbeats 2000000 in
theorem montFrom_c (s : Bool) (a : Nat) (ha : a < R4) (w : World) :
    Calls Tryd.prog 24 #[fieldV s, vec a] w fun e w' => e = .returned (vec (mm s a 1)) ∧ Below w.heap.size w w' := by
  have hab := one_fits (s := s) ha
  go_enter Tryd.func24, Tryd.ntmps24
  go_wp2_with fail
  refine Calls.mono (montMul_c s a 1 ha (by decide) hab _) ?_
  rintro _ w1 ⟨rfl, h1⟩
  obtain ⟨c1, f1, s1⟩ := bfacts h1
  try simp only [World.size_alloc, World.size_setCell, size_drew, size_drewN] at s1
  have l_w_w1_0 : w.heap.size < w1.heap.size := by omega
  have l_w_w1_1 : w.heap.size + 1 < w1.heap.size := by omega
  have l_w_w1_2 : w.heap.size + 1 + 1 < w1.heap.size := by omega
  go_wp2_with fail
  refine bodyPost_ret (v := vec (mm s a 1)) (by simp only [results, Tryd.results24]; go_simp) rfl ⟨rfl, ?_⟩
  repeat first
    | with_reducible exact Below.refl _ _
    | with_reducible refine Below.drew ?_
    | with_reducible refine below_dN ?_
    | with_reducible refine Below.alloc ?_ (by first | omega | (simp; done) | (simp; omega)) _
    | with_reducible refine Below.setCell ?_ (by first | omega | (simp; done) | (simp; omega)) _
    | with_reducible refine Below.trans ?_ (Below.mono (by assumption) (by first | omega | (simp; done) | (simp; omega)))

theorem sel_sub {p a b : Nat} (hp : p < R4) (ha : a < p) (hb : b < p) : sel (mb (subC a b)) (addV (subV a b) p) (subV a b) = subm p a b := by
  by_cases h : a < b
  · have e : subC a b = 1 := if_pos h
    rw [e, sub_borrow hp ha hb h]; rfl
  · have e : subC a b = 0 := if_neg h
    rw [e, sub_plain hp ha h]; rfl

set_option maxRecDepth 100000 in
set_option maxHeartbeats 2000000 in
theorem montSub_c (s : Bool) (a b : Nat) (ha : a < pr s) (hb : b < pr s) (w : World) :
    Calls Tryd.prog 20 #[fieldV s, vec a, vec b] w fun e w' => e = .returned (vec (subm (pr s) a b)) ∧ Below w.heap.size w w' := by
  have Hp := Lib.hid (pr_lt s)
  have ha4 : a < R4 := by have := Hp.out; omega
  have hb4 : b < R4 := by have := Hp.out; omega
  rw [← sel_sub Hp.out ha hb]
  clear ha hb
  go_enter Tryd.func20, Tryd.ntmps20
  go_wp2_with fail
  refine Calls.mono (limbSub_c a b ha4 hb4 _) ?_
  rintro _ w1 ⟨rfl, h1⟩
  obtain ⟨c1, f1, s1⟩ := bfacts h1
  try simp only [World.size_alloc, World.size_setCell, size_drew, size_drewN] at s1
  have l_w_w1_0 : w.heap.size < w1.heap.size := by omega
  have l_w_w1_1 : w.heap.size + 1 < w1.heap.size := by omega
  have l_w_w1_2 : w.heap.size + 1 + 1 < w1.heap.size := by omega
  have l_w_w1_3 : w.heap.size + 1 + 1 + 1 < w1.heap.size := by omega
  go_wp2_with fail
  refine Calls.mono (limbAdd_c (subV a b) (pr s) (subV_lt a b) Hp.out _) ?_
  rintro _ w2 ⟨rfl, h2⟩
  obtain ⟨c2, f2, s2⟩ := bfacts h2
  try simp only [World.size_alloc, World.size_setCell, size_drew, size_drewN] at s2
  have l_w_w2_0 : w.heap.size < w2.heap.size := by omega
  have l_w_w2_1 : w.heap.size + 1 < w2.heap.size := by omega
  have l_w_w2_2 : w.heap.size + 1 + 1 < w2.heap.size := by omega
  have l_w_w2_3 : w.heap.size + 1 + 1 + 1 < w2.heap.size := by omega
  have l_w1_w2_0 : w1.heap.size < w2.heap.size := by omega
  go_wp2_with fail
  refine region_mix 5 [false, false, false, false, false] (fun w' => Below (w2.heap.size + 1) _ w') (by kernel_rfl) (by kernel_rfl) (by intro _ _ d _ _ h; cases d <;> exact h) below_drew ?_
  simp only [List.take_succ_cons, List.take_zero, List.drop_succ_cons, List.drop_zero]
  with_reducible refine mix_v ?_ ?_ ?_
  · rfl
  · rfl
  apply Exists.intro
  refine ⟨fun w' hC => ?_, ?_⟩
  · have hcell := below_cells hC
    clear hC
    go_simp
    rfl
  try simp only [Act.put, List.setIfInBounds_toArray, List.set_cons_zero, List.set_cons_succ, List.tail_cons]
  with_reducible refine mix_c ?_ ?_ ?_
  · rfl
  · rfl
  apply Exists.intro
  apply Exists.intro
  apply Exists.intro
  refine ⟨fun w' hC => ?_, fun w' hC => ?_, ?_⟩
  · have hcell := below_cells hC
    clear hC
    go_simp
    exact ⟨rfl, rfl⟩
  · exact below_of hC (by simp) (still_below (fromBit_c _ (subC_lt a b) _))
  try simp only [Act.put, List.setIfInBounds_toArray, List.set_cons_zero, List.set_cons_succ, List.tail_cons]
  with_reducible refine mix_v ?_ ?_ ?_
  · rfl
  · rfl
  apply Exists.intro
  refine ⟨fun w' hC => ?_, ?_⟩
  · have hcell := below_cells hC
    clear hC
    go_simp
    rfl
  try simp only [Act.put, List.setIfInBounds_toArray, List.set_cons_zero, List.set_cons_succ, List.tail_cons]
  with_reducible refine mix_v ?_ ?_ ?_
  · rfl
  · rfl
  apply Exists.intro
  refine ⟨fun w' hC => ?_, ?_⟩
  · have hcell := below_cells hC
    clear hC
    go_simp
    rfl
  try simp only [Act.put, List.setIfInBounds_toArray, List.set_cons_zero, List.set_cons_succ, List.tail_cons]
  with_reducible refine mix_c ?_ ?_ ?_
  · rfl
  · rfl
  apply Exists.intro
  apply Exists.intro
  apply Exists.intro
  refine ⟨fun w' hC => ?_, fun w' hC => ?_, ?_⟩
  · have hcell := below_cells hC
    clear hC
    go_simp
    exact ⟨rfl, rfl⟩
  · exact below_of hC (by simp) (limbChoose_c _ (addV (subV a b) (pr s)) (subV a b) (mb_lt _) (addV_lt _ _) (subV_lt _ _) _)
  try simp only [Act.put, List.setIfInBounds_toArray, List.set_cons_zero, List.set_cons_succ, List.tail_cons]
  refine mix_nil ?_
  intro w3 h3
  obtain ⟨c3, f3, s3⟩ := bfactsB h3
  try simp only [World.size_alloc, World.size_setCell, size_drew, size_drewN] at s3
  go_wp2_with fail
  refine bodyPost_ret (v := vec (sel (mb (subC a b)) (addV (subV a b) (pr s)) (subV a b))) (by simp only [results, Tryd.results20]; go_simp) rfl ⟨rfl, ?_⟩
  repeat first
    | with_reducible exact Below.refl _ _
    | with_reducible refine Below.drew ?_
    | with_reducible refine below_dN ?_
    | with_reducible refine Below.alloc ?_ (by first | omega | (simp; done) | (simp; omega)) _
    | with_reducible refine Below.setCell ?_ (by first | omega | (simp; done) | (simp; omega)) _
    | with_reducible refine Below.trans ?_ (Below.mono (by assumption) (by first | omega | (simp; done) | (simp; omega)))
end Go.Proofs.YtpebojiijgkadaaDoor
