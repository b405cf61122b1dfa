/- The contract of the reference's Sub modulo p. -/
import Derived.Test.YtpebojiijgkadaaDoorRefOps
namespace Go.Proofs.YtpebojiijgkadaaDoor
set_option linter.all false
open Go.RowKit

set_option maxRecDepth 100000 in
set_option maxHeartbeats 4000000 in
theorem refSub_c (p a b : Nat) (hp : p < R4) (ha : a < p) (hb : b < p) (w : World) :
    Calls Tryd.prog 21 #[vec p, vec a, vec b] w fun e w' => e = .returned (vec (subm p a b)) ∧ Below w.heap.size w w' := by
  have ha4 : a < R4 := by omega
  have hb4 : b < R4 := by omega
  by_cases h : a < b
  · rw [← sub_borrow hp ha hb h]
    have e1 : subC a b = 1 := if_pos h
    clear ha hb h
    go_enter Tryd.func21, Tryd.ntmps21
    go_wp2_with fail
    refine Calls.mono (refsub_c a b ha4 hb4 _) ?_
    rintro _ w1 ⟨rfl, h1⟩
    obtain ⟨c1, f1, s1⟩ := bfacts h1
    try simp only [World.size_alloc, World.size_setCell, size_drew, size_drewN] at s1
    rw [e1]
    have l_w_w1_0 : w.heap.size < w1.heap.size := by omega
    have l_w_w1_1 : w.heap.size + 1 < w1.heap.size := by omega
    have l_w_w1_2 : w.heap.size + 1 + 1 < w1.heap.size := by omega
    have l_w_w1_3 : w.heap.size + 1 + 1 + 1 < w1.heap.size := by omega
    go_wp2_with fail
    refine Calls.mono (refSum_c (subV a b) p (subV_lt a b) hp _) ?_
    rintro _ w2 ⟨rfl, h2⟩
    obtain ⟨c2, f2, s2⟩ := bfacts h2
    try simp only [World.size_alloc, World.size_setCell, size_drew, size_drewN] at s2
    have l_w_w2_0 : w.heap.size < w2.heap.size := by omega
    have l_w_w2_1 : w.heap.size + 1 < w2.heap.size := by omega
    have l_w_w2_2 : w.heap.size + 1 + 1 < w2.heap.size := by omega
    have l_w_w2_3 : w.heap.size + 1 + 1 + 1 < w2.heap.size := by omega
    go_wp2_with fail
    refine bodyPost_ret (v := vec (addV (subV a b) p)) (by simp only [results, Tryd.results21]; go_simp) rfl ⟨rfl, ?_⟩
    repeat first
      | with_reducible exact Below.refl _ _
      | with_reducible refine Below.drew ?_
      | with_reducible refine below_dN ?_
      | with_reducible refine Below.alloc ?_ (by first | omega | (simp; done) | (simp; omega)) _
      | with_reducible refine Below.setCell ?_ (by first | omega | (simp; done) | (simp; omega)) _
      | with_reducible refine Below.trans ?_ (Below.mono (by assumption) (by first | omega | (simp; done) | (simp; omega)))
  · rw [← sub_plain hp ha h]
    have e1 : subC a b = 0 := if_neg h
    clear ha hb h
    go_enter Tryd.func21, Tryd.ntmps21
    go_wp2_with fail
    refine Calls.mono (refsub_c a b ha4 hb4 _) ?_
    rintro _ w1 ⟨rfl, h1⟩
    obtain ⟨c1, f1, s1⟩ := bfacts h1
    try simp only [World.size_alloc, World.size_setCell, size_drew, size_drewN] at s1
    rw [e1]
    have l_w_w1_0 : w.heap.size < w1.heap.size := by omega
    have l_w_w1_1 : w.heap.size + 1 < w1.heap.size := by omega
    have l_w_w1_2 : w.heap.size + 1 + 1 < w1.heap.size := by omega
    have l_w_w1_3 : w.heap.size + 1 + 1 + 1 < w1.heap.size := by omega
    go_wp2_with fail
    refine bodyPost_ret (v := vec (subV a b)) (by simp only [results, Tryd.results21]; go_simp) rfl ⟨rfl, ?_⟩
    repeat first
      | with_reducible exact Below.refl _ _
      | with_reducible refine Below.drew ?_
      | with_reducible refine below_dN ?_
      | with_reducible refine Below.alloc ?_ (by first | omega | (simp; done) | (simp; omega)) _
      | with_reducible refine Below.setCell ?_ (by first | omega | (simp; done) | (simp; omega)) _
      | with_reducible refine Below.trans ?_ (Below.mono (by assumption) (by first | omega | (simp; done) | (simp; omega)))
end Go.Proofs.YtpebojiijgkadaaDoor
