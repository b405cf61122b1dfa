/- The contract of mont.Add. -/
import Derived.Test.YtpebojiijgkadaaDoorMontSub
namespace Go.Proofs.YtpebojiijgkadaaDoor
set_option linter.all false
open Go.RowKit

set_option maxRecDepth 100000 in
set_option maxHeartbeats 2000000 in
theorem montAdd_c (s : Bool) (a b : Nat) (ha : a < pr s) (hb : b < pr s) (w : World) :
    Calls Tryd.prog 18 #[fieldV s, vec a, vec b] w fun e w' => e = .returned (vec (addm (pr s) a b)) ∧ Below w.heap.size w w' := by
  have Hp := Lib.hid (pr_lt s)
  have ha4 : a < R4 := by have := Hp.out; omega
  have hb4 : b < R4 := by have := Hp.out; omega
  rw [← rdc_add Hp.out ha hb]
  clear ha hb
  go_enter Tryd.func18, Tryd.ntmps18
  go_wp2_with fail
  refine Calls.mono (limbAdd_c a b ha4 hb4 _) ?_
  rintro _ w1 ⟨rfl, h1⟩
  obtain ⟨c1, f1, s1⟩ := bfacts h1
  try simp only [World.size_alloc, World.size_setCell, size_drew, size_drewN] at s1
  have l_w_w1_0 : w.heap.size < w1.heap.size := by omega
  have l_w_w1_1 : w.heap.size + 1 < w1.heap.size := by omega
  have l_w_w1_2 : w.heap.size + 1 + 1 < w1.heap.size := by omega
  have l_w_w1_3 : w.heap.size + 1 + 1 + 1 < w1.heap.size := by omega
  go_wp2_with fail
  refine Calls.mono (subtract_c s (addV a b) (addC a b) (addV_lt a b) (addC_lt ha4 hb4) _) ?_
  rintro _ w2 ⟨rfl, h2⟩
  obtain ⟨c2, f2, s2⟩ := bfacts h2
  try simp only [World.size_alloc, World.size_setCell, size_drew, size_drewN] at s2
  have l_w_w2_0 : w.heap.size < w2.heap.size := by omega
  have l_w_w2_1 : w.heap.size + 1 < w2.heap.size := by omega
  have l_w_w2_2 : w.heap.size + 1 + 1 < w2.heap.size := by omega
  have l_w_w2_3 : w.heap.size + 1 + 1 + 1 < w2.heap.size := by omega
  go_wp2_with fail
  refine bodyPost_ret (v := vec (rdc (pr s) (addV a b) (addC a b))) (by simp only [results, Tryd.results18]; go_simp) rfl ⟨rfl, ?_⟩
  repeat first
    | with_reducible exact Below.refl _ _
    | with_reducible refine Below.drew ?_
    | with_reducible refine below_dN ?_
    | with_reducible refine Below.alloc ?_ (by first | omega | (simp; done) | (simp; omega)) _
    | with_reducible refine Below.setCell ?_ (by first | omega | (simp; done) | (simp; omega)) _
    | with_reducible refine Below.trans ?_ (Below.mono (by assumption) (by first | omega | (simp; done) | (simp; omega)))
end Go.Proofs.YtpebojiijgkadaaDoor
