/- The contracts of mont.From and mont.Sub. -/
import Derived.Test.YtpggmebgndkpjaaDoorMontEasy
import Derived.Test.YtpggmebgndkpjaaDoorRefOps
namespace Go.Proofs.YtpggmebgndkpjaaDoor
set_option linter.all false
open Go.RowKit

theorem one_fits {s : Bool} {a : Nat} (ha : a < R4) : a * 1 < R4 * pr s := mul_fits ha (show 1 < pr s by cases s <;> decide)

set_option maxRecDepth 100000 in
set_option maxHeartbeats 2000000 in
theorem montFrom_c (s : Bool) (a : Nat) (ha : a < R4) (w : World) :
    Calls Tryd.prog 112 #[fieldV s, vec a] w fun e w' => e = .returned (vec (mm s a 1)) ∧ Below w.heap.size w w' := by
  have hab := one_fits (s := s) ha
  go_enter Tryd.func112, Tryd.ntmps112
  go_wp2_with fail
  refine Calls.mono (montMul_c s a 1 ha (by decide) hab _) ?_
  rintro _ w1 ⟨rfl, h1⟩
  obtain ⟨c1, f1, s1⟩ := bfacts h1
  try simp only [World.size_alloc, World.size_setCell, size_drew, size_drewN] at s1
  have l_w_w1_0 : w.heap.size < w1.heap.size := by omega
  have l_w_w1_1 : w.heap.size + 1 < w1.heap.size := by omega
  have l_w_w1_2 : w.heap.size + 1 + 1 < w1.heap.size := by omega
  go_wp2_with fail
  refine bodyPost_ret (v := vec (mm s a 1)) (by simp only [results, Tryd.results112]; go_simp) rfl ⟨rfl, ?_⟩
  repeat first
    | with_reducible exact Below.refl _ _
    | with_reducible refine Below.drew ?_
    | with_reducible refine below_dN ?_
    | with_reducible refine Below.alloc ?_ (by first | omega | (simp; done) | (simp; omega)) _
    | with_reducible refine Below.setCell ?_ (by first | omega | (simp; done) | (simp; omega)) _
    | with_reducible refine Below.trans ?_ (Below.mono (by assumption) (by first | omega | (simp; done) | (simp; omega)))

theorem sel_sub {p a b : Nat} (hp : p < R4) (ha : a < p) (hb : b < p) : sel (mb (subC a b)) (addV (subV a b) p) (subV a b) = subm p a b := by
  by_cases h : a < b
  · have e : subC a b = 1 := if_pos h
    rw [e, sub_borrow hp ha hb h]; rfl
  · have e : subC a b = 0 := if_neg h
    rw [e, sub_plain hp ha h]; rfl

end Go.Proofs.YtpggmebgndkpjaaDoor
