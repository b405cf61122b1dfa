/- The contracts of mont.Square, To, From, Choose. -/
import Derived.Test.YtpggmebgndkpjaaDoorMont
import Derived.Test.YtpggmebgndkpjaaDoorLimb
namespace Go.Proofs.YtpggmebgndkpjaaDoor
set_option linter.all false
open Go.RowKit

theorem rsq_lt4 (s : Bool) : rsq s < R4 := by have := rsq_lt s; have := pr_lt s; omega
theorem mul_fits {s : Bool} {a b : Nat} (ha : a < R4) (hb : b < pr s) : a * b < R4 * pr s :=
  Nat.lt_of_le_of_lt (Nat.mul_le_mul_left a (Nat.le_of_lt hb)) (Nat.mul_lt_mul_of_pos_right ha (pr_pos s))

set_option maxRecDepth 100000 in
set_option maxHeartbeats 2000000 in
theorem montTo_c (s : Bool) (a : Nat) (ha : a < R4) (w : World) :
    Calls Tryd.prog 91 #[fieldV s, vec a] w fun e w' => e = .returned (vec (mm s a (rsq s))) ∧ Below w.heap.size w w' := by
  have hab := mul_fits ha (rsq_lt s)
  have h4 := rsq_lt4 s
  go_enter Tryd.func91, Tryd.ntmps91
  go_wp2_with fail
  refine Calls.mono (montMul_c s a (rsq s) ha h4 hab _) ?_
  rintro _ w1 ⟨rfl, h1⟩
  obtain ⟨c1, f1, s1⟩ := bfacts h1
  try simp only [World.size_alloc, World.size_setCell, size_drew, size_drewN] at s1
  have l_w_w1_0 : w.heap.size < w1.heap.size := by omega
  have l_w_w1_1 : w.heap.size + 1 < w1.heap.size := by omega
  have l_w_w1_2 : w.heap.size + 1 + 1 < w1.heap.size := by omega
  go_wp2_with fail
  refine bodyPost_ret (v := vec (mm s a (rsq s))) (by simp only [results, Tryd.results91]; go_simp) rfl ⟨rfl, ?_⟩
  repeat first
    | with_reducible exact Below.refl _ _
    | with_reducible refine Below.drew ?_
    | with_reducible refine below_dN ?_
    | with_reducible refine Below.alloc ?_ (by first | omega | (simp; done) | (simp; omega)) _
    | with_reducible refine Below.setCell ?_ (by first | omega | (simp; done) | (simp; omega)) _
    | with_reducible refine Below.trans ?_ (Below.mono (by assumption) (by first | omega | (simp; done) | (simp; omega)))

end Go.Proofs.YtpggmebgndkpjaaDoor
