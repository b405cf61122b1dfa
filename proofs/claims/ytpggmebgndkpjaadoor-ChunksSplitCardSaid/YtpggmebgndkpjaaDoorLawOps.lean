/- The operations on Montgomery forms, as contracts over values. -/
import Derived.Test.YtpggmebgndkpjaaDoorLawAdds
namespace Go.Proofs.YtpggmebgndkpjaaDoor
set_option linter.all false
open Go.RowKit

theorem mulm_comm (p x y : Nat) : mulm p y x = mulm p x y := by unfold mulm; rw [Nat.mul_comm]
theorem mulm_assoc (p x y z : Nat) : mulm p x (mulm p y z) = mulm p (mulm p x y) z := by
  unfold mulm; rw [Nat.mod_mul_mod, Nat.mul_mod_mod]; congr 1; ac_rfl
theorem mulm_addm (p x y z : Nat) : addm p (mulm p x y) (mulm p x z) = mulm p x (addm p y z) := by
  unfold mulm addm; rw [← Nat.add_mod, Nat.mod_mul_mod, ← Nat.add_mul]
theorem mulm_one {p x : Nat} (hx : x < p) : mulm p x 1 = x := by unfold mulm; rw [Nat.one_mul, Nat.mod_eq_of_lt hx]
theorem add_neg {p x : Nat} (hx : x < p) : addm p x (subm p 0 x) = 0 := by
  unfold addm subm
  by_cases h : x = 0
  · subst h; simp
  · rw [Nat.mod_eq_of_lt (show 0 + p - x < p by omega), show x + (0 + p - x) = p by omega, Nat.mod_self]

theorem mulR_c (s : Bool) (x y : Nat) (w : World) : Calls Tryd.prog 114 #[fieldV s, vec (RR s x), vec (RR s y)] w fun e w' => e = .returned (vec (RR s (mulm (pr s) x y))) ∧ Below w.heap.size w w' := by
  have h := montMul_c s (RR s x) (RR s y) (RR_lt4 s _) (RR_lt4 s _) (RR_fit s _ _) w
  rwa [mm_RR] at h
theorem toR_c (s : Bool) (a : Nat) (ha : a < R4) (w : World) : Calls Tryd.prog 91 #[fieldV s, vec a] w fun e w' => e = .returned (vec (RR s (mulm (pr s) 1 a))) ∧ Below w.heap.size w w' := by
  have h := montTo_c s a ha w
  rwa [to_RR] at h
theorem fromR_c (s : Bool) (x : Nat) (hx : x < pr s) (w : World) : Calls Tryd.prog 112 #[fieldV s, vec (RR s x)] w fun e w' => e = .returned (vec x) ∧ Below w.heap.size w w' := by
  have h := montFrom_c s (RR s x) (RR_lt4 s _) w
  rwa [from_RR s hx] at h
theorem oneR_c (s : Bool) (x : Nat) (hx : x < pr s) (w : World) : Calls Tryd.prog 114 #[fieldV s, vec (RR s x), vec (rone s)] w fun e w' => e = .returned (vec (RR s x)) ∧ Below w.heap.size w w' := by
  have h := mulR_c s x 1 w
  rwa [RR_one, mulm_one hx] at h
end Go.Proofs.YtpggmebgndkpjaaDoor
