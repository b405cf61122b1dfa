/- The operations on Montgomery forms, as contracts over values. -/
import Derived.Test.YtpebojiijgkadaaDoorLawAdds
namespace Go.Proofs.YtpebojiijgkadaaDoor
set_option linter.all false
open Go.RowKit

theorem mulm_comm (p x y : Nat) : mulm p y x = mulm p x y := by unfold mulm; rw [Nat.mul_comm]
theorem mulm_assoc (p x y z : Nat) : mulm p x (mulm p y z) = mulm p (mulm p x y) z := by
  unfold mulm; rw [Nat.mod_mul_mod, Nat.mul_mod_mod]; congr 1; ac_rfl
theorem mulm_addm (p x y z : Nat) : addm p (mulm p x y) (mulm p x z) = mulm p x (addm p y z) := by
  unfold mulm addm; rw [← Nat.add_mod, Nat.mod_mul_mod, ← Nat.add_mul]
theorem mulm_one {p x : Nat} (hx : x < p) : mulm p x 1 = x := by unfold mulm; rw [Nat.one_mul, Nat.mod_eq_of_lt hx]
theorem add_neg {p x : Nat} (hx : x < p) : addm p x (subm p 0 x) = 0 := by
  unfold addm subm
  by_cases h : x = 0
  · subst h; simp
  · rw [Nat.mod_eq_of_lt (show 0 + p - x < p by omega), show x + (0 + p - x) = p by omega, Nat.mod_self]

theorem mulR_c (s : Bool) (x y : Nat) (w : World) : Calls Tryd.prog 26 #[fieldV s, vec (RR s x), vec (RR s y)] w fun e w' => e = .returned (vec (RR s (mulm (pr s) x y))) ∧ Below w.heap.size w w' := by
  have h := montMul_c s (RR s x) (RR s y) (RR_lt4 s _) (RR_lt4 s _) (RR_fit s _ _) w
  rwa [mm_RR] at h
theorem squareR_c (s : Bool) (x : Nat) (w : World) : Calls Tryd.prog 28 #[fieldV s, vec (RR s x)] w fun e w' => e = .returned (vec (RR s (mulm (pr s) x x))) ∧ Below w.heap.size w w' := by
  have h := montSquare_c s (RR s x) (RR_lt4 s _) (RR_fit s _ _) w
  rwa [mm_RR] at h
theorem addR_c (s : Bool) (x y : Nat) (w : World) : Calls Tryd.prog 18 #[fieldV s, vec (RR s x), vec (RR s y)] w fun e w' => e = .returned (vec (RR s (addm (pr s) x y))) ∧ Below w.heap.size w w' := by
  have h := montAdd_c s (RR s x) (RR s y) (RR_lt s _) (RR_lt s _) w
  rwa [add_RR] at h
theorem subR_c (s : Bool) (x y : Nat) (hx : x < pr s) (hy : y < pr s) (w : World) : Calls Tryd.prog 20 #[fieldV s, vec (RR s x), vec (RR s y)] w fun e w' => e = .returned (vec (RR s (subm (pr s) x y))) ∧ Below w.heap.size w w' := by
  have h := montSub_c s (RR s x) (RR s y) (RR_lt s _) (RR_lt s _) w
  rwa [sub_RR s hx hy] at h
theorem negR_c (s : Bool) (x : Nat) (hx : x < pr s) (w : World) : Calls Tryd.prog 22 #[fieldV s, vec (RR s x)] w fun e w' => e = .returned (vec (RR s (subm (pr s) 0 x))) ∧ Below w.heap.size w w' := by
  have h := montNeg_c s (RR s x) (RR_lt s _) w
  rwa [neg_RR s hx] at h
theorem toR_c (s : Bool) (a : Nat) (ha : a < R4) (w : World) : Calls Tryd.prog 23 #[fieldV s, vec a] w fun e w' => e = .returned (vec (RR s (mulm (pr s) 1 a))) ∧ Below w.heap.size w w' := by
  have h := montTo_c s a ha w
  rwa [to_RR] at h
theorem fromR_c (s : Bool) (x : Nat) (hx : x < pr s) (w : World) : Calls Tryd.prog 24 #[fieldV s, vec (RR s x)] w fun e w' => e = .returned (vec x) ∧ Below w.heap.size w w' := by
  have h := montFrom_c s (RR s x) (RR_lt4 s _) w
  rwa [from_RR s hx] at h
theorem oneR_c (s : Bool) (x : Nat) (hx : x < pr s) (w : World) : Calls Tryd.prog 26 #[fieldV s, vec (RR s x), vec (rone s)] w fun e w' => e = .returned (vec (RR s x)) ∧ Below w.heap.size w w' := by
  have h := mulR_c s x 1 w
  rwa [RR_one, mulm_one hx] at h
theorem containsT_c (s : Bool) (a : Nat) (ha : a < pr s) (w : World) : Calls Tryd.prog 29 #[fieldV s, vec a] w fun e w' => e = .returned (.int .u64 18446744073709551615) ∧ Below w.heap.size w w' := by
  have h := contains_c s a (Nat.lt_trans ha (pr_lt s)) w
  rwa [show ((mb (subC a (pr s)) : Nat) : Int) = 18446744073709551615 by rw [show subC a (pr s) = 1 from if_pos ha]; rfl] at h
theorem containsF_c (s : Bool) (a : Nat) (ha : a < R4) (hn : ¬ a < pr s) (w : World) : Calls Tryd.prog 29 #[fieldV s, vec a] w fun e w' => e = .returned (.int .u64 0) ∧ Below w.heap.size w w' := by
  have h := contains_c s a ha w
  rwa [show ((mb (subC a (pr s)) : Nat) : Int) = 0 by rw [show subC a (pr s) = 0 from if_neg hn]; rfl] at h
end Go.Proofs.YtpebojiijgkadaaDoor
