/- The plain law of chapter 5: the elements of sums, differences and products. No program in sight. -/
import Derived.Test.YtpggmebgndkpjaaDoorMontNeg
import Derived.Test.YtpggmebgndkpjaaDoorMontAdd
import Derived.Test.YtpggmebgndkpjaaDoorMontZero
import Derived.Test.YtpggmebgndkpjaaDoorLawForm
namespace Go.Proofs.YtpggmebgndkpjaaDoor
set_option linter.all false
open Go.RowKit

/-- The Montgomery form of a value. -/
def RR (s : Bool) (x : Nat) : Nat := mulm (pr s) (R4 % pr s) x
theorem RR_eq (s : Bool) (x : Nat) : RR s x = x * R4 % pr s := by unfold RR mulm; rw [Nat.mul_mod_mod]
theorem RR_lt (s : Bool) (x : Nat) : RR s x < pr s := by rw [RR_eq]; exact Nat.mod_lt _ (pr_pos s)
theorem RR_lt4 (s : Bool) (x : Nat) : RR s x < R4 := Nat.lt_trans (RR_lt s x) (pr_lt s)
theorem RR_fit (s : Bool) (x y : Nat) : RR s x * RR s y < R4 * pr s := mul_fits (RR_lt4 s x) (RR_lt s y)
theorem RR_zero (s : Bool) : RR s 0 = 0 := by rw [RR_eq]; simp
theorem RR_one (s : Bool) : RR s 1 = rone s := by cases s <;> decide
theorem add_RR (s : Bool) (x y : Nat) : addm (pr s) (RR s x) (RR s y) = RR s (addm (pr s) x y) := by
  rw [RR_eq, RR_eq, RR_eq]; unfold addm
  rw [← Nat.add_mod, Nat.mod_mul_mod, ← Nat.add_mul]
theorem addm_le {p : Nat} (hp : 0 < p) (a b : Nat) : addm p a b < p := Nat.mod_lt _ hp
theorem subm_le {p : Nat} (hp : 0 < p) (a b : Nat) : subm p a b < p := Nat.mod_lt _ hp
theorem subm_unique {p u v w : Nat} (hw : w < p) (hv : v < p) (h : (w + v) % p = u) : subm p u v = w := by
  unfold subm
  by_cases c : w + v < p
  · rw [Nat.mod_eq_of_lt c] at h
    rw [← h, show w + v + p - v = w + p by omega, Nat.add_mod_right, Nat.mod_eq_of_lt hw]
  · rw [Nat.mod_eq_sub_mod (by omega), Nat.mod_eq_of_lt (by omega)] at h
    rw [← h, show w + v - p + p - v = w by omega, Nat.mod_eq_of_lt hw]
theorem add_subm {p x y : Nat} (hx : x < p) (hy : y < p) : addm p (subm p x y) y = x := by
  unfold addm subm
  rw [Nat.mod_add_mod, show x + p - y + y = x + p by omega, Nat.add_mod_right, Nat.mod_eq_of_lt hx]
theorem sub_RR (s : Bool) {x y : Nat} (hx : x < pr s) (hy : y < pr s) : subm (pr s) (RR s x) (RR s y) = RR s (subm (pr s) x y) := by
  refine subm_unique (RR_lt s _) (RR_lt s _) ?_
  have := add_RR s (subm (pr s) x y) y
  rw [add_subm hx hy] at this
  exact this
theorem neg_RR (s : Bool) {x : Nat} (hx : x < pr s) : subm (pr s) 0 (RR s x) = RR s (subm (pr s) 0 x) := by
  have := sub_RR s (pr_pos s) hx
  rwa [RR_zero] at this
theorem inv_mul (s : Bool) (n : Nat) : n * (R4 * rinv s) % pr s = n % pr s := by
  rw [Nat.mul_mod, rinv_ok, Nat.mul_mod_mod, Nat.mod_mul_mod, Nat.mul_one]
theorem mm_RR (s : Bool) (x y : Nat) : mm s (RR s x) (RR s y) = RR s (mulm (pr s) x y) := by
  rw [RR_eq, RR_eq, RR_eq]; unfold mm mulm
  rw [Nat.mod_mul_mod, Nat.mul_assoc, Nat.mod_mul_mod, Nat.mul_comm (y * R4 % pr s), ← Nat.mul_assoc, Nat.mul_mod_mod, ← inv_mul s (y * x * R4)]
  generalize rinv s = r
  generalize R4 = q
  congr 1
  ac_rfl
theorem rsq_ok (s : Bool) : rsq s = R4 * R4 % pr s := by cases s <;> decide
theorem to_RR (s : Bool) (a : Nat) : mm s a (rsq s) = RR s (mulm (pr s) 1 a) := by
  rw [RR_eq, rsq_ok]; unfold mm mulm
  rw [Nat.mul_one, Nat.mod_mul_mod, Nat.mul_comm a, Nat.mul_assoc, Nat.mod_mul_mod, ← inv_mul s (a * R4)]
  generalize rinv s = r
  generalize R4 = q
  congr 1
  ac_rfl
theorem from_RR (s : Bool) {x : Nat} (hx : x < pr s) : mm s (RR s x) 1 = x := by
  rw [RR_eq]; unfold mm
  rw [Nat.mul_one, Nat.mod_mul_mod, Nat.mul_assoc, inv_mul, Nat.mod_eq_of_lt hx]
theorem mulm_red {p x : Nat} (hx : x < p) : mulm p 1 x = x := by unfold mulm; rw [Nat.mul_one, Nat.mod_eq_of_lt hx]
theorem red_lt (s : Bool) (a : Nat) : mulm (pr s) 1 a < pr s := mulm_lt (pr_pos s) _ _
end Go.Proofs.YtpggmebgndkpjaaDoor
