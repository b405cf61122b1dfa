/- The contracts of law 5's ID and form. The plain law of chapter 5: the elements of sums, differences and products. No program in sight. Equality of arrays of four words. The contract of law 5's pair. The contract of law 5's alive: the examples of the chapter hold. The walk of law 5's MontAdds. The operations on Montgomery forms, as contracts over values. -/
import Derived.Test.YtpggmebgndkpjaaDoorRefs
import Derived.Test.YtpggmebgndkpjaaDoorMonts
import Derived.Test.YtpggmebgndkpjaaDoorLeafs
import Derived.Test.YtpggmebgndkpjaaDoorWalk0
namespace Go.Proofs.YtpggmebgndkpjaaDoor
set_option linter.all false
open Go.RowKit

set_option maxRecDepth 100000 in
theorem lawID_c (s : Bool) (w : World) :
    Calls Tryd.prog 56 #[.bool s] w fun e w' => e = .returned (.int .i64 (fid s)) ∧ w = w' := by
  cases s
  · skip
    go_enter Tryd.func56, Tryd.ntmps56
    go_wp2_with fail
    exact bodyPost_ret (v := .int .i64 1) (by simp only [results, Tryd.results56]; go_simp) rfl ⟨rfl, rfl⟩
  · skip
    go_enter Tryd.func56, Tryd.ntmps56
    go_wp2_with fail
    exact bodyPost_ret (v := .int .i64 2) (by simp only [results, Tryd.results56]; go_simp) rfl ⟨rfl, rfl⟩

end Go.Proofs.YtpggmebgndkpjaaDoor

namespace Go.Proofs.YtpggmebgndkpjaaDoor
set_option linter.all false
open Go.RowKit

/-- The Montgomery form of a value. -/
def RR (s : Bool) (x : Nat) : Nat := mulm (pr s) (R4 % pr s) x
theorem RR_eq (s : Bool) (x : Nat) : RR s x = x * R4 % pr s := by unfold RR mulm; rw [Nat.mul_mod_mod]
theorem RR_lt (s : Bool) (x : Nat) : RR s x < pr s := by rw [RR_eq]; exact Nat.mod_lt _ (pr_pos s)
theorem RR_lt4 (s : Bool) (x : Nat) : RR s x < R4 := Nat.lt_trans (RR_lt s x) (pr_lt s)
theorem RR_fit (s : Bool) (x y : Nat) : RR s x * RR s y < R4 * pr s := mul_fits (RR_lt4 s x) (RR_lt s y)
theorem RR_zero (s : Bool) : RR s 0 = 0 := by rw [RR_eq]; simp
theorem RR_one (s : Bool) : RR s 1 = rone s := by cases s <;> decide
theorem add_RR (s : Bool) (x y : Nat) : addm (pr s) (RR s x) (RR s y) = RR s (addm (pr s) x y) := by
  rw [RR_eq, RR_eq, RR_eq]; unfold addm
  rw [← Nat.add_mod, Nat.mod_mul_mod, ← Nat.add_mul]
theorem addm_le {p : Nat} (hp : 0 < p) (a b : Nat) : addm p a b < p := Nat.mod_lt _ hp
theorem subm_le {p : Nat} (hp : 0 < p) (a b : Nat) : subm p a b < p := Nat.mod_lt _ hp
theorem subm_unique {p u v w : Nat} (hw : w < p) (hv : v < p) (h : (w + v) % p = u) : subm p u v = w := by
  unfold subm
  by_cases c : w + v < p
  · rw [Nat.mod_eq_of_lt c] at h
    rw [← h, show w + v + p - v = w + p by omega, Nat.add_mod_right, Nat.mod_eq_of_lt hw]
  · rw [Nat.mod_eq_sub_mod (by omega), Nat.mod_eq_of_lt (by omega)] at h
    rw [← h, show w + v - p + p - v = w by omega, Nat.mod_eq_of_lt hw]
theorem add_subm {p x y : Nat} (hx : x < p) (hy : y < p) : addm p (subm p x y) y = x := by
  unfold addm subm
  rw [Nat.mod_add_mod, show x + p - y + y = x + p by omega, Nat.add_mod_right, Nat.mod_eq_of_lt hx]
theorem sub_RR (s : Bool) {x y : Nat} (hx : x < pr s) (hy : y < pr s) : subm (pr s) (RR s x) (RR s y) = RR s (subm (pr s) x y) := by
  refine subm_unique (RR_lt s _) (RR_lt s _) ?_
  have := add_RR s (subm (pr s) x y) y
  rw [add_subm hx hy] at this
  exact this
theorem neg_RR (s : Bool) {x : Nat} (hx : x < pr s) : subm (pr s) 0 (RR s x) = RR s (subm (pr s) 0 x) := by
  have := sub_RR s (pr_pos s) hx
  rwa [RR_zero] at this
theorem inv_mul (s : Bool) (n : Nat) : n * (R4 * rinv s) % pr s = n % pr s := by
  rw [Nat.mul_mod, rinv_ok, Nat.mul_mod_mod, Nat.mod_mul_mod, Nat.mul_one]
theorem mm_RR (s : Bool) (x y : Nat) : mm s (RR s x) (RR s y) = RR s (mulm (pr s) x y) := by
  rw [RR_eq, RR_eq, RR_eq]; unfold mm mulm
  rw [Nat.mod_mul_mod, Nat.mul_assoc, Nat.mod_mul_mod, Nat.mul_comm (y * R4 % pr s), ← Nat.mul_assoc, Nat.mul_mod_mod, ← inv_mul s (y * x * R4)]
  generalize rinv s = r
  generalize R4 = q
  congr 1
  ac_rfl
theorem rsq_ok (s : Bool) : rsq s = R4 * R4 % pr s := by cases s <;> decide
theorem to_RR (s : Bool) (a : Nat) : mm s a (rsq s) = RR s (mulm (pr s) 1 a) := by
  rw [RR_eq, rsq_ok]; unfold mm mulm
  rw [Nat.mul_one, Nat.mod_mul_mod, Nat.mul_comm a, Nat.mul_assoc, Nat.mod_mul_mod, ← inv_mul s (a * R4)]
  generalize rinv s = r
  generalize R4 = q
  congr 1
  ac_rfl
theorem from_RR (s : Bool) {x : Nat} (hx : x < pr s) : mm s (RR s x) 1 = x := by
  rw [RR_eq]; unfold mm
  rw [Nat.mul_one, Nat.mod_mul_mod, Nat.mul_assoc, inv_mul, Nat.mod_eq_of_lt hx]
theorem mulm_red {p x : Nat} (hx : x < p) : mulm p 1 x = x := by unfold mulm; rw [Nat.mul_one, Nat.mod_eq_of_lt hx]
theorem red_lt (s : Bool) (a : Nat) : mulm (pr s) 1 a < pr s := mulm_lt (pr_pos s) _ _
end Go.Proofs.YtpggmebgndkpjaaDoor

namespace Go.Proofs.YtpggmebgndkpjaaDoor
set_option linter.all false
open Go Go.RowKit

theorem run_equalIn_four {P : Program} (w : World) (D : Nat) (t e : TypeId) (x0 x1 x2 x3 y0 y1 y2 y3 : Int) (ht : P.underlying t = some (.array 4 e)) (he : P.underlying e = some (.int .u64)) (hz : ∀ w, (sizeOf e).run P w = .ok 1 w)
    (hq : ∀ (a b : Int) w, (Op.equalIn D e (.int .u64 a) (.int .u64 b)).run P w = .ok (a == b) w) :
    (Op.equalIn (D + 1) t (.agg #[.int .u64 x0, .int .u64 x1, .int .u64 x2, .int .u64 x3]) (.agg #[.int .u64 y0, .int .u64 y1, .int .u64 y2, .int .u64 y3])).run P w = .ok (x0 == y0 && x1 == y1 && x2 == y2 && x3 == y3) w := by
  have hp : ∀ (i : Nat) (a b c f : Int) w, i < 4 → (part e #[.int .u64 a, .int .u64 b, .int .u64 c, .int .u64 f] i).run P w = .ok (.int .u64 (match i with | 0 => a | 1 => b | 2 => c | _ => f)) w := by
    intro i a b c f w hi
    have : i = 0 ∨ i = 1 ∨ i = 2 ∨ i = 3 := by omega
    rcases this with rfl | rfl | rfl | rfl <;> simp [part, Sem.run_bind, hz, isAgg, run_underlying he]
  rw [Op.equalIn]
  rw [Sem.run_bind, run_underlying ht]
  simp only [Result.andThen_ok]
  rw [Sem.run_bind, hz]
  simp only [Result.andThen_ok, Std.Legacy.Range.forIn_eq_forIn_range', Std.Legacy.Range.size, Nat.sub_zero, Nat.add_sub_cancel, Nat.div_one, List.range', List.forIn_cons, List.forIn_nil, Nat.mul_one, Nat.zero_add, Nat.reduceAdd]
  simp only [Sem.run_bind, hp 0 _ _ _ _ _ (by omega), hp 1 _ _ _ _ _ (by omega), hp 2 _ _ _ _ _ (by omega), hp 3 _ _ _ _ _ (by omega), Result.andThen_ok, hq]
  generalize hb0 : (x0 == y0) = b0
  generalize hb1 : (x1 == y1) = b1
  generalize hb2 : (x2 == y2) = b2
  generalize hb3 : (x3 == y3) = b3
  cases b0 <;> cases b1 <;> cases b2 <;> cases b3 <;> simp [Sem.run_bind, hp 1 _ _ _ _ _ (by omega), hp 2 _ _ _ _ _ (by omega), hp 3 _ _ _ _ _ (by omega), hq, hb1, hb2, hb3]

theorem size_u64 (w : World) : (sizeOf 43).run Tryd.prog w = .ok 1 w := by kernel_rfl
theorem eq_u64 (a b : Int) (w : World) : (Op.equalIn 9999 43 (.int .u64 a) (.int .u64 b)).run Tryd.prog w = .ok (a == b) w := run_equalIn_int w 9998 43 .u64 .u64 a b Tryd.underlying43
@[go_sem] theorem eqGuardVec : Tryd.prog.eqGuardType Tryd.prog.depth 44 = false := by kernel_rfl
@[go_sem] theorem eqlVec (x0 x1 x2 x3 y0 y1 y2 y3 : Int) (w : World) : (Op.equalIn 10000 44 (.agg #[.int .u64 x0, .int .u64 x1, .int .u64 x2, .int .u64 x3]) (.agg #[.int .u64 y0, .int .u64 y1, .int .u64 y2, .int .u64 y3])).run Tryd.prog w = .ok (x0 == y0 && x1 == y1 && x2 == y2 && x3 == y3) w :=
  run_equalIn_four w 9999 44 43 x0 x1 x2 x3 y0 y1 y2 y3 Tryd.underlying44 Tryd.underlying43 size_u64 eq_u64
@[go_sem] theorem eqGuardElem : Tryd.prog.eqGuardType Tryd.prog.depth 45 = false := by kernel_rfl
@[go_sem] theorem eqlElem (x0 x1 x2 x3 y0 y1 y2 y3 : Int) (w : World) : (Op.equalIn 10000 45 (.agg #[.int .u64 x0, .int .u64 x1, .int .u64 x2, .int .u64 x3]) (.agg #[.int .u64 y0, .int .u64 y1, .int .u64 y2, .int .u64 y3])).run Tryd.prog w = .ok (x0 == y0 && x1 == y1 && x2 == y2 && x3 == y3) w :=
  run_equalIn_four w 9999 45 43 x0 x1 x2 x3 y0 y1 y2 y3 Tryd.underlying45 Tryd.underlying43 size_u64 eq_u64
end Go.Proofs.YtpggmebgndkpjaaDoor

namespace Go.Proofs.YtpggmebgndkpjaaDoor
set_option linter.all false
open Go.RowKit

theorem pr_gt1 (s : Bool) : 1 < pr s := by cases s <;> decide

end Go.Proofs.YtpggmebgndkpjaaDoor

namespace Go.Proofs.YtpggmebgndkpjaaDoor
set_option linter.all false
open Go.RowKit

abbrev lit4 (a b c d : Nat) : Value := .agg #[.int .u64 (a : Int), .int .u64 (b : Int), .int .u64 (c : Int), .int .u64 (d : Int)]
theorem vec_of {n a b c d : Nat} (h0 : dg 0 n = a) (h1 : dg 1 n = b) (h2 : dg 2 n = c) (h3 : dg 3 n = d) : vec n = lit4 a b c d := by subst h0 h1 h2 h3; rfl
theorem v1 : vec 1 = .agg #[.int .u64 1, .int .u64 0, .int .u64 0, .int .u64 0] := vec_of (a := 1) (b := 0) (c := 0) (d := 0) (by decide) (by decide) (by decide) (by decide)
theorem v2 : vec 2 = .agg #[.int .u64 2, .int .u64 0, .int .u64 0, .int .u64 0] := vec_of (a := 2) (b := 0) (c := 0) (d := 0) (by decide) (by decide) (by decide) (by decide)
theorem v38 : vec 38 = .agg #[.int .u64 38, .int .u64 0, .int .u64 0, .int .u64 0] := vec_of (a := 38) (b := 0) (c := 0) (d := 0) (by decide) (by decide) (by decide) (by decide)
theorem to1 (w : World) : Calls Tryd.prog 91 #[fieldV false, .agg #[.int .u64 1, .int .u64 0, .int .u64 0, .int .u64 0]] w fun e w' => e = .returned (.agg #[.int .u64 38, .int .u64 0, .int .u64 0, .int .u64 0]) ∧ Below w.heap.size w w' := by
  have h := montTo_c false 1 (by decide) w
  rwa [show mm false 1 (rsq false) = 38 by decide, v1, v38] at h
theorem to2 (w : World) : Calls Tryd.prog 91 #[fieldV false, .agg #[.int .u64 2, .int .u64 0, .int .u64 0, .int .u64 0]] w fun e w' => e = .returned (vec 76) ∧ Below w.heap.size w w' := by
  have h := montTo_c false 2 (by decide) w
  rwa [show mm false 2 (rsq false) = 76 by decide, v2] at h
theorem from38 (w : World) : Calls Tryd.prog 112 #[fieldV false, .agg #[.int .u64 38, .int .u64 0, .int .u64 0, .int .u64 0]] w fun e w' => e = .returned (.agg #[.int .u64 1, .int .u64 0, .int .u64 0, .int .u64 0]) ∧ Below w.heap.size w w' := by
  have h := montFrom_c false 38 (by decide) w
  rwa [show mm false 38 1 = 1 by decide, v1, v38] at h
end Go.Proofs.YtpggmebgndkpjaaDoor

namespace Go.Proofs.YtpggmebgndkpjaaDoor
set_option linter.all false
open Go.RowKit

end Go.Proofs.YtpggmebgndkpjaaDoor

namespace Go.Proofs.YtpggmebgndkpjaaDoor
set_option linter.all false
open Go.RowKit

theorem mulm_comm (p x y : Nat) : mulm p y x = mulm p x y := by unfold mulm; rw [Nat.mul_comm]
theorem mulm_assoc (p x y z : Nat) : mulm p x (mulm p y z) = mulm p (mulm p x y) z := by
  unfold mulm; rw [Nat.mod_mul_mod, Nat.mul_mod_mod]; congr 1; ac_rfl
theorem mulm_addm (p x y z : Nat) : addm p (mulm p x y) (mulm p x z) = mulm p x (addm p y z) := by
  unfold mulm addm; rw [← Nat.add_mod, Nat.mod_mul_mod, ← Nat.add_mul]
theorem mulm_one {p x : Nat} (hx : x < p) : mulm p x 1 = x := by unfold mulm; rw [Nat.one_mul, Nat.mod_eq_of_lt hx]
theorem add_neg {p x : Nat} (hx : x < p) : addm p x (subm p 0 x) = 0 := by
  unfold addm subm
  by_cases h : x = 0
  · subst h; simp
  · rw [Nat.mod_eq_of_lt (show 0 + p - x < p by omega), show x + (0 + p - x) = p by omega, Nat.mod_self]

theorem mulR_c (s : Bool) (x y : Nat) (w : World) : Calls Tryd.prog 114 #[fieldV s, vec (RR s x), vec (RR s y)] w fun e w' => e = .returned (vec (RR s (mulm (pr s) x y))) ∧ Below w.heap.size w w' := by
  have h := montMul_c s (RR s x) (RR s y) (RR_lt4 s _) (RR_lt4 s _) (RR_fit s _ _) w
  rwa [mm_RR] at h
theorem toR_c (s : Bool) (a : Nat) (ha : a < R4) (w : World) : Calls Tryd.prog 91 #[fieldV s, vec a] w fun e w' => e = .returned (vec (RR s (mulm (pr s) 1 a))) ∧ Below w.heap.size w w' := by
  have h := montTo_c s a ha w
  rwa [to_RR] at h
theorem fromR_c (s : Bool) (x : Nat) (hx : x < pr s) (w : World) : Calls Tryd.prog 112 #[fieldV s, vec (RR s x)] w fun e w' => e = .returned (vec x) ∧ Below w.heap.size w w' := by
  have h := montFrom_c s (RR s x) (RR_lt4 s _) w
  rwa [from_RR s hx] at h
theorem oneR_c (s : Bool) (x : Nat) (hx : x < pr s) (w : World) : Calls Tryd.prog 114 #[fieldV s, vec (RR s x), vec (rone s)] w fun e w' => e = .returned (vec (RR s x)) ∧ Below w.heap.size w w' := by
  have h := mulR_c s x 1 w
  rwa [RR_one, mulm_one hx] at h
end Go.Proofs.YtpggmebgndkpjaaDoor
