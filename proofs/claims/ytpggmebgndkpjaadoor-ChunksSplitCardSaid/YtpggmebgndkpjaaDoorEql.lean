/- Equality of arrays of four words. -/
import Derived.Test.YtpggmebgndkpjaaDoorLeaf
namespace Go.Proofs.YtpggmebgndkpjaaDoor
set_option linter.all false
open Go Go.RowKit

theorem run_equalIn_four {P : Program} (w : World) (D : Nat) (t e : TypeId) (x0 x1 x2 x3 y0 y1 y2 y3 : Int) (ht : P.underlying t = some (.array 4 e)) (he : P.underlying e = some (.int .u64)) (hz : ∀ w, (sizeOf e).run P w = .ok 1 w)
    (hq : ∀ (a b : Int) w, (Op.equalIn D e (.int .u64 a) (.int .u64 b)).run P w = .ok (a == b) w) :
    (Op.equalIn (D + 1) t (.agg #[.int .u64 x0, .int .u64 x1, .int .u64 x2, .int .u64 x3]) (.agg #[.int .u64 y0, .int .u64 y1, .int .u64 y2, .int .u64 y3])).run P w = .ok (x0 == y0 && x1 == y1 && x2 == y2 && x3 == y3) w := by
  have hp : ∀ (i : Nat) (a b c f : Int) w, i < 4 → (part e #[.int .u64 a, .int .u64 b, .int .u64 c, .int .u64 f] i).run P w = .ok (.int .u64 (match i with | 0 => a | 1 => b | 2 => c | _ => f)) w := by
    intro i a b c f w hi
    have : i = 0 ∨ i = 1 ∨ i = 2 ∨ i = 3 := by omega
    rcases this with rfl | rfl | rfl | rfl <;> simp [part, Sem.run_bind, hz, isAgg, run_underlying he]
  rw [Op.equalIn]
  rw [Sem.run_bind, run_underlying ht]
  simp only [Result.andThen_ok]
  rw [Sem.run_bind, hz]
  simp only [Result.andThen_ok, Std.Legacy.Range.forIn_eq_forIn_range', Std.Legacy.Range.size, Nat.sub_zero, Nat.add_sub_cancel, Nat.div_one, List.range', List.forIn_cons, List.forIn_nil, Nat.mul_one, Nat.zero_add, Nat.reduceAdd]
  simp only [Sem.run_bind, hp 0 _ _ _ _ _ (by omega), hp 1 _ _ _ _ _ (by omega), hp 2 _ _ _ _ _ (by omega), hp 3 _ _ _ _ _ (by omega), Result.andThen_ok, hq]
  generalize hb0 : (x0 == y0) = b0
  generalize hb1 : (x1 == y1) = b1
  generalize hb2 : (x2 == y2) = b2
  generalize hb3 : (x3 == y3) = b3
  cases b0 <;> cases b1 <;> cases b2 <;> cases b3 <;> simp [Sem.run_bind, hp 1 _ _ _ _ _ (by omega), hp 2 _ _ _ _ _ (by omega), hp 3 _ _ _ _ _ (by omega), hq, hb1, hb2, hb3]

theorem size_u64 (w : World) : (sizeOf 43).run Tryd.prog w = .ok 1 w := by kernel_rfl
theorem eq_u64 (a b : Int) (w : World) : (Op.equalIn 9999 43 (.int .u64 a) (.int .u64 b)).run Tryd.prog w = .ok (a == b) w := run_equalIn_int w 9998 43 .u64 .u64 a b Tryd.underlying43
@[go_sem] theorem eqGuardVec : Tryd.prog.eqGuardType Tryd.prog.depth 44 = false := by kernel_rfl
@[go_sem] theorem eqlVec (x0 x1 x2 x3 y0 y1 y2 y3 : Int) (w : World) : (Op.equalIn 10000 44 (.agg #[.int .u64 x0, .int .u64 x1, .int .u64 x2, .int .u64 x3]) (.agg #[.int .u64 y0, .int .u64 y1, .int .u64 y2, .int .u64 y3])).run Tryd.prog w = .ok (x0 == y0 && x1 == y1 && x2 == y2 && x3 == y3) w :=
  run_equalIn_four w 9999 44 43 x0 x1 x2 x3 y0 y1 y2 y3 Tryd.underlying44 Tryd.underlying43 size_u64 eq_u64
@[go_sem] theorem eqGuardElem : Tryd.prog.eqGuardType Tryd.prog.depth 45 = false := by kernel_rfl
@[go_sem] theorem eqlElem (x0 x1 x2 x3 y0 y1 y2 y3 : Int) (w : World) : (Op.equalIn 10000 45 (.agg #[.int .u64 x0, .int .u64 x1, .int .u64 x2, .int .u64 x3]) (.agg #[.int .u64 y0, .int .u64 y1, .int .u64 y2, .int .u64 y3])).run Tryd.prog w = .ok (x0 == y0 && x1 == y1 && x2 == y2 && x3 == y3) w :=
  run_equalIn_four w 9999 45 43 x0 x1 x2 x3 y0 y1 y2 y3 Tryd.underlying45 Tryd.underlying43 size_u64 eq_u64
end Go.Proofs.YtpggmebgndkpjaaDoor
