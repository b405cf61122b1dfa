/- What a row's proof wants: a vector that came in by value; the listed variable of the fields. -/
import Derived.Test.YtpggmebgndkpjaaDoorRows
import Derived.Test.YtpggmebgndkpjaaDoorLeafs
import Derived.WalkKit
import Derived.ProofKit
import Derived.LaidMore
import Derived.OpenShut
import Derived.ShutString
import Derived.ChangeOld
import Derived.Below
namespace Go.Proofs.YtpggmebgndkpjaaDoor
set_option linter.all false
open Go Go.ChangeShapes Go.WideShapes Go.ChangeAt Go.WideMaps Go.WideElems Go.RowKit

theorem own : ownKnob Tryd.prog.godebug = none := by kernel_rfl
theorem laidOut : laidOutB Tryd.prog = true := by kernel_rfl
theorem gFields : Tryd.prog.globalNamed "sharecore/field.fields" = some 0 := by kernel_rfl
theorem tFields : (Tryd.prog.globals[0]?).map (·.type) = some 114 := by kernel_rfl
theorem cells64 : Tryd.prog.cellsOf 43 = 1 := by kernel_rfl
theorem cellsInt : Tryd.prog.cellsOf 3 = 1 := by kernel_rfl
theorem cellsVec : Tryd.prog.cellsOf 44 = 4 := by kernel_rfl
theorem cellsElem : Tryd.prog.cellsOf 45 = 4 := by kernel_rfl
theorem cellsField : Tryd.prog.cellsOf 47 = 14 := by kernel_rfl
theorem cellsFields : Tryd.prog.cellsOf 114 = 28 := by kernel_rfl

section
variable {H : Type} {enc : TypeId × Value → H} {w : World} {base : Nat} {spare : Nat → Bool} {held : Bool} {n : Nat} {cs : List Value} {ps : List MemPlace}
set_option maxRecDepth 100000 in
theorem four_of {T : TypeId} {d : DataW H} (hT : Tryd.prog.underlying T = some (.array 4 43)) (hc : Tryd.prog.cellsOf T = 4) (h : DataW.trod enc Tryd.prog w base spare held n T cs = some (d, ps)) :
    ∃ a0 a1 a2 a3 : Int, cs = [.int .u64 a0, .int .u64 a1, .int .u64 a2, .int .u64 a3] ∧ d = .agg [.lit (.int .u64 a0), .lit (.int .u64 a1), .lit (.int .u64 a2), .lit (.int .u64 a3)] ∧
      (Lit.int .u64 a0).wf = true ∧ (Lit.int .u64 a1).wf = true ∧ (Lit.int .u64 a2).wf = true ∧ (Lit.int .u64 a3).wf = true := by
  obtain ⟨xs, m, rfl, hx, hlen, hn, hel⟩ := DataW.trod_array hT h
  rw [hc] at hlen
  match cs, hlen with
  | [c0, c1, c2, c3], _ =>
    match xs, hn with
    | [x0, x1, x2, x3], _ =>
      have e0 := hel 0 (by omega)
      have e1 := hel 1 (by omega)
      have e2 := hel 2 (by omega)
      have e3 := hel 3 (by omega)
      rw [cells64] at e0 e1 e2 e3
      simp only [Nat.mul_one, List.drop_zero, List.drop_succ_cons, List.take_succ_cons, List.take_zero, List.getElem?_cons_zero, List.getElem?_cons_succ] at e0 e1 e2 e3
      obtain ⟨k0, f0, g0, w0⟩ := DataW.trod_int Tryd.underlying43 e0
      obtain ⟨k1, f1, g1, w1⟩ := DataW.trod_int Tryd.underlying43 e1
      obtain ⟨k2, f2, g2, w2⟩ := DataW.trod_int Tryd.underlying43 e2
      obtain ⟨k3, f3, g3, w3⟩ := DataW.trod_int Tryd.underlying43 e3
      subst g0 g1 g2 g3
      simp only [List.cons.injEq, and_true] at f0 f1 f2 f3
      subst f0 f1 f2 f3
      simp only [Prod.mk.injEq] at hx
      exact ⟨k0, k1, k2, k3, rfl, hx.1, w0, w1, w2, w3⟩

set_option maxRecDepth 100000 in
theorem field_of {i i' p0 p1 p2 p3 v o0 o1 o2 o3 s0 s1 s2 s3 : Int} (h : DataW.trod enc Tryd.prog w base spare held n 47 cs = some (.agg [.lit (.int .i64 i), .agg [.lit (.int .u64 p0), .lit (.int .u64 p1), .lit (.int .u64 p2), .lit (.int .u64 p3)], .lit (.int .u64 v), .agg [.lit (.int .u64 o0), .lit (.int .u64 o1), .lit (.int .u64 o2), .lit (.int .u64 o3)], .agg [.lit (.int .u64 s0), .lit (.int .u64 s1), .lit (.int .u64 s2), .lit (.int .u64 s3)]], ps)) (_hi : i' = i) :
    cs = [.int .i64 i, .int .u64 p0, .int .u64 p1, .int .u64 p2, .int .u64 p3, .int .u64 v, .int .u64 o0, .int .u64 o1, .int .u64 o2, .int .u64 o3, .int .u64 s0, .int .u64 s1, .int .u64 s2, .int .u64 s3] := by
  obtain ⟨xs, m, rfl, hx, hlen, hn, hel⟩ := DataW.trod_struct Tryd.underlying47 h
  rw [cellsField] at hlen
  match cs, hlen with
  | [c0, c1, c2, c3, c4, c5, c6, c7, c8, c9, c10, c11, c12, c13], _ =>
    match xs, hn with
    | [x0, x1, x2, x3, x4], _ =>
      have e0 := hel 0 { name := "ID", type := 3, offset := 0, embedded := false, tag := "", pkgPath := "", byteOffset := 0 } rfl
      have e1 := hel 1 { name := "Modulus", type := 44, offset := 1, embedded := false, tag := "", pkgPath := "", byteOffset := 8 } rfl
      have e2 := hel 2 { name := "Inverse", type := 43, offset := 5, embedded := false, tag := "", pkgPath := "", byteOffset := 40 } rfl
      have e3 := hel 3 { name := "One", type := 45, offset := 6, embedded := false, tag := "", pkgPath := "", byteOffset := 48 } rfl
      have e4 := hel 4 { name := "Square", type := 44, offset := 10, embedded := false, tag := "", pkgPath := "", byteOffset := 80 } rfl
      simp only [cells64, cellsInt, cellsVec, cellsElem, List.drop_zero, List.drop_succ_cons, List.take_succ_cons, List.take_zero, List.getElem?_cons_zero, List.getElem?_cons_succ] at e0 e1 e2 e3 e4
      obtain ⟨k0, f0, g0, _⟩ := DataW.trod_int Tryd.underlying3 e0
      obtain ⟨k2, f2, g2, _⟩ := DataW.trod_int Tryd.underlying43 e2
      obtain ⟨x1, r1⟩ := x1
      obtain ⟨x3, r3⟩ := x3
      obtain ⟨x4, r4⟩ := x4
      obtain ⟨a0, a1, a2, a3, f1, g1, _⟩ := four_of Tryd.underlying44 cellsVec e1
      obtain ⟨b0, b1, b2, b3, f3, g3, _⟩ := four_of Tryd.underlying45 cellsElem e3
      obtain ⟨d0, d1, d2, d3, f4, g4, _⟩ := four_of Tryd.underlying44 cellsVec e4
      subst g0 g1 g2 g3 g4
      simp only [List.cons.injEq, and_true] at f0 f2
      simp only [List.cons.injEq, and_true] at f1
      simp only [List.cons.injEq, and_true] at f3
      simp only [List.cons.injEq, and_true] at f4
      simp only [Prod.mk.injEq, List.map_cons, List.map_nil, DataW.agg.injEq, List.cons.injEq, DataW.lit.injEq, Lit.int.injEq, true_and, and_true] at hx
      obtain ⟨⟨rfl, ⟨rfl, rfl, rfl, rfl⟩, rfl, ⟨rfl, rfl, rfl, rfl⟩, rfl, rfl, rfl, rfl⟩, _⟩ := hx
      obtain ⟨rfl, rfl, rfl, rfl⟩ := f1
      obtain ⟨rfl, rfl, rfl, rfl⟩ := f3
      obtain ⟨rfl, rfl, rfl, rfl⟩ := f4
      subst f0 f2
      rfl
end

theorem of_laid {W : World} (h : laidMetH Tryd.prog [("sharecore/field.fields", Rows.laid_sharecore_field_fields)] W) : Laid W := by
  rw [MakeChecks.laidMetH_plain _ _ _ (by kernel_rfl)] at h
  obtain ⟨ps, ⟨g0, t0, cs0, f0, p0, q0, hg0, ht0, hv0, hd0, _, _⟩, _, _⟩ := h
  obtain rfl := Option.some.inj (gFields.symm.trans hg0)
  obtain rfl := Option.some.inj (tFields.symm.trans ht0)
  have key : cs0.toList = fieldCells.toList := by
    obtain ⟨xs, m, rfl, hx, hlen, hn, hel⟩ := DataW.trod_array Tryd.underlying114 hd0
    rw [cellsFields] at hlen
    match xs, hn with
    | [x0, x1], _ =>
      have e0 := hel 0 (by omega)
      have e1 := hel 1 (by omega)
      simp only [cellsField, Nat.zero_mul, Nat.one_mul, List.drop_zero, List.getElem?_cons_zero, List.getElem?_cons_succ] at e0 e1
      obtain ⟨x0, r0⟩ := x0
      obtain ⟨x1, r1⟩ := x1
      unfold Rows.laid_sharecore_field_fields at hx
      simp only [Prod.mk.injEq, List.map_cons, List.map_nil, DataW.agg.injEq, List.cons.injEq, and_true] at hx
      obtain ⟨⟨rfl, rfl⟩, _⟩ := hx
      have k0 := field_of e0 rfl
      have k1 := field_of e1 rfl
      rw [List.take_of_length_le (by rw [List.length_drop, hlen]; omega)] at k1
      rw [← List.take_append_drop 14 cs0.toList, k0, k1]
      rfl
  have key' : cs0 = fieldCells := by rw [← Array.toArray_toList (xs := cs0), key]
  intro j v hv
  rw [World.var?_cell hg0 hv0 j, key']
  exact hv

theorem wf64 {a : Int} (h : (Lit.int .u64 a).wf = true) : ∃ n : Nat, a = (n : Int) ∧ n < W := by
  have := bounds_u64 h
  exact ⟨a.toNat, by omega, by unfold W; omega⟩
/-- An array of four words that came in by value. -/
theorem open_vec {H : Type} {enc : TypeId × Value → H} {w : World} {base b0 : Nat} {spare : Nat → Bool} {held : Bool} {r : Reach} {T : TypeId} {v : Value} {d : DataW H} {p : List MemPlace} (hT : Tryd.prog.underlying T = some (.array 4 43)) (hc : Tryd.prog.cellsOf T = 4)
    (hv : Value.okWide Tryd.prog w r b0 T v) (h : DataW.Trod enc Tryd.prog w base spare held T v d p) : ∃ n, n < R4 ∧ v = vec n := by
  have hk : ∃ cs, v = .agg cs := by
    simp only [Value.okWide, hT] at hv
    obtain ⟨cs, h1, _⟩ := hv
    exact ⟨cs, h1⟩
  obtain ⟨cs, rfl⟩ := hk
  obtain ⟨fuel, hf⟩ := h
  obtain ⟨a0, a1, a2, a3, e, _, w0, w1, w2, w3⟩ := four_of hT hc hf
  obtain ⟨n0, rfl, l0⟩ := wf64 w0
  obtain ⟨n1, rfl, l1⟩ := wf64 w1
  obtain ⟨n2, rfl, l2⟩ := wf64 w2
  obtain ⟨n3, rfl, l3⟩ := wf64 w3
  refine ⟨val4 n0 n1 n2 n3, val4_lt l0 l1 l2 l3, ?_⟩
  rw [vec_val4 l0 l1 l2 l3]
  have : cs.toList = _ := e
  rw [← Array.toArray_toList (xs := cs), this]
theorem lt_of {H : Type} {enc : TypeId × Value → H} {w : World} {spare : Nat → Bool} {held : Bool} {T : TypeId} {v : Value} {d : DataW H} {p : List MemPlace} (h : DataW.Trod enc Tryd.prog w 0 spare held T v d p) : ∀ x ∈ p, x.block < w.heap.size := by
  obtain ⟨m, hm⟩ := h
  exact DataW.trod_lt m _ _ _ hm
end Go.Proofs.YtpggmebgndkpjaaDoor
