/- What a row's proof wants: numbers, bytes, vectors and shares that came in; the listed variables of the fields and of sha. -/
import Derived.Test.YtjhfepkpfakemaaDoorRows
import Derived.Test.YtjhfepkpfakemaaDoorLeafs
import Derived.Test.YtjhfepkpfakemaaDoorShaB
import Derived.Test.YtjhfepkpfakemaaDoorSyn
import Derived.WalkKit
import Derived.ProofKit
import Derived.LaidMore
import Derived.OpenShut
import Derived.ShutString
import Derived.ChangeOld
import Derived.Below
namespace Go.Proofs.YtjhfepkpfakemaaDoor
set_option linter.all false
open Go Go.ChangeShapes Go.WideShapes Go.ChangeAt Go.WideMaps Go.WideElems Go.RowKit

theorem own : ownKnob Tryd.prog.godebug = none := by kernel_rfl
theorem laidOut : laidOutB Tryd.prog = true := by kernel_rfl
theorem gFields : Tryd.prog.globalNamed "sharecore/field.fields" = some 0 := by kernel_rfl
theorem tFields : (Tryd.prog.globals[0]?).map (·.type) = some 69 := by kernel_rfl
theorem cells64 : Tryd.prog.cellsOf 49 = 1 := by kernel_rfl
theorem cellsInt : Tryd.prog.cellsOf 3 = 1 := by kernel_rfl
theorem cellsVec : Tryd.prog.cellsOf 50 = 4 := by kernel_rfl
theorem cellsElem : Tryd.prog.cellsOf 51 = 4 := by kernel_rfl
theorem cellsField : Tryd.prog.cellsOf 53 = 14 := by kernel_rfl
theorem cellsFields : Tryd.prog.cellsOf 69 = 28 := by kernel_rfl

section
variable {H : Type} {enc : TypeId × Value → H} {w : World} {base : Nat} {spare : Nat → Bool} {held : Bool} {n : Nat} {cs : List Value} {ps : List MemPlace}
set_option maxRecDepth 100000 in
theorem four_of {T : TypeId} {d : DataW H} (hT : Tryd.prog.underlying T = some (.array 4 49)) (hc : Tryd.prog.cellsOf T = 4) (h : DataW.trod enc Tryd.prog w base spare held n T cs = some (d, ps)) :
    ∃ a0 a1 a2 a3 : Int, cs = [.int .u64 a0, .int .u64 a1, .int .u64 a2, .int .u64 a3] ∧ d = .agg [.lit (.int .u64 a0), .lit (.int .u64 a1), .lit (.int .u64 a2), .lit (.int .u64 a3)] ∧
      (Lit.int .u64 a0).wf = true ∧ (Lit.int .u64 a1).wf = true ∧ (Lit.int .u64 a2).wf = true ∧ (Lit.int .u64 a3).wf = true := by
  obtain ⟨xs, m, rfl, hx, hlen, hn, hel⟩ := DataW.trod_array hT h
  rw [hc] at hlen
  match cs, hlen with
  | [c0, c1, c2, c3], _ =>
    match xs, hn with
    | [x0, x1, x2, x3], _ =>
      have e0 := hel 0 (by omega)
      have e1 := hel 1 (by omega)
      have e2 := hel 2 (by omega)
      have e3 := hel 3 (by omega)
      rw [cells64] at e0 e1 e2 e3
      simp only [Nat.mul_one, List.drop_zero, List.drop_succ_cons, List.take_succ_cons, List.take_zero, List.getElem?_cons_zero, List.getElem?_cons_succ] at e0 e1 e2 e3
      obtain ⟨k0, f0, g0, w0⟩ := DataW.trod_int Tryd.underlying49 e0
      obtain ⟨k1, f1, g1, w1⟩ := DataW.trod_int Tryd.underlying49 e1
      obtain ⟨k2, f2, g2, w2⟩ := DataW.trod_int Tryd.underlying49 e2
      obtain ⟨k3, f3, g3, w3⟩ := DataW.trod_int Tryd.underlying49 e3
      subst g0 g1 g2 g3
      simp only [List.cons.injEq, and_true] at f0 f1 f2 f3
      subst f0 f1 f2 f3
      simp only [Prod.mk.injEq] at hx
      exact ⟨k0, k1, k2, k3, rfl, hx.1, w0, w1, w2, w3⟩

set_option maxRecDepth 100000 in
theorem field_of {i i' p0 p1 p2 p3 v o0 o1 o2 o3 s0 s1 s2 s3 : Int} (h : DataW.trod enc Tryd.prog w base spare held n 53 cs = some (.agg [.lit (.int .i64 i), .agg [.lit (.int .u64 p0), .lit (.int .u64 p1), .lit (.int .u64 p2), .lit (.int .u64 p3)], .lit (.int .u64 v), .agg [.lit (.int .u64 o0), .lit (.int .u64 o1), .lit (.int .u64 o2), .lit (.int .u64 o3)], .agg [.lit (.int .u64 s0), .lit (.int .u64 s1), .lit (.int .u64 s2), .lit (.int .u64 s3)]], ps)) (_hi : i' = i) :
    cs = [.int .i64 i, .int .u64 p0, .int .u64 p1, .int .u64 p2, .int .u64 p3, .int .u64 v, .int .u64 o0, .int .u64 o1, .int .u64 o2, .int .u64 o3, .int .u64 s0, .int .u64 s1, .int .u64 s2, .int .u64 s3] := by
  obtain ⟨xs, m, rfl, hx, hlen, hn, hel⟩ := DataW.trod_struct Tryd.underlying53 h
  rw [cellsField] at hlen
  match cs, hlen with
  | [c0, c1, c2, c3, c4, c5, c6, c7, c8, c9, c10, c11, c12, c13], _ =>
    match xs, hn with
    | [x0, x1, x2, x3, x4], _ =>
      have e0 := hel 0 { name := "ID", type := 3, offset := 0, embedded := false, tag := "", pkgPath := "", byteOffset := 0 } rfl
      have e1 := hel 1 { name := "Modulus", type := 50, offset := 1, embedded := false, tag := "", pkgPath := "", byteOffset := 8 } rfl
      have e2 := hel 2 { name := "Inverse", type := 49, offset := 5, embedded := false, tag := "", pkgPath := "", byteOffset := 40 } rfl
      have e3 := hel 3 { name := "One", type := 51, offset := 6, embedded := false, tag := "", pkgPath := "", byteOffset := 48 } rfl
      have e4 := hel 4 { name := "Square", type := 50, offset := 10, embedded := false, tag := "", pkgPath := "", byteOffset := 80 } rfl
      simp only [cells64, cellsInt, cellsVec, cellsElem, List.drop_zero, List.drop_succ_cons, List.take_succ_cons, List.take_zero, List.getElem?_cons_zero, List.getElem?_cons_succ] at e0 e1 e2 e3 e4
      obtain ⟨k0, f0, g0, _⟩ := DataW.trod_int Tryd.underlying3 e0
      obtain ⟨k2, f2, g2, _⟩ := DataW.trod_int Tryd.underlying49 e2
      obtain ⟨x1, r1⟩ := x1
      obtain ⟨x3, r3⟩ := x3
      obtain ⟨x4, r4⟩ := x4
      obtain ⟨a0, a1, a2, a3, f1, g1, _⟩ := four_of Tryd.underlying50 cellsVec e1
      obtain ⟨b0, b1, b2, b3, f3, g3, _⟩ := four_of Tryd.underlying51 cellsElem e3
      obtain ⟨d0, d1, d2, d3, f4, g4, _⟩ := four_of Tryd.underlying50 cellsVec e4
      subst g0 g1 g2 g3 g4
      simp only [List.cons.injEq, and_true] at f0 f2
      simp only [List.cons.injEq, and_true] at f1
      simp only [List.cons.injEq, and_true] at f3
      simp only [List.cons.injEq, and_true] at f4
      simp only [Prod.mk.injEq, List.map_cons, List.map_nil, DataW.agg.injEq, List.cons.injEq, DataW.lit.injEq, Lit.int.injEq, true_and, and_true] at hx
      obtain ⟨⟨rfl, ⟨rfl, rfl, rfl, rfl⟩, rfl, ⟨rfl, rfl, rfl, rfl⟩, rfl, rfl, rfl, rfl⟩, _⟩ := hx
      obtain ⟨rfl, rfl, rfl, rfl⟩ := f1
      obtain ⟨rfl, rfl, rfl, rfl⟩ := f3
      obtain ⟨rfl, rfl, rfl, rfl⟩ := f4
      subst f0 f2
      rfl
end

theorem gK : Tryd.prog.globalNamed "sharecore/sha.constants" = some 2 := by kernel_rfl
theorem tK : (Tryd.prog.globals[2]?).map (·.type) = some 116 := by kernel_rfl
theorem gS : Tryd.prog.globalNamed "sharecore/sha.start" = some 1 := by kernel_rfl
theorem tS : (Tryd.prog.globals[1]?).map (·.type) = some 105 := by kernel_rfl
theorem cells32 : Tryd.prog.cellsOf 93 = 1 := by kernel_rfl

set_option maxRecDepth 100000 in
/-- An array of words whose reading is known. -/
theorem words_of {H : Type} {enc : TypeId × Value → H} {w : World} {base : Nat} {spare : Nat → Bool} {held : Bool} {n fuel : Nat} {cs : List Value} {ps : List MemPlace} {T : TypeId} (hT : Tryd.prog.underlying T = some (.array n 93))
    (hc : Tryd.prog.cellsOf T = n) (zs : List Nat) (hl : zs.length = n) (h : DataW.trod enc Tryd.prog w base spare held fuel T cs = some (.agg (zs.map fun z => .lit (.int .u32 ((z : Nat) : Int))), ps)) :
    ∀ j, j < n → cs[j]? = some (.int .u32 ((zs.getD j 0 : Nat) : Int)) := by
  obtain ⟨xs, m, rfl, hx, hlen, hn, hel⟩ := DataW.trod_array hT h
  intro j hj
  have e := hel j hj
  rw [cells32, Nat.mul_one] at e
  have hjx : j < xs.length := by omega
  rw [List.getElem?_eq_getElem hjx] at e
  obtain ⟨k, hk, hy, _⟩ := DataW.trod_int Tryd.underlying93 e
  simp only [Prod.mk.injEq, DataW.agg.injEq] at hx
  have h1 : (zs.map fun z => (DataW.lit (.int .u32 ((z : Nat) : Int)) : DataW H))[j]? = (xs.map (·.1))[j]? := by rw [hx.1]
  rw [List.getElem?_map, List.getElem?_map, List.getElem?_eq_getElem hjx, List.getElem?_eq_getElem (by omega), Option.map_some, Option.map_some, hy] at h1
  simp only [Option.some.injEq, DataW.lit.injEq, Lit.int.injEq, true_and] at h1
  have h2 : ((cs.drop j).take 1)[0]? = some (Value.int .u32 k) := by rw [hk]; rfl
  rw [List.getElem?_take_of_lt (by decide), List.getElem?_drop, Nat.add_zero] at h2
  rw [h2, ← h1]
  congr 3
  simp [List.getD, List.getElem?_eq_getElem (show j < zs.length by omega)]


set_option maxRecDepth 100000 in
theorem of_laid {W : World} (h : laidMetH Tryd.prog [("sharecore/sha.constants", Rows.laid_sharecore_sha_constants), ("sharecore/sha.start", Rows.laid_sharecore_sha_start), ("sharecore/field.fields", Rows.laid_sharecore_field_fields)] W) : Laid W ∧ Sh.Laid W := by
  rw [MakeChecks.laidMetH_plain _ _ _ (by kernel_rfl)] at h
  obtain ⟨ps, ⟨g0, t0, cs0, f0, p0, q0, hg0, ht0, hv0, hd0, ⟨g1, t1, cs1, f1, p1, q1, hg1, ht1, hv1, hd1, ⟨g2, t2, cs2, f2, p2, q2, hg2, ht2, hv2, hd2, _, _⟩, _⟩, _⟩, _, _⟩ := h
  obtain rfl := Option.some.inj (gK.symm.trans hg0)
  obtain rfl := Option.some.inj (tK.symm.trans ht0)
  obtain rfl := Option.some.inj (gS.symm.trans hg1)
  obtain rfl := Option.some.inj (tS.symm.trans ht1)
  obtain rfl := Option.some.inj (gFields.symm.trans hg2)
  obtain rfl := Option.some.inj (tFields.symm.trans ht2)
  refine ⟨?_, ?_⟩
  · skip
    have key : cs2.toList = fieldCells.toList := by
      obtain ⟨xs, m, rfl, hx, hlen, hn, hel⟩ := DataW.trod_array Tryd.underlying69 hd2
      rw [cellsFields] at hlen
      match xs, hn with
      | [x0, x1], _ =>
        have e0 := hel 0 (by omega)
        have e1 := hel 1 (by omega)
        simp only [cellsField, Nat.zero_mul, Nat.one_mul, List.drop_zero, List.getElem?_cons_zero, List.getElem?_cons_succ] at e0 e1
        obtain ⟨x0, r0⟩ := x0
        obtain ⟨x1, r1⟩ := x1
        unfold Rows.laid_sharecore_field_fields at hx
        simp only [Prod.mk.injEq, List.map_cons, List.map_nil, DataW.agg.injEq, List.cons.injEq, and_true] at hx
        obtain ⟨⟨rfl, rfl⟩, _⟩ := hx
        have k0 := field_of e0 rfl
        have k1 := field_of e1 rfl
        rw [List.take_of_length_le (by rw [List.length_drop, hlen]; omega)] at k1
        rw [← List.take_append_drop 14 cs2.toList, k0, k1]
        rfl
    have key' : cs2 = fieldCells := by rw [← Array.toArray_toList (xs := cs2), key]
    intro j v hv
    rw [World.var?_cell hg2 hv2 j, key']
    exact hv
  · refine ⟨fun j hj => ?_, fun j hj => ?_⟩
    · have := words_of Tryd.underlying116 (by kernel_rfl) Sh.Kl rfl hd0 j hj
      rw [World.var?_cell hg0 hv0 j]
      rw [← Array.getElem?_toList]
      exact this
    · have := words_of Tryd.underlying105 (by kernel_rfl) Sh.s0l rfl hd1 j hj
      rw [World.var?_cell hg1 hv1 j]
      rw [← Array.getElem?_toList]
      refine this.trans ?_
      have h : j = 0 ∨ j = 1 ∨ j = 2 ∨ j = 3 ∨ j = 4 ∨ j = 5 ∨ j = 6 ∨ j = 7 := by omega
      rcases h with rfl | rfl | rfl | rfl | rfl | rfl | rfl | rfl <;> rfl

theorem wf64 {a : Int} (h : (Lit.int .u64 a).wf = true) : ∃ n : Nat, a = (n : Int) ∧ n < W := by
  have := bounds_u64 h
  exact ⟨a.toNat, by omega, by unfold W; omega⟩
/-- An array of four words that came in by value. -/
theorem open_vec {H : Type} {enc : TypeId × Value → H} {w : World} {base b0 : Nat} {spare : Nat → Bool} {held : Bool} {r : Reach} {T : TypeId} {v : Value} {d : DataW H} {p : List MemPlace} (hT : Tryd.prog.underlying T = some (.array 4 49)) (hc : Tryd.prog.cellsOf T = 4)
    (hv : Value.okWide Tryd.prog w r b0 T v) (h : DataW.Trod enc Tryd.prog w base spare held T v d p) : ∃ n, n < R4 ∧ v = vec n := by
  have hk : ∃ cs, v = .agg cs := by
    simp only [Value.okWide, hT] at hv
    obtain ⟨cs, h1, _⟩ := hv
    exact ⟨cs, h1⟩
  obtain ⟨cs, rfl⟩ := hk
  obtain ⟨fuel, hf⟩ := h
  obtain ⟨a0, a1, a2, a3, e, _, w0, w1, w2, w3⟩ := four_of hT hc hf
  obtain ⟨n0, rfl, l0⟩ := wf64 w0
  obtain ⟨n1, rfl, l1⟩ := wf64 w1
  obtain ⟨n2, rfl, l2⟩ := wf64 w2
  obtain ⟨n3, rfl, l3⟩ := wf64 w3
  refine ⟨val4 n0 n1 n2 n3, val4_lt l0 l1 l2 l3, ?_⟩
  rw [vec_val4 l0 l1 l2 l3]
  have : cs.toList = _ := e
  rw [← Array.toArray_toList (xs := cs), this]
theorem lt_of {H : Type} {enc : TypeId × Value → H} {w : World} {spare : Nat → Bool} {held : Bool} {T : TypeId} {v : Value} {d : DataW H} {p : List MemPlace} (h : DataW.Trod enc Tryd.prog w 0 spare held T v d p) : ∀ x ∈ p, x.block < w.heap.size := by
  obtain ⟨m, hm⟩ := h
  exact DataW.trod_lt m _ _ _ hm
section
variable {H : Type} {enc : TypeId × Value → H} {w : World} {held : Bool} {P : Program}
theorem cells_at {b : Nat} {q : Addr} {n : Nat} {cs : List Value} (h : w.cells? b q n = some cs) : cs.length = n ∧ ∀ j u, cs[j]? = some u → w.cell? (q.add j) = some u := by
  obtain ⟨_, h1, h2⟩ := World.cells?_some h
  refine ⟨h1, fun j u hj => ?_⟩
  rw [h2 j (by have := (List.getElem?_eq_some_iff.1 hj).1; omega), hj]
/-- A slice whose elements are each read as the cells of something. -/
theorem open_lst {α : Type} {c : α → List Value} {sz : Nat} {φ : α → Prop} {T te : TypeId} (hT : P.underlying T = some (.slice te)) (hc : P.cellsOf te = sz) (hs : 0 < sz) (hlen : ∀ x, (c x).length = sz) (d0 : α)
    (hel : ∀ fuel cs d p, DataW.trod enc P w 0 (fun _ => true) held fuel te cs = some (d, p) → ∃ x, φ x ∧ cs = c x) {a : Option Addr} {n cap : Nat} {d : DataW H} {p : List MemPlace}
    (h : DataW.Trod enc P w 0 (fun _ => true) held T (.slice a n cap) d p) : ∃ f : Nat → α, (∀ i, i < n → φ (f i)) ∧ LstAt w sz (.slice a n cap) n (en c f n) := by
  subst hc
  obtain ⟨fuel, hf⟩ := h
  rcases DataW.trod_slice hT hf with ⟨e, _⟩ | ⟨ad, len, cap', elems, rest, m, _, e, _, _, hl, _, hel1, hel2, _⟩
  · have e' : ([Value.slice a n cap] : List Value) = [.slice none 0 0] := e
    simp only [List.cons.injEq, Value.slice.injEq, and_true] at e'
    obtain ⟨rfl, rfl, rfl⟩ := e'
    exact ⟨fun _ => d0, fun i hi => (by omega), ⟨by simp [en], none, 0, rfl, Nat.le_refl _, fun _ => ⟨rfl, rfl⟩, fun ad h => by cases h⟩⟩
  · have e' : ([Value.slice a n cap] : List Value) = [.slice (some ad) len cap'] := e
    simp only [List.cons.injEq, Value.slice.injEq, and_true] at e'
    obtain ⟨rfl, rfl, rfl⟩ := e'
    have key : ∀ i, ∃ x, i < n → φ x ∧ ∀ j u, (c x)[j]? = some u → w.cell? ((ad.add (i * P.cellsOf te)).add j) = some u := by
      intro i
      by_cases hi : i < n
      · have h1 := hel2 i hi
        cases hcs : w.cells? 0 (ad.add (i * P.cellsOf te)) (P.cellsOf te) with
        | none =>
          rw [hcs, Option.bind_none, List.getElem?_eq_getElem (by omega)] at h1
          cases h1
        | some cs =>
          rw [hcs, Option.bind_some, List.getElem?_eq_getElem (by omega)] at h1
          obtain ⟨x, hx, rfl⟩ := hel _ _ _ _ h1
          exact ⟨x, fun _ => ⟨hx, (cells_at hcs).2⟩⟩
      · exact ⟨d0, fun h => absurd h hi⟩
    refine ⟨fun i => Classical.choose (key i), fun i hi => (Classical.choose_spec (key i) hi).1, ?_⟩
    have hcell : ∀ i, i < n → ∀ j u, (c (Classical.choose (key i)))[j]? = some u → w.cell? ((ad.add (i * P.cellsOf te)).add j) = some u := fun i hi => (Classical.choose_spec (key i) hi).2
    generalize hF : (fun i => Classical.choose (key i)) = f
    have hcell' : ∀ i, i < n → ∀ j u, (c (f i))[j]? = some u → w.cell? ((ad.add (i * P.cellsOf te)).add j) = some u := by subst hF; exact hcell
    clear hcell
    refine ⟨en_len hlen, some ad, cap, rfl, hl, (fun h => by cases h), fun q hq hn => ?_⟩
    cases hq
    have h0 : w.cell? ad = some ((c (f 0))[0]'(by rw [hlen]; exact hs)) := by
      have := hcell' 0 hn 0 _ (List.getElem?_eq_getElem (by rw [hlen]; exact hs))
      rw [Nat.zero_mul] at this
      exact this
    have hspot : ad.spot = none := by simpa using World.cell?_spot h0
    refine ⟨hspot, World.block_lt_of_cell? w _ h0, fun j u hj => ?_⟩
    have hjl := (List.getElem?_eq_some_iff.1 hj).1
    rw [en_len hlen] at hjl
    have hi : j / P.cellsOf te < n := (Nat.div_lt_iff_lt_mul hs).2 hjl
    have hch := en_chunk (c := c) (f := f) hlen hi
    have h2 := congrArg (fun l => l[j % P.cellsOf te]?) hch
    simp only [List.getElem?_take, List.getElem?_drop] at h2
    rw [if_pos (Nat.mod_lt _ hs), show j / P.cellsOf te * P.cellsOf te + j % P.cellsOf te = j by rw [Nat.mul_comm]; exact Nat.div_add_mod j _, hj] at h2
    have := hcell' _ hi _ u h2.symm
    rw [add_add hspot, show j / P.cellsOf te * P.cellsOf te + j % P.cellsOf te = j by rw [Nat.mul_comm]; exact Nat.div_add_mod j _] at this
    exact this
end

theorem cellsByte : Tryd.prog.cellsOf 5 = 1 := by kernel_rfl
theorem cellsShare : Tryd.prog.cellsOf 27 = 5 := by kernel_rfl
theorem cellsEls : Tryd.prog.cellsOf 25 = 1 := by kernel_rfl
section
variable {H : Type} {enc : TypeId × Value → H} {w : World} {held : Bool} {P : Program}
/-- Bytes that came in. -/
theorem open_bytel {a : Option Addr} {n cap : Nat} {d : DataW H} {p : List MemPlace} (h : DataW.Trod enc Tryd.prog w 0 (fun _ => true) held 29 (.slice a n cap) d p) :
    ∃ l : List Nat, (∀ x ∈ l, x < 256) ∧ LstAt w 1 (.slice a n cap) n (el bc l) := by
  obtain ⟨f, hf, hL⟩ := open_lst (c := bc) (φ := fun x => x < 256) Tryd.underlying29 cellsByte (by decide) bc_len 0 (fun fuel cs d p hf => by
    obtain ⟨k, hk, _, hw⟩ := DataW.trod_int Tryd.underlying5 hf
    have hb := bounds_u8 hw
    exact ⟨k.toNat, by omega, by rw [hk]; unfold bc; rw [Int.toNat_of_nonneg hb.1]⟩) h
  refine ⟨(List.range n).map f, fun x hx => ?_, by rw [← en_el]; exact hL⟩
  rw [List.mem_map] at hx
  obtain ⟨i, hi, rfl⟩ := hx
  exact hf i (List.mem_range.1 hi)
theorem open_els {a : Option Addr} {n cap : Nat} {d : DataW H} {p : List MemPlace} (h : DataW.Trod enc Tryd.prog w 0 (fun _ => true) held 25 (.slice a n cap) d p) :
    ∃ f : Nat → Nat, (∀ i, i < n → f i < R4) ∧ LstAt w 4 (.slice a n cap) n (en vq f n) :=
  open_lst (φ := fun x => x < R4) Tryd.underlying25 cellsElem (by decide) vq_len 0 (fun fuel cs d p hf => by
    obtain ⟨a0, a1, a2, a3, e, _, w0, w1, w2, w3⟩ := four_of Tryd.underlying51 cellsElem hf
    obtain ⟨n0, rfl, l0⟩ := wf64 w0
    obtain ⟨n1, rfl, l1⟩ := wf64 w1
    obtain ⟨n2, rfl, l2⟩ := wf64 w2
    obtain ⟨n3, rfl, l3⟩ := wf64 w3
    refine ⟨val4 n0 n1 n2 n3, val4_lt l0 l1 l2 l3, ?_⟩
    rw [e]
    have := vec_val4 l0 l1 l2 l3
    unfold vec at this
    have := congrArg (fun v => match v with | Value.agg xs => xs.toList | _ => []) this
    simpa [vq] using this.symm) h
set_option maxRecDepth 100000 in
/-- A share that came in. -/
theorem open_share {b0 : Nat} {r : Reach} {v : Value} {d : DataW H} {p : List MemPlace} (hv : Value.okWide Tryd.prog w r b0 27 v) (h : DataW.Trod enc Tryd.prog w 0 (fun _ => true) held 27 v d p) :
    ∃ (F T I L : Int) (a : Option Addr) (n c : Nat) (X : Nat → Nat), v = .agg #[.int .i64 F, .int .i64 T, .int .i64 I, .int .i64 L, .slice a n c] ∧ (∀ i, i < n → X i < R4) ∧ LstAt w 4 (.slice a n c) n (en vq X n) := by
  have hk : ∃ cs, v = .agg cs := by
    simp only [Value.okWide, Tryd.underlying27] at hv
    obtain ⟨cs, h1, _⟩ := hv
    exact ⟨cs, h1⟩
  obtain ⟨cs, rfl⟩ := hk
  obtain ⟨fuel, hf⟩ := h
  have hf' : DataW.trod enc Tryd.prog w 0 (fun _ => true) held fuel 27 cs.toList = some (d, p) := hf
  obtain ⟨xs, m, rfl, hx, hlen, hn, hel⟩ := DataW.trod_struct Tryd.underlying27 hf'
  rw [cellsShare] at hlen
  have hcs : cs = cs.toList.toArray := by simp
  generalize cs.toList = l at *
  subst hcs
  match l, hlen with
  | [c0, c1, c2, c3, c4], _ =>
    match xs, hn with
    | [x0, x1, x2, x3, x4], _ =>
      have e0 := hel 0 { name := "Field", type := 3, offset := 0, embedded := false, tag := "", pkgPath := "", byteOffset := 0 } rfl
      have e1 := hel 1 { name := "Threshold", type := 3, offset := 1, embedded := false, tag := "", pkgPath := "", byteOffset := 8 } rfl
      have e2 := hel 2 { name := "Index", type := 3, offset := 2, embedded := false, tag := "", pkgPath := "", byteOffset := 16 } rfl
      have e3 := hel 3 { name := "Length", type := 3, offset := 3, embedded := false, tag := "", pkgPath := "", byteOffset := 24 } rfl
      have e4 := hel 4 { name := "Payload", type := 25, offset := 4, embedded := false, tag := "", pkgPath := "", byteOffset := 32 } rfl
      simp only [cellsInt, cellsEls, List.drop_zero, List.drop_succ_cons, List.take_succ_cons, List.take_zero, List.getElem?_cons_zero, List.getElem?_cons_succ] at e0 e1 e2 e3 e4
      obtain ⟨x4, r4⟩ := x4
      obtain ⟨F, f0, _, _⟩ := DataW.trod_int Tryd.underlying3 e0
      obtain ⟨T, f1, _, _⟩ := DataW.trod_int Tryd.underlying3 e1
      obtain ⟨I, f2, _, _⟩ := DataW.trod_int Tryd.underlying3 e2
      obtain ⟨L, f3, _, _⟩ := DataW.trod_int Tryd.underlying3 e3
      simp only [List.cons.injEq, and_true] at f0 f1 f2 f3
      subst f0 f1 f2 f3
      have hsl : ∃ a n c, c4 = .slice a n c := by
        rcases DataW.trod_slice Tryd.underlying25 e4 with ⟨e, _⟩ | ⟨ad, len, cap', elems, rest, m, _, e, _⟩
        · simp only [List.cons.injEq, and_true] at e; exact ⟨_, _, _, e⟩
        · simp only [List.cons.injEq, and_true] at e; exact ⟨_, _, _, e⟩
      obtain ⟨a, n, c, rfl⟩ := hsl
      obtain ⟨X, h4, hL⟩ := open_els (a := a) (n := n) (cap := c) ⟨_, e4⟩
      exact ⟨F, T, I, L, a, n, c, X, rfl, h4, hL⟩
end
end Go.Proofs.YtjhfepkpfakemaaDoor
