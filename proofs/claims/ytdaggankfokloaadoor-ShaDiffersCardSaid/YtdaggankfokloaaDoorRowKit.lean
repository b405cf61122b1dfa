/- What a row's proof wants: bytes that came in; the two listed variables of sha. -/
import Derived.Test.YtdaggankfokloaaDoorRows
import Derived.Test.YtdaggankfokloaaDoorLawMatches
import Derived.WalkKit
import Derived.ProofKit
import Derived.LaidMore
import Derived.OpenShut
import Derived.ShutString
import Derived.ChangeOld
import Derived.Below
namespace Go.Proofs.YtdaggankfokloaaDoor
set_option linter.all false
open Go Go.ChangeShapes Go.WideShapes Go.ChangeAt Go.WideMaps Go.WideElems Go.RowKit

theorem own : ownKnob Tryd.prog.godebug = none := by kernel_rfl
theorem laidOut : laidOutB Tryd.prog = true := by kernel_rfl
theorem gK : Tryd.prog.globalNamed "sharecore/sha.constants" = some 1 := by kernel_rfl
theorem tK : (Tryd.prog.globals[1]?).map (·.type) = some 52 := by kernel_rfl
theorem gS : Tryd.prog.globalNamed "sharecore/sha.start" = some 0 := by kernel_rfl
theorem tS : (Tryd.prog.globals[0]?).map (·.type) = some 44 := by kernel_rfl
theorem cells32 : Tryd.prog.cellsOf 42 = 1 := by kernel_rfl

/-- An array of words whose reading is known. -/
theorem words_of {H : Type} {enc : TypeId × Value → H} {w : World} {base : Nat} {spare : Nat → Bool} {held : Bool} {n fuel : Nat} {cs : List Value} {ps : List MemPlace} {T : TypeId} (hT : Tryd.prog.underlying T = some (.array n 42))
    (hc : Tryd.prog.cellsOf T = n) (zs : List Nat) (hl : zs.length = n) (h : DataW.trod enc Tryd.prog w base spare held fuel T cs = some (.agg (zs.map fun z => .lit (.int .u32 ((z : Nat) : Int))), ps)) :
    ∀ j, j < n → cs[j]? = some (.int .u32 ((zs.getD j 0 : Nat) : Int)) := by
  obtain ⟨xs, m, rfl, hx, hlen, hn, hel⟩ := DataW.trod_array hT h
  intro j hj
  have e := hel j hj
  rw [cells32, Nat.mul_one] at e
  have hjx : j < xs.length := by omega
  rw [List.getElem?_eq_getElem hjx] at e
  obtain ⟨k, hk, hy, _⟩ := DataW.trod_int Tryd.underlying42 e
  simp only [Prod.mk.injEq, DataW.agg.injEq] at hx
  have h1 : (zs.map fun z => (DataW.lit (.int .u32 ((z : Nat) : Int)) : DataW H))[j]? = (xs.map (·.1))[j]? := by rw [hx.1]
  rw [List.getElem?_map, List.getElem?_map, List.getElem?_eq_getElem hjx, List.getElem?_eq_getElem (by omega), Option.map_some, Option.map_some, hy] at h1
  simp only [Option.some.injEq, DataW.lit.injEq, Lit.int.injEq, true_and] at h1
  have h2 : ((cs.drop j).take 1)[0]? = some (Value.int .u32 k) := by rw [hk]; rfl
  rw [List.getElem?_take_of_lt (by decide), List.getElem?_drop, Nat.add_zero] at h2
  rw [h2, ← h1]
  congr 3
  simp [List.getD, List.getElem?_eq_getElem (show j < zs.length by omega)]

theorem of_laid {W : World} (h : laidMetH Tryd.prog [("sharecore/sha.constants", Rows.laid_sharecore_sha_constants), ("sharecore/sha.start", Rows.laid_sharecore_sha_start)] W) : Laid W := by
  rw [MakeChecks.laidMetH_plain _ _ _ (by kernel_rfl)] at h
  obtain ⟨ps, ⟨g0, t0, cs0, f0, p0, q0, hg0, ht0, hv0, hd0, ⟨g1, t1, cs1, f1, p1, q1, hg1, ht1, hv1, hd1, _, _⟩, _⟩, _, _⟩ := h
  obtain rfl := Option.some.inj (gK.symm.trans hg0)
  obtain rfl := Option.some.inj (tK.symm.trans ht0)
  obtain rfl := Option.some.inj (gS.symm.trans hg1)
  obtain rfl := Option.some.inj (tS.symm.trans ht1)
  refine ⟨fun j hj => ?_, fun j hj => ?_⟩
  · have := words_of Tryd.underlying52 (by kernel_rfl) Kl rfl hd0 j hj
    rw [World.var?_cell hg0 hv0 j]
    rw [← Array.getElem?_toList]
    exact this
  · have := words_of Tryd.underlying44 (by kernel_rfl) s0l rfl hd1 j hj
    rw [World.var?_cell hg1 hv1 j]
    rw [← Array.getElem?_toList]
    refine this.trans ?_
    have h : j = 0 ∨ j = 1 ∨ j = 2 ∨ j = 3 ∨ j = 4 ∨ j = 5 ∨ j = 6 ∨ j = 7 := by omega
    rcases h with rfl | rfl | rfl | rfl | rfl | rfl | rfl | rfl <;> rfl
theorem lt_of {H : Type} {enc : TypeId × Value → H} {w : World} {spare : Nat → Bool} {held : Bool} {T : TypeId} {v : Value} {d : DataW H} {p : List MemPlace} (h : DataW.Trod enc Tryd.prog w 0 spare held T v d p) : ∀ x ∈ p, x.block < w.heap.size := by
  obtain ⟨m, hm⟩ := h
  exact DataW.trod_lt m _ _ _ hm
/-- Bytes that came in: what they are, and how many at most. -/
theorem open_bytes {H : Type} {enc : TypeId × Value → H} {w : World} {base : Nat} {held : Bool} {a : Option Addr} {n c : Nat} {d : DataW H} {p : List MemPlace}
    (h : DataW.Trod enc Tryd.prog w base (fun _ => true) held 22 (.slice a n c) d p) : ∃ f, SliceAt w a n c f ∧ (n = 0 ∨ ∃ es sp : List (DataW H), d = .slice es sp ∧ es.length + sp.length = c) := by
  obtain ⟨fuel, hf⟩ := h
  rcases open_ints Tryd.underlying22 Tryd.underlying5 cellsU8 hf with ⟨e, _⟩ | ⟨ad, len, cap, zs, e, hb, hl, hm, hzl, hx, hc, hw⟩
  · have e' : ([Value.slice a n c] : List Value) = [.slice none 0 0] := e
    simp only [List.cons.injEq, Value.slice.injEq, and_true] at e'
    obtain ⟨rfl, rfl, rfl⟩ := e'
    exact ⟨fun _ => 0, ⟨fun _ => by decide, Nat.le_refl _, .inl ⟨rfl, rfl, rfl⟩⟩, .inl rfl⟩
  · have e' : ([Value.slice a n c] : List Value) = [.slice (some ad) len cap] := e
    simp only [List.cons.injEq, Value.slice.injEq, and_true] at e'
    obtain ⟨rfl, rfl, rfl⟩ := e'
    rw [if_pos rfl] at hzl
    have hz : ∀ j, j < n → 0 ≤ zs.getD j 0 ∧ zs.getD j 0 < 256 := fun j hj => by
      have hjl : j < zs.length := by omega
      have := bounds_u8 (hw (zs.getD j 0) (by simp [List.getD, hjl]))
      omega
    refine ⟨fun j => if j < n then (zs.getD j 0).toNat else 0, ⟨fun j => ?_, hl, .inr ⟨ad, rfl, fun hn => ?_⟩⟩, .inr ?_⟩
    · split
      · have := hz j (by assumption); omega
      · decide
    · obtain ⟨b, o, s⟩ := ad
      obtain rfl : s = none := by simpa [Addr.add] using World.cell?_spot (hc 0 (by omega))
      refine ⟨b, o, rfl, fun j => ?_, ?_, fun j hj => ?_⟩
      · split
        · have := hz j (by assumption); omega
        · decide
      · exact World.block_lt_of_cell? w _ (hc 0 (by omega))
      · have h1 := hc j (by omega)
        have h2 := hz j hj
        rw [Go.WideShapes.add_plain] at h1
        rw [h1, if_pos hj, Int.toNat_of_nonneg h2.1]
    · simp only [Prod.mk.injEq] at hx
      exact ⟨_, _, hx.1, by simp [lits]; omega⟩
theorem wf_n8 {a : Int} (h : (Lit.int .u8 a).wf = true) : ∃ n : Nat, a = (n : Int) ∧ n < 256 := by
  have := bounds_u8 h
  exact ⟨a.toNat, by omega, by omega⟩
theorem wf_n16 {a : Int} (h : (Lit.int .u16 a).wf = true) : ∃ n : Nat, a = (n : Int) ∧ n < 65536 := by
  have := bounds_u16 h
  exact ⟨a.toNat, by omega, by omega⟩
theorem bytesU8 : Tryd.prog.bytesOf 5 = 1 := by kernel_rfl
end Go.Proofs.YtdaggankfokloaaDoor
