/- What a row's proof wants of a []byte that came in. -/
import Derived.Test.YtpggmebgndkpjaaDoorRowKit
import Derived.Test.YtpggmebgndkpjaaDoorLawRoundTrip
namespace Go.Proofs.YtpggmebgndkpjaaDoor
set_option linter.all false
open Go Go.ChangeShapes Go.WideShapes Go.ChangeAt Go.WideMaps Go.WideElems Go.RowKit

theorem cellsByte : Tryd.prog.cellsOf 5 = 1 := by kernel_rfl
theorem open_bytes {H : Type} {enc : TypeId × Value → H} {w : World} {base : Nat} {held : Bool} {a : Option Addr} {n c : Nat} {d : DataW H} {p : List MemPlace}
    (h : DataW.Trod enc Tryd.prog w base (fun _ => true) held 53 (.slice a n c) d p) : ∃ f, BytesArg w a n c f := by
  obtain ⟨fuel, hf⟩ := h
  rcases open_ints Tryd.underlying53 Tryd.underlying5 cellsByte hf with ⟨e, _⟩ | ⟨ad, len, cap, zs, e, hb, hl, hm, hzl, _, hc, hw⟩
  · have e' : ([Value.slice a n c] : List Value) = [.slice none 0 0] := e
    simp only [List.cons.injEq, Value.slice.injEq, and_true] at e'
    obtain ⟨rfl, rfl, rfl⟩ := e'
    exact ⟨fun _ => 0, ⟨fun _ => by decide, .inl rfl⟩, Nat.le_refl _⟩
  · have e' : ([Value.slice a n c] : List Value) = [.slice (some ad) len cap] := e
    simp only [List.cons.injEq, Value.slice.injEq, and_true] at e'
    obtain ⟨rfl, rfl, rfl⟩ := e'
    rw [if_pos rfl] at hzl
    have hz : ∀ j, j < n → 0 ≤ zs.getD j 0 ∧ zs.getD j 0 < 256 := fun j hj => by
      have hjl : j < zs.length := by omega
      have := bounds_u8 (hw (zs.getD j 0) (by simp [List.getD, hjl]))
      omega
    refine ⟨fun j => if j < n then (zs.getD j 0).toNat else 0, ⟨fun j => ?_, ?_⟩, hl⟩
    · split
      · have := hz j (by assumption); omega
      · decide
    · by_cases hn : n = 0
      · exact .inl hn
      · obtain ⟨b, o, s⟩ := ad
        obtain rfl : s = none := by simpa [Addr.add] using World.cell?_spot (hc 0 (by omega))
        refine .inr ⟨b, o, rfl, fun j => ?_, ?_, fun j hj => ?_⟩
        · split
          · have := hz j (by assumption); omega
          · decide
        · exact World.block_lt_of_cell? w _ (hc 0 (by omega))
        · have h1 := hc j (by omega)
          have h2 := hz j hj
          rw [Go.WideShapes.add_plain] at h1
          rw [h1, if_pos hj, Int.toNat_of_nonneg h2.1]
end Go.Proofs.YtpggmebgndkpjaaDoor
