/- From the elder words on memory to those of the walk by triples, and back. -/
import Derived.Test.YtpggmebgndkpjaaDoorLawSplit
import Derived.Test.YtpggmebgndkpjaaDoorRefJoin
import Derived.Test.YtpggmebgndkpjaaDoorTy
namespace Go.Proofs.YtpggmebgndkpjaaDoor
set_option linter.all false
open Go Go.RowKit

theorem pos_add {b o j : Nat} : (⟨b, o, none⟩ : Addr).add j = ⟨b, o + j, none⟩ := add_pos
theorem vq_get {x j : Nat} (hj : j < 4) : (vq x)[j]? = some (.int .u64 ((dg j x : Nat) : Int)) := by
  have h : j = 0 ∨ j = 1 ∨ j = 2 ∨ j = 3 := by omega
  rcases h with rfl | rfl | rfl | rfl <;> rfl
theorem vecs_of {w : World} {a : Option Addr} {n c : Nat} {X : Nat → Nat} (h : LstAt w 4 (.slice a n c) n (en vq X n)) : VecsAt w a n X := by
  refine ⟨?_⟩
  by_cases h0 : n = 0
  · exact .inl h0
  have ha := lst_some h (by omega)
  obtain ⟨a', c', he, _, _, hx⟩ := h.at_
  cases he
  obtain ⟨h1, h2, _⟩ := hx _ ha (by omega)
  refine .inr ⟨(adq a).block, (adq a).off, ?_, h2, fun i hi j hj => ?_⟩
  · rw [ha, ← h1]
    rfl
  · have := lstq h hi (en_chunk vq_len hi) j _ (vq_get hj)
    have e : adq a = ⟨(adq a).block, (adq a).off, none⟩ := by rw [← h1]
    rw [e, pos_add, pos_add] at this
    exact this
theorem vcs_en (X : Nat → Nat) (n : Nat) : vcs ((List.range n).map X) = en vq X n := by
  unfold vcs en
  rw [List.flatMap_map]
  rfl
/-- A row that a call made. -/
theorem Sat.ofOwn {F0 : Nat → Prop} {W w w' : World} {M R : List Res} {T : TypeId} {sz n : Nat} {v : Value} {xs : List Value} (hs : Sat F0 W M R w) (hb : Below w.heap.size w w') (ho : w'.ownsRow w.heap.size T sz v n xs) : Sat F0 W (row T sz v n xs :: M) R w' :=
  hs.new (.ofBelow hb) ⟨ho.1, ho.2.imp id fun ⟨g, cap, cur, e, hg, r⟩ => ⟨g, cap, cur, e, Nat.zero_le _, r⟩⟩ fun k hk => (ho.lt k hk).1
end Go.Proofs.YtpggmebgndkpjaaDoor
