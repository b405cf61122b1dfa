/- A loop whose round writes a block of its own: the world against one that is written out. -/
import Derived.Test.YtpggmebgndkpjaaDoorRegion
namespace Go.Proofs.YtpggmebgndkpjaaDoor
set_option linter.all false
open Go.RowKit

theorem below_both {B : Nat} {V w : World} (h : Below B V w) (a : Addr) (v : Value) : Below B (V.setCell a v) (w.setCell a v) :=
  ⟨h.os, h.tape, h.output, by simp only [World.setCell, Array.size_modify]; exact h.size,
   fun k hk => by simp only [World.setCell, Array.getElem?_modify, h.block k hk]⟩

theorem set_top (V : World) (c : Array Value) (t o : Nat) (d : Value) : (V.alloc (.cells c t)).setCell ⟨V.heap.size, o, none⟩ d = V.alloc (.cells (c.setIfInBounds o d) t) := by
  have e : ∀ (h : Array Obj) (f : Obj → Obj) (o : Obj), (h.push o).modify h.size f = h.push (f o) := fun h f o => by
    apply Array.ext
    · simp
    · intro i h1 h2
      simp only [Array.getElem_modify, Array.getElem_push]
      by_cases hi : i < h.size
      · rw [if_neg (by omega), dif_pos hi, dif_pos hi]
      · rw [if_pos (by simp at h1; omega), dif_neg hi, dif_neg hi]
  simp only [World.setCell, World.alloc, e]
  rfl

theorem below_four {B n t : Nat} {V w : World} {c0 c1 c2 c3 d0 d1 d2 d3 : Value} (h : Below B (V.alloc (.cells #[c0, c1, c2, c3] t)) w) (hn : n = V.heap.size) :
    Below B (V.alloc (.cells #[d0, d1, d2, d3] t)) ((((w.setCell ⟨n, 0, none⟩ d0).setCell ⟨n, 1, none⟩ d1).setCell ⟨n, 2, none⟩ d2).setCell ⟨n, 3, none⟩ d3) := by
  subst hn
  have h' := below_both (below_both (below_both (below_both h ⟨V.heap.size, 0, none⟩ d0) ⟨V.heap.size, 1, none⟩ d1) ⟨V.heap.size, 2, none⟩ d2) ⟨V.heap.size, 3, none⟩ d3
  simp only [set_top] at h'
  exact h'
end Go.Proofs.YtpggmebgndkpjaaDoor
