/- A region that draws its order: loads and what only reckons are taken first, in every world that keeps the named blocks; calls, stores and what makes memory come in their one order. -/
import Derived.OrdersHeld
import Derived.Lib.Hide
import Derived.Test.YtpggmebgndkpjaaDoorRegion
namespace Go.Proofs.YtpggmebgndkpjaaDoor
set_option linter.all false
open Go Go.RowKit

/-- The named blocks hold what they held. -/
def KeepL (L : List Nat) (V w : World) : Prop := ∀ b ∈ L, ∀ o, w.cell? ⟨b, o, none⟩ = V.cell? ⟨b, o, none⟩
theorem KeepL.refl (L : List Nat) (V : World) : KeepL L V V := fun _ _ _ => rfl
theorem KeepL.below {L : List Nat} {V w w' : World} (h : KeepL L V w) (hb : Below w.heap.size w w') (hL : ∀ b ∈ L, b < w.heap.size) : KeepL L V w' :=
  fun b hm o => (hb.cell (p := ⟨b, o, none⟩) (hL b hm)).trans (h b hm o)
theorem KeepL.set {L : List Nat} {V w : World} (h : KeepL L V w) (p : Addr) (v : Value) (hp : ∀ b ∈ L, b ≠ p.block) : KeepL L V (w.setCell p v) :=
  fun b hm o => (World.cell?_setCell_other (w := w) (v := v) (a := p) (b := ⟨b, o, none⟩) (fun e => hp b hm (by rw [e]))).trans (h b hm o)
theorem KeepL.alloc {L : List Nat} {V w : World} (h : KeepL L V w) (ob : Obj) (hL : ∀ b ∈ L, b < w.heap.size) : KeepL L V (w.alloc ob) :=
  h.below ((Below.refl _ _).alloc (Nat.le_refl _) _) hL
theorem KeepL.drewN {L : List Nat} {V w : World} (h : KeepL L V w) (n : Nat) : KeepL L V (w.drewN n) := h
theorem KeepL.drew {L : List Nat} {V w : World} (h : KeepL L V w) : KeepL L V w.drew := h

section
variable {P : Program} {Q : Exit → Act → World → Prop} {L : List Nat} {V : World}

theorem held_begin {id : Nat} {a : Act} {w : World} {l : List Oper} (n : Nat) (L : List Nat) (hm : P.follows .mixedOrders = true) (hn : l.length = n) (hQ : ∀ c a d v w, Q (.panic c) (a.put d v) w → Q (.panic c) a w)
    (h : Hid (∀ c a d v w, Q (.panic c) (a.put d v) w → Q (.panic c) a w) → KeepL L w.drew w.drew → wpAnyH P .any l.toArray Q (KeepL L w.drew) n (Array.replicate n false) a w.drew) : (Code.region id l.toArray true).wp P Q a w := by
  refine wp_region_held (S := KeepL L w.drew) hm ?_
  have hs : l.toArray.size = n := by simpa using hn
  rw [hs]
  exact h (Lib.hid hQ) (KeepL.refl _ _)

variable {md : Region.Mode} {ops : Array Oper} {n : Nat} {ls : Array Bool} {a : Act} {w : World} {o : Oper}

theorem drop_at {ops : Array Oper} {i : Nat} {o : Oper} {r : List Oper} (h : ops.toList.drop i = o :: r) : ops[i]? = some o := by
  have := congrArg (fun l => l[0]?) h
  simpa using this
/-- It yields its value in every world that keeps the blocks. -/
theorem held_v (i : Nat) {r : List Oper} (hi : ops.toList.drop i = o :: r) (hs : Region.noSelect ops = true) (hf : Region.free md ops ls i = true) (hr : (Region.ready md ops ls).contains i = true)
    (hQ : Hid (∀ c a d v w, Q (.panic c) (a.put d v) w → Q (.panic c) a w)) (hS : KeepL L V w) (hg : Region.wanted o (yielded ops a.tmps) = true)
    (h : ∃ v, (∀ w', KeepL L V w' → (execOp a.eval o).run P w' = .ok (.value v) w') ∧ wpAnyH P md ops Q (KeepL L V) n (ls.setIfInBounds i true) (a.put o.dst v) w) :
    wpAnyH P md ops Q (KeepL L V) (n + 1) ls a w := by
  obtain ⟨v, h1, h2⟩ := h
  exact wpAnyH_take (drop_at hi) hs hf hr (fun c a w h => hQ.out c a _ v w h) (.inl ⟨hg, h1⟩) hS h2
/-- Its guard says no. -/
theorem held_s (i : Nat) {r : List Oper} (hi : ops.toList.drop i = o :: r) (hs : Region.noSelect ops = true) (hf : Region.free md ops ls i = true) (hr : (Region.ready md ops ls).contains i = true)
    (hQ : Hid (∀ c a d v w, Q (.panic c) (a.put d v) w → Q (.panic c) a w)) (hS : KeepL L V w) (hg : Region.wanted o (yielded ops a.tmps) = false)
    (h : wpAnyH P md ops Q (KeepL L V) n (ls.setIfInBounds i true) (a.put o.dst undef) w) :
    wpAnyH P md ops Q (KeepL L V) (n + 1) ls a w :=
  wpAnyH_take (drop_at hi) hs hf hr (fun c a w h => hQ.out c a _ undef w h) (.inr ⟨hg, rfl⟩) hS h

theorem held_one (i : Nat) {r : List Oper} (hi : ops.toList.drop i = o :: r) (hr : Region.ready md ops ls = [i]) (hg : Region.wanted o (yielded ops a.tmps) = true)
    (h : o.wp P a w (fun a' w' => KeepL L V w' ∧ wpAnyH P md ops Q (KeepL L V) n (ls.setIfInBounds i true) a' w') Q) : wpAnyH P md ops Q (KeepL L V) (n + 1) ls a w := by
  refine wpAnyH_all hr (by simp) fun j hj => ?_
  obtain rfl : j = i := by simpa using hj
  unfold wpOp
  simp only [drop_at hi]
  rw [if_pos hg]
  exact .inl h

/-- The next of those in order calls a function. -/
theorem held_call (i : Nat) {r : List Oper} (hi : ops.toList.drop i = o :: r) (hr : Region.ready md ops ls = [i]) (hg : Region.wanted o (yielded ops a.tmps) = true) (hS : KeepL L V w)
    (h : ∃ f args v, (execOp a.eval o).run P w = .ok (.enter f args) w ∧ (Calls P f args w fun e w' => e = .returned v ∧ Below w.heap.size w w') ∧ (∀ b ∈ L, b < w.heap.size) ∧
      ∀ w', Below w.heap.size w w' → KeepL L V w' → wpAnyH P md ops Q (KeepL L V) n (ls.setIfInBounds i true) (a.put o.dst v) w') :
    wpAnyH P md ops Q (KeepL L V) (n + 1) ls a w := by
  obtain ⟨f, args, v, he, hc, hL, hk⟩ := h
  refine held_one i hi hr hg ?_
  unfold Oper.wp
  rw [he]
  refine hc.mono ?_
  rintro _ w' ⟨rfl, hb⟩
  exact ⟨hS.below hb hL, hk w' hb (hS.below hb hL)⟩
/-- The next of those in order leaves a value, and another world. -/
theorem held_o (i : Nat) {r : List Oper} (hi : ops.toList.drop i = o :: r) (hr : Region.ready md ops ls = [i]) (hg : Region.wanted o (yielded ops a.tmps) = true)
    (h : ∃ v w', (execOp a.eval o).run P w = .ok (.value v) w' ∧ KeepL L V w' ∧ (KeepL L V w' → wpAnyH P md ops Q (KeepL L V) n (ls.setIfInBounds i true) (a.put o.dst v) w')) :
    wpAnyH P md ops Q (KeepL L V) (n + 1) ls a w := by
  obtain ⟨v, w', he, hk, h⟩ := h
  refine held_one i hi hr hg ?_
  unfold Oper.wp
  rw [he]
  exact ⟨hk, h hk⟩
/-- The next of those in order stores. -/
theorem held_t (i : Nat) {r : List Oper} (hi : ops.toList.drop i = o :: r) (hr : Region.ready md ops ls = [i]) (hg : Region.wanted o (yielded ops a.tmps) = true)
    (h : ∃ w', (execOp a.eval o).run P w = .ok .skip w' ∧ KeepL L V w' ∧ (KeepL L V w' → wpAnyH P md ops Q (KeepL L V) n (ls.setIfInBounds i true) (a.put o.dst undef) w')) :
    wpAnyH P md ops Q (KeepL L V) (n + 1) ls a w := by
  obtain ⟨w', he, hk, h⟩ := h
  refine held_one i hi hr hg ?_
  unfold Oper.wp
  rw [he]
  exact ⟨hk, h hk⟩
theorem held_end {a : Act} {w : World} {ls : Array Bool} (hr : Region.ready md ops ls = []) (h : Q .normal a w) : wpAnyH P md ops Q (KeepL L V) 0 ls a w := wpAnyH_done hr h 0
end
/-- The world at hand gets a name. -/
theorem wp_name {P : Program} {Q : Exit → Act → World → Prop} {a : Act} {c : Code} {w : World} (h : ∀ wS, wS = w → c.wp P Q a wS) : c.wp P Q a w := h w rfl
theorem wpl_name {P : Program} {ops : Array Oper} {Q : Exit → Act → World → Prop} {a : Act} {l : List Oper} {w : World} (h : ∀ wS, wS = w → wpList P ops Q l a wS) : wpList P ops Q l a w := h w rfl
end Go.Proofs.YtpggmebgndkpjaaDoor
