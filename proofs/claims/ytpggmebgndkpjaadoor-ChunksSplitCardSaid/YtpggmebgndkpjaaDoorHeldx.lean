/- The law 'held' at a call whose result is known but for a name: R says what it is. -/
import Derived.Test.YtpggmebgndkpjaaDoorHeld
namespace Go.Proofs.YtpggmebgndkpjaaDoor
set_option linter.all false
open Go Go.RowKit

theorem held_callx {P : Program} {Q : Exit → Act → World → Prop} {L : List Nat} {V : World} {md : Region.Mode} {ops : Array Oper} {n : Nat} {ls : Array Bool} {a : Act} {w : World} {o : Oper}
    (i : Nat) {r : List Oper} (hi : ops.toList.drop i = o :: r) (hr : Region.ready md ops ls = [i]) (hg : Region.wanted o (yielded ops a.tmps) = true) (hS : KeepL L V w)
    (h : ∃ f args, ∃ R : Value → World → Prop, (execOp a.eval o).run P w = .ok (.enter f args) w ∧ (Calls P f args w fun e w' => (∃ v, e = .returned v ∧ R v w') ∧ Below w.heap.size w w') ∧ (∀ b ∈ L, b < w.heap.size) ∧
      ∀ v w', R v w' → Below w.heap.size w w' → KeepL L V w' → wpAnyH P md ops Q (KeepL L V) n (ls.setIfInBounds i true) (a.put o.dst v) w') :
    wpAnyH P md ops Q (KeepL L V) (n + 1) ls a w := by
  obtain ⟨f, args, R, he, hc, hL, hk⟩ := h
  refine held_one i hi hr hg ?_
  unfold Oper.wp
  rw [he]
  refine hc.mono ?_
  rintro _ w' ⟨⟨v, rfl, hR⟩, hb⟩
  exact ⟨hS.below hb hL, hk v w' hR hb (hS.below hb hL)⟩
theorem bp_name {P : Program} {f : Func} {Q : Ending → World → Prop} {x : Exit} {a : Act} {w : World} (h : ∀ wS, wS = w → bodyPost P f Q x a wS) : bodyPost P f Q x a w := h w rfl
end Go.Proofs.YtpggmebgndkpjaaDoor
