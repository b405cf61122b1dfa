/- The law 'held' where two operations may come up: both ways. -/
import Derived.Test.YtdaggankfokloaaDoorHeldM
namespace Go.Proofs.YtdaggankfokloaaDoor
set_option linter.all false
open Go Go.RowKit

/-- None but i and k may come up. -/
def soleM2 (md : Region.Mode) (m i k : Nat) : Nat → List Oper → Bool
  | _, [] => true
  | j, y :: r => (j == i || j == k || m.testBit j || y.after.any fun e => Region.binds md e && !m.testBit e.on) && soleM2 md m i k (j + 1) r
theorem soleM2_spec {md : Region.Mode} {m i k' : Nat} : ∀ {l : List Oper} {k : Nat}, soleM2 md m i k' k l = true → ∀ j y, l[j]? = some y → k + j = i ∨ k + j = k' ∨ m.testBit (k + j) = true ∨ ∃ e ∈ y.after, Region.binds md e = true ∧ m.testBit e.on = false
  | [], _, _, j, y, h => by simp at h
  | y :: r, k, hB, j, z, h => by
    simp only [soleM2, Bool.and_eq_true, Bool.or_eq_true, beq_iff_eq, Array.any_eq_true', Bool.not_eq_true'] at hB
    cases j with
    | zero =>
      simp only [List.getElem?_cons_zero, Option.some.injEq] at h
      subst h
      rcases hB.1 with ((h1 | h1) | h1) | ⟨e, h1, h2, h3⟩
      · exact .inl h1
      · exact .inr (.inl h1)
      · exact .inr (.inr (.inl h1))
      · exact .inr (.inr (.inr ⟨e, h1, h2, h3⟩))
    | succ j =>
      have := soleM2_spec hB.2 j z (by simpa using h)
      rwa [show k + 1 + j = k + (j + 1) by omega] at this

section
variable {P : Program} {Q : Exit → Act → World → Prop} {L : List Nat} {V : World} {md : Region.Mode} {ops : Array Oper} {n N m m1 m2 : Nat} {a : Act} {w : World} {o o2 : Oper}

theorem heldm_two (i k : Nat) {r r2 : List Oper} (hN : ops.size ≤ N) (hi : ops.toList.drop i = o :: r) (hk : ops.toList.drop k = o2 :: r2) (hun : m.testBit i = false) (haf : afterM md m o = true) (hlt : o.after.all (fun e => e.on < N) = true)
    (hso : soleM2 md m i k 0 ops.toList = true) (hm1 : m ||| 1 <<< i = m1) (hm2 : m ||| 1 <<< k = m2)
    (hg1 : Region.wanted o (yielded ops a.tmps) = true) (hg2 : Region.wanted o2 (yielded ops a.tmps) = true)
    (h1 : o.wp P a w (fun a' w' => KeepL L V w' ∧ wpAnyH P md ops Q (KeepL L V) n (lsM N m1) a' w') Q)
    (h2 : o2.wp P a w (fun a' w' => KeepL L V w' ∧ wpAnyH P md ops Q (KeepL L V) n (lsM N m2) a' w') Q) : wpAnyH P md ops Q (KeepL L V) (n + 1) (lsM N m) a w := by
  have hr := readyM (md := md) hN hi hun haf hlt
  rw [← lsM_set hm1] at h1
  rw [← lsM_set hm2] at h2
  refine ⟨fun h0 => (by rw [h0] at hr; cases hr), fun j hj => ?_⟩
  obtain ⟨hjun, oj, hoj, hall⟩ := mem_ready.1 hj
  have hl := (Array.getElem?_eq_some_iff.1 hoj).1
  rw [lsM_getD, if_pos (by omega)] at hjun
  have e : j = i ∨ j = k := by
    rcases soleM2_spec hso j oj (by simpa using hoj) with h1 | h1 | h1 | ⟨e, h1, h2, h3⟩
    · omega
    · omega
    · rw [Nat.zero_add, hjun] at h1; cases h1
    · have h4 := hall e h1 h2
      rw [lsM_getD] at h4
      split at h4
      · rw [h3] at h4; cases h4
      · cases h4
  rcases e with rfl | rfl
  · unfold wpOp
    simp only [drop_at hi]
    rw [if_pos hg1]
    exact .inl h1
  · unfold wpOp
    simp only [drop_at hk]
    rw [if_pos hg2]
    exact .inl h2
theorem heldw_call {K : Act → World → Prop} (hS : KeepL L V w)
    (h : ∃ f args v, (execOp a.eval o).run P w = .ok (.enter f args) w ∧ (Calls P f args w fun e w' => e = .returned v ∧ Below w.heap.size w w') ∧ (∀ b ∈ L, b < w.heap.size) ∧
      ∀ w', Below w.heap.size w w' → KeepL L V w' → K (a.put o.dst v) w') : o.wp P a w (fun a' w' => KeepL L V w' ∧ K a' w') Q := by
  obtain ⟨f, args, v, he, hc, hL, hk⟩ := h
  unfold Oper.wp
  rw [he]
  refine hc.mono ?_
  rintro _ w' ⟨rfl, hb⟩
  exact ⟨hS.below hb hL, hk w' hb (hS.below hb hL)⟩
theorem heldw_o {K : Act → World → Prop} (h : ∃ v w', (execOp a.eval o).run P w = .ok (.value v) w' ∧ KeepL L V w' ∧ (KeepL L V w' → K (a.put o.dst v) w')) : o.wp P a w (fun a' w' => KeepL L V w' ∧ K a' w') Q := by
  obtain ⟨v, w', he, hk, h⟩ := h
  unfold Oper.wp
  rw [he]
  exact ⟨hk, h hk⟩
end
end Go.Proofs.YtdaggankfokloaaDoor
