/- The law 'held' with the set of the taken operations as a number: quick for the kernel in long regions. -/
import Derived.Test.YtpggmebgndkpjaaDoorHeldx
namespace Go.Proofs.YtpggmebgndkpjaaDoor
set_option linter.all false
open Go Go.RowKit

def lsM (n m : Nat) : Array Bool := Array.ofFn fun i : Fin n => m.testBit i
theorem lsM_getD (n m j : Nat) (d : Bool) : (lsM n m).getD j d = if j < n then m.testBit j else d := by
  unfold lsM
  by_cases h : j < n <;> simp [Array.getD, h]
theorem lsM_set {n m i m' : Nat} (hm : m ||| 1 <<< i = m') : (lsM n m).setIfInBounds i true = lsM n m' := by
  subst hm
  unfold lsM
  apply Array.ext
  · simp
  · intro j h1 h2
    simp only [Array.size_setIfInBounds, Array.size_ofFn] at h1
    have e := Array.getElem_setIfInBounds (xs := Array.ofFn fun i : Fin n => m.testBit i) (i := i) (a := true) (j := j) (by simpa using h1)
    rw [e]
    simp only [Array.getElem_ofFn, Nat.testBit_or, Nat.one_shiftLeft, Nat.testBit_two_pow]
    by_cases e : i = j
    · simp [e]
    · simp [e]
theorem lsM_zero (n : Nat) : lsM n 0 = Array.replicate n false := by
  unfold lsM
  apply Array.ext <;> simp

section
variable {P : Program} {Q : Exit → Act → World → Prop} {L : List Nat} {V : World}

theorem heldm_begin {id : Nat} {a : Act} {w : World} {l : List Oper} (n : Nat) (L : List Nat) (hm : P.follows .mixedOrders = true) (hn : l.length = n) (hQ : ∀ c a d v w, Q (.panic c) (a.put d v) w → Q (.panic c) a w)
    (h : Hid (∀ c a d v w, Q (.panic c) (a.put d v) w → Q (.panic c) a w) → KeepL L w.drew w.drew → wpAnyH P .any l.toArray Q (KeepL L w.drew) n (lsM n 0) a w.drew) : (Code.region id l.toArray true).wp P Q a w :=
  held_begin n L hm hn hQ (by rw [← lsM_zero]; exact h)

variable {md : Region.Mode} {ops : Array Oper} {n N m m' : Nat} {a : Act} {w : World} {o : Oper}

/-- All that binds o is taken. -/
def afterM (md : Region.Mode) (m : Nat) (o : Oper) : Bool := o.after.all fun e => !Region.binds md e || m.testBit e.on
/-- Those of the list that neither wait for i nor are waited for by it are apart from it. -/
def apartM (md : Region.Mode) (ops : Array Oper) (i : Nat) (o : Oper) : Nat → List Oper → Bool
  | _, [] => true
  | j, y :: r => (j == i || y.after.any (fun e => Region.binds md e && e.on == i) || o.after.any (fun e => Region.binds md e && e.on == j) || o.apart ops y) && apartM md ops i o (j + 1) r
theorem apartM_spec {i : Nat} {o : Oper} : ∀ {l : List Oper} {k : Nat}, apartM md ops i o k l = true → ∀ j y, l[j]? = some y →
    (k + j = i ∨ (∃ e ∈ y.after, Region.binds md e = true ∧ e.on = i) ∨ (∃ e ∈ o.after, Region.binds md e = true ∧ e.on = k + j) ∨ o.apart ops y = true)
  | [], _, _, j, y, h => by simp at h
  | y :: r, k, hB, j, z, h => by
    simp only [apartM, Bool.and_eq_true, Bool.or_eq_true, beq_iff_eq, Array.any_eq_true'] at hB
    cases j with
    | zero =>
      simp only [List.getElem?_cons_zero, Option.some.injEq] at h
      subst h
      rcases hB.1 with ((h1 | ⟨e, h1, h2, h3⟩) | ⟨e, h1, h2, h3⟩) | h1
      · exact .inl h1
      · exact .inr (.inl ⟨e, h1, h2, h3⟩)
      · exact .inr (.inr (.inl ⟨e, h1, h2, h3⟩))
      · exact .inr (.inr (.inr h1))
    | succ j =>
      have := apartM_spec hB.2 j z (by simpa using h)
      rwa [show k + 1 + j = k + (j + 1) by omega] at this
/-- None but i may come up. -/
def soleM (md : Region.Mode) (m i : Nat) : Nat → List Oper → Bool
  | _, [] => true
  | j, y :: r => (j == i || m.testBit j || y.after.any fun e => Region.binds md e && !m.testBit e.on) && soleM md m i (j + 1) r
theorem soleM_spec {i : Nat} : ∀ {l : List Oper} {k : Nat}, soleM md m i k l = true → ∀ j y, l[j]? = some y → k + j = i ∨ m.testBit (k + j) = true ∨ ∃ e ∈ y.after, Region.binds md e = true ∧ m.testBit e.on = false
  | [], _, _, j, y, h => by simp at h
  | y :: r, k, hB, j, z, h => by
    simp only [soleM, Bool.and_eq_true, Bool.or_eq_true, beq_iff_eq, Array.any_eq_true', Bool.not_eq_true'] at hB
    cases j with
    | zero =>
      simp only [List.getElem?_cons_zero, Option.some.injEq] at h
      subst h
      rcases hB.1 with (h1 | h1) | ⟨e, h1, h2, h3⟩
      · exact .inl h1
      · exact .inr (.inl h1)
      · exact .inr (.inr ⟨e, h1, h2, h3⟩)
    | succ j =>
      have := soleM_spec hB.2 j z (by simpa using h)
      rwa [show k + 1 + j = k + (j + 1) by omega] at this
/-- Those that bind lie before. -/
theorem readyM {i : Nat} {r : List Oper} (hN : ops.size ≤ N) (hi : ops.toList.drop i = o :: r) (hun : m.testBit i = false) (haf : afterM md m o = true) (hlt : o.after.all (fun e => e.on < N) = true) : i ∈ Region.ready md ops (lsM N m) := by
  have hi' := drop_at hi
  have hl := (Array.getElem?_eq_some_iff.1 hi').1
  refine mem_ready.2 ⟨by rw [lsM_getD, if_pos (by omega)]; exact hun, o, hi', fun e he hb => ?_⟩
  have h1 := Array.all_eq_true_iff_forall_mem.1 haf e he
  have h2 := Array.all_eq_true_iff_forall_mem.1 hlt e he
  simp only [hb, Bool.not_true, Bool.false_or] at h1
  rw [lsM_getD, if_pos (by simpa using h2)]
  exact h1
theorem freeM {i : Nat} {r : List Oper} (hN : ops.size ≤ N) (hi : ops.toList.drop i = o :: r) (haf : afterM md m o = true) (hap : apartM md ops i o 0 ops.toList = true) :
    ∀ j oj, ops[j]? = some oj → j ≠ i → (lsM N m).getD j true = false → (∀ e ∈ oj.after, Region.binds md e = true → e.on ≠ i) → o.apart ops oj = true := by
  intro j oj hj hne hun hno
  have hl := (Array.getElem?_eq_some_iff.1 hj).1
  rw [lsM_getD, if_pos (by omega)] at hun
  rcases apartM_spec hap j oj (by simpa using hj) with h | ⟨e, h1, h2, h3⟩ | ⟨e, h1, h2, h3⟩ | h
  · exact absurd (by omega) hne
  · exact absurd h3 (hno e h1 h2)
  · have h4 := Array.all_eq_true_iff_forall_mem.1 haf e h1
    rw [show e.on = j by omega] at h4
    simp only [h2, Bool.not_true, Bool.false_or] at h4
    rw [hun] at h4
    cases h4
  · exact h

theorem heldm_v (i : Nat) {r : List Oper} (hN : ops.size ≤ N) (hi : ops.toList.drop i = o :: r) (hs : Region.noSelect ops = true) (hun : m.testBit i = false) (haf : afterM md m o = true) (hlt : o.after.all (fun e => e.on < N) = true)
    (hap : apartM md ops i o 0 ops.toList = true) (hm : m ||| 1 <<< i = m') (hQ : Hid (∀ c a d v w, Q (.panic c) (a.put d v) w → Q (.panic c) a w)) (hS : KeepL L V w) (hg : Region.wanted o (yielded ops a.tmps) = true)
    (h : ∃ v, (∀ w', KeepL L V w' → (execOp a.eval o).run P w' = .ok (.value v) w') ∧ wpAnyH P md ops Q (KeepL L V) n (lsM N m') (a.put o.dst v) w) :
    wpAnyH P md ops Q (KeepL L V) (n + 1) (lsM N m) a w := by
  obtain ⟨v, h1, h2⟩ := h
  rw [← lsM_set hm] at h2
  exact wpAnyH_first (drop_at hi) (Region.noSelect_spec hs) (fun c a w h => hQ.out c a _ v w h) n _ a w (freeM hN hi haf hap) (readyM hN hi hun haf hlt) (.inl ⟨hg, h1⟩) hS h2
theorem heldm_s (i : Nat) {r : List Oper} (hN : ops.size ≤ N) (hi : ops.toList.drop i = o :: r) (hs : Region.noSelect ops = true) (hun : m.testBit i = false) (haf : afterM md m o = true) (hlt : o.after.all (fun e => e.on < N) = true)
    (hap : apartM md ops i o 0 ops.toList = true) (hm : m ||| 1 <<< i = m') (hQ : Hid (∀ c a d v w, Q (.panic c) (a.put d v) w → Q (.panic c) a w)) (hS : KeepL L V w) (hg : Region.wanted o (yielded ops a.tmps) = false)
    (h : wpAnyH P md ops Q (KeepL L V) n (lsM N m') (a.put o.dst undef) w) :
    wpAnyH P md ops Q (KeepL L V) (n + 1) (lsM N m) a w := by
  rw [← lsM_set hm] at h
  exact wpAnyH_first (drop_at hi) (Region.noSelect_spec hs) (fun c a w h => hQ.out c a _ undef w h) n _ a w (freeM hN hi haf hap) (readyM hN hi hun haf hlt) (.inr ⟨hg, rfl⟩) hS h

theorem heldm_one (i : Nat) {r : List Oper} (hN : ops.size ≤ N) (hi : ops.toList.drop i = o :: r) (hun : m.testBit i = false) (haf : afterM md m o = true) (hlt : o.after.all (fun e => e.on < N) = true) (hso : soleM md m i 0 ops.toList = true) (hm : m ||| 1 <<< i = m')
    (hg : Region.wanted o (yielded ops a.tmps) = true)
    (h : o.wp P a w (fun a' w' => KeepL L V w' ∧ wpAnyH P md ops Q (KeepL L V) n (lsM N m') a' w') Q) : wpAnyH P md ops Q (KeepL L V) (n + 1) (lsM N m) a w := by
  have hr := readyM (md := md) hN hi hun haf hlt
  rw [← lsM_set hm] at h
  refine ⟨fun h0 => (by rw [h0] at hr; cases hr), fun j hj => ?_⟩
  obtain ⟨hjun, oj, hoj, hall⟩ := mem_ready.1 hj
  have hl := (Array.getElem?_eq_some_iff.1 hoj).1
  rw [lsM_getD, if_pos (by omega)] at hjun
  have e : j = i := by
    rcases soleM_spec hso j oj (by simpa using hoj) with h1 | h1 | ⟨e, h1, h2, h3⟩
    · omega
    · rw [Nat.zero_add, hjun] at h1; cases h1
    · have h4 := hall e h1 h2
      rw [lsM_getD] at h4
      split at h4
      · rw [h3] at h4; cases h4
      · cases h4
  subst e
  unfold wpOp
  simp only [drop_at hi]
  rw [if_pos hg]
  exact .inl h
theorem heldm_call (i : Nat) {r : List Oper} (hN : ops.size ≤ N) (hi : ops.toList.drop i = o :: r) (hun : m.testBit i = false) (haf : afterM md m o = true) (hlt : o.after.all (fun e => e.on < N) = true) (hso : soleM md m i 0 ops.toList = true) (hm : m ||| 1 <<< i = m')
    (hg : Region.wanted o (yielded ops a.tmps) = true) (hS : KeepL L V w)
    (h : ∃ f args v, (execOp a.eval o).run P w = .ok (.enter f args) w ∧ (Calls P f args w fun e w' => e = .returned v ∧ Below w.heap.size w w') ∧ (∀ b ∈ L, b < w.heap.size) ∧
      ∀ w', Below w.heap.size w w' → KeepL L V w' → wpAnyH P md ops Q (KeepL L V) n (lsM N m') (a.put o.dst v) w') :
    wpAnyH P md ops Q (KeepL L V) (n + 1) (lsM N m) a w := by
  obtain ⟨f, args, v, he, hc, hL, hk⟩ := h
  refine heldm_one i hN hi hun haf hlt hso hm hg ?_
  unfold Oper.wp
  rw [he]
  refine hc.mono ?_
  rintro _ w' ⟨rfl, hb⟩
  exact ⟨hS.below hb hL, hk w' hb (hS.below hb hL)⟩
theorem heldm_callx (i : Nat) {r : List Oper} (hN : ops.size ≤ N) (hi : ops.toList.drop i = o :: r) (hun : m.testBit i = false) (haf : afterM md m o = true) (hlt : o.after.all (fun e => e.on < N) = true) (hso : soleM md m i 0 ops.toList = true) (hm : m ||| 1 <<< i = m')
    (hg : Region.wanted o (yielded ops a.tmps) = true) (hS : KeepL L V w)
    (h : ∃ f args, ∃ R : Value → World → Prop, (execOp a.eval o).run P w = .ok (.enter f args) w ∧ (Calls P f args w fun e w' => (∃ v, e = .returned v ∧ R v w') ∧ Below w.heap.size w w') ∧ (∀ b ∈ L, b < w.heap.size) ∧
      ∀ v w', R v w' → Below w.heap.size w w' → KeepL L V w' → wpAnyH P md ops Q (KeepL L V) n (lsM N m') (a.put o.dst v) w') :
    wpAnyH P md ops Q (KeepL L V) (n + 1) (lsM N m) a w := by
  obtain ⟨f, args, R, he, hc, hL, hk⟩ := h
  refine heldm_one i hN hi hun haf hlt hso hm hg ?_
  unfold Oper.wp
  rw [he]
  refine hc.mono ?_
  rintro _ w' ⟨⟨v, rfl, hR⟩, hb⟩
  exact ⟨hS.below hb hL, hk v w' hR hb (hS.below hb hL)⟩
theorem heldm_o (i : Nat) {r : List Oper} (hN : ops.size ≤ N) (hi : ops.toList.drop i = o :: r) (hun : m.testBit i = false) (haf : afterM md m o = true) (hlt : o.after.all (fun e => e.on < N) = true) (hso : soleM md m i 0 ops.toList = true) (hm : m ||| 1 <<< i = m')
    (hg : Region.wanted o (yielded ops a.tmps) = true)
    (h : ∃ v w', (execOp a.eval o).run P w = .ok (.value v) w' ∧ KeepL L V w' ∧ (KeepL L V w' → wpAnyH P md ops Q (KeepL L V) n (lsM N m') (a.put o.dst v) w')) :
    wpAnyH P md ops Q (KeepL L V) (n + 1) (lsM N m) a w := by
  obtain ⟨v, w', he, hk, h⟩ := h
  refine heldm_one i hN hi hun haf hlt hso hm hg ?_
  unfold Oper.wp
  rw [he]
  exact ⟨hk, h hk⟩
theorem heldm_t (i : Nat) {r : List Oper} (hN : ops.size ≤ N) (hi : ops.toList.drop i = o :: r) (hun : m.testBit i = false) (haf : afterM md m o = true) (hlt : o.after.all (fun e => e.on < N) = true) (hso : soleM md m i 0 ops.toList = true) (hm : m ||| 1 <<< i = m')
    (hg : Region.wanted o (yielded ops a.tmps) = true)
    (h : ∃ w', (execOp a.eval o).run P w = .ok .skip w' ∧ KeepL L V w' ∧ (KeepL L V w' → wpAnyH P md ops Q (KeepL L V) n (lsM N m') (a.put o.dst undef) w')) :
    wpAnyH P md ops Q (KeepL L V) (n + 1) (lsM N m) a w := by
  obtain ⟨w', he, hk, h⟩ := h
  refine heldm_one i hN hi hun haf hlt hso hm hg ?_
  unfold Oper.wp
  rw [he]
  exact ⟨hk, h hk⟩
/-- All are taken. -/
def doneM (m : Nat) : Nat → Bool | 0 => true | k + 1 => m.testBit k && doneM m k
theorem doneM_spec {m : Nat} : ∀ {k}, doneM m k = true → ∀ j, j < k → m.testBit j = true
  | 0, _, j, hj => by omega
  | k + 1, h, j, hj => by
    simp only [doneM, Bool.and_eq_true] at h
    rcases Nat.lt_or_ge j k with h1 | h1
    · exact doneM_spec h.2 j h1
    · rw [show j = k by omega]; exact h.1
theorem heldm_end (hN : ops.size ≤ N) (hd : doneM m N = true) (h : Q .normal a w) : wpAnyH P md ops Q (KeepL L V) 0 (lsM N m) a w := by
  refine wpAnyH_done ?_ h 0
  rw [List.eq_nil_iff_forall_not_mem]
  intro j hj
  obtain ⟨hjun, oj, hoj, _⟩ := mem_ready.1 hj
  have hl := (Array.getElem?_eq_some_iff.1 hoj).1
  rw [lsM_getD, if_pos (by omega), doneM_spec hd j (by omega)] at hjun
  cases hjun
end
end Go.Proofs.YtpggmebgndkpjaaDoor
