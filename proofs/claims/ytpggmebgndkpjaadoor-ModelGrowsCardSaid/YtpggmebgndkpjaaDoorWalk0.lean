/- A region that draws its order, walked once in the order of the text. The first n operations (the head) are quiet in a class C of worlds: each yields one value in every world of the class and leaves a world of the class (a load of an old cell, a call that only makes memory). A head operation may float: then it yields its value in every world whatever, and may come up among the tail. The tail comes in one order. A region that draws its order: loads and what only reckons are taken first, in every world that keeps the named blocks; calls, stores and what makes memory come in their one order. The law 'held' at a call whose result is known but for a name: R says what it is. The law 'held' with the set of the taken operations as a number: quick for the kernel in long regions. A region that draws its order, whose head only makes memory: calls, loads, and operations that lay a new block each, in any order; then a tail in one order. A loop whose round writes a block of its own: the world against one that is written out. A region that draws its order, inside a round of a range over a function: loads and what only reckons are taken first, in every world that keeps the named blocks; calls, stores and what makes memory come in their one order. -/
import Derived.StillTail
import Derived.Deep.Quiet
import Derived.WalkKit
import Derived.KernelRfl
import Derived.Deep.Draws
import Derived.OrdersHeld
import Derived.Lib.Hide
import Derived.OrdersIn
import Derived.RangeFuncNested
import Derived.RangeFuncBound
import Derived.RangeFuncCalls
import Derived.RangeFuncLeaves
import Derived.RangeFuncBox
import Derived.RangeFuncFrom
import Derived.Shelf.Abstract
import Derived.Shelf.RegionOpen
import Derived.OwnWalkIn
import Derived.TacticsInMore
import Derived.LoopNIn
import Derived.LoopIn
import Derived.Maps.AppendAt
namespace Go.Proofs.YtpggmebgndkpjaaDoor
set_option linter.all false
open Go Go.RowKit

section
variable {P : Program} {ops : Array Oper} {md : Region.Mode} {C : World → Prop}

/-- The walk's own statement: what the operations of the head come to, one behind the other. -/
def wpMix (P : Program) (ops : Array Oper) (C : World → Prop) (Q : Act → Prop) : List Bool → List Oper → Act → Prop
  | _, [], a => Q a
  | true :: fs, o :: rest, a => ∃ v, Yields P ops o v a ∧ wpMix P ops C Q fs rest (a.put o.dst v)
  | false :: fs, o :: rest, a => if Region.wanted o (yielded ops a.tmps) then o.quiet P a C (wpMix P ops C Q fs rest) else wpMix P ops C Q fs rest (a.put o.dst undef)
  | [], o :: rest, a => if Region.wanted o (yielded ops a.tmps) then o.quiet P a C (wpMix P ops C Q [] rest) else wpMix P ops C Q [] rest (a.put o.dst undef)

/-- Head operations keep to the class; whatever of the tail comes up is right in every world of the class. -/
def mixAny (P : Program) (md : Region.Mode) (ops : Array Oper) (C : World → Prop) (Q : Exit → Act → World → Prop) (n g : Nat) : Nat → Array Bool → Act → Prop
  | 0, ls, a => (∀ j ∈ Region.ready md ops ls, n ≤ j) ∧ ∀ w, C w → wpAny P md ops Q g ls a w
  | f + 1, ls, a => Region.ready md ops ls ≠ [] ∧ ∀ i ∈ Region.ready md ops ls,
      (i < n → qOp P ops C i (mixAny P md ops C Q n g f (ls.setIfInBounds i true)) a) ∧
      (n ≤ i → ∀ w, C w → wpOp P ops Q i (wpAny P md ops Q (f + g) (ls.setIfInBounds i true)) a w)

theorem mixAny_sound {Q : Exit → Act → World → Prop} {n g : Nat} : ∀ (f : Nat) (ls : Array Bool) (a : Act) (w : World), C w →
    mixAny P md ops C Q n g f ls a → wpAny P md ops Q (f + g) ls a w := by
  intro f
  induction f with
  | zero => intro ls a w hw h; rw [Nat.zero_add]; exact h.2 w hw
  | succ f ih =>
    intro ls a w hw h
    rw [Nat.succ_add]
    refine ⟨fun h0 => absurd h0 h.1, fun i hi => ?_⟩
    rcases Nat.lt_or_ge i n with hin | hin
    · exact wpOp_of_qOp hw (fun a' w' hw' h' => ih _ a' w' hw' h') ((h.2 i hi).1 hin)
    · exact (h.2 i hi).2 hin w hw

/-- An operation that yields its value in every world is past by another one of the class. -/
theorem qOp_past {j : Nat} {oi oj : Oper} {v : Value} (hj : ops[j]? = some oj) (hap : oi.apart ops oj = true)
    (hsi : ∀ cs b, oi.op ≠ .select cs b) (hsj : ∀ cs b, oj.op ≠ .select cs b) {K : Act → Prop} {a : Act}
    (hy : Yields P ops oi v a) (h : qOp P ops C j K (a.put oi.dst v)) :
    qOp P ops C j (fun a' => Yields P ops oi v a' ∧ K (a'.put oi.dst v)) a := by
  obtain ⟨h1, h2, h3⟩ := Oper.apart_spec hap
  have keep : ∀ u, Yields P ops oi v (a.put oj.dst u) := fun u =>
    hy.of_same (execOp_put oi hsi a oj.dst u h3) (wanted_put oi a oj.dst u h3)
  unfold qOp at *
  simp only [hj] at *
  rw [wanted_put oj a oi.dst v h1] at h
  by_cases hw : Region.wanted oj (yielded ops a.tmps) = true
  · rw [if_pos hw] at h ⊢
    obtain ⟨u, hu, hn⟩ := h
    refine ⟨u, fun w hw' => ?_, keep u, by rw [← Act.put_comm a v u h2]; exact hn⟩
    have := hu w hw'
    unfold Oper.quietAt at *
    rwa [execOp_put oj hsj a oi.dst v h1] at this
  · rw [if_neg hw] at h ⊢
    exact ⟨keep _, by rw [← Act.put_comm a v undef h2]; exact h⟩

theorem Yields.in {o : Oper} {v : Value} {a : Act} (h : Yields P ops o v a) : YieldsIn P ops C o v a := by
  rcases h with ⟨h1, h2⟩ | h
  · refine .inl ⟨h1, fun w _ => ?_⟩
    unfold Oper.quietAt
    rw [h2 w]
    exact ⟨rfl, rfl⟩
  · exact .inr h

theorem free_set {i j : Nat} {oi : Oper} {ls : Array Bool}
    (hfree : ∀ j oj, ops[j]? = some oj → j ≠ i → ls.getD j true = false → (∀ e ∈ oj.after, Region.binds md e = true → e.on ≠ i) → oi.apart ops oj = true)
    (hjun : ls.getD j true = false) : ∀ k ok, ops[k]? = some ok → k ≠ i → (ls.setIfInBounds j true).getD k true = false →
      (∀ e ∈ ok.after, Region.binds md e = true → e.on ≠ i) → oi.apart ops ok = true := by
  intro k ok hk hki hun' hno
  by_cases hjk : j = k
  · subst hjk; exact hfree j ok hk hki hjun hno
  · rw [getD_set_ne true hjk] at hun'; exact hfree k ok hk hki hun' hno

theorem not_waits {i : Nat} {oj : Oper} {ls : Array Bool} (hi : ls.getD i true = false) (hall : ∀ e ∈ oj.after, Region.binds md e = true → ls.getD e.on false = true) :
    ∀ e ∈ oj.after, Region.binds md e = true → e.on ≠ i := fun e he hb heq => by
  have h1 := hall e he hb
  rw [heq, getD_both hi] at h1
  cases h1

/-- A floating operation may be taken first. -/
theorem mixAny_float {Q : Exit → Act → World → Prop} {n g i : Nat} {oi : Oper} {v : Value} (hi : ops[i]? = some oi) (hin : i < n)
    (hsel : ∀ (j : Nat) (o : Oper) cs b, ops[j]? = some o → o.op ≠ .select cs b)
    (hQ : ∀ c a d v w, Q (.panic c) (a.put d v) w → Q (.panic c) a w) :
    ∀ (f : Nat) (ls : Array Bool) (a : Act),
      (∀ j oj, ops[j]? = some oj → j ≠ i → ls.getD j true = false → (∀ e ∈ oj.after, Region.binds md e = true → e.on ≠ i) → oi.apart ops oj = true) →
      i ∈ Region.ready md ops ls → Yields P ops oi v a →
      mixAny P md ops C Q n g f (ls.setIfInBounds i true) (a.put oi.dst v) → mixAny P md ops C Q n g (f + 1) ls a := by
  intro f
  induction f with
  | zero =>
    intro ls a hfree hr hy H
    refine ⟨List.ne_nil_of_mem hr, fun j hj => ⟨fun hjn => ?_, fun hjn w hw => ?_⟩⟩
    · by_cases hji : j = i
      · subst hji; exact (Yields.in hy).qOp hi H
      · exact absurd (H.1 j (ready_mono hj hji)) (by omega)
    · have := wpAny_first (Q := Q) hi hsel (fun c a w => hQ c a _ _ w) g ls a w hfree hr hy (H.2 w hw)
      rw [Nat.zero_add]
      exact this.2 j hj
  | succ f ih =>
    intro ls a hfree hr hy H
    refine ⟨List.ne_nil_of_mem hr, fun j hj => ⟨fun hjn => ?_, fun hjn w hw => ?_⟩⟩
    · by_cases hji : j = i
      · subst hji; exact (Yields.in hy).qOp hi H
      · obtain ⟨hjun, oj, hoj, hall⟩ := mem_ready.1 hj
        have h2 := qOp_past hoj (hfree j oj hoj hji hjun (not_waits (mem_ready.1 hr).1 hall)) (fun cs b => hsel i oi cs b hi) (fun cs b => hsel j oj cs b hoj) hy ((H.2 j (ready_mono hj hji)).1 hjn)
        refine qOp_mono (fun a' h3 => ih (ls.setIfInBounds j true) a' (free_set hfree hjun) (ready_mono hr (Ne.symm hji)) h3.1 ?_) h2
        rw [Array.setIfInBounds_comm _ _ hji]; exact h3.2
    · have := wpAny_first (Q := Q) hi hsel (fun c a w => hQ c a _ _ w) (f + 1 + g) ls a w hfree hr hy (mixAny_sound (f + 1) _ _ w hw H)
      exact this.2 j hj

/-- An operation of the class may be taken first as long as nothing of the tail can come up before it. -/
theorem mixAny_first {Q : Exit → Act → World → Prop} {n g i : Nat} {oi : Oper} {v : Value} (hi : ops[i]? = some oi) (hin : i < n)
    (hsel : ∀ (j : Nat) (o : Oper) cs b, ops[j]? = some o → o.op ≠ .select cs b)
    (hno : ∀ ls, HeadInv md ops n ls → ls.getD i true = false → ∀ t, n ≤ t → t ∉ Region.ready md ops ls) :
    ∀ (f : Nat) (ls : Array Bool) (a : Act), HeadInv md ops n ls →
      (∀ j oj, ops[j]? = some oj → j ≠ i → ls.getD j true = false → (∀ e ∈ oj.after, Region.binds md e = true → e.on ≠ i) → oi.apart ops oj = true) →
      i ∈ Region.ready md ops ls → YieldsIn P ops C oi v a →
      mixAny P md ops C Q n g f (ls.setIfInBounds i true) (a.put oi.dst v) → mixAny P md ops C Q n g (f + 1) ls a := by
  intro f
  induction f with
  | zero =>
    intro ls a inv _ hr hy H
    refine ⟨List.ne_nil_of_mem hr, fun j hj => ⟨fun hjn => ?_, fun hjn w hw => ?_⟩⟩
    · by_cases hji : j = i
      · subst hji; exact hy.qOp hi H
      · exact absurd (H.1 j (ready_mono hj hji)) (by omega)
    · exact absurd hj (hno ls inv (mem_ready.1 hr).1 j hjn)
  | succ f ih =>
    intro ls a inv hfree hr hy H
    refine ⟨List.ne_nil_of_mem hr, fun j hj => ⟨fun hjn => ?_, fun hjn w hw => ?_⟩⟩
    · by_cases hji : j = i
      · subst hji; exact hy.qOp hi H
      · obtain ⟨hjun, oj, hoj, hall⟩ := mem_ready.1 hj
        have h2 := qOp_put hoj (hfree j oj hoj hji hjun (not_waits (mem_ready.1 hr).1 hall)) (fun cs b => hsel i oi cs b hi) (fun cs b => hsel j oj cs b hoj) hy ((H.2 j (ready_mono hj hji)).1 hjn)
        refine qOp_mono (fun a' h3 => ih (ls.setIfInBounds j true) a' (inv.set hj hjn) (free_set hfree hjun) (ready_mono hr (Ne.symm hji)) h3.1 ?_) h2
        rw [Array.setIfInBounds_comm _ _ hji]; exact h3.2
    · exact absurd hj (hno ls inv (mem_ready.1 hr).1 j hjn)

/-- Every head operation that does not float is waited for by a later one of its kind, or by the tail's first. -/
def mixSink (md : Region.Mode) (ops : Array Oper) (n : Nat) (fl : List Bool) : Bool :=
  (List.range n).all fun i => fl.getD i false || (List.range (n + 1)).any fun j => decide (i < j) && !(fl.getD j false) && Region.waitsFor md ops j i

theorem tail_not {n : Nat} {fl : List Bool} (hs : mixSink md ops n fl = true) (hc : Region.chainB md ops n = true) (hfn : fl.getD n false = false) :
    ∀ (d i : Nat), n - i = d → i < n → fl.getD i false = false → ∀ ls, HeadInv md ops n ls → ls.getD i true = false → ∀ t, n ≤ t → t ∉ Region.ready md ops ls := by
  intro d
  induction d using Nat.strongRecOn with
  | _ d ih =>
    intro i hd hi hfl ls inv hun t ht hr
    obtain ⟨_, ot, hot, hall⟩ := mem_ready.1 hr
    have htlt : t < ops.size := (Array.getElem?_eq_some_iff.1 hot).1
    rcases Nat.lt_or_ge n t with htn | htn
    · have h1 := List.all_eq_true.1 hc t (List.mem_range.2 htlt)
      simp only [Bool.or_eq_true, decide_eq_true_eq] at h1
      rcases h1 with h1 | h1
      · omega
      · obtain ⟨o', ho', e, he, hb, hon⟩ := Region.waitsFor_spec h1
        obtain rfl : o' = ot := Option.some.inj (ho'.symm.trans hot)
        have h2 := hall e he hb
        rw [hon, getD_both (inv.tail (t - 1) (by omega) (by omega))] at h2
        cases h2
    · obtain rfl : t = n := by omega
      have h1 := List.all_eq_true.1 hs i (List.mem_range.2 hi)
      rw [hfl, Bool.false_or] at h1
      obtain ⟨j, hj, hj2⟩ := List.any_eq_true.1 h1
      simp only [Bool.and_eq_true, decide_eq_true_eq, Bool.not_eq_true'] at hj2
      obtain ⟨oj, hoj, e, he, hb, hon⟩ := Region.waitsFor_spec hj2.2
      have hjle : j ≤ t := by have := List.mem_range.1 hj; omega
      by_cases hjt : j = t
      · subst hjt
        obtain rfl : oj = ot := Option.some.inj (hoj.symm.trans hot)
        have h2 := hall e he hb
        rw [hon, getD_both hun] at h2
        cases h2
      · cases hl : ls.getD j false with
        | true =>
          have h2 := inv.closed j oj hoj hl e he hb
          rw [hon, getD_both hun] at h2
          cases h2
        | false => exact ih (t - j) (by omega) j rfl (by omega) hj2.1.2 ls inv (getD_in (by rw [inv.size]; omega) hl) t (Nat.le_refl _) hr

theorem mixAny_lex {Q : Exit → Act → World → Prop} {n g : Nat} {flags : List Bool} (hsel : Region.noSelect ops = true) (hs : mixSink md ops n flags = true) (hc : Region.chainB md ops n = true) (hfn : flags.getD n false = false) (hn : n < ops.size)
    (hQ : ∀ c a d v w, Q (.panic c) (a.put d v) w → Q (.panic c) a w) {Lq : Act → Prop}
    (hL : ∀ ls a, Region.seqB md ops g n ls = true → Lq a → ∀ w, C w → wpAny P md ops Q g ls a w) :
    ∀ (l : List Oper) (k : Nat) (fs : List Bool) (ls : Array Bool) (a : Act), (∀ j, j < l.length → l[j]? = ops[k + j]?) → (∀ j, fs.getD j false = flags.getD (k + j) false) → k + l.length = n → HeadInv md ops n ls →
    Region.lexHead md ops g l.length k ls = true → wpMix P ops C Lq fs l a →
    mixAny P md ops C Q n g l.length ls a := by
  intro l
  induction l with
  | nil =>
    intro k fs ls a _ _ hk _ hB h
    obtain rfl : k = n := by simpa using hk
    have hB' : Region.seqB md ops g k ls = true := by simpa [Region.lexHead] using hB
    exact ⟨seqB_ready hB', hL ls a hB' (by unfold wpMix at h; exact h)⟩
  | cons o l ih =>
    intro k fs ls a hl hfs hk inv hB h
    have h0 : ops[k]? = some o := by simpa using (hl 0 (by simp)).symm
    simp only [List.length_cons, Region.lexHead, Bool.and_eq_true] at hB
    have hkn : k < n := by simp only [List.length_cons] at hk; omega
    have hr : k ∈ Region.ready md ops ls := by simpa using hB.1.1
    have hfree := Region.free_spec h0 hB.1.2
    have next : ∀ a' fs', (∀ j, fs'.getD j false = flags.getD (k + 1 + j) false) → wpMix P ops C Lq fs' l a' → mixAny P md ops C Q n g l.length (ls.setIfInBounds k true) a' := fun a' fs' hfs' h' => by
      refine ih (k + 1) fs' _ a' (fun j hj => ?_) hfs' (by simp only [List.length_cons] at hk; omega) (inv.set hr hkn) hB.2 h'
      have := hl (j + 1) (by simp; omega)
      simpa [Nat.add_assoc, Nat.add_comm 1 j] using this
    have quiet : fs.getD 0 false = false → (∃ fs', (∀ j, fs'.getD j false = flags.getD (k + 1 + j) false) ∧ qOp P ops C k (wpMix P ops C Lq fs' l) a) → mixAny P md ops C Q n g (l.length + 1) ls a := fun hf0 ⟨fs', hfs', hq⟩ => by
      obtain ⟨v, hy, hK⟩ := yieldsIn_of_qOp h0 hq
      have hfk : flags.getD k false = false := by have := hfs 0; rw [hf0] at this; simpa using this.symm
      exact mixAny_first h0 hkn (Region.noSelect_spec hsel) (tail_not hs hc hfn _ k rfl hkn hfk) l.length ls a inv hfree hr hy (next _ fs' hfs' hK)
    cases fs with
    | nil =>
      refine quiet rfl ⟨[], fun j => ?_, ?_⟩
      · have := hfs (j + 1); simpa [Nat.add_assoc, Nat.add_comm 1 j] using this
      · unfold qOp; simp only [h0]; unfold wpMix at h; exact h
    | cons b fs =>
      have hfs' : ∀ j, fs.getD j false = flags.getD (k + 1 + j) false := fun j => by
        have := hfs (j + 1); simpa [Nat.add_assoc, Nat.add_comm 1 j] using this
      cases b with
      | false =>
        refine quiet rfl ⟨fs, hfs', ?_⟩
        unfold qOp; simp only [h0]; unfold wpMix at h; exact h
      | true =>
        unfold wpMix at h
        obtain ⟨v, hy, hK⟩ := h
        exact mixAny_float h0 hkn (Region.noSelect_spec hsel) hQ l.length ls a hfree hr hy (next _ fs hfs' hK)

section steps
variable {Q : Act → Prop} {fs : List Bool} {o : Oper} {rest : List Oper} {a : Act}

/-- The next operation yields a value and leaves the world as it is. -/
theorem mix_v (hf : fs.headD false = false) (hg : Region.wanted o (yielded ops a.tmps) = true)
    (h : ∃ v, (∀ w', C w' → (execOp a.eval o).run P w' = .ok (.value v) w') ∧ wpMix P ops C Q fs.tail rest (a.put o.dst v)) :
    wpMix P ops C Q fs (o :: rest) a := by
  obtain ⟨v, h1, h2⟩ := h
  have hq : o.quiet P a C (wpMix P ops C Q fs.tail rest) := ⟨v, fun w' hw' => by unfold Oper.quietAt; rw [h1 w' hw']; exact ⟨rfl, rfl⟩, h2⟩
  match fs, hf, hq with
  | [], _, hq => unfold wpMix; rw [if_pos hg]; exact hq
  | false :: fs, _, hq => unfold wpMix; rw [if_pos hg]; exact hq

/-- The next operation calls a function: one value in every world of the class, and a world of the class. -/
theorem mix_c (hf : fs.headD false = false) (hg : Region.wanted o (yielded ops a.tmps) = true)
    (h : ∃ f args v, (∀ w', C w' → (execOp a.eval o).run P w' = .ok (.enter f args) w') ∧ (∀ w', C w' → Calls P f args w' fun e w'' => e = .returned v ∧ C w'') ∧ wpMix P ops C Q fs.tail rest (a.put o.dst v)) :
    wpMix P ops C Q fs (o :: rest) a := by
  obtain ⟨f, args, v, h1, h2, h3⟩ := h
  have hq : o.quiet P a C (wpMix P ops C Q fs.tail rest) := ⟨v, fun w' hw' => by unfold Oper.quietAt; rw [h1 w' hw']; exact ⟨rfl, h2 w' hw'⟩, h3⟩
  match fs, hf, hq with
  | [], _, hq => unfold wpMix; rw [if_pos hg]; exact hq
  | false :: fs, _, hq => unfold wpMix; rw [if_pos hg]; exact hq

/-- The next operation floats. -/
theorem mix_f (hg : Region.wanted o (yielded ops a.tmps) = true)
    (h : ∃ v, (∀ w', (execOp a.eval o).run P w' = .ok (.value v) w') ∧ wpMix P ops C Q fs rest (a.put o.dst v)) :
    wpMix P ops C Q (true :: fs) (o :: rest) a := by
  obtain ⟨v, h1, h2⟩ := h
  exact ⟨v, .inl ⟨hg, h1⟩, h2⟩

/-- The next operation's guard says no. -/
theorem mix_s (hf : fs.headD false = false) (hg : Region.wanted o (yielded ops a.tmps) = false) (h : wpMix P ops C Q fs.tail rest (a.put o.dst undef)) :
    wpMix P ops C Q fs (o :: rest) a := by
  match fs, hf, h with
  | [], _, h => unfold wpMix; rw [if_neg (by simp [hg])]; exact h
  | false :: fs, _, h => unfold wpMix; rw [if_neg (by simp [hg])]; exact h

theorem mix_nil (h : Q a) : wpMix P ops C Q fs [] a := by unfold wpMix; exact h
end steps

/-- What the kernel looks at. -/
def mixB (md : Region.Mode) (ops : Array Oper) (n : Nat) (fl : List Bool) : Bool :=
  Region.noSelect ops && decide (n < ops.size) && mixSink md ops n fl && Region.chainB md ops n && !(fl.getD n false) && Region.lexHead md ops (ops.size - n) n 0 (Array.replicate ops.size false)

/-- One walk in the order of the text. -/
theorem region_mix {id : Nat} {Q : Exit → Act → World → Prop} {a : Act} {w : World} {l : List Oper} (n : Nat) (fl : List Bool) (C : World → Prop)
    (hm : P.follows .mixedOrders = true) (hB : mixB .any l.toArray n fl = true) (hQ : ∀ c a d v w, Q (.panic c) (a.put d v) w → Q (.panic c) a w) (hC : C w.drew)
    (h : wpMix P l.toArray C (fun a' => ∀ w', C w' → wpList P l.toArray Q (l.drop n) a' w') fl (l.take n) a) : (Code.region id l.toArray true).wp P Q a w := by
  simp only [mixB, Bool.and_eq_true, decide_eq_true_eq, Bool.not_eq_true'] at hB
  obtain ⟨⟨⟨⟨⟨hsel, hn⟩, hs⟩, hc⟩, hfn⟩, hlex⟩ := hB
  have htl : (l.take n).length = n := by
    have : n < l.length := by simpa using hn
    simp; omega
  have inv0 : HeadInv .any l.toArray n (Array.replicate l.toArray.size false) :=
    ⟨by simp, fun j oj _ hl => (by rw [getD_replicate_false] at hl; cases hl), fun t _ ht => getD_in (by simpa using ht) (getD_replicate_false _ _)⟩
  have hd : (l.drop n).length = l.toArray.size - n := by simp
  have H := mixAny_lex (P := P) (C := C) (Q := Q) (md := .any) (g := l.toArray.size - n) hsel hs hc hfn hn hQ
    (Lq := fun a' => ∀ w', C w' → wpList P l.toArray Q (l.drop n) a' w')
    (fun ls a' hB' hLq w' hw' => by
      have := wpAny_of_seq (md := .any) (Q' := Q) (l.drop n) n ls a' w' (fun j => by simp [List.getElem?_drop]) (by rw [hd]; exact hB') (hLq w' hw')
      rwa [hd] at this)
    (l.take n) 0 fl _ a (fun j hj => by rw [htl] at hj; simp [hj]) (fun j => by simp) (by simpa using htl) inv0 (by rw [htl]; exact hlex) h
  have := mixAny_sound (Q := Q) _ _ _ w.drew hC H
  rw [htl, show n + (l.toArray.size - n) = l.toArray.size by omega] at this
  exact wp_region_any hm this

/-- The same where the whole region is quiet. -/
theorem region_quiet {id : Nat} {Q : Exit → Act → World → Prop} {a : Act} {w : World} {l : List Oper} (C : World → Prop)
    (hm : P.follows .mixedOrders = true) (hB : Region.lexB .any l.toArray = true) (hC : C w.drew)
    (h : wpMix P l.toArray C (fun a' => ∀ w', C w' → Q .normal a' w') [] l a) : (Code.region id l.toArray true).wp P Q a w := by
  refine wp_region_quiet (C := C) hm hB hC ?_
  have key : ∀ (ops : Array Oper) (Q' : Act → Prop) (l : List Oper) (a : Act), wpMix P ops C Q' [] l a → wpQuiet P ops C Q' l a := by
    intro ops Q' l
    induction l with
    | nil => intro a h; exact h
    | cons o l ih =>
      intro a h
      unfold wpMix at h
      unfold wpQuiet
      split
      · rename_i hw; rw [if_pos hw] at h; exact Oper.quiet_mono (fun a' h' => ih a' h') h
      · rename_i hw; rw [if_neg hw] at h; exact ih _ h
  simpa using key _ _ _ _ h
end

/-- A call of a function value in a slot, arrived at without a search. -/
theorem call_slot {f : FuncId} {first captured : Array Value} {a : Act} {dst : Option Tmp} {x : Operand} {xs : Array Operand} {ats : Array TypeId} {ty : TypeId} {pos : String} {after : Array Edge} {guard : Option (Nat × Bool)}
    (h : a.eval x = .func (.func f) first captured) :
    execOp a.eval { dst, op := .call { callee := .value x, args := xs, argTypes := ats }, type := ty, pos, after, guard } = callFunc f (first ++ xs.map a.eval ++ captured) := by
  have : execOp a.eval { dst, op := .call { callee := .value x, args := xs, argTypes := ats }, type := ty, pos, after, guard } = (do let d ← Deferred.ofValue (a.eval x) (xs.map a.eval); invoke d.target d.args : Sem Next) := rfl
  rw [this, h]
  rfl
theorem same_of {P : Program} {f : FuncId} {args : Array Value} {w : World} {v : Value} (h : Calls P f args w fun e w' => e = .returned v ∧ w = w') :
    Calls P f args w fun e w' => e = .returned v ∧ w' = w := h.mono fun _ _ h => ⟨h.1, h.2.symm⟩
theorem below_of {P : Program} {f : FuncId} {args : Array Value} {W w : World} {v : Value} {B : Nat} (hC : Below B W w) (hB : B ≤ W.heap.size)
    (h : Calls P f args w fun e w' => e = .returned v ∧ Below w.heap.size w w') :
    Calls P f args w fun e w' => e = .returned v ∧ Below B W w' := h.mono fun _ _ h => ⟨h.1, hC.trans (h.2.mono (Nat.le_trans hB hC.size))⟩
theorem still_below {P : Program} {f : FuncId} {args : Array Value} {w : World} {v : Value} (h : Calls P f args w fun e w' => e = .returned v ∧ w = w') :
    Calls P f args w fun e w' => e = .returned v ∧ Below w.heap.size w w' := h.mono fun _ w' h => ⟨h.1, by rw [← h.2]; exact Below.refl _ _⟩

/-- What holds of the blocks that were there. -/
theorem below_cells {B : Nat} {w w' : World} (h : Below B w w') : ∀ p : Addr, p.block < B → w'.cell? p = w.cell? p := fun _ hp => h.cell hp
@[simp, go_sem] theorem setCell_drewN (w : World) (n : Nat) (a : Addr) (v : Value) : (w.drewN n).setCell a v = (w.setCell a v).drewN n := rfl
@[simp, go_sem] theorem alloc_drewN (w : World) (n : Nat) (o : Obj) : (w.drewN n).alloc o = (w.alloc o).drewN n := rfl
@[simp, go_sem] theorem size_drewN (w : World) (n : Nat) : (w.drewN n).heap.size = w.heap.size := rfl
theorem below_dN {B n : Nat} {w w' : World} (h : Below B w w') : Below B w (w'.drewN n) := ⟨h.os, h.tape, h.output, h.size, h.block⟩
theorem size_drew (w : World) : w.drew.heap.size = w.heap.size := rfl
theorem bfacts {w w' : World} (h : Below w.heap.size w w') : (∀ b o, b < w.heap.size → w'.cell? ⟨b, o, none⟩ = w.cell? ⟨b, o, none⟩) ∧ (∀ b o, b < w.heap.size → w'.frozen? ⟨b, o, none⟩ = w.frozen? ⟨b, o, none⟩) ∧ w.heap.size ≤ w'.heap.size :=
  ⟨fun b o hb => h.cell (p := ⟨b, o, none⟩) hb, fun b o hb => h.frozen (p := ⟨b, o, none⟩) hb, h.size⟩
theorem bfactsB {B : Nat} {w w' : World} (h : Below B w w') : (∀ b o, b < B → w'.cell? ⟨b, o, none⟩ = w.cell? ⟨b, o, none⟩) ∧ (∀ b o, b < B → w'.frozen? ⟨b, o, none⟩ = w.frozen? ⟨b, o, none⟩) ∧ w.heap.size ≤ w'.heap.size :=
  ⟨fun b o hb => h.cell (p := ⟨b, o, none⟩) hb, fun b o hb => h.frozen (p := ⟨b, o, none⟩) hb, h.size⟩
theorem below_drew {B : Nat} {w : World} : Below B w w.drew := (Below.refl B w).drew
end Go.Proofs.YtpggmebgndkpjaaDoor

namespace Go.Proofs.YtpggmebgndkpjaaDoor
set_option linter.all false
open Go Go.RowKit

/-- The named blocks hold what they held. -/
def KeepL (L : List Nat) (V w : World) : Prop := ∀ b ∈ L, ∀ o, w.cell? ⟨b, o, none⟩ = V.cell? ⟨b, o, none⟩
theorem KeepL.refl (L : List Nat) (V : World) : KeepL L V V := fun _ _ _ => rfl
theorem KeepL.below {L : List Nat} {V w w' : World} (h : KeepL L V w) (hb : Below w.heap.size w w') (hL : ∀ b ∈ L, b < w.heap.size) : KeepL L V w' :=
  fun b hm o => (hb.cell (p := ⟨b, o, none⟩) (hL b hm)).trans (h b hm o)
theorem KeepL.set {L : List Nat} {V w : World} (h : KeepL L V w) (p : Addr) (v : Value) (hp : ∀ b ∈ L, b ≠ p.block) : KeepL L V (w.setCell p v) :=
  fun b hm o => (World.cell?_setCell_other (w := w) (v := v) (a := p) (b := ⟨b, o, none⟩) (fun e => hp b hm (by rw [e]))).trans (h b hm o)
theorem KeepL.alloc {L : List Nat} {V w : World} (h : KeepL L V w) (ob : Obj) (hL : ∀ b ∈ L, b < w.heap.size) : KeepL L V (w.alloc ob) :=
  h.below ((Below.refl _ _).alloc (Nat.le_refl _) _) hL
theorem KeepL.drewN {L : List Nat} {V w : World} (h : KeepL L V w) (n : Nat) : KeepL L V (w.drewN n) := h
theorem KeepL.drew {L : List Nat} {V w : World} (h : KeepL L V w) : KeepL L V w.drew := h

section
variable {P : Program} {Q : Exit → Act → World → Prop} {L : List Nat} {V : World}

theorem held_begin {id : Nat} {a : Act} {w : World} {l : List Oper} (n : Nat) (L : List Nat) (hm : P.follows .mixedOrders = true) (hn : l.length = n) (hQ : ∀ c a d v w, Q (.panic c) (a.put d v) w → Q (.panic c) a w)
    (h : Hid (∀ c a d v w, Q (.panic c) (a.put d v) w → Q (.panic c) a w) → KeepL L w.drew w.drew → wpAnyH P .any l.toArray Q (KeepL L w.drew) n (Array.replicate n false) a w.drew) : (Code.region id l.toArray true).wp P Q a w := by
  refine wp_region_held (S := KeepL L w.drew) hm ?_
  have hs : l.toArray.size = n := by simpa using hn
  rw [hs]
  exact h (Lib.hid hQ) (KeepL.refl _ _)

variable {md : Region.Mode} {ops : Array Oper} {n : Nat} {ls : Array Bool} {a : Act} {w : World} {o : Oper}

theorem drop_at {ops : Array Oper} {i : Nat} {o : Oper} {r : List Oper} (h : ops.toList.drop i = o :: r) : ops[i]? = some o := by
  have := congrArg (fun l => l[0]?) h
  simpa using this
/-- It yields its value in every world that keeps the blocks. -/
theorem held_v (i : Nat) {r : List Oper} (hi : ops.toList.drop i = o :: r) (hs : Region.noSelect ops = true) (hf : Region.free md ops ls i = true) (hr : (Region.ready md ops ls).contains i = true)
    (hQ : Hid (∀ c a d v w, Q (.panic c) (a.put d v) w → Q (.panic c) a w)) (hS : KeepL L V w) (hg : Region.wanted o (yielded ops a.tmps) = true)
    (h : ∃ v, (∀ w', KeepL L V w' → (execOp a.eval o).run P w' = .ok (.value v) w') ∧ wpAnyH P md ops Q (KeepL L V) n (ls.setIfInBounds i true) (a.put o.dst v) w) :
    wpAnyH P md ops Q (KeepL L V) (n + 1) ls a w := by
  obtain ⟨v, h1, h2⟩ := h
  exact wpAnyH_take (drop_at hi) hs hf hr (fun c a w h => hQ.out c a _ v w h) (.inl ⟨hg, h1⟩) hS h2
/-- Its guard says no. -/
theorem held_s (i : Nat) {r : List Oper} (hi : ops.toList.drop i = o :: r) (hs : Region.noSelect ops = true) (hf : Region.free md ops ls i = true) (hr : (Region.ready md ops ls).contains i = true)
    (hQ : Hid (∀ c a d v w, Q (.panic c) (a.put d v) w → Q (.panic c) a w)) (hS : KeepL L V w) (hg : Region.wanted o (yielded ops a.tmps) = false)
    (h : wpAnyH P md ops Q (KeepL L V) n (ls.setIfInBounds i true) (a.put o.dst undef) w) :
    wpAnyH P md ops Q (KeepL L V) (n + 1) ls a w :=
  wpAnyH_take (drop_at hi) hs hf hr (fun c a w h => hQ.out c a _ undef w h) (.inr ⟨hg, rfl⟩) hS h

theorem held_one (i : Nat) {r : List Oper} (hi : ops.toList.drop i = o :: r) (hr : Region.ready md ops ls = [i]) (hg : Region.wanted o (yielded ops a.tmps) = true)
    (h : o.wp P a w (fun a' w' => KeepL L V w' ∧ wpAnyH P md ops Q (KeepL L V) n (ls.setIfInBounds i true) a' w') Q) : wpAnyH P md ops Q (KeepL L V) (n + 1) ls a w := by
  refine wpAnyH_all hr (by simp) fun j hj => ?_
  obtain rfl : j = i := by simpa using hj
  unfold wpOp
  simp only [drop_at hi]
  rw [if_pos hg]
  exact .inl h

/-- The next of those in order calls a function. -/
theorem held_call (i : Nat) {r : List Oper} (hi : ops.toList.drop i = o :: r) (hr : Region.ready md ops ls = [i]) (hg : Region.wanted o (yielded ops a.tmps) = true) (hS : KeepL L V w)
    (h : ∃ f args v, (execOp a.eval o).run P w = .ok (.enter f args) w ∧ (Calls P f args w fun e w' => e = .returned v ∧ Below w.heap.size w w') ∧ (∀ b ∈ L, b < w.heap.size) ∧
      ∀ w', Below w.heap.size w w' → KeepL L V w' → wpAnyH P md ops Q (KeepL L V) n (ls.setIfInBounds i true) (a.put o.dst v) w') :
    wpAnyH P md ops Q (KeepL L V) (n + 1) ls a w := by
  obtain ⟨f, args, v, he, hc, hL, hk⟩ := h
  refine held_one i hi hr hg ?_
  unfold Oper.wp
  rw [he]
  refine hc.mono ?_
  rintro _ w' ⟨rfl, hb⟩
  exact ⟨hS.below hb hL, hk w' hb (hS.below hb hL)⟩
/-- The next of those in order leaves a value, and another world. -/
theorem held_o (i : Nat) {r : List Oper} (hi : ops.toList.drop i = o :: r) (hr : Region.ready md ops ls = [i]) (hg : Region.wanted o (yielded ops a.tmps) = true)
    (h : ∃ v w', (execOp a.eval o).run P w = .ok (.value v) w' ∧ KeepL L V w' ∧ (KeepL L V w' → wpAnyH P md ops Q (KeepL L V) n (ls.setIfInBounds i true) (a.put o.dst v) w')) :
    wpAnyH P md ops Q (KeepL L V) (n + 1) ls a w := by
  obtain ⟨v, w', he, hk, h⟩ := h
  refine held_one i hi hr hg ?_
  unfold Oper.wp
  rw [he]
  exact ⟨hk, h hk⟩
/-- The next of those in order stores. -/
theorem held_t (i : Nat) {r : List Oper} (hi : ops.toList.drop i = o :: r) (hr : Region.ready md ops ls = [i]) (hg : Region.wanted o (yielded ops a.tmps) = true)
    (h : ∃ w', (execOp a.eval o).run P w = .ok .skip w' ∧ KeepL L V w' ∧ (KeepL L V w' → wpAnyH P md ops Q (KeepL L V) n (ls.setIfInBounds i true) (a.put o.dst undef) w')) :
    wpAnyH P md ops Q (KeepL L V) (n + 1) ls a w := by
  obtain ⟨w', he, hk, h⟩ := h
  refine held_one i hi hr hg ?_
  unfold Oper.wp
  rw [he]
  exact ⟨hk, h hk⟩
theorem held_end {a : Act} {w : World} {ls : Array Bool} (hr : Region.ready md ops ls = []) (h : Q .normal a w) : wpAnyH P md ops Q (KeepL L V) 0 ls a w := wpAnyH_done hr h 0
end
/-- The world at hand gets a name. -/
theorem wp_name {P : Program} {Q : Exit → Act → World → Prop} {a : Act} {c : Code} {w : World} (h : ∀ wS, wS = w → c.wp P Q a wS) : c.wp P Q a w := h w rfl
theorem wpl_name {P : Program} {ops : Array Oper} {Q : Exit → Act → World → Prop} {a : Act} {l : List Oper} {w : World} (h : ∀ wS, wS = w → wpList P ops Q l a wS) : wpList P ops Q l a w := h w rfl
end Go.Proofs.YtpggmebgndkpjaaDoor

namespace Go.Proofs.YtpggmebgndkpjaaDoor
set_option linter.all false
open Go Go.RowKit

theorem held_callx {P : Program} {Q : Exit → Act → World → Prop} {L : List Nat} {V : World} {md : Region.Mode} {ops : Array Oper} {n : Nat} {ls : Array Bool} {a : Act} {w : World} {o : Oper}
    (i : Nat) {r : List Oper} (hi : ops.toList.drop i = o :: r) (hr : Region.ready md ops ls = [i]) (hg : Region.wanted o (yielded ops a.tmps) = true) (hS : KeepL L V w)
    (h : ∃ f args, ∃ R : Value → World → Prop, (execOp a.eval o).run P w = .ok (.enter f args) w ∧ (Calls P f args w fun e w' => (∃ v, e = .returned v ∧ R v w') ∧ Below w.heap.size w w') ∧ (∀ b ∈ L, b < w.heap.size) ∧
      ∀ v w', R v w' → Below w.heap.size w w' → KeepL L V w' → wpAnyH P md ops Q (KeepL L V) n (ls.setIfInBounds i true) (a.put o.dst v) w') :
    wpAnyH P md ops Q (KeepL L V) (n + 1) ls a w := by
  obtain ⟨f, args, R, he, hc, hL, hk⟩ := h
  refine held_one i hi hr hg ?_
  unfold Oper.wp
  rw [he]
  refine hc.mono ?_
  rintro _ w' ⟨⟨v, rfl, hR⟩, hb⟩
  exact ⟨hS.below hb hL, hk v w' hR hb (hS.below hb hL)⟩
theorem bp_name {P : Program} {f : Func} {Q : Ending → World → Prop} {x : Exit} {a : Act} {w : World} (h : ∀ wS, wS = w → bodyPost P f Q x a wS) : bodyPost P f Q x a w := h w rfl
end Go.Proofs.YtpggmebgndkpjaaDoor

namespace Go.Proofs.YtpggmebgndkpjaaDoor
set_option linter.all false
open Go Go.RowKit

def lsM (n m : Nat) : Array Bool := Array.ofFn fun i : Fin n => m.testBit i
theorem lsM_getD (n m j : Nat) (d : Bool) : (lsM n m).getD j d = if j < n then m.testBit j else d := by
  unfold lsM
  by_cases h : j < n <;> simp [Array.getD, h]
theorem lsM_set {n m i m' : Nat} (hm : m ||| 1 <<< i = m') : (lsM n m).setIfInBounds i true = lsM n m' := by
  subst hm
  unfold lsM
  apply Array.ext
  · simp
  · intro j h1 h2
    simp only [Array.size_setIfInBounds, Array.size_ofFn] at h1
    have e := Array.getElem_setIfInBounds (xs := Array.ofFn fun i : Fin n => m.testBit i) (i := i) (a := true) (j := j) (by simpa using h1)
    rw [e]
    simp only [Array.getElem_ofFn, Nat.testBit_or, Nat.one_shiftLeft, Nat.testBit_two_pow]
    by_cases e : i = j
    · simp [e]
    · simp [e]
theorem lsM_zero (n : Nat) : lsM n 0 = Array.replicate n false := by
  unfold lsM
  apply Array.ext <;> simp

section
variable {P : Program} {Q : Exit → Act → World → Prop} {L : List Nat} {V : World}

theorem heldm_begin {id : Nat} {a : Act} {w : World} {l : List Oper} (n : Nat) (L : List Nat) (hm : P.follows .mixedOrders = true) (hn : l.length = n) (hQ : ∀ c a d v w, Q (.panic c) (a.put d v) w → Q (.panic c) a w)
    (h : Hid (∀ c a d v w, Q (.panic c) (a.put d v) w → Q (.panic c) a w) → KeepL L w.drew w.drew → wpAnyH P .any l.toArray Q (KeepL L w.drew) n (lsM n 0) a w.drew) : (Code.region id l.toArray true).wp P Q a w :=
  held_begin n L hm hn hQ (by rw [← lsM_zero]; exact h)

variable {md : Region.Mode} {ops : Array Oper} {n N m m' : Nat} {a : Act} {w : World} {o : Oper}

/-- All that binds o is taken. -/
def afterM (md : Region.Mode) (m : Nat) (o : Oper) : Bool := o.after.all fun e => !Region.binds md e || m.testBit e.on
/-- Those of the list that neither wait for i nor are waited for by it are apart from it. -/
def apartM (md : Region.Mode) (ops : Array Oper) (i : Nat) (o : Oper) : Nat → List Oper → Bool
  | _, [] => true
  | j, y :: r => (j == i || y.after.any (fun e => Region.binds md e && e.on == i) || o.after.any (fun e => Region.binds md e && e.on == j) || o.apart ops y) && apartM md ops i o (j + 1) r
theorem apartM_spec {i : Nat} {o : Oper} : ∀ {l : List Oper} {k : Nat}, apartM md ops i o k l = true → ∀ j y, l[j]? = some y →
    (k + j = i ∨ (∃ e ∈ y.after, Region.binds md e = true ∧ e.on = i) ∨ (∃ e ∈ o.after, Region.binds md e = true ∧ e.on = k + j) ∨ o.apart ops y = true)
  | [], _, _, j, y, h => by simp at h
  | y :: r, k, hB, j, z, h => by
    simp only [apartM, Bool.and_eq_true, Bool.or_eq_true, beq_iff_eq, Array.any_eq_true'] at hB
    cases j with
    | zero =>
      simp only [List.getElem?_cons_zero, Option.some.injEq] at h
      subst h
      rcases hB.1 with ((h1 | ⟨e, h1, h2, h3⟩) | ⟨e, h1, h2, h3⟩) | h1
      · exact .inl h1
      · exact .inr (.inl ⟨e, h1, h2, h3⟩)
      · exact .inr (.inr (.inl ⟨e, h1, h2, h3⟩))
      · exact .inr (.inr (.inr h1))
    | succ j =>
      have := apartM_spec hB.2 j z (by simpa using h)
      rwa [show k + 1 + j = k + (j + 1) by omega] at this
/-- None but i may come up. -/
def soleM (md : Region.Mode) (m i : Nat) : Nat → List Oper → Bool
  | _, [] => true
  | j, y :: r => (j == i || m.testBit j || y.after.any fun e => Region.binds md e && !m.testBit e.on) && soleM md m i (j + 1) r
theorem soleM_spec {i : Nat} : ∀ {l : List Oper} {k : Nat}, soleM md m i k l = true → ∀ j y, l[j]? = some y → k + j = i ∨ m.testBit (k + j) = true ∨ ∃ e ∈ y.after, Region.binds md e = true ∧ m.testBit e.on = false
  | [], _, _, j, y, h => by simp at h
  | y :: r, k, hB, j, z, h => by
    simp only [soleM, Bool.and_eq_true, Bool.or_eq_true, beq_iff_eq, Array.any_eq_true', Bool.not_eq_true'] at hB
    cases j with
    | zero =>
      simp only [List.getElem?_cons_zero, Option.some.injEq] at h
      subst h
      rcases hB.1 with (h1 | h1) | ⟨e, h1, h2, h3⟩
      · exact .inl h1
      · exact .inr (.inl h1)
      · exact .inr (.inr ⟨e, h1, h2, h3⟩)
    | succ j =>
      have := soleM_spec hB.2 j z (by simpa using h)
      rwa [show k + 1 + j = k + (j + 1) by omega] at this
/-- Those that bind lie before. -/
theorem readyM {i : Nat} {r : List Oper} (hN : ops.size ≤ N) (hi : ops.toList.drop i = o :: r) (hun : m.testBit i = false) (haf : afterM md m o = true) (hlt : o.after.all (fun e => e.on < N) = true) : i ∈ Region.ready md ops (lsM N m) := by
  have hi' := drop_at hi
  have hl := (Array.getElem?_eq_some_iff.1 hi').1
  refine mem_ready.2 ⟨by rw [lsM_getD, if_pos (by omega)]; exact hun, o, hi', fun e he hb => ?_⟩
  have h1 := Array.all_eq_true_iff_forall_mem.1 haf e he
  have h2 := Array.all_eq_true_iff_forall_mem.1 hlt e he
  simp only [hb, Bool.not_true, Bool.false_or] at h1
  rw [lsM_getD, if_pos (by simpa using h2)]
  exact h1
theorem freeM {i : Nat} {r : List Oper} (hN : ops.size ≤ N) (hi : ops.toList.drop i = o :: r) (haf : afterM md m o = true) (hap : apartM md ops i o 0 ops.toList = true) :
    ∀ j oj, ops[j]? = some oj → j ≠ i → (lsM N m).getD j true = false → (∀ e ∈ oj.after, Region.binds md e = true → e.on ≠ i) → o.apart ops oj = true := by
  intro j oj hj hne hun hno
  have hl := (Array.getElem?_eq_some_iff.1 hj).1
  rw [lsM_getD, if_pos (by omega)] at hun
  rcases apartM_spec hap j oj (by simpa using hj) with h | ⟨e, h1, h2, h3⟩ | ⟨e, h1, h2, h3⟩ | h
  · exact absurd (by omega) hne
  · exact absurd h3 (hno e h1 h2)
  · have h4 := Array.all_eq_true_iff_forall_mem.1 haf e h1
    rw [show e.on = j by omega] at h4
    simp only [h2, Bool.not_true, Bool.false_or] at h4
    rw [hun] at h4
    cases h4
  · exact h

theorem heldm_v (i : Nat) {r : List Oper} (hN : ops.size ≤ N) (hi : ops.toList.drop i = o :: r) (hs : Region.noSelect ops = true) (hun : m.testBit i = false) (haf : afterM md m o = true) (hlt : o.after.all (fun e => e.on < N) = true)
    (hap : apartM md ops i o 0 ops.toList = true) (hm : m ||| 1 <<< i = m') (hQ : Hid (∀ c a d v w, Q (.panic c) (a.put d v) w → Q (.panic c) a w)) (hS : KeepL L V w) (hg : Region.wanted o (yielded ops a.tmps) = true)
    (h : ∃ v, (∀ w', KeepL L V w' → (execOp a.eval o).run P w' = .ok (.value v) w') ∧ wpAnyH P md ops Q (KeepL L V) n (lsM N m') (a.put o.dst v) w) :
    wpAnyH P md ops Q (KeepL L V) (n + 1) (lsM N m) a w := by
  obtain ⟨v, h1, h2⟩ := h
  rw [← lsM_set hm] at h2
  exact wpAnyH_first (drop_at hi) (Region.noSelect_spec hs) (fun c a w h => hQ.out c a _ v w h) n _ a w (freeM hN hi haf hap) (readyM hN hi hun haf hlt) (.inl ⟨hg, h1⟩) hS h2
theorem heldm_s (i : Nat) {r : List Oper} (hN : ops.size ≤ N) (hi : ops.toList.drop i = o :: r) (hs : Region.noSelect ops = true) (hun : m.testBit i = false) (haf : afterM md m o = true) (hlt : o.after.all (fun e => e.on < N) = true)
    (hap : apartM md ops i o 0 ops.toList = true) (hm : m ||| 1 <<< i = m') (hQ : Hid (∀ c a d v w, Q (.panic c) (a.put d v) w → Q (.panic c) a w)) (hS : KeepL L V w) (hg : Region.wanted o (yielded ops a.tmps) = false)
    (h : wpAnyH P md ops Q (KeepL L V) n (lsM N m') (a.put o.dst undef) w) :
    wpAnyH P md ops Q (KeepL L V) (n + 1) (lsM N m) a w := by
  rw [← lsM_set hm] at h
  exact wpAnyH_first (drop_at hi) (Region.noSelect_spec hs) (fun c a w h => hQ.out c a _ undef w h) n _ a w (freeM hN hi haf hap) (readyM hN hi hun haf hlt) (.inr ⟨hg, rfl⟩) hS h

theorem heldm_one (i : Nat) {r : List Oper} (hN : ops.size ≤ N) (hi : ops.toList.drop i = o :: r) (hun : m.testBit i = false) (haf : afterM md m o = true) (hlt : o.after.all (fun e => e.on < N) = true) (hso : soleM md m i 0 ops.toList = true) (hm : m ||| 1 <<< i = m')
    (hg : Region.wanted o (yielded ops a.tmps) = true)
    (h : o.wp P a w (fun a' w' => KeepL L V w' ∧ wpAnyH P md ops Q (KeepL L V) n (lsM N m') a' w') Q) : wpAnyH P md ops Q (KeepL L V) (n + 1) (lsM N m) a w := by
  have hr := readyM (md := md) hN hi hun haf hlt
  rw [← lsM_set hm] at h
  refine ⟨fun h0 => (by rw [h0] at hr; cases hr), fun j hj => ?_⟩
  obtain ⟨hjun, oj, hoj, hall⟩ := mem_ready.1 hj
  have hl := (Array.getElem?_eq_some_iff.1 hoj).1
  rw [lsM_getD, if_pos (by omega)] at hjun
  have e : j = i := by
    rcases soleM_spec hso j oj (by simpa using hoj) with h1 | h1 | ⟨e, h1, h2, h3⟩
    · omega
    · rw [Nat.zero_add, hjun] at h1; cases h1
    · have h4 := hall e h1 h2
      rw [lsM_getD] at h4
      split at h4
      · rw [h3] at h4; cases h4
      · cases h4
  subst e
  unfold wpOp
  simp only [drop_at hi]
  rw [if_pos hg]
  exact .inl h
theorem heldm_call (i : Nat) {r : List Oper} (hN : ops.size ≤ N) (hi : ops.toList.drop i = o :: r) (hun : m.testBit i = false) (haf : afterM md m o = true) (hlt : o.after.all (fun e => e.on < N) = true) (hso : soleM md m i 0 ops.toList = true) (hm : m ||| 1 <<< i = m')
    (hg : Region.wanted o (yielded ops a.tmps) = true) (hS : KeepL L V w)
    (h : ∃ f args v, (execOp a.eval o).run P w = .ok (.enter f args) w ∧ (Calls P f args w fun e w' => e = .returned v ∧ Below w.heap.size w w') ∧ (∀ b ∈ L, b < w.heap.size) ∧
      ∀ w', Below w.heap.size w w' → KeepL L V w' → wpAnyH P md ops Q (KeepL L V) n (lsM N m') (a.put o.dst v) w') :
    wpAnyH P md ops Q (KeepL L V) (n + 1) (lsM N m) a w := by
  obtain ⟨f, args, v, he, hc, hL, hk⟩ := h
  refine heldm_one i hN hi hun haf hlt hso hm hg ?_
  unfold Oper.wp
  rw [he]
  refine hc.mono ?_
  rintro _ w' ⟨rfl, hb⟩
  exact ⟨hS.below hb hL, hk w' hb (hS.below hb hL)⟩
theorem heldm_callx (i : Nat) {r : List Oper} (hN : ops.size ≤ N) (hi : ops.toList.drop i = o :: r) (hun : m.testBit i = false) (haf : afterM md m o = true) (hlt : o.after.all (fun e => e.on < N) = true) (hso : soleM md m i 0 ops.toList = true) (hm : m ||| 1 <<< i = m')
    (hg : Region.wanted o (yielded ops a.tmps) = true) (hS : KeepL L V w)
    (h : ∃ f args, ∃ R : Value → World → Prop, (execOp a.eval o).run P w = .ok (.enter f args) w ∧ (Calls P f args w fun e w' => (∃ v, e = .returned v ∧ R v w') ∧ Below w.heap.size w w') ∧ (∀ b ∈ L, b < w.heap.size) ∧
      ∀ v w', R v w' → Below w.heap.size w w' → KeepL L V w' → wpAnyH P md ops Q (KeepL L V) n (lsM N m') (a.put o.dst v) w') :
    wpAnyH P md ops Q (KeepL L V) (n + 1) (lsM N m) a w := by
  obtain ⟨f, args, R, he, hc, hL, hk⟩ := h
  refine heldm_one i hN hi hun haf hlt hso hm hg ?_
  unfold Oper.wp
  rw [he]
  refine hc.mono ?_
  rintro _ w' ⟨⟨v, rfl, hR⟩, hb⟩
  exact ⟨hS.below hb hL, hk v w' hR hb (hS.below hb hL)⟩
theorem heldm_o (i : Nat) {r : List Oper} (hN : ops.size ≤ N) (hi : ops.toList.drop i = o :: r) (hun : m.testBit i = false) (haf : afterM md m o = true) (hlt : o.after.all (fun e => e.on < N) = true) (hso : soleM md m i 0 ops.toList = true) (hm : m ||| 1 <<< i = m')
    (hg : Region.wanted o (yielded ops a.tmps) = true)
    (h : ∃ v w', (execOp a.eval o).run P w = .ok (.value v) w' ∧ KeepL L V w' ∧ (KeepL L V w' → wpAnyH P md ops Q (KeepL L V) n (lsM N m') (a.put o.dst v) w')) :
    wpAnyH P md ops Q (KeepL L V) (n + 1) (lsM N m) a w := by
  obtain ⟨v, w', he, hk, h⟩ := h
  refine heldm_one i hN hi hun haf hlt hso hm hg ?_
  unfold Oper.wp
  rw [he]
  exact ⟨hk, h hk⟩
theorem heldm_t (i : Nat) {r : List Oper} (hN : ops.size ≤ N) (hi : ops.toList.drop i = o :: r) (hun : m.testBit i = false) (haf : afterM md m o = true) (hlt : o.after.all (fun e => e.on < N) = true) (hso : soleM md m i 0 ops.toList = true) (hm : m ||| 1 <<< i = m')
    (hg : Region.wanted o (yielded ops a.tmps) = true)
    (h : ∃ w', (execOp a.eval o).run P w = .ok .skip w' ∧ KeepL L V w' ∧ (KeepL L V w' → wpAnyH P md ops Q (KeepL L V) n (lsM N m') (a.put o.dst undef) w')) :
    wpAnyH P md ops Q (KeepL L V) (n + 1) (lsM N m) a w := by
  obtain ⟨w', he, hk, h⟩ := h
  refine heldm_one i hN hi hun haf hlt hso hm hg ?_
  unfold Oper.wp
  rw [he]
  exact ⟨hk, h hk⟩
/-- All are taken. -/
def doneM (m : Nat) : Nat → Bool | 0 => true | k + 1 => m.testBit k && doneM m k
theorem doneM_spec {m : Nat} : ∀ {k}, doneM m k = true → ∀ j, j < k → m.testBit j = true
  | 0, _, j, hj => by omega
  | k + 1, h, j, hj => by
    simp only [doneM, Bool.and_eq_true] at h
    rcases Nat.lt_or_ge j k with h1 | h1
    · exact doneM_spec h.2 j h1
    · rw [show j = k by omega]; exact h.1
theorem heldm_end (hN : ops.size ≤ N) (hd : doneM m N = true) (h : Q .normal a w) : wpAnyH P md ops Q (KeepL L V) 0 (lsM N m) a w := by
  refine wpAnyH_done ?_ h 0
  rw [List.eq_nil_iff_forall_not_mem]
  intro j hj
  obtain ⟨hjun, oj, hoj, _⟩ := mem_ready.1 hj
  have hl := (Array.getElem?_eq_some_iff.1 hoj).1
  rw [lsM_getD, if_pos (by omega), doneM_spec hd j (by omega)] at hjun
  cases hjun
end
end Go.Proofs.YtpggmebgndkpjaaDoor

namespace Go.Proofs.YtpggmebgndkpjaaDoor
set_option linter.all false
open Go Go.RowKit

/-- The world has grown: what was there is as it was. -/
def Grows (w w' : World) : Prop := Below w.heap.size w w'
theorem Grows.refl (w : World) : Grows w w := Below.refl _ _
theorem Grows.trans {a b c : World} (h : Grows a b) (k : Grows b c) : Grows a c := Below.trans h (Below.mono k h.size)
theorem Grows.alloc (w : World) (ob : Obj) : Grows w (w.alloc ob) := (Below.refl _ _).alloc (Nat.le_refl _) _
/-- The world has grown out of V and holds the named blocks, which are new and different. -/
structure CL (V : World) (bs : List (Nat × Obj)) (w : World) : Prop where
  grows : Grows V w
  has : ∀ p ∈ bs, w.heap[p.1]? = some p.2
  new : ∀ p ∈ bs, V.heap.size ≤ p.1
  nodup : (bs.map Prod.fst).Nodup
theorem CL.nil (V : World) : CL V [] V := ⟨Grows.refl _, by simp, by simp, by simp⟩
theorem CL.step {V w w' : World} {bs : List (Nat × Obj)} (h : CL V bs w) (g : Grows w w') : CL V bs w' :=
  ⟨h.grows.trans g, fun p hp => (g.block p.1 (Array.getElem?_eq_some_iff.1 (h.has p hp)).1).trans (h.has p hp), h.new, h.nodup⟩
theorem CL.push {V w : World} {bs : List (Nat × Obj)} (h : CL V bs w) (ob : Obj) : CL V ((w.heap.size, ob) :: bs) (w.alloc ob) := by
  have k := h.step (Grows.alloc w ob)
  refine ⟨k.grows, ?_, ?_, ?_⟩
  · intro p hp
    rcases List.mem_cons.1 hp with rfl | hp
    · show (w.heap.push ob)[w.heap.size]? = some ob
      simp
    · exact k.has p hp
  · intro p hp
    rcases List.mem_cons.1 hp with rfl | hp
    · exact h.grows.size
    · exact k.new p hp
  · rw [List.map_cons, List.nodup_cons]
    refine ⟨fun hm => ?_, h.nodup⟩
    obtain ⟨p, hp, e⟩ := List.mem_map.1 hm
    have := (Array.getElem?_eq_some_iff.1 (h.has p hp)).1
    simp only at e
    omega
theorem CL.perm {V w : World} {bs cs : List (Nat × Obj)} (hp : bs.Perm cs) (h : CL V cs w) : CL V bs w :=
  ⟨h.grows, fun p hm => h.has p (hp.mem_iff.1 hm), fun p hm => h.new p (hp.mem_iff.1 hm), ((hp.map Prod.fst).nodup_iff).2 h.nodup⟩

theorem CL.drop {V w : World} {p : Nat × Obj} {bs : List (Nat × Obj)} (h : CL V (p :: bs) w) : CL V bs w :=
  ⟨h.grows, fun q hm => h.has q (List.mem_cons_of_mem _ hm), fun q hm => h.new q (List.mem_cons_of_mem _ hm), (List.nodup_cons.1 h.nodup).2⟩

section
variable {P : Program} {ops : Array Oper} {md : Region.Mode} {V : World} {Q : Exit → Act → World → Prop}

/-- One value, in every world that has grown out of V; what it calls only makes memory. -/
def FixAt (P : Program) (V : World) (bs : List (Nat × Obj)) (o : Oper) (a : Act) (v : Value) : Prop :=
  ∀ w, CL V bs w → ((execOp a.eval o).run P w = .ok (.value v) w ∨ ∃ f args, (execOp a.eval o).run P w = .ok (.enter f args) w ∧ Calls P f args w fun e w' => e = .returned v ∧ Grows w w')
/-- It lays a new block. -/
def MkAt (P : Program) (V : World) (o : Oper) (a : Act) (mk : Nat → Value) (ob : Obj) : Prop :=
  ∀ w, Grows V w → (execOp a.eval o).run P w = .ok (.value (mk w.heap.size)) (w.alloc ob)

abbrev Mks := Nat → Option ((Nat → Value) × Obj)
def FixV (P : Program) (V : World) (o : Oper) (a : Act) (v : Value) : Prop := ∀ w, Grows V w → (execOp a.eval o).run P w = .ok (.value v) w
/-- cl: which operations may call. -/
def gOp (P : Program) (ops : Array Oper) (V : World) (mks : Mks) (cl : Nat → Bool) (i : Nat) (K : Act → List (Nat × Obj) → Prop) (a : Act) (bs : List (Nat × Obj)) : Prop :=
  match ops[i]? with
  | none => False
  | some o =>
    match mks i with
    | none => if Region.wanted o (yielded ops a.tmps) = true then ∃ v, FixAt P V bs o a v ∧ (cl i = false → FixV P V o a v) ∧ K (a.put o.dst v) bs else K (a.put o.dst undef) bs
    | some (mk, ob) => Region.wanted o (yielded ops a.tmps) = true ∧ MkAt P V o a mk ob ∧ ∀ b, K (a.put o.dst (mk b)) ((b, ob) :: bs)

theorem gOp_mono {mks : Mks} {cl : Nat → Bool} {i : Nat} {K K' : Act → List (Nat × Obj) → Prop} {a : Act} {bs : List (Nat × Obj)} (h : ∀ a bs, K a bs → K' a bs) (hh : gOp P ops V mks cl i K a bs) : gOp P ops V mks cl i K' a bs := by
  unfold gOp at *
  split
  · rename_i ho; simp only [ho] at hh
  · rename_i o ho
    simp only [ho] at hh
    split
    · rename_i hm; simp only [hm] at hh
      split
      · rename_i hw; rw [if_pos hw] at hh; obtain ⟨v, h1, hv, h2⟩ := hh; exact ⟨v, h1, hv, h _ _ h2⟩
      · rename_i hw; rw [if_neg hw] at hh; exact h _ _ hh
    · rename_i mk ob hm; simp only [hm] at hh
      exact ⟨hh.1, hh.2.1, fun b => h _ _ (hh.2.2 b)⟩

def growAny (P : Program) (md : Region.Mode) (ops : Array Oper) (V : World) (mks : Mks) (cl : Nat → Bool) (Q : Exit → Act → World → Prop) (n g : Nat) : Nat → Array Bool → Act → List (Nat × Obj) → Prop
  | 0, ls, a, bs => (∀ j ∈ Region.ready md ops ls, n ≤ j) ∧ ∀ w, CL V bs w → wpAny P md ops Q g ls a w
  | f + 1, ls, a, bs => Region.ready md ops ls ≠ [] ∧ ∀ i ∈ Region.ready md ops ls, i < n ∧ gOp P ops V mks cl i (growAny P md ops V mks cl Q n g f (ls.setIfInBounds i true)) a bs

theorem growAny_perm {mks : Mks} {cl : Nat → Bool} {n g : Nat} : ∀ (f : Nat) (ls : Array Bool) (a : Act) (bs cs : List (Nat × Obj)), bs.Perm cs → growAny P md ops V mks cl Q n g f ls a bs → growAny P md ops V mks cl Q n g f ls a cs
  | 0, _, _, _, _, hp, h => ⟨h.1, fun w hw => h.2 w (hw.perm hp)⟩
  | f + 1, ls, a, bs, cs, hp, h => by
    refine ⟨h.1, fun i hi => ⟨(h.2 i hi).1, ?_⟩⟩
    have hh := (h.2 i hi).2
    unfold gOp at *
    split
    · rename_i ho; simp only [ho] at hh
    · rename_i o ho
      simp only [ho] at hh
      split
      · rename_i hm; simp only [hm] at hh
        split
        · rename_i hw; rw [if_pos hw] at hh; obtain ⟨v, h1, hv, h2⟩ := hh; exact ⟨v, fun w hw => h1 w (hw.perm hp), hv, growAny_perm f _ _ _ _ hp h2⟩
        · rename_i hw; rw [if_neg hw] at hh; exact growAny_perm f _ _ _ _ hp hh
      · rename_i mk ob hm; simp only [hm] at hh
        exact ⟨hh.1, hh.2.1, fun b => growAny_perm f _ _ _ _ (hp.cons _) (hh.2.2 b)⟩

theorem growAny_sound {mks : Mks} {cl : Nat → Bool} {n g : Nat} : ∀ (f : Nat) (ls : Array Bool) (a : Act) (bs : List (Nat × Obj)) (w : World), CL V bs w →
    growAny P md ops V mks cl Q n g f ls a bs → wpAny P md ops Q (f + g) ls a w := by
  intro f
  induction f with
  | zero => intro ls a bs w hw h; rw [Nat.zero_add]; exact h.2 w hw
  | succ f ih =>
    intro ls a bs w hw h
    rw [Nat.succ_add]
    refine ⟨fun h0 => absurd h0 h.1, fun i hi => ?_⟩
    have hh := (h.2 i hi).2
    unfold gOp at hh
    unfold wpOp
    split
    · rename_i ho; simp only [ho] at hh
    · rename_i o ho
      simp only [ho] at hh
      cases hm : mks i with
      | none =>
        simp only [hm] at hh
        split
        · rename_i hwn
          rw [if_pos hwn] at hh
          obtain ⟨v, h1, _, h2⟩ := hh
          refine .inl ?_
          unfold Oper.wp
          rcases h1 w hw with e | ⟨fn, args, e, hc⟩
          · rw [e]; exact ih _ _ _ _ hw h2
          · rw [e]
            refine hc.mono ?_
            rintro _ w' ⟨rfl, hg⟩
            exact ih _ _ _ _ (hw.step hg) h2
        · rename_i hwn
          rw [if_neg hwn] at hh
          exact ih _ _ _ _ hw hh
      | some p =>
        obtain ⟨mk, ob⟩ := p
        simp only [hm] at hh
        rw [if_pos hh.1]
        refine .inl ?_
        unfold Oper.wp
        rw [hh.2.1 w hw.grows]
        exact ih _ _ _ _ (hw.push ob) (hh.2.2 w.heap.size)

theorem FixAt.of_same {bs : List (Nat × Obj)} {o : Oper} {v : Value} {a a' : Act} (h : FixAt P V bs o a v) (he : execOp a'.eval o = execOp a.eval o) : FixAt P V bs o a' v := by
  unfold FixAt at *; rw [he]; exact h
theorem FixAt.more {bs : List (Nat × Obj)} {p : Nat × Obj} {o : Oper} {v : Value} {a : Act} (h : FixAt P V bs o a v) : FixAt P V (p :: bs) o a v := fun w hw => h w hw.drop
theorem FixV.of_same {o : Oper} {v : Value} {a a' : Act} (h : FixV P V o a v) (he : execOp a'.eval o = execOp a.eval o) : FixV P V o a' v := by
  unfold FixV at *; rw [he]; exact h
theorem MkAt.of_same {o : Oper} {mk : Nat → Value} {ob : Obj} {a a' : Act} (h : MkAt P V o a mk ob) (he : execOp a'.eval o = execOp a.eval o) : MkAt P V o a' mk ob := by
  unfold MkAt at *; rw [he]; exact h

/-- An operation of one value is past by another one of the head. -/
theorem gOp_past {mks : Mks} {cl : Nat → Bool} {j : Nat} {oi oj : Oper} {v : Value} (hj : ops[j]? = some oj) (hap : oi.apart ops oj = true)
    (hsi : ∀ cs b, oi.op ≠ .select cs b) (hsj : ∀ cs b, oj.op ≠ .select cs b) {K : Act → List (Nat × Obj) → Prop} {a : Act} {bs : List (Nat × Obj)}
    {b : Bool} (hw : Region.wanted oi (yielded ops a.tmps) = true) (hy : FixAt P V bs oi a v) (hz : b = false → FixV P V oi a v) (h : gOp P ops V mks cl j K (a.put oi.dst v) bs) :
    gOp P ops V mks cl j (fun a' bs' => (Region.wanted oi (yielded ops a'.tmps) = true ∧ FixAt P V bs' oi a' v ∧ (b = false → FixV P V oi a' v)) ∧ K (a'.put oi.dst v) bs') a bs := by
  obtain ⟨h1, h2, h3⟩ := Oper.apart_spec hap
  have keep : ∀ u, Region.wanted oi (yielded ops (a.put oj.dst u).tmps) = true ∧ FixAt P V bs oi (a.put oj.dst u) v ∧ (b = false → FixV P V oi (a.put oj.dst u) v) := fun u =>
    ⟨(wanted_put oi a oj.dst u h3).trans hw, hy.of_same (execOp_put oi hsi a oj.dst u h3), fun e => (hz e).of_same (execOp_put oi hsi a oj.dst u h3)⟩
  unfold gOp at *
  simp only [hj] at *
  rw [wanted_put oj a oi.dst v h1] at h
  have e := execOp_put oj hsj a oi.dst v h1
  cases hm : mks j with
  | none =>
    simp only [hm] at h ⊢
    by_cases hw' : Region.wanted oj (yielded ops a.tmps) = true
    · rw [if_pos hw'] at h ⊢
      obtain ⟨u, hu, hv, hn⟩ := h
      exact ⟨u, hu.of_same e.symm, fun q => (hv q).of_same e.symm, keep u, by rw [← Act.put_comm a v u h2]; exact hn⟩
    · rw [if_neg hw'] at h ⊢
      exact ⟨keep _, by rw [← Act.put_comm a v undef h2]; exact h⟩
  | some p =>
    obtain ⟨mk, ob⟩ := p
    simp only [hm] at h ⊢
    exact ⟨h.1, h.2.1.of_same e.symm, fun b => ⟨⟨(keep _).1, (keep _).2.1.more, (keep _).2.2⟩, by rw [← Act.put_comm a v (mk b) h2]; exact h.2.2 b⟩⟩

theorem gfree_set {i j : Nat} {oi : Oper} {ls : Array Bool}
    (hfree : ∀ j oj, ops[j]? = some oj → j ≠ i → ls.getD j true = false → (∀ e ∈ oj.after, Region.binds md e = true → e.on ≠ i) → oi.apart ops oj = true)
    (hjun : ls.getD j true = false) : ∀ k ok, ops[k]? = some ok → k ≠ i → (ls.setIfInBounds j true).getD k true = false →
      (∀ e ∈ ok.after, Region.binds md e = true → e.on ≠ i) → oi.apart ops ok = true := by
  intro k ok hk hki hun' hno
  by_cases hjk : j = k
  · subst hjk; exact hfree j ok hk hki hjun hno
  · rw [getD_set_ne true hjk] at hun'; exact hfree k ok hk hki hun' hno
theorem gnot_waits {i : Nat} {oj : Oper} {ls : Array Bool} (hi : ls.getD i true = false) (hall : ∀ e ∈ oj.after, Region.binds md e = true → ls.getD e.on false = true) :
    ∀ e ∈ oj.after, Region.binds md e = true → e.on ≠ i := fun e he hb heq => by
  have h1 := hall e he hb
  rw [heq, getD_both hi] at h1
  cases h1

/-- An operation of one value may be taken first. -/
theorem growAny_fix {mks : Mks} {cl : Nat → Bool} {n g i : Nat} {oi : Oper} {v : Value} (hi : ops[i]? = some oi) (hin : i < n) (hmi : mks i = none)
    (hsel : ∀ (j : Nat) (o : Oper) cs b, ops[j]? = some o → o.op ≠ .select cs b)
    (hs : Region.sinkB md ops n = true) (hc : Region.chainB md ops n = true) (hn : n < ops.size) :
    ∀ (f : Nat) (ls : Array Bool) (a : Act) (bs : List (Nat × Obj)), HeadInv md ops n ls →
      (∀ j oj, ops[j]? = some oj → j ≠ i → ls.getD j true = false → (∀ e ∈ oj.after, Region.binds md e = true → e.on ≠ i) → oi.apart ops oj = true) →
      i ∈ Region.ready md ops ls → Region.wanted oi (yielded ops a.tmps) = true → FixAt P V bs oi a v → (cl i = false → FixV P V oi a v) →
      growAny P md ops V mks cl Q n g f (ls.setIfInBounds i true) (a.put oi.dst v) bs → growAny P md ops V mks cl Q n g (f + 1) ls a bs := by
  intro f
  induction f with
  | zero =>
    intro ls a bs inv hfree hr hw hy hz H
    refine ⟨List.ne_nil_of_mem hr, fun j hj => ?_⟩
    have hjn : j < n := by
      rcases Nat.lt_or_ge j n with h | h
      · exact h
      · exact absurd hj (tail_waits hs hc hn inv _ i rfl hin (mem_ready.1 hr).1 j h)
    refine ⟨hjn, ?_⟩
    by_cases hji : j = i
    · subst hji
      unfold gOp; simp only [hi, hmi]; rw [if_pos hw]; exact ⟨v, hy, hz, H⟩
    · exact absurd (H.1 j (ready_mono hj hji)) (by omega)
  | succ f ih =>
    intro ls a bs inv hfree hr hw hy hz H
    refine ⟨List.ne_nil_of_mem hr, fun j hj => ?_⟩
    have hjn : j < n := by
      rcases Nat.lt_or_ge j n with h | h
      · exact h
      · exact absurd hj (tail_waits hs hc hn inv _ i rfl hin (mem_ready.1 hr).1 j h)
    refine ⟨hjn, ?_⟩
    by_cases hji : j = i
    · subst hji
      unfold gOp; simp only [hi, hmi]; rw [if_pos hw]; exact ⟨v, hy, hz, H⟩
    · obtain ⟨hjun, oj, hoj, hall⟩ := mem_ready.1 hj
      have h2 := gOp_past hoj (hfree j oj hoj hji hjun (gnot_waits (mem_ready.1 hr).1 hall)) (fun cs b => hsel i oi cs b hi) (fun cs b => hsel j oj cs b hoj) hw hy hz (H.2 j (ready_mono hj hji)).2
      refine gOp_mono (fun a' bs' h3 => ih (ls.setIfInBounds j true) a' bs' (inv.set hj hjn) (gfree_set hfree hjun) (ready_mono hr (Ne.symm hji)) h3.1.1 h3.1.2.1 h3.1.2.2 ?_) h2
      rw [Array.setIfInBounds_comm _ _ hji]; exact h3.2

/-- Operation j waits for i, directly or by others. -/
def waitsT (md : Region.Mode) (ops : Array Oper) (i : Nat) : Nat → Nat → Bool
  | 0, _ => false
  | f + 1, j => match ops[j]? with
    | some oj => oj.after.any fun e => Region.binds md e && (e.on == i || waitsT md ops i f e.on)
    | none => false
theorem waitsT_listed {i n : Nat} {ls : Array Bool} (inv : HeadInv md ops n ls) : ∀ (f j : Nat), waitsT md ops i f j = true →
    (∃ oj, ops[j]? = some oj ∧ ∀ e ∈ oj.after, Region.binds md e = true → ls.getD e.on false = true) → ls.getD i false = true := by
  intro f
  induction f with
  | zero => intro j h; simp [waitsT] at h
  | succ f ih =>
    intro j h ⟨oj, hj, hall⟩
    simp only [waitsT, hj] at h
    obtain ⟨e, he, hb⟩ := Array.any_eq_true'.1 h
    simp only [Bool.and_eq_true, Bool.or_eq_true, beq_iff_eq] at hb
    have hl := hall e he hb.1
    rcases hb.2 with e1 | h1
    · rw [← e1]; exact hl
    · have hlt : e.on < ops.size := by
        rw [← inv.size]
        rcases Nat.lt_or_ge e.on ls.size with h | h
        · exact h
        · rw [show ls.getD e.on false = false by simp [Array.getElem?_eq_none h]] at hl; cases hl
      have hk : ops[e.on]? = some ops[e.on] := Array.getElem?_eq_getElem hlt
      exact ih e.on h1 ⟨_, hk, fun e' he' hb' => inv.closed e.on _ hk hl e' he' hb'⟩

/-- An operation that lays a block may be taken first, if what may come up before it neither calls nor waits for it. -/
theorem growAny_mk {mks : Mks} {cl : Nat → Bool} {n g i : Nat} {oi : Oper} {mk : Nat → Value} {ob : Obj} (hi : ops[i]? = some oi) (hin : i < n) (hmi : mks i = some (mk, ob))
    (hsel : ∀ (j : Nat) (o : Oper) cs b, ops[j]? = some o → o.op ≠ .select cs b)
    (hs : Region.sinkB md ops n = true) (hc : Region.chainB md ops n = true) (hn : n < ops.size) :
    ∀ (f : Nat) (ls : Array Bool) (a : Act) (bs : List (Nat × Obj)), HeadInv md ops n ls → (∀ j, j < n → j ≠ i → ls.getD j true = false → mks j ≠ none ∨ cl j = false ∨ ∃ f, waitsT md ops i f j = true) →
      (∀ j oj, ops[j]? = some oj → j ≠ i → ls.getD j true = false → (∀ e ∈ oj.after, Region.binds md e = true → e.on ≠ i) → oi.apart ops oj = true) →
      i ∈ Region.ready md ops ls → Region.wanted oi (yielded ops a.tmps) = true → MkAt P V oi a mk ob →
      (∀ b, growAny P md ops V mks cl Q n g f (ls.setIfInBounds i true) (a.put oi.dst (mk b)) ((b, ob) :: bs)) → growAny P md ops V mks cl Q n g (f + 1) ls a bs := by
  intro f
  induction f with
  | zero =>
    intro ls a bs inv _ hfree hr hw hy H
    refine ⟨List.ne_nil_of_mem hr, fun j hj => ?_⟩
    have hjn : j < n := by
      rcases Nat.lt_or_ge j n with h | h
      · exact h
      · exact absurd hj (tail_waits hs hc hn inv _ i rfl hin (mem_ready.1 hr).1 j h)
    refine ⟨hjn, ?_⟩
    by_cases hji : j = i
    · subst hji
      unfold gOp; simp only [hi, hmi]; exact ⟨hw, hy, H⟩
    · exact absurd ((H 0).1 j (ready_mono hj hji)) (by omega)
  | succ f ih =>
    intro ls a bs inv hmk hfree hr hw hy H
    refine ⟨List.ne_nil_of_mem hr, fun j hj => ?_⟩
    have hjn : j < n := by
      rcases Nat.lt_or_ge j n with h | h
      · exact h
      · exact absurd hj (tail_waits hs hc hn inv _ i rfl hin (mem_ready.1 hr).1 j h)
    refine ⟨hjn, ?_⟩
    by_cases hji : j = i
    · subst hji
      unfold gOp; simp only [hi, hmi]; exact ⟨hw, hy, H⟩
    · obtain ⟨hjun, oj, hoj, hall⟩ := mem_ready.1 hj
      obtain ⟨h1, h2, h3⟩ := Oper.apart_spec (hfree j oj hoj hji hjun (gnot_waits (mem_ready.1 hr).1 hall))
      have hsi := fun cs b => hsel i oi cs b hi
      have hsj := fun cs b => hsel j oj cs b hoj
      have H' := fun b => ((H b).2 j (ready_mono hj hji)).2
      unfold gOp at H' ⊢
      simp only [hoj] at H' ⊢
      have hmk' : ∀ k, k < n → k ≠ i → (ls.setIfInBounds j true).getD k true = false → mks k ≠ none ∨ cl k = false ∨ ∃ f, waitsT md ops i f k = true := fun k hk hki hun => by
        by_cases hkj : j = k
        · subst hkj
          exact hmk j hk hki hjun
        · rw [getD_set_ne true hkj] at hun; exact hmk k hk hki hun
      cases hm : mks j with
      | none =>
        simp only [hm] at H' ⊢
        have hcl : cl j = false := by
          rcases hmk j hjn hji hjun with h | h | ⟨f, h⟩
          · exact absurd hm h
          · exact h
          · have := waitsT_listed inv f j h ⟨oj, hoj, hall⟩
            rw [getD_both (mem_ready.1 hr).1] at this
            cases this
        have ew : ∀ b, Region.wanted oj (yielded ops (a.put oi.dst (mk b)).tmps) = Region.wanted oj (yielded ops a.tmps) := fun b => wanted_put oj a oi.dst (mk b) h1
        simp only [ew] at H'
        by_cases hwj : Region.wanted oj (yielded ops a.tmps) = true
        · rw [if_pos hwj]
          simp only [hwj, if_true] at H'
          obtain ⟨v, _, q2, _⟩ := H' 0
          have ee : ∀ b, execOp (a.put oi.dst (mk b)).eval oj = execOp a.eval oj := fun b => execOp_put oj hsj a oi.dst (mk b) h1
          have r0 := (q2 hcl).of_same (ee 0).symm
          refine ⟨v, fun w hw => .inl (r0 w hw.grows), fun _ => r0, ?_⟩
          refine ih _ _ _ (inv.set hj hjn) hmk' (gfree_set hfree hjun) (ready_mono hr (Ne.symm hji)) ((wanted_put oi a oj.dst _ h3).trans hw) (hy.of_same (execOp_put oi hsi a oj.dst _ h3)) (fun b => ?_)
          obtain ⟨v', _, q2', q3'⟩ := H' b
          have r1 := (q2' hcl).of_same (ee b).symm
          have ev : v' = v := by
            have e1 := r0 V (Grows.refl V)
            rw [r1 V (Grows.refl V)] at e1
            injection e1 with e2 _
            injection e2
          subst ev
          rw [Array.setIfInBounds_comm _ _ hji, ← Act.put_comm a (mk b) v' h2]
          exact q3'
        · rw [if_neg hwj]
          simp only [hwj] at H'
          refine ih _ _ _ (inv.set hj hjn) hmk' (gfree_set hfree hjun) (ready_mono hr (Ne.symm hji)) ((wanted_put oi a oj.dst _ h3).trans hw) (hy.of_same (execOp_put oi hsi a oj.dst _ h3)) (fun b => ?_)
          rw [Array.setIfInBounds_comm _ _ hji, ← Act.put_comm a (mk b) undef h2]
          exact H' b
      | some p =>
        obtain ⟨mk', ob'⟩ := p
        simp only [hm] at H' ⊢
        refine ⟨(wanted_put oj a oi.dst (mk 0) h1).symm.trans (H' 0).1, (H' 0).2.1.of_same (execOp_put oj hsj a oi.dst (mk 0) h1).symm, fun b' => ?_⟩
        refine ih _ _ _ (inv.set hj hjn) hmk' (gfree_set hfree hjun) (ready_mono hr (Ne.symm hji)) ((wanted_put oi a oj.dst _ h3).trans hw) (hy.of_same (execOp_put oi hsi a oj.dst _ h3)) (fun b => ?_)
        rw [Array.setIfInBounds_comm _ _ hji, ← Act.put_comm a (mk b) (mk' b') h2]
        exact growAny_perm _ _ _ _ _ (List.Perm.swap _ _ _) ((H' b).2.2 b')

/-- The walk: the head in a given order, what lays blocks last. -/
def wpGrow (P : Program) (ops : Array Oper) (V : World) (mks : Mks) (cl : Nat → Bool) (Q : Exit → Act → World → Prop) (tail : List Oper) : List Nat → Act → List (Nat × Obj) → Prop
  | [], a, bs => ∀ w, CL V bs w → wpList P ops Q tail a w
  | k :: r, a, bs => gOp P ops V mks cl k (wpGrow P ops V mks cl Q tail r) a bs

def ordB (md : Region.Mode) (ops : Array Oper) (mks cl : Nat → Bool) (n g : Nat) : List Nat → Array Bool → Bool
  | [], ls => Region.seqB md ops g n ls
  | k :: r, ls => decide (k < n) && (Region.ready md ops ls).contains k && Region.free md ops ls k && (!mks k || (List.range n).all fun j => ls.getD j true || j == k || mks j || !cl j || waitsT md ops k n j) && ordB md ops mks cl n g r (ls.setIfInBounds k true)

theorem growAny_ord {mks : Mks} {cl : Nat → Bool} {n : Nat} {tail : List Oper} (hsel : Region.noSelect ops = true)
    (hs : Region.sinkB md ops n = true) (hc : Region.chainB md ops n = true) (hn : n < ops.size) (htail : ∀ j, tail[j]? = ops[n + j]?) (hlen : tail.length = ops.size - n)
    (hguard : ∀ j o, ops[j]? = some o → j < n → mks j = none → o.guard = none) :
    ∀ (r : List Nat) (ls : Array Bool) (a : Act) (bs : List (Nat × Obj)), HeadInv md ops n ls → ordB md ops (fun i => (mks i).isSome) cl n (ops.size - n) r ls = true →
      wpGrow P ops V mks cl Q tail r a bs → growAny P md ops V mks cl Q n (ops.size - n) r.length ls a bs := by
  intro r
  induction r with
  | nil =>
    intro ls a bs inv hB h
    simp only [ordB] at hB
    refine ⟨seqB_ready hB, fun w hw => ?_⟩
    have := wpAny_of_seq (md := md) (Q' := Q) tail n ls a w htail (by rw [hlen]; exact hB) (h w hw)
    rwa [hlen] at this
  | cons k r ih =>
    intro ls a bs inv hB h
    simp only [ordB, Bool.and_eq_true, decide_eq_true_eq, List.contains_iff_mem] at hB
    obtain ⟨⟨⟨⟨hkn, hr⟩, hf⟩, hm⟩, hB⟩ := hB
    have h0 : ∃ o, ops[k]? = some o := ⟨_, Array.getElem?_eq_getElem (by omega)⟩
    obtain ⟨o, h0⟩ := h0
    have inv' := inv.set hr hkn
    unfold wpGrow gOp at h
    simp only [h0] at h
    cases hmk : mks k with
    | none =>
      simp only [hmk] at h
      have hw : Region.wanted o (yielded ops a.tmps) = true := by unfold Region.wanted; rw [hguard k o h0 hkn hmk]
      rw [if_pos hw] at h
      obtain ⟨v, h1, hv, h2⟩ := h
      exact growAny_fix h0 hkn hmk (Region.noSelect_spec hsel) hs hc hn _ ls a bs inv (Region.free_spec h0 hf) hr hw h1 hv (ih _ _ _ inv' hB h2)
    | some p =>
      obtain ⟨mk, ob⟩ := p
      simp only [hmk] at h
      refine growAny_mk h0 hkn hmk (Region.noSelect_spec hsel) hs hc hn _ ls a bs inv (fun j hj hji hun => ?_) (Region.free_spec h0 hf) hr h.1 h.2.1 (fun b => ih _ _ _ inv' hB (h.2.2 b))
      simp only [hmk, Option.isSome_some, Bool.not_true, Bool.false_or, List.all_eq_true, List.mem_range, Bool.or_eq_true, beq_iff_eq, Bool.not_eq_true'] at hm
      rcases hm j hj with (((h1 | h1) | h1) | h1) | h1
      · rw [hun] at h1; cases h1
      · exact absurd h1 hji
      · left; intro e; rw [e] at h1; cases h1
      · exact .inr (.inl h1)
      · exact .inr (.inr ⟨_, h1⟩)

def growB (ops : Array Oper) (n : Nat) (mks cl : Nat → Bool) (ord : List Nat) : Bool :=
  Region.noSelect ops && decide (n < ops.size) && Region.sinkB .any ops n && Region.chainB .any ops n && decide (ord.length = n) && ordB .any ops mks cl n (ops.size - n) ord (Array.replicate ops.size false) && ops.toList.all (fun o => o.guard.isNone)

/-- The blocks that operations of the head lay. -/
def mksOf (al : List (Nat × (Nat → Value) × Obj)) : Mks := fun i => (al.find? fun p => p.1 == i).map Prod.snd

theorem region_grow {id : Nat} {a : Act} {w : World} {l : List Oper} (n : Nat) (ord : List Nat) (al : List (Nat × (Nat → Value) × Obj)) (cl : List Nat)
    (hm : P.follows .mixedOrders = true) (hB : growB l.toArray n (fun i => (mksOf al i).isSome) (fun i => cl.contains i) ord = true)
    (h : wpGrow P l.toArray w.drew (mksOf al) (fun i => cl.contains i) Q (l.drop n) ord a []) : (Code.region id l.toArray true).wp P Q a w := by
  simp only [growB, Bool.and_eq_true, decide_eq_true_eq] at hB
  obtain ⟨⟨⟨⟨⟨⟨hsel, hn⟩, hs⟩, hc⟩, ho⟩, hord⟩, hg⟩ := hB
  have inv0 : HeadInv .any l.toArray n (Array.replicate l.toArray.size false) :=
    ⟨by simp, fun j oj _ hl => (by rw [getD_replicate_false] at hl; cases hl), fun t _ ht => getD_in (by simpa using ht) (getD_replicate_false _ _)⟩
  have H := growAny_ord (P := P) (md := .any) (Q := Q) (V := w.drew) (mks := mksOf al) (cl := fun i => cl.contains i) (tail := l.drop n) hsel hs hc hn (fun j => by simp [List.getElem?_drop]) (by simp)
    (fun j o hj _ _ => by
      have := List.all_eq_true.1 hg o (Array.mem_toList_iff.2 (Array.mem_of_getElem? hj))
      simpa using this) ord _ a [] inv0 hord h
  have := growAny_sound (Q := Q) _ _ _ _ w.drew (CL.nil _) H
  rw [ho, show n + (l.toArray.size - n) = l.toArray.size by omega] at this
  exact wp_region_any hm this

/-- Steps. -/
theorem grow_v {mks : Mks} {cl : Nat → Bool} {tail : List Oper} {k : Nat} {r : List Nat} {a : Act} {bs : List (Nat × Obj)} {o : Oper} {rest : List Oper} (hi : ops.toList.drop k = o :: rest) (hmk : mks k = none) (hg : Region.wanted o (yielded ops a.tmps) = true)
    (h : ∃ v, (∀ w', Grows V w' → (execOp a.eval o).run P w' = .ok (.value v) w') ∧ wpGrow P ops V mks cl Q tail r (a.put o.dst v) bs) : wpGrow P ops V mks cl Q tail (k :: r) a bs := by
  have hi' : ops[k]? = some o := by have := congrArg (fun l => l[0]?) hi; simpa using this
  obtain ⟨v, h1, h2⟩ := h
  unfold wpGrow gOp; simp only [hi', hmk]; rw [if_pos hg]
  exact ⟨v, fun w hw => .inl (h1 w hw.grows), fun _ => h1, h2⟩
theorem grow_c {mks : Mks} {cl : Nat → Bool} {tail : List Oper} {k : Nat} {r : List Nat} {a : Act} {bs : List (Nat × Obj)} {o : Oper} {rest : List Oper} (hi : ops.toList.drop k = o :: rest) (hmk : mks k = none) (hcl : cl k = true) (hg : Region.wanted o (yielded ops a.tmps) = true)
    (h : ∃ f args v, (∀ w', Grows V w' → (execOp a.eval o).run P w' = .ok (.enter f args) w') ∧ (∀ w', Grows V w' → Calls P f args w' fun e w'' => e = .returned v ∧ Below w'.heap.size w' w'') ∧ wpGrow P ops V mks cl Q tail r (a.put o.dst v) bs) :
    wpGrow P ops V mks cl Q tail (k :: r) a bs := by
  have hi' : ops[k]? = some o := by have := congrArg (fun l => l[0]?) hi; simpa using this
  obtain ⟨f, args, v, h1, h2, h3⟩ := h
  unfold wpGrow gOp; simp only [hi', hmk]; rw [if_pos hg]
  exact ⟨v, fun w hw => .inr ⟨f, args, h1 w hw.grows, h2 w hw.grows⟩, (fun e => by rw [hcl] at e; cases e), h3⟩
/-- The callee may ask for the blocks that are laid already. -/
theorem grow_cb {mks : Mks} {cl : Nat → Bool} {tail : List Oper} {k : Nat} {r : List Nat} {a : Act} {bs : List (Nat × Obj)} {o : Oper} {rest : List Oper} (hi : ops.toList.drop k = o :: rest) (hmk : mks k = none) (hcl : cl k = true) (hg : Region.wanted o (yielded ops a.tmps) = true)
    (h : ∃ f args v, (∀ w', Grows V w' → (execOp a.eval o).run P w' = .ok (.enter f args) w') ∧ (∀ w', CL V bs w' → Calls P f args w' fun e w'' => e = .returned v ∧ Below w'.heap.size w' w'') ∧ wpGrow P ops V mks cl Q tail r (a.put o.dst v) bs) :
    wpGrow P ops V mks cl Q tail (k :: r) a bs := by
  have hi' : ops[k]? = some o := by have := congrArg (fun l => l[0]?) hi; simpa using this
  obtain ⟨f, args, v, h1, h2, h3⟩ := h
  unfold wpGrow gOp; simp only [hi', hmk]; rw [if_pos hg]
  exact ⟨v, fun w hw => .inr ⟨f, args, h1 w hw.grows, h2 w hw⟩, (fun e => by rw [hcl] at e; cases e), h3⟩
theorem grow_m {mks : Mks} {cl : Nat → Bool} {tail : List Oper} {k : Nat} {r : List Nat} {a : Act} {bs : List (Nat × Obj)} {o : Oper} {rest : List Oper} {mk : Nat → Value} {ob : Obj} (hi : ops.toList.drop k = o :: rest) (hmk : mks k = some (mk, ob)) (hg : Region.wanted o (yielded ops a.tmps) = true)
    (h : (∀ w', Grows V w' → (execOp a.eval o).run P w' = .ok (.value (mk w'.heap.size)) (w'.alloc ob)) ∧ ∀ b, wpGrow P ops V mks cl Q tail r (a.put o.dst (mk b)) ((b, ob) :: bs)) :
    wpGrow P ops V mks cl Q tail (k :: r) a bs := by
  have hi' : ops[k]? = some o := by have := congrArg (fun l => l[0]?) hi; simpa using this
  unfold wpGrow gOp; simp only [hi', hmk]
  exact ⟨hg, h.1, h.2⟩
theorem grow_end {mks : Mks} {cl : Nat → Bool} {tail : List Oper} {a : Act} {bs : List (Nat × Obj)} (h : ∀ w, CL V bs w → wpList P ops Q tail a w) : wpGrow P ops V mks cl Q tail [] a bs := h
end
/-- What a known block gives. -/
theorem has_cells {w : World} {b : Nat} {cs : List Value} {t : TypeId} (h : w.heap[b]? = some (.cells cs.toArray t)) : (∀ o v, cs[o]? = some v → w.cell? ⟨b, o, none⟩ = some v) ∧ (∀ o, w.frozen? ⟨b, o, none⟩ = false) ∧ b < w.heap.size := by
  refine ⟨fun o v hv => ?_, fun o => ?_, (Array.getElem?_eq_some_iff.1 h).1⟩
  · simp [World.cell?, h, hv]
  · simp [World.frozen?, h]
end Go.Proofs.YtpggmebgndkpjaaDoor

namespace Go.Proofs.YtpggmebgndkpjaaDoor
set_option linter.all false
open Go.RowKit

theorem below_both {B : Nat} {V w : World} (h : Below B V w) (a : Addr) (v : Value) : Below B (V.setCell a v) (w.setCell a v) :=
  ⟨h.os, h.tape, h.output, by simp only [World.setCell, Array.size_modify]; exact h.size,
   fun k hk => by simp only [World.setCell, Array.getElem?_modify, h.block k hk]⟩

theorem set_top (V : World) (c : Array Value) (t o : Nat) (d : Value) : (V.alloc (.cells c t)).setCell ⟨V.heap.size, o, none⟩ d = V.alloc (.cells (c.setIfInBounds o d) t) := by
  have e : ∀ (h : Array Obj) (f : Obj → Obj) (o : Obj), (h.push o).modify h.size f = h.push (f o) := fun h f o => by
    apply Array.ext
    · simp
    · intro i h1 h2
      simp only [Array.getElem_modify, Array.getElem_push]
      by_cases hi : i < h.size
      · rw [if_neg (by omega), dif_pos hi, dif_pos hi]
      · rw [if_pos (by simp at h1; omega), dif_neg hi, dif_neg hi]
  simp only [World.setCell, World.alloc, e]
  rfl

theorem below_four {B n t : Nat} {V w : World} {c0 c1 c2 c3 d0 d1 d2 d3 : Value} (h : Below B (V.alloc (.cells #[c0, c1, c2, c3] t)) w) (hn : n = V.heap.size) :
    Below B (V.alloc (.cells #[d0, d1, d2, d3] t)) ((((w.setCell ⟨n, 0, none⟩ d0).setCell ⟨n, 1, none⟩ d1).setCell ⟨n, 2, none⟩ d2).setCell ⟨n, 3, none⟩ d3) := by
  subst hn
  have h' := below_both (below_both (below_both (below_both h ⟨V.heap.size, 0, none⟩ d0) ⟨V.heap.size, 1, none⟩ d1) ⟨V.heap.size, 2, none⟩ d2) ⟨V.heap.size, 3, none⟩ d3
  simp only [set_top] at h'
  exact h'
end Go.Proofs.YtpggmebgndkpjaaDoor

namespace Go.Proofs.YtpggmebgndkpjaaDoor
set_option linter.all false
open Go Go.RowKit

theorem KeepL.unalloc {L : List Nat} {V w : World} {o : Obj} (h : KeepL L V (w.alloc o)) (hL : ∀ b ∈ L, b < w.heap.size) : KeepL L V w := fun b hb j => by
  rw [← h b hb j]
  simp only [World.cell?, Below.heap_alloc w o b (hL b hb)]
/-- The fence of a round: nothing is shut out. -/
abbrev RF (l : Nat) : Fence := Fence.wide.inRound l
/-- No select and no defer statement. -/
def noDefer (ops : Array Oper) : Bool := Region.noSelect ops && ops.toList.all fun o => match o.op with | .defer _ => false | _ => true
theorem noDefer_spec {ops : Array Oper} (h : noDefer ops = true) : ∀ (j : Nat) (o : Oper), ops[j]? = some o → ∀ c, o.op ≠ .defer c := fun j o hj c e => by
  unfold noDefer at h
  rw [Bool.and_eq_true] at h
  have := List.all_eq_true.1 h.2 o (by
    rw [← Array.getElem?_toList] at hj
    exact List.mem_of_getElem? hj)
  rw [e] at this
  cases this
theorem noDefer_sel {ops : Array Oper} (h : noDefer ops = true) : Region.noSelect ops = true := by
  unfold noDefer at h
  rw [Bool.and_eq_true] at h
  exact h.1

section
variable {P : Program} {ops : Array Oper} {Q : Exit → Act → World → Prop} {md : Region.Mode} {S : World → Prop} {l m : Nat}

/-- Whatever order is picked from here on, and S holds behind every operation. -/
def wpAnyR (l m : Nat) (P : Program) (md : Region.Mode) (ops : Array Oper) (Q : Exit → Act → World → Prop) (S : World → Prop) : Nat → Array Bool → Act → World → Prop
  | 0, listed, a, w => Region.ready md ops listed = [] ∧ Q .normal a w
  | fuel + 1, listed, a, w => (Region.ready md ops listed = [] → Q .normal a w) ∧
      ∀ i ∈ Region.ready md ops listed, wpOpIn (RF l) m P ops Q i (fun a' w' => S w' ∧ wpAnyR l m P md ops Q S fuel (listed.setIfInBounds i true) a' w') a w
theorem wpAnyIn_of_R : ∀ (fuel : Nat) (listed : Array Bool) (a : Act) (w : World), wpAnyR l m P md ops Q S fuel listed a w → wpAnyIn (RF l) m P md ops Q fuel listed a w
  | 0, _, _, _, h => h
  | fuel + 1, _, _, _, h => ⟨h.1, fun i hi => wpOpIn_mono (fun a' w' h' => wpAnyIn_of_R fuel _ a' w' h'.2) (h.2 i hi)⟩

theorem yields_opR {i : Nat} {o : Oper} {v : Value} {a : Act} (hd : noDefer ops = true) (hi : ops[i]? = some o) (hy : YieldsIf P ops S o v a) {K : Act → World → Prop} {w : World} (hS : S w) (h : K (a.put o.dst v) w) :
    wpOpIn (RF l) m P ops Q i K a w := by
  unfold wpOpIn
  simp only [hi]
  rcases hy with ⟨hw, hv⟩ | ⟨hw, rfl⟩
  · simp only [hw, if_true, Oper.wpIn, Oper.semAt_eq _ _ _ (noDefer_spec hd i o hi), hv w hS, Oper.uponIn]
    exact ⟨fun _ _ => trivial, h⟩
  · simp only [hw, Bool.false_eq_true, if_false]
    exact ⟨fun _ _ => trivial, h⟩
theorem putR {j : Nat} {oi oj : Oper} {v : Value} (hd : noDefer ops = true) (hj : ops[j]? = some oj) (hap : oi.apart ops oj = true) (hsi : ∀ cs b, oi.op ≠ .select cs b) (hsj : ∀ cs b, oj.op ≠ .select cs b)
    (hQ : ∀ c a w, Q (.panic c) (a.put oi.dst v) w → Q (.panic c) a w) {K : Act → World → Prop} {a : Act} {w : World} (hy : YieldsIf P ops S oi v a) (h : wpOpIn (RF l) m P ops Q j K (a.put oi.dst v) w) :
    wpOpIn (RF l) m P ops Q j (fun a' w' => YieldsIf P ops S oi v a' ∧ K (a'.put oi.dst v) w') a w := by
  obtain ⟨h1, h2, h3⟩ := Oper.apart_spec hap
  have keep : ∀ (a : Act), YieldsIf P ops S oi v a → ∀ u, YieldsIf P ops S oi v (a.put oj.dst u) := fun a hy u => hy.of_same (execOp_put oi hsi a oj.dst u h3) (wanted_put oi a oj.dst u h3)
  have hdj := noDefer_spec hd j oj hj
  unfold wpOpIn at *
  simp only [hj] at *
  rw [wanted_put oj a oi.dst v h1] at h
  split
  · rename_i hw
    simp only [hw, if_true] at h
    unfold Oper.wpIn at *
    refine ⟨fun _ _ => trivial, ?_⟩
    have h := h.2
    rw [Oper.semAt_eq _ _ _ hdj, execOp_put oj hsj a oi.dst v h1] at h
    rw [Oper.semAt_eq _ _ _ hdj]
    generalize (execOp a.eval oj).run P w = r at *
    cases r with
    | ok x w' =>
      cases x <;> simp only [Oper.uponIn] at h ⊢
      case value u => exact ⟨keep a hy u, by rw [← Act.put_comm a v u h2]; exact h⟩
      case skip => exact ⟨keep a hy _, by rw [← Act.put_comm a v undef h2]; exact h⟩
      case defer d =>
        refine ⟨keep { a with defers := d :: a.defers } (hy.of_same rfl rfl) undef, ?_⟩
        rw [← Act.put_comm _ v undef h2, ← Act.put_defers]
        exact h
      case enter f args =>
        refine ⟨h.1, CallsIn.mono h.2 fun e w'' he => ?_⟩
        cases e with
        | returned u => exact ⟨keep a hy u, by rw [← Act.put_comm a v u h2]; exact he⟩
        | panicked c => exact hQ _ _ _ he
        | outgrown => exact he
      case row row args => exact ⟨h.1, RowsIn.mono h.2 fun u w'' he => ⟨keep a hy u, by rw [← Act.put_comm a v u h2]; exact he⟩⟩
      case round l f tmps assign body =>
        refine ⟨h.1, RoundIn.mono h.2 fun e w'' he => ?_⟩
        cases e with
        | returned u => exact ⟨keep a hy u, by rw [← Act.put_comm a v u h2]; exact he⟩
        | panicked c => exact hQ _ _ _ he
        | outgrown => exact he
    | halt x w' =>
      cases x <;> simp only [Oper.uponIn] at h ⊢
      case panic u => exact hQ _ _ _ h
  · rename_i hw
    simp only [hw] at h
    exact ⟨fun _ _ => trivial, keep a hy _, by rw [← Act.put_comm a v undef h2]; exact h.2⟩
theorem firstR {i : Nat} {oi : Oper} {v : Value} (hd : noDefer ops = true) (hi : ops[i]? = some oi) (hQ : ∀ c a w, Q (.panic c) (a.put oi.dst v) w → Q (.panic c) a w) :
    ∀ (fuel : Nat) (listed : Array Bool) (a : Act) (w : World),
      (∀ j oj, ops[j]? = some oj → j ≠ i → listed.getD j true = false → (∀ e ∈ oj.after, Region.binds md e = true → e.on ≠ i) → oi.apart ops oj = true) →
      i ∈ Region.ready md ops listed → YieldsIf P ops S oi v a → S w →
      wpAnyR l m P md ops Q S fuel (listed.setIfInBounds i true) (a.put oi.dst v) w → wpAnyR l m P md ops Q S (fuel + 1) listed a w := by
  have hsel := Region.noSelect_spec (noDefer_sel hd)
  intro fuel
  induction fuel with
  | zero =>
    intro listed a w _ hr hy hS H
    refine ⟨fun h => (by rw [h] at hr; cases hr), fun j hj => ?_⟩
    by_cases hji : j = i
    · subst hji; exact yields_opR hd hi hy hS ⟨hS, H⟩
    · have := ready_mono hj hji
      rw [H.1] at this
      cases this
  | succ fuel ih =>
    intro listed a w hfree hr hy hS H
    refine ⟨fun h => (by rw [h] at hr; cases hr), fun j hj => ?_⟩
    by_cases hji : j = i
    · subst hji; exact yields_opR hd hi hy hS ⟨hS, H⟩
    · have h1 := H.2 j (ready_mono hj hji)
      obtain ⟨hjun, oj, hoj, hall⟩ := mem_ready.1 hj
      have hnot : ∀ e ∈ oj.after, Region.binds md e = true → e.on ≠ i := fun e he hb heq => by
        have h1 := hall e he hb
        have h0 := (mem_ready.1 hr).1
        rw [heq] at h1
        rcases Nat.lt_or_ge i listed.size with h' | h'
        · simp [h'] at h0 h1; rw [h0] at h1; cases h1
        · simp [Array.getElem?_eq_none h'] at h1
      have h2 := putR hd hoj (hfree j oj hoj hji hjun hnot) (fun cs b => hsel i oi cs b hi) (fun cs b => hsel j oj cs b hoj) hQ hy h1
      refine wpOpIn_mono (fun a' w' h3 => ⟨h3.2.1, ih (listed.setIfInBounds j true) a' w' (fun k ok hk hki hun hno => hfree k ok hk hki ?_ hno) (ready_mono hr (Ne.symm hji)) h3.1 h3.2.1 ?_⟩) h2
      · by_cases hjk : j = k
        · subst hjk; exact hjun
        · rw [getD_set_ne true hjk] at hun; exact hun
      · rw [Array.setIfInBounds_comm _ _ hji]
        exact h3.2.2
end

section
variable {P : Program} {Q : Exit → Act → World → Prop} {L : List Nat} {V : World} {l m : Nat} {S : World → Prop}
theorem heldr_begin {id : Nat} {a : Act} {w : World} {ol : List Oper} (n : Nat) (L : List Nat) (hm : P.follows .mixedOrders = true) (hn : ol.length = n) (hQ : ∀ c a d v w, Q (.panic c) (a.put d v) w → Q (.panic c) a w)
    (h : Hid (∀ c a d v w, Q (.panic c) (a.put d v) w → Q (.panic c) a w) → KeepL L w.drew w.drew → wpAnyR l m P .any ol.toArray Q (KeepL L w.drew) n (Array.replicate n false) a w.drew) : (Code.region id ol.toArray true).wpIn (RF l) m P Q a w := by
  refine wpIn_region_any hm (wpAnyIn_of_R (S := KeepL L w.drew) _ _ _ _ ?_)
  have hs : ol.toArray.size = n := by simpa using hn
  rw [hs]
  exact h (Lib.hid hQ) (KeepL.refl _ _)
variable {md : Region.Mode} {ops : Array Oper} {n : Nat} {ls : Array Bool} {a : Act} {w : World} {o : Oper}
theorem heldr_v (i : Nat) {r : List Oper} (hi : ops.toList.drop i = o :: r) (hs : noDefer ops = true) (hf : Region.free md ops ls i = true) (hr : (Region.ready md ops ls).contains i = true)
    (hQ : Hid (∀ c a d v w, Q (.panic c) (a.put d v) w → Q (.panic c) a w)) (hS : KeepL L V w) (hg : Region.wanted o (yielded ops a.tmps) = true)
    (h : ∃ v, (∀ w', KeepL L V w' → (execOp a.eval o).run P w' = .ok (.value v) w') ∧ wpAnyR l m P md ops Q (KeepL L V) n (ls.setIfInBounds i true) (a.put o.dst v) w) :
    wpAnyR l m P md ops Q (KeepL L V) (n + 1) ls a w := by
  obtain ⟨v, h1, h2⟩ := h
  exact firstR hs (drop_at hi) (fun c a w h => hQ.out c a _ v w h) n ls a w (Region.free_spec (drop_at hi) hf) (by simpa using hr) (.inl ⟨hg, h1⟩) hS h2
theorem heldr_s (i : Nat) {r : List Oper} (hi : ops.toList.drop i = o :: r) (hs : noDefer ops = true) (hf : Region.free md ops ls i = true) (hr : (Region.ready md ops ls).contains i = true)
    (hQ : Hid (∀ c a d v w, Q (.panic c) (a.put d v) w → Q (.panic c) a w)) (hS : KeepL L V w) (hg : Region.wanted o (yielded ops a.tmps) = false)
    (h : wpAnyR l m P md ops Q (KeepL L V) n (ls.setIfInBounds i true) (a.put o.dst undef) w) :
    wpAnyR l m P md ops Q (KeepL L V) (n + 1) ls a w :=
  firstR hs (drop_at hi) (fun c a w h => hQ.out c a _ undef w h) n ls a w (Region.free_spec (drop_at hi) hf) (by simpa using hr) (.inr ⟨hg, rfl⟩) hS h
theorem heldr_one (i : Nat) {r : List Oper} (hi : ops.toList.drop i = o :: r) (hr : (Region.ready md ops ls == [i] && noDefer ops) = true) (hg : Region.wanted o (yielded ops a.tmps) = true)
    (h : o.uponIn (RF l) m P a (fun a' w' => KeepL L V w' ∧ wpAnyR l m P md ops Q (KeepL L V) n (ls.setIfInBounds i true) a' w') Q ((execOp a.eval o).run P w)) : wpAnyR l m P md ops Q (KeepL L V) (n + 1) ls a w := by
  rw [Bool.and_eq_true, beq_iff_eq] at hr
  obtain ⟨hr, hd⟩ := hr
  refine ⟨fun h0 => (by rw [hr] at h0; cases h0), fun j hj => ?_⟩
  obtain rfl : j = i := by rw [hr] at hj; simpa using hj
  unfold wpOpIn
  simp only [drop_at hi]
  rw [if_pos hg]
  unfold Oper.wpIn
  rw [Oper.semAt_eq _ _ _ (noDefer_spec hd j o (drop_at hi))]
  exact ⟨fun _ _ => trivial, h⟩
theorem heldr_call (i : Nat) {r : List Oper} (hi : ops.toList.drop i = o :: r) (hr : (Region.ready md ops ls == [i] && noDefer ops) = true) (hg : Region.wanted o (yielded ops a.tmps) = true) (hS : KeepL L V w)
    (h : ∃ f args v, (execOp a.eval o).run P w = .ok (.enter f args) w ∧ (Calls P f args w fun e w' => e = .returned v ∧ Below w.heap.size w w') ∧ (∀ b ∈ L, b < w.heap.size) ∧
      ∀ w', Below w.heap.size w w' → KeepL L V w' → wpAnyR l m P md ops Q (KeepL L V) n (ls.setIfInBounds i true) (a.put o.dst v) w') :
    wpAnyR l m P md ops Q (KeepL L V) (n + 1) ls a w := by
  obtain ⟨f, args, v, he, hc, hL, hk⟩ := h
  refine heldr_one i hi hr hg ?_
  rw [he]
  refine ⟨(fun h => by cases h), CallsIn.inRound l ((callsIn_wide.2 hc).mono ?_)⟩
  rintro _ w' ⟨rfl, hb⟩
  exact ⟨hS.below hb hL, hk w' hb (hS.below hb hL)⟩
/-- As heldr_call, for a contract whose value is told by a relation. -/
theorem heldr_callx (i : Nat) {r : List Oper} (hi : ops.toList.drop i = o :: r) (hr : (Region.ready md ops ls == [i] && noDefer ops) = true) (hg : Region.wanted o (yielded ops a.tmps) = true) (hS : KeepL L V w)
    (h : ∃ f args, ∃ R : Value → World → Prop, (execOp a.eval o).run P w = .ok (.enter f args) w ∧ (Calls P f args w fun e w' => (∃ v, e = .returned v ∧ R v w') ∧ Below w.heap.size w w') ∧ (∀ b ∈ L, b < w.heap.size) ∧
      ∀ v w', R v w' → Below w.heap.size w w' → KeepL L V w' → wpAnyR l m P md ops Q (KeepL L V) n (ls.setIfInBounds i true) (a.put o.dst v) w') :
    wpAnyR l m P md ops Q (KeepL L V) (n + 1) ls a w := by
  obtain ⟨f, args, R, he, hc, hL, hk⟩ := h
  refine heldr_one i hi hr hg ?_
  rw [he]
  refine ⟨(fun h => by cases h), CallsIn.inRound l ((callsIn_wide.2 hc).mono ?_)⟩
  rintro _ w' ⟨⟨v, rfl, hv⟩, hb⟩
  exact ⟨hS.below hb hL, hk v w' hv hb (hS.below hb hL)⟩
theorem heldr_o (i : Nat) {r : List Oper} (hi : ops.toList.drop i = o :: r) (hr : (Region.ready md ops ls == [i] && noDefer ops) = true) (hg : Region.wanted o (yielded ops a.tmps) = true)
    (h : ∃ v w', (execOp a.eval o).run P w = .ok (.value v) w' ∧ KeepL L V w' ∧ (KeepL L V w' → wpAnyR l m P md ops Q (KeepL L V) n (ls.setIfInBounds i true) (a.put o.dst v) w')) :
    wpAnyR l m P md ops Q (KeepL L V) (n + 1) ls a w := by
  obtain ⟨v, w', he, hk, h⟩ := h
  refine heldr_one i hi hr hg ?_
  rw [he]
  exact ⟨hk, h hk⟩
theorem heldr_t (i : Nat) {r : List Oper} (hi : ops.toList.drop i = o :: r) (hr : (Region.ready md ops ls == [i] && noDefer ops) = true) (hg : Region.wanted o (yielded ops a.tmps) = true)
    (h : ∃ w', (execOp a.eval o).run P w = .ok .skip w' ∧ KeepL L V w' ∧ (KeepL L V w' → wpAnyR l m P md ops Q (KeepL L V) n (ls.setIfInBounds i true) (a.put o.dst undef) w')) :
    wpAnyR l m P md ops Q (KeepL L V) (n + 1) ls a w := by
  obtain ⟨w', he, hk, h⟩ := h
  refine heldr_one i hi hr hg ?_
  rw [he]
  exact ⟨hk, h hk⟩
/-- Two may come up: both ways. -/
theorem heldr_two (i k : Nat) {o2 : Oper} {r r2 : List Oper} (hi : ops.toList.drop i = o :: r) (hk : ops.toList.drop k = o2 :: r2) (hr : (Region.ready md ops ls == [i, k] && noDefer ops) = true) (hgi : Region.wanted o (yielded ops a.tmps) = true)
    (hgk : Region.wanted o2 (yielded ops a.tmps) = true)
    (h1 : o.uponIn (RF l) m P a (fun a' w' => KeepL L V w' ∧ wpAnyR l m P md ops Q (KeepL L V) n (ls.setIfInBounds i true) a' w') Q ((execOp a.eval o).run P w))
    (h2 : o2.uponIn (RF l) m P a (fun a' w' => KeepL L V w' ∧ wpAnyR l m P md ops Q (KeepL L V) n (ls.setIfInBounds k true) a' w') Q ((execOp a.eval o2).run P w)) : wpAnyR l m P md ops Q (KeepL L V) (n + 1) ls a w := by
  rw [Bool.and_eq_true, beq_iff_eq] at hr
  obtain ⟨hr, hd⟩ := hr
  refine ⟨fun h0 => (by rw [hr] at h0; cases h0), fun j hj => ?_⟩
  rw [hr, List.mem_cons, List.mem_singleton] at hj
  rcases hj with rfl | rfl
  · unfold wpOpIn
    simp only [drop_at hi]
    rw [if_pos hgi]
    unfold Oper.wpIn
    rw [Oper.semAt_eq _ _ _ (noDefer_spec hd j o (drop_at hi))]
    exact ⟨fun _ _ => trivial, h1⟩
  · unfold wpOpIn
    simp only [drop_at hk]
    rw [if_pos hgk]
    unfold Oper.wpIn
    rw [Oper.semAt_eq _ _ _ (noDefer_spec hd j o2 (drop_at hk))]
    exact ⟨fun _ _ => trivial, h2⟩
theorem heldwr_call {K : Act → World → Prop} (hS : KeepL L V w)
    (h : ∃ f args v, (execOp a.eval o).run P w = .ok (.enter f args) w ∧ (Calls P f args w fun e w' => e = .returned v ∧ Below w.heap.size w w') ∧ (∀ b ∈ L, b < w.heap.size) ∧
      ∀ w', Below w.heap.size w w' → KeepL L V w' → K (a.put o.dst v) w') : o.uponIn (RF l) m P a (fun a' w' => KeepL L V w' ∧ K a' w') Q ((execOp a.eval o).run P w) := by
  obtain ⟨f, args, v, he, hc, hL, hk⟩ := h
  rw [he]
  refine ⟨(fun h => by cases h), CallsIn.inRound l ((callsIn_wide.2 hc).mono ?_)⟩
  rintro _ w' ⟨rfl, hb⟩
  exact ⟨hS.below hb hL, hk w' hb (hS.below hb hL)⟩
theorem heldwr_o {K : Act → World → Prop} (h : ∃ v w', (execOp a.eval o).run P w = .ok (.value v) w' ∧ KeepL L V w' ∧ (KeepL L V w' → K (a.put o.dst v) w')) :
    o.uponIn (RF l) m P a (fun a' w' => KeepL L V w' ∧ K a' w') Q ((execOp a.eval o).run P w) := by
  obtain ⟨v, w', he, hk, h⟩ := h
  rw [he]
  exact ⟨hk, h hk⟩
theorem wpr_name (h : ∀ wS, wS = w → wpAnyR l m P md ops Q S n ls a wS) : wpAnyR l m P md ops Q S n ls a w := h w rfl
theorem heldr_end {a : Act} {w : World} {ls : Array Bool} (hr : Region.ready md ops ls = []) (h : Q .normal a w) : wpAnyR l m P md ops Q (KeepL L V) 0 ls a w := ⟨hr, h⟩
end
end Go.Proofs.YtpggmebgndkpjaaDoor
