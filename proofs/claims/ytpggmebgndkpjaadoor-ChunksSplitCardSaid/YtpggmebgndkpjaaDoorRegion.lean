/- A region that draws its order, walked once in the order of the text. The first n operations (the head) are quiet in a class C of worlds: each yields one value in every world of the class and leaves a world of the class (a load of an old cell, a call that only makes memory). A head operation may float: then it yields its value in every world whatever, and may come up among the tail. The tail comes in one order. -/
import Derived.StillTail
import Derived.Deep.Quiet
import Derived.WalkKit
import Derived.KernelRfl
import Derived.Deep.Draws
namespace Go.Proofs.YtpggmebgndkpjaaDoor
set_option linter.all false
open Go Go.RowKit

section
variable {P : Program} {ops : Array Oper} {md : Region.Mode} {C : World → Prop}

/-- The walk's own statement: what the operations of the head come to, one behind the other. -/
def wpMix (P : Program) (ops : Array Oper) (C : World → Prop) (Q : Act → Prop) : List Bool → List Oper → Act → Prop
  | _, [], a => Q a
  | true :: fs, o :: rest, a => ∃ v, Yields P ops o v a ∧ wpMix P ops C Q fs rest (a.put o.dst v)
  | false :: fs, o :: rest, a => if Region.wanted o (yielded ops a.tmps) then o.quiet P a C (wpMix P ops C Q fs rest) else wpMix P ops C Q fs rest (a.put o.dst undef)
  | [], o :: rest, a => if Region.wanted o (yielded ops a.tmps) then o.quiet P a C (wpMix P ops C Q [] rest) else wpMix P ops C Q [] rest (a.put o.dst undef)

/-- Head operations keep to the class; whatever of the tail comes up is right in every world of the class. -/
def mixAny (P : Program) (md : Region.Mode) (ops : Array Oper) (C : World → Prop) (Q : Exit → Act → World → Prop) (n g : Nat) : Nat → Array Bool → Act → Prop
  | 0, ls, a => (∀ j ∈ Region.ready md ops ls, n ≤ j) ∧ ∀ w, C w → wpAny P md ops Q g ls a w
  | f + 1, ls, a => Region.ready md ops ls ≠ [] ∧ ∀ i ∈ Region.ready md ops ls,
      (i < n → qOp P ops C i (mixAny P md ops C Q n g f (ls.setIfInBounds i true)) a) ∧
      (n ≤ i → ∀ w, C w → wpOp P ops Q i (wpAny P md ops Q (f + g) (ls.setIfInBounds i true)) a w)

theorem mixAny_sound {Q : Exit → Act → World → Prop} {n g : Nat} : ∀ (f : Nat) (ls : Array Bool) (a : Act) (w : World), C w →
    mixAny P md ops C Q n g f ls a → wpAny P md ops Q (f + g) ls a w := by
  intro f
  induction f with
  | zero => intro ls a w hw h; rw [Nat.zero_add]; exact h.2 w hw
  | succ f ih =>
    intro ls a w hw h
    rw [Nat.succ_add]
    refine ⟨fun h0 => absurd h0 h.1, fun i hi => ?_⟩
    rcases Nat.lt_or_ge i n with hin | hin
    · exact wpOp_of_qOp hw (fun a' w' hw' h' => ih _ a' w' hw' h') ((h.2 i hi).1 hin)
    · exact (h.2 i hi).2 hin w hw

/-- An operation that yields its value in every world is past by another one of the class. -/
theorem qOp_past {j : Nat} {oi oj : Oper} {v : Value} (hj : ops[j]? = some oj) (hap : oi.apart ops oj = true)
    (hsi : ∀ cs b, oi.op ≠ .select cs b) (hsj : ∀ cs b, oj.op ≠ .select cs b) {K : Act → Prop} {a : Act}
    (hy : Yields P ops oi v a) (h : qOp P ops C j K (a.put oi.dst v)) :
    qOp P ops C j (fun a' => Yields P ops oi v a' ∧ K (a'.put oi.dst v)) a := by
  obtain ⟨h1, h2, h3⟩ := Oper.apart_spec hap
  have keep : ∀ u, Yields P ops oi v (a.put oj.dst u) := fun u =>
    hy.of_same (execOp_put oi hsi a oj.dst u h3) (wanted_put oi a oj.dst u h3)
  unfold qOp at *
  simp only [hj] at *
  rw [wanted_put oj a oi.dst v h1] at h
  by_cases hw : Region.wanted oj (yielded ops a.tmps) = true
  · rw [if_pos hw] at h ⊢
    obtain ⟨u, hu, hn⟩ := h
    refine ⟨u, fun w hw' => ?_, keep u, by rw [← Act.put_comm a v u h2]; exact hn⟩
    have := hu w hw'
    unfold Oper.quietAt at *
    rwa [execOp_put oj hsj a oi.dst v h1] at this
  · rw [if_neg hw] at h ⊢
    exact ⟨keep _, by rw [← Act.put_comm a v undef h2]; exact h⟩

theorem Yields.in {o : Oper} {v : Value} {a : Act} (h : Yields P ops o v a) : YieldsIn P ops C o v a := by
  rcases h with ⟨h1, h2⟩ | h
  · refine .inl ⟨h1, fun w _ => ?_⟩
    unfold Oper.quietAt
    rw [h2 w]
    exact ⟨rfl, rfl⟩
  · exact .inr h

theorem free_set {i j : Nat} {oi : Oper} {ls : Array Bool}
    (hfree : ∀ j oj, ops[j]? = some oj → j ≠ i → ls.getD j true = false → (∀ e ∈ oj.after, Region.binds md e = true → e.on ≠ i) → oi.apart ops oj = true)
    (hjun : ls.getD j true = false) : ∀ k ok, ops[k]? = some ok → k ≠ i → (ls.setIfInBounds j true).getD k true = false →
      (∀ e ∈ ok.after, Region.binds md e = true → e.on ≠ i) → oi.apart ops ok = true := by
  intro k ok hk hki hun' hno
  by_cases hjk : j = k
  · subst hjk; exact hfree j ok hk hki hjun hno
  · rw [getD_set_ne true hjk] at hun'; exact hfree k ok hk hki hun' hno

theorem not_waits {i : Nat} {oj : Oper} {ls : Array Bool} (hi : ls.getD i true = false) (hall : ∀ e ∈ oj.after, Region.binds md e = true → ls.getD e.on false = true) :
    ∀ e ∈ oj.after, Region.binds md e = true → e.on ≠ i := fun e he hb heq => by
  have h1 := hall e he hb
  rw [heq, getD_both hi] at h1
  cases h1

/-- A floating operation may be taken first. -/
theorem mixAny_float {Q : Exit → Act → World → Prop} {n g i : Nat} {oi : Oper} {v : Value} (hi : ops[i]? = some oi) (hin : i < n)
    (hsel : ∀ (j : Nat) (o : Oper) cs b, ops[j]? = some o → o.op ≠ .select cs b)
    (hQ : ∀ c a d v w, Q (.panic c) (a.put d v) w → Q (.panic c) a w) :
    ∀ (f : Nat) (ls : Array Bool) (a : Act),
      (∀ j oj, ops[j]? = some oj → j ≠ i → ls.getD j true = false → (∀ e ∈ oj.after, Region.binds md e = true → e.on ≠ i) → oi.apart ops oj = true) →
      i ∈ Region.ready md ops ls → Yields P ops oi v a →
      mixAny P md ops C Q n g f (ls.setIfInBounds i true) (a.put oi.dst v) → mixAny P md ops C Q n g (f + 1) ls a := by
  intro f
  induction f with
  | zero =>
    intro ls a hfree hr hy H
    refine ⟨List.ne_nil_of_mem hr, fun j hj => ⟨fun hjn => ?_, fun hjn w hw => ?_⟩⟩
    · by_cases hji : j = i
      · subst hji; exact (Yields.in hy).qOp hi H
      · exact absurd (H.1 j (ready_mono hj hji)) (by omega)
    · have := wpAny_first (Q := Q) hi hsel (fun c a w => hQ c a _ _ w) g ls a w hfree hr hy (H.2 w hw)
      rw [Nat.zero_add]
      exact this.2 j hj
  | succ f ih =>
    intro ls a hfree hr hy H
    refine ⟨List.ne_nil_of_mem hr, fun j hj => ⟨fun hjn => ?_, fun hjn w hw => ?_⟩⟩
    · by_cases hji : j = i
      · subst hji; exact (Yields.in hy).qOp hi H
      · obtain ⟨hjun, oj, hoj, hall⟩ := mem_ready.1 hj
        have h2 := qOp_past hoj (hfree j oj hoj hji hjun (not_waits (mem_ready.1 hr).1 hall)) (fun cs b => hsel i oi cs b hi) (fun cs b => hsel j oj cs b hoj) hy ((H.2 j (ready_mono hj hji)).1 hjn)
        refine qOp_mono (fun a' h3 => ih (ls.setIfInBounds j true) a' (free_set hfree hjun) (ready_mono hr (Ne.symm hji)) h3.1 ?_) h2
        rw [Array.setIfInBounds_comm _ _ hji]; exact h3.2
    · have := wpAny_first (Q := Q) hi hsel (fun c a w => hQ c a _ _ w) (f + 1 + g) ls a w hfree hr hy (mixAny_sound (f + 1) _ _ w hw H)
      exact this.2 j hj

/-- An operation of the class may be taken first as long as nothing of the tail can come up before it. -/
theorem mixAny_first {Q : Exit → Act → World → Prop} {n g i : Nat} {oi : Oper} {v : Value} (hi : ops[i]? = some oi) (hin : i < n)
    (hsel : ∀ (j : Nat) (o : Oper) cs b, ops[j]? = some o → o.op ≠ .select cs b)
    (hno : ∀ ls, HeadInv md ops n ls → ls.getD i true = false → ∀ t, n ≤ t → t ∉ Region.ready md ops ls) :
    ∀ (f : Nat) (ls : Array Bool) (a : Act), HeadInv md ops n ls →
      (∀ j oj, ops[j]? = some oj → j ≠ i → ls.getD j true = false → (∀ e ∈ oj.after, Region.binds md e = true → e.on ≠ i) → oi.apart ops oj = true) →
      i ∈ Region.ready md ops ls → YieldsIn P ops C oi v a →
      mixAny P md ops C Q n g f (ls.setIfInBounds i true) (a.put oi.dst v) → mixAny P md ops C Q n g (f + 1) ls a := by
  intro f
  induction f with
  | zero =>
    intro ls a inv _ hr hy H
    refine ⟨List.ne_nil_of_mem hr, fun j hj => ⟨fun hjn => ?_, fun hjn w hw => ?_⟩⟩
    · by_cases hji : j = i
      · subst hji; exact hy.qOp hi H
      · exact absurd (H.1 j (ready_mono hj hji)) (by omega)
    · exact absurd hj (hno ls inv (mem_ready.1 hr).1 j hjn)
  | succ f ih =>
    intro ls a inv hfree hr hy H
    refine ⟨List.ne_nil_of_mem hr, fun j hj => ⟨fun hjn => ?_, fun hjn w hw => ?_⟩⟩
    · by_cases hji : j = i
      · subst hji; exact hy.qOp hi H
      · obtain ⟨hjun, oj, hoj, hall⟩ := mem_ready.1 hj
        have h2 := qOp_put hoj (hfree j oj hoj hji hjun (not_waits (mem_ready.1 hr).1 hall)) (fun cs b => hsel i oi cs b hi) (fun cs b => hsel j oj cs b hoj) hy ((H.2 j (ready_mono hj hji)).1 hjn)
        refine qOp_mono (fun a' h3 => ih (ls.setIfInBounds j true) a' (inv.set hj hjn) (free_set hfree hjun) (ready_mono hr (Ne.symm hji)) h3.1 ?_) h2
        rw [Array.setIfInBounds_comm _ _ hji]; exact h3.2
    · exact absurd hj (hno ls inv (mem_ready.1 hr).1 j hjn)

/-- Every head operation that does not float is waited for by a later one of its kind, or by the tail's first. -/
def mixSink (md : Region.Mode) (ops : Array Oper) (n : Nat) (fl : List Bool) : Bool :=
  (List.range n).all fun i => fl.getD i false || (List.range (n + 1)).any fun j => decide (i < j) && !(fl.getD j false) && Region.waitsFor md ops j i

theorem tail_not {n : Nat} {fl : List Bool} (hs : mixSink md ops n fl = true) (hc : Region.chainB md ops n = true) (hfn : fl.getD n false = false) :
    ∀ (d i : Nat), n - i = d → i < n → fl.getD i false = false → ∀ ls, HeadInv md ops n ls → ls.getD i true = false → ∀ t, n ≤ t → t ∉ Region.ready md ops ls := by
  intro d
  induction d using Nat.strongRecOn with
  | _ d ih =>
    intro i hd hi hfl ls inv hun t ht hr
    obtain ⟨_, ot, hot, hall⟩ := mem_ready.1 hr
    have htlt : t < ops.size := (Array.getElem?_eq_some_iff.1 hot).1
    rcases Nat.lt_or_ge n t with htn | htn
    · have h1 := List.all_eq_true.1 hc t (List.mem_range.2 htlt)
      simp only [Bool.or_eq_true, decide_eq_true_eq] at h1
      rcases h1 with h1 | h1
      · omega
      · obtain ⟨o', ho', e, he, hb, hon⟩ := Region.waitsFor_spec h1
        obtain rfl : o' = ot := Option.some.inj (ho'.symm.trans hot)
        have h2 := hall e he hb
        rw [hon, getD_both (inv.tail (t - 1) (by omega) (by omega))] at h2
        cases h2
    · obtain rfl : t = n := by omega
      have h1 := List.all_eq_true.1 hs i (List.mem_range.2 hi)
      rw [hfl, Bool.false_or] at h1
      obtain ⟨j, hj, hj2⟩ := List.any_eq_true.1 h1
      simp only [Bool.and_eq_true, decide_eq_true_eq, Bool.not_eq_true'] at hj2
      obtain ⟨oj, hoj, e, he, hb, hon⟩ := Region.waitsFor_spec hj2.2
      have hjle : j ≤ t := by have := List.mem_range.1 hj; omega
      by_cases hjt : j = t
      · subst hjt
        obtain rfl : oj = ot := Option.some.inj (hoj.symm.trans hot)
        have h2 := hall e he hb
        rw [hon, getD_both hun] at h2
        cases h2
      · cases hl : ls.getD j false with
        | true =>
          have h2 := inv.closed j oj hoj hl e he hb
          rw [hon, getD_both hun] at h2
          cases h2
        | false => exact ih (t - j) (by omega) j rfl (by omega) hj2.1.2 ls inv (getD_in (by rw [inv.size]; omega) hl) t (Nat.le_refl _) hr

theorem mixAny_lex {Q : Exit → Act → World → Prop} {n g : Nat} {flags : List Bool} (hsel : Region.noSelect ops = true) (hs : mixSink md ops n flags = true) (hc : Region.chainB md ops n = true) (hfn : flags.getD n false = false) (hn : n < ops.size)
    (hQ : ∀ c a d v w, Q (.panic c) (a.put d v) w → Q (.panic c) a w) {Lq : Act → Prop}
    (hL : ∀ ls a, Region.seqB md ops g n ls = true → Lq a → ∀ w, C w → wpAny P md ops Q g ls a w) :
    ∀ (l : List Oper) (k : Nat) (fs : List Bool) (ls : Array Bool) (a : Act), (∀ j, j < l.length → l[j]? = ops[k + j]?) → (∀ j, fs.getD j false = flags.getD (k + j) false) → k + l.length = n → HeadInv md ops n ls →
    Region.lexHead md ops g l.length k ls = true → wpMix P ops C Lq fs l a →
    mixAny P md ops C Q n g l.length ls a := by
  intro l
  induction l with
  | nil =>
    intro k fs ls a _ _ hk _ hB h
    obtain rfl : k = n := by simpa using hk
    have hB' : Region.seqB md ops g k ls = true := by simpa [Region.lexHead] using hB
    exact ⟨seqB_ready hB', hL ls a hB' (by unfold wpMix at h; exact h)⟩
  | cons o l ih =>
    intro k fs ls a hl hfs hk inv hB h
    have h0 : ops[k]? = some o := by simpa using (hl 0 (by simp)).symm
    simp only [List.length_cons, Region.lexHead, Bool.and_eq_true] at hB
    have hkn : k < n := by simp only [List.length_cons] at hk; omega
    have hr : k ∈ Region.ready md ops ls := by simpa using hB.1.1
    have hfree := Region.free_spec h0 hB.1.2
    have next : ∀ a' fs', (∀ j, fs'.getD j false = flags.getD (k + 1 + j) false) → wpMix P ops C Lq fs' l a' → mixAny P md ops C Q n g l.length (ls.setIfInBounds k true) a' := fun a' fs' hfs' h' => by
      refine ih (k + 1) fs' _ a' (fun j hj => ?_) hfs' (by simp only [List.length_cons] at hk; omega) (inv.set hr hkn) hB.2 h'
      have := hl (j + 1) (by simp; omega)
      simpa [Nat.add_assoc, Nat.add_comm 1 j] using this
    have quiet : fs.getD 0 false = false → (∃ fs', (∀ j, fs'.getD j false = flags.getD (k + 1 + j) false) ∧ qOp P ops C k (wpMix P ops C Lq fs' l) a) → mixAny P md ops C Q n g (l.length + 1) ls a := fun hf0 ⟨fs', hfs', hq⟩ => by
      obtain ⟨v, hy, hK⟩ := yieldsIn_of_qOp h0 hq
      have hfk : flags.getD k false = false := by have := hfs 0; rw [hf0] at this; simpa using this.symm
      exact mixAny_first h0 hkn (Region.noSelect_spec hsel) (tail_not hs hc hfn _ k rfl hkn hfk) l.length ls a inv hfree hr hy (next _ fs' hfs' hK)
    cases fs with
    | nil =>
      refine quiet rfl ⟨[], fun j => ?_, ?_⟩
      · have := hfs (j + 1); simpa [Nat.add_assoc, Nat.add_comm 1 j] using this
      · unfold qOp; simp only [h0]; unfold wpMix at h; exact h
    | cons b fs =>
      have hfs' : ∀ j, fs.getD j false = flags.getD (k + 1 + j) false := fun j => by
        have := hfs (j + 1); simpa [Nat.add_assoc, Nat.add_comm 1 j] using this
      cases b with
      | false =>
        refine quiet rfl ⟨fs, hfs', ?_⟩
        unfold qOp; simp only [h0]; unfold wpMix at h; exact h
      | true =>
        unfold wpMix at h
        obtain ⟨v, hy, hK⟩ := h
        exact mixAny_float h0 hkn (Region.noSelect_spec hsel) hQ l.length ls a hfree hr hy (next _ fs hfs' hK)

section steps
variable {Q : Act → Prop} {fs : List Bool} {o : Oper} {rest : List Oper} {a : Act}

/-- The next operation yields a value and leaves the world as it is. -/
theorem mix_v (hf : fs.headD false = false) (hg : Region.wanted o (yielded ops a.tmps) = true)
    (h : ∃ v, (∀ w', C w' → (execOp a.eval o).run P w' = .ok (.value v) w') ∧ wpMix P ops C Q fs.tail rest (a.put o.dst v)) :
    wpMix P ops C Q fs (o :: rest) a := by
  obtain ⟨v, h1, h2⟩ := h
  have hq : o.quiet P a C (wpMix P ops C Q fs.tail rest) := ⟨v, fun w' hw' => by unfold Oper.quietAt; rw [h1 w' hw']; exact ⟨rfl, rfl⟩, h2⟩
  match fs, hf, hq with
  | [], _, hq => unfold wpMix; rw [if_pos hg]; exact hq
  | false :: fs, _, hq => unfold wpMix; rw [if_pos hg]; exact hq

/-- The next operation calls a function: one value in every world of the class, and a world of the class. -/
theorem mix_c (hf : fs.headD false = false) (hg : Region.wanted o (yielded ops a.tmps) = true)
    (h : ∃ f args v, (∀ w', C w' → (execOp a.eval o).run P w' = .ok (.enter f args) w') ∧ (∀ w', C w' → Calls P f args w' fun e w'' => e = .returned v ∧ C w'') ∧ wpMix P ops C Q fs.tail rest (a.put o.dst v)) :
    wpMix P ops C Q fs (o :: rest) a := by
  obtain ⟨f, args, v, h1, h2, h3⟩ := h
  have hq : o.quiet P a C (wpMix P ops C Q fs.tail rest) := ⟨v, fun w' hw' => by unfold Oper.quietAt; rw [h1 w' hw']; exact ⟨rfl, h2 w' hw'⟩, h3⟩
  match fs, hf, hq with
  | [], _, hq => unfold wpMix; rw [if_pos hg]; exact hq
  | false :: fs, _, hq => unfold wpMix; rw [if_pos hg]; exact hq

/-- The next operation floats. -/
theorem mix_f (hg : Region.wanted o (yielded ops a.tmps) = true)
    (h : ∃ v, (∀ w', (execOp a.eval o).run P w' = .ok (.value v) w') ∧ wpMix P ops C Q fs rest (a.put o.dst v)) :
    wpMix P ops C Q (true :: fs) (o :: rest) a := by
  obtain ⟨v, h1, h2⟩ := h
  exact ⟨v, .inl ⟨hg, h1⟩, h2⟩

/-- The next operation's guard says no. -/
theorem mix_s (hf : fs.headD false = false) (hg : Region.wanted o (yielded ops a.tmps) = false) (h : wpMix P ops C Q fs.tail rest (a.put o.dst undef)) :
    wpMix P ops C Q fs (o :: rest) a := by
  match fs, hf, h with
  | [], _, h => unfold wpMix; rw [if_neg (by simp [hg])]; exact h
  | false :: fs, _, h => unfold wpMix; rw [if_neg (by simp [hg])]; exact h

theorem mix_nil (h : Q a) : wpMix P ops C Q fs [] a := by unfold wpMix; exact h
end steps

/-- What the kernel looks at. -/
def mixB (md : Region.Mode) (ops : Array Oper) (n : Nat) (fl : List Bool) : Bool :=
  Region.noSelect ops && decide (n < ops.size) && mixSink md ops n fl && Region.chainB md ops n && !(fl.getD n false) && Region.lexHead md ops (ops.size - n) n 0 (Array.replicate ops.size false)

/-- One walk in the order of the text. -/
theorem region_mix {id : Nat} {Q : Exit → Act → World → Prop} {a : Act} {w : World} {l : List Oper} (n : Nat) (fl : List Bool) (C : World → Prop)
    (hm : P.follows .mixedOrders = true) (hB : mixB .any l.toArray n fl = true) (hQ : ∀ c a d v w, Q (.panic c) (a.put d v) w → Q (.panic c) a w) (hC : C w.drew)
    (h : wpMix P l.toArray C (fun a' => ∀ w', C w' → wpList P l.toArray Q (l.drop n) a' w') fl (l.take n) a) : (Code.region id l.toArray true).wp P Q a w := by
  simp only [mixB, Bool.and_eq_true, decide_eq_true_eq, Bool.not_eq_true'] at hB
  obtain ⟨⟨⟨⟨⟨hsel, hn⟩, hs⟩, hc⟩, hfn⟩, hlex⟩ := hB
  have htl : (l.take n).length = n := by
    have : n < l.length := by simpa using hn
    simp; omega
  have inv0 : HeadInv .any l.toArray n (Array.replicate l.toArray.size false) :=
    ⟨by simp, fun j oj _ hl => (by rw [getD_replicate_false] at hl; cases hl), fun t _ ht => getD_in (by simpa using ht) (getD_replicate_false _ _)⟩
  have hd : (l.drop n).length = l.toArray.size - n := by simp
  have H := mixAny_lex (P := P) (C := C) (Q := Q) (md := .any) (g := l.toArray.size - n) hsel hs hc hfn hn hQ
    (Lq := fun a' => ∀ w', C w' → wpList P l.toArray Q (l.drop n) a' w')
    (fun ls a' hB' hLq w' hw' => by
      have := wpAny_of_seq (md := .any) (Q' := Q) (l.drop n) n ls a' w' (fun j => by simp [List.getElem?_drop]) (by rw [hd]; exact hB') (hLq w' hw')
      rwa [hd] at this)
    (l.take n) 0 fl _ a (fun j hj => by rw [htl] at hj; simp [hj]) (fun j => by simp) (by simpa using htl) inv0 (by rw [htl]; exact hlex) h
  have := mixAny_sound (Q := Q) _ _ _ w.drew hC H
  rw [htl, show n + (l.toArray.size - n) = l.toArray.size by omega] at this
  exact wp_region_any hm this

/-- The same where the whole region is quiet. -/
theorem region_quiet {id : Nat} {Q : Exit → Act → World → Prop} {a : Act} {w : World} {l : List Oper} (C : World → Prop)
    (hm : P.follows .mixedOrders = true) (hB : Region.lexB .any l.toArray = true) (hC : C w.drew)
    (h : wpMix P l.toArray C (fun a' => ∀ w', C w' → Q .normal a' w') [] l a) : (Code.region id l.toArray true).wp P Q a w := by
  refine wp_region_quiet (C := C) hm hB hC ?_
  have key : ∀ (ops : Array Oper) (Q' : Act → Prop) (l : List Oper) (a : Act), wpMix P ops C Q' [] l a → wpQuiet P ops C Q' l a := by
    intro ops Q' l
    induction l with
    | nil => intro a h; exact h
    | cons o l ih =>
      intro a h
      unfold wpMix at h
      unfold wpQuiet
      split
      · rename_i hw; rw [if_pos hw] at h; exact Oper.quiet_mono (fun a' h' => ih a' h') h
      · rename_i hw; rw [if_neg hw] at h; exact ih _ h
  simpa using key _ _ _ _ h
end

/-- A call of a function value in a slot, arrived at without a search. -/
theorem call_slot {f : FuncId} {first captured : Array Value} {a : Act} {dst : Option Tmp} {x : Operand} {xs : Array Operand} {ats : Array TypeId} {ty : TypeId} {pos : String} {after : Array Edge} {guard : Option (Nat × Bool)}
    (h : a.eval x = .func (.func f) first captured) :
    execOp a.eval { dst, op := .call { callee := .value x, args := xs, argTypes := ats }, type := ty, pos, after, guard } = callFunc f (first ++ xs.map a.eval ++ captured) := by
  have : execOp a.eval { dst, op := .call { callee := .value x, args := xs, argTypes := ats }, type := ty, pos, after, guard } = (do let d ← Deferred.ofValue (a.eval x) (xs.map a.eval); invoke d.target d.args : Sem Next) := rfl
  rw [this, h]
  rfl
theorem same_of {P : Program} {f : FuncId} {args : Array Value} {w : World} {v : Value} (h : Calls P f args w fun e w' => e = .returned v ∧ w = w') :
    Calls P f args w fun e w' => e = .returned v ∧ w' = w := h.mono fun _ _ h => ⟨h.1, h.2.symm⟩
theorem below_of {P : Program} {f : FuncId} {args : Array Value} {W w : World} {v : Value} {B : Nat} (hC : Below B W w) (hB : B ≤ W.heap.size)
    (h : Calls P f args w fun e w' => e = .returned v ∧ Below w.heap.size w w') :
    Calls P f args w fun e w' => e = .returned v ∧ Below B W w' := h.mono fun _ _ h => ⟨h.1, hC.trans (h.2.mono (Nat.le_trans hB hC.size))⟩
theorem still_below {P : Program} {f : FuncId} {args : Array Value} {w : World} {v : Value} (h : Calls P f args w fun e w' => e = .returned v ∧ w = w') :
    Calls P f args w fun e w' => e = .returned v ∧ Below w.heap.size w w' := h.mono fun _ w' h => ⟨h.1, by rw [← h.2]; exact Below.refl _ _⟩

/-- What holds of the blocks that were there. -/
theorem below_cells {B : Nat} {w w' : World} (h : Below B w w') : ∀ p : Addr, p.block < B → w'.cell? p = w.cell? p := fun _ hp => h.cell hp
@[simp, go_sem] theorem setCell_drewN (w : World) (n : Nat) (a : Addr) (v : Value) : (w.drewN n).setCell a v = (w.setCell a v).drewN n := rfl
@[simp, go_sem] theorem alloc_drewN (w : World) (n : Nat) (o : Obj) : (w.drewN n).alloc o = (w.alloc o).drewN n := rfl
@[simp, go_sem] theorem size_drewN (w : World) (n : Nat) : (w.drewN n).heap.size = w.heap.size := rfl
theorem below_dN {B n : Nat} {w w' : World} (h : Below B w w') : Below B w (w'.drewN n) := ⟨h.os, h.tape, h.output, h.size, h.block⟩
theorem size_drew (w : World) : w.drew.heap.size = w.heap.size := rfl
theorem bfacts {w w' : World} (h : Below w.heap.size w w') : (∀ b o, b < w.heap.size → w'.cell? ⟨b, o, none⟩ = w.cell? ⟨b, o, none⟩) ∧ (∀ b o, b < w.heap.size → w'.frozen? ⟨b, o, none⟩ = w.frozen? ⟨b, o, none⟩) ∧ w.heap.size ≤ w'.heap.size :=
  ⟨fun b o hb => h.cell (p := ⟨b, o, none⟩) hb, fun b o hb => h.frozen (p := ⟨b, o, none⟩) hb, h.size⟩
theorem bfactsB {B : Nat} {w w' : World} (h : Below B w w') : (∀ b o, b < B → w'.cell? ⟨b, o, none⟩ = w.cell? ⟨b, o, none⟩) ∧ (∀ b o, b < B → w'.frozen? ⟨b, o, none⟩ = w.frozen? ⟨b, o, none⟩) ∧ w.heap.size ≤ w'.heap.size :=
  ⟨fun b o hb => h.cell (p := ⟨b, o, none⟩) hb, fun b o hb => h.frozen (p := ⟨b, o, none⟩) hb, h.size⟩
theorem below_drew {B : Nat} {w : World} : Below B w w.drew := (Below.refl B w).drew
end Go.Proofs.YtpggmebgndkpjaaDoor
