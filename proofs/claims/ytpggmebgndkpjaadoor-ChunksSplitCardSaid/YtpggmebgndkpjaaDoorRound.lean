/- A region that draws its order, inside a round of a range over a function: loads and what only reckons are taken first, in every world that keeps the named blocks; calls, stores and what makes memory come in their one order. -/
import Derived.OrdersIn
import Derived.RangeFuncNested
import Derived.RangeFuncBound
import Derived.RangeFuncCalls
import Derived.RangeFuncLeaves
import Derived.RangeFuncBox
import Derived.RangeFuncFrom
import Derived.Shelf.Abstract
import Derived.Shelf.RegionOpen
import Derived.OwnWalkIn
import Derived.TacticsInMore
import Derived.LoopNIn
import Derived.LoopIn
import Derived.Maps.AppendAt
import Derived.Test.YtpggmebgndkpjaaDoorHeld
namespace Go.Proofs.YtpggmebgndkpjaaDoor
set_option linter.all false
open Go Go.RowKit

theorem KeepL.unalloc {L : List Nat} {V w : World} {o : Obj} (h : KeepL L V (w.alloc o)) (hL : ∀ b ∈ L, b < w.heap.size) : KeepL L V w := fun b hb j => by
  rw [← h b hb j]
  simp only [World.cell?, Below.heap_alloc w o b (hL b hb)]
/-- The fence of a round: nothing is shut out. -/
abbrev RF (l : Nat) : Fence := Fence.wide.inRound l
/-- No select and no defer statement. -/
def noDefer (ops : Array Oper) : Bool := Region.noSelect ops && ops.toList.all fun o => match o.op with | .defer _ => false | _ => true
theorem noDefer_spec {ops : Array Oper} (h : noDefer ops = true) : ∀ (j : Nat) (o : Oper), ops[j]? = some o → ∀ c, o.op ≠ .defer c := fun j o hj c e => by
  unfold noDefer at h
  rw [Bool.and_eq_true] at h
  have := List.all_eq_true.1 h.2 o (by
    rw [← Array.getElem?_toList] at hj
    exact List.mem_of_getElem? hj)
  rw [e] at this
  cases this
theorem noDefer_sel {ops : Array Oper} (h : noDefer ops = true) : Region.noSelect ops = true := by
  unfold noDefer at h
  rw [Bool.and_eq_true] at h
  exact h.1

section
variable {P : Program} {ops : Array Oper} {Q : Exit → Act → World → Prop} {md : Region.Mode} {S : World → Prop} {l m : Nat}

/-- Whatever order is picked from here on, and S holds behind every operation. -/
def wpAnyR (l m : Nat) (P : Program) (md : Region.Mode) (ops : Array Oper) (Q : Exit → Act → World → Prop) (S : World → Prop) : Nat → Array Bool → Act → World → Prop
  | 0, listed, a, w => Region.ready md ops listed = [] ∧ Q .normal a w
  | fuel + 1, listed, a, w => (Region.ready md ops listed = [] → Q .normal a w) ∧
      ∀ i ∈ Region.ready md ops listed, wpOpIn (RF l) m P ops Q i (fun a' w' => S w' ∧ wpAnyR l m P md ops Q S fuel (listed.setIfInBounds i true) a' w') a w
theorem wpAnyIn_of_R : ∀ (fuel : Nat) (listed : Array Bool) (a : Act) (w : World), wpAnyR l m P md ops Q S fuel listed a w → wpAnyIn (RF l) m P md ops Q fuel listed a w
  | 0, _, _, _, h => h
  | fuel + 1, _, _, _, h => ⟨h.1, fun i hi => wpOpIn_mono (fun a' w' h' => wpAnyIn_of_R fuel _ a' w' h'.2) (h.2 i hi)⟩

theorem yields_opR {i : Nat} {o : Oper} {v : Value} {a : Act} (hd : noDefer ops = true) (hi : ops[i]? = some o) (hy : YieldsIf P ops S o v a) {K : Act → World → Prop} {w : World} (hS : S w) (h : K (a.put o.dst v) w) :
    wpOpIn (RF l) m P ops Q i K a w := by
  unfold wpOpIn
  simp only [hi]
  rcases hy with ⟨hw, hv⟩ | ⟨hw, rfl⟩
  · simp only [hw, if_true, Oper.wpIn, Oper.semAt_eq _ _ _ (noDefer_spec hd i o hi), hv w hS, Oper.uponIn]
    exact ⟨fun _ _ => trivial, h⟩
  · simp only [hw, Bool.false_eq_true, if_false]
    exact ⟨fun _ _ => trivial, h⟩
theorem putR {j : Nat} {oi oj : Oper} {v : Value} (hd : noDefer ops = true) (hj : ops[j]? = some oj) (hap : oi.apart ops oj = true) (hsi : ∀ cs b, oi.op ≠ .select cs b) (hsj : ∀ cs b, oj.op ≠ .select cs b)
    (hQ : ∀ c a w, Q (.panic c) (a.put oi.dst v) w → Q (.panic c) a w) {K : Act → World → Prop} {a : Act} {w : World} (hy : YieldsIf P ops S oi v a) (h : wpOpIn (RF l) m P ops Q j K (a.put oi.dst v) w) :
    wpOpIn (RF l) m P ops Q j (fun a' w' => YieldsIf P ops S oi v a' ∧ K (a'.put oi.dst v) w') a w := by
  obtain ⟨h1, h2, h3⟩ := Oper.apart_spec hap
  have keep : ∀ (a : Act), YieldsIf P ops S oi v a → ∀ u, YieldsIf P ops S oi v (a.put oj.dst u) := fun a hy u => hy.of_same (execOp_put oi hsi a oj.dst u h3) (wanted_put oi a oj.dst u h3)
  have hdj := noDefer_spec hd j oj hj
  unfold wpOpIn at *
  simp only [hj] at *
  rw [wanted_put oj a oi.dst v h1] at h
  split
  · rename_i hw
    simp only [hw, if_true] at h
    unfold Oper.wpIn at *
    refine ⟨fun _ _ => trivial, ?_⟩
    have h := h.2
    rw [Oper.semAt_eq _ _ _ hdj, execOp_put oj hsj a oi.dst v h1] at h
    rw [Oper.semAt_eq _ _ _ hdj]
    generalize (execOp a.eval oj).run P w = r at *
    cases r with
    | ok x w' =>
      cases x <;> simp only [Oper.uponIn] at h ⊢
      case value u => exact ⟨keep a hy u, by rw [← Act.put_comm a v u h2]; exact h⟩
      case skip => exact ⟨keep a hy _, by rw [← Act.put_comm a v undef h2]; exact h⟩
      case defer d =>
        refine ⟨keep { a with defers := d :: a.defers } (hy.of_same rfl rfl) undef, ?_⟩
        rw [← Act.put_comm _ v undef h2, ← Act.put_defers]
        exact h
      case enter f args =>
        refine ⟨h.1, CallsIn.mono h.2 fun e w'' he => ?_⟩
        cases e with
        | returned u => exact ⟨keep a hy u, by rw [← Act.put_comm a v u h2]; exact he⟩
        | panicked c => exact hQ _ _ _ he
        | outgrown => exact he
      case row row args => exact ⟨h.1, RowsIn.mono h.2 fun u w'' he => ⟨keep a hy u, by rw [← Act.put_comm a v u h2]; exact he⟩⟩
      case round l f tmps assign body =>
        refine ⟨h.1, RoundIn.mono h.2 fun e w'' he => ?_⟩
        cases e with
        | returned u => exact ⟨keep a hy u, by rw [← Act.put_comm a v u h2]; exact he⟩
        | panicked c => exact hQ _ _ _ he
        | outgrown => exact he
    | halt x w' =>
      cases x <;> simp only [Oper.uponIn] at h ⊢
      case panic u => exact hQ _ _ _ h
  · rename_i hw
    simp only [hw] at h
    exact ⟨fun _ _ => trivial, keep a hy _, by rw [← Act.put_comm a v undef h2]; exact h.2⟩
theorem firstR {i : Nat} {oi : Oper} {v : Value} (hd : noDefer ops = true) (hi : ops[i]? = some oi) (hQ : ∀ c a w, Q (.panic c) (a.put oi.dst v) w → Q (.panic c) a w) :
    ∀ (fuel : Nat) (listed : Array Bool) (a : Act) (w : World),
      (∀ j oj, ops[j]? = some oj → j ≠ i → listed.getD j true = false → (∀ e ∈ oj.after, Region.binds md e = true → e.on ≠ i) → oi.apart ops oj = true) →
      i ∈ Region.ready md ops listed → YieldsIf P ops S oi v a → S w →
      wpAnyR l m P md ops Q S fuel (listed.setIfInBounds i true) (a.put oi.dst v) w → wpAnyR l m P md ops Q S (fuel + 1) listed a w := by
  have hsel := Region.noSelect_spec (noDefer_sel hd)
  intro fuel
  induction fuel with
  | zero =>
    intro listed a w _ hr hy hS H
    refine ⟨fun h => (by rw [h] at hr; cases hr), fun j hj => ?_⟩
    by_cases hji : j = i
    · subst hji; exact yields_opR hd hi hy hS ⟨hS, H⟩
    · have := ready_mono hj hji
      rw [H.1] at this
      cases this
  | succ fuel ih =>
    intro listed a w hfree hr hy hS H
    refine ⟨fun h => (by rw [h] at hr; cases hr), fun j hj => ?_⟩
    by_cases hji : j = i
    · subst hji; exact yields_opR hd hi hy hS ⟨hS, H⟩
    · have h1 := H.2 j (ready_mono hj hji)
      obtain ⟨hjun, oj, hoj, hall⟩ := mem_ready.1 hj
      have hnot : ∀ e ∈ oj.after, Region.binds md e = true → e.on ≠ i := fun e he hb heq => by
        have h1 := hall e he hb
        have h0 := (mem_ready.1 hr).1
        rw [heq] at h1
        rcases Nat.lt_or_ge i listed.size with h' | h'
        · simp [h'] at h0 h1; rw [h0] at h1; cases h1
        · simp [Array.getElem?_eq_none h'] at h1
      have h2 := putR hd hoj (hfree j oj hoj hji hjun hnot) (fun cs b => hsel i oi cs b hi) (fun cs b => hsel j oj cs b hoj) hQ hy h1
      refine wpOpIn_mono (fun a' w' h3 => ⟨h3.2.1, ih (listed.setIfInBounds j true) a' w' (fun k ok hk hki hun hno => hfree k ok hk hki ?_ hno) (ready_mono hr (Ne.symm hji)) h3.1 h3.2.1 ?_⟩) h2
      · by_cases hjk : j = k
        · subst hjk; exact hjun
        · rw [getD_set_ne true hjk] at hun; exact hun
      · rw [Array.setIfInBounds_comm _ _ hji]
        exact h3.2.2
end

section
variable {P : Program} {Q : Exit → Act → World → Prop} {L : List Nat} {V : World} {l m : Nat} {S : World → Prop}
theorem heldr_begin {id : Nat} {a : Act} {w : World} {ol : List Oper} (n : Nat) (L : List Nat) (hm : P.follows .mixedOrders = true) (hn : ol.length = n) (hQ : ∀ c a d v w, Q (.panic c) (a.put d v) w → Q (.panic c) a w)
    (h : Hid (∀ c a d v w, Q (.panic c) (a.put d v) w → Q (.panic c) a w) → KeepL L w.drew w.drew → wpAnyR l m P .any ol.toArray Q (KeepL L w.drew) n (Array.replicate n false) a w.drew) : (Code.region id ol.toArray true).wpIn (RF l) m P Q a w := by
  refine wpIn_region_any hm (wpAnyIn_of_R (S := KeepL L w.drew) _ _ _ _ ?_)
  have hs : ol.toArray.size = n := by simpa using hn
  rw [hs]
  exact h (Lib.hid hQ) (KeepL.refl _ _)
variable {md : Region.Mode} {ops : Array Oper} {n : Nat} {ls : Array Bool} {a : Act} {w : World} {o : Oper}
theorem heldr_v (i : Nat) {r : List Oper} (hi : ops.toList.drop i = o :: r) (hs : noDefer ops = true) (hf : Region.free md ops ls i = true) (hr : (Region.ready md ops ls).contains i = true)
    (hQ : Hid (∀ c a d v w, Q (.panic c) (a.put d v) w → Q (.panic c) a w)) (hS : KeepL L V w) (hg : Region.wanted o (yielded ops a.tmps) = true)
    (h : ∃ v, (∀ w', KeepL L V w' → (execOp a.eval o).run P w' = .ok (.value v) w') ∧ wpAnyR l m P md ops Q (KeepL L V) n (ls.setIfInBounds i true) (a.put o.dst v) w) :
    wpAnyR l m P md ops Q (KeepL L V) (n + 1) ls a w := by
  obtain ⟨v, h1, h2⟩ := h
  exact firstR hs (drop_at hi) (fun c a w h => hQ.out c a _ v w h) n ls a w (Region.free_spec (drop_at hi) hf) (by simpa using hr) (.inl ⟨hg, h1⟩) hS h2
theorem heldr_s (i : Nat) {r : List Oper} (hi : ops.toList.drop i = o :: r) (hs : noDefer ops = true) (hf : Region.free md ops ls i = true) (hr : (Region.ready md ops ls).contains i = true)
    (hQ : Hid (∀ c a d v w, Q (.panic c) (a.put d v) w → Q (.panic c) a w)) (hS : KeepL L V w) (hg : Region.wanted o (yielded ops a.tmps) = false)
    (h : wpAnyR l m P md ops Q (KeepL L V) n (ls.setIfInBounds i true) (a.put o.dst undef) w) :
    wpAnyR l m P md ops Q (KeepL L V) (n + 1) ls a w :=
  firstR hs (drop_at hi) (fun c a w h => hQ.out c a _ undef w h) n ls a w (Region.free_spec (drop_at hi) hf) (by simpa using hr) (.inr ⟨hg, rfl⟩) hS h
theorem heldr_one (i : Nat) {r : List Oper} (hi : ops.toList.drop i = o :: r) (hr : (Region.ready md ops ls == [i] && noDefer ops) = true) (hg : Region.wanted o (yielded ops a.tmps) = true)
    (h : o.uponIn (RF l) m P a (fun a' w' => KeepL L V w' ∧ wpAnyR l m P md ops Q (KeepL L V) n (ls.setIfInBounds i true) a' w') Q ((execOp a.eval o).run P w)) : wpAnyR l m P md ops Q (KeepL L V) (n + 1) ls a w := by
  rw [Bool.and_eq_true, beq_iff_eq] at hr
  obtain ⟨hr, hd⟩ := hr
  refine ⟨fun h0 => (by rw [hr] at h0; cases h0), fun j hj => ?_⟩
  obtain rfl : j = i := by rw [hr] at hj; simpa using hj
  unfold wpOpIn
  simp only [drop_at hi]
  rw [if_pos hg]
  unfold Oper.wpIn
  rw [Oper.semAt_eq _ _ _ (noDefer_spec hd j o (drop_at hi))]
  exact ⟨fun _ _ => trivial, h⟩
theorem heldr_call (i : Nat) {r : List Oper} (hi : ops.toList.drop i = o :: r) (hr : (Region.ready md ops ls == [i] && noDefer ops) = true) (hg : Region.wanted o (yielded ops a.tmps) = true) (hS : KeepL L V w)
    (h : ∃ f args v, (execOp a.eval o).run P w = .ok (.enter f args) w ∧ (Calls P f args w fun e w' => e = .returned v ∧ Below w.heap.size w w') ∧ (∀ b ∈ L, b < w.heap.size) ∧
      ∀ w', Below w.heap.size w w' → KeepL L V w' → wpAnyR l m P md ops Q (KeepL L V) n (ls.setIfInBounds i true) (a.put o.dst v) w') :
    wpAnyR l m P md ops Q (KeepL L V) (n + 1) ls a w := by
  obtain ⟨f, args, v, he, hc, hL, hk⟩ := h
  refine heldr_one i hi hr hg ?_
  rw [he]
  refine ⟨(fun h => by cases h), CallsIn.inRound l ((callsIn_wide.2 hc).mono ?_)⟩
  rintro _ w' ⟨rfl, hb⟩
  exact ⟨hS.below hb hL, hk w' hb (hS.below hb hL)⟩
/-- As heldr_call, for a contract whose value is told by a relation. -/
theorem heldr_callx (i : Nat) {r : List Oper} (hi : ops.toList.drop i = o :: r) (hr : (Region.ready md ops ls == [i] && noDefer ops) = true) (hg : Region.wanted o (yielded ops a.tmps) = true) (hS : KeepL L V w)
    (h : ∃ f args, ∃ R : Value → World → Prop, (execOp a.eval o).run P w = .ok (.enter f args) w ∧ (Calls P f args w fun e w' => (∃ v, e = .returned v ∧ R v w') ∧ Below w.heap.size w w') ∧ (∀ b ∈ L, b < w.heap.size) ∧
      ∀ v w', R v w' → Below w.heap.size w w' → KeepL L V w' → wpAnyR l m P md ops Q (KeepL L V) n (ls.setIfInBounds i true) (a.put o.dst v) w') :
    wpAnyR l m P md ops Q (KeepL L V) (n + 1) ls a w := by
  obtain ⟨f, args, R, he, hc, hL, hk⟩ := h
  refine heldr_one i hi hr hg ?_
  rw [he]
  refine ⟨(fun h => by cases h), CallsIn.inRound l ((callsIn_wide.2 hc).mono ?_)⟩
  rintro _ w' ⟨⟨v, rfl, hv⟩, hb⟩
  exact ⟨hS.below hb hL, hk v w' hv hb (hS.below hb hL)⟩
theorem heldr_o (i : Nat) {r : List Oper} (hi : ops.toList.drop i = o :: r) (hr : (Region.ready md ops ls == [i] && noDefer ops) = true) (hg : Region.wanted o (yielded ops a.tmps) = true)
    (h : ∃ v w', (execOp a.eval o).run P w = .ok (.value v) w' ∧ KeepL L V w' ∧ (KeepL L V w' → wpAnyR l m P md ops Q (KeepL L V) n (ls.setIfInBounds i true) (a.put o.dst v) w')) :
    wpAnyR l m P md ops Q (KeepL L V) (n + 1) ls a w := by
  obtain ⟨v, w', he, hk, h⟩ := h
  refine heldr_one i hi hr hg ?_
  rw [he]
  exact ⟨hk, h hk⟩
theorem heldr_t (i : Nat) {r : List Oper} (hi : ops.toList.drop i = o :: r) (hr : (Region.ready md ops ls == [i] && noDefer ops) = true) (hg : Region.wanted o (yielded ops a.tmps) = true)
    (h : ∃ w', (execOp a.eval o).run P w = .ok .skip w' ∧ KeepL L V w' ∧ (KeepL L V w' → wpAnyR l m P md ops Q (KeepL L V) n (ls.setIfInBounds i true) (a.put o.dst undef) w')) :
    wpAnyR l m P md ops Q (KeepL L V) (n + 1) ls a w := by
  obtain ⟨w', he, hk, h⟩ := h
  refine heldr_one i hi hr hg ?_
  rw [he]
  exact ⟨hk, h hk⟩
/-- Two may come up: both ways. -/
theorem heldr_two (i k : Nat) {o2 : Oper} {r r2 : List Oper} (hi : ops.toList.drop i = o :: r) (hk : ops.toList.drop k = o2 :: r2) (hr : (Region.ready md ops ls == [i, k] && noDefer ops) = true) (hgi : Region.wanted o (yielded ops a.tmps) = true)
    (hgk : Region.wanted o2 (yielded ops a.tmps) = true)
    (h1 : o.uponIn (RF l) m P a (fun a' w' => KeepL L V w' ∧ wpAnyR l m P md ops Q (KeepL L V) n (ls.setIfInBounds i true) a' w') Q ((execOp a.eval o).run P w))
    (h2 : o2.uponIn (RF l) m P a (fun a' w' => KeepL L V w' ∧ wpAnyR l m P md ops Q (KeepL L V) n (ls.setIfInBounds k true) a' w') Q ((execOp a.eval o2).run P w)) : wpAnyR l m P md ops Q (KeepL L V) (n + 1) ls a w := by
  rw [Bool.and_eq_true, beq_iff_eq] at hr
  obtain ⟨hr, hd⟩ := hr
  refine ⟨fun h0 => (by rw [hr] at h0; cases h0), fun j hj => ?_⟩
  rw [hr, List.mem_cons, List.mem_singleton] at hj
  rcases hj with rfl | rfl
  · unfold wpOpIn
    simp only [drop_at hi]
    rw [if_pos hgi]
    unfold Oper.wpIn
    rw [Oper.semAt_eq _ _ _ (noDefer_spec hd j o (drop_at hi))]
    exact ⟨fun _ _ => trivial, h1⟩
  · unfold wpOpIn
    simp only [drop_at hk]
    rw [if_pos hgk]
    unfold Oper.wpIn
    rw [Oper.semAt_eq _ _ _ (noDefer_spec hd j o2 (drop_at hk))]
    exact ⟨fun _ _ => trivial, h2⟩
theorem heldwr_call {K : Act → World → Prop} (hS : KeepL L V w)
    (h : ∃ f args v, (execOp a.eval o).run P w = .ok (.enter f args) w ∧ (Calls P f args w fun e w' => e = .returned v ∧ Below w.heap.size w w') ∧ (∀ b ∈ L, b < w.heap.size) ∧
      ∀ w', Below w.heap.size w w' → KeepL L V w' → K (a.put o.dst v) w') : o.uponIn (RF l) m P a (fun a' w' => KeepL L V w' ∧ K a' w') Q ((execOp a.eval o).run P w) := by
  obtain ⟨f, args, v, he, hc, hL, hk⟩ := h
  rw [he]
  refine ⟨(fun h => by cases h), CallsIn.inRound l ((callsIn_wide.2 hc).mono ?_)⟩
  rintro _ w' ⟨rfl, hb⟩
  exact ⟨hS.below hb hL, hk w' hb (hS.below hb hL)⟩
theorem heldwr_o {K : Act → World → Prop} (h : ∃ v w', (execOp a.eval o).run P w = .ok (.value v) w' ∧ KeepL L V w' ∧ (KeepL L V w' → K (a.put o.dst v) w')) :
    o.uponIn (RF l) m P a (fun a' w' => KeepL L V w' ∧ K a' w') Q ((execOp a.eval o).run P w) := by
  obtain ⟨v, w', he, hk, h⟩ := h
  rw [he]
  exact ⟨hk, h hk⟩
theorem wpr_name (h : ∀ wS, wS = w → wpAnyR l m P md ops Q S n ls a wS) : wpAnyR l m P md ops Q S n ls a w := h w rfl
theorem heldr_end {a : Act} {w : World} {ls : Array Bool} (hr : Region.ready md ops ls = []) (h : Q .normal a w) : wpAnyR l m P md ops Q (KeepL L V) 0 ls a w := ⟨hr, h⟩
end
end Go.Proofs.YtpggmebgndkpjaaDoor
