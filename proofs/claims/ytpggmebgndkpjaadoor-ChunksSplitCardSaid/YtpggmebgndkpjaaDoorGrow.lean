/- A region that draws its order, whose head only makes memory: calls, loads, and operations that lay a new block each, in any order; then a tail in one order. -/
import Derived.StillTail
import Derived.Test.YtpggmebgndkpjaaDoorRegion
namespace Go.Proofs.YtpggmebgndkpjaaDoor
set_option linter.all false
open Go Go.RowKit

/-- The world has grown: what was there is as it was. -/
def Grows (w w' : World) : Prop := Below w.heap.size w w'
theorem Grows.refl (w : World) : Grows w w := Below.refl _ _
theorem Grows.trans {a b c : World} (h : Grows a b) (k : Grows b c) : Grows a c := Below.trans h (Below.mono k h.size)
theorem Grows.alloc (w : World) (ob : Obj) : Grows w (w.alloc ob) := (Below.refl _ _).alloc (Nat.le_refl _) _
/-- The world has grown out of V and holds the named blocks, which are new and different. -/
structure CL (V : World) (bs : List (Nat × Obj)) (w : World) : Prop where
  grows : Grows V w
  has : ∀ p ∈ bs, w.heap[p.1]? = some p.2
  new : ∀ p ∈ bs, V.heap.size ≤ p.1
  nodup : (bs.map Prod.fst).Nodup
theorem CL.nil (V : World) : CL V [] V := ⟨Grows.refl _, by simp, by simp, by simp⟩
theorem CL.step {V w w' : World} {bs : List (Nat × Obj)} (h : CL V bs w) (g : Grows w w') : CL V bs w' :=
  ⟨h.grows.trans g, fun p hp => (g.block p.1 (Array.getElem?_eq_some_iff.1 (h.has p hp)).1).trans (h.has p hp), h.new, h.nodup⟩
theorem CL.push {V w : World} {bs : List (Nat × Obj)} (h : CL V bs w) (ob : Obj) : CL V ((w.heap.size, ob) :: bs) (w.alloc ob) := by
  have k := h.step (Grows.alloc w ob)
  refine ⟨k.grows, ?_, ?_, ?_⟩
  · intro p hp
    rcases List.mem_cons.1 hp with rfl | hp
    · show (w.heap.push ob)[w.heap.size]? = some ob
      simp
    · exact k.has p hp
  · intro p hp
    rcases List.mem_cons.1 hp with rfl | hp
    · exact h.grows.size
    · exact k.new p hp
  · rw [List.map_cons, List.nodup_cons]
    refine ⟨fun hm => ?_, h.nodup⟩
    obtain ⟨p, hp, e⟩ := List.mem_map.1 hm
    have := (Array.getElem?_eq_some_iff.1 (h.has p hp)).1
    simp only at e
    omega
theorem CL.perm {V w : World} {bs cs : List (Nat × Obj)} (hp : bs.Perm cs) (h : CL V cs w) : CL V bs w :=
  ⟨h.grows, fun p hm => h.has p (hp.mem_iff.1 hm), fun p hm => h.new p (hp.mem_iff.1 hm), ((hp.map Prod.fst).nodup_iff).2 h.nodup⟩

theorem CL.drop {V w : World} {p : Nat × Obj} {bs : List (Nat × Obj)} (h : CL V (p :: bs) w) : CL V bs w :=
  ⟨h.grows, fun q hm => h.has q (List.mem_cons_of_mem _ hm), fun q hm => h.new q (List.mem_cons_of_mem _ hm), (List.nodup_cons.1 h.nodup).2⟩

section
variable {P : Program} {ops : Array Oper} {md : Region.Mode} {V : World} {Q : Exit → Act → World → Prop}

/-- One value, in every world that has grown out of V; what it calls only makes memory. -/
def FixAt (P : Program) (V : World) (bs : List (Nat × Obj)) (o : Oper) (a : Act) (v : Value) : Prop :=
  ∀ w, CL V bs w → ((execOp a.eval o).run P w = .ok (.value v) w ∨ ∃ f args, (execOp a.eval o).run P w = .ok (.enter f args) w ∧ Calls P f args w fun e w' => e = .returned v ∧ Grows w w')
/-- It lays a new block. -/
def MkAt (P : Program) (V : World) (o : Oper) (a : Act) (mk : Nat → Value) (ob : Obj) : Prop :=
  ∀ w, Grows V w → (execOp a.eval o).run P w = .ok (.value (mk w.heap.size)) (w.alloc ob)

abbrev Mks := Nat → Option ((Nat → Value) × Obj)
def FixV (P : Program) (V : World) (o : Oper) (a : Act) (v : Value) : Prop := ∀ w, Grows V w → (execOp a.eval o).run P w = .ok (.value v) w
/-- cl: which operations may call. -/
def gOp (P : Program) (ops : Array Oper) (V : World) (mks : Mks) (cl : Nat → Bool) (i : Nat) (K : Act → List (Nat × Obj) → Prop) (a : Act) (bs : List (Nat × Obj)) : Prop :=
  match ops[i]? with
  | none => False
  | some o =>
    match mks i with
    | none => if Region.wanted o (yielded ops a.tmps) = true then ∃ v, FixAt P V bs o a v ∧ (cl i = false → FixV P V o a v) ∧ K (a.put o.dst v) bs else K (a.put o.dst undef) bs
    | some (mk, ob) => Region.wanted o (yielded ops a.tmps) = true ∧ MkAt P V o a mk ob ∧ ∀ b, K (a.put o.dst (mk b)) ((b, ob) :: bs)

theorem gOp_mono {mks : Mks} {cl : Nat → Bool} {i : Nat} {K K' : Act → List (Nat × Obj) → Prop} {a : Act} {bs : List (Nat × Obj)} (h : ∀ a bs, K a bs → K' a bs) (hh : gOp P ops V mks cl i K a bs) : gOp P ops V mks cl i K' a bs := by
  unfold gOp at *
  split
  · rename_i ho; simp only [ho] at hh
  · rename_i o ho
    simp only [ho] at hh
    split
    · rename_i hm; simp only [hm] at hh
      split
      · rename_i hw; rw [if_pos hw] at hh; obtain ⟨v, h1, hv, h2⟩ := hh; exact ⟨v, h1, hv, h _ _ h2⟩
      · rename_i hw; rw [if_neg hw] at hh; exact h _ _ hh
    · rename_i mk ob hm; simp only [hm] at hh
      exact ⟨hh.1, hh.2.1, fun b => h _ _ (hh.2.2 b)⟩

def growAny (P : Program) (md : Region.Mode) (ops : Array Oper) (V : World) (mks : Mks) (cl : Nat → Bool) (Q : Exit → Act → World → Prop) (n g : Nat) : Nat → Array Bool → Act → List (Nat × Obj) → Prop
  | 0, ls, a, bs => (∀ j ∈ Region.ready md ops ls, n ≤ j) ∧ ∀ w, CL V bs w → wpAny P md ops Q g ls a w
  | f + 1, ls, a, bs => Region.ready md ops ls ≠ [] ∧ ∀ i ∈ Region.ready md ops ls, i < n ∧ gOp P ops V mks cl i (growAny P md ops V mks cl Q n g f (ls.setIfInBounds i true)) a bs

theorem growAny_perm {mks : Mks} {cl : Nat → Bool} {n g : Nat} : ∀ (f : Nat) (ls : Array Bool) (a : Act) (bs cs : List (Nat × Obj)), bs.Perm cs → growAny P md ops V mks cl Q n g f ls a bs → growAny P md ops V mks cl Q n g f ls a cs
  | 0, _, _, _, _, hp, h => ⟨h.1, fun w hw => h.2 w (hw.perm hp)⟩
  | f + 1, ls, a, bs, cs, hp, h => by
    refine ⟨h.1, fun i hi => ⟨(h.2 i hi).1, ?_⟩⟩
    have hh := (h.2 i hi).2
    unfold gOp at *
    split
    · rename_i ho; simp only [ho] at hh
    · rename_i o ho
      simp only [ho] at hh
      split
      · rename_i hm; simp only [hm] at hh
        split
        · rename_i hw; rw [if_pos hw] at hh; obtain ⟨v, h1, hv, h2⟩ := hh; exact ⟨v, fun w hw => h1 w (hw.perm hp), hv, growAny_perm f _ _ _ _ hp h2⟩
        · rename_i hw; rw [if_neg hw] at hh; exact growAny_perm f _ _ _ _ hp hh
      · rename_i mk ob hm; simp only [hm] at hh
        exact ⟨hh.1, hh.2.1, fun b => growAny_perm f _ _ _ _ (hp.cons _) (hh.2.2 b)⟩

theorem growAny_sound {mks : Mks} {cl : Nat → Bool} {n g : Nat} : ∀ (f : Nat) (ls : Array Bool) (a : Act) (bs : List (Nat × Obj)) (w : World), CL V bs w →
    growAny P md ops V mks cl Q n g f ls a bs → wpAny P md ops Q (f + g) ls a w := by
  intro f
  induction f with
  | zero => intro ls a bs w hw h; rw [Nat.zero_add]; exact h.2 w hw
  | succ f ih =>
    intro ls a bs w hw h
    rw [Nat.succ_add]
    refine ⟨fun h0 => absurd h0 h.1, fun i hi => ?_⟩
    have hh := (h.2 i hi).2
    unfold gOp at hh
    unfold wpOp
    split
    · rename_i ho; simp only [ho] at hh
    · rename_i o ho
      simp only [ho] at hh
      cases hm : mks i with
      | none =>
        simp only [hm] at hh
        split
        · rename_i hwn
          rw [if_pos hwn] at hh
          obtain ⟨v, h1, _, h2⟩ := hh
          refine .inl ?_
          unfold Oper.wp
          rcases h1 w hw with e | ⟨fn, args, e, hc⟩
          · rw [e]; exact ih _ _ _ _ hw h2
          · rw [e]
            refine hc.mono ?_
            rintro _ w' ⟨rfl, hg⟩
            exact ih _ _ _ _ (hw.step hg) h2
        · rename_i hwn
          rw [if_neg hwn] at hh
          exact ih _ _ _ _ hw hh
      | some p =>
        obtain ⟨mk, ob⟩ := p
        simp only [hm] at hh
        rw [if_pos hh.1]
        refine .inl ?_
        unfold Oper.wp
        rw [hh.2.1 w hw.grows]
        exact ih _ _ _ _ (hw.push ob) (hh.2.2 w.heap.size)

theorem FixAt.of_same {bs : List (Nat × Obj)} {o : Oper} {v : Value} {a a' : Act} (h : FixAt P V bs o a v) (he : execOp a'.eval o = execOp a.eval o) : FixAt P V bs o a' v := by
  unfold FixAt at *; rw [he]; exact h
theorem FixAt.more {bs : List (Nat × Obj)} {p : Nat × Obj} {o : Oper} {v : Value} {a : Act} (h : FixAt P V bs o a v) : FixAt P V (p :: bs) o a v := fun w hw => h w hw.drop
theorem FixV.of_same {o : Oper} {v : Value} {a a' : Act} (h : FixV P V o a v) (he : execOp a'.eval o = execOp a.eval o) : FixV P V o a' v := by
  unfold FixV at *; rw [he]; exact h
theorem MkAt.of_same {o : Oper} {mk : Nat → Value} {ob : Obj} {a a' : Act} (h : MkAt P V o a mk ob) (he : execOp a'.eval o = execOp a.eval o) : MkAt P V o a' mk ob := by
  unfold MkAt at *; rw [he]; exact h

/-- An operation of one value is past by another one of the head. -/
theorem gOp_past {mks : Mks} {cl : Nat → Bool} {j : Nat} {oi oj : Oper} {v : Value} (hj : ops[j]? = some oj) (hap : oi.apart ops oj = true)
    (hsi : ∀ cs b, oi.op ≠ .select cs b) (hsj : ∀ cs b, oj.op ≠ .select cs b) {K : Act → List (Nat × Obj) → Prop} {a : Act} {bs : List (Nat × Obj)}
    {b : Bool} (hw : Region.wanted oi (yielded ops a.tmps) = true) (hy : FixAt P V bs oi a v) (hz : b = false → FixV P V oi a v) (h : gOp P ops V mks cl j K (a.put oi.dst v) bs) :
    gOp P ops V mks cl j (fun a' bs' => (Region.wanted oi (yielded ops a'.tmps) = true ∧ FixAt P V bs' oi a' v ∧ (b = false → FixV P V oi a' v)) ∧ K (a'.put oi.dst v) bs') a bs := by
  obtain ⟨h1, h2, h3⟩ := Oper.apart_spec hap
  have keep : ∀ u, Region.wanted oi (yielded ops (a.put oj.dst u).tmps) = true ∧ FixAt P V bs oi (a.put oj.dst u) v ∧ (b = false → FixV P V oi (a.put oj.dst u) v) := fun u =>
    ⟨(wanted_put oi a oj.dst u h3).trans hw, hy.of_same (execOp_put oi hsi a oj.dst u h3), fun e => (hz e).of_same (execOp_put oi hsi a oj.dst u h3)⟩
  unfold gOp at *
  simp only [hj] at *
  rw [wanted_put oj a oi.dst v h1] at h
  have e := execOp_put oj hsj a oi.dst v h1
  cases hm : mks j with
  | none =>
    simp only [hm] at h ⊢
    by_cases hw' : Region.wanted oj (yielded ops a.tmps) = true
    · rw [if_pos hw'] at h ⊢
      obtain ⟨u, hu, hv, hn⟩ := h
      exact ⟨u, hu.of_same e.symm, fun q => (hv q).of_same e.symm, keep u, by rw [← Act.put_comm a v u h2]; exact hn⟩
    · rw [if_neg hw'] at h ⊢
      exact ⟨keep _, by rw [← Act.put_comm a v undef h2]; exact h⟩
  | some p =>
    obtain ⟨mk, ob⟩ := p
    simp only [hm] at h ⊢
    exact ⟨h.1, h.2.1.of_same e.symm, fun b => ⟨⟨(keep _).1, (keep _).2.1.more, (keep _).2.2⟩, by rw [← Act.put_comm a v (mk b) h2]; exact h.2.2 b⟩⟩

theorem gfree_set {i j : Nat} {oi : Oper} {ls : Array Bool}
    (hfree : ∀ j oj, ops[j]? = some oj → j ≠ i → ls.getD j true = false → (∀ e ∈ oj.after, Region.binds md e = true → e.on ≠ i) → oi.apart ops oj = true)
    (hjun : ls.getD j true = false) : ∀ k ok, ops[k]? = some ok → k ≠ i → (ls.setIfInBounds j true).getD k true = false →
      (∀ e ∈ ok.after, Region.binds md e = true → e.on ≠ i) → oi.apart ops ok = true := by
  intro k ok hk hki hun' hno
  by_cases hjk : j = k
  · subst hjk; exact hfree j ok hk hki hjun hno
  · rw [getD_set_ne true hjk] at hun'; exact hfree k ok hk hki hun' hno
theorem gnot_waits {i : Nat} {oj : Oper} {ls : Array Bool} (hi : ls.getD i true = false) (hall : ∀ e ∈ oj.after, Region.binds md e = true → ls.getD e.on false = true) :
    ∀ e ∈ oj.after, Region.binds md e = true → e.on ≠ i := fun e he hb heq => by
  have h1 := hall e he hb
  rw [heq, getD_both hi] at h1
  cases h1

/-- An operation of one value may be taken first. -/
theorem growAny_fix {mks : Mks} {cl : Nat → Bool} {n g i : Nat} {oi : Oper} {v : Value} (hi : ops[i]? = some oi) (hin : i < n) (hmi : mks i = none)
    (hsel : ∀ (j : Nat) (o : Oper) cs b, ops[j]? = some o → o.op ≠ .select cs b)
    (hs : Region.sinkB md ops n = true) (hc : Region.chainB md ops n = true) (hn : n < ops.size) :
    ∀ (f : Nat) (ls : Array Bool) (a : Act) (bs : List (Nat × Obj)), HeadInv md ops n ls →
      (∀ j oj, ops[j]? = some oj → j ≠ i → ls.getD j true = false → (∀ e ∈ oj.after, Region.binds md e = true → e.on ≠ i) → oi.apart ops oj = true) →
      i ∈ Region.ready md ops ls → Region.wanted oi (yielded ops a.tmps) = true → FixAt P V bs oi a v → (cl i = false → FixV P V oi a v) →
      growAny P md ops V mks cl Q n g f (ls.setIfInBounds i true) (a.put oi.dst v) bs → growAny P md ops V mks cl Q n g (f + 1) ls a bs := by
  intro f
  induction f with
  | zero =>
    intro ls a bs inv hfree hr hw hy hz H
    refine ⟨List.ne_nil_of_mem hr, fun j hj => ?_⟩
    have hjn : j < n := by
      rcases Nat.lt_or_ge j n with h | h
      · exact h
      · exact absurd hj (tail_waits hs hc hn inv _ i rfl hin (mem_ready.1 hr).1 j h)
    refine ⟨hjn, ?_⟩
    by_cases hji : j = i
    · subst hji
      unfold gOp; simp only [hi, hmi]; rw [if_pos hw]; exact ⟨v, hy, hz, H⟩
    · exact absurd (H.1 j (ready_mono hj hji)) (by omega)
  | succ f ih =>
    intro ls a bs inv hfree hr hw hy hz H
    refine ⟨List.ne_nil_of_mem hr, fun j hj => ?_⟩
    have hjn : j < n := by
      rcases Nat.lt_or_ge j n with h | h
      · exact h
      · exact absurd hj (tail_waits hs hc hn inv _ i rfl hin (mem_ready.1 hr).1 j h)
    refine ⟨hjn, ?_⟩
    by_cases hji : j = i
    · subst hji
      unfold gOp; simp only [hi, hmi]; rw [if_pos hw]; exact ⟨v, hy, hz, H⟩
    · obtain ⟨hjun, oj, hoj, hall⟩ := mem_ready.1 hj
      have h2 := gOp_past hoj (hfree j oj hoj hji hjun (gnot_waits (mem_ready.1 hr).1 hall)) (fun cs b => hsel i oi cs b hi) (fun cs b => hsel j oj cs b hoj) hw hy hz (H.2 j (ready_mono hj hji)).2
      refine gOp_mono (fun a' bs' h3 => ih (ls.setIfInBounds j true) a' bs' (inv.set hj hjn) (gfree_set hfree hjun) (ready_mono hr (Ne.symm hji)) h3.1.1 h3.1.2.1 h3.1.2.2 ?_) h2
      rw [Array.setIfInBounds_comm _ _ hji]; exact h3.2

/-- Operation j waits for i, directly or by others. -/
def waitsT (md : Region.Mode) (ops : Array Oper) (i : Nat) : Nat → Nat → Bool
  | 0, _ => false
  | f + 1, j => match ops[j]? with
    | some oj => oj.after.any fun e => Region.binds md e && (e.on == i || waitsT md ops i f e.on)
    | none => false
theorem waitsT_listed {i n : Nat} {ls : Array Bool} (inv : HeadInv md ops n ls) : ∀ (f j : Nat), waitsT md ops i f j = true →
    (∃ oj, ops[j]? = some oj ∧ ∀ e ∈ oj.after, Region.binds md e = true → ls.getD e.on false = true) → ls.getD i false = true := by
  intro f
  induction f with
  | zero => intro j h; simp [waitsT] at h
  | succ f ih =>
    intro j h ⟨oj, hj, hall⟩
    simp only [waitsT, hj] at h
    obtain ⟨e, he, hb⟩ := Array.any_eq_true'.1 h
    simp only [Bool.and_eq_true, Bool.or_eq_true, beq_iff_eq] at hb
    have hl := hall e he hb.1
    rcases hb.2 with e1 | h1
    · rw [← e1]; exact hl
    · have hlt : e.on < ops.size := by
        rw [← inv.size]
        rcases Nat.lt_or_ge e.on ls.size with h | h
        · exact h
        · rw [show ls.getD e.on false = false by simp [Array.getElem?_eq_none h]] at hl; cases hl
      have hk : ops[e.on]? = some ops[e.on] := Array.getElem?_eq_getElem hlt
      exact ih e.on h1 ⟨_, hk, fun e' he' hb' => inv.closed e.on _ hk hl e' he' hb'⟩

/-- An operation that lays a block may be taken first, if what may come up before it neither calls nor waits for it. -/
theorem growAny_mk {mks : Mks} {cl : Nat → Bool} {n g i : Nat} {oi : Oper} {mk : Nat → Value} {ob : Obj} (hi : ops[i]? = some oi) (hin : i < n) (hmi : mks i = some (mk, ob))
    (hsel : ∀ (j : Nat) (o : Oper) cs b, ops[j]? = some o → o.op ≠ .select cs b)
    (hs : Region.sinkB md ops n = true) (hc : Region.chainB md ops n = true) (hn : n < ops.size) :
    ∀ (f : Nat) (ls : Array Bool) (a : Act) (bs : List (Nat × Obj)), HeadInv md ops n ls → (∀ j, j < n → j ≠ i → ls.getD j true = false → mks j ≠ none ∨ cl j = false ∨ ∃ f, waitsT md ops i f j = true) →
      (∀ j oj, ops[j]? = some oj → j ≠ i → ls.getD j true = false → (∀ e ∈ oj.after, Region.binds md e = true → e.on ≠ i) → oi.apart ops oj = true) →
      i ∈ Region.ready md ops ls → Region.wanted oi (yielded ops a.tmps) = true → MkAt P V oi a mk ob →
      (∀ b, growAny P md ops V mks cl Q n g f (ls.setIfInBounds i true) (a.put oi.dst (mk b)) ((b, ob) :: bs)) → growAny P md ops V mks cl Q n g (f + 1) ls a bs := by
  intro f
  induction f with
  | zero =>
    intro ls a bs inv _ hfree hr hw hy H
    refine ⟨List.ne_nil_of_mem hr, fun j hj => ?_⟩
    have hjn : j < n := by
      rcases Nat.lt_or_ge j n with h | h
      · exact h
      · exact absurd hj (tail_waits hs hc hn inv _ i rfl hin (mem_ready.1 hr).1 j h)
    refine ⟨hjn, ?_⟩
    by_cases hji : j = i
    · subst hji
      unfold gOp; simp only [hi, hmi]; exact ⟨hw, hy, H⟩
    · exact absurd ((H 0).1 j (ready_mono hj hji)) (by omega)
  | succ f ih =>
    intro ls a bs inv hmk hfree hr hw hy H
    refine ⟨List.ne_nil_of_mem hr, fun j hj => ?_⟩
    have hjn : j < n := by
      rcases Nat.lt_or_ge j n with h | h
      · exact h
      · exact absurd hj (tail_waits hs hc hn inv _ i rfl hin (mem_ready.1 hr).1 j h)
    refine ⟨hjn, ?_⟩
    by_cases hji : j = i
    · subst hji
      unfold gOp; simp only [hi, hmi]; exact ⟨hw, hy, H⟩
    · obtain ⟨hjun, oj, hoj, hall⟩ := mem_ready.1 hj
      obtain ⟨h1, h2, h3⟩ := Oper.apart_spec (hfree j oj hoj hji hjun (gnot_waits (mem_ready.1 hr).1 hall))
      have hsi := fun cs b => hsel i oi cs b hi
      have hsj := fun cs b => hsel j oj cs b hoj
      have H' := fun b => ((H b).2 j (ready_mono hj hji)).2
      unfold gOp at H' ⊢
      simp only [hoj] at H' ⊢
      have hmk' : ∀ k, k < n → k ≠ i → (ls.setIfInBounds j true).getD k true = false → mks k ≠ none ∨ cl k = false ∨ ∃ f, waitsT md ops i f k = true := fun k hk hki hun => by
        by_cases hkj : j = k
        · subst hkj
          exact hmk j hk hki hjun
        · rw [getD_set_ne true hkj] at hun; exact hmk k hk hki hun
      cases hm : mks j with
      | none =>
        simp only [hm] at H' ⊢
        have hcl : cl j = false := by
          rcases hmk j hjn hji hjun with h | h | ⟨f, h⟩
          · exact absurd hm h
          · exact h
          · have := waitsT_listed inv f j h ⟨oj, hoj, hall⟩
            rw [getD_both (mem_ready.1 hr).1] at this
            cases this
        have ew : ∀ b, Region.wanted oj (yielded ops (a.put oi.dst (mk b)).tmps) = Region.wanted oj (yielded ops a.tmps) := fun b => wanted_put oj a oi.dst (mk b) h1
        simp only [ew] at H'
        by_cases hwj : Region.wanted oj (yielded ops a.tmps) = true
        · rw [if_pos hwj]
          simp only [hwj, if_true] at H'
          obtain ⟨v, _, q2, _⟩ := H' 0
          have ee : ∀ b, execOp (a.put oi.dst (mk b)).eval oj = execOp a.eval oj := fun b => execOp_put oj hsj a oi.dst (mk b) h1
          have r0 := (q2 hcl).of_same (ee 0).symm
          refine ⟨v, fun w hw => .inl (r0 w hw.grows), fun _ => r0, ?_⟩
          refine ih _ _ _ (inv.set hj hjn) hmk' (gfree_set hfree hjun) (ready_mono hr (Ne.symm hji)) ((wanted_put oi a oj.dst _ h3).trans hw) (hy.of_same (execOp_put oi hsi a oj.dst _ h3)) (fun b => ?_)
          obtain ⟨v', _, q2', q3'⟩ := H' b
          have r1 := (q2' hcl).of_same (ee b).symm
          have ev : v' = v := by
            have e1 := r0 V (Grows.refl V)
            rw [r1 V (Grows.refl V)] at e1
            injection e1 with e2 _
            injection e2
          subst ev
          rw [Array.setIfInBounds_comm _ _ hji, ← Act.put_comm a (mk b) v' h2]
          exact q3'
        · rw [if_neg hwj]
          simp only [hwj] at H'
          refine ih _ _ _ (inv.set hj hjn) hmk' (gfree_set hfree hjun) (ready_mono hr (Ne.symm hji)) ((wanted_put oi a oj.dst _ h3).trans hw) (hy.of_same (execOp_put oi hsi a oj.dst _ h3)) (fun b => ?_)
          rw [Array.setIfInBounds_comm _ _ hji, ← Act.put_comm a (mk b) undef h2]
          exact H' b
      | some p =>
        obtain ⟨mk', ob'⟩ := p
        simp only [hm] at H' ⊢
        refine ⟨(wanted_put oj a oi.dst (mk 0) h1).symm.trans (H' 0).1, (H' 0).2.1.of_same (execOp_put oj hsj a oi.dst (mk 0) h1).symm, fun b' => ?_⟩
        refine ih _ _ _ (inv.set hj hjn) hmk' (gfree_set hfree hjun) (ready_mono hr (Ne.symm hji)) ((wanted_put oi a oj.dst _ h3).trans hw) (hy.of_same (execOp_put oi hsi a oj.dst _ h3)) (fun b => ?_)
        rw [Array.setIfInBounds_comm _ _ hji, ← Act.put_comm a (mk b) (mk' b') h2]
        exact growAny_perm _ _ _ _ _ (List.Perm.swap _ _ _) ((H' b).2.2 b')

/-- The walk: the head in a given order, what lays blocks last. -/
def wpGrow (P : Program) (ops : Array Oper) (V : World) (mks : Mks) (cl : Nat → Bool) (Q : Exit → Act → World → Prop) (tail : List Oper) : List Nat → Act → List (Nat × Obj) → Prop
  | [], a, bs => ∀ w, CL V bs w → wpList P ops Q tail a w
  | k :: r, a, bs => gOp P ops V mks cl k (wpGrow P ops V mks cl Q tail r) a bs

def ordB (md : Region.Mode) (ops : Array Oper) (mks cl : Nat → Bool) (n g : Nat) : List Nat → Array Bool → Bool
  | [], ls => Region.seqB md ops g n ls
  | k :: r, ls => decide (k < n) && (Region.ready md ops ls).contains k && Region.free md ops ls k && (!mks k || (List.range n).all fun j => ls.getD j true || j == k || mks j || !cl j || waitsT md ops k n j) && ordB md ops mks cl n g r (ls.setIfInBounds k true)

theorem growAny_ord {mks : Mks} {cl : Nat → Bool} {n : Nat} {tail : List Oper} (hsel : Region.noSelect ops = true)
    (hs : Region.sinkB md ops n = true) (hc : Region.chainB md ops n = true) (hn : n < ops.size) (htail : ∀ j, tail[j]? = ops[n + j]?) (hlen : tail.length = ops.size - n)
    (hguard : ∀ j o, ops[j]? = some o → j < n → mks j = none → o.guard = none) :
    ∀ (r : List Nat) (ls : Array Bool) (a : Act) (bs : List (Nat × Obj)), HeadInv md ops n ls → ordB md ops (fun i => (mks i).isSome) cl n (ops.size - n) r ls = true →
      wpGrow P ops V mks cl Q tail r a bs → growAny P md ops V mks cl Q n (ops.size - n) r.length ls a bs := by
  intro r
  induction r with
  | nil =>
    intro ls a bs inv hB h
    simp only [ordB] at hB
    refine ⟨seqB_ready hB, fun w hw => ?_⟩
    have := wpAny_of_seq (md := md) (Q' := Q) tail n ls a w htail (by rw [hlen]; exact hB) (h w hw)
    rwa [hlen] at this
  | cons k r ih =>
    intro ls a bs inv hB h
    simp only [ordB, Bool.and_eq_true, decide_eq_true_eq, List.contains_iff_mem] at hB
    obtain ⟨⟨⟨⟨hkn, hr⟩, hf⟩, hm⟩, hB⟩ := hB
    have h0 : ∃ o, ops[k]? = some o := ⟨_, Array.getElem?_eq_getElem (by omega)⟩
    obtain ⟨o, h0⟩ := h0
    have inv' := inv.set hr hkn
    unfold wpGrow gOp at h
    simp only [h0] at h
    cases hmk : mks k with
    | none =>
      simp only [hmk] at h
      have hw : Region.wanted o (yielded ops a.tmps) = true := by unfold Region.wanted; rw [hguard k o h0 hkn hmk]
      rw [if_pos hw] at h
      obtain ⟨v, h1, hv, h2⟩ := h
      exact growAny_fix h0 hkn hmk (Region.noSelect_spec hsel) hs hc hn _ ls a bs inv (Region.free_spec h0 hf) hr hw h1 hv (ih _ _ _ inv' hB h2)
    | some p =>
      obtain ⟨mk, ob⟩ := p
      simp only [hmk] at h
      refine growAny_mk h0 hkn hmk (Region.noSelect_spec hsel) hs hc hn _ ls a bs inv (fun j hj hji hun => ?_) (Region.free_spec h0 hf) hr h.1 h.2.1 (fun b => ih _ _ _ inv' hB (h.2.2 b))
      simp only [hmk, Option.isSome_some, Bool.not_true, Bool.false_or, List.all_eq_true, List.mem_range, Bool.or_eq_true, beq_iff_eq, Bool.not_eq_true'] at hm
      rcases hm j hj with (((h1 | h1) | h1) | h1) | h1
      · rw [hun] at h1; cases h1
      · exact absurd h1 hji
      · left; intro e; rw [e] at h1; cases h1
      · exact .inr (.inl h1)
      · exact .inr (.inr ⟨_, h1⟩)

def growB (ops : Array Oper) (n : Nat) (mks cl : Nat → Bool) (ord : List Nat) : Bool :=
  Region.noSelect ops && decide (n < ops.size) && Region.sinkB .any ops n && Region.chainB .any ops n && decide (ord.length = n) && ordB .any ops mks cl n (ops.size - n) ord (Array.replicate ops.size false) && ops.toList.all (fun o => o.guard.isNone)

/-- The blocks that operations of the head lay. -/
def mksOf (al : List (Nat × (Nat → Value) × Obj)) : Mks := fun i => (al.find? fun p => p.1 == i).map Prod.snd

theorem region_grow {id : Nat} {a : Act} {w : World} {l : List Oper} (n : Nat) (ord : List Nat) (al : List (Nat × (Nat → Value) × Obj)) (cl : List Nat)
    (hm : P.follows .mixedOrders = true) (hB : growB l.toArray n (fun i => (mksOf al i).isSome) (fun i => cl.contains i) ord = true)
    (h : wpGrow P l.toArray w.drew (mksOf al) (fun i => cl.contains i) Q (l.drop n) ord a []) : (Code.region id l.toArray true).wp P Q a w := by
  simp only [growB, Bool.and_eq_true, decide_eq_true_eq] at hB
  obtain ⟨⟨⟨⟨⟨⟨hsel, hn⟩, hs⟩, hc⟩, ho⟩, hord⟩, hg⟩ := hB
  have inv0 : HeadInv .any l.toArray n (Array.replicate l.toArray.size false) :=
    ⟨by simp, fun j oj _ hl => (by rw [getD_replicate_false] at hl; cases hl), fun t _ ht => getD_in (by simpa using ht) (getD_replicate_false _ _)⟩
  have H := growAny_ord (P := P) (md := .any) (Q := Q) (V := w.drew) (mks := mksOf al) (cl := fun i => cl.contains i) (tail := l.drop n) hsel hs hc hn (fun j => by simp [List.getElem?_drop]) (by simp)
    (fun j o hj _ _ => by
      have := List.all_eq_true.1 hg o (Array.mem_toList_iff.2 (Array.mem_of_getElem? hj))
      simpa using this) ord _ a [] inv0 hord h
  have := growAny_sound (Q := Q) _ _ _ _ w.drew (CL.nil _) H
  rw [ho, show n + (l.toArray.size - n) = l.toArray.size by omega] at this
  exact wp_region_any hm this

/-- Steps. -/
theorem grow_v {mks : Mks} {cl : Nat → Bool} {tail : List Oper} {k : Nat} {r : List Nat} {a : Act} {bs : List (Nat × Obj)} {o : Oper} {rest : List Oper} (hi : ops.toList.drop k = o :: rest) (hmk : mks k = none) (hg : Region.wanted o (yielded ops a.tmps) = true)
    (h : ∃ v, (∀ w', Grows V w' → (execOp a.eval o).run P w' = .ok (.value v) w') ∧ wpGrow P ops V mks cl Q tail r (a.put o.dst v) bs) : wpGrow P ops V mks cl Q tail (k :: r) a bs := by
  have hi' : ops[k]? = some o := by have := congrArg (fun l => l[0]?) hi; simpa using this
  obtain ⟨v, h1, h2⟩ := h
  unfold wpGrow gOp; simp only [hi', hmk]; rw [if_pos hg]
  exact ⟨v, fun w hw => .inl (h1 w hw.grows), fun _ => h1, h2⟩
theorem grow_c {mks : Mks} {cl : Nat → Bool} {tail : List Oper} {k : Nat} {r : List Nat} {a : Act} {bs : List (Nat × Obj)} {o : Oper} {rest : List Oper} (hi : ops.toList.drop k = o :: rest) (hmk : mks k = none) (hcl : cl k = true) (hg : Region.wanted o (yielded ops a.tmps) = true)
    (h : ∃ f args v, (∀ w', Grows V w' → (execOp a.eval o).run P w' = .ok (.enter f args) w') ∧ (∀ w', Grows V w' → Calls P f args w' fun e w'' => e = .returned v ∧ Below w'.heap.size w' w'') ∧ wpGrow P ops V mks cl Q tail r (a.put o.dst v) bs) :
    wpGrow P ops V mks cl Q tail (k :: r) a bs := by
  have hi' : ops[k]? = some o := by have := congrArg (fun l => l[0]?) hi; simpa using this
  obtain ⟨f, args, v, h1, h2, h3⟩ := h
  unfold wpGrow gOp; simp only [hi', hmk]; rw [if_pos hg]
  exact ⟨v, fun w hw => .inr ⟨f, args, h1 w hw.grows, h2 w hw.grows⟩, (fun e => by rw [hcl] at e; cases e), h3⟩
/-- The callee may ask for the blocks that are laid already. -/
theorem grow_cb {mks : Mks} {cl : Nat → Bool} {tail : List Oper} {k : Nat} {r : List Nat} {a : Act} {bs : List (Nat × Obj)} {o : Oper} {rest : List Oper} (hi : ops.toList.drop k = o :: rest) (hmk : mks k = none) (hcl : cl k = true) (hg : Region.wanted o (yielded ops a.tmps) = true)
    (h : ∃ f args v, (∀ w', Grows V w' → (execOp a.eval o).run P w' = .ok (.enter f args) w') ∧ (∀ w', CL V bs w' → Calls P f args w' fun e w'' => e = .returned v ∧ Below w'.heap.size w' w'') ∧ wpGrow P ops V mks cl Q tail r (a.put o.dst v) bs) :
    wpGrow P ops V mks cl Q tail (k :: r) a bs := by
  have hi' : ops[k]? = some o := by have := congrArg (fun l => l[0]?) hi; simpa using this
  obtain ⟨f, args, v, h1, h2, h3⟩ := h
  unfold wpGrow gOp; simp only [hi', hmk]; rw [if_pos hg]
  exact ⟨v, fun w hw => .inr ⟨f, args, h1 w hw.grows, h2 w hw⟩, (fun e => by rw [hcl] at e; cases e), h3⟩
theorem grow_m {mks : Mks} {cl : Nat → Bool} {tail : List Oper} {k : Nat} {r : List Nat} {a : Act} {bs : List (Nat × Obj)} {o : Oper} {rest : List Oper} {mk : Nat → Value} {ob : Obj} (hi : ops.toList.drop k = o :: rest) (hmk : mks k = some (mk, ob)) (hg : Region.wanted o (yielded ops a.tmps) = true)
    (h : (∀ w', Grows V w' → (execOp a.eval o).run P w' = .ok (.value (mk w'.heap.size)) (w'.alloc ob)) ∧ ∀ b, wpGrow P ops V mks cl Q tail r (a.put o.dst (mk b)) ((b, ob) :: bs)) :
    wpGrow P ops V mks cl Q tail (k :: r) a bs := by
  have hi' : ops[k]? = some o := by have := congrArg (fun l => l[0]?) hi; simpa using this
  unfold wpGrow gOp; simp only [hi', hmk]
  exact ⟨hg, h.1, h.2⟩
theorem grow_end {mks : Mks} {cl : Nat → Bool} {tail : List Oper} {a : Act} {bs : List (Nat × Obj)} (h : ∀ w, CL V bs w → wpList P ops Q tail a w) : wpGrow P ops V mks cl Q tail [] a bs := h
end
/-- What a known block gives. -/
theorem has_cells {w : World} {b : Nat} {cs : List Value} {t : TypeId} (h : w.heap[b]? = some (.cells cs.toArray t)) : (∀ o v, cs[o]? = some v → w.cell? ⟨b, o, none⟩ = some v) ∧ (∀ o, w.frozen? ⟨b, o, none⟩ = false) ∧ b < w.heap.size := by
  refine ⟨fun o v hv => ?_, fun o => ?_, (Array.getElem?_eq_some_iff.1 h).1⟩
  · simp [World.cell?, h, hv]
  · simp [World.frozen?, h]
end Go.Proofs.YtpggmebgndkpjaaDoor
