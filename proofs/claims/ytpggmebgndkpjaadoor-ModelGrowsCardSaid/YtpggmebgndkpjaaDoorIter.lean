/- Loops over functions in the walk by triples: bundles of what is known, the contract of an iterator, the statement, a round, the call of yield, the end of a function that held such loops. -/
import Derived.Test.YtpggmebgndkpjaaDoorSyn
namespace Go.Proofs.YtpggmebgndkpjaaDoor
set_option linter.all false
open Go Go.RowKit

/-! Bundles. -/
def nores : Res where
  foot _ := False
  ok _ := True
  loc _ _ _ h := h
  lt _ _ _ h := h.elim
/-- Several things that lie apart. -/
def bun (l : List Res) : Res where
  foot k := ∃ m ∈ l, m.foot k
  ok w := (∀ m ∈ l, m.ok w) ∧ l.Pairwise fun (m m' : Res) => ∀ k : Nat, m.foot k → ¬ m'.foot k
  loc w w' h k := ⟨fun m hm => m.loc w w' (fun i hi => h i ⟨m, hm, hi⟩) (k.1 m hm), k.2⟩
  lt w _ h hk := by obtain ⟨m, hm, hi⟩ := hk; exact m.lt w _ (h.1 m hm) hi
/-- Several things that are only read. -/
def rall (l : List Res) : Res where
  foot k := ∃ m ∈ l, m.foot k
  ok w := ∀ m ∈ l, m.ok w
  loc w w' h k := fun m hm => m.loc w w' (fun i hi => h i ⟨m, hm, hi⟩) (k m hm)
  lt w _ h hk := by obtain ⟨m, hm, hi⟩ := hk; exact m.lt w _ (h m hm) hi
section
variable {F0 : Nat → Prop} {W w w' : World} {M M' R R' l : List Res} {m m' r : Res}
theorem Sat.pack (hs : Sat F0 W (l ++ M) R w) : Sat F0 W (bun l :: M) R w := by
  have hd := List.pairwise_append.1 hs.dM
  refine ⟨hs.keep, ?_, hs.okR, ?_, ?_, ?_⟩
  · intro x hx
    cases hx with
    | head => exact ⟨fun m hm => hs.okM m (List.mem_append_left _ hm), hd.1⟩
    | tail _ hx => exact hs.okM x (List.mem_append_right _ hx)
  · intro x hx k hk
    cases hx with
    | head => obtain ⟨m, hm, hi⟩ := hk; exact hs.own m (List.mem_append_left _ hm) k hi
    | tail _ hx => exact hs.own x (List.mem_append_right _ hx) k hk
  · exact List.pairwise_cons.2 ⟨fun x hx k hk hk2 => by obtain ⟨m, hm, hi⟩ := hk; exact hd.2.2 m hm x hx k hi hk2, hd.2.1⟩
  · intro x hx r hr k hk hk2
    cases hx with
    | head => obtain ⟨m, hm, hi⟩ := hk; exact hs.dR m (List.mem_append_left _ hm) r hr k hi hk2
    | tail _ hx => exact hs.dR x (List.mem_append_right _ hx) r hr k hk hk2
theorem Sat.unpack (hs : Sat F0 W (bun l :: M) R w) : Sat F0 W (l ++ M) R w := by
  have hd := List.pairwise_cons.1 hs.dM
  have h0 := hs.okM _ (.head _)
  refine ⟨hs.keep, ?_, hs.okR, ?_, ?_, ?_⟩
  · intro x hx
    rcases List.mem_append.1 hx with hx | hx
    · exact h0.1 x hx
    · exact hs.okM x (.tail _ hx)
  · intro x hx k hk
    rcases List.mem_append.1 hx with hx | hx
    · exact hs.own _ (.head _) k ⟨x, hx, hk⟩
    · exact hs.own x (.tail _ hx) k hk
  · exact List.pairwise_append.2 ⟨h0.2, hd.2, fun m hm x hx k hk hk2 => hd.1 x hx k ⟨m, hm, hk⟩ hk2⟩
  · intro x hx r hr k hk hk2
    rcases List.mem_append.1 hx with hx | hx
    · exact hs.dR _ (.head _) r hr k ⟨x, hx, hk⟩ hk2
    · exact hs.dR x (.tail _ hx) r hr k hk hk2
theorem Sat.up5 {m0 m1 m2 m3 m4 : Res} (h : Sat F0 W (m0 :: m1 :: m2 :: m3 :: m4 :: m :: M) R w) : Sat F0 W (m :: m0 :: m1 :: m2 :: m3 :: m4 :: M) R w := h.perm (List.perm_middle (l₁ := [m0, m1, m2, m3, m4]) (l₂ := M))
theorem Sat.up6 {m0 m1 m2 m3 m4 m5 : Res} (h : Sat F0 W (m0 :: m1 :: m2 :: m3 :: m4 :: m5 :: m :: M) R w) : Sat F0 W (m :: m0 :: m1 :: m2 :: m3 :: m4 :: m5 :: M) R w := h.perm (List.perm_middle (l₁ := [m0, m1, m2, m3, m4, m5]) (l₂ := M))
theorem Sat.up7 {m0 m1 m2 m3 m4 m5 m6 : Res} (h : Sat F0 W (m0 :: m1 :: m2 :: m3 :: m4 :: m5 :: m6 :: m :: M) R w) : Sat F0 W (m :: m0 :: m1 :: m2 :: m3 :: m4 :: m5 :: m6 :: M) R w := h.perm (List.perm_middle (l₁ := [m0, m1, m2, m3, m4, m5, m6]) (l₂ := M))
theorem Sat.up8 {m0 m1 m2 m3 m4 m5 m6 m7 : Res} (h : Sat F0 W (m0 :: m1 :: m2 :: m3 :: m4 :: m5 :: m6 :: m7 :: m :: M) R w) : Sat F0 W (m :: m0 :: m1 :: m2 :: m3 :: m4 :: m5 :: m6 :: m7 :: M) R w := h.perm (List.perm_middle (l₁ := [m0, m1, m2, m3, m4, m5, m6, m7]) (l₂ := M))
theorem Sat.up9 {m0 m1 m2 m3 m4 m5 m6 m7 m8 : Res} (h : Sat F0 W (m0 :: m1 :: m2 :: m3 :: m4 :: m5 :: m6 :: m7 :: m8 :: m :: M) R w) : Sat F0 W (m :: m0 :: m1 :: m2 :: m3 :: m4 :: m5 :: m6 :: m7 :: m8 :: M) R w := h.perm (List.perm_middle (l₁ := [m0, m1, m2, m3, m4, m5, m6, m7, m8]) (l₂ := M))
theorem Sat.up10 {m0 m1 m2 m3 m4 m5 m6 m7 m8 m9 : Res} (h : Sat F0 W (m0 :: m1 :: m2 :: m3 :: m4 :: m5 :: m6 :: m7 :: m8 :: m9 :: m :: M) R w) : Sat F0 W (m :: m0 :: m1 :: m2 :: m3 :: m4 :: m5 :: m6 :: m7 :: m8 :: m9 :: M) R w := h.perm (List.perm_middle (l₁ := [m0, m1, m2, m3, m4, m5, m6, m7, m8, m9]) (l₂ := M))
theorem Sat.up11 {m0 m1 m2 m3 m4 m5 m6 m7 m8 m9 m10 : Res} (h : Sat F0 W (m0 :: m1 :: m2 :: m3 :: m4 :: m5 :: m6 :: m7 :: m8 :: m9 :: m10 :: m :: M) R w) : Sat F0 W (m :: m0 :: m1 :: m2 :: m3 :: m4 :: m5 :: m6 :: m7 :: m8 :: m9 :: m10 :: M) R w := h.perm (List.perm_middle (l₁ := [m0, m1, m2, m3, m4, m5, m6, m7, m8, m9, m10]) (l₂ := M))
theorem Sat.up12 {m0 m1 m2 m3 m4 m5 m6 m7 m8 m9 m10 m11 : Res} (h : Sat F0 W (m0 :: m1 :: m2 :: m3 :: m4 :: m5 :: m6 :: m7 :: m8 :: m9 :: m10 :: m11 :: m :: M) R w) : Sat F0 W (m :: m0 :: m1 :: m2 :: m3 :: m4 :: m5 :: m6 :: m7 :: m8 :: m9 :: m10 :: m11 :: M) R w := h.perm (List.perm_middle (l₁ := [m0, m1, m2, m3, m4, m5, m6, m7, m8, m9, m10, m11]) (l₂ := M))
theorem Sat.up13 {m0 m1 m2 m3 m4 m5 m6 m7 m8 m9 m10 m11 m12 : Res} (h : Sat F0 W (m0 :: m1 :: m2 :: m3 :: m4 :: m5 :: m6 :: m7 :: m8 :: m9 :: m10 :: m11 :: m12 :: m :: M) R w) : Sat F0 W (m :: m0 :: m1 :: m2 :: m3 :: m4 :: m5 :: m6 :: m7 :: m8 :: m9 :: m10 :: m11 :: m12 :: M) R w := h.perm (List.perm_middle (l₁ := [m0, m1, m2, m3, m4, m5, m6, m7, m8, m9, m10, m11, m12]) (l₂ := M))
theorem Sat.up14 {m0 m1 m2 m3 m4 m5 m6 m7 m8 m9 m10 m11 m12 m13 : Res} (h : Sat F0 W (m0 :: m1 :: m2 :: m3 :: m4 :: m5 :: m6 :: m7 :: m8 :: m9 :: m10 :: m11 :: m12 :: m13 :: m :: M) R w) : Sat F0 W (m :: m0 :: m1 :: m2 :: m3 :: m4 :: m5 :: m6 :: m7 :: m8 :: m9 :: m10 :: m11 :: m12 :: m13 :: M) R w := h.perm (List.perm_middle (l₁ := [m0, m1, m2, m3, m4, m5, m6, m7, m8, m9, m10, m11, m12, m13]) (l₂ := M))
/-- All but the first as one thing. -/
theorem Sat.fr1 (hs : Sat F0 W (m :: M) R w) : Sat F0 W [m, bun M] R w := by
  refine Sat.up1 (m0 := bun M) (Sat.pack (l := M) (hs.perm ?_))
  exact (List.perm_append_comm (l₁ := [m]) (l₂ := M))
theorem Sat.un1 (hs : Sat F0 W [m, bun M] R w) : Sat F0 W (m :: M) R w := by
  have h := (Sat.up1 hs).unpack
  exact h.perm (List.perm_append_comm (l₁ := M) (l₂ := [m]))
theorem Sat.fr2 (hs : Sat F0 W (m :: m' :: M) R w) : Sat F0 W [m, m', bun M] R w := by
  have h := Sat.fr1 (m := bun [m, m']) (Sat.pack (l := [m, m']) hs)
  exact h.unpack
theorem Sat.un2 (hs : Sat F0 W [m, m', bun M] R w) : Sat F0 W (m :: m' :: M) R w :=
  (Sat.un1 (m := bun [m, m']) (Sat.pack (l := [m, m']) (M := [bun M]) hs)).unpack
theorem Sat.none (hs : Sat F0 W M R w) : Sat F0 W (nores :: M) R w := hs.new (.refl _ _) trivial fun _ h => h.elim
theorem Sat.packR (hs : Sat F0 W M R w) : Sat F0 W M [rall R] w := by
  refine ⟨hs.keep, hs.okM, ?_, hs.own, hs.dM, ?_⟩
  · intro x hx; rcases List.mem_singleton.1 hx with rfl; exact hs.okR
  · intro x hx r hr k hk hk2
    rcases List.mem_singleton.1 hr with rfl
    obtain ⟨r, hr, hi⟩ := hk2
    exact hs.dR x hx r hr k hk hi
/-- RI is known where all of R is. -/
structure HasR (RI : Res) (R : List Res) : Prop where
  ok : ∀ w, (∀ r ∈ R, r.ok w) → RI.ok w
  foot : ∀ k, RI.foot k → ∃ r ∈ R, r.foot k
theorem HasR.at_ (h : HasR r R) (hs : Sat F0 W M R w) : r.ok w := h.ok w hs.okR
theorem HasR.of (h : r ∈ R) : HasR r R := ⟨fun _ hw => hw r h, fun _ hk => ⟨r, h, hk⟩⟩
theorem HasR.head : HasR r (r :: R) := .of (.head _)
theorem HasR.cons (h : HasR r R) : HasR r (m :: R) := ⟨fun w hw => h.ok w fun x hx => hw x (.tail _ hx), fun k hk => by obtain ⟨x, hx, hi⟩ := h.foot k hk; exact ⟨x, .tail _ hx, hi⟩⟩
theorem HasR.rall (h : ∀ x ∈ l, HasR x R) : HasR (rall l) R := ⟨fun w hw x hx => (h x hx).ok w hw, fun k hk => by obtain ⟨x, hx, hi⟩ := hk; exact (h x hx).foot k hi⟩
theorem HasR.part (h : HasR (Go.Proofs.YtpggmebgndkpjaaDoor.rall l) R) (hm : m ∈ l) : HasR m R := ⟨fun w hw => h.ok w hw m hm, fun k hk => h.foot k ⟨m, hm, hk⟩⟩
theorem HasR.trans (h : HasR r [m]) (h' : HasR m R) : HasR r R := ⟨fun w hw => h.ok w fun x hx => by rcases List.mem_singleton.1 hx with rfl; exact h'.ok w hw, fun k hk => by obtain ⟨x, hx, hi⟩ := h.foot k hk; rcases List.mem_singleton.1 hx with rfl; exact h'.foot k hi⟩
theorem HasR.unpart {x : Res} (h : HasR x l) : HasR x [Go.Proofs.YtpggmebgndkpjaaDoor.rall l] := ⟨fun w hw => h.ok w (hw _ (.head _)), fun k hk => by obtain ⟨y, hy, hi⟩ := h.foot k hk; exact ⟨_, .head _, y, hy, hi⟩⟩
theorem HasR.nil : HasR nores R := ⟨fun _ _ => trivial, fun _ h => h.elim⟩
theorem Sat.hasR (hs : Sat F0 W M R w) (h : HasR r R) : Sat F0 W M (r :: R) w := hs.dup (h.ok w hs.okR) fun k hk => h.foot k hk
/-- Another list of what is only read. -/
theorem Sat.toR (hs : Sat F0 W M R w) (h : ∀ r ∈ R', HasR r R) : Sat F0 W M R' w :=
  ⟨hs.keep, hs.okM, fun r hr => (h r hr).ok w hs.okR, hs.own, hs.dM, fun m hm r hr k hk hk2 => by obtain ⟨x, hx, hi⟩ := (h r hr).foot k hk2; exact hs.dR m hm x hx k hk hi⟩
theorem HasR.pi (h : HasR (Go.Proofs.YtpggmebgndkpjaaDoor.rall l) R) (i : Nat) (hi : l[i]? = some m) : HasR m R := h.part (List.mem_of_getElem? hi)
/-- From now on it is only read. -/
theorem Sat.frzL (hs : Sat F0 W (l ++ M) R w) : Sat F0 W M (rall l :: R) w :=
  (Sat.pack hs).frz (r := rall l) ((Sat.pack hs).okM _ (.head _)).1 fun _ hk => hk
/-- .. with what it leads to. -/
theorem Sat.mkR (hs : Sat F0 W (m :: M) R w) (h : ∀ x ∈ l, HasR x R) : Sat F0 W M (rall (m :: l) :: R) w :=
  (hs.frz (r := m) (hs.okM _ (.head _)) fun _ hk => hk).toR fun r hr => by
    rcases List.mem_cons.1 hr with rfl | hr
    · exact .rall fun x hx => by
        rcases List.mem_cons.1 hx with rfl | hx
        · exact .head
        · exact (h x hx).cons
    · exact .of (.tail _ hr)
theorem HasR.two (h : HasR m R) (h' : HasR m' R) : HasR (Go.Proofs.YtpggmebgndkpjaaDoor.rall [m, m']) R := .rall fun x hx => by
  simp only [List.mem_cons, List.not_mem_nil, or_false] at hx
  rcases hx with rfl | rfl
  · exact h
  · exact h'
theorem Sat.rl2 (hs : Sat F0 W M (m :: m' :: R) w) : Sat F0 W M (rall [m, m'] :: R) w := hs.toR fun r hr => by
  rcases List.mem_cons.1 hr with rfl | hr
  · exact .two .head HasR.head.cons
  · exact .of (.tail _ (.tail _ hr))
theorem HasR.nth (i : Nat) (hi : R[i]? = some m) : HasR m R := .of (List.mem_of_getElem? hi)
theorem HasR.lst0 {s : Nat} : HasR (lst s (.slice none 0 0) 0 []) R := ⟨fun _ _ => ⟨by simp, none, 0, rfl, Nat.le_refl _, fun _ => ⟨rfl, rfl⟩, fun _ h => by cases h⟩, fun _ h => by have := h.1; omega⟩
theorem memT {q : Res} {R' : List Res} (h : q ∈ m :: R) (h1 : m ∈ R') (h2 : ∀ x ∈ R, x ∈ R') : q ∈ R' := by
  rcases List.mem_cons.1 h with rfl | h
  · exact h1
  · exact h2 q h
theorem blk_eq {b : Nat} {vs : List Value} {T : TypeId} (h : (blk b vs T).ok w) : w.heap[b]? = some (.cells vs.toArray T (0, 0)) := h
end
/-! The objects of a loop over a function. -/
def obr (D : Nat) (o : Obj) : Res where
  foot := (· = D)
  ok w := w.heap[D]? = some o
  loc w w' h k := by rw [h D rfl]; exact k
  lt w k h hk := by subst hk; exact (Array.getElem?_eq_some_iff.1 h).1
/-- A loop's block for deferred calls. -/
abbrev dres (D : Nat) : Res := obr D (.deferred (some []))
section
variable {F0 : Nat → Prop} {W w w' : World} {M R : List Res} {D : Nat} {o o' : Obj}
theorem Keeps.putObj (w : World) (D : Nat) (o : Obj) : Keeps (· = D) w (w.putObj D o) := ⟨rfl, rfl, rfl, by simp, fun _ _ hn => World.putObj_heap_other hn⟩
theorem Sat.allocO (hs : Sat F0 W M R w) (o : Obj) : Sat F0 W (obr w.heap.size o :: M) R (w.alloc o) := hs.new (.alloc _ _ _) (World.alloc_heap_new w o) fun k hk => Nat.le_of_eq hk.symm
theorem Sat.setO (hs : Sat F0 W (obr D o :: M) R w) (o' : Obj) : Sat F0 W (obr D o' :: M) R (w.putObj D o') :=
  hs.chg (.putObj _ _ _) (World.putObj_heap_same (Array.getElem?_eq_some_iff.1 (hs.okM _ (.head _))).1) fun _ hk => .inl hk
end
theorem Sat.packD {F0 : Nat → Prop} {W w : World} {M R : List Res} {D : Nat} {Ds : List Nat} (hs : Sat F0 W (dres D :: bun (Ds.map dres) :: M) R w) : Sat F0 W (bun ((D :: Ds).map dres) :: M) R w := by
  have h := (hs.up1).unpack
  refine Sat.pack (l := (D :: Ds).map dres) (h.perm ?_)
  rw [List.map_cons, List.cons_append]
  exact List.perm_middle
/-- A closure. -/
theorem w_mkf {P : Program} {G : List (Nat × Value)} {w : World} {d : Option Nat} {T : Nat} {p : String} {e : Array Edge} {g : Option (Nat × Bool)} {k : Nat} {frees : List Operand} {vs : List Value} (hx : evqs G frees = some vs) :
    Wq P G ⟨d, .makeFunc (.func k) #[] frees.toArray, T, p, e, g⟩ (.func (.func k) #[] vs.toArray) w w := fun Ds N a hk => by
  have hev := hk.evals hx
  generalize a.eval = ev at hev
  subst hev
  simp [execOp, Instr.makeFunc, Sem.run_pure, Sem.run_bind, go_sem]
/-! The contract of an iterator. -/
def YP (b : Bool) (A B : Res → Prop) : Res → Prop := match b with | true => A | false => B
/-- What a call of yield gives: the round's own state goes from J i to J (i + 1), or, where the loop is left, to Jx (i + 1). -/
def YieldQ {α : Type} (P : Program) (l : Nat) (encs : α → List Value) (xs : List α) (J Jx : Nat → Res → Prop) (F0 : Nat → Prop) (W : World) (R : List Res) : Prop :=
  ∀ i x, xs[i]? = some x → ∀ (FR j : Res) (w : World), J i j → Sat F0 W [j, FR] R w →
    YieldAt (Fr none) 0 P l (encs x).toArray w fun e w' => ∃ b j', e = .returned (.bool b) ∧ YP b (J (i + 1)) (Jx (i + 1)) j' ∧ Sat F0 W [j', FR] R w'
/-- The function g with the captured values caps yields the elements xs; K: its own state, after so many; RI: what it reads. -/
def IterQ {α : Type} (P : Program) (g : Nat) (caps : List Value) (encs : α → List Value) (xs : List α) (K : Nat → Res → Prop) (RI : Res) : Prop :=
  ∀ (l : Nat) (J Jx : Nat → Res → Prop) (F0 : Nat → Prop) (W : World) (R : List Res), HasR RI R → YieldQ P l encs xs J Jx F0 W R →
    ∀ (FR j k : Res) (w : World), J 0 j → K 0 k → Sat F0 W [j, k, FR] R w →
    Calls P g (.func (.yield l) #[] #[] :: caps).toArray w fun e w' => (∃ v, e = .returned v) ∧ ∃ j' k', Sat F0 W [j', k', FR] R w' ∧ ((J xs.length j' ∧ K xs.length k') ∨ ∃ i, i < xs.length ∧ Jx (i + 1) j' ∧ K (i + 1) k')
/-- A value that may be ranged over. -/
def DenK {α : Type} (P : Program) (v : Value) (encs : α → List Value) (xs : List α) (K : Nat → Res → Prop) (RI : Res) : Prop :=
  ∃ gf caps fn, v = .func (.func gf) #[] (List.toArray caps) ∧ P.funcs[gf]? = some fn ∧ (fn.name != "runtime.NumGoroutine" && fn.body.isSome) = true ∧ IterQ P gf caps encs xs K RI
/-- .. without a state of its own. -/
def Den {α : Type} (P : Program) (v : Value) (encs : α → List Value) (xs : List α) (RI : Res) : Prop := DenK P v encs xs (fun _ r => r = nores) RI
theorem IterQ.mono {α : Type} {P : Program} {g : Nat} {caps : List Value} {encs : α → List Value} {xs : List α} {K : Nat → Res → Prop} {RI RI' : Res} (h : IterQ P g caps encs xs K RI) (hR : HasR RI [RI']) : IterQ P g caps encs xs K RI' :=
  fun l J Jx F0 W R hr => h l J Jx F0 W R (hR.trans hr)
theorem DenK.mono {α : Type} {P : Program} {v : Value} {encs : α → List Value} {xs : List α} {K : Nat → Res → Prop} {RI RI' : Res} (h : DenK P v encs xs K RI) (hR : HasR RI [RI']) : DenK P v encs xs K RI' := by
  obtain ⟨gf, caps, fn, h1, h2, h3, h4⟩ := h
  exact ⟨gf, caps, fn, h1, h2, h3, h4.mono hR⟩
theorem room_fr (r : Option Nat) (n : Nat) : (Fr r).room n := fun _ h => by cases h
theorem roundIn_any {r r' : Option Nat} {n n' : Nat} {P : Program} {l : Nat} {f : FuncId} {tmps : Array Value} {assign body : Code} {w : World} {R : Ending → World → Prop} (h : RoundIn (Fr r) n P l f tmps assign body w R) : RoundIn (Fr r') n' P l f tmps assign body w R :=
  ⟨h.1, fun c cs _ => h.2 c cs (room_fr _ _)⟩
theorem callsIn_any {r : Option Nat} {n : Nat} {P : Program} {f : FuncId} {args : Array Value} {w : World} {R : Ending → World → Prop} (h : Calls P f args w R) : CallsIn (Fr r) n P f args w R := by
  cases r with
  | none => exact callsIn_wide.2 h
  | some l => exact CallsIn.inRound l (callsIn_wide.2 h)
section
variable {α : Type} {r : Option Nat} {n N : Nat} {Ds : List Nat} {P : Program} {ops : Array Oper} {Q : Exit → Act → World → Prop} {rest : List Oper} {G : List (Nat × Value)} {a : Act} {w : World} {v : Value}
  {d T : Nat} {p : String} {e : Array Edge} {g : Option (Nat × Bool)} {F0 : Nat → Prop} {W : World} {M R : List Res}
/-- The call of yield. -/
theorem q_yield {f : Operand} {args : List Operand} {ts : Array TypeId} {l : Nat} {vs : List Value} {encs : α → List Value} {xs : List α} {J Jx : Nat → Res → Prop} {j : Res} (hk : Kn Ds N G a) (hs : Sat F0 W (j :: M) R w) (i : Nat) (x : α) (hf : evq G f = some (.func (.yield l) #[] #[])) (hx : evqs G args = some vs)
    (hY : YieldQ P l encs xs J Jx F0 W R) (hi : xs[i]? = some x) (he : encs x = vs) (hj : J i j) (hd : Nat.ble (d + 1) N = true) (hg : wq ops G g = some true)
    (h : ∀ b j w a, YP b (J (i + 1)) (Jx (i + 1)) j → Kn Ds N ((d, .bool b) :: G) a → Sat F0 W (j :: M) R w → wpListIn (Fr r) n P ops Q rest a w) :
    wpListIn (Fr r) n P ops Q (⟨some d, .call ⟨.value f, args.toArray, ts⟩, T, p, e, g⟩ :: rest) a w := by
  have hw : Region.wanted ⟨some d, .call ⟨.value f, args.toArray, ts⟩, T, p, e, g⟩ (yielded ops a.tmps) = true := wq_wanted hk hg
  obtain ⟨fn, tmps, assign, body, hy, hR⟩ := hY i x hi _ j w hj hs.fr1
  simp only [wpListIn, hw, if_true, Oper.wpIn]
  refine ⟨fun _ _ => trivial, ?_⟩
  have hrun : (execOp a.eval ⟨some d, .call ⟨.value f, args.toArray, ts⟩, T, p, e, g⟩).run P w = .ok (.round l fn tmps assign body) w := by
    rw [he] at hy
    have hev := hk.evals hx
    have hfe := hk.eval hf
    generalize a.eval = ev at hev hfe
    subst hev
    simp only [execOp, resolve, hfe, Deferred.ofValue, invoke, Sem.run_bind, Sem.run_pure, Result.andThen_ok, List.map_toArray]
    simpa using hy
  rw [show Oper.semAt (Fr r).round a.eval _ = _ from Oper.semAt_eq r a.eval _ (by intro c hc; cases hc), hrun]
  refine ⟨(fun h => by cases h), ?_⟩
  refine (roundIn_any hR).mono fun ee w' hq => ?_
  obtain ⟨b, j', rfl, hb, hs'⟩ := hq
  exact h b j' w' _ hb (hk.put hd _) hs'.un1
/-! The statement. -/
/-- The round's frame: the slots of the parameters. -/
def psq : List Nat → List Value → List (Nat × Value) → List (Nat × Value)
  | t :: ts, v :: vs, G => psq ts vs ((t, v) :: G)
  | _, _, G => G
theorem Kn.params : ∀ (ps : List Nat) (vs : List Value) (G : List (Nat × Value)) (tm : Array Value), (ps.all fun t => Nat.ble (t + 1) N) = true → Kn [] N G { tmps := tm, defers := [] } →
    Kn [] N (psq ps vs G) { tmps := (ps.zip vs).foldl (fun t (p, v) => t.setIfInBounds p v) tm, defers := [] }
  | [], vs, G, tm, _, h => by cases vs <;> exact h
  | t :: ts, [], G, tm, _, h => h
  | t :: ts, v :: vs, G, tm, hb, h => by
    rw [List.all_cons, Bool.and_eq_true] at hb
    exact Kn.params ts vs _ _ hb.2 (h.put hb.1 v)
/-- The round may begin. -/
def BR (P : Program) (l : Nat) (K : Act → World → Prop) (a : Act) (w : World) : Prop := ∃ w', (Instr.beginRound l).run P w = .ok () w' ∧ K a w'
/-- LR and LB: the loop's record, ready and busy. -/
structure Lop (P : Program) (l : Nat) (LR LB : Res) : Prop where
  begin_ : ∀ {F0 : Nat → Prop} {W : World} {M R : List Res} {w : World} {K : Act → World → Prop} {a : Act}, Sat F0 W (LR :: M) R w → (∀ w, Sat F0 W (LB :: M) R w → K a w) → BR P l K a w
  rec_ : ∀ w, LB.ok w → ∃ r, w.heap[l]? = some (.loop r)
/-- How a round may be left. -/
def RQ (F0 : Nat → Prop) (W : World) (R : List Res) (J : Nat → Res → Prop) (Jx : Code → Nat → Res → Prop) (LB FR : Res) (i : Nat) : Exit → Act → World → Prop
  | .normal, _, w => ∃ j, J (i + 1) j ∧ Sat F0 W [j, LB, FR] R w
  | .ret, _, w => ∃ j, Jx .ret (i + 1) j ∧ Sat F0 W [j, LB, FR] R w
  | .exit id, _, w => ∃ j, Jx (.exit id) (i + 1) j ∧ Sat F0 W [j, LB, FR] R w
  | .goto t, _, w => ∃ j, Jx (.goto t) (i + 1) j ∧ Sat F0 W [j, LB, FR] R w
  | _, _, _ => False
/-- The rounds, for the iterator: the loop's record goes with what the rounds own. -/
theorem yieldQ_of {l : Nat} {fn : FuncId} {tmps : Array Value} {ps : Array Tmp} {assign body : Code} {D : Nat} {encs : α → List Value} {xs : List α} {J : Nat → Res → Prop} {Jx : Code → Nat → Res → Prop}
    (rec : LoopState → Option Code → Loop) (hrec : rec = fun st pe => { state := st, pending := pe, fn, tmps, params := ps, assign, body, defers := D })
    (hps : ∀ x, (encs x).length = ps.size) (hk : Kn [] N G { tmps := tmps, defers := [] }) (hpb : (ps.toList.all fun t => Nat.ble (t + 1) N) = true)
    (round : ∀ i x, xs[i]? = some x → ∀ LR LB FR : Res, Lop P l LR LB → ∀ j a w, J i j → Kn [] N (psq ps.toList (encs x) G) a → Sat F0 W [j, LR, FR] R w →
      assign.wpIn (Fr (some l)) 0 P (Exit.then (BR P l fun a w => body.wpIn (Fr (some l)) 0 P (RQ F0 W R J Jx LB FR i) a w) (fun _ _ _ => False)) a w) :
    YieldQ P l encs xs (fun i j' => ∃ j, J i j ∧ j' = bun [j, obr l (.loop (rec .ready none))]) (fun i j' => ∃ c j, Jx c i j ∧ j' = bun [j, obr l (.loop (rec .done (some c)))]) F0 W R := by
  rintro i x hi FR j' w ⟨j, hj, rfl⟩ hs
  have hs : Sat F0 W [j, obr l (.loop (rec .ready none)), FR] R w := hs.unpack
  have hl : w.heap[l]? = some (.loop (rec .ready none)) := hs.mi 1 rfl
  have hy := run_yield (P := P) (args := (encs x).toArray) hl (by rw [hrec]; simpa using hps x)
  have hr0 := hrec
  rw [hrec] at hy
  refine ⟨fn, _, assign, body, hy, roundIn_of_wpIn trivial ?_⟩
  clear hy
  have hkn : Kn [] N (psq ps.toList (encs x) G) { tmps := (ps.zip (encs x).toArray).foldl (fun t (p, v) => t.setIfInBounds p v) tmps, defers := [] } := by
    have := Kn.params ps.toList (encs x) G tmps hpb hk
    rw [← Array.foldl_toList, Array.toList_zip]
    exact this
  refine wpIn_mono (round i x hi (obr l (.loop (rec .ready none))) (obr l (.loop { rec .ready none with state := .busy })) FR ⟨fun {F0 W M R w K a} h0 hK => ?_, fun w h => ⟨_, h⟩⟩ j _ w hj hkn hs) ?_
  · have h1 : w.heap[l]? = some (.loop (rec .ready none)) := h0.mi 0 rfl
    exact ⟨_, run_beginRound h1 (by rw [hrec]), hK _ (h0.setO _)⟩
  · rintro ex a2 w2 hq
    cases ex with
    | normal =>
      obtain ⟨w3, hb, hw⟩ := hq
      refine ⟨w3, hb, wpIn_mono hw ?_⟩
      have fin : ∀ (jump : Option Code) (j3 : Res) (w4 : World), Sat F0 W [j3, obr l (.loop { rec .ready none with state := .busy }), FR] R w4 → ∃ w5,
          (Instr.endRound l jump).run P w4 = .ok (.bool jump.isNone) w5 ∧ Sat F0 W [bun [j3, obr l (.loop (rec (if jump.isNone then .ready else .done) jump))], FR] R w5 := fun jump j3 w4 h4 => by
        have h5 : w4.heap[l]? = some (.loop { rec .ready none with state := .busy }) := h4.mi 1 rfl
        have h6 := run_endRound (P := P) jump h5
        refine ⟨_, h6, ?_⟩
        have h7 := (h4.up1.setO (.loop { ({ rec .ready none with state := .busy } : Loop) with state := if jump.isNone then .ready else .done, pending := jump })).up1
        have h8 := Sat.pack (l := [j3, _]) (M := [FR]) h7
        subst hr0
        exact h8
      rintro ex a4 w4 hq4
      cases ex with
      | normal =>
        obtain ⟨j4, hj4, hs4⟩ := hq4
        obtain ⟨w5, h5, h6⟩ := fin none j4 w4 hs4
        exact ⟨_, _, h5, true, _, rfl, ⟨_, hj4, rfl⟩, h6⟩
      | ret =>
        obtain ⟨j4, hj4, hs4⟩ := hq4
        obtain ⟨w5, h5, h6⟩ := fin (some .ret) j4 w4 hs4
        exact ⟨_, _, h5, false, _, rfl, ⟨_, _, hj4, rfl⟩, h6⟩
      | exit id =>
        obtain ⟨j4, hj4, hs4⟩ := hq4
        obtain ⟨w5, h5, h6⟩ := fin (some (.exit id)) j4 w4 hs4
        exact ⟨_, _, h5, false, _, rfl, ⟨_, _, hj4, rfl⟩, h6⟩
      | goto t =>
        obtain ⟨j4, hj4, hs4⟩ := hq4
        obtain ⟨w5, h5, h6⟩ := fin (some (.goto t)) j4 w4 hs4
        exact ⟨_, _, h5, false, _, rfl, ⟨_, _, hj4, rfl⟩, h6⟩
      | panic c => exact hq4.elim
      | outgrown => exact hq4.elim
    | _ => exact hq.elim
/-- An outermost loop over a function. -/
theorem c_range0 {gop : Operand} {ps : Array Tmp} {assign body : Code} {encs : α → List Value} {xs : List α} {K : Nat → Res → Prop} {RI : Res} {j k : Res}
    (hk : Kn Ds N G a) (hs : Sat F0 W (j :: k :: M) R w) (hv : evq G gop = some v) (hD : DenK P v encs xs K RI) (hR : HasR RI R) (hps : ∀ x, (encs x).length = ps.size) (hpb : (ps.toList.all fun t => Nat.ble (t + 1) N) = true)
    (J : Nat → Res → Prop) (Jx : Code → Nat → Res → Prop) (hj : J 0 j) (hK : K 0 k)
    (round : ∀ l i x, xs[i]? = some x → ∀ LR LB FR : Res, Lop P l LR LB → ∀ j a w, J i j → Kn [] N (psq ps.toList (encs x) G) a → Sat F0 W [j, LR, FR] R w →
      assign.wpIn (Fr (some l)) 0 P (Exit.then (BR P l fun a w => body.wpIn (Fr (some l)) 0 P (RQ F0 W R J Jx LB FR i) a w) (fun _ _ _ => False)) a w)
    (done : ∀ D j k a w, J xs.length j → K xs.length k → Kn (D :: Ds) N G a → Sat F0 W (dres D :: j :: k :: M) R w → Q .normal a w)
    (stop : ∀ c D i j k a w, i < xs.length → Jx c (i + 1) j → K (i + 1) k → Kn (D :: Ds) N G a → Sat F0 W (dres D :: j :: k :: M) R w → c.wpIn (Fr none) n P Q a w) :
    (Code.rangeFunc gop ps assign body).wpIn (Fr none) n P Q a w := by
  obtain ⟨gf, caps, fn0, rfl, hfn, hfb, hI⟩ := hD
  rw [Bool.and_eq_true, bne_iff_ne, ne_eq] at hfb
  obtain ⟨hf1, hf2⟩ := hfb
  obtain ⟨c0, hf3⟩ := Option.isSome_iff_exists.1 hf2
  refine wpIn_rangeFunc fun fn _ => ?_
  have hkn : Kn [] N G { tmps := a.tmps, defers := [] } := ⟨rfl, hk.sz, hk.at_⟩
  have hs1 := (hs.allocO (.deferred (some []))).allocO (.loop { state := .ready, pending := none, fn, tmps := a.tmps, params := ps, assign, body, defers := w.heap.size })
  have he := run_enterLoop_outer (P := P) (w := w) fn a.tmps ps assign body
  obtain ⟨w1, hw1⟩ : ∃ w1, (w.alloc (.deferred (some []))).alloc (.loop { state := .ready, pending := none, fn, tmps := a.tmps, params := ps, assign, body, defers := w.heap.size }) = w1 := ⟨_, rfl⟩
  rw [hw1] at he hs1
  refine ⟨w.heap.size + 1, [{ target := .collected w.heap.size, args := #[] }], w1, { target := .fn (.func gf) caps.toArray, args := #[.func (.yield (w.heap.size + 1)) #[] #[]] }, w1, gf,
    (.func (.yield (w.heap.size + 1)) #[] #[] :: caps).toArray, w1, he, ?_, fun _ _ => trivial, ?_, (fun h => by cases h), ?_⟩
  · have := hk.eval hv
    simp only [resolve, this]
    simp [go_sem]
  · simp [invoke, callFunc, Sem.run_bind, run_program, hfn, hf1, hf3, go_sem]
  · have hsz : (w.alloc (.deferred (some []))).heap.size = w.heap.size + 1 := World.size_alloc _ _
    rw [hsz] at hs1
    have hs2 := (Sat.pack (l := [j, _]) hs1.up2).up2.up1.fr2
    refine (callsIn_any (hI _ _ _ F0 W R hR (yieldQ_of (D := w.heap.size) _ rfl hps hkn hpb (round (w.heap.size + 1))) _ _ k _ ⟨j, hj, rfl⟩ hK hs2)).mono ?_
    rintro e w3 ⟨⟨v, rfl⟩, j', k', hs', ⟨⟨j1, hj1, rfl⟩, hk1⟩ | ⟨i, hi, ⟨c, j1, hj1, rfl⟩, hk1⟩⟩
    · have hs3 := (Sat.unpack (l := [j1, _]) hs'.un2).up1
      have hl : w3.heap[w.heap.size + 1]? = _ := hs3.mi 0 rfl
      refine ⟨none, _, run_endLoop hl (by simp), done _ j1 k' _ _ hj1 hk1 ⟨by simp [hk.df], hk.sz, hk.at_⟩ (hs3.setO _).drop.up2⟩
    · have hs3 := (Sat.unpack (l := [j1, _]) hs'.un2).up1
      have hl : w3.heap[w.heap.size + 1]? = _ := hs3.mi 0 rfl
      refine ⟨some c, _, run_endLoop hl (by simp), stop c _ i j1 k' _ _ hi hj1 hk1 ⟨by simp [hk.df], hk.sz, hk.at_⟩ (hs3.setO _).drop.up2⟩
/-- A loop over a function in a round of another one. -/
theorem c_rangeN {gop : Operand} {ps : Array Tmp} {assign body : Code} {encs : α → List Value} {xs : List α} {K : Nat → Res → Prop} {RI : Res} {j k : Res} {l₀ : Nat}
    (hk : Kn Ds N G a) (hs : Sat F0 W (j :: k :: M) R w) (hv : evq G gop = some v) (hD : DenK P v encs xs K RI) (hR : HasR RI R) (hps : ∀ x, (encs x).length = ps.size) (hpb : (ps.toList.all fun t => Nat.ble (t + 1) N) = true) (hl₀ : ∃ r, w.heap[l₀]? = some (.loop r))
    (J : Nat → Res → Prop) (Jx : Code → Nat → Res → Prop) (hj : J 0 j) (hK : K 0 k)
    (round : ∀ l i x, xs[i]? = some x → ∀ LR LB FR : Res, Lop P l LR LB → ∀ j a w, J i j → Kn [] N (psq ps.toList (encs x) G) a → Sat F0 W [j, LR, FR] R w →
      assign.wpIn (Fr (some l)) 0 P (Exit.then (BR P l fun a w => body.wpIn (Fr (some l)) 0 P (RQ F0 W R J Jx LB FR i) a w) (fun _ _ _ => False)) a w)
    (done : ∀ j k a w, J xs.length j → K xs.length k → Kn Ds N G a → Sat F0 W (j :: k :: M) R w → Q .normal a w)
    (stop : ∀ c i j k a w, i < xs.length → Jx c (i + 1) j → K (i + 1) k → Kn Ds N G a → Sat F0 W (j :: k :: M) R w → c.wpIn (Fr (some l₀)) n P Q a w) :
    (Code.rangeFunc gop ps assign body).wpIn (Fr (some l₀)) n P Q a w := by
  obtain ⟨gf, caps, fn0, rfl, hfn, hfb, hI⟩ := hD
  rw [Bool.and_eq_true, bne_iff_ne, ne_eq] at hfb
  obtain ⟨hf1, hf2⟩ := hfb
  obtain ⟨c0, hf3⟩ := Option.isSome_iff_exists.1 hf2
  obtain ⟨r₀, hl₀⟩ := hl₀
  refine wpIn_rangeFunc fun fn _ => ?_
  have hkn : Kn [] N G { tmps := a.tmps, defers := [] } := ⟨rfl, hk.sz, hk.at_⟩
  have hs1 := hs.allocO (.loop { state := .ready, pending := none, fn, tmps := a.tmps, params := ps, assign, body, defers := r₀.defers })
  have he := run_enterLoop_inner (P := P) hl₀ fn a.tmps ps assign body
  obtain ⟨w1, hw1⟩ : ∃ w1, w.alloc (.loop { state := .ready, pending := none, fn, tmps := a.tmps, params := ps, assign, body, defers := r₀.defers }) = w1 := ⟨_, rfl⟩
  rw [hw1] at he hs1
  refine ⟨w.heap.size, [], w1, { target := .fn (.func gf) caps.toArray, args := #[.func (.yield w.heap.size) #[] #[]] }, w1, gf,
    (.func (.yield w.heap.size) #[] #[] :: caps).toArray, w1, he, ?_, fun _ _ => trivial, ?_, (fun h => by cases h), ?_⟩
  · have := hk.eval hv
    simp only [resolve, this]
    simp [go_sem]
  · simp [invoke, callFunc, Sem.run_bind, run_program, hfn, hf1, hf3, go_sem]
  · have hs2 := (Sat.pack (l := [j, _]) hs1.up1).up1.up1.fr2
    refine (callsIn_any (hI _ _ _ F0 W R hR (yieldQ_of (D := r₀.defers) _ rfl hps hkn hpb (round w.heap.size)) _ _ k _ ⟨j, hj, rfl⟩ hK hs2)).mono ?_
    rintro e w3 ⟨⟨v, rfl⟩, j', k', hs', ⟨⟨j1, hj1, rfl⟩, hk1⟩ | ⟨i, hi, ⟨c, j1, hj1, rfl⟩, hk1⟩⟩
    · have hs3 := (Sat.unpack (l := [j1, _]) hs'.un2).up1
      have hl : w3.heap[w.heap.size]? = _ := hs3.mi 0 rfl
      refine ⟨none, _, run_endLoop hl (by simp), done j1 k' _ _ hj1 hk1 ⟨by simp [hk.df], hk.sz, hk.at_⟩ (hs3.setO _).drop⟩
    · have hs3 := (Sat.unpack (l := [j1, _]) hs'.un2).up1
      have hl : w3.heap[w.heap.size]? = _ := hs3.mi 0 rfl
      refine ⟨some c, _, run_endLoop hl (by simp), stop c i j1 k' _ _ hi hj1 hk1 ⟨by simp [hk.df], hk.sz, hk.at_⟩ (hs3.setO _).drop⟩
end
/-! A function that held outermost loops over functions leaves. -/
section
variable {n N : Nat} {Ds : List Nat} {P : Program} {Q : Exit → Act → World → Prop} {G : List (Nat × Value)} {a : Act} {w : World} {F0 : Nat → Prop} {W : World} {M R : List Res}
theorem c_enterM {f : FuncId} {fn : Func} {c : Code} {args : List Value} {R : Ending → World → Prop} (hf : P.funcs[f]? = some fn) (hb : fn.body = some c) (hN : fn.ntmps = N) (hl : Nat.ble args.length N = true)
    (h : ∀ a, Kn [] N (argq 0 args) a → c.wpIn (Fr none) 0 P (bodyPostM (Fr none) 0 P fn R) a w) : Calls P f args.toArray w R := by
  subst hN
  exact callsIn_wide.1 (callsIn_of_wp_marks (n := 0) hf hb trivial (h _ (Kn.begin args _ hl)))
theorem leavesM {fn : Func} {tmps : Array Value} {E : Ending → World → Prop} : ∀ (Ds : List Nat) (w : World), Sat F0 W (Ds.map dres ++ M) R w → (∀ w, Sat F0 W M R w → ∃ v, (results fn tmps).run P w = .ok v w ∧ E (.returned v) w) →
    LeavesInM (Fr none) n P fn tmps E (Ds.map fun D => { target := .collected D, args := #[] }) .returning w
  | [], w, hs, h => h w hs
  | D :: Ds, w, hs, h => by
    have hD : w.heap[D]? = some (.deferred (some [])) := hs.mi 0 rfl
    exact ⟨by simp, .inl ⟨D, _, rfl, run_takeDeferred hD, leavesM Ds _ ((hs : Sat F0 W (obr D _ :: (Ds.map dres ++ M)) R w).setO _).drop h⟩⟩
theorem res_ok {fn : Func} {rs : List ResultVar} {vs : List Value} (hk : Kn Ds N G a) (hr : fn.results = rs.toArray) (h : resq P G w rs vs) : (results fn a.tmps).run P w = .ok (valq vs) w := by
  have h0 := resq_run hk h
  rw [results_eq, hr, Array.mapM_eq_mapM_toList]
  have h1 : (List.toArray <$> rs.toArray.toList.mapM (resF a.tmps) : Sem _).run P w = .ok vs.toArray w := by
    show (rs.mapM (resF a.tmps) >>= fun l => pure l.toArray : Sem _).run P w = _
    rw [Sem.run_bind, h0, Result.andThen_ok]
    rfl
  rw [Sem.run_bind, h1, Result.andThen_ok, Sem.run_pure]
  clear h h0 h1
  match vs with
  | [] => rfl
  | [x] => rfl
  | x :: y :: l => rfl
theorem c_retM {fn : Func} {E : Ending → World → Prop} (hk : Kn Ds N G a) (hs : Sat F0 W (Ds.map dres ++ M) R w) (h : ∀ w, Sat F0 W M R w → ∃ v, (results fn a.tmps).run P w = .ok v w ∧ E (.returned v) w) : bodyPostM (Fr none) n P fn E .ret a w := by
  show LeavesInM _ _ _ _ _ _ a.defers _ _
  rw [hk.df]
  exact leavesM Ds w hs h
theorem c_endM {fn : Func} {E : Ending → World → Prop} (hk : Kn Ds N G a) (hs : Sat F0 W (Ds.map dres ++ M) R w) (h : ∀ w, Sat F0 W M R w → ∃ v, (results fn a.tmps).run P w = .ok v w ∧ E (.returned v) w) : bodyPostM (Fr none) n P fn E .normal a w := c_retM hk hs h
end
end Go.Proofs.YtpggmebgndkpjaaDoor
