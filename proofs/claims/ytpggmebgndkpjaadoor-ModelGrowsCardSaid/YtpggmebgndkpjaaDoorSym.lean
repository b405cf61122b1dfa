/- The walk by triples: what is known of a frame's slots (Kn) and of memory (Sat: blocks of the call's own, and what is only read), and the steps that hand it on. The steps of the walk by triples. The walk by triples: stores, append, structs; the code's forms. The walk by triples: the code's forms; a region that draws its order. Lists that are told by a function, as cells. -/
import Derived.Test.YtpggmebgndkpjaaDoorWalk0
import Derived.Test.YtpggmebgndkpjaaDoorNum
namespace Go.Proofs.YtpggmebgndkpjaaDoor
set_option linter.all false
open Go Go.RowKit

/-- The value of slot t, as a list tells it: the first entry counts. -/
def gq : List (Nat × Value) → Nat → Option Value
  | [], _ => none
  | (k, v) :: r, t => match Nat.beq k t with | true => some v | false => gq r t
def evq (G : List (Nat × Value)) : Operand → Option Value
  | .tmp t => gq G t
  | .const v => some v
  | .global g => some (.pointer (some ⟨g, 0, none⟩))
  | .func f => some (.func (.func f) #[] #[])
def evqs (G : List (Nat × Value)) : List Operand → Option (List Value)
  | [] => some []
  | x :: l => match evq G x with | some v => (match evqs G l with | some vs => some (v :: vs) | none => none) | none => none
/-- A frame of N slots of which the list tells the truth; Ds: the blocks for the deferred calls of loops over functions that it has gone through. -/
structure Kn (Ds : List Nat) (N : Nat) (G : List (Nat × Value)) (a : Act) : Prop where
  df : a.defers = Ds.map fun D => { target := .collected D, args := #[] }
  sz : a.tmps.size = N
  at_ : ∀ t v, gq G t = some v → a.tmps[t]? = some v
section
variable {N : Nat} {G G' : List (Nat × Value)} {a : Act} {Ds : List Nat}
theorem Kn.eval (h : Kn Ds N G a) {x : Operand} {v : Value} (hx : evq G x = some v) : a.eval x = v := by
  cases x with
  | tmp t => simp only [evq] at hx; simp [Act.eval, Array.getD_eq_getD_getElem?, h.at_ t v hx]
  | const u => simpa [evq, Act.eval] using hx
  | global g => simpa [evq, Act.eval] using hx
  | func f => simpa [evq, Act.eval] using hx
theorem Kn.evals (h : Kn Ds N G a) : ∀ {l : List Operand} {vs : List Value}, evqs G l = some vs → l.map a.eval = vs
  | [], vs, hx => by simpa [evqs] using hx
  | x :: l, vs, hx => by
    unfold evqs at hx
    split at hx
    · rename_i v hv
      split at hx
      · rename_i us hu
        cases hx
        rw [List.map_cons, h.eval hv, h.evals hu]
      · cases hx
    · cases hx
theorem Kn.put (h : Kn Ds N G a) {d : Nat} (hd : Nat.ble (d + 1) N = true) (v : Value) : Kn Ds N ((d, v) :: G) (a.put (some d) v) := by
  refine ⟨h.df, by simp [Act.put, h.sz], fun t u ht => ?_⟩
  have hdN := Nat.le_of_ble_eq_true hd
  simp only [Act.put, Array.getElem?_setIfInBounds]
  unfold gq at ht
  split at ht
  · rename_i hb
    have := Nat.eq_of_beq_eq_true hb
    subst this
    cases ht
    rw [if_pos rfl, if_pos (by rw [h.sz]; omega)]
  · rename_i hb
    rw [if_neg (Nat.ne_of_beq_eq_false hb)]
    exact h.at_ t u ht
theorem Kn.put0 (h : Kn Ds N G a) (v : Value) : Kn Ds N G (a.put none v) := h
theorem Kn.nil (h : Kn Ds N G a) : Kn Ds N [] a := ⟨h.df, h.sz, fun t v ht => by cases ht⟩
/-- One entry of another list. -/
theorem Kn.k (h : Kn Ds N G a) {t : Nat} {v : Value} (ht : gq G t = some v) (h' : Kn Ds N G' a) : Kn Ds N ((t, v) :: G') a := by
  refine ⟨h.df, h.sz, fun s u hs => ?_⟩
  unfold gq at hs
  split at hs
  · rename_i hb
    have := Nat.eq_of_beq_eq_true hb
    subst this
    cases hs
    exact h.at_ _ _ ht
  · exact h'.at_ s u hs
theorem Kn.start (args : List Value) (n : Nat) (l : List (Nat × Value)) (hl : ∀ t v, gq l t = some v → args[t]? = some v) (hn : args.length ≤ n) : Kn [] n l { tmps := args.toArray ++ Array.replicate (n - args.toArray.size) undef, defers := [] } := by
  refine ⟨rfl, by simp; omega, fun t v ht => ?_⟩
  have h := hl t v ht
  have hlt := (List.getElem?_eq_some_iff.1 h).1
  rw [Array.getElem?_append_left (by simpa using hlt)]
  simpa using h
end
/-- The list of arguments from slot k on. -/
def argq (k : Nat) : List Value → List (Nat × Value)
  | [] => []
  | v :: l => (k, v) :: argq (k + 1) l
theorem argq_at : ∀ (l : List Value) (k t : Nat) (v : Value), gq (argq k l) t = some v → k ≤ t ∧ l[t - k]? = some v
  | [], k, t, v, h => by cases h
  | u :: l, k, t, v, h => by
    unfold argq gq at h
    split at h
    · rename_i hb
      have := Nat.eq_of_beq_eq_true hb
      subst this
      cases h
      exact ⟨Nat.le_refl _, by simp⟩
    · rename_i hb
      have h1 := argq_at l (k + 1) t v h
      refine ⟨by omega, ?_⟩
      have e : t - k = (t - (k + 1)) + 1 := by omega
      rw [e, List.getElem?_cons_succ]
      exact h1.2
theorem Kn.begin (args : List Value) (n : Nat) (hn : Nat.ble args.length n = true) : Kn [] n (argq 0 args) { tmps := args.toArray ++ Array.replicate (n - args.toArray.size) undef, defers := [] } :=
  Kn.start args n _ (fun t v h => by simpa using (argq_at args 0 t v h).2) (Nat.le_of_ble_eq_true hn)

/-- Of the old blocks only those of S may have been written. -/
structure Keeps (S : Nat → Prop) (w w' : World) : Prop where
  os : w'.os = w.os
  tape : w'.tape = w.tape
  output : w'.output = w.output
  size : w.heap.size ≤ w'.heap.size
  block : ∀ k, k < w.heap.size → ¬ S k → w'.heap[k]? = w.heap[k]?
def no : Nat → Prop := fun _ => False
section
variable {S S' : Nat → Prop} {w w' w'' : World}
theorem Keeps.refl (S : Nat → Prop) (w : World) : Keeps S w w := ⟨rfl, rfl, rfl, Nat.le_refl _, fun _ _ _ => rfl⟩
theorem Keeps.trans (h : Keeps S w w') (k : Keeps S' w' w'') (hS : ∀ i, S' i → i < w.heap.size → S i) : Keeps S w w'' :=
  ⟨k.os.trans h.os, k.tape.trans h.tape, k.output.trans h.output, Nat.le_trans h.size k.size, fun i hi hn => (k.block i (Nat.lt_of_lt_of_le hi h.size) (fun hs => hn (hS i hs hi))).trans (h.block i hi hn)⟩
theorem Keeps.mono (h : Keeps S w w') (hS : ∀ i, S i → i < w.heap.size → S' i) : Keeps S' w w' := ⟨h.os, h.tape, h.output, h.size, fun i hi hn => h.block i hi fun hs => hn (hS i hs hi)⟩
theorem Keeps.below (h : Keeps no w w') : Below w.heap.size w w' := ⟨h.os, h.tape, h.output, h.size, fun k hk => h.block k hk id⟩
theorem Keeps.ofBelow (h : Below w.heap.size w w') : Keeps no w w' := ⟨h.os, h.tape, h.output, h.size, fun k hk _ => h.block k hk⟩
theorem Keeps.drew (S : Nat → Prop) (w : World) : Keeps S w w.drew := ⟨rfl, rfl, rfl, Nat.le_refl _, fun _ _ _ => rfl⟩
theorem Keeps.alloc (S : Nat → Prop) (w : World) (o : Obj) : Keeps S w (w.alloc o) := ⟨rfl, rfl, rfl, by simp, fun k hk _ => Below.heap_alloc w o k hk⟩
theorem Keeps.grown {row : Option Nat} (h : w.grownBy w' row) : Keeps (fun k => some k = row) w w' := ⟨h.os, h.tape, h.output, h.size, fun k hk hn => h.block k hk hn⟩
theorem Keeps.setCell (w : World) (p : Addr) (v : Value) : Keeps (· = p.block) w (w.setCell p v) := ⟨rfl, rfl, rfl, by simp [World.setCell], fun k _ hn => Below.heap_setCell _ _ _ _ hn⟩
end

/-- Something that is known of some blocks of memory. -/
structure Res where
  foot : Nat → Prop
  ok : World → Prop
  loc : ∀ w w', (∀ k, foot k → w'.heap[k]? = w.heap[k]?) → ok w → ok w'
  lt : ∀ w k, ok w → foot k → k < w.heap.size
/-- A block that is known whole. -/
def blk (b : Nat) (vs : List Value) (T : TypeId) : Res where
  foot := (· = b)
  ok w := w.heap[b]? = some (.cells vs.toArray T (0, 0))
  loc w w' h k := by rw [h b rfl]; exact k
  lt w k h hk := by subst hk; exact (Array.getElem?_eq_some_iff.1 h).1
/-- A row of the call's own that grows by append. -/
def row (T : TypeId) (sz : Nat) (v : Value) (n : Nat) (xs : List Value) : Res where
  foot k := v.ownBlock = some k
  ok w := w.ownsRow 0 T sz v n xs
  loc w w' h k := by
    refine ⟨k.1, k.2.imp id fun ⟨g, cap, cur, e, hg, hh, r⟩ => ⟨g, cap, cur, e, hg, ?_, r⟩⟩
    rw [h g (by rw [e]; rfl)]
    exact hh
  lt w k h hk := (h.lt k hk).2
/-- A slice whose n elements of sz cells each read as xs. -/
structure LstAt (w : World) (sz : Nat) (v : Value) (n : Nat) (xs : List Value) : Prop where
  len : xs.length = n * sz
  at_ : ∃ a c, v = .slice a n c ∧ n ≤ c ∧ (a = none → n = 0 ∧ c = 0) ∧ ∀ ad, a = some ad → 0 < n → ad.spot = none ∧ ad.block < w.heap.size ∧ ∀ j u, xs[j]? = some u → w.cell? (ad.add j) = some u
def lst (sz : Nat) (v : Value) (n : Nat) (xs : List Value) : Res where
  foot k := 0 < n ∧ v.ownBlock = some k
  ok w := LstAt w sz v n xs
  loc w w' h k := by
    obtain ⟨hl, a, c, rfl, hc, hn, hx⟩ := k
    refine ⟨hl, a, c, rfl, hc, hn, fun ad e h0 => ?_⟩
    obtain ⟨h1, h2, h3⟩ := hx ad e h0
    have hb := h ad.block ⟨h0, by rw [e]; rfl⟩
    refine ⟨h1, (Array.getElem?_eq_some_iff.1 (hb.trans (Array.getElem?_eq_getElem h2))).1, fun j u hj => ?_⟩
    rw [← h3 j u hj]
    have e2 : (ad.add j).block = ad.block := by unfold Addr.add; split <;> rfl
    exact World.cell?_of_block (by rw [e2]; exact hb)
  lt w k h hk := by
    obtain ⟨hl, a, c, rfl, hc, hn, hx⟩ := h
    obtain ⟨h0, hk⟩ := hk
    cases a with
    | none => cases hk
    | some ad => cases hk; exact (hx ad rfl h0).2.1
/-- What is known of memory: W is the world at the call's begin; M: the blocks that the call may write, R: what is only read; F0: the old blocks that it may write. -/
structure Sat (F0 : Nat → Prop) (W : World) (M R : List Res) (w : World) : Prop where
  keep : Keeps F0 W w
  okM : ∀ m ∈ M, m.ok w
  okR : ∀ r ∈ R, r.ok w
  own : ∀ m ∈ M, ∀ k, m.foot k → W.heap.size ≤ k ∨ F0 k
  dM : M.Pairwise fun m m' => ∀ k, m.foot k → ¬ m'.foot k
  dR : ∀ m ∈ M, ∀ r ∈ R, ∀ k, m.foot k → ¬ r.foot k
section
variable {F0 : Nat → Prop} {W w w' : World} {M R : List Res} {m m0 m1 m2 m3 m' r : Res}
theorem Sat.start (W : World) (R : List Res) (h : ∀ r ∈ R, r.ok W) : Sat no W [] R W :=
  ⟨.refl _ _, fun m h => (by cases h), h, fun m h => (by cases h), .nil, fun m h => (by cases h)⟩
/-- Nothing that is known has been written. -/
theorem Sat.ext (h : Sat F0 W M R w) (hk : Keeps no w w') : Sat F0 W M R w' where
  keep := h.keep.trans hk fun _ hi _ => hi.elim
  okM m hm := m.loc w w' (fun k hf => hk.block k (m.lt w k (h.okM m hm) hf) id) (h.okM m hm)
  okR r hr := r.loc w w' (fun k hf => hk.block k (r.lt w k (h.okR r hr) hf) id) (h.okR r hr)
  own := h.own
  dM := h.dM
  dR := h.dR
/-- The first of M has been written, and is something else now. -/
theorem Sat.chg (h : Sat F0 W (m :: M) R w) (hk : Keeps m.foot w w') (hm' : m'.ok w') (hf : ∀ k, m'.foot k → m.foot k ∨ w.heap.size ≤ k) : Sat F0 W (m' :: M) R w' := by
  have hp := List.pairwise_cons.1 h.dM
  have hsz := h.keep.size
  have k1 : ∀ x ∈ M, ∀ k, x.foot k → w'.heap[k]? = w.heap[k]? := fun x hx k hxk => hk.block k (x.lt w k (h.okM x (.tail _ hx)) hxk) fun hmk => hp.1 x hx k hmk hxk
  have k2 : ∀ x ∈ R, ∀ k, x.foot k → w'.heap[k]? = w.heap[k]? := fun x hx k hxk => hk.block k (x.lt w k (h.okR x hx) hxk) fun hmk => h.dR m (.head _) x hx k hmk hxk
  refine ⟨h.keep.trans hk fun i hi hl => (h.own m (.head _) i hi).resolve_left (by omega), ?_, fun x hx => x.loc w w' (k2 x hx) (h.okR x hx), ?_, ?_, ?_⟩
  · intro x hx
    cases hx with
    | head => exact hm'
    | tail _ hx => exact x.loc w w' (k1 x hx) (h.okM x (.tail _ hx))
  · intro x hx k hxk
    cases hx with
    | head => rcases hf k hxk with h1 | h1
              · exact h.own m (.head _) k h1
              · exact .inl (by omega)
    | tail _ hx => exact h.own x (.tail _ hx) k hxk
  · refine List.pairwise_cons.2 ⟨fun x hx k hk1 hk2 => ?_, hp.2⟩
    rcases hf k hk1 with h1 | h1
    · exact hp.1 x hx k h1 hk2
    · have := x.lt w k (h.okM x (.tail _ hx)) hk2; omega
  · intro x hx r hr k hk1 hk2
    cases hx with
    | head => rcases hf k hk1 with h1 | h1
              · exact h.dR m (.head _) r hr k h1 hk2
              · have := r.lt w k (h.okR r hr) hk2; omega
    | tail _ hx => exact h.dR x (.tail _ hx) r hr k hk1 hk2
/-- Something new. -/
theorem Sat.new (h : Sat F0 W M R w) (hk : Keeps no w w') (hm : m.ok w') (hf : ∀ k, m.foot k → w.heap.size ≤ k) : Sat F0 W (m :: M) R w' := by
  have h' := h.ext hk
  have hsz := h.keep.size
  refine ⟨h'.keep, ?_, h'.okR, ?_, ?_, ?_⟩
  · intro x hx
    cases hx with
    | head => exact hm
    | tail _ hx => exact h'.okM x hx
  · intro x hx k hxk
    cases hx with
    | head => have := hf k hxk; exact .inl (by omega)
    | tail _ hx => exact h.own x hx k hxk
  · exact List.pairwise_cons.2 ⟨fun x hx k hk1 hk2 => by have := x.lt w k (h.okM x hx) hk2; have := hf k hk1; omega, h.dM⟩
  · intro x hx r hr k hk1 hk2
    cases hx with
    | head => have := r.lt w k (h.okR r hr) hk2; have := hf k hk1; omega
    | tail _ hx => exact h.dR x hx r hr k hk1 hk2
/-- Something new that is only read. -/
theorem Sat.newR (h : Sat F0 W M R w) (hk : Keeps no w w') (hr : r.ok w') (hf : ∀ k, r.foot k → w.heap.size ≤ k) : Sat F0 W M (r :: R) w' := by
  have h' := h.ext hk
  refine ⟨h'.keep, h'.okM, ?_, h.own, h.dM, ?_⟩
  · intro x hx
    cases hx with
    | head => exact hr
    | tail _ hx => exact h'.okR x hx
  · intro x hx y hy k hk1 hk2
    cases hy with
    | head => have := x.lt w k (h.okM x hx) hk1; have := hf k hk2; omega
    | tail _ hy => exact h.dR x hx y hy k hk1 hk2
/-- From now on it is only read. -/
theorem Sat.frz (h : Sat F0 W (m :: M) R w) (hr : r.ok w) (hf : ∀ k, r.foot k → m.foot k) : Sat F0 W M (r :: R) w := by
  have hp := List.pairwise_cons.1 h.dM
  refine ⟨h.keep, fun x hx => h.okM x (.tail _ hx), ?_, fun x hx => h.own x (.tail _ hx), hp.2, ?_⟩
  · intro x hx
    cases hx with
    | head => exact hr
    | tail _ hx => exact h.okR x hx
  · intro x hx y hy k hk1 hk2
    cases hy with
    | head => exact hp.1 x hx k (hf k hk2) hk1
    | tail _ hy => exact h.dR x (.tail _ hx) y hy k hk1 hk2
/-- Another thing that is known of what is only read. -/
theorem Sat.dup (h : Sat F0 W M R w) (hr : r.ok w) (hf : ∀ k, r.foot k → ∃ x ∈ R, x.foot k) : Sat F0 W M (r :: R) w := by
  refine ⟨h.keep, h.okM, ?_, h.own, h.dM, ?_⟩
  · intro x hx
    cases hx with
    | head => exact hr
    | tail _ hx => exact h.okR x hx
  · intro x hx y hy k hk1 hk2
    cases hy with
    | head => obtain ⟨z, hz, hzk⟩ := hf k hk2; exact h.dR x hx z hz k hk1 hzk
    | tail _ hy => exact h.dR x hx y hy k hk1 hk2
/-- What lies in old memory may be read. -/
theorem Sat.old (h : Sat no W M R w) (hr : r.ok W) : Sat no W M (r :: R) w := by
  refine ⟨h.keep, h.okM, ?_, h.own, h.dM, ?_⟩
  · intro x hx
    cases hx with
    | head => exact r.loc W w (fun k hf => h.keep.block k (r.lt W k hr hf) id) hr
    | tail _ hx => exact h.okR x hx
  · intro x hx y hy k hk1 hk2
    cases hy with
    | head => rcases h.own x hx k hk1 with h1 | h1
              · have := r.lt W k hr hk2; omega
              · exact h1
    | tail _ hy => exact h.dR x hx y hy k hk1 hk2
theorem Sat.drop (h : Sat F0 W (m :: M) R w) : Sat F0 W M R w :=
  ⟨h.keep, fun x hx => h.okM x (.tail _ hx), h.okR, fun x hx => h.own x (.tail _ hx), (List.pairwise_cons.1 h.dM).2, fun x hx => h.dR x (.tail _ hx)⟩
theorem Sat.dropR (h : Sat F0 W M (r :: R) w) : Sat F0 W M R w :=
  ⟨h.keep, h.okM, fun x hx => h.okR x (.tail _ hx), h.own, h.dM, fun x hx y hy => h.dR x hx y (.tail _ hy)⟩
theorem Sat.subR {R' : List Res} (h : Sat F0 W M R w) (hR : ∀ r ∈ R', r ∈ R) : Sat F0 W M R' w :=
  ⟨h.keep, h.okM, fun x hx => h.okR x (hR x hx), h.own, h.dM, fun x hx y hy => h.dR x hx y (hR y hy)⟩
theorem Sat.perm {M' : List Res} (h : Sat F0 W M R w) (hp : M.Perm M') : Sat F0 W M' R w :=
  ⟨h.keep, fun x hx => h.okM x (hp.mem_iff.2 hx), h.okR, fun x hx => h.own x (hp.mem_iff.2 hx), (hp.pairwise_iff (fun {x y} hxy k h1 h2 => hxy k h2 h1)).1 h.dM, fun x hx => h.dR x (hp.mem_iff.2 hx)⟩
theorem Sat.up1 (h : Sat F0 W (m0 :: m :: M) R w) : Sat F0 W (m :: m0 :: M) R w := h.perm (List.Perm.swap _ _ _)
theorem Sat.up2 (h : Sat F0 W (m0 :: m1 :: m :: M) R w) : Sat F0 W (m :: m0 :: m1 :: M) R w := (h.perm ((List.Perm.swap m m1 M).cons m0)).up1
theorem Sat.up3 (h : Sat F0 W (m0 :: m1 :: m2 :: m :: M) R w) : Sat F0 W (m :: m0 :: m1 :: m2 :: M) R w := (h.perm (((List.Perm.swap m m2 M).cons m1).cons m0)).up2
theorem Sat.up4 (h : Sat F0 W (m0 :: m1 :: m2 :: m3 :: m :: M) R w) : Sat F0 W (m :: m0 :: m1 :: m2 :: m3 :: M) R w := (h.perm ((((List.Perm.swap m m3 M).cons m2).cons m1).cons m0)).up3
theorem Sat.mi (h : Sat F0 W M R w) (i : Nat) (hi : M[i]? = some m) : m.ok w := h.okM m (List.mem_of_getElem? hi)
theorem Sat.ri (h : Sat F0 W M R w) (i : Nat) (hi : R[i]? = some r) : r.ok w := h.okR r (List.mem_of_getElem? hi)
end
end Go.Proofs.YtpggmebgndkpjaaDoor

namespace Go.Proofs.YtpggmebgndkpjaaDoor
set_option linter.all false
open Go Go.RowKit

/-- The wide fence, in a round or not. -/
abbrev Fr (r : Option Nat) : Fence := { fn := fun _ => True, depth := none, alive := false, round := r }
/-- Another value than a defer statement. -/
def nd : Op → Bool | .defer _ => false | _ => true
theorem nd_ne {op : Op} (h : nd op = true) : ∀ c, op ≠ .defer c := fun c e => by rw [e] at h; cases h
/-- Does the guard let the operation be carried out? -/
def wq (ops : Array Oper) (G : List (Nat × Value)) : Option (Nat × Bool) → Option Bool
  | none => some true
  | some (j, b) => match (ops[j]?).bind (·.dst) with
    | some t => match gq G t with | some (.bool x) => some (x == b) | some (.tuple _) => some false | _ => none
    | none => none
theorem wq_wanted {ops : Array Oper} {G : List (Nat × Value)} {Ds : List Nat} {N : Nat} {a : Act} {o : Oper} {x : Bool} (hk : Kn Ds N G a) (h : wq ops G o.guard = some x) : Region.wanted o (yielded ops a.tmps) = x := by
  unfold Region.wanted
  unfold wq at h
  split at h
  · rename_i hg; rw [hg]; simpa using h
  · rename_i j b hg
    rw [hg]
    split at h
    · rename_i t ht
      split at h
      · rename_i y hy
        cases h
        have := hk.at_ t _ hy
        have e : yielded ops a.tmps j = some y := by
          unfold yielded
          simp [ht, this]
        simp only [e]
        cases y <;> cases b <;> rfl
      · rename_i us hy
        cases h
        have := hk.at_ t _ hy
        have e : yielded ops a.tmps j = none := by
          unfold yielded
          simp [ht, this]
        simp only [e]
        cases b <;> rfl
      · cases h
    · cases h
/-- Where the frame is as the list tells, the operation o leaves the value v and the world w'. -/
def Wq (P : Program) (G : List (Nat × Value)) (o : Oper) (v : Value) (w w' : World) : Prop := ∀ Ds N a, Kn Ds N G a → (execOp a.eval o).run P w = .ok (.value v) w'
/-- The same without a value. -/
def Tq (P : Program) (G : List (Nat × Value)) (o : Oper) (w w' : World) : Prop := ∀ Ds N a, Kn Ds N G a → (execOp a.eval o).run P w = .ok .skip w'
section
variable {r : Option Nat} {n N : Nat} {P : Program} {ops : Array Oper} {Q : Exit → Act → World → Prop} {rest : List Oper} {o : Oper} {G : List (Nat × Value)} {a : Act} {w w' : World} {v : Value} {Ds : List Nat}
  {d T : Nat} {op : Op} {p : String} {e : Array Edge} {g : Option (Nat × Bool)}
theorem q_val (hk : Kn Ds N G a) (hy : Wq P G ⟨some d, op, T, p, e, g⟩ v w w') (hd : Nat.ble (d + 1) N = true) (hn : nd op = true) (hg : wq ops G g = some true)
    (h : ∀ a, Kn Ds N ((d, v) :: G) a → wpListIn (Fr r) n P ops Q rest a w') : wpListIn (Fr r) n P ops Q (⟨some d, op, T, p, e, g⟩ :: rest) a w := by
  have hw : Region.wanted ⟨some d, op, T, p, e, g⟩ (yielded ops a.tmps) = true := wq_wanted hk hg
  simp only [wpListIn, hw, if_true, Oper.wpIn]
  refine ⟨fun _ _ => trivial, ?_⟩
  rw [show Oper.semAt (Fr r).round a.eval _ = _ from Oper.semAt_eq r a.eval _ (nd_ne hn), hy Ds N a hk]
  exact h _ (hk.put hd v)
theorem q_none (hk : Kn Ds N G a) (hy : Wq P G ⟨none, op, T, p, e, g⟩ v w w') (hn : nd op = true) (hg : wq ops G g = some true)
    (h : wpListIn (Fr r) n P ops Q rest a w') : wpListIn (Fr r) n P ops Q (⟨none, op, T, p, e, g⟩ :: rest) a w := by
  have hw : Region.wanted ⟨none, op, T, p, e, g⟩ (yielded ops a.tmps) = true := wq_wanted hk hg
  simp only [wpListIn, hw, if_true, Oper.wpIn]
  refine ⟨fun _ _ => trivial, ?_⟩
  rw [show Oper.semAt (Fr r).round a.eval _ = _ from Oper.semAt_eq r a.eval _ (nd_ne hn), hy Ds N a hk]
  exact h
theorem q_st (hk : Kn Ds N G a) (hy : Tq P G ⟨none, op, T, p, e, g⟩ w w') (hn : nd op = true) (hg : wq ops G g = some true)
    (h : wpListIn (Fr r) n P ops Q rest a w') : wpListIn (Fr r) n P ops Q (⟨none, op, T, p, e, g⟩ :: rest) a w := by
  have hw : Region.wanted ⟨none, op, T, p, e, g⟩ (yielded ops a.tmps) = true := wq_wanted hk hg
  simp only [wpListIn, hw, if_true, Oper.wpIn]
  refine ⟨fun _ _ => trivial, ?_⟩
  rw [show Oper.semAt (Fr r).round a.eval _ = _ from Oper.semAt_eq r a.eval _ (nd_ne hn), hy Ds N a hk]
  exact h
theorem about_none (o : Oper) : ∀ f, o.about P w a.eval = some f → (Fr r).fn f := fun _ _ => trivial
theorem q_skip (hk : Kn Ds N G a) (hd : Nat.ble (d + 1) N = true) (hg : wq ops G g = some false)
    (h : ∀ a, Kn Ds N ((d, undef) :: G) a → wpListIn (Fr r) n P ops Q rest a w) : wpListIn (Fr r) n P ops Q (⟨some d, op, T, p, e, g⟩ :: rest) a w := by
  have hw : Region.wanted ⟨some d, op, T, p, e, g⟩ (yielded ops a.tmps) = false := wq_wanted hk hg
  simp only [wpListIn, hw]
  exact ⟨fun _ _ => trivial, h _ (hk.put hd undef)⟩
theorem q_skip0 (hk : Kn Ds N G a) (hg : wq ops G g = some false) (h : wpListIn (Fr r) n P ops Q rest a w) : wpListIn (Fr r) n P ops Q (⟨none, op, T, p, e, g⟩ :: rest) a w := by
  have hw : Region.wanted ⟨none, op, T, p, e, g⟩ (yielded ops a.tmps) = false := wq_wanted hk hg
  simp only [wpListIn, hw]
  exact ⟨fun _ _ => trivial, h⟩
/-- The call of a function value. -/
theorem exec_call {f : Operand} {args : List Operand} {ts : Array TypeId} {k : Nat} {caps vs : List Value} {fn : Func} {ev : Operand → Value} (hf : ev f = .func (.func k) #[] caps.toArray) (hx : args.map ev = vs) (hfn : P.funcs[k]? = some fn) (hb : (fn.name != "runtime.NumGoroutine" && fn.body.isSome) = true) (w : World) :
    (execOp ev ⟨some d, .call ⟨.value f, args.toArray, ts⟩, T, p, e, g⟩).run P w = .ok (.enter k (vs ++ caps).toArray) w := by
  subst hx
  rw [Bool.and_eq_true, bne_iff_ne, ne_eq] at hb
  obtain ⟨h1, h2⟩ := hb
  obtain ⟨c, h3⟩ := Option.isSome_iff_exists.1 h2
  simp [execOp, resolve, hf, Deferred.ofValue, invoke, callFunc, Sem.run_bind, run_program, Result.andThen_ok, hfn, h1, h3, go_sem]
theorem q_call {f : Operand} {args : List Operand} {ts : Array TypeId} {k : Nat} {caps vs : List Value} {fn : Func} {R : Ending → World → Prop} (hk : Kn Ds N G a) (hf : evq G f = some (.func (.func k) #[] caps.toArray)) (hx : evqs G args = some vs)
    (hfn : P.funcs[k]? = some fn) (hb : (fn.name != "runtime.NumGoroutine" && fn.body.isSome) = true) (hd : Nat.ble (d + 1) N = true) (hg : wq ops G g = some true)
    (hC : Calls P k (vs ++ caps).toArray w R) (h : ∀ ee w', R ee w' → ∃ v, ee = .returned v ∧ ∀ a, Kn Ds N ((d, v) :: G) a → wpListIn (Fr r) n P ops Q rest a w') :
    wpListIn (Fr r) n P ops Q (⟨some d, .call ⟨.value f, args.toArray, ts⟩, T, p, e, g⟩ :: rest) a w := by
  have hw : Region.wanted ⟨some d, .call ⟨.value f, args.toArray, ts⟩, T, p, e, g⟩ (yielded ops a.tmps) = true := wq_wanted hk hg
  simp only [wpListIn, hw, if_true, Oper.wpIn]
  refine ⟨fun _ _ => trivial, ?_⟩
  rw [show Oper.semAt (Fr r).round a.eval _ = _ from Oper.semAt_eq r a.eval _ (by intro c hc; cases hc), exec_call (hk.eval hf) (hk.evals hx) hfn hb]
  refine ⟨(fun h => by cases h), ?_⟩
  have hC' : CallsIn (Fr r) (n - 1) P k (vs ++ caps).toArray w R := by
    cases r with
    | none => exact callsIn_wide.2 hC
    | some l => exact CallsIn.inRound l (callsIn_wide.2 hC)
  refine hC'.mono fun ee w' hR => ?_
  obtain ⟨v, rfl, hK⟩ := h ee w' hR
  exact hK _ (hk.put hd v)
end

theorem Wq.of1 {P : Program} {G : List (Nat × Value)} {o : Oper} {v : Value} {w w' : World} {x : Operand} {u : Value} (hx : evq G x = some u) (h : ∀ ev : Operand → Value, ev x = u → (execOp ev o).run P w = .ok (.value v) w') : Wq P G o v w w' :=
  fun _ _ _ hk => h _ (hk.eval hx)
theorem Wq.of2 {P : Program} {G : List (Nat × Value)} {o : Oper} {v : Value} {w w' : World} {x y : Operand} {u u' : Value} (hx : evq G x = some u) (hy : evq G y = some u') (h : ∀ ev : Operand → Value, ev x = u → ev y = u' → (execOp ev o).run P w = .ok (.value v) w') : Wq P G o v w w' :=
  fun _ _ _ hk => h _ (hk.eval hx) (hk.eval hy)
/-! Values that leave the world alone. -/
section
variable {P : Program} {G : List (Nat × Value)} {w : World} {v v' : Value} {d : Option Nat} {T : Nat} {p : String} {e : Array Edge} {g : Option (Nat × Bool)} {x y c : Operand} {tx ty : TypeId}
theorem w_mv (hx : evq G x = some v) : Wq P G ⟨d, .move x, T, p, e, g⟩ v w w := .of1 hx fun ev h => by simp [execOp, h, Sem.run_pure]
theorem w_as (hx : evq G x = some v) : Wq P G ⟨d, .assign x, T, p, e, g⟩ v w w := .of1 hx fun ev h => by simp [execOp, h, Sem.run_pure]
theorem w_pickT (hc : evq G c = some (.bool true)) (hx : evq G x = some v) : Wq P G ⟨d, .pick c x y, T, p, e, g⟩ v w w := .of2 hc hx fun ev h1 h2 => by simp [execOp, h1, h2, asBool, Sem.run_pure, go_sem]
theorem w_pickF (hc : evq G c = some (.bool false)) (hx : evq G y = some v) : Wq P G ⟨d, .pick c x y, T, p, e, g⟩ v w w := .of2 hc hx fun ev h1 h2 => by simp [execOp, h1, h2, asBool, Sem.run_pure, go_sem]
theorem w_nilC {b : Addr} (hx : evq G x = some (.pointer (some b))) : Wq P G ⟨d, .nilCheck x, T, p, e, g⟩ (.pointer (some b)) w w := .of1 hx fun ev h => by simp [execOp, h, Sem.run_pure]
theorem w_ext {vs : List Value} {i : Nat} (hx : evq G x = some (.tuple vs.toArray)) (hi : vs[i]? = some v) : Wq P G ⟨d, .extract x i, T, p, e, g⟩ v w w := .of1 hx fun ev h => by simp [execOp, h, Instr.extract, hi, Sem.run_pure, go_sem]
/-! Whole numbers. -/
section
variable {k : IntKind} {a b r : Int}
theorem w_add (hx : evq G x = some (.int k a)) (hy : evq G y = some (.int k b)) (hr : k.wrap (a + b) = r) : Wq P G ⟨d, .binOp .add tx x y ty, T, p, e, g⟩ (.int k r) w w := .of2 hx hy fun ev h1 h2 => by simp [execOp, h1, h2, binOp, Op.intArith, hr, Sem.run_pure, go_sem]
theorem w_sub (hx : evq G x = some (.int k a)) (hy : evq G y = some (.int k b)) (hr : k.wrap (a - b) = r) : Wq P G ⟨d, .binOp .sub tx x y ty, T, p, e, g⟩ (.int k r) w w := .of2 hx hy fun ev h1 h2 => by simp [execOp, h1, h2, binOp, Op.intArith, hr, Sem.run_pure, go_sem]
theorem w_mul (hx : evq G x = some (.int k a)) (hy : evq G y = some (.int k b)) (hr : k.wrap (a * b) = r) : Wq P G ⟨d, .binOp .mul tx x y ty, T, p, e, g⟩ (.int k r) w w := .of2 hx hy fun ev h1 h2 => by simp [execOp, h1, h2, binOp, Op.intArith, hr, Sem.run_pure, go_sem]
theorem w_quo (hx : evq G x = some (.int k a)) (hy : evq G y = some (.int k b)) (hb : b ≠ 0) (hr : k.wrap (a.tdiv b) = r) : Wq P G ⟨d, .binOp .quo tx x y ty, T, p, e, g⟩ (.int k r) w w := .of2 hx hy fun ev h1 h2 => by simp [execOp, h1, h2, binOp, Op.intDiv, hb, hr, Sem.run_pure, go_sem]
theorem w_rem (hx : evq G x = some (.int k a)) (hy : evq G y = some (.int k b)) (hb : b ≠ 0) (hr : a.tmod b = r) : Wq P G ⟨d, .binOp .rem tx x y ty, T, p, e, g⟩ (.int k r) w w := .of2 hx hy fun ev h1 h2 => by simp [execOp, h1, h2, binOp, Op.intDiv, hb, hr, Sem.run_pure, go_sem]
variable {t : Bool}
theorem w_lt (hx : evq G x = some (.int k a)) (hy : evq G y = some (.int k b)) (hr : decide (a < b) = t) : Wq P G ⟨d, .binOp .lss tx x y ty, T, p, e, g⟩ (.bool t) w w := .of2 hx hy fun ev h1 h2 => by simp [execOp, h1, h2, binOp, Op.intCmp, hr, Sem.run_pure, go_sem]
theorem w_le (hx : evq G x = some (.int k a)) (hy : evq G y = some (.int k b)) (hr : decide (a ≤ b) = t) : Wq P G ⟨d, .binOp .leq tx x y ty, T, p, e, g⟩ (.bool t) w w := .of2 hx hy fun ev h1 h2 => by simp [execOp, h1, h2, binOp, Op.intCmp, hr, Sem.run_pure, go_sem]
theorem w_gt (hx : evq G x = some (.int k a)) (hy : evq G y = some (.int k b)) (hr : decide (b < a) = t) : Wq P G ⟨d, .binOp .gtr tx x y ty, T, p, e, g⟩ (.bool t) w w := .of2 hx hy fun ev h1 h2 => by simp [execOp, h1, h2, binOp, Op.intCmp, hr, Sem.run_pure, go_sem]
theorem w_ge (hx : evq G x = some (.int k a)) (hy : evq G y = some (.int k b)) (hr : decide (b ≤ a) = t) : Wq P G ⟨d, .binOp .geq tx x y ty, T, p, e, g⟩ (.bool t) w w := .of2 hx hy fun ev h1 h2 => by simp [execOp, h1, h2, binOp, Op.intCmp, hr, Sem.run_pure, go_sem]
theorem w_eq (hx : evq G x = some (.int k a)) (hy : evq G y = some (.int k b)) (hr : decide (a = b) = t) : Wq P G ⟨d, .binOp .eql tx x y ty, T, p, e, g⟩ (.bool t) w w := .of2 hx hy fun ev h1 h2 => by
  have hr' : (a == b) = t := by rw [← hr]; rfl
  simp [execOp, h1, h2, binOp, Op.intCmp, eqGuard, hr', Sem.run_pure, go_sem]
theorem w_ne (hx : evq G x = some (.int k a)) (hy : evq G y = some (.int k b)) (hr : decide (a ≠ b) = t) : Wq P G ⟨d, .binOp .neq tx x y ty, T, p, e, g⟩ (.bool t) w w := .of2 hx hy fun ev h1 h2 => by
  have hr' : (a != b) = t := by rw [← hr]; by_cases h : a = b <;> simp [h]
  simp [execOp, h1, h2, binOp, Op.intCmp, eqGuard, hr', Sem.run_pure, go_sem]
theorem w_conv {k' : IntKind} (hx : evq G x = some (.int k a)) (hs : P.underlying tx = some (.int k)) (ht : P.underlying ty = some (.int k')) (hr : k'.wrap a = r) : Wq P G ⟨d, .convert tx ty x, T, p, e, g⟩ (.int k' r) w w := .of1 hx fun ev h => by
  simp [execOp, h, convert, run_underlying hs, run_underlying ht, Conv.intToInt, hr, Sem.run_pure, go_sem]
end
theorem wr64 {a : Int} (h1 : -9223372036854775808 ≤ a) (h2 : a ≤ 9223372036854775807) : IntKind.i64.wrap a = a := IntWalk.i64_in a ⟨h1, h2⟩
theorem w_not {t : Bool} (hx : evq G x = some (.bool t)) : Wq P G ⟨d, .unOp .not tx x, T, p, e, g⟩ (.bool !t) w w := .of1 hx fun ev h => by simp [execOp, h, Op.unary, Sem.run_pure, go_sem]
theorem w_len {n c : Nat} {a : Option Addr} {te : TypeId} (hx : evq G x = some (.slice a n c)) (ht : P.underlying tx = some (.slice te)) : Wq P G ⟨d, .call ⟨.builtin .len, #[x], #[tx]⟩, T, p, e, g⟩ (.int .i64 n) w w := .of1 hx fun ev h => by
  simp [execOp, h, resolve, invoke, builtin, Builtin.len_, run_underlying ht, goInt, Sem.run_pure, go_sem]
theorem w_lens {s : ByteArray} (hx : evq G x = some (.string s)) (ht : P.underlying tx = some .string) : Wq P G ⟨d, .call ⟨.builtin .len, #[x], #[tx]⟩, T, p, e, g⟩ (.int .i64 s.size) w w := .of1 hx fun ev h => by
  simp [execOp, h, resolve, invoke, builtin, Builtin.len_, run_underlying ht, goInt, Sem.run_pure, go_sem]
theorem w_cap {n c : Nat} {a : Option Addr} {te : TypeId} (hx : evq G x = some (.slice a n c)) (ht : P.underlying tx = some (.slice te)) : Wq P G ⟨d, .call ⟨.builtin .cap, #[x], #[tx]⟩, T, p, e, g⟩ (.int .i64 c) w w := .of1 hx fun ev h => by
  simp [execOp, h, resolve, invoke, builtin, Builtin.cap_, run_underlying ht, goInt, Sem.run_pure, go_sem]
theorem w_min {k : IntKind} {a b r : Int} (hx : evq G x = some (.int k a)) (hy : evq G y = some (.int k b)) (hr : min a b = r) : Wq P G ⟨d, .call ⟨.builtin .min, #[x, y], #[tx, ty]⟩, T, p, e, g⟩ (.int k r) w w := .of2 hx hy fun ev h1 h2 => by
  have e1 : (if b < a then b else a) = r := by rw [← hr]; split <;> omega
  simp [execOp, h1, h2, resolve, invoke, builtin, Builtin.min_, Builtin.min2, e1, Sem.run_pure, go_sem]
theorem w_max {k : IntKind} {a b r : Int} (hx : evq G x = some (.int k a)) (hy : evq G y = some (.int k b)) (hr : max a b = r) : Wq P G ⟨d, .call ⟨.builtin .max, #[x, y], #[tx, ty]⟩, T, p, e, g⟩ (.int k r) w w := .of2 hx hy fun ev h1 h2 => by
  have e1 : (if b > a then b else a) = r := by rw [← hr]; split <;> omega
  simp [execOp, h1, h2, resolve, invoke, builtin, Builtin.max_, Builtin.max2, e1, Sem.run_pure, go_sem]
/-! Types: is it of several parts, how many cells, how many bytes; its zero. -/
def aggd : TypeDesc → Bool | .struct _ => true | .array _ _ => true | _ => false
def tq (P : Program) (T : TypeId) : Option (Bool × Nat × Nat) := match P.info? T, P.underlying T with | some i, some d => some (aggd d, i.size, i.bytes) | _, _ => none
def zq (P : Program) (T : TypeId) : Option Value := (P.info? T).bind (·.zero)
theorem tq_agg {b : Bool} {s n : Nat} (h : tq P T = some (b, s, n)) : (isAgg T).run P w = .ok b w := by
  unfold tq at h
  split at h
  · rename_i i dd hi hd
    cases h
    unfold isAgg
    rw [Sem.run_bind, run_underlying hd, Result.andThen_ok]
    cases dd <;> rfl
  · cases h
theorem tq_size {b : Bool} {s n : Nat} (h : tq P T = some (b, s, n)) : (sizeOf T).run P w = .ok s w := by
  unfold tq at h
  split at h
  · rename_i i dd hi hd
    cases h
    simp [sizeOf, typeInfo, Sem.run_bind, run_program, hi, Sem.run_pure, go_sem]
  · cases h
theorem zq_zero {z : Value} (h : zq P T = some z) : (zeroValue T).run P w = .ok z w := by
  unfold zq at h
  rw [Option.bind_eq_some_iff] at h
  obtain ⟨i, hi, hz⟩ := h
  simp [zeroValue, typeInfo, Sem.run_bind, run_program, hi, hz, Sem.run_pure, go_sem]
/-- From address p on the cells xs lie. -/
def CellsAt (w : World) (q : Addr) (xs : List Value) : Prop := ∀ j u, xs[j]? = some u → w.cell? (q.add j) = some u
theorem add_add {q : Addr} (hs : q.spot = none) (i j : Nat) : (q.add i).add j = q.add (i + j) := by
  unfold Addr.add
  by_cases hi : i = 0
  · subst hi; simp
  · by_cases hj : j = 0
    · subst hj; simp
    · rw [if_neg hj, if_neg hi, if_neg (by omega)]; simp [Nat.add_assoc]
theorem add_pos {b o j : Nat} : (⟨b, o, none⟩ : Addr).add j = ⟨b, o + j, none⟩ := by unfold Addr.add; split <;> simp_all
theorem CellsAt.blk {b o n : Nat} {vs xs : List Value} {T : TypeId} (h : (blk b vs T).ok w) (hx : (vs.drop o).take n = xs) : CellsAt w ⟨b, o, none⟩ xs := fun j u hj => by
  rw [add_pos, cell_of_row w b (o + j) _ _ _ h]
  subst hx
  rw [List.getElem?_take] at hj
  split at hj
  · rw [List.getElem?_drop] at hj; simpa using hj
  · cases hj
theorem CellsAt.lst {sz n c k : Nat} {ad : Addr} {ws xs : List Value} (h : LstAt w sz (.slice (some ad) n c) n xs) (hx : (xs.drop (k * sz)).take sz = ws) : CellsAt w (ad.add (k * sz)) ws := fun j u hj => by
  have hlen := h.len
  obtain ⟨a, c', he, _, _, h⟩ := h.at_
  cases he
  subst hx
  rw [List.getElem?_take] at hj
  split at hj
  · rw [List.getElem?_drop] at hj
    have hlt := (List.getElem?_eq_some_iff.1 hj).1
    obtain ⟨h1, h2, h3⟩ := h ad rfl (by rcases Nat.eq_zero_or_pos n with rfl | h0; · rw [hlen, Nat.zero_mul] at hlt; omega
                                        · exact h0)
    rw [add_add h1]
    exact h3 _ _ hj
  · cases hj
theorem w_ldA {q : Addr} {tt : TypeId} {s n : Nat} {xs : List Value} (hx : evq G x = some (.pointer (some q))) (ht : tq P tt = some (true, s, n)) (hc : CellsAt w q xs) (hs : xs.length = s) : Wq P G ⟨d, .load tt x, T, p, e, g⟩ (.agg xs.toArray) w w := .of1 hx fun ev h => by
  subst hs
  simp only [execOp, h, Instr.loadAt, Instr.sureAddr, Sem.run_bind, Sem.run_pure, Result.andThen_ok, loadVar, tq_agg ht, tq_size ht, if_true]
  rw [run_loadCells_list w q xs hc]
  rfl
theorem w_ld1 {q : Addr} {tt : TypeId} {s n : Nat} {v : Value} (hx : evq G x = some (.pointer (some q))) (ht : tq P tt = some (false, s, n)) (hc : CellsAt w q [v]) : Wq P G ⟨d, .load tt x, T, p, e, g⟩ v w w := .of1 hx fun ev h => by
  have h0 := hc 0 v rfl
  rw [show q.add 0 = q from rfl] at h0
  simp [execOp, h, Instr.loadAt, Instr.sureAddr, Sem.run_bind, Sem.run_pure, Result.andThen_ok, loadVar, tq_agg ht, load, Sem.run, h0]
/-- The place of a field. -/
def fq (P : Program) (S : TypeId) (i : Nat) : Option (TypeId × Nat) := match P.underlying S with | some (.struct fs) => (fs[i]?).map fun f => (f.type, f.offset) | _ => none
theorem w_fa {q : Addr} {i off s n : Nat} {ft : TypeId} {b : Bool} (hx : evq G x = some (.pointer (some q))) (hf : fq P tx i = some (ft, off)) (ht : tq P ft = some (b, s + 1, n)) : Wq P G ⟨d, .fieldAddr tx x i, T, p, e, g⟩ (.pointer (some (q.add off))) w w := .of1 hx fun ev h => by
  unfold fq at hf
  split at hf
  · rename_i fs hu
    rw [Option.map_eq_some_iff] at hf
    obtain ⟨f, hf1, hf2⟩ := hf
    cases hf2
    simp [execOp, h, Instr.fieldAt, Instr.sureAddr, Sem.run_bind, Sem.run_pure, Result.andThen_ok, run_underlying hu, hf1, fieldPlace, tq_size ht]
  · cases hf
theorem w_fld {vs ws : List Value} {i off s n : Nat} {ft : TypeId} (hx : evq G x = some (.agg vs.toArray)) (hf : fq P tx i = some (ft, off)) (ht : tq P ft = some (true, s, n)) (hw : (vs.drop off).take s = ws) : Wq P G ⟨d, .field tx x i, T, p, e, g⟩ (.agg ws.toArray) w w := .of1 hx fun ev h => by
  unfold fq at hf
  split at hf
  · rename_i fs hu
    rw [Option.map_eq_some_iff] at hf
    obtain ⟨f, hf1, hf2⟩ := hf
    cases hf2
    subst hw
    have e1 : (vs.toArray.extract f.offset (f.offset + s)) = ((vs.drop f.offset).take s).toArray := by
      simp [List.extract_eq_take_drop]
    simp [execOp, h, Instr.field, asAgg, Sem.run_bind, Sem.run_pure, Result.andThen_ok, run_underlying hu, hf1, part, tq_agg ht, tq_size ht, e1]
  · cases hf
theorem w_fld1 {vs : List Value} {i off s n : Nat} {ft : TypeId} (hx : evq G x = some (.agg vs.toArray)) (hf : fq P tx i = some (ft, off)) (ht : tq P ft = some (false, s, n)) (hw : vs[off]? = some v) : Wq P G ⟨d, .field tx x i, T, p, e, g⟩ v w w := .of1 hx fun ev h => by
  unfold fq at hf
  split at hf
  · rename_i fs hu
    rw [Option.map_eq_some_iff] at hf
    obtain ⟨f, hf1, hf2⟩ := hf
    cases hf2
    simp [execOp, h, Instr.field, asAgg, Sem.run_bind, Sem.run_pure, Result.andThen_ok, run_underlying hu, hf1, part, tq_agg ht, hw]
  · cases hf
theorem w_ia {q : Addr} {n c s nb k : Nat} {i : Int} {te : TypeId} {b : Bool} {kd : IntKind} (hx : evq G x = some (.slice (some q) n c)) (hy : evq G y = some (.int kd i)) (hu : P.underlying tx = some (.slice te)) (ht : tq P te = some (b, s, nb)) (hi : i = (k : Int)) (hk : k < n) :
    Wq P G ⟨d, .indexAddr tx x y, T, p, e, g⟩ (.pointer (some (q.add (k * s)))) w w := .of2 hx hy fun ev h1 h2 => by
  subst hi
  have h3 : (k : Int) < (n : Int) := by omega
  simp [execOp, h1, h2, Instr.indexAt, asIntOf, Sem.run_bind, Sem.run_pure, Result.andThen_ok, run_underlying hu, hk, tq_size ht]
theorem w_iaA {q : Addr} {n s nb k : Nat} {i : Int} {te : TypeId} {b : Bool} {kd : IntKind} (hx : evq G x = some (.pointer (some q))) (hy : evq G y = some (.int kd i)) (hu : P.underlying tx = some (.array n te)) (ht : tq P te = some (b, s, nb)) (hi : i = (k : Int)) (hk : k < n) :
    Wq P G ⟨d, .indexAddr tx x y, T, p, e, g⟩ (.pointer (some (q.add (k * s)))) w w := .of2 hx hy fun ev h1 h2 => by
  subst hi
  have h3 : (k : Int) < (n : Int) := by omega
  simp [execOp, h1, h2, Instr.indexAt, Instr.sureAddr, asIntOf, Sem.run_bind, Sem.run_pure, Result.andThen_ok, run_underlying hu, hk, tq_size ht]
theorem w_ixs {s : ByteArray} {k : Nat} {i : Int} {kd : IntKind} (hx : evq G x = some (.string s)) (hy : evq G y = some (.int kd i)) (hu : P.underlying tx = some .string) (hi : i = (k : Int)) (hk : k < s.size) :
    Wq P G ⟨d, .index tx x y, T, p, e, g⟩ (.int .u8 (s[k]'hk).toNat) w w := .of2 hx hy fun ev h1 h2 => by
  subst hi
  simp [execOp, h1, h2, Instr.index, asIntOf, Sem.run_bind, Sem.run_pure, Result.andThen_ok, run_underlying hu, hk]
end
section
variable {P : Program} {G : List (Nat × Value)} {w : World} {v v' : Value} {d : Option Nat} {T : Nat} {p : String} {e : Array Edge} {g : Option (Nat × Bool)} {x y c : Operand} {tx ty : TypeId}
  {F0 : Nat → Prop} {W : World} {M R : List Res}
/-! What makes memory. -/
theorem Sat.alloc {vs : List Value} {t : TypeId} (hs : Sat F0 W M R w) : Sat F0 W (blk w.heap.size vs t :: M) R (w.alloc (.cells vs.toArray t)) :=
  hs.new (.alloc _ _ _) (heap_alloc_new w _) fun k hk => Nat.le_of_eq hk.symm
theorem w_box (hx : evq G x = some v) : Wq P G ⟨d, .box tx x, T, p, e, g⟩ (.pointer (some ⟨w.heap.size, 0, none⟩)) w (w.alloc (.cells v.cells tx)) := .of1 hx fun ev h => by
  simp [execOp, h, Instr.box, newVar, newRow, Sem.run_bind, Sem.run_pure, Result.andThen_ok, go_sem]
theorem w_alc {z : Value} (hz : zq P tx = some z) : Wq P G ⟨d, .alloc tx, T, p, e, g⟩ (.pointer (some ⟨w.heap.size, 0, none⟩)) w (w.alloc (.cells z.cells tx)) := fun Ds N a hk => by
  simp [execOp, Instr.alloc, newVar, newRow, Sem.run_bind, Sem.run_pure, Result.andThen_ok, zq_zero hz, go_sem]
/-- A list of cells, splice by splice. -/
theorem foldl_splice : ∀ (cs : List Value) (o j : Nat) (acc : Array Value), o + j + cs.length ≤ acc.size →
    (cs.zipIdx j).foldl (fun (a : Array Value) (x : Value × Nat) => a.setIfInBounds (o + x.2) x.1) acc = (acc.toList.take (o + j) ++ cs ++ acc.toList.drop (o + j + cs.length)).toArray
  | [], o, j, acc, h => by simp
  | c :: cs, o, j, acc, h => by
    rw [List.zipIdx_cons, List.foldl_cons, foldl_splice cs o (j + 1) _ (by simp at h ⊢; omega)]
    simp only [List.length_cons] at h
    apply Array.ext'
    simp only [Array.toList_setIfInBounds]
    rw [show o + (j + 1) = o + j + 1 by omega, List.take_succ_eq_append_getElem (by simp; omega), List.take_set_of_le (by omega), List.drop_set_of_lt (by omega)]
    simp only [List.append_assoc, List.length_cons, List.cons_append]
    rw [show o + j + 1 + cs.length = o + j + (cs.length + 1) by omega]
    simp
theorem fill_flat (s : Nat) : ∀ (els : List Value) (k : Nat) (acc : Array Value), (∀ u ∈ els, u.cells.size = s) → k * s + els.length * s ≤ acc.size →
    Instr.fill (fun i => some (i * s, s)) acc ((els.zipIdx k).map fun x => (x.2, x.1)) = some (acc.toList.take (k * s) ++ els.flatMap (·.cells.toList) ++ acc.toList.drop (k * s + els.length * s)).toArray
  | [], k, acc, _, _ => by simp [Instr.fill]
  | u :: els, k, acc, h1, h2 => by
    have hu := h1 u (.head _)
    have hl : (u :: els).length * s = s + els.length * s := by rw [List.length_cons, Nat.succ_mul, Nat.add_comm]
    rw [hl] at h2
    rw [List.zipIdx_cons, List.map_cons, Instr.fill]
    simp only [hu, ne_eq, not_true_eq_false, decide_false, Bool.false_or]
    rw [if_neg (by simp only [decide_eq_true_eq]; omega), ← Array.foldl_toList, Array.toList_zipIdx, foldl_splice u.cells.toList (k * s) 0 acc (by rw [Array.length_toList, hu]; omega),
      fill_flat s els (k + 1) _ (fun x hx => h1 x (.tail _ hx)) (by simp [Nat.succ_mul, hu]; omega)]
    congr 2
    simp only [Nat.succ_mul, Nat.add_zero, List.flatMap_cons, Array.length_toList, hu, hl]
    rw [List.take_append_of_le_length (by simp [hu]; omega), List.take_of_length_le (by simp [hu]; omega)]
    rw [List.drop_append, List.drop_eq_nil_of_le (by simp [hu]; omega)]
    simp only [List.length_append, List.length_take, Array.length_toList, hu, List.drop_drop, List.nil_append, List.append_assoc]
    congr 3
    congr 1
    omega
theorem w_bsl {els : List Operand} {vs : List Value} {len s nb : Nat} {b : Bool} {te : TypeId} {z : Value} (hx : evqs G els = some vs) (hu : P.underlying tx = some (.slice te)) (ht : tq P te = some (b, s, nb)) (hz : zq P te = some z) (hl : len = vs.length) (hzs : Nat.beq z.cells.size s = true) (h1 : vs.all (fun u => Nat.beq u.cells.size s) = true) (h24 : Nat.ble (len * s) 16777216 = true) :
    Wq P G ⟨d, .buildSlice tx len ((els.zipIdx.map fun x => (x.2, x.1)).toArray), T, p, e, g⟩ (.slice (some ⟨w.heap.size, 0, none⟩) len len) w (w.alloc (.cells (vs.flatMap (·.cells.toList)).toArray te)) := fun Ds N a hk => by
  have hes := hk.evals hx
  have hall : ∀ u ∈ vs, u.cells.size = s := fun u hu => Nat.eq_of_beq_eq_true (List.all_eq_true.1 h1 u hu)
  have hzs' := Nat.eq_of_beq_eq_true hzs
  have h24' := Nat.le_of_ble_eq_true h24
  generalize a.eval = ev at hes
  have hp : ((els.zipIdx.map fun x => (x.2, x.1)).toArray.map fun (x : Nat × Operand) => (x.1, ev x.2)) = ((vs.zipIdx 0).map fun x => (x.2, x.1)).toArray := by
    subst hes
    rw [List.map_toArray, List.zipIdx_map, List.map_map, List.map_map]
    rfl
  have hfl := fill_flat s vs 0 ((Array.range (len * s)).map (z.cells[· % z.cells.size]!)) hall (by simp [hl])
  have hfz := fill_flat s vs 0 (#[] : Array Value) hall
  simp only [execOp, Instr.buildSlice, Sem.run_bind, Sem.run_pure, Result.andThen_ok, run_underlying hu, tq_size ht]
  rw [if_neg (by omega)]
  by_cases h0 : len * s = 0
  · have hnil : (vs.flatMap (·.cells.toList)) = [] := by
      rcases Nat.mul_eq_zero.1 h0 with h | h
      · have : vs = [] := List.eq_nil_of_length_eq_zero (by omega)
        subst this; rfl
      · rw [List.flatMap_eq_nil_iff]
        intro u hu
        have := hall u hu
        rw [h] at this
        simpa using this
    have hfz' := hfz (by simp [← hl, h0])
    rw [hnil] at hfz' ⊢
    simp only [List.take_nil, List.drop_nil, List.append_nil] at hfz'
    generalize hF : Instr.fill (fun i => some (i * s, s)) (#[] : Array Value) ((vs.zipIdx 0).map fun x => (x.2, x.1)) = F at hfz'
    subst hfz'
    simp only [h0, if_true, hp, Sem.run_bind, Sem.run_pure, Result.andThen_ok]
    have hr : ∀ f : Nat → Value, Array.map f (Array.range 0) = #[] := fun f => by apply Array.ext'; simp [Array.toList_range]
    rw [hr, hF]
    simp [newRow, go_sem]
  · simp only [Nat.zero_mul, List.take_zero, List.nil_append, Nat.zero_add, ← hl] at hfl
    rw [List.drop_eq_nil_of_le (by simp)] at hfl
    simp only [List.append_nil] at hfl
    simp only [h0, if_false, Sem.run_bind, Sem.run_pure, Result.andThen_ok, zq_zero hz, hp, hfl]
    generalize (vs.flatMap (·.cells.toList)).toArray = F
    simp [newRow, go_sem]
end
end Go.Proofs.YtpggmebgndkpjaaDoor

namespace Go.Proofs.YtpggmebgndkpjaaDoor
set_option linter.all false
open Go Go.RowKit

/-- Each is a value of one cell. -/
def ones (l : List Value) : Bool := l.all Value.oneCell'
theorem ones_spec {l : List Value} (h : ones l = true) : ∀ u ∈ l, u.oneCell' = true := fun u hu => List.all_eq_true.1 h u hu
theorem ones_app {l m : List Value} (h : ones l = true) (h' : ones m = true) : ones (l ++ m) = true := by simp [ones] at *; exact ⟨h, h'⟩
section
variable {P : Program} {G : List (Nat × Value)} {w : World} {v v' : Value} {d : Option Nat} {T : Nat} {p : String} {e : Array Edge} {g : Option (Nat × Bool)} {x y c : Operand} {tx ty : TypeId}
  {F0 : Nat → Prop} {W : World} {M R : List Res}
/-- Cells written into the first block. -/
theorem Sat.setRow {b : Nat} {vs vs' : List Value} {t : TypeId} (hs : Sat F0 W (blk b vs t :: M) R w) : Sat F0 W (blk b vs' t :: M) R (w.setRow b vs'.toArray) := by
  have h0 := hs.okM _ (.head _)
  refine hs.chg ⟨rfl, rfl, rfl, by simp [World.setRow], fun k _ hn => setRow_other w b k _ hn⟩ (setRow_heap w b _ _ _ _ h0) fun k hk => .inl hk
theorem t_st {b o : Nat} {q : Addr} {vs cs vs' : List Value} {tt t : TypeId} {ab : Bool} {s nb : Nat} (hs : Sat F0 W (blk b vs t :: M) R w) (hx : evq G x = some (.pointer (some q))) (hq : q = ⟨b, o, none⟩) (hy : evq G y = some v) (ht : tq P tt = some (ab, s, nb))
    (hc : v.cells = cs.toArray) (hl : Nat.beq cs.length s = true) (h1 : ones cs = true) (hb : Nat.ble (o + s) vs.length = true) (hv : vs.take o ++ cs ++ vs.drop (o + s) = vs') : Tq P G ⟨none, .store tt x y, T, p, e, g⟩ w (w.setRow b vs'.toArray) := fun Ds N a hk => by
  have e1 := hk.eval hx
  have e2 := hk.eval hy
  generalize a.eval = ev at e1 e2
  subst hq
  have hl' := Nat.eq_of_beq_eq_true hl
  have hb := Nat.le_of_ble_eq_true hb
  have hst := run_storeCells_at P b o t cs 0 vs.toArray w (hs.okM _ (.head _)) (by simp [hl']; omega) (ones_spec h1)
  rw [show o + 0 = o from rfl, hl', List.toList_toArray, hv] at hst
  have hsz : v.cells.size = s := by rw [hc]; simpa using hl'
  simp only [execOp, e1, e2, Instr.storeAt, Instr.sureAddr, storeVar, Sem.run_bind, Sem.run_pure, Result.andThen_ok, tq_size ht]
  rw [if_neg (by simp [hsz]), hc, List.toList_toArray, hst]
  rfl
/-- The value of a row that may grow is a slice. -/
theorem row_val {sz n : Nat} {t : TypeId} {xs : List Value} (h : (row t sz v n xs).ok w) : ∃ a c, v = .slice a n c := by
  rcases h.2 with ⟨rfl, rfl⟩ | ⟨g, cap, cur, rfl, _⟩
  · exact ⟨_, _, rfl⟩
  · exact ⟨_, _, rfl⟩
theorem row_len {sz n : Nat} {t : TypeId} {xs : List Value} (h : (row t sz v n xs).ok w) : xs.length = n * sz := h.1
/-- A row that may grow reads as a slice. -/
theorem row_lst {sz n : Nat} {t : TypeId} {xs : List Value} (h : (row t sz v n xs).ok w) : LstAt w sz v n xs := by
  refine ⟨h.1, ?_⟩
  rcases h.2 with ⟨rfl, rfl⟩ | ⟨gg, cap, cur, rfl, _, hh, hc, _⟩
  · exact ⟨none, 0, rfl, Nat.le_refl _, fun _ => ⟨rfl, rfl⟩, fun ad h _ => by cases h⟩
  · exact ⟨some ⟨gg, 0, none⟩, cap, rfl, hc, (fun h => by cases h), fun ad ha _ => by cases ha; exact ⟨rfl, (Array.getElem?_eq_some_iff.1 hh).1, World.ownsRow.cells h rfl⟩⟩
theorem tz_info {t : TypeId} {ab : Bool} {s nb : Nat} {z : Value} (ht : tq P t = some (ab, s, nb)) (hz : zq P t = some z) : ∃ i, P.info? t = some i ∧ i.zero = some z ∧ i.size = s ∧ i.bytes = nb := by
  unfold zq at hz
  rw [Option.bind_eq_some_iff] at hz
  obtain ⟨i, hi, hz⟩ := hz
  unfold tq at ht
  rw [hi] at ht
  split at ht
  · rename_i i' d' h1 h2
    cases h1
    cases ht
    exact ⟨i, hi, hz, rfl, rfl⟩
  · cases ht
/-- append to a row: what comes lies in the row's own block, or in a new one. -/
theorem app_own {t ty te : TypeId} {i : TypeInfo} {z : Value} {s nb n m cc : Nat} {xs news : List Value} {ad : Addr} (ho : w.ownsRow 0 te s v n xs)
    (hu : P.underlying t = some (.slice te)) (hi : P.info? te = some i) (hiz : i.zero = some z) (his : i.size = s) (hib : i.bytes = nb) (hzs : z.cells.size = s) (hs0 : 0 < s) (hc : CellsAt w ad news) (hl : news.length = m * s) (h1 : ones news = true) (hb : (n + m) * nb ≤ 140737488355328) (h63 : n + m ≤ maxLen) :
    ∃ v' w', (Builtin.append_ #[t, t] ty #[v, .slice (some ad) m cc]).run P w = .ok v' w' ∧ w'.ownsRow 0 te s v' (n + m) (xs ++ news) ∧ w.grownBy w' v.ownBlock ∧ ∀ k, v'.ownBlock = some k → v.ownBlock = some k ∨ w.heap.size ≤ k := by
  obtain ⟨v', w', hr, ho', hg, _⟩ := run_append_own (P := P) w 0 t ty te i z s nb hu hi hiz his hib hzs hs0 v n xs ho ad m cc news hl hc (ones_spec h1) h63 hb (Nat.zero_le _)
  refine ⟨v', w', hr, ho', hg, ?_⟩
  subst his
  have h63' : n + m ≤ 9223372036854775807 := by unfold maxLen at h63; omega
  rcases ho.2 with ⟨rfl, rfl⟩ | ⟨g, cap, cur, rfl, _, hh, hcap, _, hcs, _⟩
  · have hx : xs = [] := List.eq_nil_of_length_eq_zero (by simpa using ho.1)
    subst hx
    obtain ⟨v2, w2, hr2, ho2, _, _⟩ := run_append_own (P := P) w w.heap.size t ty te i z i.size nb hu hi hiz rfl hib hzs hs0 _ 0 [] (World.ownsRow_nil w _ te i.size) ad m cc news hl hc (ones_spec h1) h63 hb (Nat.le_refl _)
    rw [hr] at hr2
    cases hr2
    exact fun k hk => .inr (ho2.lt k hk).1
  · by_cases hroom : n + m ≤ cap
    · have hr2 := run_append_room (P := P) w t ty te i hu hi g n cap cur hh ad m cc news hl hc (ones_spec h1) hroom (by rw [hl, hcs, ← Nat.add_mul]; exact Nat.mul_le_mul_right _ hroom)
      rw [hr] at hr2
      cases hr2
      exact fun k hk => .inl hk
    · have hr2 := run_append_grow (P := P) w t ty te i z hu hi hiz ⟨g, 0, none⟩ n cap xs ho.1 (ho.cells (g := g) rfl) ad m cc news hl hc (by omega) (by omega) (growslice_fits (by omega) (by rw [hib]; exact hb))
      rw [hr] at hr2
      cases hr2
      exact fun k hk => .inr (by cases hk; exact Nat.le_refl _)
/-- append to the first row. -/
theorem w_app {t te : TypeId} {ab : Bool} {s nb n m cc : Nat} {z : Value} {xs news : List Value} {ad : Addr} (hs : Sat F0 W (row te s v n xs :: M) R w) (hx : evq G x = some v) (hy : evq G y = some (.slice (some ad) m cc))
    (hu : P.underlying t = some (.slice te)) (ht : tq P te = some (ab, s, nb)) (hz : zq P te = some z) (hzs : Nat.beq z.cells.size s = true) (hs0 : Nat.blt 0 s = true) (hc : CellsAt w ad news) (hl : news.length = m * s) (h1 : ones news = true) (hb : (n + m) * nb ≤ 140737488355328) (h63 : n + m ≤ 9223372036854775807) :
    ∃ a' c' w', Wq P G ⟨d, .call ⟨.builtin .append, #[x, y], #[t, t]⟩, T, p, e, g⟩ (.slice a' (n + m) c') w w' ∧ Sat F0 W (row te s (.slice a' (n + m) c') (n + m) (xs ++ news) :: M) R w' := by
  obtain ⟨i, hi, hiz, his, hib⟩ := tz_info ht hz
  obtain ⟨v', w', hr, ho, hg, hown⟩ := app_own (P := P) (ty := T) (hs.okM _ (.head _)) hu hi hiz his hib (Nat.eq_of_beq_eq_true hzs) (by have := Nat.le_of_ble_eq_true hs0; omega) hc hl h1 hb (by unfold maxLen; omega) (cc := cc)
  obtain ⟨a', c', rfl⟩ := row_val (w := w') (t := te) (sz := s) (n := n + m) (xs := xs ++ news) ho
  refine ⟨a', c', w', .of2 hx hy fun ev h1 h2 => ?_, hs.chg ((Keeps.grown hg).mono fun k hk _ => hk.symm) ho hown⟩
  simp only [execOp, resolve, invoke, builtin, Sem.run_bind, Sem.run_pure, Result.andThen_ok, List.map_toArray, List.map_cons, List.map_nil, h1, h2, hr]
/-- append of nothing. -/
theorem w_app0 {t te : TypeId} {ab : Bool} {s nb n : Nat} {xs : List Value} {z : Value} (ho : (row te s v n xs).ok w) (hx : evq G x = some v) (hy : evq G y = some (.slice none 0 0)) (hu : P.underlying t = some (.slice te)) (ht : tq P te = some (ab, s, nb)) (hz : zq P te = some z) :
    Wq P G ⟨d, .call ⟨.builtin .append, #[x, y], #[t, t]⟩, T, p, e, g⟩ v w w := by
  obtain ⟨i, hi, _⟩ := tz_info ht hz
  refine .of2 hx hy fun ev h1 h2 => ?_
  simp only [execOp, resolve, invoke, builtin, Sem.run_bind, Sem.run_pure, Result.andThen_ok, List.map_toArray, List.map_cons, List.map_nil, h1, h2, run_append_owned_none (P := P) w 0 t T te i s hu hi v n xs ho]
theorem row_nil (w : World) (t : TypeId) (sz : Nat) : (row t sz (.slice none 0 0) 0 []).ok w := World.ownsRow_nil w 0 t sz
/-- A row that holds nothing yet. -/
theorem Sat.row0 (hs : Sat F0 W M R w) (t : TypeId) (sz : Nat) : Sat F0 W (row t sz (.slice none 0 0) 0 [] :: M) R w :=
  hs.new (.refl _ _) (row_nil w t sz) fun k hk => by cases hk
/-! Structs and arrays that are put together. -/
/-- Offset and size of the fields. -/
def flq (P : Program) (S : TypeId) : Option (List (Nat × Nat)) := match P.underlying S with
  | some (.struct fs) => fs.toList.mapM fun f => (P.info? f.type).map fun i => (f.offset, i.size)
  | _ => none
theorem run_mapM_opt {α : Type} (P : Program) (w : World) (fs : List α) (F : α → Sem (Nat × Nat)) (f : α → Option (Nat × Nat)) (hF : ∀ x y, f x = some y → (F x).run P w = .ok y w) : ∀ l, fs.mapM f = some l → (fs.mapM F).run P w = .ok l w := by
  induction fs with
  | nil => intro l h; cases h; rfl
  | cons x fs ih =>
    intro l h
    rw [List.mapM_cons] at h ⊢
    cases hx : f x with
    | none => rw [hx] at h; cases h
    | some y =>
      rw [hx] at h
      cases hl : fs.mapM f with
      | none => rw [hl] at h; cases h
      | some l' =>
        rw [hl] at h
        cases h
        rw [Sem.run_bind, hF x y hx, Result.andThen_ok, Sem.run_bind, ih l' hl, Result.andThen_ok]
        rfl
def fillq (l : List (Nat × Nat)) (cells : List Value) : List (Nat × Value) → Option (List Value)
  | [] => some cells
  | (i, v) :: r => match l[i]? with
    | none => none
    | some (o, s) => if Nat.beq v.cells.size s && Nat.ble (o + s) cells.length then fillq l (cells.take o ++ v.cells.toList ++ cells.drop (o + s)) r else none
theorem fillq_fill (l : List (Nat × Nat)) : ∀ (ps : List (Nat × Value)) (cells cs : List Value), fillq l cells ps = some cs → Instr.fill (fun i => l[i]?) cells.toArray ps = some cs.toArray
  | [], cells, cs, h => by cases h; rfl
  | (i, v) :: r, cells, cs, h => by
    unfold fillq at h
    split at h
    · cases h
    · rename_i o s hi
      split at h
      · rename_i hb
        rw [Bool.and_eq_true] at hb
        have h1 := Nat.eq_of_beq_eq_true hb.1
        have h2 := Nat.le_of_ble_eq_true hb.2
        unfold Instr.fill
        simp only [hi]
        rw [if_neg (by simp [h1]; omega), ← Array.foldl_toList, Array.toList_zipIdx, foldl_splice v.cells.toList o 0 cells.toArray (by simp [h1]; omega)]
        simp only [Nat.add_zero, Array.length_toList, h1, List.toList_toArray]
        exact fillq_fill l r _ cs h
      · cases h
def partsq (G : List (Nat × Value)) : List (Nat × Operand) → Option (List (Nat × Value))
  | [] => some []
  | (i, x) :: r => match evq G x with | some v => (match partsq G r with | some l => some ((i, v) :: l) | none => none) | none => none
theorem partsq_eval {Ds : List Nat} {N : Nat} {a : Act} (hk : Kn Ds N G a) : ∀ {l : List (Nat × Operand)} {ps : List (Nat × Value)}, partsq G l = some ps → l.map (fun x => (x.1, a.eval x.2)) = ps
  | [], ps, h => by cases h; rfl
  | (i, x) :: r, ps, h => by
    unfold partsq at h
    split at h
    · rename_i v hv
      split at h
      · rename_i l hl
        cases h
        rw [List.map_cons, partsq_eval hk hl, hk.eval hv]
      · cases h
    · cases h
theorem w_bld {l : List (Nat × Operand)} {ps : List (Nat × Value)} {fl : List (Nat × Nat)} {z : Value} {zs cs : List Value} (hp : partsq G l = some ps) (hf : flq P tx = some fl) (hz : zq P tx = some z) (hzs : z.cells = zs.toArray) (hc : fillq fl zs ps = some cs) :
    Wq P G ⟨d, .build tx l.toArray, T, p, e, g⟩ (.agg cs.toArray) w w := fun Ds N a hk => by
  have hev := partsq_eval hk hp
  generalize a.eval = ev at hev
  unfold flq at hf
  split at hf
  · rename_i fs hu
    have hm := run_mapM_opt P w fs.toList (fun f => do pure (f.offset, ← sizeOf f.type)) _ (fun f y hy => by
      rw [Option.map_eq_some_iff] at hy
      obtain ⟨i, hi, rfl⟩ := hy
      simp [sizeOf, typeInfo, Sem.run_bind, run_program, hi, Sem.run_pure, go_sem]) fl hf
    have hm' : (fs.mapM fun f => do pure (f.offset, ← sizeOf f.type) : Sem (Array (Nat × Nat))).run P w = .ok fl.toArray w := by
      rw [Array.mapM_eq_mapM_toList]
      show (fs.toList.mapM _ >>= fun l => pure l.toArray : Sem _).run P w = _
      rw [Sem.run_bind, hm, Result.andThen_ok]
      rfl
    have hfl := fillq_fill fl ps zs cs hc
    have hpl : (l.toArray.map fun (x : Nat × Operand) => (x.1, ev x.2)) = ps.toArray := by rw [List.map_toArray, hev]
    simp only [execOp, Instr.build, Sem.run_bind, Sem.run_pure, Result.andThen_ok, run_underlying hu, zq_zero hz, hzs, hpl]
    rw [hm']
    simp only [Result.andThen_ok]
    rw [show (fun (i : Nat) => fl.toArray[i]?) = fun i => fl[i]? from by funext i; simp, hfl]
    rfl
  · cases hf
end
/-! Steps that turn the world, with what is known behind them. -/
section
variable {r : Option Nat} {n N : Nat} {P : Program} {ops : Array Oper} {Q : Exit → Act → World → Prop} {rest : List Oper} {G : List (Nat × Value)} {a : Act} {w w' : World} {v : Value} {Ds : List Nat}
  {d T : Nat} {p : String} {e : Array Edge} {g : Option (Nat × Bool)} {x y : Operand} {tx t te : TypeId} {F0 : Nat → Prop} {W : World} {M R : List Res} {vs cs vs' xs news : List Value} {ab : Bool} {s nb m cc : Nat} {z : Value}
theorem q_box (hk : Kn Ds N G a) (hs : Sat F0 W M R w) (hx : evq G x = some v) (hc : v.cells = vs.toArray) (hd : Nat.ble (d + 1) N = true) (hg : wq ops G g = some true)
    (h : ∀ b w a, Kn Ds N ((d, .pointer (some ⟨b, 0, none⟩)) :: G) a → Sat F0 W (blk b vs tx :: M) R w → wpListIn (Fr r) n P ops Q rest a w) : wpListIn (Fr r) n P ops Q (⟨some d, .box tx x, T, p, e, g⟩ :: rest) a w :=
  q_val hk (w_box hx) hd rfl hg fun a hk => h _ _ a hk (by rw [hc]; exact hs.alloc)
theorem q_alc (hk : Kn Ds N G a) (hs : Sat F0 W M R w) (hz : zq P tx = some z) (hc : z.cells = vs.toArray) (hd : Nat.ble (d + 1) N = true) (hg : wq ops G g = some true)
    (h : ∀ b w a, Kn Ds N ((d, .pointer (some ⟨b, 0, none⟩)) :: G) a → Sat F0 W (blk b vs tx :: M) R w → wpListIn (Fr r) n P ops Q rest a w) : wpListIn (Fr r) n P ops Q (⟨some d, .alloc tx, T, p, e, g⟩ :: rest) a w :=
  q_val hk (w_alc hz) hd rfl hg fun a hk => h _ _ a hk (by rw [hc]; exact hs.alloc)
theorem q_bsl {els : List Operand} {len : Nat} (hk : Kn Ds N G a) (hs : Sat F0 W M R w) (hx : evqs G els = some vs) (hu : P.underlying tx = some (.slice te)) (ht : tq P te = some (ab, s, nb)) (hz : zq P te = some z) (hl : Nat.beq len vs.length = true) (hzs : Nat.beq z.cells.size s = true) (h1 : vs.all (fun u => Nat.beq u.cells.size s) = true)
    (h24 : Nat.ble (len * s) 16777216 = true) (hc : vs.flatMap (·.cells.toList) = cs) (hd : Nat.ble (d + 1) N = true) (hg : wq ops G g = some true)
    (h : ∀ b w a, Kn Ds N ((d, .slice (some ⟨b, 0, none⟩) len len) :: G) a → Sat F0 W (blk b cs te :: M) R w → wpListIn (Fr r) n P ops Q rest a w) :
    wpListIn (Fr r) n P ops Q (⟨some d, .buildSlice tx len ((els.zipIdx.map fun x => (x.2, x.1)).toArray), T, p, e, g⟩ :: rest) a w :=
  q_val hk (w_bsl hx hu ht hz (Nat.eq_of_beq_eq_true hl) hzs h1 h24) hd rfl hg fun a hk => h _ _ a hk (by rw [hc]; exact hs.alloc)
theorem q_sto {b o : Nat} {q : Addr} {tt : TypeId} (hk : Kn Ds N G a) (hs : Sat F0 W (blk b vs t :: M) R w) (hx : evq G x = some (.pointer (some q))) (hq : q = ⟨b, o, none⟩) (hy : evq G y = some v) (ht : tq P tt = some (ab, s, nb))
    (hc : v.cells = cs.toArray) (hl : Nat.beq cs.length s = true) (h1 : ones cs = true) (hb : Nat.ble (o + s) vs.length = true) (hv : vs.take o ++ cs ++ vs.drop (o + s) = vs') (hg : wq ops G g = some true)
    (h : ∀ w, Sat F0 W (blk b vs' t :: M) R w → wpListIn (Fr r) n P ops Q rest a w) : wpListIn (Fr r) n P ops Q (⟨none, .store tt x y, T, p, e, g⟩ :: rest) a w :=
  q_st hk (t_st hs hx hq hy ht hc hl h1 hb hv) rfl hg (h _ hs.setRow)
theorem q_app {k : Nat} {ad : Addr} (hk : Kn Ds N G a) (hs : Sat F0 W (row te s v k xs :: M) R w) (hx : evq G x = some v) (hy : evq G y = some (.slice (some ad) m cc))
    (hu : P.underlying t = some (.slice te)) (ht : tq P te = some (ab, s, nb)) (hz : zq P te = some z) (hzs : Nat.beq z.cells.size s = true) (hs0 : Nat.blt 0 s = true) (hc : CellsAt w ad news) (hl : news.length = m * s) (h1 : ones news = true) (hb : (k + m) * nb ≤ 140737488355328) (h63 : k + m ≤ 9223372036854775807)
    (hd : Nat.ble (d + 1) N = true) (hg : wq ops G g = some true)
    (h : ∀ a' c' w a, Kn Ds N ((d, .slice a' (k + m) c') :: G) a → Sat F0 W (row te s (.slice a' (k + m) c') (k + m) (xs ++ news) :: M) R w → wpListIn (Fr r) n P ops Q rest a w) :
    wpListIn (Fr r) n P ops Q (⟨some d, .call ⟨.builtin .append, #[x, y], #[t, t]⟩, T, p, e, g⟩ :: rest) a w := by
  obtain ⟨a', c', w', hq, hs'⟩ := w_app (d := some d) (T := T) (p := p) (e := e) (g := g) (P := P) (cc := cc) hs hx hy hu ht hz hzs hs0 hc hl h1 hb h63
  exact q_val hk hq hd rfl hg fun a hk => h a' c' w' a hk hs'
end
section
variable {F0 : Nat → Prop} {W w w' : World} {M R R' : List Res} {x x' : Res}
/-- Behind a call that left the worlds's old blocks alone: what it gives. -/
theorem Sat.call0 (hs : Sat F0 W M R w) (h : Sat no w [] R' w') : Sat F0 W M R w' := hs.ext h.keep
theorem Sat.call1 (hs : Sat F0 W M R w) (h : Sat no w [x] R' w') : Sat F0 W (x :: M) R w' :=
  hs.new h.keep (h.okM _ (.head _)) fun k hk => (h.own _ (.head _) k hk).resolve_right id
theorem Sat.call2 (hs : Sat F0 W M R w) (h : Sat no w [x, x'] R' w') : Sat F0 W (x :: x' :: M) R w' := by
  have h1 : Sat F0 W (x' :: M) R w' := hs.new h.keep (h.okM _ (.tail _ (.head _))) fun k hk => (h.own _ (.tail _ (.head _)) k hk).resolve_right id
  have h0 : Sat F0 W M R w' := hs.ext h.keep
  refine ⟨h1.keep, ?_, h1.okR, ?_, ?_, ?_⟩
  · intro y hy
    cases hy with
    | head => exact h.okM _ (.head _)
    | tail _ hy => exact h1.okM y hy
  · intro y hy k hk
    cases hy with
    | head => have := (h.own _ (.head _) k hk).resolve_right id; have := hs.keep.size; exact .inl (by omega)
    | tail _ hy => exact h1.own y hy k hk
  · refine List.pairwise_cons.2 ⟨fun y hy k h1k h2k => ?_, h1.dM⟩
    cases hy with
    | head => exact (List.pairwise_cons.1 h.dM).1 _ (.head _) k h1k h2k
    | tail _ hy => have := y.lt w k (hs.okM y hy) h2k; have := (h.own _ (.head _) k h1k).resolve_right id; omega
  · intro y hy rr hrr k h1k h2k
    cases hy with
    | head => have := rr.lt w k (hs.okR rr hrr) h2k; have := (h.own _ (.head _) k h1k).resolve_right id; omega
    | tail _ hy => exact h1.dR y hy rr hrr k h1k h2k
theorem Sat.below (hs : Sat F0 W M R w) (h : Below w.heap.size w w') : Sat F0 W M R w' := hs.ext (.ofBelow h)
theorem Sat.toBelow (hs : Sat no W M R w) : Below W.heap.size W w := hs.keep.below
/-- What is left of it at the call's end. -/
theorem Sat.fin (hs : Sat F0 W M R w) : Sat F0 W M [] w := hs.subR fun r hr => by cases hr
end
end Go.Proofs.YtpggmebgndkpjaaDoor

namespace Go.Proofs.YtpggmebgndkpjaaDoor
set_option linter.all false
open Go Go.RowKit

section
variable {K : Act → World → Prop} {Q : Exit → Act → World → Prop} {a : Act} {w : World} {i j : Nat}
theorem x_t (h : K a w) : Exit.then K Q .normal a w := h
theorem x_b (h : Q .normal a w) : Exit.inBlock i Q .normal a w := h
theorem x_te (h : Q (.exit i) a w) : Exit.then K Q (.exit i) a w := h
theorem x_tr (h : Q .ret a w) : Exit.then K Q .ret a w := h
theorem x_br (h : Q .ret a w) : Exit.inBlock i Q .ret a w := h
theorem x_be (h : Q .normal a w) : Exit.inBlock i Q (.exit i) a w := by simp only [Exit.inBlock, if_true]; exact h
theorem x_bn (hij : Nat.beq j i = false) (h : Q (.exit j) a w) : Exit.inBlock i Q (.exit j) a w := by simp only [Exit.inBlock, Nat.ne_of_beq_eq_false hij, if_false]; exact h
end
section
variable {F : Fence} {r : Option Nat} {n N : Nat} {P : Program} {Q : Exit → Act → World → Prop} {a : Act} {w : World} {ops : Array Oper} {G : List (Nat × Value)} {Ds : List Nat}
theorem c_end (h : Q .normal a w) : wpListIn F n P ops Q [] a w := h
theorem c_T {c : Operand} {x y : Code} (hk : Kn Ds N G a) (hc : evq G c = some (.bool true)) (h : x.wpIn F n P Q a w) : (Code.cond c x y).wpIn F n P Q a w := wpIn_cond_true (hk.eval hc) h
theorem c_F {c : Operand} {x y : Code} (hk : Kn Ds N G a) (hc : evq G c = some (.bool false)) (h : y.wpIn F n P Q a w) : (Code.cond c x y).wpIn F n P Q a w := wpIn_cond_false (hk.eval hc) h
theorem c_loop {c : Code} {α : Type} (I : α → Act → World → Prop) (m : α → Nat) (i0 : α) (h0 : I i0 a w)
    (round : ∀ i a w, I i a w → c.wpIn F n P (Exit.then (fun a' w' => ∃ j, I j a' w' ∧ m j < m i) Q) a w) : (Code.loop c).wpIn F n P Q a w := by
  classical
  have key0 : ∀ (q : Nat → Prop) (k : Nat), q k → ∃ k, q k ∧ ∀ k', q k' → k ≤ k' := by
    intro q k hk
    induction k using Nat.strongRecOn with
    | _ k ih =>
      by_cases h : ∃ k', k' < k ∧ q k'
      · obtain ⟨k', h1, h2⟩ := h; exact ih k' h1 h2
      · exact ⟨k, hk, fun k' hk' => Nat.le_of_not_lt fun hlt => h ⟨k', hlt, hk'⟩⟩
  let least (a : Act) (w : World) (k : Nat) : Prop := ∃ i, I i a w ∧ m i = k
  have key : ∀ a w, (∃ i, I i a w) → ∃ k, least a w k ∧ ∀ k', least a w k' → k ≤ k' := fun a w ⟨i, hi⟩ => key0 (least a w) (m i) ⟨i, hi, rfl⟩
  refine wpIn_loop (fun a w => ∃ i, I i a w) (fun a w => if h : ∃ i, I i a w then Classical.choose (key a w h) else 0) ⟨i0, h0⟩ fun a w hI => ?_
  obtain ⟨⟨i, hi, him⟩, hmin⟩ := Classical.choose_spec (key a w hI)
  refine wpIn_mono (round i a w hi) fun e a' w' hq => ?_
  cases e with
  | normal =>
    obtain ⟨j, hj, hlt⟩ := hq
    refine ⟨⟨j, hj⟩, ?_⟩
    have hJ : ∃ i, I i a' w' := ⟨j, hj⟩
    simp only [hI, hJ, dif_pos]
    have := (Classical.choose_spec (key a' w' hJ)).2 (m j) ⟨j, hj, rfl⟩
    omega
  | _ => exact hq
theorem c_enter {f : FuncId} {fn : Func} {c : Code} {args : List Value} {R : Ending → World → Prop} (hf : P.funcs[f]? = some fn) (hb : fn.body = some c) (hN : fn.ntmps = N) (hl : Nat.ble args.length N = true)
    (h : ∀ a, Kn [] N (argq 0 args) a → c.wpIn (Fr none) 0 P (bodyPost P fn R) a w) : Calls P f args.toArray w R := by
  subst hN
  exact callsIn_wide.1 (callsIn_of_wp (n := 0) hf hb trivial (h _ (Kn.begin args _ hl)))
theorem c_ret1 {fn : Func} {R : Ending → World → Prop} {t : Nat} {v : Value} (hk : Kn [] N G a) (hr : fn.results = #[.tmp t]) (hv : gq G t = some v) (h : R (.returned v) w) : bodyPost P fn R .ret a w :=
  ⟨hk.df, v, by rw [results_tmp hr]; simp [Array.getD_eq_getD_getElem?, hk.at_ t v hv], h⟩
theorem c_end1 {fn : Func} {R : Ending → World → Prop} {t : Nat} {v : Value} (hk : Kn [] N G a) (hr : fn.results = #[.tmp t]) (hv : gq G t = some v) (h : R (.returned v) w) : bodyPost P fn R .normal a w := c_ret1 hk hr hv h
theorem c_ret2 {fn : Func} {R : Ending → World → Prop} {t u : Nat} {v v' : Value} (hk : Kn [] N G a) (hr : fn.results = #[.tmp t, .tmp u]) (hv : gq G t = some v) (hv' : gq G u = some v') (h : R (.returned (.tuple #[v, v'])) w) : bodyPost P fn R .ret a w :=
  ⟨hk.df, .tuple #[v, v'], by rw [results_tmp2 hr]; simp [Array.getD_eq_getD_getElem?, hk.at_ t v hv, hk.at_ u v' hv'], h⟩
theorem c_ret0 {fn : Func} {R : Ending → World → Prop} (hk : Kn [] N G a) (hr : fn.results = #[]) (h : R (.returned (.tuple #[])) w) : bodyPost P fn R .ret a w := ⟨hk.df, _, results_none hr _ _ _, h⟩
theorem c_end0 {fn : Func} {R : Ending → World → Prop} (hk : Kn [] N G a) (hr : fn.results = #[]) (h : R (.returned (.tuple #[])) w) : bodyPost P fn R .normal a w := c_ret0 hk hr h
end
section
variable {P : Program} {ops : Array Oper} {Q : Exit → Act → World → Prop} {md : Region.Mode} {S : World → Prop} {r : Option Nat} {m : Nat}

/-- Whatever order is picked from here on, and S holds behind every operation. -/
def wpAnyQ (r : Option Nat) (m : Nat) (P : Program) (md : Region.Mode) (ops : Array Oper) (Q : Exit → Act → World → Prop) (S : World → Prop) : Nat → Array Bool → Act → World → Prop
  | 0, listed, a, w => Region.ready md ops listed = [] ∧ Q .normal a w
  | fuel + 1, listed, a, w => (Region.ready md ops listed = [] → Q .normal a w) ∧
      ∀ i ∈ Region.ready md ops listed, wpOpIn (Fr r) m P ops Q i (fun a' w' => S w' ∧ wpAnyQ r m P md ops Q S fuel (listed.setIfInBounds i true) a' w') a w
theorem wpAnyIn_of_Q : ∀ (fuel : Nat) (listed : Array Bool) (a : Act) (w : World), wpAnyQ r m P md ops Q S fuel listed a w → wpAnyIn (Fr r) m P md ops Q fuel listed a w
  | 0, _, _, _, h => h
  | fuel + 1, _, _, _, h => ⟨h.1, fun i hi => wpOpIn_mono (fun a' w' h' => wpAnyIn_of_Q fuel _ a' w' h'.2) (h.2 i hi)⟩

theorem yields_opQ {i : Nat} {o : Oper} {v : Value} {a : Act} (hd : noDefer ops = true) (hi : ops[i]? = some o) (hy : YieldsIf P ops S o v a) {K : Act → World → Prop} {w : World} (hS : S w) (h : K (a.put o.dst v) w) :
    wpOpIn (Fr r) m P ops Q i K a w := by
  unfold wpOpIn
  simp only [hi]
  rcases hy with ⟨hw, hv⟩ | ⟨hw, rfl⟩
  · simp only [hw, if_true, Oper.wpIn, Oper.semAt_eq _ _ _ (noDefer_spec hd i o hi), hv w hS, Oper.uponIn]
    exact ⟨fun _ _ => trivial, h⟩
  · simp only [hw, Bool.false_eq_true, if_false]
    exact ⟨fun _ _ => trivial, h⟩
theorem putQ {j : Nat} {oi oj : Oper} {v : Value} (hd : noDefer ops = true) (hj : ops[j]? = some oj) (hap : oi.apart ops oj = true) (hsi : ∀ cs b, oi.op ≠ .select cs b) (hsj : ∀ cs b, oj.op ≠ .select cs b)
    (hQ : ∀ c a w, Q (.panic c) (a.put oi.dst v) w → Q (.panic c) a w) {K : Act → World → Prop} {a : Act} {w : World} (hy : YieldsIf P ops S oi v a) (h : wpOpIn (Fr r) m P ops Q j K (a.put oi.dst v) w) :
    wpOpIn (Fr r) m P ops Q j (fun a' w' => YieldsIf P ops S oi v a' ∧ K (a'.put oi.dst v) w') a w := by
  obtain ⟨h1, h2, h3⟩ := Oper.apart_spec hap
  have keep : ∀ (a : Act), YieldsIf P ops S oi v a → ∀ u, YieldsIf P ops S oi v (a.put oj.dst u) := fun a hy u => hy.of_same (execOp_put oi hsi a oj.dst u h3) (wanted_put oi a oj.dst u h3)
  have hdj := noDefer_spec hd j oj hj
  unfold wpOpIn at *
  simp only [hj] at *
  rw [wanted_put oj a oi.dst v h1] at h
  split
  · rename_i hw
    simp only [hw, if_true] at h
    unfold Oper.wpIn at *
    refine ⟨fun _ _ => trivial, ?_⟩
    have h := h.2
    rw [Oper.semAt_eq _ _ _ hdj, execOp_put oj hsj a oi.dst v h1] at h
    rw [Oper.semAt_eq _ _ _ hdj]
    generalize (execOp a.eval oj).run P w = r at *
    cases r with
    | ok x w' =>
      cases x <;> simp only [Oper.uponIn] at h ⊢
      case value u => exact ⟨keep a hy u, by rw [← Act.put_comm a v u h2]; exact h⟩
      case skip => exact ⟨keep a hy _, by rw [← Act.put_comm a v undef h2]; exact h⟩
      case defer d =>
        refine ⟨keep { a with defers := d :: a.defers } (hy.of_same rfl rfl) undef, ?_⟩
        rw [← Act.put_comm _ v undef h2, ← Act.put_defers]
        exact h
      case enter f args =>
        refine ⟨h.1, CallsIn.mono h.2 fun e w'' he => ?_⟩
        cases e with
        | returned u => exact ⟨keep a hy u, by rw [← Act.put_comm a v u h2]; exact he⟩
        | panicked c => exact hQ _ _ _ he
        | outgrown => exact he
      case row row args => exact ⟨h.1, RowsIn.mono h.2 fun u w'' he => ⟨keep a hy u, by rw [← Act.put_comm a v u h2]; exact he⟩⟩
      case round l f tmps assign body =>
        refine ⟨h.1, RoundIn.mono h.2 fun e w'' he => ?_⟩
        cases e with
        | returned u => exact ⟨keep a hy u, by rw [← Act.put_comm a v u h2]; exact he⟩
        | panicked c => exact hQ _ _ _ he
        | outgrown => exact he
    | halt x w' =>
      cases x <;> simp only [Oper.uponIn] at h ⊢
      case panic u => exact hQ _ _ _ h
  · rename_i hw
    simp only [hw] at h
    exact ⟨fun _ _ => trivial, keep a hy _, by rw [← Act.put_comm a v undef h2]; exact h.2⟩
theorem firstQ {i : Nat} {oi : Oper} {v : Value} (hd : noDefer ops = true) (hi : ops[i]? = some oi) (hQ : ∀ c a w, Q (.panic c) (a.put oi.dst v) w → Q (.panic c) a w) :
    ∀ (fuel : Nat) (listed : Array Bool) (a : Act) (w : World),
      (∀ j oj, ops[j]? = some oj → j ≠ i → listed.getD j true = false → (∀ e ∈ oj.after, Region.binds md e = true → e.on ≠ i) → oi.apart ops oj = true) →
      i ∈ Region.ready md ops listed → YieldsIf P ops S oi v a → S w →
      wpAnyQ r m P md ops Q S fuel (listed.setIfInBounds i true) (a.put oi.dst v) w → wpAnyQ r m P md ops Q S (fuel + 1) listed a w := by
  have hsel := Region.noSelect_spec (noDefer_sel hd)
  intro fuel
  induction fuel with
  | zero =>
    intro listed a w _ hr hy hS H
    refine ⟨fun h => (by rw [h] at hr; cases hr), fun j hj => ?_⟩
    by_cases hji : j = i
    · subst hji; exact yields_opQ hd hi hy hS ⟨hS, H⟩
    · have := ready_mono hj hji
      rw [H.1] at this
      cases this
  | succ fuel ih =>
    intro listed a w hfree hr hy hS H
    refine ⟨fun h => (by rw [h] at hr; cases hr), fun j hj => ?_⟩
    by_cases hji : j = i
    · subst hji; exact yields_opQ hd hi hy hS ⟨hS, H⟩
    · have h1 := H.2 j (ready_mono hj hji)
      obtain ⟨hjun, oj, hoj, hall⟩ := mem_ready.1 hj
      have hnot : ∀ e ∈ oj.after, Region.binds md e = true → e.on ≠ i := fun e he hb heq => by
        have h1 := hall e he hb
        have h0 := (mem_ready.1 hr).1
        rw [heq] at h1
        rcases Nat.lt_or_ge i listed.size with h' | h'
        · simp [h'] at h0 h1; rw [h0] at h1; cases h1
        · simp [Array.getElem?_eq_none h'] at h1
      have h2 := putQ hd hoj (hfree j oj hoj hji hjun hnot) (fun cs b => hsel i oi cs b hi) (fun cs b => hsel j oj cs b hoj) hQ hy h1
      refine wpOpIn_mono (fun a' w' h3 => ⟨h3.2.1, ih (listed.setIfInBounds j true) a' w' (fun k ok hk hki hun hno => hfree k ok hk hki ?_ hno) (ready_mono hr (Ne.symm hji)) h3.1 h3.2.1 ?_⟩) h2
      · by_cases hjk : j = k
        · subst hjk; exact hjun
        · rw [getD_set_ne true hjk] at hun; exact hun
      · rw [Array.setIfInBounds_comm _ _ hji]
        exact h3.2.2
end


/-- The continuation of one operation, and what it does at a panic. -/
theorem Oper.wpIn_swap {F : Fence} {n : Nat} {P : Program} {o : Oper} {a : Act} {w : World} {ops : Array Oper} {K : Act → World → Prop} {Q : Exit → Act → World → Prop} (h : o.wpIn F n P a w (wpListIn F n P ops (Exit.then K Q) []) (Exit.then K Q)) : o.wpIn F n P a w K Q := h

/-! A region that draws its order: what yields the same in every world of the class L is taken first; the others come in their one order. -/
section
variable {P : Program} {Q : Exit → Act → World → Prop} {r : Option Nat} {m n N : Nat} {G : List (Nat × Value)} {a : Act} {w w' : World} {Ds : List Nat}
/-- All that the list names is as it says. -/
def okL (L : List Res) (w : World) : Prop := ∀ x ∈ L, x.ok w
theorem okL.at {L : List Res} (h : okL L w) (i : Nat) {x : Res} (hi : L[i]? = some x) : x.ok w := h x (List.mem_of_getElem? hi)
theorem okL.nil : okL [] w := fun _ h => by cases h
theorem okL.cons {x : Res} {L : List Res} (h : x.ok w) (h' : okL L w) : okL (x :: L) w := fun y hy => by cases hy with | head => exact h | tail _ hy => exact h' y hy
theorem okL.drew {L : List Res} (h : okL L w) : okL L w.drew := fun x hx => x.loc w w.drew (fun _ _ => rfl) (h x hx)
theorem Sat.drew {F0 : Nat → Prop} {W : World} {M R : List Res} (h : Sat F0 W M R w) : Sat F0 W M R w.drew := h.ext (.drew _ _)
/-- No panic is let in. -/
def npQ (Q : Exit → Act → World → Prop) : Exit → Act → World → Prop | .panic _, _, _ => False | e, a, w => Q e a w
theorem d_begin {id : Nat} {l : List Oper} {F0 : Nat → Prop} {W : World} {M R : List Res} (L : List Res) (n : Nat) (hm : P.follows .mixedOrders = true) (hn : l.length = n) (hs : Sat F0 W M R w) (hL : okL L w)
    (h : ∀ w, Sat F0 W M R w → okL L w → wpAnyQ r m P .any l.toArray (npQ Q) (okL L) n (lsM n 0) a w) : (Code.region id l.toArray true).wpIn (Fr r) m P Q a w := by
  refine wpIn_mono (wpIn_region_any hm (wpAnyIn_of_Q (S := okL L) (Q := npQ Q) _ _ _ _ ?_)) fun e a w h => by cases e <;> first | exact h | exact h.elim
  have h' := h w.drew hs.drew hL.drew
  rw [lsM_zero] at h'
  subst hn
  simpa using h'
variable {ops : Array Oper} {L : List Res} {k k' n' : Nat} {d T : Nat} {op : Op} {p : String} {e : Array Edge} {g : Option (Nat × Bool)} {v : Value} {o : Oper}
/-- Operation i may be taken, in a region of n' operations of which those of the set k are taken. -/
def chk0 (ops : Array Oper) (n' k k' i : Nat) (o : Oper) : Bool := Nat.ble ops.size n' && noDefer ops && !k.testBit i && afterM .any k o && o.after.all (fun x => x.on < n') && Nat.beq (k ||| 1 <<< i) k'
/-- .. first. -/
def chkv (ops : Array Oper) (n' k k' i : Nat) : Bool := match ops.toList.drop i with | o :: _ => chk0 ops n' k k' i o && apartM .any ops i o 0 ops.toList | [] => false
/-- .. as the only one. -/
def chk1 (ops : Array Oper) (n' k k' i : Nat) : Bool := match ops.toList.drop i with | o :: _ => chk0 ops n' k k' i o && soleM .any k i 0 ops.toList | [] => false
theorem chk0_spec {i : Nat} (h : chk0 ops n' k k' i o = true) : ops.size ≤ n' ∧ noDefer ops = true ∧ k.testBit i = false ∧ afterM .any k o = true ∧ o.after.all (fun x => x.on < n') = true ∧ k ||| 1 <<< i = k' := by
  unfold chk0 at h
  simp only [Bool.and_eq_true, Bool.not_eq_true'] at h
  exact ⟨Nat.le_of_ble_eq_true h.1.1.1.1.1, h.1.1.1.1.2, h.1.1.1.2, h.1.1.2, h.1.2, Nat.eq_of_beq_eq_true h.2⟩
theorem chkv_spec {i : Nat} {rr : List Oper} (hi : ops.toList.drop i = o :: rr) (h : chkv ops n' k k' i = true) : chk0 ops n' k k' i o = true ∧ apartM .any ops i o 0 ops.toList = true := by
  unfold chkv at h
  rw [hi] at h
  exact Bool.and_eq_true_iff.1 h
theorem chk1_spec {i : Nat} {rr : List Oper} (hi : ops.toList.drop i = o :: rr) (h : chk1 ops n' k k' i = true) : chk0 ops n' k k' i o = true ∧ soleM .any k i 0 ops.toList = true := by
  unfold chk1 at h
  rw [hi] at h
  exact Bool.and_eq_true_iff.1 h
theorem d_v (i k' : Nat) {rr : List Oper} (hk : Kn Ds N G a) (hS : okL L w) (hi : ops.toList.drop i = ⟨some d, op, T, p, e, g⟩ :: rr) (hc : chkv ops n' k k' i = true) (hd : Nat.ble (d + 1) N = true) (hg : wq ops G g = some true) (hy : ∀ w, okL L w → Wq P G ⟨some d, op, T, p, e, g⟩ v w w)
    (h : ∀ a, Kn Ds N ((d, v) :: G) a → wpAnyQ r m P .any ops (npQ Q) (okL L) n (lsM n' k') a w) : wpAnyQ r m P .any ops (npQ Q) (okL L) (n + 1) (lsM n' k) a w := by
  obtain ⟨hc, hap⟩ := chkv_spec hi hc
  obtain ⟨hN, hs, hun, haf, hlt, hm⟩ := chk0_spec hc
  refine firstQ hs (drop_at hi) (fun c a w h => by cases h) n _ a w (freeM hN hi haf hap) (readyM hN hi hun haf hlt) (.inl ⟨wq_wanted hk hg, fun w' hw' => hy w' hw' Ds N a hk⟩) hS ?_
  rw [lsM_set hm]
  exact h _ (hk.put hd v)
theorem d_s (i k' : Nat) {rr : List Oper} (hk : Kn Ds N G a) (hS : okL L w) (hi : ops.toList.drop i = ⟨some d, op, T, p, e, g⟩ :: rr) (hc : chkv ops n' k k' i = true) (hd : Nat.ble (d + 1) N = true) (hg : wq ops G g = some false)
    (h : ∀ a, Kn Ds N ((d, undef) :: G) a → wpAnyQ r m P .any ops (npQ Q) (okL L) n (lsM n' k') a w) : wpAnyQ r m P .any ops (npQ Q) (okL L) (n + 1) (lsM n' k) a w := by
  obtain ⟨hc, hap⟩ := chkv_spec hi hc
  obtain ⟨hN, hs, hun, haf, hlt, hm⟩ := chk0_spec hc
  refine firstQ hs (drop_at hi) (fun c a w h => by cases h) n _ a w (freeM hN hi haf hap) (readyM hN hi hun haf hlt) (.inr ⟨wq_wanted hk hg, rfl⟩) hS ?_
  rw [lsM_set hm]
  exact h _ (hk.put hd undef)
theorem d_1 (i k' : Nat) {rr : List Oper} (hi : ops.toList.drop i = o :: rr) (hc : chk1 ops n' k k' i = true)
    (h : ∀ K : Act → World → Prop, (∀ a w, okL L w → wpAnyQ r m P .any ops (npQ Q) (okL L) n (lsM n' k') a w → K a w) → wpListIn (Fr r) m P ops (Exit.then K (npQ Q)) [o] a w) : wpAnyQ r m P .any ops (npQ Q) (okL L) (n + 1) (lsM n' k) a w := by
  obtain ⟨hc, hso⟩ := chk1_spec hi hc
  obtain ⟨hN, hs, hun, haf, hlt, hm⟩ := chk0_spec hc
  have hr := readyM (md := .any) hN hi hun haf hlt
  refine ⟨fun h0 => (by rw [h0] at hr; cases hr), fun j hj => ?_⟩
  obtain ⟨hjun, oj, hoj, hall⟩ := mem_ready.1 hj
  have hl := (Array.getElem?_eq_some_iff.1 hoj).1
  rw [lsM_getD, if_pos (by omega)] at hjun
  have ej : j = i := by
    rcases soleM_spec hso j oj (by simpa using hoj) with h1 | h1 | ⟨e, h1, h2, h3⟩
    · omega
    · rw [Nat.zero_add, hjun] at h1; cases h1
    · have h4 := hall e h1 h2
      rw [lsM_getD] at h4
      split at h4
      · rw [h3] at h4; cases h4
      · cases h4
  subst ej
  have h1 := h (fun a' w' => okL L w' ∧ wpAnyQ r m P .any ops (npQ Q) (okL L) n ((lsM n' k).setIfInBounds j true) a' w') (fun a w h1 h2 => ⟨h1, by rw [lsM_set hm]; exact h2⟩)
  unfold wpOpIn
  simp only [drop_at hi]
  unfold wpListIn at h1
  split
  · rename_i hw
    rw [if_pos hw] at h1
    exact Oper.wpIn_swap h1
  · rename_i hw
    rw [if_neg hw] at h1
    exact h1
theorem d_end (hN : (Nat.ble ops.size n' && doneM k n') = true) (h : Q .normal a w) : wpAnyQ r m P .any ops (npQ Q) (okL L) 0 (lsM n' k) a w := by
  rw [Bool.and_eq_true] at hN
  obtain ⟨hN, hd⟩ := hN
  have hN := Nat.le_of_ble_eq_true hN
  refine ⟨?_, h⟩
  rw [List.eq_nil_iff_forall_not_mem]
  intro j hj
  obtain ⟨hjun, oj, hoj, _⟩ := mem_ready.1 hj
  have hl := (Array.getElem?_eq_some_iff.1 hoj).1
  rw [lsM_getD, if_pos (by omega), doneM_spec hd j (by omega)] at hjun
  cases hjun
end
end Go.Proofs.YtpggmebgndkpjaaDoor

namespace Go.Proofs.YtpggmebgndkpjaaDoor
set_option linter.all false
open Go Go.RowKit

/-- The cells of the n values f 0, f 1, .. -/
def en {α : Type} (c : α → List Value) (f : Nat → α) (n : Nat) : List Value := (List.range n).flatMap fun i => c (f i)
section
variable {α : Type} {c : α → List Value} {f g : Nat → α} {n k sz : Nat}
theorem en_zero : en c f 0 = [] := rfl
theorem en_succ : en c f n ++ c (f n) = en c f (n + 1) := by simp [en, List.range_succ]
theorem en_congr (h : ∀ i, i < n → f i = g i) : en c f n = en c g n := by
  induction n with
  | zero => rfl
  | succ n ih => rw [← en_succ, ← en_succ, ih fun i hi => h i (by omega), h n (by omega)]
theorem en_len (hc : ∀ x, (c x).length = sz) : (en c f n).length = n * sz := by
  induction n with
  | zero => simp [en]
  | succ n ih => rw [← en_succ, List.length_append, ih, hc, Nat.succ_mul]
theorem en_chunk (hc : ∀ x, (c x).length = sz) (hk : k < n) : ((en c f n).drop (k * sz)).take sz = c (f k) := by
  induction n with
  | zero => omega
  | succ n ih =>
    rw [← en_succ]
    by_cases h : k < n
    · have hl : k * sz + sz ≤ n * sz := by rw [← Nat.succ_mul]; exact Nat.mul_le_mul_right _ h
      rw [List.drop_append_of_le_length (by rw [en_len hc]; omega), List.take_append_of_le_length (by rw [List.length_drop, en_len hc]; omega)]
      exact ih h
    · obtain rfl : k = n := by omega
      rw [List.drop_append, List.drop_eq_nil_of_le (by rw [en_len hc]; exact Nat.le_refl _), en_len hc, Nat.sub_self]
      rw [List.nil_append, List.drop_zero, List.take_of_length_le (by rw [hc]; exact Nat.le_refl _)]
theorem en_ones (hc : ∀ x, ones (c x) = true) : ones (en c f n) = true := by
  induction n with
  | zero => rfl
  | succ n ih => rw [← en_succ]; exact ones_app ih (hc _)
/-- A list with one entry exchanged. -/
theorem en_set (hc : ∀ x, (c x).length = sz) (hk : k < n) (x : α) : (en c f n).take (k * sz) ++ c x ++ (en c f n).drop (k * sz + sz) = en c (fun i => if i = k then x else f i) n := by
  induction n with
  | zero => omega
  | succ n ih =>
    rw [← en_succ, ← en_succ]
    by_cases h : k < n
    · have hl : k * sz + sz ≤ n * sz := by rw [← Nat.succ_mul]; exact Nat.mul_le_mul_right _ h
      rw [List.take_append_of_le_length (by rw [en_len hc]; omega), List.drop_append_of_le_length (by rw [en_len hc]; omega), ← List.append_assoc, ih h]
      rw [if_neg (by omega)]
    · obtain rfl : k = n := by omega
      rw [List.take_append_of_le_length (by rw [en_len hc]; exact Nat.le_refl _), List.take_of_length_le (by rw [en_len hc]; exact Nat.le_refl _), List.drop_eq_nil_of_le (by rw [List.length_append, en_len hc, hc]; exact Nat.le_refl _)]
      rw [if_pos rfl, List.append_nil]
      congr 1
      exact en_congr fun i hi => by rw [if_neg (by omega)]
end
/-- The cells of a list. -/
def el {α : Type} (c : α → List Value) (l : List α) : List Value := l.flatMap c
section
variable {α : Type} {c : α → List Value} {l m : List α} {k sz : Nat} {x : α}
theorem el_nil : el c [] = [] := rfl
theorem el_app : el c l ++ el c m = el c (l ++ m) := by simp [el]
theorem el_snoc : el c l ++ c x = el c (l ++ [x]) := by simp [el]
theorem en_el {f : Nat → α} {n : Nat} : en c f n = el c ((List.range n).map f) := by simp [en, el, List.flatMap_map]
theorem el_len (hc : ∀ x, (c x).length = sz) : (el c l).length = l.length * sz := by
  induction l with
  | nil => simp [el]
  | cons y l ih => simp only [el, List.flatMap_cons, List.length_append, hc, List.length_cons, Nat.succ_mul] at ih ⊢; omega
theorem el_chunk (hc : ∀ x, (c x).length = sz) (hk : k < l.length) (d : α) : ((el c l).drop (k * sz)).take sz = c (l.getD k d) := by
  have h : l = (List.range l.length).map fun i => l.getD i d := by
    apply List.ext_getElem
    · simp
    · intro i h1 h2; simp [List.getD, h1]
  rw [show el c l = en c (fun i => l.getD i d) l.length by rw [en_el, ← h]]
  exact en_chunk hc hk
theorem el_ones (hc : ∀ x, ones (c x) = true) : ones (el c l) = true := by
  induction l with
  | nil => rfl
  | cons y l ih => simp only [el, List.flatMap_cons]; exact ones_app (hc _) ih
end
/-- Numbers as cells. -/
def ic (x : Int) : List Value := [.int .i64 x]
theorem ic_len (x : Int) : (ic x).length = 1 := rfl
theorem ic_ones (x : Int) : ones (ic x) = true := rfl
/-- Bytes. -/
def bc (x : Nat) : List Value := [.int .u8 ((x : Nat) : Int)]
theorem bc_len (x : Nat) : (bc x).length = 1 := rfl
theorem bc_ones (x : Nat) : ones (bc x) = true := rfl
/-- Vectors. -/
def vq (x : Nat) : List Value := [.int .u64 ((dg 0 x : Nat) : Int), .int .u64 ((dg 1 x : Nat) : Int), .int .u64 ((dg 2 x : Nat) : Int), .int .u64 ((dg 3 x : Nat) : Int)]
theorem vq_len (x : Nat) : (vq x).length = 4 := rfl
theorem vq_ones (x : Nat) : ones (vq x) = true := rfl
/-- Events. -/
def ec (x : Int × Int × Int) : List Value := [.int .i64 x.1, .int .i64 x.2.1, .int .i64 x.2.2]
theorem ec_len (x : Int × Int × Int) : (ec x).length = 3 := rfl
theorem ec_ones (x : Int × Int × Int) : ones (ec x) = true := rfl

def adq (a : Option Addr) : Addr := a.getD ⟨0, 0, none⟩
section
variable {P : Program} {G : List (Nat × Value)} {w : World} {v v' : Value} {d : Option Nat} {T : Nat} {p : String} {e : Array Edge} {g : Option (Nat × Bool)} {x y c : Operand} {tx ty te : TypeId} {s nb n k cc : Nat} {b : Bool} {a : Option Addr} {xs ws : List Value}
theorem lst_some (h : LstAt w s (.slice a n cc) n xs) (hn : 0 < n) : a = some (adq a) := by
  obtain ⟨a', c', he, _, h1, _⟩ := h.at_
  cases he
  cases a with
  | none => have := (h1 rfl).1; omega
  | some ad => rfl
theorem w_iaL {i : Int} {kd : IntKind} (hx : evq G x = some (.slice a n cc)) (hy : evq G y = some (.int kd i)) (hu : P.underlying tx = some (.slice te)) (ht : tq P te = some (b, s, nb)) (hl : LstAt w s (.slice a n cc) n xs) (hi : i = (k : Int)) (hk : k < n) :
    Wq P G ⟨d, .indexAddr tx x y, T, p, e, g⟩ (.pointer (some ((adq a).add (k * s)))) w w := by
  rw [lst_some hl (by omega)] at hx
  exact w_ia hx hy hu ht hi hk
theorem lstq (h : LstAt w s (.slice a n cc) n xs) (hk : k < n) (hx : (xs.drop (k * s)).take s = ws) : CellsAt w ((adq a).add (k * s)) ws := by
  have e := lst_some h (by omega)
  rw [e] at h
  exact .lst h hx
theorem lst_all (h : LstAt w s (.slice a n cc) n xs) (hn : 0 < n) : CellsAt w (adq a) xs := fun j u hj => by
  have e := lst_some h hn
  obtain ⟨a', c', he, _, _, h⟩ := h.at_
  cases he
  exact (h _ e hn).2.2 j u hj
/-- A part of the cells. -/
theorem CellsAt.sub {q : Addr} {o m : Nat} {ws : List Value} (h : CellsAt w q xs) (hs : q.spot = none) (hx : (xs.drop o).take m = ws) : CellsAt w (q.add o) ws := fun j u hj => by
  rw [add_add hs]
  subst hx
  rw [List.getElem?_take] at hj
  split at hj
  · rw [List.getElem?_drop] at hj; exact h _ _ hj
  · cases hj
theorem blk_lst {bb t : Nat} (h : (blk bb xs t).ok w) (hl : xs.length = n * s) (hc : n ≤ cc) : LstAt w s (.slice (some ⟨bb, 0, none⟩) n cc) n xs :=
  ⟨hl, some ⟨bb, 0, none⟩, cc, rfl, hc, (fun h => by cases h), fun ad ha _ => by
    cases ha
    refine ⟨rfl, (Array.getElem?_eq_some_iff.1 h).1, fun j u hj => ?_⟩
    have := CellsAt.blk (o := 0) (n := xs.length) h rfl j u (by simpa using hj)
    exact this⟩
theorem w_ldv {q : Addr} {tt : TypeId} {z : Nat} (hx : evq G x = some (.pointer (some q))) (ht : tq P tt = some (true, 4, nb)) (hc : CellsAt w q (vq z)) : Wq P G ⟨d, .load tt x, T, p, e, g⟩ (vec z) w w := w_ldA hx ht hc rfl
theorem wdv64 {a b : Int} (h1 : 0 ≤ a) (h2 : 0 < b) (h3 : a ≤ 9223372036854775807) : IntKind.i64.wrap (a.tdiv b) = a / b := by
  rw [Int.tdiv_eq_ediv_of_nonneg h1]
  refine wr64 ?_ ?_
  · have := Int.ediv_nonneg h1 (Int.le_of_lt h2); omega
  · have := Int.ediv_le_self b h1; omega
theorem wmd {a b : Int} (h1 : 0 ≤ a) : a.tmod b = a % b := Int.tmod_eq_emod_of_nonneg h1
theorem wru8 {a : Int} (h1 : 0 ≤ a) (h2 : a ≤ 255) : IntKind.u8.wrap a = a := by rw [IntKind.wrap_u8]; omega
theorem wru64 {a : Int} (h1 : 0 ≤ a) (h2 : a ≤ 18446744073709551615) : IntKind.u64.wrap a = a := by rw [IntKind.wrap_u64]; omega
end
section
variable {F0 : Nat → Prop} {W w w' : World} {M R R' : List Res} {m m' x x' : Res}
theorem Sat.rw0 (hs : Sat F0 W (m :: M) R w) (h : m = m') : Sat F0 W (m' :: M) R w := h ▸ hs
variable {r : Option Nat} {n N : Nat} {P : Program} {ops : Array Oper} {Q : Exit → Act → World → Prop} {rest : List Oper} {G : List (Nat × Value)} {a : Act} {v : Value} {Ds : List Nat}
  {d T : Nat} {p : String} {e : Array Edge} {g : Option (Nat × Bool)} {x y : Operand} {tx t te : TypeId} {vs cs vs' xs news : List Value} {ab : Bool} {s nb mm cc : Nat} {z : Value}
/-- append of all that a slice holds. -/
theorem q_appL {k : Nat} {aa a0 : Option Addr} {c0 : Nat} (hk : Kn Ds N G a) (hs : Sat F0 W (row te s (.slice a0 k c0) k xs :: M) R w) (hx : evq G x = some (.slice a0 k c0)) (hy : evq G y = some (.slice aa mm cc))
    (hu : P.underlying t = some (.slice te)) (ht : tq P te = some (ab, s, nb)) (hz : zq P te = some z) (hzs : Nat.beq z.cells.size s = true) (hs0 : Nat.blt 0 s = true) (hl : LstAt w s (.slice aa mm cc) mm news) (h1 : ones news = true) (hb : (k + mm) * nb ≤ 140737488355328) (h63 : k + mm ≤ 9223372036854775807)
    (hd : Nat.ble (d + 1) N = true) (hg : wq ops G g = some true)
    (h : ∀ a' c' w a, Kn Ds N ((d, .slice a' (k + mm) c') :: G) a → Sat F0 W (row te s (.slice a' (k + mm) c') (k + mm) (xs ++ news) :: M) R w → wpListIn (Fr r) n P ops Q rest a w) :
    wpListIn (Fr r) n P ops Q (⟨some d, .call ⟨.builtin .append, #[x, y], #[t, t]⟩, T, p, e, g⟩ :: rest) a w := by
  cases aa with
  | some ad =>
    obtain ⟨a', c', he, _, _, hc⟩ := hl.at_
    cases he
    have hlen := hl.len
    refine q_app hk hs hx hy hu ht hz hzs hs0 (fun j u hj => ?_) hl.len h1 hb h63 hd hg h
    refine (hc ad rfl ?_).2.2 j u hj
    have hlt := (List.getElem?_eq_some_iff.1 hj).1
    rcases Nat.eq_zero_or_pos mm with rfl | h0
    · rw [hlen, Nat.zero_mul] at hlt; omega
    · exact h0
  | none =>
    have hlen := hl.len
    obtain ⟨a', c', he, _, hn, _⟩ := hl.at_
    cases he
    obtain ⟨rfl, rfl⟩ := hn rfl
    obtain rfl : news = [] := List.eq_nil_of_length_eq_zero (by simpa using hlen)
    refine q_val hk (w_app0 (hs.okM _ (.head _)) hx hy hu ht hz) hd rfl hg fun a hk => h a0 c0 w a hk ?_
    simpa using hs
end
end Go.Proofs.YtpggmebgndkpjaaDoor
