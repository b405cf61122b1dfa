/- Blocks of cells that are known whole; what a write to two blocks keeps; slices of vectors. -/
import Derived.Test.YtpggmebgndkpjaaDoorChunks
namespace Go.Proofs.YtpggmebgndkpjaaDoor
set_option linter.all false
open Go Go.RowKit

/-- Block b holds these cells and nothing else. -/
def Blk (W : World) (b : Nat) (cs : Array Value) (T : TypeId) : Prop := W.heap[b]? = some (.cells cs T (0, 0))
theorem Blk.lt {W : World} {b : Nat} {cs : Array Value} {T : TypeId} (h : Blk W b cs T) : b < W.heap.size := (Array.getElem?_eq_some_iff.1 h).1
theorem Blk.same {W W' : World} {b : Nat} {cs : Array Value} {T : TypeId} (h : Blk W b cs T) (e : W'.heap[b]? = W.heap[b]?) : Blk W' b cs T := Eq.trans e h
theorem Blk.below {W W' : World} {B b : Nat} {cs : Array Value} {T : TypeId} (h : Blk W b cs T) (hb : Below B W W') (hB : b < B) : Blk W' b cs T := h.same (hb.block b hB)
theorem Blk.kept {W W' : World} {b : Nat} {cs : Array Value} {T : TypeId} {row : Option Nat} (h : Blk W b cs T) (hg : W.grownBy W' row) (hr : ∀ r, row = some r → ∃ o : Obj, W.heap[r]? = some o ∧ o.isCells = false) : Blk W' b cs T := by
  refine h.same (hg.block b h.lt fun e => ?_)
  obtain ⟨o, ho, hc⟩ := hr b e.symm
  rw [show W.heap[b]? = some (.cells cs T (0, 0)) from h] at ho
  cases ho
  cases hc
theorem Blk.cell {W : World} {b j : Nat} {cs : Array Value} {T : TypeId} {v : Value} (h : Blk W b cs T) (hv : cs[j]? = some v) : W.cell? ⟨b, j, none⟩ = some v := by rw [cell_of_row W b j _ _ _ h]; exact hv
theorem Blk.fz {W : World} {b : Nat} {cs : Array Value} {T : TypeId} (h : Blk W b cs T) (j : Nat) : W.frozen? ⟨b, j, none⟩ = false := frozen_of_row W b j _ _ h
theorem Blk.new {W : World} {b : Nat} {cs : Array Value} {T : TypeId} (h : b = W.heap.size) : Blk (W.alloc (.cells cs T)) b cs T := by subst h; exact heap_alloc_new W _
theorem Blk.alloc {W : World} {b : Nat} {cs : Array Value} {T : TypeId} (h : Blk W b cs T) (o : Obj) : Blk (W.alloc o) b cs T := h.same (Below.heap_alloc W o b h.lt)
theorem Blk.set {W : World} {b : Nat} {v u : Value} {T : TypeId} (h : Blk W b #[v] T) : Blk (W.setCell ⟨b, 0, none⟩ u) b #[u] T := by
  unfold Blk
  rw [heap_setCell_same W b 0 _ T _ h]
  rfl
theorem Blk.other {W : World} {b p j : Nat} {cs : Array Value} {T : TypeId} {u : Value} (h : Blk W b cs T) (hp : b ≠ p) : Blk (W.setCell ⟨p, j, none⟩ u) b cs T := h.same (Below.heap_setCell _ _ _ _ hp)
def fieldA (s : Bool) : Array Value := match fieldV s with | .agg xs => xs | _ => #[]
theorem load_field (s : Bool) {W : World} {b : Nat} (h : ∀ (j : Nat) v, (fieldA s)[j]? = some v → W.cell? ⟨b, j, none⟩ = some v) : (Instr.loadAt 47 (.pointer (some ⟨b, 0, none⟩))).run Tryd.prog W = .ok (fieldV s) W := by
  have := run_loadVar_at (P := Tryd.prog) W ⟨b, 0, none⟩ 47 (fieldA s).toList _ (fun j v hj => by
    have e : (⟨b, 0, none⟩ : Addr).add j = ⟨b, 0 + j, none⟩ := by unfold Addr.add; split <;> simp_all
    rw [e, Nat.zero_add]
    exact h j v (by rw [← Array.getElem?_toList]; exact hj)) Tryd.underlying47 rfl (by kernel_rfl)
  simp only [Instr.loadAt, Instr.sureAddr, Sem.run_bind, Sem.run_pure, Result.andThen_ok, this]
  rfl

theorem elemByte : Tryd.prog.underlying 53 = some (.slice (Tryd.prog.elem 53)) := by kernel_rfl
theorem sizeElem (w : World) : (sizeOf (Tryd.prog.elem 53)).run Tryd.prog w = .ok 1 w := by kernel_rfl
/-- x[l:h:h], a part of some bytes. -/
theorem cut3 {a : Option Addr} {n c o m h : Nat} {f : Nat → Nat} {w : World} (hS : SliceAt w a n f) (hc : n ≤ c) (he : h = o + m) (hh : h ≤ n) (hm : 0 < m) :
    ∃ a', (∀ w', (Instr.sliceAt 53 (.slice a n c) (some (.int .i64 (o : Int))) (some (.int .i64 (h : Int))) (some (.int .i64 (h : Int)))).run Tryd.prog w' = .ok (.slice a' m m) w') ∧ SliceAt w a' m (fun j => f (o + j)) := by
  obtain ⟨b, off, rfl, hB⟩ := hS.pos (by omega)
  refine ⟨some ⟨b, off + o, none⟩, fun w' => ?_, ?_⟩
  · rw [run_sliceAt_slice _ _ _ _ _ _ elemByte, run_slice_lhm _ _ _ _ _ elemByte .i64 .i64 .i64 (o : Int) (h : Int) (h : Int) (by omega) (by omega) (by omega) (by omega), sizeElem]
    simp only [Result.andThen_ok, sliced, Int.toNat_natCast]
    rw [if_neg (by omega)]
    have e : (⟨b, off, none⟩ : Addr).add (o * 1) = ⟨b, off + o, none⟩ := by rw [Nat.mul_one]; unfold Addr.add; split <;> simp_all
    rw [Option.map_some, e, show h - o = m by omega]
  · exact (hB.part o m (by omega)).slice
/-- Of the old blocks only p and the row r may have been written. -/
structure Wrote (w w' : World) (p : Nat) (r : Option Nat) : Prop where
  os : w'.os = w.os
  tape : w'.tape = w.tape
  output : w'.output = w.output
  size : w.heap.size ≤ w'.heap.size
  block : ∀ k, k < w.heap.size → k ≠ p → some k ≠ r → w'.heap[k]? = w.heap[k]?
theorem Wrote.refl (w : World) (p : Nat) (r : Option Nat) : Wrote w w p r := ⟨rfl, rfl, rfl, Nat.le_refl _, fun _ _ _ _ => rfl⟩
theorem Wrote.step {w a b : World} {p : Nat} {r : Option Nat} (h : Wrote w a p r) (hb : Below a.heap.size a b) : Wrote w b p r :=
  ⟨hb.os.trans h.os, hb.tape.trans h.tape, hb.output.trans h.output, Nat.le_trans h.size hb.size, fun k hk h1 h2 => (hb.block k (Nat.lt_of_lt_of_le hk h.size)).trans (h.block k hk h1 h2)⟩
theorem Wrote.set {w a : World} {p : Nat} {r : Option Nat} (h : Wrote w a p r) (j : Nat) (v : Value) : Wrote w (a.setCell ⟨p, j, none⟩ v) p r :=
  ⟨h.os, h.tape, h.output, by simpa [World.setCell] using h.size, fun k hk h1 h2 => (Below.heap_setCell _ _ _ _ h1).trans (h.block k hk h1 h2)⟩
theorem Wrote.grown {w a b : World} {p : Nat} {r : Option Nat} (h : Wrote w a p r) (hg : a.grownBy b r) : Wrote w b p r :=
  ⟨hg.os.trans h.os, hg.tape.trans h.tape, hg.output.trans h.output, Nat.le_trans h.size hg.size, fun k hk h1 h2 => (hg.block k (Nat.lt_of_lt_of_le hk h.size) h2).trans (h.block k hk h1 h2)⟩
theorem Wrote.setr {w a : World} {p k : Nat} (h : Wrote w a p (some k)) (j : Nat) (v : Value) : Wrote w (a.setCell ⟨k, j, none⟩ v) p (some k) :=
  ⟨h.os, h.tape, h.output, by simpa [World.setCell] using h.size, fun i hi h1 h2 => (Below.heap_setCell _ _ _ _ (fun e => h2 (by rw [e]))).trans (h.block i hi h1 h2)⟩
theorem Wrote.below {w w' : World} {p C : Nat} {r : Option Nat} (h : Wrote w w' p r) (hC : C ≤ p) (hw : C ≤ w.heap.size) (hr : ∀ k, r = some k → C ≤ k) : Below C w w' :=
  ⟨h.os, h.tape, h.output, h.size, fun k hk => h.block k (by omega) (by omega) (fun e => by have := hr k e.symm; omega)⟩
/-- What is no cells lies as it lay. -/
theorem Wrote.keeps {w w' : World} {p B : Nat} {r : Option Nat} {cs : Array Value} {T : TypeId} (h : Wrote w w' p r) (hp : Blk w p cs T) (hr : ∀ k, r = some k → ∃ o : Obj, w.heap[k]? = some o ∧ o.isCells = true) : KeepsFrom B w w' :=
  ⟨h.size, fun k o _ hk ho => (h.block k (Array.getElem?_eq_some_iff.1 hk).1 (fun e => by
    subst e
    rw [show w.heap[k]? = some (.cells cs T (0, 0)) from hp] at hk
    cases hk
    cases ho) (fun e => by
    obtain ⟨o', ho', hc⟩ := hr k e.symm
    rw [hk] at ho'
    cases ho'
    rw [ho] at hc
    cases hc)).trans hk⟩
theorem row_cells {w : World} {base n : Nat} {e : TypeId} {size : Nat} {v : Value} {xs : List Value} (h : w.ownsRow base e size v n xs) : ∀ k, v.ownBlock = some k → ∃ o : Obj, w.heap[k]? = some o ∧ o.isCells = true := fun k hk => by
  rcases h.2 with ⟨rfl, _⟩ | ⟨g, cap, cur, rfl, _, hh, _⟩
  · cases hk
  · cases hk
    exact ⟨_, hh, rfl⟩
theorem row_kept {W W' : World} {base n : Nat} {e : TypeId} {size : Nat} {v : Value} {xs : List Value} {row : Option Nat} (h : W.ownsRow base e size v n xs) (hg : W.grownBy W' row) (hr : ∀ r, row = some r → ∃ o : Obj, W.heap[r]? = some o ∧ o.isCells = false) : W'.ownsRow base e size v n xs := by
  refine h.kept hg ?_
  cases hv : v.ownBlock with
  | none => exact .inl rfl
  | some k =>
    refine .inr fun e => ?_
    obtain ⟨o, ho, hc⟩ := hr k e.symm
    obtain ⟨o', ho', hc'⟩ := row_cells h k hv
    rw [ho] at ho'
    cases ho'
    rw [hc] at hc'
    cases hc'
theorem row_below {w w' : World} {C : Nat} {e : TypeId} {size n : Nat} {v : Value} {xs : List Value} (h : w.ownsRow C e size v n xs) (hb : Below w.heap.size w w') : w'.ownsRow C e size v n xs := by
  refine h.kept (row := none) ⟨hb.os, hb.tape, hb.output, hb.size, fun k hk _ => hb.block k hk⟩ ?_
  cases hv : v.ownBlock with
  | none => exact .inl rfl
  | some k => exact .inr (fun h => by cases h)

theorem row_slice2 {w : World} {C : Nat} {e : TypeId} {size n : Nat} {v : Value} {xs : List Value} (h : w.ownsRow C e size v n xs) : ∃ a c, v = .slice a n c := by
  rcases h.2 with ⟨rfl, rfl⟩ | ⟨g, cap, cur, rfl, _⟩
  · exact ⟨_, _, rfl⟩
  · exact ⟨_, _, rfl⟩
/-- A row of elements is no block of another type. -/
theorem row_ne {W : World} {base n b : Nat} {e T : TypeId} {size : Nat} {v : Value} {xs : List Value} {cs : Array Value} (h : W.ownsRow base e size v n xs) (hb : Blk W b cs T) (hT : (e == T) = false) : v.ownBlock ≠ some b := fun hk => by
  rcases h.2 with ⟨rfl, _⟩ | ⟨g, cap, cur, rfl, _, hh, _⟩
  · cases hk
  · have hg : g = b := by simpa [Value.ownBlock] using hk
    subst hg
    rw [show W.heap[g]? = some (.cells cs T (0, 0)) from hb] at hh
    simp only [Option.some.injEq, Obj.cells.injEq] at hh
    have := hh.2.1
    subst this
    simp at hT
theorem row_other {w : World} {base n p j : Nat} {e : TypeId} {size : Nat} {v u : Value} {xs : List Value} (h : w.ownsRow base e size v n xs) (hp : v.ownBlock ≠ some p) : (w.setCell ⟨p, j, none⟩ u).ownsRow base e size v n xs := by
  refine ⟨h.1, h.2.imp id fun ⟨g, cap, cur, e1, hg, hh, k⟩ => ⟨g, cap, cur, e1, hg, ?_, k⟩⟩
  have hgb : g ≠ p := fun e2 => hp (by rw [e1, e2]; rfl)
  exact (Below.heap_setCell _ _ _ _ hgb).trans hh
theorem then_name {K : Act → World → Prop} {Q : Exit → Act → World → Prop} {a : Act} {w : World} (h : ∀ wS, wS = w → Exit.then K Q .normal a wS) : Exit.then K Q .normal a w := h w rfl

theorem bytes_src {w : World} {b off n : Nat} {f : Nat → Nat} (h : BytesAt w b off n f) : ∀ j v, (fl f n)[j]? = some v → w.cell? ((⟨b, off, none⟩ : Addr).add j) = some v := fun j v hv => by
  have hj : j < n := by
    have := (List.getElem?_eq_some_iff.1 hv).1
    simpa [fl] using this
  have e : (⟨b, off, none⟩ : Addr).add j = ⟨b, off + j, none⟩ := by unfold Addr.add; split <;> simp_all
  rw [e, h.cell j hj, ← hv]
  simp [fl, hj]
theorem fl_one1 (f : Nat → Nat) (n : Nat) : ∀ v ∈ fl f n, v.oneCell' = true := fun v hv => by
  simp only [fl, List.mem_map] at hv
  obtain ⟨j, _, rfl⟩ := hv
  rfl
theorem fl_length (f : Nat → Nat) (n : Nat) : (fl f n).length = n := by simp [fl]
/-- append of nil to a row of the call's own, inside a fence. -/
theorem wpListIn_append_none {F : Fence} {n : Nat} {P : Program} (w : World) {ops : Array Oper} {rest : List Oper} {o : Oper} {a : Act} {Q : Exit → Act → World → Prop}
    (hg : o.guard = none) (s x : Operand) (t : TypeId) (hop : o.op = Op.call { callee := Callee.builtin Builtin.append, args := #[s, x], argTypes := #[t, t] })
    (base : Nat) (e : TypeId) (i : TypeInfo) (size : Nat) (h1 : P.underlying t = some (.slice e)) (h2 : P.info? e = some i)
    (v : Value) (k : Nat) (xs : List Value) (hs : a.eval s = v) (hown : w.ownsRow base e size v k xs) (hx : a.eval x = .slice none 0 0)
    (hK : wpListIn F n P ops Q rest (a.put o.dst v) w) : wpListIn F n P ops Q (o :: rest) a w := by
  refine wpListIn_plain hg fun K hK' => ?_
  have hrun := run_append_owned_none (P := P) w base t o.type e i size h1 h2 v k xs hown
  unfold Oper.wpIn
  refine ⟨?_, ?_⟩
  · simp [Oper.about, hop, resolve, Target.leads, Sem.run_pure]
  · rw [Oper.semAt_plain F _ _ (by rw [hop]; intro c hc'; cases hc')]
    simp [execOp, hop, resolve, invoke, builtin, hs, hx, hrun, Result.andThen]
    exact hK' _ _ hK
/-- The same post, no panic let in. -/
def noPanic (Q : Exit → Act → World → Prop) : Exit → Act → World → Prop | .panic _, _, _ => False | e, a, w => Q e a w
theorem wp_np {P : Program} {c : Code} {Q : Exit → Act → World → Prop} {a : Act} {w : World} (h : c.wp P (noPanic Q) a w) : c.wp P Q a w := wp_mono h fun e a w h => by
  cases e <;> first | exact h | exact h.elim
theorem np_normal {Q : Exit → Act → World → Prop} {a : Act} {w : World} (h : Q .normal a w) : noPanic Q .normal a w := h
/-- The cells of a vector; of a list of vectors. -/
def vc (x : Nat) : List Value := [.int .u64 ((dg 0 x : Nat) : Int), .int .u64 ((dg 1 x : Nat) : Int), .int .u64 ((dg 2 x : Nat) : Int), .int .u64 ((dg 3 x : Nat) : Int)]
def vcs (l : List Nat) : List Value := l.flatMap vc
theorem vcs_snoc (l : List Nat) (x : Nat) : vcs (l ++ [x]) = vcs l ++ vc x := by simp [vcs]
theorem vcs_len (l : List Nat) : (vcs l).length = l.length * 4 := by
  induction l with
  | nil => rfl
  | cons x l ih => simp only [vcs, List.flatMap_cons, List.length_append, List.length_cons] at *; rw [ih]; simp [vc]; omega
theorem vc_one (x : Nat) : ∀ v ∈ vc x, v.oneCell' = true := fun v hv => by
  simp only [vc, List.mem_cons, List.not_mem_nil, or_false] at hv
  rcases hv with rfl | rfl | rfl | rfl <;> rfl
theorem vcs_get (l : List Nat) (i j : Nat) (hi : i < l.length) (hj : j < 4) : (vcs l)[4 * i + j]? = some (.int .u64 ((dg j (l.getD i 0) : Nat) : Int)) := by
  induction l generalizing i with
  | nil => cases hi
  | cons x l ih =>
    have hcons : vcs (x :: l) = vc x ++ vcs l := by simp [vcs]
    rw [hcons]
    cases i with
    | zero =>
      rw [List.getElem?_append_left (by simp [vc]; omega)]
      have h : j = 0 ∨ j = 1 ∨ j = 2 ∨ j = 3 := by omega
      rcases h with rfl | rfl | rfl | rfl <;> rfl
    | succ i =>
      rw [List.getElem?_append_right (by simp [vc]; omega)]
      have := ih i (by simpa using hi)
      rw [show 4 * (i + 1) + j - (vc x).length = 4 * i + j by simp [vc]; omega, this]
      simp [List.getD]
/-- A new block of one vector as a source. -/
theorem vec_src (W : World) (x : Nat) (T : TypeId) : ∀ j u, (vc x)[j]? = some u → (W.alloc (.cells #[.int .u64 ((dg 0 x : Nat) : Int), .int .u64 ((dg 1 x : Nat) : Int), .int .u64 ((dg 2 x : Nat) : Int), .int .u64 ((dg 3 x : Nat) : Int)] T)).cell? ((⟨W.heap.size, 0, none⟩ : Addr).add j) = some u := fun j u hj => by
  have e : (⟨W.heap.size, 0, none⟩ : Addr).add j = ⟨W.heap.size, 0 + j, none⟩ := by unfold Addr.add; split <;> simp_all
  rw [e, Nat.zero_add, cell_of_row _ W.heap.size j _ _ _ (heap_alloc_new W _)]
  rw [← hj]
  exact (Array.getElem?_toList).symm
theorem infoElem : (Tryd.prog.info? 45).map (fun i => (i.zero, i.size, i.bytes)) = some (some (.agg #[.int .u64 0, .int .u64 0, .int .u64 0, .int .u64 0]), 4, 32) := by kernel_rfl
end Go.Proofs.YtpggmebgndkpjaaDoor
