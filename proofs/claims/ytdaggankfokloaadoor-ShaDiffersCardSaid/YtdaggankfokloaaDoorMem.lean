/- Bytes and words in memory. -/
import Derived.Test.YtdaggankfokloaaDoorShaFns
import Derived.Test.YtdaggankfokloaaDoorShaSum
import Derived.Deep.MidRow
import Derived.Laws.CopyOwn
namespace Go.Proofs.YtdaggankfokloaaDoor
set_option linter.all false
open Go Go.RowKit

/-- n bytes lie behind ⟨b, off⟩. -/
structure BytesAt (w : World) (b off n : Nat) (f : Nat → Nat) : Prop where
  lt : ∀ j, f j < 256
  blk : b < w.heap.size
  cell : ∀ j, j < n → w.cell? ⟨b, off + j, none⟩ = some (.int .u8 ((f j : Nat) : Int))
theorem BytesAt.below {w w' : World} {b off n : Nat} {f : Nat → Nat} (h : BytesAt w b off n f) (hb : Below w.heap.size w w') : BytesAt w' b off n f :=
  ⟨h.lt, Nat.lt_of_lt_of_le h.blk hb.size, fun j hj => (hb.cell (p := ⟨b, off + j, none⟩) h.blk).trans (h.cell j hj)⟩
theorem BytesAt.kept {w w' : World} {C b off n : Nat} {f : Nat → Nat} (h : BytesAt w b off n f) (hb : Below C w w') (hC : b < C) (hs : w.heap.size ≤ w'.heap.size) : BytesAt w' b off n f :=
  ⟨h.lt, Nat.lt_of_lt_of_le h.blk hs, fun j hj => (hb.cell (p := ⟨b, off + j, none⟩) hC).trans (h.cell j hj)⟩
theorem BytesAt.part {w : World} {b off n : Nat} {f : Nat → Nat} (h : BytesAt w b off n f) (k m : Nat) (hk : k + m ≤ n) : BytesAt w b (off + k) m (fun j => f (k + j)) :=
  ⟨fun j => h.lt _, h.blk, fun j hj => by rw [Nat.add_assoc]; exact h.cell (k + j) (by omega)⟩
theorem BytesAt.take {w : World} {b off n : Nat} {f : Nat → Nat} (h : BytesAt w b off n f) (m : Nat) (hk : m ≤ n) : BytesAt w b off m f :=
  ⟨h.lt, h.blk, fun j hj => h.cell j (by omega)⟩

/-- Block b holds the n words g. -/
structure WordsAt (w : World) (b n : Nat) (g : Nat → Nat) : Prop where
  blk : b < w.heap.size
  cell : ∀ j, j < n → w.cell? ⟨b, j, none⟩ = some (.int .u32 ((g j : Nat) : Int))
  fz : ∀ j, w.frozen? ⟨b, j, none⟩ = false
theorem WordsAt.below {w w' : World} {C b n : Nat} {g : Nat → Nat} (h : WordsAt w b n g) (hb : Below C w w') (hC : b < C) (hs : w.heap.size ≤ w'.heap.size) : WordsAt w' b n g :=
  ⟨Nat.lt_of_lt_of_le h.blk hs, fun j hj => (hb.cell (p := ⟨b, j, none⟩) hC).trans (h.cell j hj), fun j => (hb.frozen (p := ⟨b, j, none⟩) hC).trans (h.fz j)⟩
theorem WordsAt.drew {w : World} {b n : Nat} {g : Nat → Nat} (h : WordsAt w b n g) : WordsAt w.drew b n g := ⟨h.blk, h.cell, h.fz⟩
def upd (g : Nat → Nat) (i v j : Nat) : Nat := if j = i then v else g j
theorem WordsAt.set {w : World} {b n i : Nat} {g : Nat → Nat} (h : WordsAt w b n g) (hi : i < n) (v : Nat) : WordsAt (w.setCell ⟨b, i, none⟩ (.int .u32 ((v : Nat) : Int))) b n (upd g i v) := by
  refine ⟨by simpa [World.setCell] using h.blk, fun j hj => ?_, fun j => ?_⟩
  · unfold upd
    by_cases e : j = i
    · subst e
      rw [if_pos rfl]
      exact World.cell?_setCell_same' w _ _ (by rw [h.cell j hj]; rfl)
    · rw [if_neg e]
      rw [World.cell?_setCell_other (w := w) (v := .int .u32 ((v : Nat) : Int)) (a := ⟨b, i, none⟩) (b := ⟨b, j, none⟩) (fun q => e (by injection q with q1 q2; exact q2.symm))]
      exact h.cell j hj
  · rw [World.frozen?_setCell]
    exact h.fz j
/-- n words, as a list of values. -/
def ws (g : Nat → Nat) (n : Nat) : List Value := (List.range n).map fun j => Value.int .u32 ((g j : Nat) : Int)
theorem ws_len (g : Nat → Nat) (n : Nat) : (ws g n).length = n := by simp [ws]
theorem ws_get (g : Nat → Nat) (n j : Nat) (h : j < n) : (ws g n)[j]? = some (.int .u32 ((g j : Nat) : Int)) := by simp [ws, h]
theorem ws_congr {g g' : Nat → Nat} {n : Nat} (h : ∀ j, j < n → g j = g' j) : ws g n = ws g' n := by
  unfold ws
  exact List.map_congr_left fun j hj => by rw [h j (List.mem_range.1 hj)]
theorem heap_alloc_at {w : World} {o : Obj} {g : Nat} (h : w.heap.size = g) : (w.alloc o).heap[g]? = some o := by subst h; exact heap_alloc_new w o
theorem words_lit {w : World} {b n : Nat} {cs : List Value} {t : TypeId} {g : Nat → Nat} (h : w.heap[b]? = some (.cells cs.toArray t (0, 0))) (hc : ∀ j, j < n → cs[j]? = some (.int .u32 ((g j : Nat) : Int))) : WordsAt w b n g := by
  refine ⟨(Array.getElem?_eq_some_iff.1 h).1, fun j hj => ?_, fun j => ?_⟩
  · rw [cell_of_row w b j _ _ _ h, List.getElem?_toArray]
    exact hc j hj
  · exact frozen_of_row w b j _ _ h

theorem run_loadVar_at {P : Program} (w : World) (a : Addr) (ty e : TypeId) (m : Nat) (cs : List Value) (hc : ∀ j v, cs[j]? = some v → w.cell? (a.add j) = some v)
    (hu : P.underlying ty = some (.array m e)) (hi : (P.info? ty).map (·.size) = some cs.length) :
    (loadVar ty a).run P w = .ok (.agg cs.toArray) w := by
  have hl : (loadCells a cs.length).run P w = .ok cs.toArray w := run_loadCells_list (P := P) w a cs hc
  have hagg : (isAgg ty).run P w = .ok true w := by
    unfold isAgg
    rw [Sem.run_bind, run_underlying hu w]
    rfl
  cases hq : P.info? ty with
  | none => rw [hq] at hi; cases hi
  | some i =>
    have hs : i.size = cs.length := by rw [hq] at hi; simpa using hi
    simp [loadVar, Sem.run_bind, hagg, sizeOf, typeInfo, hq, hs, hl]
/-- A whole array of words is read. -/
theorem load_words {w : World} {b n : Nat} {g : Nat → Nat} {ty e : TypeId} {m : Nat} (h : WordsAt w b n g) (hu : Tryd.prog.underlying ty = some (.array m e))
    (hi : (Tryd.prog.info? ty).map (·.size) = some n) : (Instr.loadAt ty (.pointer (some ⟨b, 0, none⟩))).run Tryd.prog w = .ok (.agg (ws g n).toArray) w := by
  have := run_loadVar_at (P := Tryd.prog) w ⟨b, 0, none⟩ ty e m (ws g n) (fun j v hj => by
    have hjn : j < n := by
      have := (List.getElem?_eq_some_iff.1 hj).1
      rwa [ws_len] at this
    rw [ws_get g n j hjn] at hj
    cases hj
    have e : (⟨b, 0, none⟩ : Addr).add j = ⟨b, 0 + j, none⟩ := by unfold Addr.add; split <;> simp_all
    rw [e, Nat.zero_add]
    exact h.cell j hjn) hu (by rw [ws_len]; exact hi)
  simp only [Instr.loadAt, Instr.sureAddr, Sem.run_bind, Sem.run_pure, Result.andThen_ok, this]
theorem WordsAt.there {w : World} {b n : Nat} {g : Nat → Nat} (h : WordsAt w b n g) : w.there b 0 n := fun j hj => by
  rw [Nat.zero_add]
  exact ⟨by rw [h.cell j hj]; rfl, h.fz j⟩
theorem there_ws {w : World} {b n : Nat} {g g' : Nat → Nat} (h : WordsAt w b n g) : w.there b 0 (ws g' n).toArray.size := by rw [List.size_toArray, ws_len]; exact h.there
theorem info_ws {ty : TypeId} {n : Nat} {g : Nat → Nat} (hi : (Tryd.prog.info? ty).map (·.size) = some n) : (Tryd.prog.info? ty).map (·.size) = some (ws g n).toArray.size := by rw [List.size_toArray, ws_len]; exact hi
theorem ws_one (g : Nat → Nat) (n : Nat) : (ws g n).toArray.all (·.oneCell') = true := all_oneCell_toArray fun v hv => by
  simp only [ws, List.mem_map] at hv
  obtain ⟨j, _, rfl⟩ := hv
  rfl
theorem below_setCells {B b : Nat} (hb : B ≤ b) : ∀ (vs : List Value) (o : Nat) (w0 w : World), Below B w0 w → Below B w0 (w.setCells b o vs)
  | [], _, _, _, h => h
  | v :: r, o, w0, w, h => by
    unfold World.setCells
    exact below_setCells hb r _ _ _ (h.setCell hb v)
theorem size_setCells (b : Nat) : ∀ (vs : List Value) (o : Nat) (w : World), (w.setCells b o vs).heap.size = w.heap.size
  | [], _, _ => rfl
  | v :: r, o, w => by
    unfold World.setCells
    rw [size_setCells b r]
    simp [World.setCell]
theorem WordsAt.stored {w : World} {b n : Nat} {g g' : Nat → Nat} (h : WordsAt w b n g') : WordsAt (w.setCells b 0 (ws g n)) b n g := by
  refine ⟨by rw [size_setCells]; exact h.blk, fun j hj => ?_, fun j => ?_⟩
  · have := World.rangeAt_setCells_same w b 0 (ws g n) (by rw [ws_len]; exact h.there) j _ (ws_get g n j hj)
    rwa [Nat.zero_add] at this
  · rw [World.frozen?_setCells]
    exact h.fz j
theorem wpList_load_of {P : Program} {ops : Array Oper} {rest : List Oper} {o : Oper} {a : Act} {w : World} {Q : Exit → Act → World → Prop} (hgd : o.guard = none) (ty : TypeId) (x : Operand) (ho : o.op = .load ty x)
    (p v : Value) (hx : a.eval x = p) (hv : (Instr.loadAt ty p).run P w = .ok v w) (h : wpList P ops Q rest (a.put o.dst v) w) : wpList P ops Q (o :: rest) a w :=
  wpList_plain hgd fun K hK => by
    unfold Oper.wp execOp
    simp only [ho, hx, Sem.run_bind, Sem.run_pure, Result.andThen_ok, hv]
    exact hK _ _ h
theorem exec_load {P : Program} {ρ : Operand → Value} {o : Oper} {w : World} {ty : TypeId} {x : Operand} {p v : Value} (ho : o.op = .load ty x) (hx : ρ x = p) (hv : (Instr.loadAt ty p).run P w = .ok v w) :
    (execOp ρ o).run P w = .ok (.value v) w := by
  unfold execOp
  simp only [ho, hx, Sem.run_bind, Sem.run_pure, Result.andThen_ok, hv]
/-- A function whose one result lies in a cell: an array of words. -/
theorem results_words {fn : Func} {x : Tmp} {ty e : TypeId} {m n b : Nat} {g : Nat → Nat} {w : World} {tmps : Array Value} (hr : fn.results = #[.cell x ty]) (hx : tmps.getD x undef = .pointer (some ⟨b, 0, none⟩)) (h : WordsAt w b n g)
    (hu : Tryd.prog.underlying ty = some (.array m e)) (hi : (Tryd.prog.info? ty).map (·.size) = some n) : (results fn tmps).run Tryd.prog w = .ok (.agg (ws g n).toArray) w := by
  have hl := load_words h hu hi
  simp only [Instr.loadAt, Instr.sureAddr, Sem.run_bind, Sem.run_pure, Result.andThen_ok] at hl
  have hx' : tmps[x]?.getD undef = .pointer (some ⟨b, 0, none⟩) := by simpa using hx
  simp [results, hr, hx', Sem.run_bind, asAddr, hl]
theorem wpList_copy_row {P : Program} {w : World} {ops : Array Oper} {rest : List Oper} {o : Oper} {a : Act} {Q : Exit → Act → World → Prop} (hgd : o.guard = none) (d s : Operand) (dT sT : TypeId)
    (ho : o.op = .call { callee := .builtin .copy, args := #[d, s], argTypes := #[dT, sT] }) (elem : TypeId) (hu : P.underlying dT = some (.slice elem)) (hsz : (P.info? elem).map (·.size) = some 1)
    (g off dLen dCap : Nat) (ad : Addr) (sLen sCap : Nat) (hd : a.eval d = .slice (some ⟨g, off, none⟩) dLen dCap) (hs : a.eval s = .slice (some ad) sLen sCap)
    (cur : List Value) (t : TypeId) (hg : w.heap[g]? = some (.cells cur.toArray t (0, 0))) (cs : List Value) (hn : cs.length = Nat.min sLen dLen)
    (hsrc : ∀ j v, cs[j]? = some v → w.cell? (ad.add j) = some v) (hfit : off + cs.length ≤ cur.length) (h1 : ∀ v ∈ cs, v.oneCell' = true)
    (h : ∀ w', Hid (w'.heap[g]? = some (.cells (splice cur off cs).toArray t (0, 0))) → Hid (∀ k, k ≠ g → w'.heap[k]? = w.heap[k]?) → w'.heap.size = w.heap.size → Hid (∀ B, B ≤ g → Below B w w') → wpList P ops Q rest (a.put o.dst (goInt cs.length)) w') :
    wpList P ops Q (o :: rest) a w := by
  refine wpList_copy_own hgd d s dT sT ho elem hu hsz g off dLen dCap ad sLen sCap hd hs cur.toArray t hg cs hn hsrc (by simpa using hfit) h1 ?_
  refine h _ ?_ (fun k hk => setRow_other w g k _ hk) (by simp [World.setRow]) (fun B hB => below_setRow (Below.refl _ _) hB _)
  show _ = _
  rw [setRow_heap w g _ _ t _ hg]
  simp [splice]


/-- The bytes f, as a list of values. -/
def fl (f : Nat → Nat) (n : Nat) : List Value := (List.range n).map fun j => Value.int .u8 ((f j : Nat) : Int)
theorem fl_len (f : Nat → Nat) (n : Nat) : (fl f n).length = n := by simp [fl]
theorem fl_get (f : Nat → Nat) (n j : Nat) (h : j < n) : (fl f n)[j]? = some (.int .u8 ((f j : Nat) : Int)) := by simp [fl, h]
theorem fl_one (f : Nat → Nat) (n : Nat) : ∀ v ∈ fl f n, v.oneCell' = true := fun v hv => by
  simp only [fl, List.mem_map] at hv
  obtain ⟨j, _, rfl⟩ := hv
  rfl
theorem fl_congr {f g : Nat → Nat} {n : Nat} (h : ∀ j, j < n → f j = g j) : fl f n = fl g n := by
  unfold fl
  exact List.map_congr_left fun j hj => by rw [h j (List.mem_range.1 hj)]
theorem fl_add (f : Nat → Nat) (m n : Nat) : fl f m ++ fl (fun j => f (m + j)) n = fl f (m + n) := by
  apply List.ext_getElem?
  intro j
  by_cases h1 : j < m
  · rw [List.getElem?_append_left (by rw [fl_len]; exact h1), fl_get f m j h1, fl_get f (m + n) j (by omega)]
  · rw [List.getElem?_append_right (by rw [fl_len]; omega), fl_len]
    by_cases h2 : j < m + n
    · rw [fl_get _ n (j - m) (by omega), fl_get f (m + n) j h2, show m + (j - m) = j by omega]
    · rw [List.getElem?_eq_none (by rw [fl_len]; omega), List.getElem?_eq_none (by rw [fl_len]; omega)]

/-- A slice of n bytes: nil, or at an address. -/
structure SliceAt (w : World) (a : Option Addr) (n c : Nat) (f : Nat → Nat) : Prop where
  lt : ∀ j, f j < 256
  cap : n ≤ c
  at_ : (a = none ∧ n = 0 ∧ c = 0) ∨ ∃ ad, a = some ad ∧ (0 < n → ∃ b off, ad = ⟨b, off, none⟩ ∧ BytesAt w b off n f)
theorem SliceAt.below {w w' : World} {a : Option Addr} {n c : Nat} {f : Nat → Nat} (h : SliceAt w a n c f) (hb : Below w.heap.size w w') : SliceAt w' a n c f :=
  ⟨h.lt, h.cap, h.at_.imp id fun ⟨ad, e, k⟩ => ⟨ad, e, fun hn => by obtain ⟨b, off, e2, hB⟩ := k hn; exact ⟨b, off, e2, hB.below hb⟩⟩⟩
theorem BytesAt.src {w : World} {b off n : Nat} {f : Nat → Nat} (h : BytesAt w b off n f) : ∀ j v, (fl f n)[j]? = some v → w.cell? ((⟨b, off, none⟩ : Addr).add j) = some v := fun j v hv => by
  have hj : j < n := by have := (List.getElem?_eq_some_iff.1 hv).1; rwa [fl_len] at this
  rw [fl_get f n j hj] at hv
  cases hv
  have e : (⟨b, off, none⟩ : Addr).add j = ⟨b, off + j, none⟩ := by unfold Addr.add; split <;> simp_all
  rw [e]
  exact h.cell j hj
theorem infoByte : (Tryd.prog.info? 5).map (fun i => (i.zero, i.size, i.bytes)) = some (some (.int .u8 0), 1, 1) := by kernel_rfl
end Go.Proofs.YtdaggankfokloaaDoor
