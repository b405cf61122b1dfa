/- The round constants and the start state; the two listed variables. -/
import Derived.Test.YtdaggankfokloaaDoorMem
namespace Go.Proofs.YtdaggankfokloaaDoor
set_option linter.all false
open Go Go.RowKit

def Kl : List Nat := [1116352408, 1899447441, 3049323471, 3921009573, 961987163, 1508970993, 2453635748, 2870763221, 3624381080, 310598401, 607225278, 1426881987, 1925078388, 2162078206, 2614888103, 3248222580, 3835390401, 4022224774, 264347078, 604807628, 770255983, 1249150122, 1555081692, 1996064986, 2554220882, 2821834349, 2952996808, 3210313671, 3336571891, 3584528711, 113926993, 338241895, 666307205, 773529912, 1294757372, 1396182291, 1695183700, 1986661051, 2177026350, 2456956037, 2730485921, 2820302411, 3259730800, 3345764771, 3516065817, 3600352804, 4094571909, 275423344, 430227734, 506948616, 659060556, 883997877, 958139571, 1322822218, 1537002063, 1747873779, 1955562222, 2024104815, 2227730452, 2361852424, 2428436474, 2756734187, 3204031479, 3329325298]
/-- Round constant t. -/
def K (t : Nat) : Nat := Kl.getD t 0
theorem K_lt (t : Nat) : K t < B := by
  unfold K
  by_cases h : t < 64
  · have : ∀ t, t < 64 → Kl.getD t 0 < B := by decide
    exact this t h
  · rw [List.getD_eq_getElem?_getD, List.getElem?_eq_none (by show 64 ≤ t; omega)]
    decide
def s0 : St := ⟨1779033703, 3144134277, 1013904242, 2773480762, 1359893119, 2600822924, 528734635, 1541459225⟩
theorem s0_ok : s0.Ok := ⟨by decide, by decide, by decide, by decide, by decide, by decide, by decide, by decide⟩

/-- The two variables of the package hold what the program's text lays. -/
structure Laid (w : World) : Prop where
  k : ∀ j, j < 64 → w.cell? ⟨1, j, none⟩ = some (.int .u32 ((K j : Nat) : Int))
  s : ∀ j, j < 8 → w.cell? ⟨0, j, none⟩ = some (.int .u32 ((s0.at j : Nat) : Int))
theorem lt_of_cell {w : World} {b j : Nat} {v : Value} (h : w.cell? ⟨b, j, none⟩ = some v) : b < w.heap.size := World.block_lt_of_cell? w _ h
theorem Laid.below {C : Nat} {w w' : World} (h : Laid w) (hb : Below C w w') (hC : w.heap.size ≤ C) : Laid w' :=
  ⟨fun j hj => (hb.cell (p := ⟨_, j, none⟩) (Nat.lt_of_lt_of_le (lt_of_cell (h.k j hj)) hC)).trans (h.k j hj), fun j hj => (hb.cell (p := ⟨_, j, none⟩) (Nat.lt_of_lt_of_le (lt_of_cell (h.s j hj)) hC)).trans (h.s j hj)⟩
theorem Laid.step {w w' : World} (h : Laid w) (hb : Below w.heap.size w w') : Laid w' := h.below hb (Nat.le_refl _)
theorem Laid.kept {w w' : World} {C : Nat} (h : Laid w) (hb : Below C w w') (hk : 1 < C) (hs : 0 < C) : Laid w' :=
  ⟨fun j hj => (hb.cell (p := ⟨_, j, none⟩) hk).trans (h.k j hj), fun j hj => (hb.cell (p := ⟨_, j, none⟩) hs).trans (h.s j hj)⟩

/-- A state, as a value. -/
abbrev stV (s : St) : Value := .agg #[.int .u32 ((s.a : Nat) : Int), .int .u32 ((s.b : Nat) : Int), .int .u32 ((s.c : Nat) : Int), .int .u32 ((s.d : Nat) : Int), .int .u32 ((s.e : Nat) : Int), .int .u32 ((s.f : Nat) : Int), .int .u32 ((s.g : Nat) : Int), .int .u32 ((s.h : Nat) : Int)]
theorem stV_ws (s : St) : stV s = .agg (ws s.at 8).toArray := rfl

/-- Word i of an array of words that stands in the frame. -/
theorem size_u32 (w : World) : (sizeOf 42).run Tryd.prog w = .ok 1 w := by kernel_rfl
theorem run_index_ws {ty : TypeId} {n : Nat} (g : Nat → Nat) (k : Nat) (hk : k < n) (hu : Tryd.prog.underlying ty = some (.array n 42)) (w : World) :
    (Instr.index ty (.agg (ws g n).toArray) (.int .i64 (k : Int))).run Tryd.prog w = .ok (.int .u32 ((g k : Nat) : Int)) w := by
  have h0 : (0 : Int) ≤ (k : Int) ∧ (k : Int) < (n : Int) := by omega
  have hg : (ws g n).toArray[k]? = some (.int .u32 ((g k : Nat) : Int)) := by rw [List.getElem?_toArray]; exact ws_get g n k hk
  simp [Instr.index, asIntOf, run_underlying hu, h0.2, size_u32, part, Sem.run_bind, isAgg, run_underlying Tryd.underlying42]
  rw [if_pos hk, ws_get g n k hk]
  rfl
theorem wpList_index_of {P : Program} {ops : Array Oper} {rest : List Oper} {o : Oper} {a : Act} {w : World} {Q : Exit → Act → World → Prop} (hgd : o.guard = none) (ty : TypeId) (x ix : Operand) (ho : o.op = .index ty x ix)
    (p i v : Value) (hx : a.eval x = p) (hi : a.eval ix = i) (hv : (Instr.index ty p i).run P w = .ok v w) (h : wpList P ops Q rest (a.put o.dst v) w) : wpList P ops Q (o :: rest) a w :=
  wpList_plain hgd fun K hK => by
    unfold Oper.wp execOp
    simp only [ho, hx, hi, Sem.run_bind, Sem.run_pure, Result.andThen_ok, hv]
    exact hK _ _ h

/-- Block b is the words g and nothing else. -/
def RowW (w : World) (b n : Nat) (g : Nat → Nat) (T : TypeId) : Prop := w.heap[b]? = some (.cells (ws g n).toArray T (0, 0))
theorem RowW.words {w : World} {b n : Nat} {g : Nat → Nat} {T : TypeId} (h : RowW w b n g T) : WordsAt w b n g := words_lit h (fun j hj => ws_get g n j hj)
theorem RowW.drew {w : World} {b n : Nat} {g : Nat → Nat} {T : TypeId} (h : RowW w b n g T) : RowW w.drew b n g T := h
theorem ws_set (g : Nat → Nat) (n i v : Nat) (hi : i < n) : (ws g n).set i (.int .u32 ((v : Nat) : Int)) = ws (upd g i v) n := by
  apply List.ext_getElem?
  intro j
  by_cases hj : j < n
  · rw [ws_get _ n j hj, List.getElem?_set]
    unfold upd
    by_cases e : i = j
    · subst e; rw [if_pos rfl, if_pos (by rw [ws_len]; exact hi), if_pos rfl]
    · rw [if_neg e, if_neg (fun q => e q.symm), ws_get g n j hj]
  · rw [List.getElem?_eq_none (by rw [List.length_set, ws_len]; omega), List.getElem?_eq_none (by rw [ws_len]; omega)]
theorem RowW.set {w : World} {b n i : Nat} {g : Nat → Nat} {T : TypeId} (h : RowW w b n g T) (hi : i < n) (v : Nat) : RowW (w.setCell ⟨b, i, none⟩ (.int .u32 ((v : Nat) : Int))) b n (upd g i v) T := by
  unfold RowW
  rw [heap_setCell_same w b i _ T _ h, List.setIfInBounds_toArray, ws_set g n i v hi]
theorem RowW.below {w w' : World} {C b n : Nat} {g : Nat → Nat} {T : TypeId} (h : RowW w b n g T) (hb : Below C w w') (hC : b < C) : RowW w' b n g T := (hb.block b hC).trans h
theorem RowW.congr {w : World} {b n : Nat} {g g' : Nat → Nat} {T : TypeId} (h : RowW w b n g T) (e : ∀ j, j < n → g j = g' j) : RowW w b n g' T := by
  unfold RowW at *
  rw [← ws_congr e]
  exact h
end Go.Proofs.YtdaggankfokloaaDoor
