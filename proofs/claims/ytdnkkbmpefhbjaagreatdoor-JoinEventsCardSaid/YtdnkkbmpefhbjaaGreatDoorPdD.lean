/- Part 4 of what the proof of JoinEvents needs: joined out of the texts of this seat, only what is used. -/
import Derived.Test.YtdnkkbmpefhbjaaGreatDoorPdC
import Derived.Deep.AppendSrc
import Derived.Deep.Upon
import Derived.Shelf.Bytes.SlEqualAll
namespace Go.Proofs.YtdnkkbmpefhbjaaGreatDoor
set_option linter.all false
open Go Go.RowKit
/-- Block b holds these cells and nothing else. -/
def Blk (W : World) (b : Nat) (cs : Array Value) (T : TypeId) : Prop := W.heap[b]? = some (.cells cs T (0, 0))
theorem Blk.lt {W : World} {b : Nat} {cs : Array Value} {T : TypeId} (h : Blk W b cs T) : b < W.heap.size := (Array.getElem?_eq_some_iff.1 h).1
theorem Blk.same {W W' : World} {b : Nat} {cs : Array Value} {T : TypeId} (h : Blk W b cs T) (e : W'.heap[b]? = W.heap[b]?) : Blk W' b cs T := Eq.trans e h
theorem Blk.below {W W' : World} {B b : Nat} {cs : Array Value} {T : TypeId} (h : Blk W b cs T) (hb : Below B W W') (hB : b < B) : Blk W' b cs T := h.same (hb.block b hB)
theorem Blk.kept {W W' : World} {b : Nat} {cs : Array Value} {T : TypeId} {row : Option Nat} (h : Blk W b cs T) (hg : W.grownBy W' row) (hr : ∀ r, row = some r → ∃ o : Obj, W.heap[r]? = some o ∧ o.isCells = false) : Blk W' b cs T := by
  refine h.same (hg.block b h.lt fun e => ?_)
  obtain ⟨o, ho, hc⟩ := hr b e.symm
  rw [show W.heap[b]? = some (.cells cs T (0, 0)) from h] at ho
  cases ho
  cases hc
theorem Blk.cell {W : World} {b j : Nat} {cs : Array Value} {T : TypeId} {v : Value} (h : Blk W b cs T) (hv : cs[j]? = some v) : W.cell? ⟨b, j, none⟩ = some v := by rw [cell_of_row W b j _ _ _ h]; exact hv
theorem Blk.fz {W : World} {b : Nat} {cs : Array Value} {T : TypeId} (h : Blk W b cs T) (j : Nat) : W.frozen? ⟨b, j, none⟩ = false := frozen_of_row W b j _ _ h
theorem Blk.new {W : World} {b : Nat} {cs : Array Value} {T : TypeId} (h : b = W.heap.size) : Blk (W.alloc (.cells cs T)) b cs T := by subst h; exact heap_alloc_new W _
theorem Blk.alloc {W : World} {b : Nat} {cs : Array Value} {T : TypeId} (h : Blk W b cs T) (o : Obj) : Blk (W.alloc o) b cs T := h.same (Below.heap_alloc W o b h.lt)
theorem Blk.set {W : World} {b : Nat} {v u : Value} {T : TypeId} (h : Blk W b #[v] T) : Blk (W.setCell ⟨b, 0, none⟩ u) b #[u] T := by
  unfold Blk
  rw [heap_setCell_same W b 0 _ T _ h]
  rfl
theorem Blk.other {W : World} {b p j : Nat} {cs : Array Value} {T : TypeId} {u : Value} (h : Blk W b cs T) (hp : b ≠ p) : Blk (W.setCell ⟨p, j, none⟩ u) b cs T := h.same (Below.heap_setCell _ _ _ _ hp)
def fieldA (s : Bool) : Array Value := match fieldV s with | .agg xs => xs | _ => #[]
theorem load_field (s : Bool) {W : World} {b : Nat} (h : ∀ (j : Nat) v, (fieldA s)[j]? = some v → W.cell? ⟨b, j, none⟩ = some v) : (Instr.loadAt 120 (.pointer (some ⟨b, 0, none⟩))).run Tryz.prog W = .ok (fieldV s) W := by
  have := run_loadVar_at (P := Tryz.prog) W ⟨b, 0, none⟩ 120 (fieldA s).toList _ (fun j v hj => by
    have e : (⟨b, 0, none⟩ : Addr).add j = ⟨b, 0 + j, none⟩ := by unfold Addr.add; split <;> simp_all
    rw [e, Nat.zero_add]
    exact h j v (by rw [← Array.getElem?_toList]; exact hj)) Tryz.underlying120 rfl (by kernel_rfl)
  simp only [Instr.loadAt, Instr.sureAddr, Sem.run_bind, Sem.run_pure, Result.andThen_ok, this]
  rfl
/-- Of the old blocks only p and the row r may have been written. -/
structure Wrote (w w' : World) (p : Nat) (r : Option Nat) : Prop where
  os : w'.os = w.os
  tape : w'.tape = w.tape
  output : w'.output = w.output
  size : w.heap.size ≤ w'.heap.size
  block : ∀ k, k < w.heap.size → k ≠ p → some k ≠ r → w'.heap[k]? = w.heap[k]?
theorem Wrote.refl (w : World) (p : Nat) (r : Option Nat) : Wrote w w p r := ⟨rfl, rfl, rfl, Nat.le_refl _, fun _ _ _ _ => rfl⟩
theorem Wrote.step {w a b : World} {p : Nat} {r : Option Nat} (h : Wrote w a p r) (hb : Below a.heap.size a b) : Wrote w b p r :=
  ⟨hb.os.trans h.os, hb.tape.trans h.tape, hb.output.trans h.output, Nat.le_trans h.size hb.size, fun k hk h1 h2 => (hb.block k (Nat.lt_of_lt_of_le hk h.size)).trans (h.block k hk h1 h2)⟩
theorem Wrote.set {w a : World} {p : Nat} {r : Option Nat} (h : Wrote w a p r) (j : Nat) (v : Value) : Wrote w (a.setCell ⟨p, j, none⟩ v) p r :=
  ⟨h.os, h.tape, h.output, by simpa [World.setCell] using h.size, fun k hk h1 h2 => (Below.heap_setCell _ _ _ _ h1).trans (h.block k hk h1 h2)⟩
theorem Wrote.grown {w a b : World} {p : Nat} {r : Option Nat} (h : Wrote w a p r) (hg : a.grownBy b r) : Wrote w b p r :=
  ⟨hg.os.trans h.os, hg.tape.trans h.tape, hg.output.trans h.output, Nat.le_trans h.size hg.size, fun k hk h1 h2 => (hg.block k (Nat.lt_of_lt_of_le hk h.size) h2).trans (h.block k hk h1 h2)⟩
theorem Wrote.setr {w a : World} {p k : Nat} (h : Wrote w a p (some k)) (j : Nat) (v : Value) : Wrote w (a.setCell ⟨k, j, none⟩ v) p (some k) :=
  ⟨h.os, h.tape, h.output, by simpa [World.setCell] using h.size, fun i hi h1 h2 => (Below.heap_setCell _ _ _ _ (fun e => h2 (by rw [e]))).trans (h.block i hi h1 h2)⟩
theorem Wrote.below {w w' : World} {p C : Nat} {r : Option Nat} (h : Wrote w w' p r) (hC : C ≤ p) (hw : C ≤ w.heap.size) (hr : ∀ k, r = some k → C ≤ k) : Below C w w' :=
  ⟨h.os, h.tape, h.output, h.size, fun k hk => h.block k (by omega) (by omega) (fun e => by have := hr k e.symm; omega)⟩
/-- What is no cells lies as it lay. -/
theorem Wrote.keeps {w w' : World} {p B : Nat} {r : Option Nat} {cs : Array Value} {T : TypeId} (h : Wrote w w' p r) (hp : Blk w p cs T) (hr : ∀ k, r = some k → ∃ o : Obj, w.heap[k]? = some o ∧ o.isCells = true) : KeepsFrom B w w' :=
  ⟨h.size, fun k o _ hk ho => (h.block k (Array.getElem?_eq_some_iff.1 hk).1 (fun e => by
    subst e
    rw [show w.heap[k]? = some (.cells cs T (0, 0)) from hp] at hk
    cases hk
    cases ho) (fun e => by
    obtain ⟨o', ho', hc⟩ := hr k e.symm
    rw [hk] at ho'
    cases ho'
    rw [ho] at hc
    cases hc)).trans hk⟩
theorem row_cells {w : World} {base n : Nat} {e : TypeId} {size : Nat} {v : Value} {xs : List Value} (h : w.ownsRow base e size v n xs) : ∀ k, v.ownBlock = some k → ∃ o : Obj, w.heap[k]? = some o ∧ o.isCells = true := fun k hk => by
  rcases h.2 with ⟨rfl, _⟩ | ⟨g, cap, cur, rfl, _, hh, _⟩
  · cases hk
  · cases hk
    exact ⟨_, hh, rfl⟩
theorem row_kept {W W' : World} {base n : Nat} {e : TypeId} {size : Nat} {v : Value} {xs : List Value} {row : Option Nat} (h : W.ownsRow base e size v n xs) (hg : W.grownBy W' row) (hr : ∀ r, row = some r → ∃ o : Obj, W.heap[r]? = some o ∧ o.isCells = false) : W'.ownsRow base e size v n xs := by
  refine h.kept hg ?_
  cases hv : v.ownBlock with
  | none => exact .inl rfl
  | some k =>
    refine .inr fun e => ?_
    obtain ⟨o, ho, hc⟩ := hr k e.symm
    obtain ⟨o', ho', hc'⟩ := row_cells h k hv
    rw [ho] at ho'
    cases ho'
    rw [hc] at hc'
    cases hc'
theorem row_below {w w' : World} {C : Nat} {e : TypeId} {size n : Nat} {v : Value} {xs : List Value} (h : w.ownsRow C e size v n xs) (hb : Below w.heap.size w w') : w'.ownsRow C e size v n xs := by
  refine h.kept (row := none) ⟨hb.os, hb.tape, hb.output, hb.size, fun k hk _ => hb.block k hk⟩ ?_
  cases hv : v.ownBlock with
  | none => exact .inl rfl
  | some k => exact .inr (fun h => by cases h)
theorem row_slice2 {w : World} {C : Nat} {e : TypeId} {size n : Nat} {v : Value} {xs : List Value} (h : w.ownsRow C e size v n xs) : ∃ a c, v = .slice a n c := by
  rcases h.2 with ⟨rfl, rfl⟩ | ⟨g, cap, cur, rfl, _⟩
  · exact ⟨_, _, rfl⟩
  · exact ⟨_, _, rfl⟩
/-- A row of elements is no block of another type. -/
theorem row_ne {W : World} {base n b : Nat} {e T : TypeId} {size : Nat} {v : Value} {xs : List Value} {cs : Array Value} (h : W.ownsRow base e size v n xs) (hb : Blk W b cs T) (hT : (e == T) = false) : v.ownBlock ≠ some b := fun hk => by
  rcases h.2 with ⟨rfl, _⟩ | ⟨g, cap, cur, rfl, _, hh, _⟩
  · cases hk
  · have hg : g = b := by simpa [Value.ownBlock] using hk
    subst hg
    rw [show W.heap[g]? = some (.cells cs T (0, 0)) from hb] at hh
    simp only [Option.some.injEq, Obj.cells.injEq] at hh
    have := hh.2.1
    subst this
    simp at hT
theorem row_other {w : World} {base n p j : Nat} {e : TypeId} {size : Nat} {v u : Value} {xs : List Value} (h : w.ownsRow base e size v n xs) (hp : v.ownBlock ≠ some p) : (w.setCell ⟨p, j, none⟩ u).ownsRow base e size v n xs := by
  refine ⟨h.1, h.2.imp id fun ⟨g, cap, cur, e1, hg, hh, k⟩ => ⟨g, cap, cur, e1, hg, ?_, k⟩⟩
  have hgb : g ≠ p := fun e2 => hp (by rw [e1, e2]; rfl)
  exact (Below.heap_setCell _ _ _ _ hgb).trans hh
theorem bytes_src {w : World} {b off n : Nat} {f : Nat → Nat} (h : BytesAt w b off n f) : ∀ j v, (fl f n)[j]? = some v → w.cell? ((⟨b, off, none⟩ : Addr).add j) = some v := fun j v hv => by
  have hj : j < n := by
    have := (List.getElem?_eq_some_iff.1 hv).1
    simpa [fl] using this
  have e : (⟨b, off, none⟩ : Addr).add j = ⟨b, off + j, none⟩ := by unfold Addr.add; split <;> simp_all
  rw [e, h.cell j hj, ← hv]
  simp [fl, hj]
theorem fl_one1 (f : Nat → Nat) (n : Nat) : ∀ v ∈ fl f n, v.oneCell' = true := fun v hv => by
  simp only [fl, List.mem_map] at hv
  obtain ⟨j, _, rfl⟩ := hv
  rfl
theorem fl_length (f : Nat → Nat) (n : Nat) : (fl f n).length = n := by simp [fl]
/-- append of nil to a row of the call's own, inside a fence. -/
theorem wpListIn_append_none {F : Fence} {n : Nat} {P : Program} (w : World) {ops : Array Oper} {rest : List Oper} {o : Oper} {a : Act} {Q : Exit → Act → World → Prop}
    (hg : o.guard = none) (s x : Operand) (t : TypeId) (hop : o.op = Op.call { callee := Callee.builtin Builtin.append, args := #[s, x], argTypes := #[t, t] })
    (base : Nat) (e : TypeId) (i : TypeInfo) (size : Nat) (h1 : P.underlying t = some (.slice e)) (h2 : P.info? e = some i)
    (v : Value) (k : Nat) (xs : List Value) (hs : a.eval s = v) (hown : w.ownsRow base e size v k xs) (hx : a.eval x = .slice none 0 0)
    (hK : wpListIn F n P ops Q rest (a.put o.dst v) w) : wpListIn F n P ops Q (o :: rest) a w := by
  refine wpListIn_plain hg fun K hK' => ?_
  have hrun := run_append_owned_none (P := P) w base t o.type e i size h1 h2 v k xs hown
  unfold Oper.wpIn
  refine ⟨?_, ?_⟩
  · simp [Oper.about, hop, resolve, Target.leads, Sem.run_pure]
  · rw [Oper.semAt_plain F _ _ (by rw [hop]; intro c hc'; cases hc')]
    simp [execOp, hop, resolve, invoke, builtin, hs, hx, hrun, Result.andThen]
    exact hK' _ _ hK
/-- The same post, no panic let in. -/
def noPanic (Q : Exit → Act → World → Prop) : Exit → Act → World → Prop | .panic _, _, _ => False | e, a, w => Q e a w
theorem wp_np {P : Program} {c : Code} {Q : Exit → Act → World → Prop} {a : Act} {w : World} (h : c.wp P (noPanic Q) a w) : c.wp P Q a w := wp_mono h fun e a w h => by
  cases e <;> first | exact h | exact h.elim
theorem np_normal {Q : Exit → Act → World → Prop} {a : Act} {w : World} (h : Q .normal a w) : noPanic Q .normal a w := h
/-- The cells of a vector; of a list of vectors. -/
def vc (x : Nat) : List Value := [.int .u64 ((dg 0 x : Nat) : Int), .int .u64 ((dg 1 x : Nat) : Int), .int .u64 ((dg 2 x : Nat) : Int), .int .u64 ((dg 3 x : Nat) : Int)]
end Go.Proofs.YtdnkkbmpefhbjaaGreatDoor
namespace Go.Proofs.YtdnkkbmpefhbjaaGreatDoor
set_option linter.all false
open Go Go.RowKit Go.Shelf
attribute [local go_sem] Oper.semAt_some
theorem wpi_name {F : Fence} {n : Nat} {P : Program} {Q : Exit → Act → World → Prop} {a : Act} {c : Code} {w : World} (h : ∀ wS, wS = w → c.wpIn F n P Q a wS) : c.wpIn F n P Q a w := h w rfl
/-- Chunk i of n bytes, as an element. -/
def ck (s : Bool) (n : Nat) (f : Nat → Nat) (i : Nat) : Nat := RR s (mulm (pr s) 1 (le (fun j => f (31 * i + j)) (cz n i)))
/-- The reference counts the same. -/
theorem refCount_c (n : Int) (hn : -9223372036854775808 ≤ n) (w : World) : Calls Tryz.prog 103 #[.int .i64 n] w fun e w' => e = .returned (.int .i64 (cn n : Int)) ∧ w = w' := by
  by_cases h1 : 65535 < n
  · have hc : cn n = 0 := by unfold cn; rw [if_neg (by omega)]
    go_enter Tryz.func103, Tryz.ntmps103
    go_wp2_with fail
    go_ret
    exact ⟨by rw [hc]; rfl, rfl⟩
  · skip
    go_enter Tryz.func103, Tryz.ntmps103
    go_wp2_with fail
    go_loop [0, 3] (fun x k => ∃ j : Nat, k = .int .i64 (j : Int) ∧ x = .int .i64 (n - 31 * (j : Int)) ∧ (j : Int) ≤ 2115 ∧ (0 < j → 0 < n - 31 * ((j : Int) - 1))) (fun x _ => (intOf x).toNat)
    case atStart => exact ⟨0, rfl, by simp, by omega, by omega⟩
    case round =>
      obtain ⟨j, rfl, rfl, hj, hp⟩ := hrel
      by_cases hlt : 0 < n - 31 * (j : Int)
      · go_wp2_with fail
        go_round
        case rel => exact ⟨j + 1, by go_num, by rw [show n - 31 * (j : Int) - 31 = n - 31 * ((j + 1 : Nat) : Int) by omega], by omega, fun _ => by omega⟩
        case measure => simp only [intOf]; omega
      · have hc : cn n = j := by unfold cn; by_cases h0 : 0 ≤ n
                                 · rw [if_pos ⟨h0, by omega⟩]; by_cases hz : j = 0
                                   · subst hz; omega
                                   · have := hp (by omega); omega
                                 · rw [if_neg (fun h => h0 h.1)]; by_cases hz : j = 0
                                   · omega
                                   · have := hp (by omega); omega
        go_wp2_with fail
        go_ret
        exact ⟨rfl, rfl⟩
end Go.Proofs.YtdnkkbmpefhbjaaGreatDoor
namespace Go.Proofs.YtdnkkbmpefhbjaaGreatDoor
set_option linter.all false
open Go Go.RowKit
end Go.Proofs.YtdnkkbmpefhbjaaGreatDoor
namespace Go.Proofs.YtdnkkbmpefhbjaaGreatDoor
set_option linter.all false
open Go Go.RowKit
abbrev fieldZ : Value := .agg #[.int .i64 0, .int .u64 0, .int .u64 0, .int .u64 0, .int .u64 0, .int .u64 0, .int .u64 0, .int .u64 0, .int .u64 0, .int .u64 0, .int .u64 0, .int .u64 0, .int .u64 0, .int .u64 0]
set_option maxRecDepth 100000 in
set_option maxHeartbeats 1000000 in
theorem getBad_c (F : Int) (h1 : F ≠ 1) (h2 : F ≠ 2) (w : World) (hL : Laid w) :
    Calls Tryz.prog 85 #[.int .i64 F] w fun e w' => e = .returned (.tuple #[fieldZ, .int .i64 3]) ∧ Below w.heap.size w w' := by
  have i0 := index0
  have i1 := index1
  have q1 : (fid false == F) = false := by rw [beq_eq_false_iff_ne]; exact h1.symm
  have q2 : (fid true == F) = false := by rw [beq_eq_false_iff_ne]; exact h2.symm
  have hg : ∀ o j v, fieldCells[j]? = some v → (w.alloc o).cell? ⟨0, j, none⟩ = some v := fun o => (hL.step ((Below.refl _ _).alloc (Nat.le_refl _) _))
  have Hg := Lib.hid hg
  clear hg h1 h2
  go_enter Tryz.func85, Tryz.ntmps85
  go_wp2_with (refine wpList_load_cells rfl 168 (.global 0) rfl 0 rfl fieldCells _ (Hg.out _) Tryz.underlying168 rfl (by kernel_rfl) ?_; simp only [Act.put, List.setIfInBounds_toArray, List.set_cons_zero, List.set_cons_succ])
  refine wp_loop_rounds 3 ?_
  rw [rounds_succ]
  go_wp2_with fail
  rw [rounds_succ]
  go_wp2_with fail
  rw [rounds_succ]
  go_wp2_with fail
  refine bodyPost_ret (v := .tuple #[fieldZ, .int .i64 3]) (by simp only [results, Tryz.results85]; go_simp) rfl ⟨rfl, ?_⟩
  repeat first
    | with_reducible exact Below.refl _ _
    | with_reducible refine Below.drew ?_
    | with_reducible refine below_dN ?_
    | with_reducible refine Below.alloc ?_ (by first | omega | (simp; done) | (simp; omega)) _
    | with_reducible refine Below.setCell ?_ (by first | omega | (simp; done) | (simp; omega)) _
    | with_reducible refine Below.trans ?_ (Below.mono (by assumption) (by first | omega | (simp; done) | (simp; omega)))
theorem fid_or (s : Bool) : fid s = 1 ∨ fid s = 2 := by cases s <;> decide
theorem fid_dec (s : Bool) : decide (fid s = 2) = s := by cases s <;> decide
theorem between_t (x lo hi : Int) (w : World) (h : lo ≤ x ∧ x ≤ hi) : Calls Tryz.prog 136 #[.int .i64 x, .int .i64 lo, .int .i64 hi] w fun e w' => e = .returned (.bool true) ∧ w = w' := by
  obtain ⟨h1, h2⟩ := h
  have q1 : decide (lo ≤ x) = true := decide_eq_true h1
  have q2 : decide (x ≤ hi) = true := decide_eq_true h2
  go_enter Tryz.func136, Tryz.ntmps136
  go_wp2
  go_ret
  exact ⟨rfl, rfl⟩
theorem between_f (x lo hi : Int) (w : World) (h : ¬ (lo ≤ x ∧ x ≤ hi)) : Calls Tryz.prog 136 #[.int .i64 x, .int .i64 lo, .int .i64 hi] w fun e w' => e = .returned (.bool false) ∧ w = w' := by
  by_cases h1 : lo ≤ x
  · have h2 : ¬ x ≤ hi := fun h2 => h ⟨h1, h2⟩
    have q1 : decide (lo ≤ x) = true := decide_eq_true h1
    have q2 : decide (x ≤ hi) = false := decide_eq_false h2
    clear h h2
    go_enter Tryz.func136, Tryz.ntmps136
    go_wp2
    go_ret
    exact ⟨rfl, rfl⟩
  · have q1 : decide (lo ≤ x) = false := decide_eq_false h1
    clear h h1
    go_enter Tryz.func136, Tryz.ntmps136
    go_wp2
    go_ret
    exact ⟨rfl, rfl⟩
theorem known_t (x : Int) (w : World) (h : x = 1 ∨ x = 2) : Calls Tryz.prog 102 #[.int .i64 x] w fun e w' => e = .returned (.bool true) ∧ w = w' := by
  rcases h with rfl | rfl
  all_goals
    go_enter Tryz.func102, Tryz.ntmps102
    go_wp2
    go_ret
    exact ⟨rfl, rfl⟩
theorem known_f (x : Int) (w : World) (h : ¬ (x = 1 ∨ x = 2)) : Calls Tryz.prog 102 #[.int .i64 x] w fun e w' => e = .returned (.bool false) ∧ w = w' := by
  have h1 : (x == 1) = false := by rw [beq_eq_false_iff_ne]; exact fun e => h (.inl e)
  have h2 : (x == 2) = false := by rw [beq_eq_false_iff_ne]; exact fun e => h (.inr e)
  clear h
  go_enter Tryz.func102, Tryz.ntmps102
  go_wp2
  go_ret
  exact ⟨rfl, rfl⟩
end Go.Proofs.YtdnkkbmpefhbjaaGreatDoor
namespace Go.Proofs.YtdnkkbmpefhbjaaGreatDoor
set_option linter.all false
open Go Go.RowKit
/-- Are the first n numbers less than the modulus? -/
def okB (s : Bool) (X : Nat → Nat) (n : Nat) : Bool := (List.range n).all fun i => decide (X i < pr s)
theorem okB_succ (s : Bool) (X : Nat → Nat) (k : Nat) : okB s X (k + 1) = (okB s X k && decide (X k < pr s)) := by simp [okB, List.range_succ]
theorem okB_at {s : Bool} {X : Nat → Nat} {n : Nat} (h : okB s X n = true) {i : Nat} (hi : i < n) : X i < pr s := by
  have := List.all_eq_true.1 h i (List.mem_range.2 hi)
  simpa using this
theorem okB_of {s : Bool} {X : Nat → Nat} {n : Nat} (h : ∀ i, i < n → X i < pr s) : okB s X n = true := List.all_eq_true.2 fun i hi => by simpa using h i (List.mem_range.1 hi)
theorem contAm (s : Bool) (x : Nat) (hx : x < R4) (w : World) : Calls Tryz.prog 137 #[fieldV s, vec x] w fun e w' => e = .returned (.int .u64 (am (decide (x < pr s)))) ∧ Below w.heap.size w w' := by
  by_cases h : x < pr s
  · rw [decide_eq_true h]; exact containsT_c s x h w
  · rw [decide_eq_false h]; exact containsF_c s x hx h w
/-- The error of a share. -/
def shErr (F T I L : Int) (n : Nat) (X : Nat → Nat) : Int :=
  if F = 1 ∨ F = 2 then if 1 ≤ T ∧ T ≤ 255 then if 1 ≤ I ∧ I ≤ 255 then if 0 ≤ L ∧ L ≤ 65535 then if n = cn L then if okB (decide (F = 2)) X n = true then 0 else 9 else 8 else 6 else 12 else 4 else 3
theorem am_zero (b : Bool) : am b = 0 ↔ b = false := by cases b <;> simp [am]
theorem okB_am {s : Bool} {X : Nat → Nat} {n : Nat} (h : ¬ am (okB s X n) = 0) : okB s X n = true := by
  rcases hq : okB s X n with _ | _
  · exact absurd ((am_zero _).2 hq) h
  · rfl
theorem ckShare_bad (F T I L : Int) (la : Option Addr) (n lc : Nat) (X : Nat → Nat) (W : World) (HX : LstAt W 4 (.slice la n lc) n (en vq X n)) (hn : n ≤ 100000000) (H4 : ∀ i, i < n → X i < R4) (HL : Laid W) (h1 : F ≠ 1) (h2 : F ≠ 2) : Calls Tryz.prog 105 [.agg #[.int .i64 F, .int .i64 T, .int .i64 I, .int .i64 L, .slice la n lc]].toArray W fun e w => e = .returned (.int .i64 (shErr F T I L n X)) ∧ Below W.heap.size W w := by
 refine c_enter (args := [.agg #[.int .i64 F, .int .i64 T, .int .i64 I, .int .i64 L, .slice la n lc]]) Tryz.func105 rfl rfl rfl fun a hk => ?_
 have hs := Sat.start W [lst 4 (.slice la n lc) n (en vq X n)] (fun r hr => by rcases List.mem_singleton.1 hr with rfl; exact HX)
 refine wS (wR ?_)
 refine q_box (vs := [.int .i64 F, .int .i64 T, .int .i64 I, .int .i64 L, .slice la n lc]) hk hs rfl rfl rfl rfl fun b1 w a hk hs => ?_
 refine q_v hk (w_as rfl) fun a hk => ?_
 refine c_end (x_t (wS (wR ?_)))
 refine q_v hk (w_fa rfl fq53_0 ty3) fun a hk => ?_
 refine q_v hk (w_ld1 rfl ty3 (.blk (n := 1) (hs.mi 0 rfl) rfl)) fun a hk => ?_
 refine q_call (caps := []) hk rfl rfl Tryz.func85 fo85 rfl rfl (getBad_c F h1 h2 _ (HL.step hs.toBelow)) ?_
 rintro _ w ⟨rfl, hb⟩
 have hs := hs.below hb
 refine ⟨_, rfl, fun a hk => ?_⟩
 refine q_v hk (w_mv rfl) fun a hk => ?_
 refine q_v hk (w_ext rfl rfl) fun a hk => ?_
 refine q_v hk (w_ext rfl rfl) fun a hk => ?_
 refine q_alc (vs := [.int .i64 0, .int .u64 0, .int .u64 0, .int .u64 0, .int .u64 0, .int .u64 0, .int .u64 0, .int .u64 0, .int .u64 0, .int .u64 0, .int .u64 0, .int .u64 0, .int .u64 0, .int .u64 0]) hk hs zr120 rfl rfl rfl fun b2 w a hk hs => ?_
 refine q_sto (o := 0) (cs := [.int .i64 0, .int .u64 0, .int .u64 0, .int .u64 0, .int .u64 0, .int .u64 0, .int .u64 0, .int .u64 0, .int .u64 0, .int .u64 0, .int .u64 0, .int .u64 0, .int .u64 0, .int .u64 0]) (vs' := [.int .i64 0, .int .u64 0, .int .u64 0, .int .u64 0, .int .u64 0, .int .u64 0, .int .u64 0, .int .u64 0, .int .u64 0, .int .u64 0, .int .u64 0, .int .u64 0, .int .u64 0, .int .u64 0]) hk hs rfl rfl rfl ty120 rfl rfl rfl rfl rfl rfl fun w hs => ?_
 refine q_v hk (w_as rfl) fun a hk => ?_
 refine c_end (x_t (wS ?_))
 refine wpIn_block ?_
 refine wS (wR ?_)
 refine q_v hk (w_mv rfl) fun a hk => ?_
 refine q_v hk (w_ne rfl rfl (decide_eq_true (by decide))) fun a hk => ?_
 refine q_v hk (w_as rfl) fun a hk => ?_
 refine c_end (x_t ?_)
 refine c_T hk rfl ?_
 refine wS (wR ?_)
 refine q_v hk (w_mv rfl) fun a hk => ?_
 refine q_v hk (w_as rfl) fun a hk => ?_
 refine c_end (x_t ?_)
 refine (wpIn_ret (x_br (x_tr ?_)))
 refine c_ret1 hk rfl rfl ?_
 exact ⟨by unfold shErr; rw [if_neg (by omega)], hs.toBelow⟩
theorem ckShare_s (s : Bool) (T I L : Int) (la : Option Addr) (n lc : Nat) (X : Nat → Nat) (W : World) (HX : LstAt W 4 (.slice la n lc) n (en vq X n)) (hn : n ≤ 100000000) (H4 : ∀ i, i < n → X i < R4) (HL : Laid W) : Calls Tryz.prog 105 [.agg #[.int .i64 (fid s), .int .i64 T, .int .i64 I, .int .i64 L, .slice la n lc]].toArray W fun e w => e = .returned (.int .i64 (shErr (fid s) T I L n X)) ∧ Below W.heap.size W w := by
 refine c_enter (args := [.agg #[.int .i64 (fid s), .int .i64 T, .int .i64 I, .int .i64 L, .slice la n lc]]) Tryz.func105 rfl rfl rfl fun a hk => ?_
 have hs := Sat.start W [lst 4 (.slice la n lc) n (en vq X n)] (fun r hr => by rcases List.mem_singleton.1 hr with rfl; exact HX)
 refine wS (wR ?_)
 refine q_box (vs := [.int .i64 (fid s), .int .i64 T, .int .i64 I, .int .i64 L, .slice la n lc]) hk hs rfl rfl rfl rfl fun b1 w a hk hs => ?_
 refine q_v hk (w_as rfl) fun a hk => ?_
 refine c_end (x_t (wS (wR ?_)))
 refine q_v hk (w_fa rfl fq53_0 ty3) fun a hk => ?_
 refine q_v hk (w_ld1 rfl ty3 (.blk (n := 1) (hs.mi 0 rfl) rfl)) fun a hk => ?_
 refine q_call (caps := []) hk rfl rfl Tryz.func85 fo85 rfl rfl (get_c s _ (HL.step hs.toBelow)) ?_
 rintro _ w ⟨rfl, hb⟩
 have hs := hs.below hb
 refine ⟨_, rfl, fun a hk => ?_⟩
 refine q_v hk (w_mv rfl) fun a hk => ?_
 refine q_v hk (w_ext rfl rfl) fun a hk => ?_
 refine q_v hk (w_ext rfl rfl) fun a hk => ?_
 refine q_alc (vs := [.int .i64 0, .int .u64 0, .int .u64 0, .int .u64 0, .int .u64 0, .int .u64 0, .int .u64 0, .int .u64 0, .int .u64 0, .int .u64 0, .int .u64 0, .int .u64 0, .int .u64 0, .int .u64 0]) hk hs zr120 rfl rfl rfl fun b2 w a hk hs => ?_
 refine q_sto (o := 0) (cs := fieldL s) (vs' := fieldL s) hk hs rfl rfl rfl ty120 rfl rfl rfl rfl rfl rfl fun w hs => ?_
 refine q_v hk (w_as rfl) fun a hk => ?_
 refine c_end (x_t (wS ?_))
 refine wpIn_block ?_
 refine wS (wR ?_)
 refine q_v hk (w_mv rfl) fun a hk => ?_
 refine q_v hk (w_ne rfl rfl (decide_eq_false (by decide))) fun a hk => ?_
 refine q_v hk (w_as rfl) fun a hk => ?_
 refine c_end (x_t ?_)
 refine c_F hk rfl ?_
 refine wS (wR ?_)
 refine q_v hk (w_fa rfl fq53_1 ty3) fun a hk => ?_
 refine q_v hk (w_ld1 rfl ty3 (.blk (n := 1) (hs.mi 1 rfl) rfl)) fun a hk => ?_
 rcases Classical.em (1 ≤ T ∧ T ≤ 255) with hc3 | hc3
 ·
  refine q_call (caps := []) hk rfl rfl Tryz.func136 fo136 rfl rfl (between_t _ _ _ _ hc3) ?_
  rintro _ _ ⟨rfl, rfl⟩
  refine ⟨_, rfl, fun a hk => ?_⟩
  refine q_v hk (w_not rfl) fun a hk => ?_
  refine q_v hk (w_as rfl) fun a hk => ?_
  refine c_end (x_t ?_)
  refine c_F hk rfl ?_
  refine wS (wR ?_)
  refine q_v hk (w_fa rfl fq53_2 ty3) fun a hk => ?_
  refine q_v hk (w_ld1 rfl ty3 (.blk (n := 1) (hs.mi 1 rfl) rfl)) fun a hk => ?_
  rcases Classical.em (1 ≤ I ∧ I ≤ 255) with hc4 | hc4
  ·
   refine q_call (caps := []) hk rfl rfl Tryz.func136 fo136 rfl rfl (between_t _ _ _ _ hc4) ?_
   rintro _ _ ⟨rfl, rfl⟩
   refine ⟨_, rfl, fun a hk => ?_⟩
   refine q_v hk (w_not rfl) fun a hk => ?_
   refine q_v hk (w_as rfl) fun a hk => ?_
   refine c_end (x_t ?_)
   refine c_F hk rfl ?_
   refine wS (wR ?_)
   refine q_v hk (w_fa rfl fq53_3 ty3) fun a hk => ?_
   refine q_v hk (w_ld1 rfl ty3 (.blk (n := 1) (hs.mi 1 rfl) rfl)) fun a hk => ?_
   rcases Classical.em (0 ≤ L ∧ L ≤ 65535) with hc5 | hc5
   ·
    refine q_call (caps := []) hk rfl rfl Tryz.func136 fo136 rfl rfl (between_t _ _ _ _ hc5) ?_
    rintro _ _ ⟨rfl, rfl⟩
    refine ⟨_, rfl, fun a hk => ?_⟩
    refine q_v hk (w_not rfl) fun a hk => ?_
    refine q_v hk (w_as rfl) fun a hk => ?_
    refine c_end (x_t ?_)
    refine c_F hk rfl ?_
    refine wS ?_
    rcases Classical.em (((n : Nat) : Int) ≠ ((cn L : Nat) : Int)) with hc6 | hc6
    ·
     have hL := okL.cons (hs.mi 1 rfl) okL.nil
     refine d_begin _ 8 (by kernel_rfl) rfl hs hL fun w hs hL => ?_
     refine d_w 0 1 hk hL rfl (fun w hL => w_fa rfl fq53_4 ty51) fun a hk => ?_
     refine d_w 1 3 hk hL rfl (fun w hL => w_ld1 rfl ty51 (.blk (n := 1) (hL.at 0 rfl) rfl)) fun a hk => ?_
     refine d_w 2 7 hk hL rfl (fun w hL => w_len rfl Tryz.underlying51) fun a hk => ?_
     refine d_w 3 15 hk hL rfl (fun w hL => w_fa rfl fq53_3 ty3) fun a hk => ?_
     refine d_w 4 31 hk hL rfl (fun w hL => w_ld1 rfl ty3 (.blk (n := 1) (hL.at 0 rfl) rfl)) fun a hk => ?_
     refine d_1 5 63 rfl (by kernel_rfl) fun K hK => ?_
     refine q_call (caps := []) hk rfl rfl Tryz.func123 fo123 rfl rfl (count_c L _) ?_
     rintro _ _ ⟨rfl, rfl⟩
     refine ⟨_, rfl, fun a hk => ?_⟩
     have hL := okL.cons (hs.mi 1 rfl) okL.nil
     refine c_end (x_t (hK _ _ hL ?_))
     clear hK K
     refine d_w 6 127 hk hL rfl (fun w hL => w_ne rfl rfl (decide_eq_true hc6)) fun a hk => ?_
     refine d_w 7 255 hk hL rfl (fun w hL => w_as rfl) fun a hk => ?_
     refine d_end (by kernel_rfl) ?_
     refine (x_t ?_)
     refine c_T hk rfl ?_
     refine wS (wR ?_)
     refine q_v hk (w_as rfl) fun a hk => ?_
     refine c_end (x_t ?_)
     refine (wpIn_ret (x_br (x_tr ?_)))
     refine c_ret1 hk rfl rfl ?_
     refine ⟨?_, hs.toBelow⟩
     have ho := fid_or s
     unfold shErr
     rw [fid_dec, if_pos ho]
     (repeat' split) <;> first | rfl | omega | contradiction | exact absurd (hob.symm.trans (by assumption)) Bool.false_ne_true
    ·
     have hL := okL.cons (hs.mi 1 rfl) okL.nil
     refine d_begin _ 8 (by kernel_rfl) rfl hs hL fun w hs hL => ?_
     refine d_w 0 1 hk hL rfl (fun w hL => w_fa rfl fq53_4 ty51) fun a hk => ?_
     refine d_w 1 3 hk hL rfl (fun w hL => w_ld1 rfl ty51 (.blk (n := 1) (hL.at 0 rfl) rfl)) fun a hk => ?_
     refine d_w 2 7 hk hL rfl (fun w hL => w_len rfl Tryz.underlying51) fun a hk => ?_
     refine d_w 3 15 hk hL rfl (fun w hL => w_fa rfl fq53_3 ty3) fun a hk => ?_
     refine d_w 4 31 hk hL rfl (fun w hL => w_ld1 rfl ty3 (.blk (n := 1) (hL.at 0 rfl) rfl)) fun a hk => ?_
     refine d_1 5 63 rfl (by kernel_rfl) fun K hK => ?_
     refine q_call (caps := []) hk rfl rfl Tryz.func123 fo123 rfl rfl (count_c L _) ?_
     rintro _ _ ⟨rfl, rfl⟩
     refine ⟨_, rfl, fun a hk => ?_⟩
     have hL := okL.cons (hs.mi 1 rfl) okL.nil
     refine c_end (x_t (hK _ _ hL ?_))
     clear hK K
     refine d_w 6 127 hk hL rfl (fun w hL => w_ne rfl rfl (decide_eq_false hc6)) fun a hk => ?_
     refine d_w 7 255 hk hL rfl (fun w hL => w_as rfl) fun a hk => ?_
     refine d_end (by kernel_rfl) ?_
     refine (x_t ?_)
     refine c_F hk rfl ?_
     refine (wpIn_skip (x_b (x_t ?_)))
     refine wS (wR ?_)
     refine q_v hk (w_ldA rfl ty120 (.blk (n := 14) (hs.mi 0 rfl) rfl) rfl) fun a hk => ?_
     refine q_v hk (w_bldv0 Tryz.underlying47 ty46 zr47) fun a hk => ?_
     refine q_call (caps := []) hk rfl rfl Tryz.func137 fo137 rfl rfl (contAm s 0 (by decide) _) ?_
     rintro _ w ⟨rfl, hb⟩
     have hs := hs.below hb
     refine ⟨_, rfl, fun a hk => ?_⟩
     refine q_v hk (w_as rfl) fun a hk => ?_
     refine c_end (x_t (wS (wS (wR ?_))))
     refine q_v hk (w_fa rfl fq53_4 ty51) fun a hk => ?_
     refine q_v hk (w_ld1 rfl ty51 (.blk (n := 1) (hs.mi 1 rfl) rfl)) fun a hk => ?_
     refine q_v hk (w_len rfl Tryz.underlying51) fun a hk => ?_
     refine q_v hk (w_mv rfl) fun a hk => ?_
     refine c_end (x_t ?_)
     refine wpIn_block ?_
     rw [show decide (0 < pr s) = okB s X 0 from decide_eq_true (pr_pos s)] at hk
     refine c_loop (α := Nat) (fun k a w => k ≤ n ∧ Kn [] 59 [(47, .int .i64 (k : Int)), (5, .int .u64 (am (okB s X k))), (46, .int .i64 ((n : Nat) : Int)), (45, .slice la n lc), (3, .pointer (some ⟨b2, 0, none⟩)), (2, .int .i64 0)] a ∧ Sat no W [blk b2 (fieldL s) 120, blk b1 [.int .i64 (fid s), .int .i64 T, .int .i64 I, .int .i64 L, .slice la n lc] 53] [lst 4 (.slice la n lc) n (en vq X n)] w) (fun k => n - k) 0 ?_ ?_
     · exact ⟨(by omega), hk.k rfl (hk.k rfl (hk.k rfl (hk.k rfl (hk.k rfl (hk.k rfl hk.nil))))), hs⟩
     rintro k a w ⟨hf0, hk, hs⟩
     refine wS (wR ?_)
     rcases Classical.em ((k : Int) < ((n : Nat) : Int)) with hc7 | hc7
     ·
      have hlt : k < n := by omega
      refine q_v hk (w_lt rfl rfl (decide_eq_true hc7)) fun a hk => ?_
      refine c_end (x_t (wS ?_))
      refine c_T hk rfl ?_
      refine (wpIn_skip (x_t ?_))
      refine wS ?_
      refine wpIn_block ?_
      refine wS (wR ?_)
      refine q_v hk (w_iaL (k := k) rfl rfl Tryz.underlying51 ty56 (hs.ri 0 rfl) (by omega) (by omega)) fun a hk => ?_
      refine q_v hk (w_ldv (z := X k) rfl ty56 (lstq (k := k) (hs.ri 0 rfl) (by omega) (en_chunk vq_len (by omega)))) fun a hk => ?_
      refine q_alc (vs := [.int .u64 0, .int .u64 0, .int .u64 0, .int .u64 0]) hk hs zr56 rfl rfl rfl fun b8 w a hk hs => ?_
      refine q_sto (o := 0) (cs := [.int .u64 ((dg 0 (X k) : Nat) : Int), .int .u64 ((dg 1 (X k) : Nat) : Int), .int .u64 ((dg 2 (X k) : Nat) : Int), .int .u64 ((dg 3 (X k) : Nat) : Int)]) (vs' := [.int .u64 ((dg 0 (X k) : Nat) : Int), .int .u64 ((dg 1 (X k) : Nat) : Int), .int .u64 ((dg 2 (X k) : Nat) : Int), .int .u64 ((dg 3 (X k) : Nat) : Int)]) hk hs rfl rfl rfl ty56 rfl rfl rfl rfl rfl rfl fun w hs => ?_
      refine c_end (x_t (wR ?_))
      refine q_v hk (w_mv rfl) fun a hk => ?_
      refine q_v hk (w_ldA rfl ty120 (.blk (n := 14) (hs.mi 1 rfl) rfl) rfl) fun a hk => ?_
      refine q_v hk (w_ldv (z := X k) rfl ty56 (.blk (n := 4) (hs.mi 0 rfl) rfl)) fun a hk => ?_
      refine q_call (caps := []) hk rfl rfl Tryz.func137 fo137 rfl rfl (contAm s (X k) (H4 k hlt) _) ?_
      rintro _ w ⟨rfl, hb⟩
      have hs := hs.below hb
      refine ⟨_, rfl, fun a hk => ?_⟩
      refine q_v hk (w_andam rfl rfl) fun a hk => ?_
      refine q_v hk (w_as rfl) fun a hk => ?_
      refine (c_end (x_b (x_t ?_)))
      refine wR ?_
      refine q_v hk (w_add rfl rfl (wr64 (by omega) (by omega))) fun a hk => ?_
      refine q_v hk (w_mv rfl) fun a hk => ?_
      refine c_end (x_t ?_)
      rw [← okB_succ] at hk
      have hs := hs.drop
      exact ⟨k + 1, ⟨(by omega), hk.k rfl (hk.k rfl (hk.k rfl (hk.k rfl (hk.k rfl (hk.k rfl hk.nil))))), hs⟩, by omega⟩
     ·
      obtain rfl : n = k := by omega
      refine q_v hk (w_lt rfl rfl (decide_eq_false hc7)) fun a hk => ?_
      refine c_end (x_t (wS ?_))
      refine c_F hk rfl ?_
      refine (wpIn_exit (x_te (x_te (x_be ?_))))
      refine (x_t ?_)
      refine wS (wS (wR ?_))
      refine q_v hk (w_mv rfl) fun a hk => ?_
      rcases Classical.em ((am (okB s X n)) = 0) with hc9 | hc9
      ·
       have hob : okB s X n = false := (am_zero _).1 hc9
       refine q_v hk (w_eq rfl rfl (decide_eq_true hc9)) fun a hk => ?_
       refine c_end (x_t ?_)
       refine c_T hk rfl ?_
       refine wS (wR ?_)
       refine q_v hk (w_as rfl) fun a hk => ?_
       refine c_end (x_t ?_)
       refine (wpIn_ret (x_tr ?_))
       refine c_ret1 hk rfl rfl ?_
       refine ⟨?_, hs.toBelow⟩
       have ho := fid_or s
       unfold shErr
       rw [fid_dec, if_pos ho]
       (repeat' split) <;> first | rfl | omega | contradiction | exact absurd (hob.symm.trans (by assumption)) Bool.false_ne_true
      ·
       have hob : okB s X n = true := okB_am hc9
       refine q_v hk (w_eq rfl rfl (decide_eq_false hc9)) fun a hk => ?_
       refine c_end (x_t ?_)
       refine c_F hk rfl ?_
       refine (wpIn_skip (x_t ?_))
       refine wS (wR ?_)
       refine q_v hk (w_as rfl) fun a hk => ?_
       refine c_end (x_t ?_)
       refine (wpIn_ret ?_)
       refine c_ret1 hk rfl rfl ?_
       refine ⟨?_, hs.toBelow⟩
       have ho := fid_or s
       unfold shErr
       rw [fid_dec, if_pos ho]
       (repeat' split) <;> first | rfl | omega | contradiction | exact absurd (hob.symm.trans (by assumption)) Bool.false_ne_true
   ·
    refine q_call (caps := []) hk rfl rfl Tryz.func136 fo136 rfl rfl (between_f _ _ _ _ hc5) ?_
    rintro _ _ ⟨rfl, rfl⟩
    refine ⟨_, rfl, fun a hk => ?_⟩
    refine q_v hk (w_not rfl) fun a hk => ?_
    refine q_v hk (w_as rfl) fun a hk => ?_
    refine c_end (x_t ?_)
    refine c_T hk rfl ?_
    refine wS (wR ?_)
    refine q_v hk (w_as rfl) fun a hk => ?_
    refine c_end (x_t ?_)
    refine (wpIn_ret (x_br (x_tr ?_)))
    refine c_ret1 hk rfl rfl ?_
    refine ⟨?_, hs.toBelow⟩
    have ho := fid_or s
    unfold shErr
    rw [fid_dec, if_pos ho]
    (repeat' split) <;> first | rfl | omega | contradiction | exact absurd (hob.symm.trans (by assumption)) Bool.false_ne_true
  ·
   refine q_call (caps := []) hk rfl rfl Tryz.func136 fo136 rfl rfl (between_f _ _ _ _ hc4) ?_
   rintro _ _ ⟨rfl, rfl⟩
   refine ⟨_, rfl, fun a hk => ?_⟩
   refine q_v hk (w_not rfl) fun a hk => ?_
   refine q_v hk (w_as rfl) fun a hk => ?_
   refine c_end (x_t ?_)
   refine c_T hk rfl ?_
   refine wS (wR ?_)
   refine q_v hk (w_as rfl) fun a hk => ?_
   refine c_end (x_t ?_)
   refine (wpIn_ret (x_br (x_tr ?_)))
   refine c_ret1 hk rfl rfl ?_
   refine ⟨?_, hs.toBelow⟩
   have ho := fid_or s
   unfold shErr
   rw [fid_dec, if_pos ho]
   (repeat' split) <;> first | rfl | omega | contradiction | exact absurd (hob.symm.trans (by assumption)) Bool.false_ne_true
 ·
  refine q_call (caps := []) hk rfl rfl Tryz.func136 fo136 rfl rfl (between_f _ _ _ _ hc3) ?_
  rintro _ _ ⟨rfl, rfl⟩
  refine ⟨_, rfl, fun a hk => ?_⟩
  refine q_v hk (w_not rfl) fun a hk => ?_
  refine q_v hk (w_as rfl) fun a hk => ?_
  refine c_end (x_t ?_)
  refine c_T hk rfl ?_
  refine wS (wR ?_)
  refine q_v hk (w_as rfl) fun a hk => ?_
  refine c_end (x_t ?_)
  refine (wpIn_ret (x_br (x_tr ?_)))
  refine c_ret1 hk rfl rfl ?_
  refine ⟨?_, hs.toBelow⟩
  have ho := fid_or s
  unfold shErr
  rw [fid_dec, if_pos ho]
  (repeat' split) <;> first | rfl | omega | contradiction | exact absurd (hob.symm.trans (by assumption)) Bool.false_ne_true
theorem rdc_R4 {p v : Nat} (hp : 0 < p) (hv : v < R4) : rdc p v 0 < R4 := by
  by_cases h : v < p
  · rw [rdc_lt h]; exact hv
  · exact (rdc_ne hp hv h).2
theorem okB_bad {s : Bool} {X : Nat → Nat} {n k : Nat} (hk : k < n) (h : rdc (pr s) (X k) 0 ≠ X k) : okB s X n = false := by
  rw [Bool.eq_false_iff]
  intro ho
  exact h (rdc_lt (okB_at ho hk))
theorem okB_next {s : Bool} {X : Nat → Nat} {k : Nat} (ho : okB s X k = true) (h4 : X k < R4) (h : ¬ rdc (pr s) (X k) 0 ≠ X k) : okB s X (k + 1) = true := by
  rw [okB_succ, ho]
  by_cases hp : X k < pr s
  · simpa using hp
  · exact absurd (rdc_ne (pr_pos s) h4 hp).1 h
theorem refCkShare_bad (F T I L : Int) (la : Option Addr) (n lc : Nat) (X : Nat → Nat) (W : World) (HX : LstAt W 4 (.slice la n lc) n (en vq X n)) (hn : n ≤ 100000000) (H4 : ∀ i, i < n → X i < R4) (h1 : F ≠ 1) (h2 : F ≠ 2) : Calls Tryz.prog 56 [.agg #[.int .i64 F, .int .i64 T, .int .i64 I, .int .i64 L, .slice la n lc]].toArray W fun e w => e = .returned (.int .i64 (shErr F T I L n X)) ∧ Below W.heap.size W w := by
 refine c_enter (args := [.agg #[.int .i64 F, .int .i64 T, .int .i64 I, .int .i64 L, .slice la n lc]]) Tryz.func56 rfl rfl rfl fun a hk => ?_
 have hs := Sat.start W [lst 4 (.slice la n lc) n (en vq X n)] (fun r hr => by rcases List.mem_singleton.1 hr with rfl; exact HX)
 refine wS (wR ?_)
 refine q_box (vs := [.int .i64 F, .int .i64 T, .int .i64 I, .int .i64 L, .slice la n lc]) hk hs rfl rfl rfl rfl fun b1 w a hk hs => ?_
 refine q_v hk (w_as rfl) fun a hk => ?_
 refine c_end (x_t (wS ?_))
 refine wpIn_block ?_
 refine wS (wR ?_)
 refine q_v hk (w_fa rfl fq53_0 ty3) fun a hk => ?_
 refine q_v hk (w_ld1 rfl ty3 (.blk (n := 1) (hs.mi 0 rfl) rfl)) fun a hk => ?_
 refine q_call (caps := []) hk rfl rfl Tryz.func102 fo102 rfl rfl (known_f _ _ (fun h => h.elim h1 h2)) ?_
 rintro _ _ ⟨rfl, rfl⟩
 refine ⟨_, rfl, fun a hk => ?_⟩
 refine q_v hk (w_not rfl) fun a hk => ?_
 refine q_v hk (w_as rfl) fun a hk => ?_
 refine c_end (x_t ?_)
 refine c_T hk rfl ?_
 refine wS (wR ?_)
 refine q_v hk (w_as rfl) fun a hk => ?_
 refine c_end (x_t ?_)
 refine (wpIn_ret (x_br (x_tr ?_)))
 refine c_ret1 hk rfl rfl ?_
 exact ⟨by unfold shErr; rw [if_neg (by omega)], hs.toBelow⟩
theorem refCkShare_s (s : Bool) (T I L : Int) (la : Option Addr) (n lc : Nat) (X : Nat → Nat) (W : World) (HX : LstAt W 4 (.slice la n lc) n (en vq X n)) (hn : n ≤ 100000000) (H4 : ∀ i, i < n → X i < R4) : Calls Tryz.prog 56 [.agg #[.int .i64 (fid s), .int .i64 T, .int .i64 I, .int .i64 L, .slice la n lc]].toArray W fun e w => e = .returned (.int .i64 (shErr (fid s) T I L n X)) ∧ Below W.heap.size W w := by
 refine c_enter (args := [.agg #[.int .i64 (fid s), .int .i64 T, .int .i64 I, .int .i64 L, .slice la n lc]]) Tryz.func56 rfl rfl rfl fun a hk => ?_
 have hs := Sat.start W [lst 4 (.slice la n lc) n (en vq X n)] (fun r hr => by rcases List.mem_singleton.1 hr with rfl; exact HX)
 refine wS (wR ?_)
 refine q_box (vs := [.int .i64 (fid s), .int .i64 T, .int .i64 I, .int .i64 L, .slice la n lc]) hk hs rfl rfl rfl rfl fun b1 w a hk hs => ?_
 refine q_v hk (w_as rfl) fun a hk => ?_
 refine c_end (x_t (wS ?_))
 refine wpIn_block ?_
 refine wS (wR ?_)
 refine q_v hk (w_fa rfl fq53_0 ty3) fun a hk => ?_
 refine q_v hk (w_ld1 rfl ty3 (.blk (n := 1) (hs.mi 0 rfl) rfl)) fun a hk => ?_
 refine q_call (caps := []) hk rfl rfl Tryz.func102 fo102 rfl rfl (known_t _ _ (fid_or s)) ?_
 rintro _ _ ⟨rfl, rfl⟩
 refine ⟨_, rfl, fun a hk => ?_⟩
 refine q_v hk (w_not rfl) fun a hk => ?_
 refine q_v hk (w_as rfl) fun a hk => ?_
 refine c_end (x_t ?_)
 refine c_F hk rfl ?_
 refine wS (wR ?_)
 refine q_v hk (w_fa rfl fq53_1 ty3) fun a hk => ?_
 refine q_v hk (w_ld1 rfl ty3 (.blk (n := 1) (hs.mi 0 rfl) rfl)) fun a hk => ?_
 rcases Classical.em (T < 1) with hc2 | hc2
 ·
  refine q_v hk (w_lt rfl rfl (decide_eq_true hc2)) fun a hk => ?_
  refine q_v hk (w_mv rfl) fun a hk => ?_
  refine q_skip hk rfl rfl fun a hk => ?_
  refine q_skip hk rfl rfl fun a hk => ?_
  refine q_skip hk rfl rfl fun a hk => ?_
  refine q_v hk (w_pickT rfl rfl) fun a hk => ?_
  refine q_v hk (w_as rfl) fun a hk => ?_
  refine c_end (x_t ?_)
  refine c_T hk rfl ?_
  refine wS (wR ?_)
  refine q_v hk (w_as rfl) fun a hk => ?_
  refine c_end (x_t ?_)
  refine (wpIn_ret (x_br (x_tr ?_)))
  refine c_ret1 hk rfl rfl ?_
  refine ⟨?_, hs.toBelow⟩
  have ho := fid_or s
  unfold shErr
  rw [fid_dec, if_pos ho]
  (repeat' split) <;> first | rfl | omega | contradiction | exact absurd (hob.symm.trans (by assumption)) Bool.false_ne_true
 ·
  refine q_v hk (w_lt rfl rfl (decide_eq_false hc2)) fun a hk => ?_
  refine q_v hk (w_mv rfl) fun a hk => ?_
  refine q_v hk (w_fa rfl fq53_1 ty3) fun a hk => ?_
  refine q_v hk (w_ld1 rfl ty3 (.blk (n := 1) (hs.mi 0 rfl) rfl)) fun a hk => ?_
  rcases Classical.em (255 < T) with hc3 | hc3
  ·
   refine q_v hk (w_gt rfl rfl (decide_eq_true hc3)) fun a hk => ?_
   refine q_v hk (w_pickF rfl rfl) fun a hk => ?_
   refine q_v hk (w_as rfl) fun a hk => ?_
   refine c_end (x_t ?_)
   refine c_T hk rfl ?_
   refine wS (wR ?_)
   refine q_v hk (w_as rfl) fun a hk => ?_
   refine c_end (x_t ?_)
   refine (wpIn_ret (x_br (x_tr ?_)))
   refine c_ret1 hk rfl rfl ?_
   refine ⟨?_, hs.toBelow⟩
   have ho := fid_or s
   unfold shErr
   rw [fid_dec, if_pos ho]
   (repeat' split) <;> first | rfl | omega | contradiction | exact absurd (hob.symm.trans (by assumption)) Bool.false_ne_true
  ·
   refine q_v hk (w_gt rfl rfl (decide_eq_false hc3)) fun a hk => ?_
   refine q_v hk (w_pickF rfl rfl) fun a hk => ?_
   refine q_v hk (w_as rfl) fun a hk => ?_
   refine c_end (x_t ?_)
   refine c_F hk rfl ?_
   refine wS (wR ?_)
   refine q_v hk (w_fa rfl fq53_2 ty3) fun a hk => ?_
   refine q_v hk (w_ld1 rfl ty3 (.blk (n := 1) (hs.mi 0 rfl) rfl)) fun a hk => ?_
   rcases Classical.em (I < 1) with hc4 | hc4
   ·
    refine q_v hk (w_lt rfl rfl (decide_eq_true hc4)) fun a hk => ?_
    refine q_v hk (w_mv rfl) fun a hk => ?_
    refine q_skip hk rfl rfl fun a hk => ?_
    refine q_skip hk rfl rfl fun a hk => ?_
    refine q_skip hk rfl rfl fun a hk => ?_
    refine q_v hk (w_pickT rfl rfl) fun a hk => ?_
    refine q_v hk (w_as rfl) fun a hk => ?_
    refine c_end (x_t ?_)
    refine c_T hk rfl ?_
    refine wS (wR ?_)
    refine q_v hk (w_as rfl) fun a hk => ?_
    refine c_end (x_t ?_)
    refine (wpIn_ret (x_br (x_tr ?_)))
    refine c_ret1 hk rfl rfl ?_
    refine ⟨?_, hs.toBelow⟩
    have ho := fid_or s
    unfold shErr
    rw [fid_dec, if_pos ho]
    (repeat' split) <;> first | rfl | omega | contradiction | exact absurd (hob.symm.trans (by assumption)) Bool.false_ne_true
   ·
    refine q_v hk (w_lt rfl rfl (decide_eq_false hc4)) fun a hk => ?_
    refine q_v hk (w_mv rfl) fun a hk => ?_
    refine q_v hk (w_fa rfl fq53_2 ty3) fun a hk => ?_
    refine q_v hk (w_ld1 rfl ty3 (.blk (n := 1) (hs.mi 0 rfl) rfl)) fun a hk => ?_
    rcases Classical.em (255 < I) with hc5 | hc5
    ·
     refine q_v hk (w_gt rfl rfl (decide_eq_true hc5)) fun a hk => ?_
     refine q_v hk (w_pickF rfl rfl) fun a hk => ?_
     refine q_v hk (w_as rfl) fun a hk => ?_
     refine c_end (x_t ?_)
     refine c_T hk rfl ?_
     refine wS (wR ?_)
     refine q_v hk (w_as rfl) fun a hk => ?_
     refine c_end (x_t ?_)
     refine (wpIn_ret (x_br (x_tr ?_)))
     refine c_ret1 hk rfl rfl ?_
     refine ⟨?_, hs.toBelow⟩
     have ho := fid_or s
     unfold shErr
     rw [fid_dec, if_pos ho]
     (repeat' split) <;> first | rfl | omega | contradiction | exact absurd (hob.symm.trans (by assumption)) Bool.false_ne_true
    ·
     refine q_v hk (w_gt rfl rfl (decide_eq_false hc5)) fun a hk => ?_
     refine q_v hk (w_pickF rfl rfl) fun a hk => ?_
     refine q_v hk (w_as rfl) fun a hk => ?_
     refine c_end (x_t ?_)
     refine c_F hk rfl ?_
     refine wS (wR ?_)
     refine q_v hk (w_fa rfl fq53_3 ty3) fun a hk => ?_
     refine q_v hk (w_ld1 rfl ty3 (.blk (n := 1) (hs.mi 0 rfl) rfl)) fun a hk => ?_
     rcases Classical.em (L < 0) with hc6 | hc6
     ·
      refine q_v hk (w_lt rfl rfl (decide_eq_true hc6)) fun a hk => ?_
      refine q_v hk (w_mv rfl) fun a hk => ?_
      refine q_skip hk rfl rfl fun a hk => ?_
      refine q_skip hk rfl rfl fun a hk => ?_
      refine q_skip hk rfl rfl fun a hk => ?_
      refine q_v hk (w_pickT rfl rfl) fun a hk => ?_
      refine q_v hk (w_as rfl) fun a hk => ?_
      refine c_end (x_t ?_)
      refine c_T hk rfl ?_
      refine wS (wR ?_)
      refine q_v hk (w_as rfl) fun a hk => ?_
      refine c_end (x_t ?_)
      refine (wpIn_ret (x_br (x_tr ?_)))
      refine c_ret1 hk rfl rfl ?_
      refine ⟨?_, hs.toBelow⟩
      have ho := fid_or s
      unfold shErr
      rw [fid_dec, if_pos ho]
      (repeat' split) <;> first | rfl | omega | contradiction | exact absurd (hob.symm.trans (by assumption)) Bool.false_ne_true
     ·
      refine q_v hk (w_lt rfl rfl (decide_eq_false hc6)) fun a hk => ?_
      refine q_v hk (w_mv rfl) fun a hk => ?_
      refine q_v hk (w_fa rfl fq53_3 ty3) fun a hk => ?_
      refine q_v hk (w_ld1 rfl ty3 (.blk (n := 1) (hs.mi 0 rfl) rfl)) fun a hk => ?_
      rcases Classical.em (65535 < L) with hc7 | hc7
      ·
       refine q_v hk (w_gt rfl rfl (decide_eq_true hc7)) fun a hk => ?_
       refine q_v hk (w_pickF rfl rfl) fun a hk => ?_
       refine q_v hk (w_as rfl) fun a hk => ?_
       refine c_end (x_t ?_)
       refine c_T hk rfl ?_
       refine wS (wR ?_)
       refine q_v hk (w_as rfl) fun a hk => ?_
       refine c_end (x_t ?_)
       refine (wpIn_ret (x_br (x_tr ?_)))
       refine c_ret1 hk rfl rfl ?_
       refine ⟨?_, hs.toBelow⟩
       have ho := fid_or s
       unfold shErr
       rw [fid_dec, if_pos ho]
       (repeat' split) <;> first | rfl | omega | contradiction | exact absurd (hob.symm.trans (by assumption)) Bool.false_ne_true
      ·
       refine q_v hk (w_gt rfl rfl (decide_eq_false hc7)) fun a hk => ?_
       refine q_v hk (w_pickF rfl rfl) fun a hk => ?_
       refine q_v hk (w_as rfl) fun a hk => ?_
       refine c_end (x_t ?_)
       refine c_F hk rfl ?_
       refine wS ?_
       rcases Classical.em (((n : Nat) : Int) ≠ ((cn L : Nat) : Int)) with hc8 | hc8
       ·
        have hL := okL.cons (hs.mi 0 rfl) okL.nil
        refine d_begin _ 8 (by kernel_rfl) rfl hs hL fun w hs hL => ?_
        refine d_w 0 1 hk hL rfl (fun w hL => w_fa rfl fq53_4 ty51) fun a hk => ?_
        refine d_w 1 3 hk hL rfl (fun w hL => w_ld1 rfl ty51 (.blk (n := 1) (hL.at 0 rfl) rfl)) fun a hk => ?_
        refine d_w 2 7 hk hL rfl (fun w hL => w_len rfl Tryz.underlying51) fun a hk => ?_
        refine d_w 3 15 hk hL rfl (fun w hL => w_fa rfl fq53_3 ty3) fun a hk => ?_
        refine d_w 4 31 hk hL rfl (fun w hL => w_ld1 rfl ty3 (.blk (n := 1) (hL.at 0 rfl) rfl)) fun a hk => ?_
        refine d_1 5 63 rfl (by kernel_rfl) fun K hK => ?_
        refine q_call (caps := []) hk rfl rfl Tryz.func103 fo103 rfl rfl (refCount_c L (by omega) _) ?_
        rintro _ _ ⟨rfl, rfl⟩
        refine ⟨_, rfl, fun a hk => ?_⟩
        have hL := okL.cons (hs.mi 0 rfl) okL.nil
        refine c_end (x_t (hK _ _ hL ?_))
        clear hK K
        refine d_w 6 127 hk hL rfl (fun w hL => w_ne rfl rfl (decide_eq_true hc8)) fun a hk => ?_
        refine d_w 7 255 hk hL rfl (fun w hL => w_as rfl) fun a hk => ?_
        refine d_end (by kernel_rfl) ?_
        refine (x_t ?_)
        refine c_T hk rfl ?_
        refine wS (wR ?_)
        refine q_v hk (w_as rfl) fun a hk => ?_
        refine c_end (x_t ?_)
        refine (wpIn_ret (x_br (x_tr ?_)))
        refine c_ret1 hk rfl rfl ?_
        refine ⟨?_, hs.toBelow⟩
        have ho := fid_or s
        unfold shErr
        rw [fid_dec, if_pos ho]
        (repeat' split) <;> first | rfl | omega | contradiction | exact absurd (hob.symm.trans (by assumption)) Bool.false_ne_true
       ·
        have hL := okL.cons (hs.mi 0 rfl) okL.nil
        refine d_begin _ 8 (by kernel_rfl) rfl hs hL fun w hs hL => ?_
        refine d_w 0 1 hk hL rfl (fun w hL => w_fa rfl fq53_4 ty51) fun a hk => ?_
        refine d_w 1 3 hk hL rfl (fun w hL => w_ld1 rfl ty51 (.blk (n := 1) (hL.at 0 rfl) rfl)) fun a hk => ?_
        refine d_w 2 7 hk hL rfl (fun w hL => w_len rfl Tryz.underlying51) fun a hk => ?_
        refine d_w 3 15 hk hL rfl (fun w hL => w_fa rfl fq53_3 ty3) fun a hk => ?_
        refine d_w 4 31 hk hL rfl (fun w hL => w_ld1 rfl ty3 (.blk (n := 1) (hL.at 0 rfl) rfl)) fun a hk => ?_
        refine d_1 5 63 rfl (by kernel_rfl) fun K hK => ?_
        refine q_call (caps := []) hk rfl rfl Tryz.func103 fo103 rfl rfl (refCount_c L (by omega) _) ?_
        rintro _ _ ⟨rfl, rfl⟩
        refine ⟨_, rfl, fun a hk => ?_⟩
        have hL := okL.cons (hs.mi 0 rfl) okL.nil
        refine c_end (x_t (hK _ _ hL ?_))
        clear hK K
        refine d_w 6 127 hk hL rfl (fun w hL => w_ne rfl rfl (decide_eq_false hc8)) fun a hk => ?_
        refine d_w 7 255 hk hL rfl (fun w hL => w_as rfl) fun a hk => ?_
        refine d_end (by kernel_rfl) ?_
        refine (x_t ?_)
        refine c_F hk rfl ?_
        refine (wpIn_skip (x_b (x_t ?_)))
        refine wS (wR ?_)
        refine q_v hk (w_fa rfl fq53_0 ty3) fun a hk => ?_
        refine q_v hk (w_ld1 rfl ty3 (.blk (n := 1) (hs.mi 0 rfl) rfl)) fun a hk => ?_
        refine q_call (caps := []) hk rfl rfl Tryz.func28 fo28 rfl rfl (refModulus_c s _) ?_
        rintro _ w ⟨rfl, hb⟩
        have hs := hs.below hb
        refine ⟨_, rfl, fun a hk => ?_⟩
        refine q_alc (vs := [.int .u64 0, .int .u64 0, .int .u64 0, .int .u64 0]) hk hs zr47 rfl rfl rfl fun b9 w a hk hs => ?_
        refine q_sto (o := 0) (cs := [.int .u64 ((dg 0 (pr s) : Nat) : Int), .int .u64 ((dg 1 (pr s) : Nat) : Int), .int .u64 ((dg 2 (pr s) : Nat) : Int), .int .u64 ((dg 3 (pr s) : Nat) : Int)]) (vs' := [.int .u64 ((dg 0 (pr s) : Nat) : Int), .int .u64 ((dg 1 (pr s) : Nat) : Int), .int .u64 ((dg 2 (pr s) : Nat) : Int), .int .u64 ((dg 3 (pr s) : Nat) : Int)]) hk hs rfl rfl rfl ty47 rfl rfl rfl rfl rfl rfl fun w hs => ?_
        refine c_end (x_t (wS (wS (wR ?_))))
        refine q_v hk (w_as rfl) fun a hk => ?_
        refine c_end (x_t ?_)
        refine wpIn_block ?_
        refine c_loop (α := Nat) (fun k a w => k ≤ n ∧ okB s X k = true ∧ Kn [] 68 [(4, .int .i64 (k : Int)), (3, .pointer (some ⟨b9, 0, none⟩)), (1, .pointer (some ⟨b1, 0, none⟩))] a ∧ Sat no W [blk b9 [.int .u64 ((dg 0 (pr s) : Nat) : Int), .int .u64 ((dg 1 (pr s) : Nat) : Int), .int .u64 ((dg 2 (pr s) : Nat) : Int), .int .u64 ((dg 3 (pr s) : Nat) : Int)] 47, blk b1 [.int .i64 (fid s), .int .i64 T, .int .i64 I, .int .i64 L, .slice la n lc] 53] [lst 4 (.slice la n lc) n (en vq X n)] w) (fun k => n - k) 0 ?_ ?_
        · exact ⟨(by omega), rfl, hk.k rfl (hk.k rfl (hk.k rfl hk.nil)), hs⟩
        rintro k a w ⟨hf0, hf1, hk, hs⟩
        refine wS (wS (wR ?_))
        refine q_v hk (w_mv rfl) fun a hk => ?_
        refine q_v hk (w_fa rfl fq53_4 ty51) fun a hk => ?_
        refine q_v hk (w_ld1 rfl ty51 (.blk (n := 1) (hs.mi 1 rfl) rfl)) fun a hk => ?_
        refine q_v hk (w_len rfl Tryz.underlying51) fun a hk => ?_
        rcases Classical.em ((k : Int) < ((n : Nat) : Int)) with hc10 | hc10
        ·
         have hlt : k < n := by omega
         refine q_v hk (w_lt rfl rfl (decide_eq_true hc10)) fun a hk => ?_
         refine c_end (x_t ?_)
         refine c_T hk rfl ?_
         refine (wpIn_skip (x_t ?_))
         refine wS ?_
         refine wpIn_block ?_
         refine wS ?_
         rcases Classical.em (rdc (pr s) (X k) 0 ≠ X k) with hc11 | hc11
         ·
          have hob := okB_bad hlt hc11
          have hL := okL.cons (hs.mi 0 rfl) (okL.cons (hs.mi 1 rfl) (okL.cons (hs.ri 0 rfl) okL.nil))
          refine d_begin _ 13 (by kernel_rfl) rfl hs hL fun w hs hL => ?_
          refine d_w 0 1 hk hL rfl (fun w hL => w_ldv (z := pr s) rfl ty47 (.blk (n := 4) (hL.at 0 rfl) rfl)) fun a hk => ?_
          refine d_w 1 3 hk hL rfl (fun w hL => w_fa rfl fq53_4 ty51) fun a hk => ?_
          refine d_w 2 7 hk hL rfl (fun w hL => w_ld1 rfl ty51 (.blk (n := 1) (hL.at 1 rfl) rfl)) fun a hk => ?_
          refine d_w 3 15 hk hL rfl (fun w hL => w_mv rfl) fun a hk => ?_
          refine d_w 4 31 hk hL rfl (fun w hL => w_iaL (k := k) rfl rfl Tryz.underlying51 ty56 (hL.at 2 rfl) (by omega) (by omega)) fun a hk => ?_
          refine d_w 5 63 hk hL rfl (fun w hL => w_ldv (z := X k) rfl ty56 (lstq (k := k) (hL.at 2 rfl) (by omega) (en_chunk vq_len (by omega)))) fun a hk => ?_
          refine d_w 7 191 hk hL rfl (fun w hL => w_fa rfl fq53_4 ty51) fun a hk => ?_
          refine d_w 8 447 hk hL rfl (fun w hL => w_ld1 rfl ty51 (.blk (n := 1) (hL.at 1 rfl) rfl)) fun a hk => ?_
          refine d_w 9 959 hk hL rfl (fun w hL => w_mv rfl) fun a hk => ?_
          refine d_w 10 1983 hk hL rfl (fun w hL => w_iaL (k := k) rfl rfl Tryz.underlying51 ty56 (hL.at 2 rfl) (by omega) (by omega)) fun a hk => ?_
          refine d_w 11 4031 hk hL rfl (fun w hL => w_ldv (z := X k) rfl ty56 (lstq (k := k) (hL.at 2 rfl) (by omega) (en_chunk vq_len (by omega)))) fun a hk => ?_
          refine d_1 6 4095 rfl (by kernel_rfl) fun K hK => ?_
          refine q_call (caps := []) hk rfl rfl Tryz.func69 fo69 rfl rfl (refSubtract_c (pr s) (X k) 0 (pr_lt s) (H4 k hlt) _) ?_
          rintro _ w ⟨rfl, hb⟩
          have hs := hs.below hb
          refine ⟨_, rfl, fun a hk => ?_⟩
          have hL := okL.cons (hs.mi 0 rfl) (okL.cons (hs.mi 1 rfl) (okL.cons (hs.ri 0 rfl) okL.nil))
          refine c_end (x_t (hK _ _ hL ?_))
          clear hK K
          refine d_w 12 8191 hk hL rfl (fun w hL => w_vne rfl rfl (rdc_R4 (pr_pos s) (H4 k hlt)) (H4 k hlt) Tryz.underlying47 Tryz.underlying46 ty46 eg47 (decide_eq_true hc11)) fun a hk => ?_
          refine d_end (by kernel_rfl) ?_
          refine (x_t ?_)
          refine c_T hk rfl ?_
          refine wS (wR ?_)
          refine q_v hk (w_as rfl) fun a hk => ?_
          refine c_end (x_t ?_)
          refine (wpIn_ret (x_br (x_tr (x_tr (x_br (x_tr ?_))))))
          refine c_ret1 hk rfl rfl ?_
          refine ⟨?_, hs.toBelow⟩
          have ho := fid_or s
          unfold shErr
          rw [fid_dec, if_pos ho]
          (repeat' split) <;> first | rfl | omega | contradiction | exact absurd (hob.symm.trans (by assumption)) Bool.false_ne_true
         ·
          have hob := okB_next hf1 (H4 k hlt) hc11
          have hL := okL.cons (hs.mi 0 rfl) (okL.cons (hs.mi 1 rfl) (okL.cons (hs.ri 0 rfl) okL.nil))
          refine d_begin _ 13 (by kernel_rfl) rfl hs hL fun w hs hL => ?_
          refine d_w 0 1 hk hL rfl (fun w hL => w_ldv (z := pr s) rfl ty47 (.blk (n := 4) (hL.at 0 rfl) rfl)) fun a hk => ?_
          refine d_w 1 3 hk hL rfl (fun w hL => w_fa rfl fq53_4 ty51) fun a hk => ?_
          refine d_w 2 7 hk hL rfl (fun w hL => w_ld1 rfl ty51 (.blk (n := 1) (hL.at 1 rfl) rfl)) fun a hk => ?_
          refine d_w 3 15 hk hL rfl (fun w hL => w_mv rfl) fun a hk => ?_
          refine d_w 4 31 hk hL rfl (fun w hL => w_iaL (k := k) rfl rfl Tryz.underlying51 ty56 (hL.at 2 rfl) (by omega) (by omega)) fun a hk => ?_
          refine d_w 5 63 hk hL rfl (fun w hL => w_ldv (z := X k) rfl ty56 (lstq (k := k) (hL.at 2 rfl) (by omega) (en_chunk vq_len (by omega)))) fun a hk => ?_
          refine d_w 7 191 hk hL rfl (fun w hL => w_fa rfl fq53_4 ty51) fun a hk => ?_
          refine d_w 8 447 hk hL rfl (fun w hL => w_ld1 rfl ty51 (.blk (n := 1) (hL.at 1 rfl) rfl)) fun a hk => ?_
          refine d_w 9 959 hk hL rfl (fun w hL => w_mv rfl) fun a hk => ?_
          refine d_w 10 1983 hk hL rfl (fun w hL => w_iaL (k := k) rfl rfl Tryz.underlying51 ty56 (hL.at 2 rfl) (by omega) (by omega)) fun a hk => ?_
          refine d_w 11 4031 hk hL rfl (fun w hL => w_ldv (z := X k) rfl ty56 (lstq (k := k) (hL.at 2 rfl) (by omega) (en_chunk vq_len (by omega)))) fun a hk => ?_
          refine d_1 6 4095 rfl (by kernel_rfl) fun K hK => ?_
          refine q_call (caps := []) hk rfl rfl Tryz.func69 fo69 rfl rfl (refSubtract_c (pr s) (X k) 0 (pr_lt s) (H4 k hlt) _) ?_
          rintro _ w ⟨rfl, hb⟩
          have hs := hs.below hb
          refine ⟨_, rfl, fun a hk => ?_⟩
          have hL := okL.cons (hs.mi 0 rfl) (okL.cons (hs.mi 1 rfl) (okL.cons (hs.ri 0 rfl) okL.nil))
          refine c_end (x_t (hK _ _ hL ?_))
          clear hK K
          refine d_w 12 8191 hk hL rfl (fun w hL => w_vne rfl rfl (rdc_R4 (pr_pos s) (H4 k hlt)) (H4 k hlt) Tryz.underlying47 Tryz.underlying46 ty46 eg47 (decide_eq_false hc11)) fun a hk => ?_
          refine d_end (by kernel_rfl) ?_
          refine (x_t ?_)
          refine c_F hk rfl ?_
          refine (wpIn_skip (x_b (x_t ?_)))
          refine wR ?_
          refine q_v hk (w_mv rfl) fun a hk => ?_
          refine q_v hk (w_add rfl rfl (wr64 (by omega) (by omega))) fun a hk => ?_
          refine q_v hk (w_as rfl) fun a hk => ?_
          refine c_end (x_t ?_)
          exact ⟨k + 1, ⟨(by omega), hob, hk.k rfl (hk.k rfl (hk.k rfl hk.nil)), hs⟩, by omega⟩
        ·
         obtain rfl : n = k := by omega
         refine q_v hk (w_lt rfl rfl (decide_eq_false hc10)) fun a hk => ?_
         refine c_end (x_t ?_)
         refine c_F hk rfl ?_
         refine (wpIn_exit (x_te (x_te (x_be ?_))))
         refine (x_t ?_)
         refine wS (wR ?_)
         refine q_v hk (w_as rfl) fun a hk => ?_
         refine c_end (x_t ?_)
         refine (wpIn_ret ?_)
         refine c_ret1 hk rfl rfl ?_
         refine ⟨?_, hs.toBelow⟩
         have ho := fid_or s
         unfold shErr
         rw [fid_dec, if_pos ho]
         (repeat' split) <;> first | rfl | omega | contradiction | exact absurd (hob.symm.trans (by assumption)) Bool.false_ne_true
theorem ckShare_c (F T I L : Int) (la : Option Addr) (n lc : Nat) (X : Nat → Nat) (W : World) (HX : LstAt W 4 (.slice la n lc) n (en vq X n)) (hn : n ≤ 100000000) (H4 : ∀ i, i < n → X i < R4) (HL : Laid W) :
    Calls Tryz.prog 105 #[.agg #[.int .i64 F, .int .i64 T, .int .i64 I, .int .i64 L, .slice la n lc]] W fun e w => e = .returned (.int .i64 (shErr F T I L n X)) ∧ Below W.heap.size W w := by
  by_cases h1 : F = 1
  · subst h1; exact ckShare_s false T I L la n lc X W HX hn H4 HL
  by_cases h2 : F = 2
  · subst h2; exact ckShare_s true T I L la n lc X W HX hn H4 HL
  exact ckShare_bad F T I L la n lc X W HX hn H4 HL h1 h2
theorem refCkShare_c (F T I L : Int) (la : Option Addr) (n lc : Nat) (X : Nat → Nat) (W : World) (HX : LstAt W 4 (.slice la n lc) n (en vq X n)) (hn : n ≤ 100000000) (H4 : ∀ i, i < n → X i < R4) :
    Calls Tryz.prog 56 #[.agg #[.int .i64 F, .int .i64 T, .int .i64 I, .int .i64 L, .slice la n lc]] W fun e w => e = .returned (.int .i64 (shErr F T I L n X)) ∧ Below W.heap.size W w := by
  by_cases h1 : F = 1
  · subst h1; exact refCkShare_s false T I L la n lc X W HX hn H4
  by_cases h2 : F = 2
  · subst h2; exact refCkShare_s true T I L la n lc X W HX hn H4
  exact refCkShare_bad F T I L la n lc X W HX hn H4 h1 h2
end Go.Proofs.YtdnkkbmpefhbjaaGreatDoor
namespace Go.Proofs.YtdnkkbmpefhbjaaGreatDoor
set_option linter.all false
open Go Go.RowKit Alg
/-- A share: its numbers, its payload as numbers, and where the payload lies. -/
structure Shr where
  F : Int
  T : Int
  I : Int
  L : Int
  n : Nat
  X : Nat → Nat
  a : Option Addr
  c : Nat
def shc (x : Shr) : List Value := [.int .i64 x.F, .int .i64 x.T, .int .i64 x.I, .int .i64 x.L, .slice x.a x.n x.c]
theorem shc_len (x : Shr) : (shc x).length = 5 := rfl
abbrev payR (x : Shr) : Res := lst 4 (.slice x.a x.n x.c) x.n (en vq x.X x.n)
/-- A list of m shares with their payloads. -/
def shareR (la : Option Addr) (m lc : Nat) (S : Nat → Shr) : Res := rall [lst 5 (.slice la m lc) m (en shc S m), rall ((List.range m).map fun i => payR (S i))]
section
variable {la : Option Addr} {m lc k : Nat} {S : Nat → Shr} {R : List Res}
theorem share_lst (h : HasR (shareR la m lc S) R) : HasR (lst 5 (.slice la m lc) m (en shc S m)) R := h.pi 0 rfl
theorem share_pay (h : HasR (shareR la m lc S) R) (hk : k < m) : HasR (payR (S k)) R := (HasR.pi (l := [_, _]) h 1 rfl).part (List.mem_map.2 ⟨k, List.mem_range.2 hk, rfl⟩)
end
/-- Bounds on the shares of a row. -/
structure ShOk (S : Nat → Shr) (m : Nat) : Prop where
  m_le : m ≤ 1000000
  n_le : ∀ k, k < m → (S k).n ≤ 100000000
  x_lt : ∀ k, k < m → ∀ i, i < (S k).n → (S k).X i < R4
def shE (x : Shr) : Int := shErr x.F x.T x.I x.L x.n x.X
/-- The first error of the first k shares. -/
def csE (S : Nat → Shr) : Nat → Int
  | 0 => 0
  | k + 1 => if csE S k ≠ 0 then csE S k else shE (S k)
def hdr (x : Shr) : Ev := (x.F, x.T, x.L)
def mixS (S : Nat → Shr) (k : Nat) : Bool := (List.range k).any fun i => decide (hdr (S i) ≠ hdr (S 0))
theorem mixS_succ (S : Nat → Shr) (k : Nat) : mixS S (k + 1) = (mixS S k || decide (hdr (S k) ≠ hdr (S 0))) := by simp [mixS, List.range_succ]
/-- The error of a list of shares. -/
def csErr (S : Nat → Shr) (m : Nat) : Int :=
  if csE S m ≠ 0 then csE S m else if mixS S m = true then 14 else if (((ksv (fun i => (S i).I) m).length : Nat) : Int) < ((m : Nat) : Int) then 15 else if ((m : Nat) : Int) = 0 ∨ ((m : Nat) : Int) < (S 0).T then 16 else 0
theorem csE_stay {S : Nat → Shr} {k : Nat} (h : csE S k ≠ 0) : ∀ d, csE S (k + d) = csE S k
  | 0 => rfl
  | d + 1 => by
    have ih := csE_stay h d
    show (if csE S (k + d) ≠ 0 then csE S (k + d) else _) = _
    rw [ih, if_pos h]
theorem csErr_at {S : Nat → Shr} {k m : Nat} (h0 : csE S k = 0) (h : shE (S k) ≠ 0) (hk : k < m) : csErr S m = shE (S k) := by
  have e : csE S (k + 1) = shE (S k) := by show (if csE S k ≠ 0 then _ else _) = _; rw [if_neg (by simp [h0])]
  have e2 := csE_stay (S := S) (k := k + 1) (by rw [e]; exact h) (m - (k + 1))
  rw [show k + 1 + (m - (k + 1)) = m by omega, e] at e2
  unfold csErr
  rw [e2, if_pos h]
theorem csE_next {S : Nat → Shr} {k : Nat} (h0 : csE S k = 0) (h : ¬ shE (S k) ≠ 0) : csE S (k + 1) = 0 := by
  show (if csE S k ≠ 0 then _ else _) = _
  rw [if_neg (by simp [h0])]
  exact Classical.not_not.1 h
/-- A column after k shares. -/
def clf (S : Nat → Shr) (ch k i : Nat) : Nat := if i < k then (S i).X ch else 0
section
variable {S : Nat → Shr} {ch k m : Nat}
theorem clf_zero : en vq (fun _ => 0) m = en vq (clf S ch 0) m := en_congr fun i _ => by unfold clf; rw [if_neg (Nat.not_lt_zero i)]
theorem clf_step : en vq (fun i => if i = k then (S k).X ch else clf S ch k i) m = en vq (clf S ch (k + 1)) m := en_congr fun i _ => by
  unfold clf
  by_cases h : i = k
  · subst h; rw [if_pos rfl, if_pos (Nat.lt_succ_self _)]
  · rw [if_neg h]
    by_cases l : i < k
    · rw [if_pos l, if_pos (by omega)]
    · rw [if_neg l, if_neg (by omega)]
theorem clf_end : en vq (clf S ch m) m = en vq (fun i => (S i).X ch) m := en_congr fun i hi => by unfold clf; rw [if_pos hi]
end
theorem hdr_c (F T I L : Int) (v : Value) (W : World) (hv : ones [v] = true) : Calls Tryz.prog 106 [.agg #[.int .i64 F, .int .i64 T, .int .i64 I, .int .i64 L, v]].toArray W fun e w => e = .returned (.agg #[.int .i64 F, .int .i64 T, .int .i64 L]) ∧ Below W.heap.size W w := by
 refine c_enter (args := [.agg #[.int .i64 F, .int .i64 T, .int .i64 I, .int .i64 L, v]]) Tryz.func106 rfl rfl rfl fun a hk => ?_
 have hs := Sat.start W [] (fun _ h => by cases h)
 refine wS (wR ?_)
 refine q_box (vs := [.int .i64 F, .int .i64 T, .int .i64 I, .int .i64 L, v]) hk hs rfl rfl rfl rfl fun b1 w a hk hs => ?_
 refine q_alc (vs := [.int .i64 0, .int .i64 0, .int .i64 0]) hk hs zr148 rfl rfl rfl fun b2 w a hk hs => ?_
 refine c_end (x_t (wS (wR ?_)))
 refine q_v hk (w_fa rfl fq53_0 ty3) fun a hk => ?_
 refine q_v hk (w_ld1 rfl ty3 (.blk (n := 1) (hs.mi 1 rfl) rfl)) fun a hk => ?_
 refine q_v hk (w_fa rfl fq53_1 ty3) fun a hk => ?_
 refine q_v hk (w_ld1 rfl ty3 (.blk (n := 1) (hs.mi 1 rfl) rfl)) fun a hk => ?_
 refine q_v hk (w_fa rfl fq53_3 ty3) fun a hk => ?_
 refine q_v hk (w_ld1 rfl ty3 (.blk (n := 1) (hs.mi 1 rfl) rfl)) fun a hk => ?_
 refine q_v hk (w_bld rfl fl148 zr148 rfl rfl) fun a hk => ?_
 refine q_sto (o := 0) (cs := [.int .i64 F, .int .i64 T, .int .i64 L]) (vs' := [.int .i64 F, .int .i64 T, .int .i64 L]) hk hs rfl rfl rfl ty148 rfl rfl rfl rfl rfl rfl fun w hs => ?_
 refine c_end (x_t ?_)
 refine (wpIn_ret ?_)
 refine c_retG (vs := [.agg #[.int .i64 F, .int .i64 T, .int .i64 L]]) hk rfl ⟨⟨_, rfl, lv_A ty148 (.blk (n := 3) (hs.mi 0 rfl) rfl) rfl⟩, trivial⟩ rfl ?_
 exact ⟨rfl, hs.toBelow⟩
theorem ckShares_c (m lc : Nat) (la : Option Addr) (S : Nat → Shr) (W : World) (HS : (shareR la m lc S).ok W) (HO : ShOk S m) (HL : Laid W) : Calls Tryz.prog 60 [.slice la m lc].toArray W fun e w => e = .returned (.int .i64 (csErr S m)) ∧ Below W.heap.size W w := by
 have hm6 := HO.m_le
 refine c_enter (args := [.slice la m lc]) Tryz.func60 rfl rfl rfl fun a hk => ?_
 have hs := Sat.start W [shareR la m lc S] (okr1 HS)
 refine wS (wR ?_)
 refine q_v hk (w_as rfl) fun a hk => ?_
 refine c_end (x_t (wS (wR ?_)))
 refine q_mkm isI hk hs rfl rfl fun b1 w a hk hs => ?_
 refine q_v hk (w_as rfl) fun a hk => ?_
 refine c_end (x_t (wS (wR ?_)))
 refine q_v hk (w_as rfl) fun a hk => ?_
 refine c_end (x_t (wS (wS (wR ?_))))
 refine q_v hk (w_mv rfl) fun a hk => ?_
 refine q_v hk (w_len rfl Tryz.underlying22) fun a hk => ?_
 refine q_v hk (w_mv rfl) fun a hk => ?_
 refine c_end (x_t ?_)
 refine wpIn_block ?_
 refine c_loop (α := Nat) (fun k a w => ∃ (mx : Bool), k ≤ m ∧ csE S k = 0 ∧ mx = mixS S k ∧ Kn [] 57 [(11, .int .i64 ((k : Nat) : Int)), (4, .bool mx), (10, .int .i64 ((m : Nat) : Int)), (9, .slice la m lc), (3, .map (some b1)), (0, .slice la m lc)] a ∧ Sat no W [mapI isI b1 (ksv (fun i => (S i).I) k)] [shareR la m lc S] w) (fun k => m - k) 0 ?_ ?_
 · exact ⟨_, (by omega), rfl, rfl, hk.k rfl (hk.k rfl (hk.k rfl (hk.k rfl (hk.k rfl (hk.k rfl hk.nil))))), hs⟩
 rintro k a w ⟨mx, hf0, hf1, hf2, hk, hs⟩
 refine wS (wR ?_)
 rcases Classical.em (((k : Nat) : Int) < ((m : Nat) : Int)) with hc2 | hc2
 ·
  have hlt : k < m := by omega
  refine q_v hk (w_lt rfl rfl (decide_eq_true hc2)) fun a hk => ?_
  refine c_end (x_t (wS ?_))
  refine c_T hk rfl ?_
  refine (wpIn_skip (x_t ?_))
  refine wS ?_
  refine wpIn_block ?_
  refine wS (wR ?_)
  refine q_v hk (w_iaL (k := k) rfl rfl Tryz.underlying22 ty53 ((share_lst (HasR.nth 0 rfl : HasR (shareR la m lc S) _)).at_ hs) (by omega) (by omega)) fun a hk => ?_
  refine q_v hk (w_ldA rfl ty53 (lstq (k := k) ((share_lst (HasR.nth 0 rfl : HasR (shareR la m lc S) _)).at_ hs) (by omega) (en_chunk shc_len (by omega))) rfl) fun a hk => ?_
  refine q_alc (vs := [.int .i64 0, .int .i64 0, .int .i64 0, .int .i64 0, .slice none 0 0]) hk hs zr53 rfl rfl rfl fun b3 w a hk hs => ?_
  refine q_sto (o := 0) (cs := [.int .i64 ((S k).F), .int .i64 ((S k).T), .int .i64 ((S k).I), .int .i64 ((S k).L), .slice ((S k).a) ((S k).n) ((S k).c)]) (vs' := [.int .i64 ((S k).F), .int .i64 ((S k).T), .int .i64 ((S k).I), .int .i64 ((S k).L), .slice ((S k).a) ((S k).n) ((S k).c)]) hk hs rfl rfl rfl ty53 rfl rfl rfl rfl rfl rfl fun w hs => ?_
  refine c_end (x_t (wS (wS (wR ?_))))
  refine q_v hk (w_ldA rfl ty53 (.blk (n := 5) (hs.mi 0 rfl) rfl) rfl) fun a hk => ?_
  refine q_call (caps := []) hk rfl rfl Tryz.func105 fo105 rfl rfl (ckShare_c _ _ _ _ _ _ _ (S k).X _ ((share_pay (k := k) (HasR.nth 0 rfl : HasR (shareR la m lc S) _) (by omega)).at_ hs) (HO.n_le k hlt) (HO.x_lt k hlt) (HL.step hs.toBelow)) ?_
  rintro _ w ⟨rfl, hb⟩
  have hs := hs.below hb
  refine ⟨_, rfl, fun a hk => ?_⟩
  refine q_v hk (w_as rfl) fun a hk => ?_
  refine c_end (x_t (wS (wR ?_)))
  refine q_v hk (w_mv rfl) fun a hk => ?_
  rcases Classical.em ((shE (S k)) ≠ 0) with hc4 | hc4
  ·
   refine q_v hk (w_ne rfl rfl (decide_eq_true hc4)) fun a hk => ?_
   refine c_end (x_t ?_)
   refine c_T hk rfl ?_
   refine wS (wR ?_)
   refine q_v hk (w_mv rfl) fun a hk => ?_
   refine q_v hk (w_as rfl) fun a hk => ?_
   refine c_end (x_t ?_)
   refine (wpIn_ret (x_tr (x_br (x_tr (x_tr (x_br (x_tr ?_)))))))
   refine c_ret1 hk rfl rfl ?_
   exact ⟨by rw [csErr_at hf1 (by assumption) (by omega)]; rfl, hs.toBelow⟩
  ·
   refine q_v hk (w_ne rfl rfl (decide_eq_false hc4)) fun a hk => ?_
   refine c_end (x_t ?_)
   refine c_F hk rfl ?_
   refine (wpIn_skip (x_t ?_))
   refine wS ?_
   rcases Classical.em (mx = true) with hc5 | hc5
   ·
    obtain rfl : mx = true := hc5
    refine d_begin _ 11 (by kernel_rfl) rfl hs okL.nil fun w hs hL => ?_
    refine d_w 0 1 hk hL rfl (fun w hL => w_mv rfl) fun a hk => ?_
    refine d_w 1 3 hk hL rfl (fun w hL => w_mv rfl) fun a hk => ?_
    refine d_s 2 7 hk hL rfl (by kernel_rfl) rfl rfl fun a hk => ?_
    refine d_s 3 15 hk hL rfl (by kernel_rfl) rfl rfl fun a hk => ?_
    refine d_s 4 31 hk hL rfl (by kernel_rfl) rfl rfl fun a hk => ?_
    refine d_s 5 63 hk hL rfl (by kernel_rfl) rfl rfl fun a hk => ?_
    refine d_s 6 127 hk hL rfl (by kernel_rfl) rfl rfl fun a hk => ?_
    refine d_s 7 255 hk hL rfl (by kernel_rfl) rfl rfl fun a hk => ?_
    refine d_s 8 511 hk hL rfl (by kernel_rfl) rfl rfl fun a hk => ?_
    refine d_w 9 1023 hk hL rfl (fun w hL => w_pickT rfl rfl) fun a hk => ?_
    refine d_w 10 2047 hk hL rfl (fun w hL => w_as rfl) fun a hk => ?_
    refine d_end (by kernel_rfl) ?_
    refine (x_t ?_)
    refine wR ?_
    refine q_v hk (w_mv rfl) fun a hk => ?_
    refine q_v hk (w_fa rfl fq53_2 ty3) fun a hk => ?_
    refine q_v hk (w_ld1 rfl ty3 (.blk (n := 1) (hs.mi 0 rfl) rfl)) fun a hk => ?_
    refine q_lkm hk (hs.mi 1 rfl) rfl rfl Tryz.underlying145 Tryz.underlying3 zr3 ⟨_, rfl⟩ rfl rfl ?_
    rintro _ a ⟨z6, rfl⟩ hk
    refine q_v hk (w_add (r := IntKind.i64.wrap (z6 + 1)) rfl rfl rfl) fun a hk => ?_
    have hs := hs.up1
    refine q_mup hk hs rfl rfl rfl ⟨_, rfl⟩ Tryz.underlying145 Tryz.underlying3 rfl fun w hs => ?_
    refine (c_end (x_b (x_t ?_)))
    refine wR ?_
    refine q_v hk (w_add rfl rfl (wr64 (by omega) (by omega))) fun a hk => ?_
    refine q_v hk (w_mv rfl) fun a hk => ?_
    refine c_end (x_t ?_)
    have hs := hs.rw0 (congrArg (mapI isI b1) (ksv_succ (fun i => (S i).I) k))
    have hen := csE_next hf1 (by first | assumption | omega)
    have hmn : true = mixS S (k + 1) := by rw [mixS_succ, ← hf2]; first | rfl | (rw [Bool.false_or]; first | exact (decide_eq_true hmm).symm | exact (decide_eq_false hmm).symm)
    have hs := hs.up1
    have hs := hs.drop
    exact ⟨k + 1, ⟨_, (by omega), hen, hmn, hk.k rfl (hk.k rfl (hk.k rfl (hk.k rfl (hk.k rfl (hk.k rfl hk.nil))))), hs⟩, by omega⟩
   ·
    obtain rfl : mx = false := by simpa using hc5
    rcases Classical.em (hdr (S k) ≠ hdr (S 0)) with hc7 | hc7
    ·
     have hmm := hc7
     have hL := okL.cons (hs.mi 0 rfl) (okL.cons ((share_lst (HasR.nth 0 rfl : HasR (shareR la m lc S) _)).at_ hs) okL.nil)
     refine d_begin _ 11 (by kernel_rfl) rfl hs hL fun w hs hL => ?_
     refine d_w 0 1 hk hL rfl (fun w hL => w_mv rfl) fun a hk => ?_
     refine d_w 1 3 hk hL rfl (fun w hL => w_mv rfl) fun a hk => ?_
     refine d_w 2 7 hk hL rfl (fun w hL => w_ldA rfl ty53 (.blk (n := 5) (hL.at 0 rfl) rfl) rfl) fun a hk => ?_
     refine d_w 4 23 hk hL rfl (fun w hL => w_mv rfl) fun a hk => ?_
     refine d_w 5 55 hk hL rfl (fun w hL => w_iaL (k := 0) rfl rfl Tryz.underlying22 ty53 (hL.at 1 rfl) (by omega) (by omega)) fun a hk => ?_
     refine d_w 6 119 hk hL rfl (fun w hL => w_ldA rfl ty53 (lstq (k := 0) (hL.at 1 rfl) (by omega) (en_chunk shc_len (by omega))) rfl) fun a hk => ?_
     refine d_1 3 127 rfl (by kernel_rfl) fun K hK => ?_
     refine q_call (caps := []) hk rfl rfl Tryz.func106 fo106 rfl rfl (hdr_c _ _ _ _ _ _ rfl) ?_
     rintro _ w ⟨rfl, hb⟩
     have hs := hs.below hb
     refine ⟨_, rfl, fun a hk => ?_⟩
     have hL := okL.cons (hs.mi 0 rfl) (okL.cons ((share_lst (HasR.nth 0 rfl : HasR (shareR la m lc S) _)).at_ hs) okL.nil)
     refine c_end (x_t (hK _ _ hL ?_))
     clear hK K
     refine d_1 7 255 rfl (by kernel_rfl) fun K hK => ?_
     refine q_call (caps := []) hk rfl rfl Tryz.func106 fo106 rfl rfl (hdr_c _ _ _ _ _ _ rfl) ?_
     rintro _ w ⟨rfl, hb⟩
     have hs := hs.below hb
     refine ⟨_, rfl, fun a hk => ?_⟩
     have hL := okL.cons (hs.mi 0 rfl) (okL.cons ((share_lst (HasR.nth 0 rfl : HasR (shareR la m lc S) _)).at_ hs) okL.nil)
     refine c_end (x_t (hK _ _ hL ?_))
     clear hK K
     refine d_w 8 511 hk hL rfl (fun w hL => w_ene (u := hdr (S k)) (v := hdr (S 0)) (nb := 8) rfl rfl (by kernel_rfl) (by kernel_rfl) Tryz.underlying3 ty3 (by kernel_rfl) (decide_eq_true hc7)) fun a hk => ?_
     refine d_w 9 1023 hk hL rfl (fun w hL => w_pickF rfl rfl) fun a hk => ?_
     refine d_w 10 2047 hk hL rfl (fun w hL => w_as rfl) fun a hk => ?_
     refine d_end (by kernel_rfl) ?_
     refine (x_t ?_)
     refine wR ?_
     refine q_v hk (w_mv rfl) fun a hk => ?_
     refine q_v hk (w_fa rfl fq53_2 ty3) fun a hk => ?_
     refine q_v hk (w_ld1 rfl ty3 (.blk (n := 1) (hs.mi 0 rfl) rfl)) fun a hk => ?_
     refine q_lkm hk (hs.mi 1 rfl) rfl rfl Tryz.underlying145 Tryz.underlying3 zr3 ⟨_, rfl⟩ rfl rfl ?_
     rintro _ a ⟨z8, rfl⟩ hk
     refine q_v hk (w_add (r := IntKind.i64.wrap (z8 + 1)) rfl rfl rfl) fun a hk => ?_
     have hs := hs.up1
     refine q_mup hk hs rfl rfl rfl ⟨_, rfl⟩ Tryz.underlying145 Tryz.underlying3 rfl fun w hs => ?_
     refine (c_end (x_b (x_t ?_)))
     refine wR ?_
     refine q_v hk (w_add rfl rfl (wr64 (by omega) (by omega))) fun a hk => ?_
     refine q_v hk (w_mv rfl) fun a hk => ?_
     refine c_end (x_t ?_)
     have hs := hs.rw0 (congrArg (mapI isI b1) (ksv_succ (fun i => (S i).I) k))
     have hen := csE_next hf1 (by first | assumption | omega)
     have hmn : true = mixS S (k + 1) := by rw [mixS_succ, ← hf2]; first | rfl | (rw [Bool.false_or]; first | exact (decide_eq_true hmm).symm | exact (decide_eq_false hmm).symm)
     have hs := hs.up1
     have hs := hs.drop
     exact ⟨k + 1, ⟨_, (by omega), hen, hmn, hk.k rfl (hk.k rfl (hk.k rfl (hk.k rfl (hk.k rfl (hk.k rfl hk.nil))))), hs⟩, by omega⟩
    ·
     have hmm := hc7
     have hL := okL.cons (hs.mi 0 rfl) (okL.cons ((share_lst (HasR.nth 0 rfl : HasR (shareR la m lc S) _)).at_ hs) okL.nil)
     refine d_begin _ 11 (by kernel_rfl) rfl hs hL fun w hs hL => ?_
     refine d_w 0 1 hk hL rfl (fun w hL => w_mv rfl) fun a hk => ?_
     refine d_w 1 3 hk hL rfl (fun w hL => w_mv rfl) fun a hk => ?_
     refine d_w 2 7 hk hL rfl (fun w hL => w_ldA rfl ty53 (.blk (n := 5) (hL.at 0 rfl) rfl) rfl) fun a hk => ?_
     refine d_w 4 23 hk hL rfl (fun w hL => w_mv rfl) fun a hk => ?_
     refine d_w 5 55 hk hL rfl (fun w hL => w_iaL (k := 0) rfl rfl Tryz.underlying22 ty53 (hL.at 1 rfl) (by omega) (by omega)) fun a hk => ?_
     refine d_w 6 119 hk hL rfl (fun w hL => w_ldA rfl ty53 (lstq (k := 0) (hL.at 1 rfl) (by omega) (en_chunk shc_len (by omega))) rfl) fun a hk => ?_
     refine d_1 3 127 rfl (by kernel_rfl) fun K hK => ?_
     refine q_call (caps := []) hk rfl rfl Tryz.func106 fo106 rfl rfl (hdr_c _ _ _ _ _ _ rfl) ?_
     rintro _ w ⟨rfl, hb⟩
     have hs := hs.below hb
     refine ⟨_, rfl, fun a hk => ?_⟩
     have hL := okL.cons (hs.mi 0 rfl) (okL.cons ((share_lst (HasR.nth 0 rfl : HasR (shareR la m lc S) _)).at_ hs) okL.nil)
     refine c_end (x_t (hK _ _ hL ?_))
     clear hK K
     refine d_1 7 255 rfl (by kernel_rfl) fun K hK => ?_
     refine q_call (caps := []) hk rfl rfl Tryz.func106 fo106 rfl rfl (hdr_c _ _ _ _ _ _ rfl) ?_
     rintro _ w ⟨rfl, hb⟩
     have hs := hs.below hb
     refine ⟨_, rfl, fun a hk => ?_⟩
     have hL := okL.cons (hs.mi 0 rfl) (okL.cons ((share_lst (HasR.nth 0 rfl : HasR (shareR la m lc S) _)).at_ hs) okL.nil)
     refine c_end (x_t (hK _ _ hL ?_))
     clear hK K
     refine d_w 8 511 hk hL rfl (fun w hL => w_ene (u := hdr (S k)) (v := hdr (S 0)) (nb := 8) rfl rfl (by kernel_rfl) (by kernel_rfl) Tryz.underlying3 ty3 (by kernel_rfl) (decide_eq_false hc7)) fun a hk => ?_
     refine d_w 9 1023 hk hL rfl (fun w hL => w_pickF rfl rfl) fun a hk => ?_
     refine d_w 10 2047 hk hL rfl (fun w hL => w_as rfl) fun a hk => ?_
     refine d_end (by kernel_rfl) ?_
     refine (x_t ?_)
     refine wR ?_
     refine q_v hk (w_mv rfl) fun a hk => ?_
     refine q_v hk (w_fa rfl fq53_2 ty3) fun a hk => ?_
     refine q_v hk (w_ld1 rfl ty3 (.blk (n := 1) (hs.mi 0 rfl) rfl)) fun a hk => ?_
     refine q_lkm hk (hs.mi 1 rfl) rfl rfl Tryz.underlying145 Tryz.underlying3 zr3 ⟨_, rfl⟩ rfl rfl ?_
     rintro _ a ⟨z9, rfl⟩ hk
     refine q_v hk (w_add (r := IntKind.i64.wrap (z9 + 1)) rfl rfl rfl) fun a hk => ?_
     have hs := hs.up1
     refine q_mup hk hs rfl rfl rfl ⟨_, rfl⟩ Tryz.underlying145 Tryz.underlying3 rfl fun w hs => ?_
     refine (c_end (x_b (x_t ?_)))
     refine wR ?_
     refine q_v hk (w_add rfl rfl (wr64 (by omega) (by omega))) fun a hk => ?_
     refine q_v hk (w_mv rfl) fun a hk => ?_
     refine c_end (x_t ?_)
     have hs := hs.rw0 (congrArg (mapI isI b1) (ksv_succ (fun i => (S i).I) k))
     have hen := csE_next hf1 (by first | assumption | omega)
     have hmn : false = mixS S (k + 1) := by rw [mixS_succ, ← hf2]; first | rfl | (rw [Bool.false_or]; first | exact (decide_eq_true hmm).symm | exact (decide_eq_false hmm).symm)
     have hs := hs.up1
     have hs := hs.drop
     exact ⟨k + 1, ⟨_, (by omega), hen, hmn, hk.k rfl (hk.k rfl (hk.k rfl (hk.k rfl (hk.k rfl (hk.k rfl hk.nil))))), hs⟩, by omega⟩
 ·
  refine q_v hk (w_lt rfl rfl (decide_eq_false hc2)) fun a hk => ?_
  refine c_end (x_t (wS ?_))
  refine c_F hk rfl ?_
  refine (wpIn_exit (x_te (x_te (x_be ?_))))
  refine (x_t ?_)
  refine wS ?_
  refine wpIn_block ?_
  refine wS (wR ?_)
  refine q_v hk (w_mv rfl) fun a hk => ?_
  refine q_v hk (w_as rfl) fun a hk => ?_
  refine c_end (x_t ?_)
  rcases mx with _ | _
  ·
   refine c_F hk rfl ?_
   refine wS (wR ?_)
   refine q_v hk (w_mv rfl) fun a hk => ?_
   refine q_v hk (w_lnm (hs.mi 0 rfl) rfl Tryz.underlying145) fun a hk => ?_
   refine q_v hk (w_mv rfl) fun a hk => ?_
   refine q_v hk (w_len rfl Tryz.underlying22) fun a hk => ?_
   rcases Classical.em ((((ksv (fun i => (S i).I) k).length : Nat) : Int) < ((m : Nat) : Int)) with hc10 | hc10
   ·
    refine q_v hk (w_lt rfl rfl (decide_eq_true hc10)) fun a hk => ?_
    refine q_v hk (w_as rfl) fun a hk => ?_
    refine c_end (x_t ?_)
    refine c_T hk rfl ?_
    refine wS (wR ?_)
    refine q_v hk (w_as rfl) fun a hk => ?_
    refine c_end (x_t ?_)
    refine (wpIn_ret (x_br (x_tr ?_)))
    refine c_ret1 hk rfl rfl ?_
    have hB := hs.toBelow
    obtain rfl : m = k := by omega
    refine ⟨?_, hB⟩
    have he : csErr S m = 15 := by
     unfold csErr
     rw [if_neg (by simp [hf1])]
     first | (rw [if_pos (hf2.symm)]; done) | (rw [if_neg (by rw [← hf2]; exact Bool.false_ne_true)]; (repeat' split) <;> first | rfl | omega | contradiction)
    rw [he]
   ·
    refine q_v hk (w_lt rfl rfl (decide_eq_false hc10)) fun a hk => ?_
    refine q_v hk (w_as rfl) fun a hk => ?_
    refine c_end (x_t ?_)
    refine c_F hk rfl ?_
    refine wS (wR ?_)
    refine q_v hk (w_mv rfl) fun a hk => ?_
    refine q_v hk (w_len rfl Tryz.underlying22) fun a hk => ?_
    rcases Classical.em (((m : Nat) : Int) = 0) with hc11 | hc11
    ·
     refine q_v hk (w_eq rfl rfl (decide_eq_true hc11)) fun a hk => ?_
     refine q_v hk (w_mv rfl) fun a hk => ?_
     refine q_skip hk rfl rfl fun a hk => ?_
     refine q_skip hk rfl rfl fun a hk => ?_
     refine q_skip hk rfl rfl fun a hk => ?_
     refine q_skip hk rfl rfl fun a hk => ?_
     refine q_skip hk rfl rfl fun a hk => ?_
     refine q_skip hk rfl rfl fun a hk => ?_
     refine q_skip hk rfl rfl fun a hk => ?_
     refine q_v hk (w_pickT rfl rfl) fun a hk => ?_
     refine q_v hk (w_as rfl) fun a hk => ?_
     refine c_end (x_t ?_)
     refine c_T hk rfl ?_
     refine wS (wR ?_)
     refine q_v hk (w_as rfl) fun a hk => ?_
     refine c_end (x_t ?_)
     refine (wpIn_ret (x_br (x_tr ?_)))
     refine c_ret1 hk rfl rfl ?_
     have hB := hs.toBelow
     obtain rfl : m = k := by omega
     refine ⟨?_, hB⟩
     have he : csErr S m = 16 := by
      unfold csErr
      rw [if_neg (by simp [hf1])]
      first | (rw [if_pos (hf2.symm)]; done) | (rw [if_neg (by rw [← hf2]; exact Bool.false_ne_true)]; (repeat' split) <;> first | rfl | omega | contradiction)
     rw [he]
    ·
     refine q_v hk (w_eq rfl rfl (decide_eq_false hc11)) fun a hk => ?_
     refine q_v hk (w_mv rfl) fun a hk => ?_
     refine q_v hk (w_mv rfl) fun a hk => ?_
     refine q_v hk (w_len rfl Tryz.underlying22) fun a hk => ?_
     refine q_v hk (w_mv rfl) fun a hk => ?_
     refine q_v hk (w_iaL (k := 0) rfl rfl Tryz.underlying22 ty53 ((share_lst (HasR.nth 0 rfl : HasR (shareR la m lc S) _)).at_ hs) (by omega) (by omega)) fun a hk => ?_
     refine q_v hk (w_fa rfl fq53_1 ty3) fun a hk => ?_
     refine q_v hk (w_ld1 rfl ty3 (lstf (k := 0) (o := 1) (m := 1) ((share_lst (HasR.nth 0 rfl : HasR (shareR la m lc S) _)).at_ hs) (by omega) (en_chunk shc_len (by omega)) rfl)) fun a hk => ?_
     rcases Classical.em (((m : Nat) : Int) < ((S 0).T)) with hc12 | hc12
     ·
      refine q_v hk (w_lt rfl rfl (decide_eq_true hc12)) fun a hk => ?_
      refine q_v hk (w_pickF rfl rfl) fun a hk => ?_
      refine q_v hk (w_as rfl) fun a hk => ?_
      refine c_end (x_t ?_)
      refine c_T hk rfl ?_
      refine wS (wR ?_)
      refine q_v hk (w_as rfl) fun a hk => ?_
      refine c_end (x_t ?_)
      refine (wpIn_ret (x_br (x_tr ?_)))
      refine c_ret1 hk rfl rfl ?_
      have hB := hs.toBelow
      obtain rfl : m = k := by omega
      refine ⟨?_, hB⟩
      have he : csErr S m = 16 := by
       unfold csErr
       rw [if_neg (by simp [hf1])]
       first | (rw [if_pos (hf2.symm)]; done) | (rw [if_neg (by rw [← hf2]; exact Bool.false_ne_true)]; (repeat' split) <;> first | rfl | omega | contradiction)
      rw [he]
     ·
      refine q_v hk (w_lt rfl rfl (decide_eq_false hc12)) fun a hk => ?_
      refine q_v hk (w_pickF rfl rfl) fun a hk => ?_
      refine q_v hk (w_as rfl) fun a hk => ?_
      refine c_end (x_t ?_)
      refine c_F hk rfl ?_
      refine (wpIn_skip (x_b (x_t ?_)))
      refine wS (wR ?_)
      refine q_v hk (w_as rfl) fun a hk => ?_
      refine c_end (x_t ?_)
      refine (wpIn_ret ?_)
      refine c_ret1 hk rfl rfl ?_
      have hB := hs.toBelow
      obtain rfl : m = k := by omega
      refine ⟨?_, hB⟩
      have he : csErr S m = 0 := by
       unfold csErr
       rw [if_neg (by simp [hf1])]
       first | (rw [if_pos (hf2.symm)]; done) | (rw [if_neg (by rw [← hf2]; exact Bool.false_ne_true)]; (repeat' split) <;> first | rfl | omega | contradiction)
      rw [he]
  ·
   refine c_T hk rfl ?_
   refine wS (wR ?_)
   refine q_v hk (w_as rfl) fun a hk => ?_
   refine c_end (x_t ?_)
   refine (wpIn_ret (x_br (x_tr ?_)))
   refine c_ret1 hk rfl rfl ?_
   have hB := hs.toBelow
   obtain rfl : m = k := by omega
   refine ⟨?_, hB⟩
   have he : csErr S m = 14 := by
    unfold csErr
    rw [if_neg (by simp [hf1])]
    first | (rw [if_pos (hf2.symm)]; done) | (rw [if_neg (by rw [← hf2]; exact Bool.false_ne_true)]; (repeat' split) <;> first | rfl | omega | contradiction)
   rw [he]
theorem indices_c (m lc : Nat) (la : Option Addr) (S : Nat → Shr) (W : World) (HS : (shareR la m lc S).ok W) (hm : m ≤ 1000000) : Calls Tryz.prog 80 [.slice la m lc].toArray W fun e w => ∃ a c, e = .returned (.slice a m c) ∧ Sat no W [row 3 1 (.slice a m c) m (en ic (fun i => (S i).I) m)] [] w := by
 refine c_enter (args := [.slice la m lc]) Tryz.func80 rfl rfl rfl fun a hk => ?_
 have hs := Sat.start W [shareR la m lc S] (okr1 HS)
 refine wS (wR ?_)
 refine q_v hk (w_as rfl) fun a hk => ?_
 refine c_end (x_t (wS (wR ?_)))
 refine q_v hk (w_as rfl) fun a hk => ?_
 refine c_end (x_t (wS (wS (wR ?_))))
 refine q_v hk (w_mv rfl) fun a hk => ?_
 refine q_v hk (w_len rfl Tryz.underlying22) fun a hk => ?_
 refine q_v hk (w_mv rfl) fun a hk => ?_
 refine c_end (x_t ?_)
 refine wpIn_block ?_
 have hs := hs.row0 3 1
 refine c_loop (α := Nat) (fun k a w => ∃ (ao : Option Addr) (co : Nat), k ≤ m ∧ Kn [] 19 [(8, .int .i64 (k : Int)), (3, .slice ao k co), (7, .int .i64 ((m : Nat) : Int)), (6, .slice la m lc), (2, .slice none 0 0)] a ∧ Sat no W [row 3 1 (.slice ao k co) k (en ic (fun i => (S i).I) k)] [shareR la m lc S] w) (fun k => m - k) 0 ?_ ?_
 · exact ⟨_, _, (by omega), hk.k rfl (hk.k rfl (hk.k rfl (hk.k rfl (hk.k rfl hk.nil)))), hs⟩
 rintro k a w ⟨ao, co, hf0, hk, hs⟩
 refine wS (wR ?_)
 rcases Classical.em ((k : Int) < ((m : Nat) : Int)) with hc1 | hc1
 ·
  refine q_v hk (w_lt rfl rfl (decide_eq_true hc1)) fun a hk => ?_
  refine c_end (x_t (wS ?_))
  refine c_T hk rfl ?_
  refine (wpIn_skip (x_t ?_))
  refine wS ?_
  refine wpIn_block ?_
  refine wS (wR ?_)
  refine q_v hk (w_iaL (k := k) rfl rfl Tryz.underlying22 ty53 ((share_lst (HasR.nth 0 rfl : HasR (shareR la m lc S) _)).at_ hs) (by omega) (by omega)) fun a hk => ?_
  refine q_v hk (w_ldA rfl ty53 (lstq (k := k) ((share_lst (HasR.nth 0 rfl : HasR (shareR la m lc S) _)).at_ hs) (by omega) (en_chunk shc_len (by omega))) rfl) fun a hk => ?_
  refine q_alc (vs := [.int .i64 0, .int .i64 0, .int .i64 0, .int .i64 0, .slice none 0 0]) hk hs zr53 rfl rfl rfl fun b2 w a hk hs => ?_
  refine q_sto (o := 0) (cs := [.int .i64 ((S k).F), .int .i64 ((S k).T), .int .i64 ((S k).I), .int .i64 ((S k).L), .slice ((S k).a) ((S k).n) ((S k).c)]) (vs' := [.int .i64 ((S k).F), .int .i64 ((S k).T), .int .i64 ((S k).I), .int .i64 ((S k).L), .slice ((S k).a) ((S k).n) ((S k).c)]) hk hs rfl rfl rfl ty53 rfl rfl rfl rfl rfl rfl fun w hs => ?_
  refine c_end (x_t (wR ?_))
  refine q_v hk (w_mv rfl) fun a hk => ?_
  refine q_v hk (w_fa rfl fq53_2 ty3) fun a hk => ?_
  refine q_v hk (w_ld1 rfl ty3 (.blk (n := 1) (hs.mi 0 rfl) rfl)) fun a hk => ?_
  refine q_bsl (els := [.tmp 14]) (cs := [.int .i64 ((S k).I)]) hk hs rfl Tryz.underlying34 ty3 zr3 rfl rfl rfl rfl rfl rfl rfl fun b3 w a hk hs => ?_
  have hs := hs.up2
  refine q_app (news := [.int .i64 ((S k).I)]) (m := 1) hk hs rfl rfl Tryz.underlying34 ty3 zr3 rfl rfl (.blk (n := 1) (hs.mi 1 rfl) rfl) rfl rfl (by omega) (by omega) rfl rfl fun a4 c5 w a hk hs => ?_
  have hs := hs.up1
  have hs := hs.drop
  refine q_v hk (w_as rfl) fun a hk => ?_
  refine (c_end (x_b (x_t ?_)))
  refine wR ?_
  refine q_v hk (w_add rfl rfl (wr64 (by omega) (by omega))) fun a hk => ?_
  refine q_v hk (w_mv rfl) fun a hk => ?_
  refine c_end (x_t ?_)
  have hs := hs.rw0 (congrArg _ en_succ)
  have hs := hs.up1
  have hs := hs.drop
  exact ⟨k + 1, ⟨_, _, (by omega), hk.k rfl (hk.k rfl (hk.k rfl (hk.k rfl (hk.k rfl hk.nil)))), hs⟩, by omega⟩
 ·
  refine q_v hk (w_lt rfl rfl (decide_eq_false hc1)) fun a hk => ?_
  refine c_end (x_t (wS ?_))
  refine c_F hk rfl ?_
  refine (wpIn_exit (x_te (x_te (x_be ?_))))
  refine (x_t ?_)
  refine wS (wR ?_)
  refine q_v hk (w_mv rfl) fun a hk => ?_
  refine q_v hk (w_as rfl) fun a hk => ?_
  refine c_end (x_t ?_)
  refine (wpIn_ret ?_)
  refine c_ret1 hk rfl rfl ?_
  have hkm : k = m := by omega
  rw [hkm] at hs ⊢
  exact ⟨_, _, rfl, hs.fin⟩
theorem column_c (m lc ch : Nat) (la : Option Addr) (S : Nat → Shr) (W : World) (HS : (shareR la m lc S).ok W) (hm : m ≤ 1000000) (hc : ∀ i, i < m → ch < (S i).n ∧ (S i).n ≤ 100000000) : Calls Tryz.prog 101 [.slice la m lc, .int .i64 ((ch : Nat) : Int)].toArray W fun e w => ∃ b, e = .returned (.slice (some ⟨b, 0, none⟩) m m) ∧ Sat no W [blk b (en vq (fun i => (S i).X ch) m) 56] [] w := by
 refine c_enter (args := [.slice la m lc, .int .i64 ((ch : Nat) : Int)]) Tryz.func101 rfl rfl rfl fun a hk => ?_
 have hs := Sat.start W [shareR la m lc S] (okr1 HS)
 refine wS (wR ?_)
 refine q_v hk (w_as rfl) fun a hk => ?_
 refine c_end (x_t (wS (wR ?_)))
 refine q_v hk (w_mv rfl) fun a hk => ?_
 refine q_v hk (w_len rfl Tryz.underlying22) fun a hk => ?_
 refine q_mks (k := m) (cs := vq 0) hk hs rfl rfl Tryz.underlying51 ty56 zr56 (by kernel_rfl) rfl rfl rfl rfl (by omega) (by omega) rfl rfl fun b1 w a hk hs => ?_
 have hs := hs.rw0 (show _ = blk b1 (en vq (fun _ => 0) m) 56 from rfl)
 refine q_v hk (w_as rfl) fun a hk => ?_
 refine c_end (x_t (wS (wS (wR ?_))))
 refine q_v hk (w_mv rfl) fun a hk => ?_
 refine q_v hk (w_len rfl Tryz.underlying22) fun a hk => ?_
 refine q_v hk (w_mv rfl) fun a hk => ?_
 refine c_end (x_t ?_)
 refine wpIn_block ?_
 have hs := hs.rw0 (congrArg (fun q => blk b1 q 56) (clf_zero (S := S) (ch := ch)))
 refine c_loop (α := Nat) (fun k a w => k ≤ m ∧ Kn [] 34 [(13, .int .i64 ((k : Nat) : Int)), (12, .int .i64 ((m : Nat) : Int)), (11, .slice la m lc), (5, .slice (some ⟨b1, 0, none⟩) m m), (4, .slice none 0 0), (1, .int .i64 ((ch : Nat) : Int))] a ∧ Sat no W [blk b1 (en vq (fun i => clf S ch k i) m) 56] [shareR la m lc S] w) (fun k => m - k) 0 ?_ ?_
 · exact ⟨(by omega), hk.k rfl (hk.k rfl (hk.k rfl (hk.k rfl (hk.k rfl (hk.k rfl hk.nil))))), hs⟩
 rintro k a w ⟨hf0, hk, hs⟩
 refine wS (wR ?_)
 rcases Classical.em (((k : Nat) : Int) < ((m : Nat) : Int)) with hc2 | hc2
 ·
  have hlt : k < m := by omega
  have hck := hc k hlt
  refine q_v hk (w_lt rfl rfl (decide_eq_true hc2)) fun a hk => ?_
  refine c_end (x_t (wS ?_))
  refine c_T hk rfl ?_
  refine (wpIn_skip (x_t ?_))
  refine wS ?_
  refine wpIn_block ?_
  refine wS (wR ?_)
  refine q_v hk (w_mv rfl) fun a hk => ?_
  refine q_v hk (w_iaL (k := k) rfl rfl Tryz.underlying22 ty53 ((share_lst (HasR.nth 0 rfl : HasR (shareR la m lc S) _)).at_ hs) (by omega) (by omega)) fun a hk => ?_
  refine q_v hk (w_ldA rfl ty53 (lstq (k := k) ((share_lst (HasR.nth 0 rfl : HasR (shareR la m lc S) _)).at_ hs) (by omega) (en_chunk shc_len (by omega))) rfl) fun a hk => ?_
  refine q_alc (vs := [.int .i64 0, .int .i64 0, .int .i64 0, .int .i64 0, .slice none 0 0]) hk hs zr53 rfl rfl rfl fun b3 w a hk hs => ?_
  refine q_v hk (w_as rfl) fun a hk => ?_
  refine q_sto (o := 0) (cs := [.int .i64 ((S k).F), .int .i64 ((S k).T), .int .i64 ((S k).I), .int .i64 ((S k).L), .slice ((S k).a) ((S k).n) ((S k).c)]) (vs' := [.int .i64 ((S k).F), .int .i64 ((S k).T), .int .i64 ((S k).I), .int .i64 ((S k).L), .slice ((S k).a) ((S k).n) ((S k).c)]) hk hs rfl rfl rfl ty53 rfl rfl rfl rfl rfl rfl fun w hs => ?_
  refine c_end (x_t (wS (wR ?_)))
  refine q_v hk (w_mv rfl) fun a hk => ?_
  refine q_v hk (w_fa rfl fq53_4 ty51) fun a hk => ?_
  refine q_v hk (w_ld1 rfl ty51 (.blk (n := 1) (hs.mi 0 rfl) rfl)) fun a hk => ?_
  refine q_v hk (w_len rfl Tryz.underlying51) fun a hk => ?_
  refine q_v hk (w_sub rfl rfl (wr64 (by omega) (by omega))) fun a hk => ?_
  refine q_call (caps := []) hk rfl rfl Tryz.func136 fo136 rfl rfl (between_t _ _ _ _ (by omega)) ?_
  rintro _ _ ⟨rfl, rfl⟩
  refine ⟨_, rfl, fun a hk => ?_⟩
  refine c_end (x_t ?_)
  refine c_T hk rfl ?_
  refine wR ?_
  refine q_v hk (w_mv rfl) fun a hk => ?_
  refine q_v hk (w_mv rfl) fun a hk => ?_
  refine q_v hk (w_fa rfl fq53_4 ty51) fun a hk => ?_
  refine q_v hk (w_ld1 rfl ty51 (.blk (n := 1) (hs.mi 0 rfl) rfl)) fun a hk => ?_
  refine q_v hk (w_mv rfl) fun a hk => ?_
  refine q_v hk (w_iaL (k := ch) rfl rfl Tryz.underlying51 ty56 ((share_pay (k := k) (HasR.nth 0 rfl : HasR (shareR la m lc S) _) (by omega)).at_ hs) (by omega) (by omega)) fun a hk => ?_
  refine q_v hk (w_ldv (z := (S k).X ch) rfl ty56 (lstq (k := ch) ((share_pay (k := k) (HasR.nth 0 rfl : HasR (shareR la m lc S) _) (by omega)).at_ hs) (by omega) (en_chunk vq_len (by omega)))) fun a hk => ?_
  refine q_v hk (w_iaL (k := k) rfl rfl Tryz.underlying51 ty56 (blk_lst (hs.mi 1 rfl) (en_len vq_len) (Nat.le_refl _)) (by omega) (by omega)) fun a hk => ?_
  have hs := hs.up1
  refine q_stoE (c := vq) (xx := ((S k).X ch)) (k := k) hk hs rfl rfl rfl ty56 rfl vq_len rfl (by omega) rfl fun w hs => ?_
  refine (c_end (x_b (x_t ?_)))
  refine wR ?_
  refine q_v hk (w_add rfl rfl (wr64 (by omega) (by omega))) fun a hk => ?_
  refine q_v hk (w_mv rfl) fun a hk => ?_
  refine c_end (x_t ?_)
  have hs := hs.rw0 (congrArg (fun q => blk b1 q 56) (clf_step (S := S) (ch := ch)))
  have hs := hs.up1
  have hs := hs.drop
  exact ⟨k + 1, ⟨(by omega), hk.k rfl (hk.k rfl (hk.k rfl (hk.k rfl (hk.k rfl (hk.k rfl hk.nil))))), hs⟩, by omega⟩
 ·
  refine q_v hk (w_lt rfl rfl (decide_eq_false hc2)) fun a hk => ?_
  refine c_end (x_t (wS ?_))
  refine c_F hk rfl ?_
  refine (wpIn_exit (x_te (x_te (x_be ?_))))
  refine (x_t ?_)
  refine wS (wR ?_)
  refine q_v hk (w_mv rfl) fun a hk => ?_
  refine q_v hk (w_as rfl) fun a hk => ?_
  refine c_end (x_t ?_)
  refine (wpIn_ret ?_)
  refine c_ret1 hk rfl rfl ?_
  have hkm : k = m := by omega
  rw [hkm] at hs
  rw [clf_end] at hs
  exact ⟨_, rfl, hs.fin⟩
end Go.Proofs.YtdnkkbmpefhbjaaGreatDoor
namespace Go.Proofs.YtdnkkbmpefhbjaaGreatDoor
set_option linter.all false
open Go Go.RowKit Alg
theorem interp_len2 {n : Nat} (h : n ≤ 255) : (interpE (n : Int)).length ≤ 140000 := by
  have h1 := weights_len (n := (n : Int)) (by omega)
  have h2 : (upE 0 (n : Int) (pairT n)).length ≤ n * n := pairTs_len
  have h3 : n * n ≤ 255 * 255 := Nat.mul_le_mul h h
  have e : interpE (n : Int) = weightsE (n : Int) ++ upE 0 (n : Int) (pairT n) := rfl
  rw [e, List.length_append]; omega
end Go.Proofs.YtdnkkbmpefhbjaaGreatDoor
namespace Go.Proofs.YtdnkkbmpefhbjaaGreatDoor
set_option linter.all false
open Go Go.RowKit Alg
structure Good (s : Bool) (S : Nat → Shr) (m : Nat) : Prop where
  m0 : 0 < m
  F : ∀ i, i < m → (S i).F = fid s
  T : ∀ i, i < m → (S i).T = (S 0).T
  Lq : ∀ i, i < m → (S i).L = (S 0).L
  n : ∀ i, i < m → (S i).n = (S 0).n
  idx : ∀ i, i < m → 1 ≤ (S i).I ∧ (S i).I ≤ 255
  app : ∀ i k, i < k → k < m → (S i).I ≠ (S k).I
  X : ∀ i, i < m → ∀ j, j < (S 0).n → (S i).X j < pr s
  t1 : 1 ≤ (S 0).T
  tm : (S 0).T ≤ (m : Int)
  l0 : 0 ≤ (S 0).L
  l1 : (S 0).L ≤ 65535
  cn : (S 0).n = cn (S 0).L
/-- The indices, the threshold as numbers; a column's elements. -/
def vI (S : Nat → Shr) (i : Nat) : Nat := (S i).I.toNat
def thN (S : Nat → Shr) : Nat := (S 0).T.toNat
def clz (s : Bool) (S : Nat → Shr) (ch i : Nat) : Zp s := mz s ((S i).X ch)
section
variable {s : Bool} {S : Nat → Shr} {m : Nat} (g : Good s S m)
include g
theorem Good.v_eq {i : Nat} (hi : i < m) : (S i).I = ((vI S i : Nat) : Int) := by have := g.idx i hi; unfold vI; omega
theorem Good.v_le (i : Nat) (hi : i < m) : 1 ≤ vI S i ∧ vI S i ≤ 255 := by have := g.idx i hi; unfold vI; omega
theorem Good.v_ne (i k : Nat) (hik : i < k) (hk : k < m) : vI S i ≠ vI S k := fun h => g.app i k hik hk (by rw [g.v_eq (Nat.lt_trans hik hk), g.v_eq hk, h])
theorem Good.th : (S 0).T = ((thN S : Nat) : Int) := by have := g.t1; unfold thN; omega
theorem Good.th_le : 1 ≤ thN S ∧ thN S ≤ m := by have := g.t1; have := g.tm; unfold thN; omega
theorem Good.xs_eq : en ic (fun i => (S i).I) m = en ic (fun i => ((vI S i : Nat) : Int)) m := en_congr fun i hi => g.v_eq hi
theorem Good.col_eq {ch : Nat} (hc : ch < (S 0).n) : en vq (fun i => (S i).X ch) m = en vq (fun i => mq (clz s S ch i)) m := en_congr fun i hi => (mz_mq (g.X i hi ch hc)).symm
end
/-- The program's fields, as something that is only read. -/
def laidR : Res where
  foot := (· = 0)
  ok w := Laid w
  loc w w' h k := fun j v hv => by rw [cell?_block (h _ rfl)]; exact k j v hv
  lt w k h hk := by subst hk; exact h.pos
end Go.Proofs.YtdnkkbmpefhbjaaGreatDoor
namespace Go.Proofs.YtdnkkbmpefhbjaaGreatDoor
set_option linter.all false
open Go Go.RowKit Alg
end Go.Proofs.YtdnkkbmpefhbjaaGreatDoor
namespace Go.Proofs.YtdnkkbmpefhbjaaGreatDoor
set_option linter.all false
open Go Go.RowKit Alg
section
variable {s : Bool}
/-- The sum of the c k * f k below n. -/
def Sg (c f : Nat → Zp s) : Nat → Zp s
  | 0 => 0
  | k + 1 => Sg c f k + c k * f k
theorem Sg_congr {c d f : Nat → Zp s} : ∀ {n : Nat}, (∀ k, k < n → c k = d k) → Sg c f n = Sg d f n
  | 0, _ => rfl
  | n + 1, h => by show Sg c f n + _ = Sg d f n + _; rw [Sg_congr fun k hk => h k (by omega), h n (by omega)]
theorem Sg_zero {c f : Nat → Zp s} : ∀ {n : Nat}, (∀ k, k < n → c k = 0) → Sg c f n = 0
  | 0, _ => rfl
  | n + 1, h => by show Sg c f n + c n * f n = 0; rw [Sg_zero fun k hk => h k (by omega), h n (by omega)]; grind
theorem Sg_add (c d f : Nat → Zp s) (e : Zp s) : ∀ n, Sg (fun k => c k + e * d k) f n = Sg c f n + e * Sg d f n
  | 0 => by show (0 : Zp s) = 0 + e * 0; grind
  | n + 1 => by show Sg _ f n + (c n + e * d n) * f n = Sg c f n + c n * f n + e * (Sg d f n + d n * f n); rw [Sg_add c d f e n]; grind
theorem Sg_upd (g f : Nat → Zp s) (e : Zp s) (i : Nat) : ∀ n, Sg (fun j => if j = i then g j + e else g j) f n = Sg g f n + if i < n then e * f i else 0
  | 0 => by rw [if_neg (Nat.not_lt_zero i)]; show (0 : Zp s) = 0 + 0; grind
  | n + 1 => by
    show Sg _ f n + (if n = i then g n + e else g n) * f n = Sg g f n + g n * f n + _
    rw [Sg_upd g f e i n]
    by_cases h : n = i
    · subst h; rw [if_neg (Nat.lt_irrefl _), if_pos rfl, if_pos (Nat.lt_succ_self _)]; grind
    · rw [if_neg h]
      by_cases l : i < n
      · rw [if_pos l, if_pos (by omega)]; grind
      · rw [if_neg l, if_neg (by omega)]; grind
/-- A product with X - b. -/
theorem Sg_lin (c f : Nat → Zp s) (b : Zp s) (N : Nat) : ∀ n, n + 1 ≤ N → Sg (mall c (lin b) 2 n) f N = Sg c (fun k => f (k + 1) - b * f k) n
  | 0, _ => Sg_zero fun _ _ => rfl
  | n + 1, h => by
    have ih := Sg_lin c f b N n (by omega)
    show Sg (fun j => if j = n + 1 then (if j = n then mall c (lin b) 2 n j + c n * lin b 0 else mall c (lin b) 2 n j) + c n * lin b 1 else (if j = n then mall c (lin b) 2 n j + c n * lin b 0 else mall c (lin b) 2 n j)) f N = Sg c _ n + c n * (f (n + 1) - b * f n)
    rw [Sg_upd (fun j => if j = n then mall c (lin b) 2 n j + c n * lin b 0 else mall c (lin b) 2 n j), Sg_upd (mall c (lin b) 2 n), if_pos (by omega), if_pos (by omega), ih]
    show _ + c n * (0 - b) * f n + c n * 1 * f (n + 1) = _
    grind
theorem Sg_pw (c : Nat → Zp s) (z b : Zp s) : ∀ n, Sg c (fun k => pw z (k + 1) - b * pw z k) n = (z - b) * Sg c (pw z) n
  | 0 => by show (0 : Zp s) = (z - b) * 0; grind
  | n + 1 => by
    show Sg c _ n + c n * (pw z n * z - b * pw z n) = (z - b) * (Sg c (pw z) n + c n * pw z n)
    rw [Sg_pw c z b n]; grind
/-- (z^k - a^k) / (z - a). -/
def psi (a z : Zp s) : Nat → Zp s
  | 0 => 0
  | k + 1 => psi a z k * a + pw z k
theorem Sg_dp (c : Nat → Zp s) (z b : Zp s) : ∀ n, Sg c (fun k => psi z z (k + 1) - b * psi z z k) n = (z - b) * Sg c (psi z z) n + Sg c (pw z) n
  | 0 => by show (0 : Zp s) = (z - b) * 0 + 0; grind
  | n + 1 => by
    show Sg c _ n + c n * (psi z z n * z + pw z n - b * psi z z n) = (z - b) * (Sg c (psi z z) n + c n * psi z z n) + (Sg c (pw z) n + c n * pw z n)
    rw [Sg_dp c z b n]; grind
theorem psi_eq (a z : Zp s) : ∀ k, (z - a) * psi a z k = pw z k - pw a k
  | 0 => by show (z - a) * 0 = 1 - 1; grind
  | k + 1 => by
    have ih := psi_eq a z k
    show (z - a) * (psi a z k * a + pw z k) = pw z k * z - pw a k * a
    grind
theorem Sg_psi (c : Nat → Zp s) (a z : Zp s) : ∀ n, (z - a) * Sg c (psi a z) n = Sg c (pw z) n - Sg c (pw a) n
  | 0 => by show (z - a) * 0 = (0 : Zp s) - 0; grind
  | n + 1 => by
    have ih := Sg_psi c a z n
    have h := psi_eq a z n
    show (z - a) * (Sg c (psi a z) n + c n * psi a z n) = Sg c (pw z) n + c n * pw z n - (Sg c (pw a) n + c n * pw a n)
    grind
/-- Horner's partial values are the coefficients of the quotient. -/
theorem Hn_part (c : Nat → Zp s) (a z : Zp s) (n : Nat) : ∀ j, j ≤ n + 1 → Sg c (psi a z) (n + 1) - Sg c (psi a z) (n + 1 - j) = Sg (fun k => Hn c (n + 1) a (n - k)) (pw z) (n + 1) - Sg (fun k => Hn c (n + 1) a (n - k)) (pw z) (n + 1 - j) + Hn c (n + 1) a j * psi a z (n + 1 - j)
  | 0, _ => by show Sg c _ (n + 1) - Sg c _ (n + 1) = Sg _ _ (n + 1) - Sg _ _ (n + 1) + 0 * _; grind
  | j + 1, h => by
    have ih := Hn_part c a z n j (by omega)
    obtain ⟨m, hm⟩ : ∃ m, n = m + j := ⟨n - j, by omega⟩
    rw [show n + 1 - j = m + 1 by omega] at ih
    rw [show n + 1 - (j + 1) = m by omega]
    have e1 : Sg c (psi a z) (m + 1) = Sg c (psi a z) m + c m * psi a z m := rfl
    have e2 : Sg (fun k => Hn c (n + 1) a (n - k)) (pw z) (m + 1) = Sg (fun k => Hn c (n + 1) a (n - k)) (pw z) m + Hn c (n + 1) a j * pw z m := by
      show _ + Hn c (n + 1) a (n - m) * _ = _
      rw [show n - m = j by omega]
    have e3 : Hn c (n + 1) a (j + 1) = Hn c (n + 1) a j * a + c m := by
      show _ + c (n + 1 - 1 - j) = _
      rw [show n + 1 - 1 - j = m by omega]
    have e4 : psi a z (m + 1) = psi a z m * a + pw z m := rfl
    rw [e1, e2, e4] at ih
    rw [e3]
    generalize Sg c (psi a z) (n + 1) = A1 at *
    generalize Sg c (psi a z) m = A2 at *
    generalize Sg (fun k => Hn c (n + 1) a (n - k)) (pw z) (n + 1) = A3 at *
    generalize Sg (fun k => Hn c (n + 1) a (n - k)) (pw z) m = A4 at *
    grind
theorem Hn_quo (c : Nat → Zp s) (a z : Zp s) (n : Nat) : Sg (fun k => Hn c (n + 1) a (n - k)) (pw z) n = Sg c (psi a z) (n + 1) := by
  have h := Hn_part c a z n (n + 1) (Nat.le_refl _)
  rw [Nat.sub_self] at h
  have e : Sg (fun k => Hn c (n + 1) a (n - k)) (pw z) (n + 1) = Sg (fun k => Hn c (n + 1) a (n - k)) (pw z) n + 0 * pw z n := by
    show _ + Hn c (n + 1) a (n - n) * _ = _
    rw [Nat.sub_self]; rfl
  rw [e] at h
  have h0 : Sg c (psi a z) 0 = 0 := rfl
  have h1 : Sg (fun k => Hn c (n + 1) a (n - k)) (pw z) 0 = 0 := rfl
  have h2 : psi a z 0 = 0 := rfl
  rw [h0, h1, h2] at h
  grind
/-- Horner's last value is the value. -/
theorem Hn_top (c : Nat → Zp s) (z : Zp s) (n : Nat) : ∀ j, j ≤ n → Sg c (pw z) n = Sg c (pw z) (n - j) + Hn c n z j * pw z (n - j)
  | 0, _ => by show _ = _ + 0 * _; grind
  | j + 1, h => by
    have ih := Hn_top c z n j (by omega)
    obtain ⟨m, hm⟩ : ∃ m, n = m + (j + 1) := ⟨n - (j + 1), by omega⟩
    rw [show n - j = m + 1 by omega] at ih
    rw [show n - (j + 1) = m by omega, ih]
    show Sg c (pw z) m + c m * pw z m + Hn c n z j * (pw z m * z) = Sg c (pw z) m + (Hn c n z j * z + c (n - 1 - j)) * pw z m
    rw [show n - 1 - j = m by omega]
    grind
theorem Hn_ev (c : Nat → Zp s) (z : Zp s) (n : Nat) : Hn c n z n = Sg c (pw z) n := by
  have h := Hn_top c z n n (Nat.le_refl _)
  rw [Nat.sub_self] at h
  have e : Sg c (pw z) 0 = 0 := rfl
  have e2 : pw z 0 = 1 := rfl
  rw [e, e2] at h
  grind
/-! The product of the X - x i. -/
def Pd (x : Nat → Zp s) (z : Zp s) : Nat → Zp s
  | 0 => 1
  | k + 1 => (z - x k) * Pd x z k
theorem mst_ev (x : Nat → Zp s) (z : Zp s) : ∀ k, Sg (mst x k) (pw z) (k + 1) = Pd x z k
  | 0 => by show (0 : Zp s) + 1 * 1 = 1; grind
  | k + 1 => by
    show Sg (mall (mst x k) (lin (x k)) 2 (k + 1)) (pw z) (k + 2) = _
    rw [Sg_lin _ _ _ _ _ (Nat.le_refl _), Sg_pw, mst_ev x z k]; rfl
theorem mst_d (x : Nat → Zp s) (z : Zp s) (k : Nat) : Sg (mst x (k + 1)) (psi z z) (k + 2) = (z - x k) * Sg (mst x k) (psi z z) (k + 1) + Pd x z k := by
  show Sg (mall (mst x k) (lin (x k)) 2 (k + 1)) (psi z z) (k + 2) = _
  rw [Sg_lin _ _ _ _ _ (Nat.le_refl _), Sg_dp, mst_ev]
theorem Pd_zero (x : Nat → Zp s) (u : Nat) : ∀ k, u < k → Pd x (x u) k = 0
  | k + 1, h => by
    show (x u - x k) * Pd x (x u) k = 0
    by_cases e : u = k
    · subst e; grind
    · rw [Pd_zero x u k (by omega)]; grind
theorem Pd_wr (x : Nat → Zp s) (u : Nat) : ∀ k, k ≤ u → Pd x (x u) k = wr x u k
  | 0, _ => rfl
  | k + 1, h => by
    show (x u - x k) * Pd x (x u) k = if k = u then _ else wr x u k * (x u - x k)
    rw [if_neg (by omega), Pd_wr x u k (by omega)]; grind
theorem mst_wr (x : Nat → Zp s) (u : Nat) : ∀ k, u < k → Sg (mst x k) (psi (x u) (x u)) (k + 1) = wr x u k
  | k + 1, h => by
    rw [mst_d]
    show _ = if k = u then wr x u k else wr x u k * (x u - x k)
    by_cases e : k = u
    · subst e; rw [if_pos rfl, Pd_wr x k k (Nat.le_refl _)]; grind
    · rw [if_neg e, mst_wr x u k (by omega), Pd_zero x u k (by omega)]; grind
/-! Elements of which the power p - 1 is one. -/
def Fm (d : Zp s) : Prop := pw d (pr s - 1) = 1
theorem pr_ge (s : Bool) : 2 ≤ pr s := by cases s <;> decide
theorem Fm.one : Fm (1 : Zp s) := pw_of_one _
theorem Fm.mul {d e : Zp s} (h : Fm d) (k : Fm e) : Fm (d * e) := by unfold Fm at *; rw [pw_prod, h, k]; grind
theorem Fm.inv {d : Zp s} (h : Fm d) : zinv d * d = 1 := by
  have e : pr s - 1 = pr s - 2 + 1 := by have := pr_ge s; omega
  unfold Fm at h
  rw [e] at h
  exact h
theorem Fm.un {d : Zp s} (h : Fm d) : Un d := ⟨_, h.inv⟩
theorem one_ne (s : Bool) : (1 : Zp s) ≠ 0 := fun h => by have := congrArg Fin.val h; rw [one_val, Fin.val_zero] at this; omega
theorem Fm.ne {d : Zp s} (h : Fm d) : d ≠ 0 := fun e => by have h1 := h.inv; rw [e] at h1; exact one_ne s (by grind)
theorem pw_sq (d : Zp s) (n : Nat) : pw d (2 * n) = pw (d * d) n := by
  rw [← pw_pw]
  congr 1
  show 1 * d * d = d * d
  grind
theorem Fm.neg {d : Zp s} (h : Fm d) : Fm (0 - d) := by
  have e : pr s - 1 = 2 * ((pr s - 1) / 2) := by cases s <;> decide
  unfold Fm at *
  rw [e, pw_sq] at h ⊢
  rw [show (0 - d) * (0 - d) = d * d by grind]
  exact h
theorem wr_Fm {x : Nat → Zp s} {u n : Nat} (h : ∀ k, k < n → k ≠ u → Fm (x u - x k)) : ∀ k, k ≤ n → Fm (wr x u k)
  | 0, _ => Fm.one
  | k + 1, hk => by
    show Fm (if k = u then _ else _)
    by_cases e : k = u
    · rw [if_pos e]; exact wr_Fm h k (by omega)
    · rw [if_neg e]; exact (wr_Fm h k (by omega)).mul (h k (by omega) e)
/-! Batch's inverses. -/
theorem nz_of {d : Zp s} (h : Fm d) : nz d = d := by unfold nz; rw [if_neg h.ne]
theorem Pp_Fm {x : Nat → Zp s} {n : Nat} (h : ∀ k, k < n → Fm (x k)) : ∀ k, k ≤ n → Fm (Pp x k)
  | 0, _ => Fm.one
  | k + 1, hk => by show Fm (Pp x k * nz (x k)); rw [nz_of (h k (by omega))]; exact (Pp_Fm h k (by omega)).mul (h k (by omega))
theorem Iv_Pp {x : Nat → Zp s} {n : Nat} (h : ∀ k, k < n → Fm (x k)) : ∀ j, j ≤ n → Iv x n j * Pp x (n - j) = 1
  | 0, _ => (Pp_Fm h n (Nat.le_refl _)).inv
  | j + 1, hj => by
    have ih := Iv_Pp h j (by omega)
    obtain ⟨m, hm⟩ : ∃ m, n = m + (j + 1) := ⟨n - (j + 1), by omega⟩
    rw [show n - j = m + 1 by omega] at ih
    rw [show n - (j + 1) = m by omega]
    show Iv x n j * nz (x (n - 1 - j)) * Pp x m = 1
    rw [show n - 1 - j = m by omega]
    have e : Pp x (m + 1) = Pp x m * nz (x m) := rfl
    rw [e] at ih
    grind
theorem binv_mul {x : Nat → Zp s} {n i : Nat} (h : ∀ k, k < n → Fm (x k)) (hi : i < n) : binv x n i * x i = 1 := by
  have e := Iv_Pp h (n - 1 - i) (by omega)
  rw [show n - (n - 1 - i) = i + 1 by omega] at e
  have e2 : Pp x (i + 1) = Pp x i * nz (x i) := rfl
  rw [e2, nz_of (h i hi)] at e
  unfold binv
  rw [if_neg (h i hi).ne]
  grind
/-! Interpolation. -/
/-- The first n points lie apart. -/
def Fap (x : Nat → Zp s) (n : Nat) : Prop := ∀ i k, i < n → k < n → i ≠ k → Fm (x i - x k)
theorem Fap.le {x : Nat → Zp s} {n m : Nat} (h : Fap x n) (hm : m ≤ n) : Fap x m := fun i k hi hk => h i k (by omega) (by omega)
variable {x y : Nat → Zp s} {n : Nat}
theorem itp_at (h : Fap x n) {j : Nat} (hj : j < n) : ∀ m, m ≤ n → Sg (itp x y n m) (pw (x j)) n = if j < m then y j else 0
  | 0, _ => by rw [if_neg (Nat.not_lt_zero j)]; exact Sg_zero fun _ _ => rfl
  | u + 1, hu => by
    have ih := itp_at h hj u (by omega)
    have e : Sg (itp x y n (u + 1)) (pw (x j)) n = Sg (itp x y n u) (pw (x j)) n + wgt x n u * y u * Sg (mst x n) (psi (x u) (x j)) (n + 1) := by
      rw [← Hn_quo]
      exact Sg_add _ _ _ _ n
    rw [e, ih]
    by_cases hju : j = u
    · subst hju
      rw [if_neg (Nat.lt_irrefl j), if_pos (Nat.lt_succ_self j), mst_wr x j n hj]
      have hw : wgt x n j * wr x j n = 1 := binv_mul (x := fun i => wr x i n) (fun k hk => wr_Fm (fun k' hk' hne => h k k' hk hk' (Ne.symm hne)) n (Nat.le_refl n)) hj
      grind
    · have h0 : (x j - x u) * Sg (mst x n) (psi (x u) (x j)) (n + 1) = 0 := by
        rw [Sg_psi, mst_ev, mst_ev, Pd_zero x j n hj, Pd_zero x u n (by omega)]; grind
      rw [(h j u hj (by omega) hju).un.zero h0]
      by_cases l : j < u
      · rw [if_pos l, if_pos (by omega)]; grind
      · rw [if_neg l, if_neg (by omega)]; grind
/-- The program's polynomial has the values. -/
theorem itp_val (h : Fap x n) {j : Nat} (hj : j < n) : Sg (itp x y n n) (pw (x j)) n = y j := by rw [itp_at h hj n (Nat.le_refl n), if_pos hj]
/-! Uniqueness. -/
def lsf (c : Nat → Zp s) (n : Nat) : List (Zp s) := (List.range n).map c
theorem lsf_ev (c : Nat → Zp s) (z : Zp s) : ∀ n, Alg.ev (lsf c n) z = Sg c (pw z) n
  | 0 => rfl
  | n + 1 => by
    unfold lsf
    rw [List.range_succ, List.map_append, List.map_singleton, ev_app, List.length_map, List.length_range]
    show Alg.ev (lsf c n) z + _ = _
    rw [lsf_ev c z n]; rfl
theorem same_val {c d : Nat → Zp s} (h : Fap x n) (hv : ∀ j, j < n → Sg c (pw (x j)) n = Sg d (pw (x j)) n) {k : Nat} (hk : k < n) : c k = d k := by
  have hA : Ap ((List.range n).map x) := by
    unfold Ap
    rw [List.pairwise_map]
    refine List.Pairwise.imp_of_mem ?_ (List.pairwise_lt_range (n := n))
    intro i j hi hj hij
    exact (h j i (List.mem_range.1 hj) (List.mem_range.1 hi) (by omega)).un
  have e := Alg.same_of ((List.range n).map x) (lsf c n) (lsf d n) hA (by simp [lsf]) (by simp [lsf]) (fun z hz => by
    obtain ⟨j, hj, rfl⟩ := List.mem_map.1 hz
    rw [lsf_ev, lsf_ev]
    exact hv j (List.mem_range.1 hj))
  have e2 := congrArg (fun l => l[k]?) e
  simpa [lsf, hk] using e2
/-- A polynomial with the values is the program's. -/
theorem itp_of {c : Nat → Zp s} (h : Fap x n) (hv : ∀ j, j < n → Sg c (pw (x j)) n = y j) {k : Nat} (hk : k < n) : itp x y n n k = c k := same_val h (fun j hj => by rw [itp_val h hj, hv j hj]) hk
theorem dot_itp : ∀ m, 1 ≤ n → dot (zw x n) y m = itp x y n m 0
  | 0, _ => rfl
  | m + 1, h => by
    show dot (zw x n) y m + wgt x n m * Hn (mst x n) (n + 1) (x m) n * y m = itp x y n m 0 + wgt x n m * y m * Hn (mst x n) (n + 1) (x m) (n + 1 - 1 - 0)
    rw [dot_itp m h]
    show _ = itp x y n m 0 + wgt x n m * y m * Hn (mst x n) (n + 1) (x m) n
    grind
end
end Go.Proofs.YtdnkkbmpefhbjaaGreatDoor
namespace Go.Proofs.YtdnkkbmpefhbjaaGreatDoor
set_option linter.all false
open Go Go.RowKit Alg
theorem shE_zero {x : Shr} (h : shE x = 0) : (x.F = 1 ∨ x.F = 2) ∧ (1 ≤ x.T ∧ x.T ≤ 255) ∧ (1 ≤ x.I ∧ x.I ≤ 255) ∧ (0 ≤ x.L ∧ x.L ≤ 65535) ∧ x.n = cn x.L ∧ okB (decide (x.F = 2)) x.X x.n = true := by
  unfold shE shErr at h
  by_cases h1 : x.F = 1 ∨ x.F = 2
  · rw [if_pos h1] at h
    by_cases h2 : 1 ≤ x.T ∧ x.T ≤ 255
    · rw [if_pos h2] at h
      by_cases h3 : 1 ≤ x.I ∧ x.I ≤ 255
      · rw [if_pos h3] at h
        by_cases h4 : 0 ≤ x.L ∧ x.L ≤ 65535
        · rw [if_pos h4] at h
          by_cases h5 : x.n = cn x.L
          · rw [if_pos h5] at h
            by_cases h6 : okB (decide (x.F = 2)) x.X x.n = true
            · exact ⟨h1, h2, h3, h4, h5, h6⟩
            · rw [if_neg h6] at h; cases h
          · rw [if_neg h5] at h; cases h
        · rw [if_neg h4] at h; cases h
      · rw [if_neg h3] at h; cases h
    · rw [if_neg h2] at h; cases h
  · rw [if_neg h1] at h; cases h
theorem csE_zero {S : Nat → Shr} : ∀ {m : Nat}, csE S m = 0 ↔ ∀ k, k < m → shE (S k) = 0
  | 0 => ⟨fun _ k h => by omega, fun _ => rfl⟩
  | m + 1 => by
    have ih := csE_zero (S := S) (m := m)
    constructor
    · intro h
      have h' : (if csE S m ≠ 0 then csE S m else shE (S m)) = 0 := h
      by_cases hz : csE S m = 0
      · rw [if_neg (by simp [hz])] at h'
        intro k hk
        by_cases e : k = m
        · rw [e]; exact h'
        · exact ih.1 hz k (by omega)
      · rw [if_pos hz] at h'; exact absurd h' hz
    · intro h
      have hz := ih.2 fun k hk => h k (by omega)
      show (if csE S m ≠ 0 then csE S m else shE (S m)) = 0
      rw [if_neg (by simp [hz])]
      exact h m (by omega)
theorem mixS_false {S : Nat → Shr} {m : Nat} : mixS S m = false ↔ ∀ k, k < m → hdr (S k) = hdr (S 0) := by
  unfold mixS
  rw [List.any_eq_false]
  constructor
  · intro h k hk
    have := h k (List.mem_range.2 hk)
    simpa using this
  · intro h k hk
    simpa using h k (List.mem_range.1 hk)
theorem ksv_nodup {v : Nat → Int} {m : Nat} : (ksv v m).length = m ↔ ∀ i k, i < k → k < m → v i ≠ v k := by
  constructor
  · intro h
    have h1 := (ins_eq ((List.range m).map v) []).1 (by unfold ksv at h; simpa using h)
    have h2 := h1.1
    rw [List.nodup_iff_pairwise_ne, List.pairwise_map, List.pairwise_iff_getElem] at h2
    intro i k hik hk
    have := h2 i k (by simp; omega) (by simpa using hk) hik
    simpa using this
  · exact ksv_full
theorem ksv_le (v : Nat → Int) (m : Nat) : (ksv v m).length ≤ m := by
  have := ins_le ((List.range m).map v) []
  simpa [ksv] using this
/-- Nothing is wrong. -/
theorem csErr_zero {S : Nat → Shr} {m : Nat} : csErr S m = 0 ↔ (∀ k, k < m → shE (S k) = 0) ∧ (∀ k, k < m → hdr (S k) = hdr (S 0)) ∧ (∀ i k, i < k → k < m → (S i).I ≠ (S k).I) ∧ 0 < m ∧ (S 0).T ≤ (m : Int) := by
  unfold csErr
  rw [← csE_zero, ← mixS_false, ← ksv_nodup (v := fun i => (S i).I)]
  have hle := ksv_le (fun i => (S i).I) m
  by_cases h1 : csE S m = 0
  · rw [if_neg (by simp [h1])]
    cases h2 : mixS S m with
    | true => simp
    | false =>
      rw [if_neg (by simp)]
      by_cases h3 : (((ksv (fun i => (S i).I) m).length : Nat) : Int) < ((m : Nat) : Int)
      · rw [if_pos h3]
        constructor
        · intro h; cases h
        · rintro ⟨_, _, h, _⟩; omega
      · rw [if_neg h3]
        by_cases h4 : ((m : Nat) : Int) = 0 ∨ ((m : Nat) : Int) < (S 0).T
        · rw [if_pos h4]
          constructor
          · intro h; cases h
          · rintro ⟨_, _, _, h5, h6⟩; omega
        · rw [if_neg h4]
          constructor
          · intro _; exact ⟨h1, rfl, by omega, by omega, by omega⟩
          · intro _; rfl
  · rw [if_pos h1]
    constructor
    · intro h; exact absurd h h1
    · rintro ⟨h, _⟩; exact absurd h h1
theorem good_of {S : Nat → Shr} {m : Nat} (h : csErr S m = 0) : ∃ s, Good s S m := by
  obtain ⟨h1, h2, h3, h4, h5⟩ := csErr_zero.1 h
  have hf : ∀ i, i < m → (S i).F = (S 0).F := fun i hi => congrArg (·.1) (h2 i hi)
  have hT : ∀ i, i < m → (S i).T = (S 0).T := fun i hi => congrArg (·.2.1) (h2 i hi)
  have hL : ∀ i, i < m → (S i).L = (S 0).L := fun i hi => congrArg (·.2.2) (h2 i hi)
  obtain ⟨hF, hTT, hI, hLL, hn, hX⟩ := shE_zero (h1 0 h4)
  have hn' : ∀ i, i < m → (S i).n = (S 0).n := fun i hi => by
    have := (shE_zero (h1 i hi)).2.2.2.2.1
    rw [this, hL i hi, hn]
  have hs : ∃ s : Bool, (S 0).F = fid s ∧ decide ((S 0).F = 2) = s := by
    rcases hF with hF | hF
    · exact ⟨false, hF, by rw [hF]; rfl⟩
    · exact ⟨true, hF, by rw [hF]; rfl⟩
  obtain ⟨s, hs1, hs2⟩ := hs
  refine ⟨s, h4, fun i hi => by rw [hf i hi, hs1], hT, hL, hn', fun i hi => (shE_zero (h1 i hi)).2.2.1, h3, fun i hi j hj => ?_, hTT.1, h5, hLL.1, hLL.2, hn⟩
  have hx := (shE_zero (h1 i hi)).2.2.2.2.2
  rw [hf i hi, hs2] at hx
  exact okB_at hx (by rw [hn' i hi]; exact hj)
theorem Good.err {s : Bool} {S : Nat → Shr} {m : Nat} (g : Good s S m) (hT : (S 0).T ≤ 255) : csErr S m = 0 := by
  refine csErr_zero.2 ⟨fun k hk => ?_, fun k hk => ?_, g.app, g.m0, g.tm⟩
  · unfold shE shErr
    have ho := fid_or s
    have hcn : (S k).n = Go.Proofs.YtdnkkbmpefhbjaaGreatDoor.cn (S k).L := by rw [g.n k hk, g.Lq k hk]; exact g.cn
    have hx : okB (decide ((S k).F = 2)) (S k).X (S k).n = true := by
      rw [g.F k hk, fid_dec]
      exact okB_of fun i hi => g.X k hk i (by rw [← g.n k hk]; exact hi)
    rw [if_pos (by rw [g.F k hk]; exact ho), if_pos (by rw [g.T k hk]; exact ⟨g.t1, hT⟩), if_pos (g.idx k hk), if_pos (by rw [g.Lq k hk]; exact ⟨g.l0, g.l1⟩), if_pos hcn, if_pos hx]
  · unfold hdr
    rw [g.F k hk, g.T k hk, g.Lq k hk, g.F 0 g.m0]
end Go.Proofs.YtdnkkbmpefhbjaaGreatDoor
namespace Go.Proofs.YtdnkkbmpefhbjaaGreatDoor
set_option linter.all false
open Go Go.RowKit Alg
section
variable {S : Nat → Shr} {m k j : Nat}
theorem csErr_14 (h1 : csE S m = 0) (hk : k < m) (h : hdr (S k) ≠ hdr (S 0)) : csErr S m = 14 := by
  unfold csErr
  rw [if_neg (by simp [h1]), if_pos]
  cases hm : mixS S m with
  | true => rfl
  | false => exact absurd (mixS_false.1 hm k hk) h
theorem csErr_15 (h1 : csE S m = 0) (h2 : ∀ k, k < m → hdr (S k) = hdr (S 0)) (hj : j < k) (hk : k < m) (h : (S k).I = (S j).I) : csErr S m = 15 := by
  unfold csErr
  rw [if_neg (by simp [h1]), if_neg (by rw [mixS_false.2 h2]; exact Bool.false_ne_true), if_pos]
  have hle := ksv_le (fun i => (S i).I) m
  have hne : (ksv (fun i => (S i).I) m).length ≠ m := fun e => (ksv_nodup.1 e) j k hj hk h.symm
  omega
theorem csErr_16 (h1 : csE S m = 0) (h2 : ∀ k, k < m → hdr (S k) = hdr (S 0)) (h3 : ∀ i k, i < k → k < m → (S i).I ≠ (S k).I) (h : ((m : Nat) : Int) = 0 ∨ ((m : Nat) : Int) < (S 0).T) : csErr S m = 16 := by
  unfold csErr
  have hk := ksv_nodup (v := fun i => (S i).I).2 h3
  rw [if_neg (by simp [h1]), if_neg (by rw [mixS_false.2 h2]; exact Bool.false_ne_true), if_neg (by omega), if_pos h]
theorem csErr_0 (h1 : csE S m = 0) (h2 : ∀ k, k < m → hdr (S k) = hdr (S 0)) (h3 : ∀ i k, i < k → k < m → (S i).I ≠ (S k).I) (h : ¬ (((m : Nat) : Int) = 0 ∨ ((m : Nat) : Int) < (S 0).T)) : csErr S m = 0 := by
  unfold csErr
  have hk := ksv_nodup (v := fun i => (S i).I).2 h3
  rw [if_neg (by simp [h1]), if_neg (by rw [mixS_false.2 h2]; exact Bool.false_ne_true), if_neg (by omega), if_neg h]
end
theorem refCkShares_c (m lc : Nat) (la : Option Addr) (S : Nat → Shr) (W : World) (HS : (shareR la m lc S).ok W) (HO : ShOk S m) : Calls Tryz.prog 18 [.slice la m lc].toArray W fun e w => e = .returned (.int .i64 (csErr S m)) ∧ Below W.heap.size W w := by
 have hm6 := HO.m_le
 refine c_enter (args := [.slice la m lc]) Tryz.func18 rfl rfl rfl fun a hk => ?_
 have hs := Sat.start W [shareR la m lc S] (okr1 HS)
 refine wS (wR ?_)
 refine q_v hk (w_as rfl) fun a hk => ?_
 refine c_end (x_t (wS (wS (wR ?_))))
 refine q_v hk (w_as rfl) fun a hk => ?_
 refine c_end (x_t ?_)
 refine wpIn_block ?_
 refine c_loop (α := Nat) (fun i a w => i ≤ m ∧ csE S i = 0 ∧ Kn [] 96 [(3, .int .i64 ((i : Nat) : Int)), (0, .slice la m lc)] a ∧ Sat no W [] [shareR la m lc S] w) (fun i => m - i) 0 ?_ ?_
 · exact ⟨(by omega), rfl, hk.k rfl (hk.k rfl hk.nil), hs⟩
 rintro i a w ⟨hf0, hf1, hk, hs⟩
 refine wS (wS (wR ?_))
 refine q_v hk (w_mv rfl) fun a hk => ?_
 refine q_v hk (w_mv rfl) fun a hk => ?_
 refine q_v hk (w_len rfl Tryz.underlying22) fun a hk => ?_
 rcases Classical.em (((i : Nat) : Int) < ((m : Nat) : Int)) with hc1 | hc1
 ·
  have hlt : i < m := by omega
  refine q_v hk (w_lt rfl rfl (decide_eq_true hc1)) fun a hk => ?_
  refine c_end (x_t ?_)
  refine c_T hk rfl ?_
  refine (wpIn_skip (x_t ?_))
  refine wS ?_
  refine wpIn_block ?_
  refine wS (wR ?_)
  refine q_v hk (w_mv rfl) fun a hk => ?_
  refine q_v hk (w_mv rfl) fun a hk => ?_
  refine q_v hk (w_iaL (k := i) rfl rfl Tryz.underlying22 ty53 ((share_lst (HasR.nth 0 rfl : HasR (shareR la m lc S) _)).at_ hs) (by omega) (by omega)) fun a hk => ?_
  refine q_v hk (w_ldA rfl ty53 (lstq (k := i) ((share_lst (HasR.nth 0 rfl : HasR (shareR la m lc S) _)).at_ hs) (by omega) (en_chunk shc_len (by omega))) rfl) fun a hk => ?_
  refine q_call (caps := []) hk rfl rfl Tryz.func56 fo56 rfl rfl (refCkShare_c _ _ _ _ _ _ _ (S i).X _ ((share_pay (k := i) (HasR.nth 0 rfl : HasR (shareR la m lc S) _) (by omega)).at_ hs) (HO.n_le i hlt) (HO.x_lt i hlt)) ?_
  rintro _ w ⟨rfl, hb⟩
  have hs := hs.below hb
  refine ⟨_, rfl, fun a hk => ?_⟩
  refine q_v hk (w_as rfl) fun a hk => ?_
  refine c_end (x_t (wS (wR ?_)))
  refine q_v hk (w_mv rfl) fun a hk => ?_
  rcases Classical.em ((shE (S i)) ≠ 0) with hc2 | hc2
  ·
   refine q_v hk (w_ne rfl rfl (decide_eq_true hc2)) fun a hk => ?_
   refine c_end (x_t ?_)
   refine c_T hk rfl ?_
   refine wS (wR ?_)
   refine q_v hk (w_mv rfl) fun a hk => ?_
   refine q_v hk (w_as rfl) fun a hk => ?_
   refine c_end (x_t ?_)
   refine (wpIn_ret (x_br (x_tr (x_tr (x_br (x_tr ?_))))))
   refine c_ret1 hk rfl rfl ?_
   exact ⟨by rw [csErr_at hf1 (by assumption) (by omega)]; rfl, hs.toBelow⟩
  ·
   refine q_v hk (w_ne rfl rfl (decide_eq_false hc2)) fun a hk => ?_
   refine c_end (x_t ?_)
   refine c_F hk rfl ?_
   refine (wpIn_skip (x_b (x_t ?_)))
   refine wR ?_
   refine q_v hk (w_mv rfl) fun a hk => ?_
   refine q_v hk (w_add rfl rfl (wr64 (by omega) (by omega))) fun a hk => ?_
   refine q_v hk (w_as rfl) fun a hk => ?_
   refine c_end (x_t ?_)
   exact ⟨i + 1, ⟨(by omega), (csE_next hf1 (by first | assumption | omega)), hk.k rfl (hk.k rfl hk.nil), hs⟩, by omega⟩
 ·
  have hE : csE S m = 0 := by rw [show m = i by omega]; exact hf1
  refine q_v hk (w_lt rfl rfl (decide_eq_false hc1)) fun a hk => ?_
  refine c_end (x_t ?_)
  refine c_F hk rfl ?_
  refine (wpIn_exit (x_te (x_te (x_be ?_))))
  refine (x_t ?_)
  refine wS (wS (wR ?_))
  refine q_v hk (w_as rfl) fun a hk => ?_
  refine c_end (x_t ?_)
  refine wpIn_block ?_
  refine c_loop (α := Nat) (fun k a w => (1 ≤ k ∧ (k ≤ m ∨ k = 1)) ∧ (∀ q, q < k → hdr (S q) = hdr (S 0)) ∧ Kn [] 96 [(5, .int .i64 ((k : Nat) : Int)), (0, .slice la m lc)] a ∧ Sat no W [] [shareR la m lc S] w) (fun k => m - k) 1 ?_ ?_
  · exact ⟨(by omega), (fun q hq => by rw [show q = 0 by omega]), hk.k rfl (hk.k rfl hk.nil), hs⟩
  rintro k a w ⟨hf0, hf1, hk, hs⟩
  have hf2 := hf1
  refine wS (wS (wR ?_))
  refine q_v hk (w_mv rfl) fun a hk => ?_
  refine q_v hk (w_mv rfl) fun a hk => ?_
  refine q_v hk (w_len rfl Tryz.underlying22) fun a hk => ?_
  rcases Classical.em (((k : Nat) : Int) < ((m : Nat) : Int)) with hc3 | hc3
  ·
   have hltk : k < m := by omega
   refine q_v hk (w_lt rfl rfl (decide_eq_true hc3)) fun a hk => ?_
   refine c_end (x_t ?_)
   refine c_T hk rfl ?_
   refine (wpIn_skip (x_t ?_))
   refine wS ?_
   refine wpIn_block ?_
   refine wS ?_
   rcases Classical.em ((S k).F ≠ (S 0).F) with hc4 | hc4
   ·
    have hdf : hdr (S k) ≠ hdr (S 0) := fun e => by unfold hdr at e; simp only [Prod.mk.injEq] at e; first | exact absurd e.1 (by assumption) | exact absurd e.2.1 (by assumption) | exact absurd e.2.2 (by assumption)
    have hL := okL.cons ((share_lst (HasR.nth 0 rfl : HasR (shareR la m lc S) _)).at_ hs) okL.nil
    refine d_begin _ 34 (by kernel_rfl) rfl hs hL fun w hs hL => ?_
    refine d_w 0 1 hk hL rfl (fun w hL => w_mv rfl) fun a hk => ?_
    refine d_w 1 3 hk hL rfl (fun w hL => w_mv rfl) fun a hk => ?_
    refine d_w 2 7 hk hL rfl (fun w hL => w_iaL (k := k) rfl rfl Tryz.underlying22 ty53 (hL.at 0 rfl) (by omega) (by omega)) fun a hk => ?_
    refine d_w 3 15 hk hL rfl (fun w hL => w_fa rfl fq53_0 ty3) fun a hk => ?_
    refine d_w 4 31 hk hL rfl (fun w hL => w_ld1 rfl ty3 (lstf (k := k) (o := 0) (m := 1) (hL.at 0 rfl) (by omega) (en_chunk shc_len (by omega)) rfl)) fun a hk => ?_
    refine d_w 5 63 hk hL rfl (fun w hL => w_mv rfl) fun a hk => ?_
    refine d_w 6 127 hk hL rfl (fun w hL => w_iaL (k := 0) rfl rfl Tryz.underlying22 ty53 (hL.at 0 rfl) (by omega) (by omega)) fun a hk => ?_
    refine d_w 7 255 hk hL rfl (fun w hL => w_fa rfl fq53_0 ty3) fun a hk => ?_
    refine d_w 8 511 hk hL rfl (fun w hL => w_ld1 rfl ty3 (lstf (k := 0) (o := 0) (m := 1) (hL.at 0 rfl) (by omega) (en_chunk shc_len (by omega)) rfl)) fun a hk => ?_
    refine d_w 9 1023 hk hL rfl (fun w hL => w_ne rfl rfl (decide_eq_true hc4)) fun a hk => ?_
    refine d_w 10 2047 hk hL rfl (fun w hL => w_mv rfl) fun a hk => ?_
    refine d_s 11 4095 hk hL rfl (by kernel_rfl) rfl rfl fun a hk => ?_
    refine d_s 12 8191 hk hL rfl (by kernel_rfl) rfl rfl fun a hk => ?_
    refine d_s 13 16383 hk hL rfl (by kernel_rfl) rfl rfl fun a hk => ?_
    refine d_s 14 32767 hk hL rfl (by kernel_rfl) rfl rfl fun a hk => ?_
    refine d_s 15 65535 hk hL rfl (by kernel_rfl) rfl rfl fun a hk => ?_
    refine d_s 16 131071 hk hL rfl (by kernel_rfl) rfl rfl fun a hk => ?_
    refine d_s 17 262143 hk hL rfl (by kernel_rfl) rfl rfl fun a hk => ?_
    refine d_s 18 524287 hk hL rfl (by kernel_rfl) rfl rfl fun a hk => ?_
    refine d_s 19 1048575 hk hL rfl (by kernel_rfl) rfl rfl fun a hk => ?_
    refine d_s 20 2097151 hk hL rfl (by kernel_rfl) rfl rfl fun a hk => ?_
    refine d_w 21 4194303 hk hL rfl (fun w hL => w_pickT rfl rfl) fun a hk => ?_
    refine d_w 22 8388607 hk hL rfl (fun w hL => w_mv rfl) fun a hk => ?_
    refine d_s 23 16777215 hk hL rfl (by kernel_rfl) rfl rfl fun a hk => ?_
    refine d_s 24 33554431 hk hL rfl (by kernel_rfl) rfl rfl fun a hk => ?_
    refine d_s 25 67108863 hk hL rfl (by kernel_rfl) rfl rfl fun a hk => ?_
    refine d_s 26 134217727 hk hL rfl (by kernel_rfl) rfl rfl fun a hk => ?_
    refine d_s 27 268435455 hk hL rfl (by kernel_rfl) rfl rfl fun a hk => ?_
    refine d_s 28 536870911 hk hL rfl (by kernel_rfl) rfl rfl fun a hk => ?_
    refine d_s 29 1073741823 hk hL rfl (by kernel_rfl) rfl rfl fun a hk => ?_
    refine d_s 30 2147483647 hk hL rfl (by kernel_rfl) rfl rfl fun a hk => ?_
    refine d_s 31 4294967295 hk hL rfl (by kernel_rfl) rfl rfl fun a hk => ?_
    refine d_s 32 8589934591 hk hL rfl (by kernel_rfl) rfl rfl fun a hk => ?_
    refine d_w 33 17179869183 hk hL rfl (fun w hL => w_pickT rfl rfl) fun a hk => ?_
    refine d_end (by kernel_rfl) ?_
    refine (x_t ?_)
    refine c_T hk rfl ?_
    refine wS (wR ?_)
    refine q_v hk (w_as rfl) fun a hk => ?_
    refine c_end (x_t ?_)
    refine (wpIn_ret (x_br (x_tr (x_tr (x_br (x_tr ?_))))))
    refine c_ret1 hk rfl rfl ?_
    exact ⟨by rw [csErr_14 hE hltk hdf], hs.toBelow⟩
   ·
    rcases Classical.em ((S k).T ≠ (S 0).T) with hc5 | hc5
    ·
     have hdf : hdr (S k) ≠ hdr (S 0) := fun e => by unfold hdr at e; simp only [Prod.mk.injEq] at e; first | exact absurd e.1 (by assumption) | exact absurd e.2.1 (by assumption) | exact absurd e.2.2 (by assumption)
     have hL := okL.cons ((share_lst (HasR.nth 0 rfl : HasR (shareR la m lc S) _)).at_ hs) okL.nil
     refine d_begin _ 34 (by kernel_rfl) rfl hs hL fun w hs hL => ?_
     refine d_w 0 1 hk hL rfl (fun w hL => w_mv rfl) fun a hk => ?_
     refine d_w 1 3 hk hL rfl (fun w hL => w_mv rfl) fun a hk => ?_
     refine d_w 2 7 hk hL rfl (fun w hL => w_iaL (k := k) rfl rfl Tryz.underlying22 ty53 (hL.at 0 rfl) (by omega) (by omega)) fun a hk => ?_
     refine d_w 3 15 hk hL rfl (fun w hL => w_fa rfl fq53_0 ty3) fun a hk => ?_
     refine d_w 4 31 hk hL rfl (fun w hL => w_ld1 rfl ty3 (lstf (k := k) (o := 0) (m := 1) (hL.at 0 rfl) (by omega) (en_chunk shc_len (by omega)) rfl)) fun a hk => ?_
     refine d_w 5 63 hk hL rfl (fun w hL => w_mv rfl) fun a hk => ?_
     refine d_w 6 127 hk hL rfl (fun w hL => w_iaL (k := 0) rfl rfl Tryz.underlying22 ty53 (hL.at 0 rfl) (by omega) (by omega)) fun a hk => ?_
     refine d_w 7 255 hk hL rfl (fun w hL => w_fa rfl fq53_0 ty3) fun a hk => ?_
     refine d_w 8 511 hk hL rfl (fun w hL => w_ld1 rfl ty3 (lstf (k := 0) (o := 0) (m := 1) (hL.at 0 rfl) (by omega) (en_chunk shc_len (by omega)) rfl)) fun a hk => ?_
     refine d_w 9 1023 hk hL rfl (fun w hL => w_ne rfl rfl (decide_eq_false hc4)) fun a hk => ?_
     refine d_w 10 2047 hk hL rfl (fun w hL => w_mv rfl) fun a hk => ?_
     refine d_w 11 4095 hk hL rfl (fun w hL => w_mv rfl) fun a hk => ?_
     refine d_w 12 8191 hk hL rfl (fun w hL => w_mv rfl) fun a hk => ?_
     refine d_w 13 16383 hk hL rfl (fun w hL => w_iaL (k := k) rfl rfl Tryz.underlying22 ty53 (hL.at 0 rfl) (by omega) (by omega)) fun a hk => ?_
     refine d_w 14 32767 hk hL rfl (fun w hL => w_fa rfl fq53_1 ty3) fun a hk => ?_
     refine d_w 15 65535 hk hL rfl (fun w hL => w_ld1 rfl ty3 (lstf (k := k) (o := 1) (m := 1) (hL.at 0 rfl) (by omega) (en_chunk shc_len (by omega)) rfl)) fun a hk => ?_
     refine d_w 16 131071 hk hL rfl (fun w hL => w_mv rfl) fun a hk => ?_
     refine d_w 17 262143 hk hL rfl (fun w hL => w_iaL (k := 0) rfl rfl Tryz.underlying22 ty53 (hL.at 0 rfl) (by omega) (by omega)) fun a hk => ?_
     refine d_w 18 524287 hk hL rfl (fun w hL => w_fa rfl fq53_1 ty3) fun a hk => ?_
     refine d_w 19 1048575 hk hL rfl (fun w hL => w_ld1 rfl ty3 (lstf (k := 0) (o := 1) (m := 1) (hL.at 0 rfl) (by omega) (en_chunk shc_len (by omega)) rfl)) fun a hk => ?_
     refine d_w 20 2097151 hk hL rfl (fun w hL => w_ne rfl rfl (decide_eq_true hc5)) fun a hk => ?_
     refine d_w 21 4194303 hk hL rfl (fun w hL => w_pickF rfl rfl) fun a hk => ?_
     refine d_w 22 8388607 hk hL rfl (fun w hL => w_mv rfl) fun a hk => ?_
     refine d_s 23 16777215 hk hL rfl (by kernel_rfl) rfl rfl fun a hk => ?_
     refine d_s 24 33554431 hk hL rfl (by kernel_rfl) rfl rfl fun a hk => ?_
     refine d_s 25 67108863 hk hL rfl (by kernel_rfl) rfl rfl fun a hk => ?_
     refine d_s 26 134217727 hk hL rfl (by kernel_rfl) rfl rfl fun a hk => ?_
     refine d_s 27 268435455 hk hL rfl (by kernel_rfl) rfl rfl fun a hk => ?_
     refine d_s 28 536870911 hk hL rfl (by kernel_rfl) rfl rfl fun a hk => ?_
     refine d_s 29 1073741823 hk hL rfl (by kernel_rfl) rfl rfl fun a hk => ?_
     refine d_s 30 2147483647 hk hL rfl (by kernel_rfl) rfl rfl fun a hk => ?_
     refine d_s 31 4294967295 hk hL rfl (by kernel_rfl) rfl rfl fun a hk => ?_
     refine d_s 32 8589934591 hk hL rfl (by kernel_rfl) rfl rfl fun a hk => ?_
     refine d_w 33 17179869183 hk hL rfl (fun w hL => w_pickT rfl rfl) fun a hk => ?_
     refine d_end (by kernel_rfl) ?_
     refine (x_t ?_)
     refine c_T hk rfl ?_
     refine wS (wR ?_)
     refine q_v hk (w_as rfl) fun a hk => ?_
     refine c_end (x_t ?_)
     refine (wpIn_ret (x_br (x_tr (x_tr (x_br (x_tr ?_))))))
     refine c_ret1 hk rfl rfl ?_
     exact ⟨by rw [csErr_14 hE hltk hdf], hs.toBelow⟩
    ·
     rcases Classical.em ((S k).L ≠ (S 0).L) with hc6 | hc6
     ·
      have hdf : hdr (S k) ≠ hdr (S 0) := fun e => by unfold hdr at e; simp only [Prod.mk.injEq] at e; first | exact absurd e.1 (by assumption) | exact absurd e.2.1 (by assumption) | exact absurd e.2.2 (by assumption)
      have hL := okL.cons ((share_lst (HasR.nth 0 rfl : HasR (shareR la m lc S) _)).at_ hs) okL.nil
      refine d_begin _ 34 (by kernel_rfl) rfl hs hL fun w hs hL => ?_
      refine d_w 0 1 hk hL rfl (fun w hL => w_mv rfl) fun a hk => ?_
      refine d_w 1 3 hk hL rfl (fun w hL => w_mv rfl) fun a hk => ?_
      refine d_w 2 7 hk hL rfl (fun w hL => w_iaL (k := k) rfl rfl Tryz.underlying22 ty53 (hL.at 0 rfl) (by omega) (by omega)) fun a hk => ?_
      refine d_w 3 15 hk hL rfl (fun w hL => w_fa rfl fq53_0 ty3) fun a hk => ?_
      refine d_w 4 31 hk hL rfl (fun w hL => w_ld1 rfl ty3 (lstf (k := k) (o := 0) (m := 1) (hL.at 0 rfl) (by omega) (en_chunk shc_len (by omega)) rfl)) fun a hk => ?_
      refine d_w 5 63 hk hL rfl (fun w hL => w_mv rfl) fun a hk => ?_
      refine d_w 6 127 hk hL rfl (fun w hL => w_iaL (k := 0) rfl rfl Tryz.underlying22 ty53 (hL.at 0 rfl) (by omega) (by omega)) fun a hk => ?_
      refine d_w 7 255 hk hL rfl (fun w hL => w_fa rfl fq53_0 ty3) fun a hk => ?_
      refine d_w 8 511 hk hL rfl (fun w hL => w_ld1 rfl ty3 (lstf (k := 0) (o := 0) (m := 1) (hL.at 0 rfl) (by omega) (en_chunk shc_len (by omega)) rfl)) fun a hk => ?_
      refine d_w 9 1023 hk hL rfl (fun w hL => w_ne rfl rfl (decide_eq_false hc4)) fun a hk => ?_
      refine d_w 10 2047 hk hL rfl (fun w hL => w_mv rfl) fun a hk => ?_
      refine d_w 11 4095 hk hL rfl (fun w hL => w_mv rfl) fun a hk => ?_
      refine d_w 12 8191 hk hL rfl (fun w hL => w_mv rfl) fun a hk => ?_
      refine d_w 13 16383 hk hL rfl (fun w hL => w_iaL (k := k) rfl rfl Tryz.underlying22 ty53 (hL.at 0 rfl) (by omega) (by omega)) fun a hk => ?_
      refine d_w 14 32767 hk hL rfl (fun w hL => w_fa rfl fq53_1 ty3) fun a hk => ?_
      refine d_w 15 65535 hk hL rfl (fun w hL => w_ld1 rfl ty3 (lstf (k := k) (o := 1) (m := 1) (hL.at 0 rfl) (by omega) (en_chunk shc_len (by omega)) rfl)) fun a hk => ?_
      refine d_w 16 131071 hk hL rfl (fun w hL => w_mv rfl) fun a hk => ?_
      refine d_w 17 262143 hk hL rfl (fun w hL => w_iaL (k := 0) rfl rfl Tryz.underlying22 ty53 (hL.at 0 rfl) (by omega) (by omega)) fun a hk => ?_
      refine d_w 18 524287 hk hL rfl (fun w hL => w_fa rfl fq53_1 ty3) fun a hk => ?_
      refine d_w 19 1048575 hk hL rfl (fun w hL => w_ld1 rfl ty3 (lstf (k := 0) (o := 1) (m := 1) (hL.at 0 rfl) (by omega) (en_chunk shc_len (by omega)) rfl)) fun a hk => ?_
      refine d_w 20 2097151 hk hL rfl (fun w hL => w_ne rfl rfl (decide_eq_false hc5)) fun a hk => ?_
      refine d_w 21 4194303 hk hL rfl (fun w hL => w_pickF rfl rfl) fun a hk => ?_
      refine d_w 22 8388607 hk hL rfl (fun w hL => w_mv rfl) fun a hk => ?_
      refine d_w 23 16777215 hk hL rfl (fun w hL => w_mv rfl) fun a hk => ?_
      refine d_w 24 33554431 hk hL rfl (fun w hL => w_mv rfl) fun a hk => ?_
      refine d_w 25 67108863 hk hL rfl (fun w hL => w_iaL (k := k) rfl rfl Tryz.underlying22 ty53 (hL.at 0 rfl) (by omega) (by omega)) fun a hk => ?_
      refine d_w 26 134217727 hk hL rfl (fun w hL => w_fa rfl fq53_3 ty3) fun a hk => ?_
      refine d_w 27 268435455 hk hL rfl (fun w hL => w_ld1 rfl ty3 (lstf (k := k) (o := 3) (m := 1) (hL.at 0 rfl) (by omega) (en_chunk shc_len (by omega)) rfl)) fun a hk => ?_
      refine d_w 28 536870911 hk hL rfl (fun w hL => w_mv rfl) fun a hk => ?_
      refine d_w 29 1073741823 hk hL rfl (fun w hL => w_iaL (k := 0) rfl rfl Tryz.underlying22 ty53 (hL.at 0 rfl) (by omega) (by omega)) fun a hk => ?_
      refine d_w 30 2147483647 hk hL rfl (fun w hL => w_fa rfl fq53_3 ty3) fun a hk => ?_
      refine d_w 31 4294967295 hk hL rfl (fun w hL => w_ld1 rfl ty3 (lstf (k := 0) (o := 3) (m := 1) (hL.at 0 rfl) (by omega) (en_chunk shc_len (by omega)) rfl)) fun a hk => ?_
      refine d_w 32 8589934591 hk hL rfl (fun w hL => w_ne rfl rfl (decide_eq_true hc6)) fun a hk => ?_
      refine d_w 33 17179869183 hk hL rfl (fun w hL => w_pickF rfl rfl) fun a hk => ?_
      refine d_end (by kernel_rfl) ?_
      refine (x_t ?_)
      refine c_T hk rfl ?_
      refine wS (wR ?_)
      refine q_v hk (w_as rfl) fun a hk => ?_
      refine c_end (x_t ?_)
      refine (wpIn_ret (x_br (x_tr (x_tr (x_br (x_tr ?_))))))
      refine c_ret1 hk rfl rfl ?_
      exact ⟨by rw [csErr_14 hE hltk hdf], hs.toBelow⟩
     ·
      have hne : ∀ q, q < k + 1 → hdr (S q) = hdr (S 0) := fun q hq => if e : q = k then (by subst e; unfold hdr; simp only [ne_eq, Classical.not_not] at *; simp [*]) else hf2 q (by omega)
      have hL := okL.cons ((share_lst (HasR.nth 0 rfl : HasR (shareR la m lc S) _)).at_ hs) okL.nil
      refine d_begin _ 34 (by kernel_rfl) rfl hs hL fun w hs hL => ?_
      refine d_w 0 1 hk hL rfl (fun w hL => w_mv rfl) fun a hk => ?_
      refine d_w 1 3 hk hL rfl (fun w hL => w_mv rfl) fun a hk => ?_
      refine d_w 2 7 hk hL rfl (fun w hL => w_iaL (k := k) rfl rfl Tryz.underlying22 ty53 (hL.at 0 rfl) (by omega) (by omega)) fun a hk => ?_
      refine d_w 3 15 hk hL rfl (fun w hL => w_fa rfl fq53_0 ty3) fun a hk => ?_
      refine d_w 4 31 hk hL rfl (fun w hL => w_ld1 rfl ty3 (lstf (k := k) (o := 0) (m := 1) (hL.at 0 rfl) (by omega) (en_chunk shc_len (by omega)) rfl)) fun a hk => ?_
      refine d_w 5 63 hk hL rfl (fun w hL => w_mv rfl) fun a hk => ?_
      refine d_w 6 127 hk hL rfl (fun w hL => w_iaL (k := 0) rfl rfl Tryz.underlying22 ty53 (hL.at 0 rfl) (by omega) (by omega)) fun a hk => ?_
      refine d_w 7 255 hk hL rfl (fun w hL => w_fa rfl fq53_0 ty3) fun a hk => ?_
      refine d_w 8 511 hk hL rfl (fun w hL => w_ld1 rfl ty3 (lstf (k := 0) (o := 0) (m := 1) (hL.at 0 rfl) (by omega) (en_chunk shc_len (by omega)) rfl)) fun a hk => ?_
      refine d_w 9 1023 hk hL rfl (fun w hL => w_ne rfl rfl (decide_eq_false hc4)) fun a hk => ?_
      refine d_w 10 2047 hk hL rfl (fun w hL => w_mv rfl) fun a hk => ?_
      refine d_w 11 4095 hk hL rfl (fun w hL => w_mv rfl) fun a hk => ?_
      refine d_w 12 8191 hk hL rfl (fun w hL => w_mv rfl) fun a hk => ?_
      refine d_w 13 16383 hk hL rfl (fun w hL => w_iaL (k := k) rfl rfl Tryz.underlying22 ty53 (hL.at 0 rfl) (by omega) (by omega)) fun a hk => ?_
      refine d_w 14 32767 hk hL rfl (fun w hL => w_fa rfl fq53_1 ty3) fun a hk => ?_
      refine d_w 15 65535 hk hL rfl (fun w hL => w_ld1 rfl ty3 (lstf (k := k) (o := 1) (m := 1) (hL.at 0 rfl) (by omega) (en_chunk shc_len (by omega)) rfl)) fun a hk => ?_
      refine d_w 16 131071 hk hL rfl (fun w hL => w_mv rfl) fun a hk => ?_
      refine d_w 17 262143 hk hL rfl (fun w hL => w_iaL (k := 0) rfl rfl Tryz.underlying22 ty53 (hL.at 0 rfl) (by omega) (by omega)) fun a hk => ?_
      refine d_w 18 524287 hk hL rfl (fun w hL => w_fa rfl fq53_1 ty3) fun a hk => ?_
      refine d_w 19 1048575 hk hL rfl (fun w hL => w_ld1 rfl ty3 (lstf (k := 0) (o := 1) (m := 1) (hL.at 0 rfl) (by omega) (en_chunk shc_len (by omega)) rfl)) fun a hk => ?_
      refine d_w 20 2097151 hk hL rfl (fun w hL => w_ne rfl rfl (decide_eq_false hc5)) fun a hk => ?_
      refine d_w 21 4194303 hk hL rfl (fun w hL => w_pickF rfl rfl) fun a hk => ?_
      refine d_w 22 8388607 hk hL rfl (fun w hL => w_mv rfl) fun a hk => ?_
      refine d_w 23 16777215 hk hL rfl (fun w hL => w_mv rfl) fun a hk => ?_
      refine d_w 24 33554431 hk hL rfl (fun w hL => w_mv rfl) fun a hk => ?_
      refine d_w 25 67108863 hk hL rfl (fun w hL => w_iaL (k := k) rfl rfl Tryz.underlying22 ty53 (hL.at 0 rfl) (by omega) (by omega)) fun a hk => ?_
      refine d_w 26 134217727 hk hL rfl (fun w hL => w_fa rfl fq53_3 ty3) fun a hk => ?_
      refine d_w 27 268435455 hk hL rfl (fun w hL => w_ld1 rfl ty3 (lstf (k := k) (o := 3) (m := 1) (hL.at 0 rfl) (by omega) (en_chunk shc_len (by omega)) rfl)) fun a hk => ?_
      refine d_w 28 536870911 hk hL rfl (fun w hL => w_mv rfl) fun a hk => ?_
      refine d_w 29 1073741823 hk hL rfl (fun w hL => w_iaL (k := 0) rfl rfl Tryz.underlying22 ty53 (hL.at 0 rfl) (by omega) (by omega)) fun a hk => ?_
      refine d_w 30 2147483647 hk hL rfl (fun w hL => w_fa rfl fq53_3 ty3) fun a hk => ?_
      refine d_w 31 4294967295 hk hL rfl (fun w hL => w_ld1 rfl ty3 (lstf (k := 0) (o := 3) (m := 1) (hL.at 0 rfl) (by omega) (en_chunk shc_len (by omega)) rfl)) fun a hk => ?_
      refine d_w 32 8589934591 hk hL rfl (fun w hL => w_ne rfl rfl (decide_eq_false hc6)) fun a hk => ?_
      refine d_w 33 17179869183 hk hL rfl (fun w hL => w_pickF rfl rfl) fun a hk => ?_
      refine d_end (by kernel_rfl) ?_
      refine (x_t ?_)
      refine c_F hk rfl ?_
      refine (wpIn_skip (x_b (x_t ?_)))
      refine wR ?_
      refine q_v hk (w_mv rfl) fun a hk => ?_
      refine q_v hk (w_add rfl rfl (wr64 (by omega) (by omega))) fun a hk => ?_
      refine q_v hk (w_as rfl) fun a hk => ?_
      refine c_end (x_t ?_)
      exact ⟨k + 1, ⟨(by omega), hne, hk.k rfl (hk.k rfl hk.nil), hs⟩, by omega⟩
  ·
   have hH : ∀ q, q < m → hdr (S q) = hdr (S 0) := fun q hq => hf2 q (by omega)
   refine q_v hk (w_lt rfl rfl (decide_eq_false hc3)) fun a hk => ?_
   refine c_end (x_t ?_)
   refine c_F hk rfl ?_
   refine (wpIn_exit (x_te (x_te (x_be ?_))))
   refine (x_t ?_)
   refine wS (wS (wR ?_))
   refine q_v hk (w_as rfl) fun a hk => ?_
   refine c_end (x_t ?_)
   refine wpIn_block ?_
   refine c_loop (α := Nat) (fun u a w => u ≤ m ∧ (∀ q p, q < p → p < u → (S q).I ≠ (S p).I) ∧ Kn [] 96 [(6, .int .i64 ((u : Nat) : Int)), (0, .slice la m lc)] a ∧ Sat no W [] [shareR la m lc S] w) (fun u => m - u) 0 ?_ ?_
   · exact ⟨(by omega), (fun q p _ h => by omega), hk.k rfl (hk.k rfl hk.nil), hs⟩
   rintro u a w ⟨hf0, hf1, hk, hs⟩
   have hfu := hf1
   refine wS (wS (wR ?_))
   refine q_v hk (w_mv rfl) fun a hk => ?_
   refine q_v hk (w_mv rfl) fun a hk => ?_
   refine q_v hk (w_len rfl Tryz.underlying22) fun a hk => ?_
   rcases Classical.em (((u : Nat) : Int) < ((m : Nat) : Int)) with hc7 | hc7
   ·
    have hltu : u < m := by omega
    refine q_v hk (w_lt rfl rfl (decide_eq_true hc7)) fun a hk => ?_
    refine c_end (x_t ?_)
    refine c_T hk rfl ?_
    refine (wpIn_skip (x_t ?_))
    refine wS ?_
    refine wpIn_block ?_
    refine wS (wR ?_)
    refine q_v hk (w_as rfl) fun a hk => ?_
    refine c_end (x_t ?_)
    refine wpIn_block ?_
    refine c_loop (α := Nat) (fun j a w => j ≤ u ∧ (∀ q, q < j → (S u).I ≠ (S q).I) ∧ Kn [] 96 [(7, .int .i64 ((j : Nat) : Int)), (65, .bool true), (64, .int .i64 ((m : Nat) : Int)), (63, .slice la m lc), (62, .int .i64 ((u : Nat) : Int)), (6, .int .i64 ((u : Nat) : Int)), (0, .slice la m lc)] a ∧ Sat no W [] [shareR la m lc S] w) (fun j => u - j) 0 ?_ ?_
    · exact ⟨(by omega), (fun q h => by omega), hk.k rfl (hk.k rfl (hk.k rfl (hk.k rfl (hk.k rfl (hk.k rfl (hk.k rfl hk.nil)))))), hs⟩
    rintro j a w ⟨hf0, hf1, hk, hs⟩
    have hfj := hf1
    refine wS (wS (wR ?_))
    refine q_v hk (w_mv rfl) fun a hk => ?_
    refine q_v hk (w_mv rfl) fun a hk => ?_
    rcases Classical.em (((j : Nat) : Int) < ((u : Nat) : Int)) with hc8 | hc8
    ·
     refine q_v hk (w_lt rfl rfl (decide_eq_true hc8)) fun a hk => ?_
     refine c_end (x_t ?_)
     refine c_T hk rfl ?_
     refine (wpIn_skip (x_t ?_))
     refine wS ?_
     refine wpIn_block ?_
     refine wS ?_
     rcases Classical.em ((S u).I = (S j).I) with hc9 | hc9
     ·
      have hL := okL.cons ((share_lst (HasR.nth 0 rfl : HasR (shareR la m lc S) _)).at_ hs) okL.nil
      refine d_begin _ 11 (by kernel_rfl) rfl hs hL fun w hs hL => ?_
      refine d_w 0 1 hk hL rfl (fun w hL => w_mv rfl) fun a hk => ?_
      refine d_w 1 3 hk hL rfl (fun w hL => w_mv rfl) fun a hk => ?_
      refine d_w 2 7 hk hL rfl (fun w hL => w_iaL (k := u) rfl rfl Tryz.underlying22 ty53 (hL.at 0 rfl) (by omega) (by omega)) fun a hk => ?_
      refine d_w 3 15 hk hL rfl (fun w hL => w_fa rfl fq53_2 ty3) fun a hk => ?_
      refine d_w 4 31 hk hL rfl (fun w hL => w_ld1 rfl ty3 (lstf (k := u) (o := 2) (m := 1) (hL.at 0 rfl) (by omega) (en_chunk shc_len (by omega)) rfl)) fun a hk => ?_
      refine d_w 5 63 hk hL rfl (fun w hL => w_mv rfl) fun a hk => ?_
      refine d_w 6 127 hk hL rfl (fun w hL => w_mv rfl) fun a hk => ?_
      refine d_w 7 255 hk hL rfl (fun w hL => w_iaL (k := j) rfl rfl Tryz.underlying22 ty53 (hL.at 0 rfl) (by omega) (by omega)) fun a hk => ?_
      refine d_w 8 511 hk hL rfl (fun w hL => w_fa rfl fq53_2 ty3) fun a hk => ?_
      refine d_w 9 1023 hk hL rfl (fun w hL => w_ld1 rfl ty3 (lstf (k := j) (o := 2) (m := 1) (hL.at 0 rfl) (by omega) (en_chunk shc_len (by omega)) rfl)) fun a hk => ?_
      refine d_w 10 2047 hk hL rfl (fun w hL => w_eq rfl rfl (decide_eq_true hc9)) fun a hk => ?_
      refine d_end (by kernel_rfl) ?_
      refine (x_t ?_)
      refine c_T hk rfl ?_
      refine wS (wR ?_)
      refine q_v hk (w_as rfl) fun a hk => ?_
      refine c_end (x_t ?_)
      refine (wpIn_ret (x_br (x_tr (x_tr (x_br (x_br (x_tr (x_tr (x_br (x_tr ?_))))))))))
      refine c_ret1 hk rfl rfl ?_
      exact ⟨by rw [csErr_15 (k := u) (j := j) hE hH (by omega) hltu (by assumption)], hs.toBelow⟩
     ·
      have hnj : ∀ q, q < j + 1 → (S u).I ≠ (S q).I := fun q hq => if e : q = j then (by rw [e]; exact hc9) else hfj q (by omega)
      have hL := okL.cons ((share_lst (HasR.nth 0 rfl : HasR (shareR la m lc S) _)).at_ hs) okL.nil
      refine d_begin _ 11 (by kernel_rfl) rfl hs hL fun w hs hL => ?_
      refine d_w 0 1 hk hL rfl (fun w hL => w_mv rfl) fun a hk => ?_
      refine d_w 1 3 hk hL rfl (fun w hL => w_mv rfl) fun a hk => ?_
      refine d_w 2 7 hk hL rfl (fun w hL => w_iaL (k := u) rfl rfl Tryz.underlying22 ty53 (hL.at 0 rfl) (by omega) (by omega)) fun a hk => ?_
      refine d_w 3 15 hk hL rfl (fun w hL => w_fa rfl fq53_2 ty3) fun a hk => ?_
      refine d_w 4 31 hk hL rfl (fun w hL => w_ld1 rfl ty3 (lstf (k := u) (o := 2) (m := 1) (hL.at 0 rfl) (by omega) (en_chunk shc_len (by omega)) rfl)) fun a hk => ?_
      refine d_w 5 63 hk hL rfl (fun w hL => w_mv rfl) fun a hk => ?_
      refine d_w 6 127 hk hL rfl (fun w hL => w_mv rfl) fun a hk => ?_
      refine d_w 7 255 hk hL rfl (fun w hL => w_iaL (k := j) rfl rfl Tryz.underlying22 ty53 (hL.at 0 rfl) (by omega) (by omega)) fun a hk => ?_
      refine d_w 8 511 hk hL rfl (fun w hL => w_fa rfl fq53_2 ty3) fun a hk => ?_
      refine d_w 9 1023 hk hL rfl (fun w hL => w_ld1 rfl ty3 (lstf (k := j) (o := 2) (m := 1) (hL.at 0 rfl) (by omega) (en_chunk shc_len (by omega)) rfl)) fun a hk => ?_
      refine d_w 10 2047 hk hL rfl (fun w hL => w_eq rfl rfl (decide_eq_false hc9)) fun a hk => ?_
      refine d_end (by kernel_rfl) ?_
      refine (x_t ?_)
      refine c_F hk rfl ?_
      refine (wpIn_skip (x_b (x_t ?_)))
      refine wR ?_
      refine q_v hk (w_mv rfl) fun a hk => ?_
      refine q_v hk (w_add rfl rfl (wr64 (by omega) (by omega))) fun a hk => ?_
      refine q_v hk (w_as rfl) fun a hk => ?_
      refine c_end (x_t ?_)
      exact ⟨j + 1, ⟨(by omega), hnj, hk.k rfl (hk.k rfl (hk.k rfl (hk.k rfl (hk.k rfl (hk.k rfl (hk.k rfl hk.nil)))))), hs⟩, by omega⟩
    ·
     have hnu : ∀ q p, q < p → p < u + 1 → (S q).I ≠ (S p).I := fun q p h1 h2 => if e : p = u then (by rw [e]; exact fun h => hfj q (by omega) h.symm) else hfu q p h1 (by omega)
     refine q_v hk (w_lt rfl rfl (decide_eq_false hc8)) fun a hk => ?_
     refine c_end (x_t ?_)
     refine c_F hk rfl ?_
     refine (wpIn_exit (x_te (x_te (x_be ?_))))
     refine (x_b (x_t ?_))
     refine wR ?_
     refine q_v hk (w_mv rfl) fun a hk => ?_
     refine q_v hk (w_add rfl rfl (wr64 (by omega) (by omega))) fun a hk => ?_
     refine q_v hk (w_as rfl) fun a hk => ?_
     refine c_end (x_t ?_)
     exact ⟨u + 1, ⟨(by omega), hnu, hk.k rfl (hk.k rfl hk.nil), hs⟩, by omega⟩
   ·
    have hI : ∀ q p, q < p → p < m → (S q).I ≠ (S p).I := fun q p h1 h2 => hfu q p h1 (by omega)
    refine q_v hk (w_lt rfl rfl (decide_eq_false hc7)) fun a hk => ?_
    refine c_end (x_t ?_)
    refine c_F hk rfl ?_
    refine (wpIn_exit (x_te (x_te (x_be ?_))))
    refine (x_t ?_)
    refine wS (wS (wR ?_))
    refine q_v hk (w_mv rfl) fun a hk => ?_
    refine q_v hk (w_len rfl Tryz.underlying22) fun a hk => ?_
    rcases Classical.em (((m : Nat) : Int) = 0) with hc10 | hc10
    ·
     refine q_v hk (w_eq rfl rfl (decide_eq_true hc10)) fun a hk => ?_
     refine q_v hk (w_mv rfl) fun a hk => ?_
     refine q_skip hk rfl rfl fun a hk => ?_
     refine q_skip hk rfl rfl fun a hk => ?_
     refine q_skip hk rfl rfl fun a hk => ?_
     refine q_skip hk rfl rfl fun a hk => ?_
     refine q_skip hk rfl rfl fun a hk => ?_
     refine q_skip hk rfl rfl fun a hk => ?_
     refine q_skip hk rfl rfl fun a hk => ?_
     refine q_v hk (w_pickT rfl rfl) fun a hk => ?_
     refine c_end (x_t ?_)
     refine c_T hk rfl ?_
     refine wS (wR ?_)
     refine q_v hk (w_as rfl) fun a hk => ?_
     refine c_end (x_t ?_)
     refine (wpIn_ret (x_tr ?_))
     refine c_ret1 hk rfl rfl ?_
     exact ⟨by rw [csErr_16 hE hH hI (by omega)], hs.toBelow⟩
    ·
     refine q_v hk (w_eq rfl rfl (decide_eq_false hc10)) fun a hk => ?_
     refine q_v hk (w_mv rfl) fun a hk => ?_
     refine q_v hk (w_mv rfl) fun a hk => ?_
     refine q_v hk (w_len rfl Tryz.underlying22) fun a hk => ?_
     refine q_v hk (w_mv rfl) fun a hk => ?_
     refine q_v hk (w_iaL (k := 0) rfl rfl Tryz.underlying22 ty53 ((share_lst (HasR.nth 0 rfl : HasR (shareR la m lc S) _)).at_ hs) (by omega) (by omega)) fun a hk => ?_
     refine q_v hk (w_fa rfl fq53_1 ty3) fun a hk => ?_
     refine q_v hk (w_ld1 rfl ty3 (lstf (k := 0) (o := 1) (m := 1) ((share_lst (HasR.nth 0 rfl : HasR (shareR la m lc S) _)).at_ hs) (by omega) (en_chunk shc_len (by omega)) rfl)) fun a hk => ?_
     rcases Classical.em (((m : Nat) : Int) < ((S 0).T)) with hc11 | hc11
     ·
      refine q_v hk (w_lt rfl rfl (decide_eq_true hc11)) fun a hk => ?_
      refine q_v hk (w_pickF rfl rfl) fun a hk => ?_
      refine c_end (x_t ?_)
      refine c_T hk rfl ?_
      refine wS (wR ?_)
      refine q_v hk (w_as rfl) fun a hk => ?_
      refine c_end (x_t ?_)
      refine (wpIn_ret (x_tr ?_))
      refine c_ret1 hk rfl rfl ?_
      exact ⟨by rw [csErr_16 hE hH hI (by omega)], hs.toBelow⟩
     ·
      refine q_v hk (w_lt rfl rfl (decide_eq_false hc11)) fun a hk => ?_
      refine q_v hk (w_pickF rfl rfl) fun a hk => ?_
      refine c_end (x_t ?_)
      refine c_F hk rfl ?_
      refine (wpIn_skip (x_t ?_))
      refine wS (wR ?_)
      refine q_v hk (w_as rfl) fun a hk => ?_
      refine c_end (x_t ?_)
      refine (wpIn_ret ?_)
      refine c_ret1 hk rfl rfl ?_
      exact ⟨by rw [csErr_0 hE hH hI (by omega)], hs.toBelow⟩
end Go.Proofs.YtdnkkbmpefhbjaaGreatDoor
namespace Go.Proofs.YtdnkkbmpefhbjaaGreatDoor
set_option linter.all false
open Go Go.RowKit Alg
end Go.Proofs.YtdnkkbmpefhbjaaGreatDoor
namespace Go.Proofs.YtdnkkbmpefhbjaaGreatDoor
set_option linter.all false
open Go Go.RowKit Alg
def allB (f : Nat → Bool) : Nat → Bool
  | 0 => true
  | k + 1 => allB f k && f k
theorem allB_iff (f : Nat → Bool) : ∀ n, allB f n = true ↔ ∀ k, k < n → f k = true
  | 0 => by simp [allB]
  | n + 1 => by
    rw [allB, Bool.and_eq_true, allB_iff f n]
    constructor
    · rintro ⟨h1, h2⟩ k hk
      by_cases h : k = n
      · subst h; exact h2
      · exact h1 k (by omega)
    · intro h
      exact ⟨fun k hk => h k (by omega), h n (by omega)⟩
end Go.Proofs.YtdnkkbmpefhbjaaGreatDoor
namespace Go.Proofs.YtdnkkbmpefhbjaaGreatDoor
set_option linter.all false
open Go Go.RowKit Alg
theorem sla_zero {a : Option Addr} {m s : Nat} : sla a m 0 s = a := by
  unfold sla
  split
  · rfl
  · cases a with
    | none => rfl
    | some q => show some (q.add (0 * s)) = some q; rw [Nat.zero_mul]; rfl
theorem w_slc_eq {P : Program} {G : List (Nat × Value)} {o : Oper} {w : World} {a a' : Option Addr} {n n' c c' : Nat} (h : Wq P G o (.slice a n c) w w) (ha : a = a') (hn : n = n') (hc : c = c') : Wq P G o (.slice a' n' c') w w := by
  subst ha hn hc; exact h
section
variable {la : Option Addr} {m lc th : Nat} {S : Nat → Shr} {R M : List Res} {F0 : Nat → Prop} {W w : World}
theorem share_cap (h : HasR (shareR la m lc S) R) (hs : Sat F0 W M R w) : m ≤ lc := by
  obtain ⟨a, c, he, hc, _⟩ := ((share_lst h).at_ hs).at_
  cases he
  exact hc
theorem lst_take {n c th s : Nat} {xs ys : List Value} {r : Res} (hr : r = lst s (.slice la n c) n xs) (ht : th ≤ n) (hy : ys.length = th * s) (hxy : ∀ (j : Nat) (u : Value), ys[j]? = some u → xs[j]? = some u) : HasR (lst s (.slice la th c) th ys) [r] := by
  subst hr
  refine ⟨fun w hw => ?_, fun k hk => ⟨_, .head _, ?_⟩⟩
  · obtain ⟨a, c', he, hc, h0, h1⟩ := (hw _ (.head _)).at_
    cases he
    exact ⟨hy, la, c, rfl, Nat.le_trans ht hc, fun h => ⟨by have := (h0 h).1; omega, (h0 h).2⟩, fun ad ha hp => ⟨(h1 ad ha (by omega)).1, (h1 ad ha (by omega)).2.1, fun j u hj => (h1 ad ha (by omega)).2.2 j u (hxy j u hj)⟩⟩
  · have h1 := hk.1
    have h2 := hk.2
    exact ⟨by omega, by cases la <;> simpa [Value.ownBlock] using h2⟩
theorem en_take {α : Type} {c : α → List Value} {f : Nat → α} {th m s : Nat} (hl : ∀ x, (c x).length = s) (ht : th ≤ m) : ∀ (j : Nat) (u : Value), (en c f th)[j]? = some u → (en c f m)[j]? = some u := by
  intro j u h
  obtain ⟨d, rfl⟩ : ∃ d, m = th + d := ⟨m - th, by omega⟩
  have e : en c f (th + d) = en c f th ++ en c (fun i => f (th + i)) d := by
    unfold en
    rw [List.range_add, List.flatMap_append, List.flatMap_map]
  rw [e, List.getElem?_append_left (List.getElem?_eq_some_iff.1 h).1]
  exact h
/-- The first th shares. -/
theorem share_take (h : HasR (shareR la m lc S) R) (ht : th ≤ m) : HasR (shareR la th lc S) R := by
  refine .rall fun x hx => ?_
  simp only [List.mem_cons, List.not_mem_nil, or_false] at hx
  rcases hx with rfl | rfl
  · exact (lst_take rfl ht (en_len shc_len) (en_take shc_len ht)).trans (share_lst h)
  · refine .rall fun y hy => ?_
    obtain ⟨k, hk, rfl⟩ := List.mem_map.1 hy
    exact share_pay h (Nat.lt_of_lt_of_le (List.mem_range.1 hk) ht)
theorem Good.take {s : Bool} (g : Good s S m) : Good s S (thN S) := by
  have ht := g.th_le
  have h2 := g.th
  exact ⟨by omega, fun i hi => g.F i (by omega), fun i hi => g.T i (by omega), fun i hi => g.Lq i (by omega), fun i hi => g.n i (by omega), fun i hi => g.idx i (by omega), fun i k hik hk => g.app i k hik (by omega), fun i hi => g.X i (by omega), g.t1, by omega, g.l0, g.l1, g.cn⟩
end
/-- A function of a column. -/
def FunC (x : Nat × List Value) (s : Bool) (S : Nat → Shr) (m : Nat) (t : Option Nat) (G : Nat → Zp s) (es : List Ev) (rx : Res) : Prop :=
  ∃ fn, Tryz.prog.funcs[x.1]? = some fn ∧ (fn.name != "runtime.NumGoroutine" && fn.body.isSome) = true ∧ ∀ (F0 : Nat → Prop) (W : World) (M R : List Res) (w0 : World) (ya : Option Addr) (yc ch : Nat) (evs : List Ev) (r : Res), TapeIs t evs r → HasR rx R →
    HasR (lst 4 (.slice ya m yc) m (en vq (fun i => mq (clz s S ch i)) m)) R → ch < (S 0).n → evs.length ≤ 10000000 → Sat F0 W (r :: M) R w0 →
    Calls Tryz.prog x.1 (.slice ya m yc :: x.2).toArray w0 fun e w => ∃ r, e = .returned (.tuple #[vec (mq (G ch)), .int .i64 0]) ∧ TapeIs t (evs ++ es) r ∧ Sat F0 W (r :: M) R w
theorem each_next {E es : List Ev} {k : Nat} : E ++ eachE ((k : Nat) : Int) es ++ [(4, ((k : Nat) : Int), 0)] ++ es = E ++ eachE ((k + 1 : Nat) : Int) es := by
  have e := upE_succ (F := fun k => [(4, k, 0)] ++ es) (fr := 0) (x := (k : Int)) (by omega)
  rw [List.append_assoc, List.append_assoc, show eachE ((k : Nat) : Int) es = upE 0 (k : Int) (fun k => [(4, k, 0)] ++ es) from rfl, e]
  rfl
theorem eachk_len {es : List Ev} {k : Nat} : (eachE ((k : Nat) : Int) es).length ≤ k * (es.length + 1) := by
  have := upE_len (fr := 0) (to := (k : Int)) (F := fun k => [(4, k, 0)] ++ es) (B := es.length + 1) (fun i => by simp)
  simpa [eachE] using this
theorem used_bad {F0 : Nat → Prop} {W : World} {M R : List Res} (m lc : Nat) (la : Option Addr) (S : Nat → Shr) (w0 : World) (hs : Sat F0 W M R w0) (hS : HasR (shareR la m lc S) R) (hG : HasR laidR R) (HO : ShOk S m) (hz : csErr S m ≠ 0) : Calls Tryz.prog 78 [.slice la m lc].toArray w0 fun e w => e = .returned (.tuple #[fieldZ, .slice none 0 0, .int .i64 (csErr S m)]) ∧ Sat F0 W M R w := by
 refine c_enter (args := [.slice la m lc]) Tryz.func78 rfl rfl rfl fun a hk => ?_
 refine wS (wR ?_)
 refine q_alc (vs := [.int .i64 0, .int .u64 0, .int .u64 0, .int .u64 0, .int .u64 0, .int .u64 0, .int .u64 0, .int .u64 0, .int .u64 0, .int .u64 0, .int .u64 0, .int .u64 0, .int .u64 0, .int .u64 0]) hk hs zr120 rfl rfl rfl fun b1 w a hk hs => ?_
 refine q_v hk (w_as rfl) fun a hk => ?_
 refine q_v hk (w_as rfl) fun a hk => ?_
 refine c_end (x_t (wS (wS (wR ?_))))
 refine q_v hk (w_mv rfl) fun a hk => ?_
 refine q_call (caps := []) hk rfl rfl Tryz.func60 fo60 rfl rfl (ckShares_c m lc la S _ ((hS).at_ hs) HO ((hG).at_ hs)) ?_
 rintro _ w ⟨rfl, hb⟩
 have hs := hs.below hb
 refine ⟨_, rfl, fun a hk => ?_⟩
 refine q_v hk (w_as rfl) fun a hk => ?_
 refine c_end (x_t (wS (wR ?_)))
 refine q_v hk (w_mv rfl) fun a hk => ?_
 refine q_v hk (w_ne rfl rfl (decide_eq_true (by omega))) fun a hk => ?_
 refine c_end (x_t ?_)
 refine c_T hk rfl ?_
 refine wS (wR ?_)
 refine q_v hk (w_bld rfl fl120 zr120 rfl rfl) fun a hk => ?_
 refine q_v hk (w_mv rfl) fun a hk => ?_
 refine q_sto (o := 0) (cs := [.int .i64 0, .int .u64 0, .int .u64 0, .int .u64 0, .int .u64 0, .int .u64 0, .int .u64 0, .int .u64 0, .int .u64 0, .int .u64 0, .int .u64 0, .int .u64 0, .int .u64 0, .int .u64 0]) (vs' := [.int .i64 0, .int .u64 0, .int .u64 0, .int .u64 0, .int .u64 0, .int .u64 0, .int .u64 0, .int .u64 0, .int .u64 0, .int .u64 0, .int .u64 0, .int .u64 0, .int .u64 0, .int .u64 0]) hk hs rfl rfl rfl ty120 rfl rfl rfl rfl rfl rfl fun w hs => ?_
 refine q_v hk (w_as rfl) fun a hk => ?_
 refine q_v hk (w_as rfl) fun a hk => ?_
 refine c_end (x_t ?_)
 refine (wpIn_ret (x_tr ?_))
 refine c_retG (vs := [.agg #[.int .i64 0, .int .u64 0, .int .u64 0, .int .u64 0, .int .u64 0, .int .u64 0, .int .u64 0, .int .u64 0, .int .u64 0, .int .u64 0, .int .u64 0, .int .u64 0, .int .u64 0, .int .u64 0], .slice none 0 0, .int .i64 (csErr S m)]) hk rfl ⟨⟨_, rfl, lv_A ty120 (.blk (n := 14) (hs.mi 0 rfl) rfl) rfl⟩, rfl, rfl, trivial⟩ rfl ?_
 have hs := hs.drop
 exact ⟨rfl, hs⟩
theorem used_m {F0 : Nat → Prop} {W : World} {M R : List Res} (s : Bool) (m lc : Nat) (la : Option Addr) (S : Nat → Shr) (w0 : World) (hs : Sat F0 W M R w0) (hS : HasR (shareR la m lc S) R) (hG : HasR laidR R) (HO : ShOk S m) (g : Good s S m) (hz : csErr S m = 0) (hm : m ≤ 255) : Calls Tryz.prog 78 [.slice la m lc].toArray w0 fun e w => e = .returned (.tuple #[fieldV s, .slice la (thN S) lc, .int .i64 0]) ∧ Sat F0 W M R w := by
 have hm0 := g.m0
 have hcap := share_cap hS hs
 have hth := g.th_le
 refine c_enter (args := [.slice la m lc]) Tryz.func78 rfl rfl rfl fun a hk => ?_
 refine wS (wR ?_)
 refine q_alc (vs := [.int .i64 0, .int .u64 0, .int .u64 0, .int .u64 0, .int .u64 0, .int .u64 0, .int .u64 0, .int .u64 0, .int .u64 0, .int .u64 0, .int .u64 0, .int .u64 0, .int .u64 0, .int .u64 0]) hk hs zr120 rfl rfl rfl fun b1 w a hk hs => ?_
 refine q_v hk (w_as rfl) fun a hk => ?_
 refine q_v hk (w_as rfl) fun a hk => ?_
 refine c_end (x_t (wS (wS (wR ?_))))
 refine q_v hk (w_mv rfl) fun a hk => ?_
 refine q_call (caps := []) hk rfl rfl Tryz.func60 fo60 rfl rfl (ckShares_c m lc la S _ ((hS).at_ hs) HO ((hG).at_ hs)) ?_
 rintro _ w ⟨rfl, hb⟩
 have hs := hs.below hb
 refine ⟨_, rfl, fun a hk => ?_⟩
 refine q_v hk (w_as rfl) fun a hk => ?_
 refine c_end (x_t (wS (wR ?_)))
 refine q_v hk (w_mv rfl) fun a hk => ?_
 refine q_v hk (w_ne rfl rfl (decide_eq_false (by omega))) fun a hk => ?_
 refine c_end (x_t ?_)
 refine c_F hk rfl ?_
 refine (wpIn_skip (x_t ?_))
 refine wS (wR ?_)
 refine q_v hk (w_mv rfl) fun a hk => ?_
 refine q_v hk (w_iaL (k := 0) rfl rfl Tryz.underlying22 ty53 ((share_lst hS).at_ hs) (by omega) (by omega)) fun a hk => ?_
 refine q_v hk (w_fa rfl fq53_0 ty3) fun a hk => ?_
 refine q_v hk (w_ld1 rfl ty3 (ic_eq (g.F 0 g.m0) (lstf (k := 0) (o := 0) (m := 1) ((share_lst hS).at_ hs) (by omega) (en_chunk shc_len (by omega)) rfl))) fun a hk => ?_
 refine q_call (caps := []) hk rfl rfl Tryz.func85 fo85 rfl rfl (get_c s _ ((hG).at_ hs)) ?_
 rintro _ w ⟨rfl, hb⟩
 have hs := hs.below hb
 refine ⟨_, rfl, fun a hk => ?_⟩
 refine q_v hk (w_mv rfl) fun a hk => ?_
 refine q_v hk (w_ext rfl rfl) fun a hk => ?_
 refine q_v hk (w_ext rfl rfl) fun a hk => ?_
 refine q_alc (vs := [.int .i64 0, .int .u64 0, .int .u64 0, .int .u64 0, .int .u64 0, .int .u64 0, .int .u64 0, .int .u64 0, .int .u64 0, .int .u64 0, .int .u64 0, .int .u64 0, .int .u64 0, .int .u64 0]) hk hs zr120 rfl rfl rfl fun b2 w a hk hs => ?_
 refine q_sto (o := 0) (cs := fieldL s) (vs' := fieldL s) hk hs rfl rfl rfl ty120 rfl rfl rfl rfl rfl rfl fun w hs => ?_
 refine q_v hk (w_as rfl) fun a hk => ?_
 refine c_end (x_t (wS ?_))
 have hL := okL.cons (hs.mi 0 rfl) (okL.cons ((share_lst hS).at_ hs) okL.nil)
 refine d_begin _ 11 (by kernel_rfl) rfl hs hL fun w hs hL => ?_
 refine d_w 0 1 hk hL rfl (fun w hL => w_ldA rfl ty120 (.blk (n := 14) (hL.at 0 rfl) rfl) rfl) fun a hk => ?_
 refine d_w 1 3 hk hL rfl (fun w hL => w_mv rfl) fun a hk => ?_
 refine d_w 2 7 hk hL rfl (fun w hL => w_mv rfl) fun a hk => ?_
 refine d_w 3 15 hk hL rfl (fun w hL => w_iaL (k := 0) rfl rfl Tryz.underlying22 ty53 (hL.at 1 rfl) (by omega) (by omega)) fun a hk => ?_
 refine d_w 4 31 hk hL rfl (fun w hL => w_fa rfl fq53_1 ty3) fun a hk => ?_
 refine d_w 5 63 hk hL rfl (fun w hL => w_ld1 rfl ty3 (ic_eq g.th (lstf (k := 0) (o := 1) (m := 1) (hL.at 1 rfl) (by omega) (en_chunk shc_len (by omega)) rfl))) fun a hk => ?_
 refine d_w 6 127 hk hL rfl (fun w hL => w_slc_eq (w_slc (l := 0) (h := thN S) rfl rfl rfl Tryz.underlying22 ty53 rfl rfl (by omega) (by omega) (by omega) (by omega) (by omega)) sla_zero (Nat.sub_zero _) (Nat.sub_zero _)) fun a hk => ?_
 refine d_w 7 255 hk hL rfl (fun w hL => w_mv rfl) fun a hk => ?_
 refine d_1 8 511 rfl (by kernel_rfl) fun K hK => ?_
 have hs := hs.up1
 refine q_sto (o := 0) (cs := fieldL s) (vs' := fieldL s) hk hs rfl rfl rfl ty120 rfl rfl rfl rfl rfl rfl fun w hs => ?_
 have hL := okL.cons (hs.mi 1 rfl) (okL.cons ((share_lst hS).at_ hs) okL.nil)
 refine c_end (x_t (hK _ _ hL ?_))
 clear hK K
 refine d_w 9 1023 hk hL rfl (fun w hL => w_as rfl) fun a hk => ?_
 refine d_w 10 2047 hk hL rfl (fun w hL => w_as rfl) fun a hk => ?_
 refine d_end (by kernel_rfl) ?_
 refine (x_t ?_)
 refine (wpIn_ret ?_)
 refine c_retG (vs := [fieldV s, .slice la (thN S) lc, .int .i64 0]) hk rfl ⟨⟨_, rfl, lv_A ty120 (.blk (n := 14) (hs.mi 0 rfl) rfl) rfl⟩, rfl, rfl, trivial⟩ rfl ?_
 have hs := hs.drop
 have hs := hs.drop
 exact ⟨rfl, hs⟩
theorem each_cm {F0 : Nat → Prop} {W : World} {M R : List Res} (s : Bool) (m lc : Nat) (la : Option Addr) (S : Nat → Shr) (f : Nat × List Value) (G : Nat → Zp s) (es : List Ev) (rx : Res) (t : Option Nat) (evs : List Ev) (r : Res) (w0 : World) (hs : Sat F0 W (r :: M) R w0) (hS : HasR (shareR la m lc S) R) (g : Good s S m) (hm : m ≤ 255) (hn9 : (S 0).n ≤ 4) (hfn : FunC f s S m t G es rx) (hx : HasR rx R) (hes : es.length ≤ 300000) (hT : TapeIs t evs r) (he : evs.length ≤ 1000000) : Calls Tryz.prog 81 [tval t, .slice la m lc, .func (.func f.1) #[] (List.toArray f.2)].toArray w0 fun e w => ∃ r a c, e = .returned (.tuple #[.slice a (S 0).n c, .int .i64 0]) ∧ TapeIs t (evs ++ eachE (((S 0).n : Nat) : Int) es) r ∧ Sat F0 W (r :: row 56 4 (.slice a (S 0).n c) (S 0).n (en vq (fun i => mq (G i)) (S 0).n) :: M) R w := by
 have hm0 := g.m0
 obtain ⟨fn, hfn1, hfn2, hfn3⟩ := hfn
 refine c_enter (args := [tval t, .slice la m lc, .func (.func f.1) #[] (List.toArray f.2)]) Tryz.func81 rfl rfl rfl fun a hk => ?_
 refine wS (wR ?_)
 refine q_v hk (w_as rfl) fun a hk => ?_
 refine q_v hk (w_as rfl) fun a hk => ?_
 refine c_end (x_t (wS (wR ?_)))
 refine q_v hk (w_as rfl) fun a hk => ?_
 refine c_end (x_t (wS (wS (wR ?_))))
 refine q_v hk (w_mv rfl) fun a hk => ?_
 refine q_v hk (w_iaL (k := 0) rfl rfl Tryz.underlying22 ty53 ((share_lst hS).at_ hs) (by omega) (by omega)) fun a hk => ?_
 refine q_v hk (w_fa rfl fq53_4 ty51) fun a hk => ?_
 refine q_v hk (w_ld1 rfl ty51 (lstf (k := 0) (o := 4) (m := 1) ((share_lst hS).at_ hs) (by omega) (en_chunk shc_len (by omega)) rfl)) fun a hk => ?_
 refine q_v hk (w_len rfl Tryz.underlying51) fun a hk => ?_
 refine q_v hk (w_mv rfl) fun a hk => ?_
 refine c_end (x_t ?_)
 refine wpIn_block ?_
 have hs := hs.row0 56 4
 refine c_loop (α := Nat) (fun k a w => ∃ (r : Res) (ao : Option Addr) (co : Nat), k ≤ (S 0).n ∧ TapeIs t (evs ++ eachE ((k : Nat) : Int) es) r ∧ Kn [] 40 [(17, .int .i64 ((k : Nat) : Int)), (8, .slice ao k co), (16, .int .i64 (((S 0).n : Nat) : Int)), (0, tval t), (1, .slice la m lc), (2, .func (.func f.1) #[] (List.toArray f.2))] a ∧ Sat F0 W ((row 56 4 (.slice ao k co) k (en vq (fun i => mq (G i)) k)) :: r :: M) R w) (fun k => (S 0).n - k) 0 ?_ ?_
 · exact ⟨_, _, _, (by omega), (by rw [show eachE ((0 : Nat) : Int) es = [] from upE_nil (by omega), List.append_nil]; exact hT), hk.k rfl (hk.k rfl (hk.k rfl (hk.k rfl (hk.k rfl (hk.k rfl hk.nil))))), hs⟩
 rintro k a w ⟨r, ao, co, hf0, hf1, hk, hs⟩
 have hT := hf1
 have hlk := eachk_len (es := es) (k := k)
 have hkk : k * (es.length + 1) ≤ 4 * 300001 := Nat.mul_le_mul (by omega) (by omega)
 refine wS (wR ?_)
 rcases Classical.em (((k : Nat) : Int) < (((S 0).n : Nat) : Int)) with hc1 | hc1
 ·
  refine q_v hk (w_lt rfl rfl (decide_eq_true hc1)) fun a hk => ?_
  refine c_end (x_t (wS ?_))
  refine c_T hk rfl ?_
  refine (wpIn_skip (x_t ?_))
  refine wS ?_
  refine wpIn_block ?_
  refine wS (wR ?_)
  refine q_v hk (w_mv rfl) fun a hk => ?_
  refine q_v hk (w_as rfl) fun a hk => ?_
  refine c_end (x_t (wS (wR ?_)))
  refine q_v hk (w_mv rfl) fun a hk => ?_
  refine q_v hk (w_mv rfl) fun a hk => ?_
  have hs := hs.up1
  refine q_call (caps := []) hk rfl rfl Tryz.func61 fo61 rfl rfl (note_m t 4 ((k : Nat) : Int) 0 (evs ++ eachE ((k : Nat) : Int) es) _ _ hT hs (by simp only [List.length_append]; omega)) ?_
  rintro _ w ⟨v2, r3, rfl, ht4, hs⟩
  have hT := ht4
  refine ⟨_, rfl, fun a hk => ?_⟩
  refine c_end (x_t (wS (wR ?_)))
  refine q_v hk (w_mv rfl) fun a hk => ?_
  refine q_v hk (w_mv rfl) fun a hk => ?_
  refine q_v hk (w_mv rfl) fun a hk => ?_
  refine q_call (caps := []) hk rfl rfl Tryz.func101 fo101 rfl rfl (column_c m lc k la S _ ((hS).at_ hs) (by omega) (fun i hi => by rw [g.n i hi]; exact ⟨by omega, by omega⟩)) ?_
  rintro _ w ⟨b5, rfl, hS⟩
  have hs := hs.call1 hS
  clear hS
  refine ⟨_, rfl, fun a hk => ?_⟩
  have hs := hs.rw0 (congrArg (fun q => blk b5 q 56) (g.col_eq (by omega)))
  have hs := hs.frz (r := lst 4 (.slice (some ⟨b5, 0, none⟩) m m) m (en vq (fun i => mq (clz s S k i)) m)) (blk_lst (hs.mi 0 rfl) (en_len vq_len) (Nat.le_refl _)) (fun _ h => (Option.some.inj h.2).symm)
  refine q_call (caps := f.2) hk rfl rfl hfn1 hfn2 rfl rfl (hfn3 _ _ _ _ _ _ _ k ((evs ++ eachE ((k : Nat) : Int) es) ++ [(4, ((k : Nat) : Int), 0)]) _ hT (hx.cons) (HasR.nth 0 rfl) (by omega) (by simp only [List.length_append, List.length_singleton]; omega) hs) ?_
  rintro _ w ⟨r6, rfl, hT, hs⟩
  have hs := hs.subR (R' := R) (by simp +contextual)
  refine ⟨_, rfl, fun a hk => ?_⟩
  refine q_v hk (w_mv rfl) fun a hk => ?_
  refine q_v hk (w_ext rfl rfl) fun a hk => ?_
  refine q_v hk (w_ext rfl rfl) fun a hk => ?_
  refine q_alc (vs := [.int .u64 0, .int .u64 0, .int .u64 0, .int .u64 0]) hk hs zr56 rfl rfl rfl fun b7 w a hk hs => ?_
  refine q_sto (o := 0) (cs := [.int .u64 ((dg 0 (mq (G k)) : Nat) : Int), .int .u64 ((dg 1 (mq (G k)) : Nat) : Int), .int .u64 ((dg 2 (mq (G k)) : Nat) : Int), .int .u64 ((dg 3 (mq (G k)) : Nat) : Int)]) (vs' := [.int .u64 ((dg 0 (mq (G k)) : Nat) : Int), .int .u64 ((dg 1 (mq (G k)) : Nat) : Int), .int .u64 ((dg 2 (mq (G k)) : Nat) : Int), .int .u64 ((dg 3 (mq (G k)) : Nat) : Int)]) hk hs rfl rfl rfl ty56 rfl rfl rfl rfl rfl rfl fun w hs => ?_
  refine q_v hk (w_as rfl) fun a hk => ?_
  refine c_end (x_t (wS (wS (wR ?_))))
  refine q_v hk (w_mv rfl) fun a hk => ?_
  refine q_v hk (w_ne rfl rfl (decide_eq_false (by decide))) fun a hk => ?_
  refine c_end (x_t ?_)
  refine c_F hk rfl ?_
  refine (wpIn_skip (x_t ?_))
  refine wR ?_
  refine q_v hk (w_mv rfl) fun a hk => ?_
  refine q_v hk (w_ldv (z := mq (G k)) rfl ty56 (.blk (n := 4) (hs.mi 0 rfl) rfl)) fun a hk => ?_
  refine q_bsl (els := [.tmp 35]) (cs := [.int .u64 ((dg 0 (mq (G k)) : Nat) : Int), .int .u64 ((dg 1 (mq (G k)) : Nat) : Int), .int .u64 ((dg 2 (mq (G k)) : Nat) : Int), .int .u64 ((dg 3 (mq (G k)) : Nat) : Int)]) hk hs rfl Tryz.underlying51 ty56 zr56 rfl rfl rfl rfl rfl rfl rfl fun b8 w a hk hs => ?_
  have hs := hs.up3
  refine q_app (news := [.int .u64 ((dg 0 (mq (G k)) : Nat) : Int), .int .u64 ((dg 1 (mq (G k)) : Nat) : Int), .int .u64 ((dg 2 (mq (G k)) : Nat) : Int), .int .u64 ((dg 3 (mq (G k)) : Nat) : Int)]) (m := 1) hk hs rfl rfl Tryz.underlying51 ty56 zr56 rfl rfl (.blk (n := 4) (hs.mi 1 rfl) rfl) rfl rfl (by omega) (by omega) rfl rfl fun a9 c10 w a hk hs => ?_
  have hs := hs.up1
  have hs := hs.drop
  refine q_v hk (w_as rfl) fun a hk => ?_
  refine (c_end (x_b (x_t ?_)))
  refine wR ?_
  refine q_v hk (w_add rfl rfl (wr64 (by omega) (by omega))) fun a hk => ?_
  refine q_v hk (w_mv rfl) fun a hk => ?_
  refine c_end (x_t ?_)
  have hs := hs.rw0 (congrArg _ en_succ)
  rw [each_next] at hT
  have hs := hs.up1
  have hs := hs.drop
  exact ⟨k + 1, ⟨_, _, _, (by omega), hT, hk.k rfl (hk.k rfl (hk.k rfl (hk.k rfl (hk.k rfl (hk.k rfl hk.nil))))), hs⟩, by omega⟩
 ·
  refine q_v hk (w_lt rfl rfl (decide_eq_false hc1)) fun a hk => ?_
  refine c_end (x_t (wS ?_))
  refine c_F hk rfl ?_
  refine (wpIn_exit (x_te (x_te (x_be ?_))))
  refine (x_t ?_)
  refine wS (wR ?_)
  refine q_v hk (w_mv rfl) fun a hk => ?_
  refine q_v hk (w_as rfl) fun a hk => ?_
  refine q_v hk (w_as rfl) fun a hk => ?_
  refine c_end (x_t ?_)
  refine (wpIn_ret ?_)
  refine c_ret2 hk rfl rfl rfl ?_
  have hs := hs.up1
  have hkn : k = (S 0).n := by omega
  rw [hkn] at hs hT ⊢
  exact ⟨_, _, _, rfl, hT, hs⟩
end Go.Proofs.YtdnkkbmpefhbjaaGreatDoor
namespace Go.Proofs.YtdnkkbmpefhbjaaGreatDoor
set_option linter.all false
open Go Go.RowKit Alg
end Go.Proofs.YtdnkkbmpefhbjaaGreatDoor
namespace Go.Proofs.YtdnkkbmpefhbjaaGreatDoor
set_option linter.all false
open Go Go.RowKit Alg
theorem rmodulus_z {v : Int} {s : Bool} (h : v = fid s) (w : World) : Calls Tryz.prog 28 #[.int .i64 v] w fun e w' => e = .returned (vec (pr s)) ∧ Below w.heap.size w w' := by subst h; exact refModulus_c s w
theorem allB_F {f : Nat → Bool} {k n : Nat} (h : f k = false) (hk : k < n) : allB f n = false := by
  cases e : allB f n with
  | false => rfl
  | true => rw [(allB_iff f n).1 e k hk] at h; cases h
end Go.Proofs.YtdnkkbmpefhbjaaGreatDoor
namespace Go.Proofs.YtdnkkbmpefhbjaaGreatDoor
set_option linter.all false
open Go Go.RowKit
end Go.Proofs.YtdnkkbmpefhbjaaGreatDoor
namespace Go.Proofs.YtdnkkbmpefhbjaaGreatDoor
set_option linter.all false
open Go Go.RowKit Alg
end Go.Proofs.YtdnkkbmpefhbjaaGreatDoor
namespace Go.Proofs.YtdnkkbmpefhbjaaGreatDoor
set_option linter.all false
open Go Go.RowKit Alg
end Go.Proofs.YtdnkkbmpefhbjaaGreatDoor
namespace Go.Proofs.YtdnkkbmpefhbjaaGreatDoor
set_option linter.all false
open Go Go.RowKit Alg
end Go.Proofs.YtdnkkbmpefhbjaaGreatDoor
namespace Go.Proofs.YtdnkkbmpefhbjaaGreatDoor
set_option linter.all false
open Go Go.RowKit Alg
/-- a ^ (e / 2^(256-j)) modulo p, by squaring. -/
def fpw (p a e : Nat) : Nat → Nat
  | 0 => 1
  | j + 1 => (fpw p a e j) ^ 2 * a ^ (e / 2 ^ (255 - j) % 2) % p
theorem fpw_val {s : Bool} (x : Zp s) (e : Nat) (he : e < R4) : ∀ j, j ≤ 256 → fpw (pr s) x.val e j = (pw x (e / 2 ^ (256 - j))).val
  | 0, _ => by
    rw [show e / 2 ^ (256 - 0) = 0 from Nat.div_eq_of_lt he]
    exact one_val.symm
  | j + 1, hj => by
    have ih := fpw_val x e he j (by omega)
    show (fpw (pr s) x.val e j) ^ 2 * x.val ^ (e / 2 ^ (255 - j) % 2) % pr s = _
    rw [ih, show 256 - (j + 1) = 255 - j by omega]
    have e1 : e / 2 ^ (256 - j) = e / 2 ^ (255 - j) / 2 := by rw [show 256 - j = (255 - j) + 1 by omega, Nat.pow_succ, Nat.div_div_eq_div_mul]
    rw [e1]
    generalize e / 2 ^ (255 - j) = q
    rcases Nat.mod_two_eq_zero_or_one q with h | h
    · obtain ⟨m, rfl⟩ : ∃ m, q = 2 * m := ⟨q / 2, by omega⟩
      rw [h, show 2 * m / 2 = m by omega, Nat.pow_zero, Nat.mul_one, pw_sq, pw_prod, Nat.pow_two]
      exact (Fin.val_mul _ _).symm
    · obtain ⟨m, rfl⟩ : ∃ m, q = 2 * m + 1 := ⟨q / 2, by omega⟩
      rw [h, show (2 * m + 1) / 2 = m by omega, Nat.pow_one, Nat.pow_two]
      have e2 : pw x (2 * m + 1) = pw x m * pw x m * x := by show pw x (2 * m) * x = _; rw [pw_sq, pw_prod]
      rw [e2, Fin.val_mul, Fin.val_mul, Nat.mod_mul_mod]
theorem fm_all : (List.range 254).all (fun d => fpw (pr false) (d + 1) (pr false - 1) 256 == 1 && fpw (pr true) (d + 1) (pr true - 1) 256 == 1) = true := by decide +kernel
theorem pr_1000 (s : Bool) : 1000 < pr s := by cases s <;> decide
theorem fm_small {s : Bool} {d : Nat} (h1 : 1 ≤ d) (h2 : d ≤ 254) : Fm (zn s d) := by
  have h := List.all_eq_true.1 fm_all (d - 1) (List.mem_range.2 (by omega))
  rw [show d - 1 + 1 = d by omega, Bool.and_eq_true, beq_iff_eq, beq_iff_eq] at h
  have hp := pr_1000 s
  have hv : (zn s d).val = d := Nat.mod_eq_of_lt (by omega)
  have hr := pr_lt s
  have e := fpw_val (zn s d) (pr s - 1) (by omega) 256 (Nat.le_refl _)
  rw [hv, Nat.sub_self, Nat.pow_zero, Nat.div_one] at e
  have e1 : fpw (pr s) d (pr s - 1) 256 = 1 := by cases s; exact h.1; exact h.2
  rw [e1] at e
  exact Fin.ext (e.symm.trans one_val.symm)
theorem zn_sub {s : Bool} {a b : Nat} (h : b ≤ a) : zn s a - zn s b = zn s (a - b) := by
  have e : zn s a = zn s (a - b) + zn s b := by
    unfold zn
    apply Fin.ext
    rw [Fin.val_add]
    simp only [Fin.val_ofNat]
    rw [← Nat.add_mod, Nat.sub_add_cancel h]
  rw [e]
  grind
theorem pt_fm {s : Bool} {a b : Nat} (h : a ≠ b) (ha1 : 1 ≤ a) (ha2 : a ≤ 255) (hb1 : 1 ≤ b) (hb2 : b ≤ 255) : Fm (zn s a - zn s b) := by
  by_cases l : b ≤ a
  · rw [zn_sub l]; exact fm_small (by omega) (by omega)
  · rw [show zn s a - zn s b = 0 - (zn s b - zn s a) by grind, zn_sub (by omega)]
    exact (fm_small (by omega) (by omega)).neg
section
variable {s : Bool} {S : Nat → Shr} {m : Nat} (g : Good s S m)
include g
theorem Good.fap : Fap (pt s (vI S)) m := fun i k hi hk h => by
  have a1 := g.v_le i hi
  have a2 := g.v_le k hk
  refine pt_fm ?_ a1.1 a1.2 a2.1 a2.2
  rcases Nat.lt_or_gt_of_ne h with l | l
  · exact g.v_ne i k l hk
  · exact (g.v_ne k i l hi).symm
end
end Go.Proofs.YtdnkkbmpefhbjaaGreatDoor
namespace Go.Proofs.YtdnkkbmpefhbjaaGreatDoor
set_option linter.all false
open Go Go.RowKit Alg
/-- What Large says. -/
def lrg (S : Nat → Shr) (m : Nat) : Int := if 12 < m then 1 else if allB (fun q => decide ((S q).n ≤ 4)) m = true then 0 else 1
theorem lrg_le {S : Nat → Shr} {m : Nat} (h : ¬ 0 < lrg S m) : m ≤ 12 ∧ ∀ k, k < m → (S k).n ≤ 4 := by
  unfold lrg at h
  by_cases h1 : 12 < m
  · rw [if_pos h1] at h; exact absurd (by decide) h
  · rw [if_neg h1] at h
    by_cases h2 : allB (fun q => decide ((S q).n ≤ 4)) m = true
    · exact ⟨by omega, fun k hk => of_decide_eq_true ((allB_iff _ m).1 h2 k hk)⟩
    · rw [if_neg h2] at h; exact absurd (by decide) h
theorem shok_of {S : Nat → Shr} {m : Nat} (h : m ≤ 12 ∧ ∀ k, k < m → (S k).n ≤ 4) (hx : ∀ k, k < m → ∀ i, i < (S k).n → (S k).X i < R4) : ShOk S m := ⟨by omega, fun k hk => by have := h.2 k hk; omega, hx⟩
theorem laidR_ok {w : World} (h : Laid w) : laidR.ok w := h
section
variable {la : Option Addr} {m lc : Nat} {S : Nat → Shr} {w : World}
theorem sat_in (HS : (shareR la m lc S).ok w) (HL : Laid w) : Sat no w [] [shareR la m lc S, laidR] w := Sat.start w _ (fun r hr => by
  simp only [List.mem_cons, List.not_mem_nil, or_false] at hr
  rcases hr with rfl | rfl
  · exact HS
  · exact HL)
theorem hr0 : HasR (shareR la m lc S) [shareR la m lc S, laidR] := .head
theorem hr1 : HasR laidR [shareR la m lc S, laidR] := HasR.nth 1 rfl
theorem sat_out {M : List Res} {w' : World} (hs : Sat no w (nores :: M) [shareR la m lc S, laidR] w') : Sat no w M [] w' := hs.drop.fin
variable (HS : (shareR la m lc S).ok w) (HL : Laid w) (HO : ShOk S m)
include HS HL HO
variable {s : Bool} (g : Good s S m) (hz : csErr S m = 0) (hm : m ≤ 255) (hn9 : (S 0).n ≤ 4)
include g hz hm hn9
end
theorem large_c (m lc : Nat) (la : Option Addr) (S : Nat → Shr) (W : World) (HS : (shareR la m lc S).ok W) : Calls Tryz.prog 15 [.slice la m lc].toArray W fun e w => e = .returned (.int .i64 (lrg S m)) ∧ Below W.heap.size W w := by
 refine c_enter (args := [.slice la m lc]) Tryz.func15 rfl rfl rfl fun a hk => ?_
 have hs := Sat.start W [shareR la m lc S] (okr1 HS)
 refine wS (wR ?_)
 refine q_v hk (w_as rfl) fun a hk => ?_
 refine c_end (x_t (wS (wS (wR ?_))))
 refine q_v hk (w_mv rfl) fun a hk => ?_
 refine q_v hk (w_len rfl Tryz.underlying22) fun a hk => ?_
 rcases Classical.em (12 < ((m : Nat) : Int)) with hc1 | hc1
 ·
  refine q_v hk (w_gt rfl rfl (decide_eq_true hc1)) fun a hk => ?_
  refine c_end (x_t ?_)
  refine c_T hk rfl ?_
  refine wS (wR ?_)
  refine q_v hk (w_as rfl) fun a hk => ?_
  refine c_end (x_t ?_)
  refine (wpIn_ret (x_tr ?_))
  refine c_ret1 hk rfl rfl ?_
  first | exact ⟨by unfold lrg; rw [if_pos (by omega)], hs.toBelow⟩ | exact ⟨by unfold lrg; rw [if_neg (by omega), if_neg (by rw [allB_F (f := fun q => decide ((S q).n ≤ 4)) (k := k) (decide_eq_false (by omega)) (by omega)]; exact Bool.false_ne_true)], hs.toBelow⟩
 ·
  refine q_v hk (w_gt rfl rfl (decide_eq_false hc1)) fun a hk => ?_
  refine c_end (x_t ?_)
  refine c_F hk rfl ?_
  refine (wpIn_skip (x_t ?_))
  refine wS (wS (wR ?_))
  refine q_v hk (w_mv rfl) fun a hk => ?_
  refine q_v hk (w_len rfl Tryz.underlying22) fun a hk => ?_
  refine q_v hk (w_mv rfl) fun a hk => ?_
  refine c_end (x_t ?_)
  refine wpIn_block ?_
  refine c_loop (α := Nat) (fun k a w => k ≤ m ∧ allB (fun q => decide ((S q).n ≤ 4)) k = true ∧ Kn [] 19 [(10, .int .i64 ((k : Nat) : Int)), (9, .int .i64 ((m : Nat) : Int)), (8, .slice la m lc)] a ∧ Sat no W [] [shareR la m lc S] w) (fun k => m - k) 0 ?_ ?_
  · exact ⟨(by omega), rfl, hk.k rfl (hk.k rfl (hk.k rfl hk.nil)), hs⟩
  rintro k a w ⟨hf0, hf1, hk, hs⟩
  refine wS (wR ?_)
  rcases Classical.em (((k : Nat) : Int) < ((m : Nat) : Int)) with hc2 | hc2
  ·
   refine q_v hk (w_lt rfl rfl (decide_eq_true hc2)) fun a hk => ?_
   refine c_end (x_t (wS ?_))
   refine c_T hk rfl ?_
   refine (wpIn_skip (x_t ?_))
   refine wS ?_
   refine wpIn_block ?_
   refine wS (wR ?_)
   refine q_v hk (w_iaL (k := k) rfl rfl Tryz.underlying22 ty53 ((share_lst (HasR.nth 0 rfl : HasR (shareR la m lc S) _)).at_ hs) (by omega) (by omega)) fun a hk => ?_
   refine q_v hk (w_ldA rfl ty53 (lstq (k := k) ((share_lst (HasR.nth 0 rfl : HasR (shareR la m lc S) _)).at_ hs) (by omega) (en_chunk shc_len (by omega))) rfl) fun a hk => ?_
   refine q_alc (vs := [.int .i64 0, .int .i64 0, .int .i64 0, .int .i64 0, .slice none 0 0]) hk hs zr53 rfl rfl rfl fun b3 w a hk hs => ?_
   refine q_sto (o := 0) (cs := [.int .i64 ((S k).F), .int .i64 ((S k).T), .int .i64 ((S k).I), .int .i64 ((S k).L), .slice ((S k).a) ((S k).n) ((S k).c)]) (vs' := [.int .i64 ((S k).F), .int .i64 ((S k).T), .int .i64 ((S k).I), .int .i64 ((S k).L), .slice ((S k).a) ((S k).n) ((S k).c)]) hk hs rfl rfl rfl ty53 rfl rfl rfl rfl rfl rfl fun w hs => ?_
   refine c_end (x_t (wS (wR ?_)))
   refine q_v hk (w_fa rfl fq53_4 ty51) fun a hk => ?_
   refine q_v hk (w_ld1 rfl ty51 (.blk (n := 1) (hs.mi 0 rfl) rfl)) fun a hk => ?_
   refine q_v hk (w_len rfl Tryz.underlying51) fun a hk => ?_
   rcases Classical.em (4 < (((S k).n : Nat) : Int)) with hc4 | hc4
   ·
    refine q_v hk (w_gt rfl rfl (decide_eq_true hc4)) fun a hk => ?_
    refine c_end (x_t ?_)
    refine c_T hk rfl ?_
    refine wS (wR ?_)
    refine q_v hk (w_as rfl) fun a hk => ?_
    refine c_end (x_t ?_)
    refine (wpIn_ret (x_br (x_tr (x_tr (x_br (x_tr ?_))))))
    refine c_ret1 hk rfl rfl ?_
    first | exact ⟨by unfold lrg; rw [if_pos (by omega)], hs.toBelow⟩ | exact ⟨by unfold lrg; rw [if_neg (by omega), if_neg (by rw [allB_F (f := fun q => decide ((S q).n ≤ 4)) (k := k) (decide_eq_false (by omega)) (by omega)]; exact Bool.false_ne_true)], hs.toBelow⟩
   ·
    have hnx : allB (fun q => decide ((S q).n ≤ 4)) (k + 1) = true := by simp only [allB, hf1, decide_eq_true_eq, Bool.true_and]; omega
    refine q_v hk (w_gt rfl rfl (decide_eq_false hc4)) fun a hk => ?_
    refine c_end (x_t ?_)
    refine c_F hk rfl ?_
    refine (wpIn_skip (x_b (x_t ?_)))
    refine wR ?_
    refine q_v hk (w_add rfl rfl (wr64 (by omega) (by omega))) fun a hk => ?_
    refine q_v hk (w_mv rfl) fun a hk => ?_
    refine c_end (x_t ?_)
    have hs := hs.drop
    exact ⟨k + 1, ⟨(by omega), hnx, hk.k rfl (hk.k rfl (hk.k rfl hk.nil)), hs⟩, by omega⟩
  ·
   refine q_v hk (w_lt rfl rfl (decide_eq_false hc2)) fun a hk => ?_
   refine c_end (x_t (wS ?_))
   refine c_F hk rfl ?_
   refine (wpIn_exit (x_te (x_te (x_be ?_))))
   refine (x_t ?_)
   refine wS (wR ?_)
   refine q_v hk (w_as rfl) fun a hk => ?_
   refine c_end (x_t ?_)
   refine (wpIn_ret ?_)
   refine c_ret1 hk rfl rfl ?_
   exact ⟨by unfold lrg; rw [if_neg (by omega), if_pos (by rw [show m = k by omega]; exact hf1)], hs.toBelow⟩
end Go.Proofs.YtdnkkbmpefhbjaaGreatDoor
namespace Go.Proofs.YtdnkkbmpefhbjaaGreatDoor
set_option linter.all false
open Go Go.RowKit Alg
theorem zn_lit {v : Nat} (hv : v < 1000) : zv (zn false v) = v := Nat.mod_eq_of_lt (Nat.lt_trans hv (pr_1000 false))
theorem rform_s (v : Nat) (hv : v < 1000) (w : World) : Calls Tryz.prog 43 #[vec (pr false), vec v] w fun e w' => e = .returned (vec (mq (zn false v))) ∧ Below w.heap.size w w' := by
  exact rform_z w (zn_lit hv).symm
def pk3 {α : Type} (y0 y1 y2 : α) (i : Nat) : α := if i = 0 then y0 else if i = 1 then y1 else y2
/-- Three shares of the examples. -/
def sh3 (y0 y1 y2 a0 a1 a2 : Nat) (i : Nat) : Shr := ⟨1, 2, (i : Int) + 1, 1, 1, fun _ => mq (zn false (pk3 y0 y1 y2 i)), some ⟨pk3 a0 a1 a2 i, 0, none⟩, 1⟩
section
variable {y0 y1 y2 a0 a1 a2 : Nat}
theorem sh3_clz (ch i : Nat) : clz false (sh3 y0 y1 y2 a0 a1 a2) ch i = zn false (pk3 y0 y1 y2 i) := mz_of _
theorem sh3_pt (i : Nat) : pt false (vI (sh3 y0 y1 y2 a0 a1 a2)) i = zn false (i + 1) := rfl
/-- The polynomial 5 + 3 X. -/
def p53 (k : Nat) : Zp false := if k = 0 then zn false 5 else zn false 3
theorem p53_0 : Sg p53 (pw (zn false 1)) 2 = zn false 8 := by decide +kernel
theorem p53_1 : Sg p53 (pw (zn false 2)) 2 = zn false 11 := by decide +kernel
theorem p53_2 : Sg p53 (pw (zn false 3)) 2 = zn false 14 := by decide +kernel
end
end Go.Proofs.YtdnkkbmpefhbjaaGreatDoor
namespace Go.Proofs.YtdnkkbmpefhbjaaGreatDoor
set_option linter.all false
open Go Go.RowKit Alg
end Go.Proofs.YtdnkkbmpefhbjaaGreatDoor
namespace Go.Proofs.YtdnkkbmpefhbjaaGreatDoor
set_option linter.all false
open Go Go.RowKit Alg
/-- The value of a chunk at zero, and elsewhere. -/
def valZ (s : Bool) (S : Nat → Shr) (m ch : Nat) : Zp s := dot (zw (pt s (vI S)) m) (clz s S ch) m
def atZ (s : Bool) (S : Nat → Shr) (m : Nat) (x : Zp s) (ch : Nat) : Zp s := Hn (itp (pt s (vI S)) (clz s S ch) m m) m x m
theorem coef_len3 {m : Nat} : (upE 0 (m : Int) coefE).length ≤ m := by rw [coefU_len]; exact Nat.le_refl m
theorem vals_f (s : Bool) (S : Nat → Shr) (m zc bt bf bz : Nat) (za : Option Addr) (t : Option Nat) (hm : m ≤ 255) : FunC (82, [.pointer (some ⟨bt, 0, none⟩), .pointer (some ⟨bf, 0, none⟩), .pointer (some ⟨bz, 0, none⟩)]) s S m t (valZ s S m) (upE 0 (m : Int) coefE) (rall [blk bt [tval t] 60, blk bf (fieldL s) 120, blk bz [.slice za m zc] 51, lst 4 (.slice za m zc) m (en vq (fun i => mq ((zw (pt s (vI S)) m) i)) m)]) := by
 refine ⟨_, Tryz.func82, fo82, fun F0 W M R w0 ya yc ch evs r hT hx hC hch he hs => ?_⟩
 refine c_enter (args := [.slice ya m yc, .pointer (some ⟨bt, 0, none⟩), .pointer (some ⟨bf, 0, none⟩), .pointer (some ⟨bz, 0, none⟩)]) Tryz.func82 rfl rfl rfl fun a hk => ?_
 refine wS (wR ?_)
 refine q_alc (vs := [.int .u64 0, .int .u64 0, .int .u64 0, .int .u64 0]) hk hs zr56 rfl rfl rfl fun b1 w a hk hs => ?_
 refine q_v hk (w_as rfl) fun a hk => ?_
 refine c_end (x_t (wS (wR ?_)))
 refine q_v hk (w_ld1 rfl ty60 (.blk (n := 1) ((hx.pi 0 rfl).at_ hs) rfl)) fun a hk => ?_
 refine q_v hk (w_ldA rfl ty120 (.blk (n := 14) ((hx.pi 1 rfl).at_ hs) rfl) rfl) fun a hk => ?_
 refine q_v hk (w_ld1 rfl ty51 (.blk (n := 1) ((hx.pi 2 rfl).at_ hs) rfl)) fun a hk => ?_
 refine q_v hk (w_mv rfl) fun a hk => ?_
 have hs := hs.up1
 refine q_call (caps := []) hk rfl rfl Tryz.func83 fo83 rfl rfl (dot_m s m zc yc za ya (zw (pt s (vI S)) m) (clz s S ch) t evs _ _ ((hs.hasR (hC)).hasR ((hx.pi 3 rfl)).cons) hT (by omega) (by omega)) ?_
 rintro _ w ⟨r2, rfl, ht3, hs⟩
 have hT := ht3
 have hs := hs.subR (R' := R) (by simp +contextual)
 refine ⟨_, rfl, fun a hk => ?_⟩
 refine q_v hk (w_ext rfl rfl) fun a hk => ?_
 refine q_v hk (w_ext rfl rfl) fun a hk => ?_
 have hs := hs.up1
 refine q_sto (o := 0) (cs := [.int .u64 ((dg 0 (mq (valZ s S m ch)) : Nat) : Int), .int .u64 ((dg 1 (mq (valZ s S m ch)) : Nat) : Int), .int .u64 ((dg 2 (mq (valZ s S m ch)) : Nat) : Int), .int .u64 ((dg 3 (mq (valZ s S m ch)) : Nat) : Int)]) (vs' := [.int .u64 ((dg 0 (mq (valZ s S m ch)) : Nat) : Int), .int .u64 ((dg 1 (mq (valZ s S m ch)) : Nat) : Int), .int .u64 ((dg 2 (mq (valZ s S m ch)) : Nat) : Int), .int .u64 ((dg 3 (mq (valZ s S m ch)) : Nat) : Int)]) hk hs rfl rfl rfl ty56 rfl rfl rfl rfl rfl rfl fun w hs => ?_
 refine q_v hk (w_as rfl) fun a hk => ?_
 refine c_end (x_t ?_)
 refine (wpIn_ret ?_)
 refine c_retG (vs := [vec (mq (valZ s S m ch)), .int .i64 0]) hk rfl ⟨⟨_, rfl, lv_A ty56 (.blk (n := 4) (hs.mi 0 rfl) rfl) rfl⟩, rfl, trivial⟩ rfl ?_
 have hs := hs.drop
 exact ⟨_, rfl, hT, hs⟩
theorem at_f (s : Bool) (S : Nat → Shr) (m xc bt bf bx bp : Nat) (xa : Option Addr) (x : Zp s) (t : Option Nat) (hm : m ≤ 255) (g : Good s S m) : FunC (89, [.pointer (some ⟨bt, 0, none⟩), .pointer (some ⟨bf, 0, none⟩), .pointer (some ⟨bx, 0, none⟩), .pointer (some ⟨bp, 0, none⟩)]) s S m t (atZ s S m x) (interpE (m : Int) ++ downE (m : Int) coefE) (rall [blk bt [tval t] 60, blk bf (fieldL s) 120, blk bx [.slice xa m xc] 34, lst 1 (.slice xa m xc) m (en ic (fun i => ((vI S i : Nat) : Int)) m), blk bp (vq (mq x)) 56]) := by
 refine ⟨_, Tryz.func89, fo89, fun F0 W M R w0 ya yc ch evs r hT hx hC hch he hs => ?_⟩
 have hm0 := g.m0
 refine c_enter (args := [.slice ya m yc, .pointer (some ⟨bt, 0, none⟩), .pointer (some ⟨bf, 0, none⟩), .pointer (some ⟨bx, 0, none⟩), .pointer (some ⟨bp, 0, none⟩)]) Tryz.func89 rfl rfl rfl fun a hk => ?_
 refine wS (wR ?_)
 refine q_alc (vs := [.int .u64 0, .int .u64 0, .int .u64 0, .int .u64 0]) hk hs zr56 rfl rfl rfl fun b1 w a hk hs => ?_
 refine q_v hk (w_as rfl) fun a hk => ?_
 refine c_end (x_t (wS (wR ?_)))
 refine q_v hk (w_ld1 rfl ty60 (.blk (n := 1) ((hx.pi 0 rfl).at_ hs) rfl)) fun a hk => ?_
 refine q_v hk (w_ldA rfl ty120 (.blk (n := 14) ((hx.pi 1 rfl).at_ hs) rfl) rfl) fun a hk => ?_
 refine q_v hk (w_ld1 rfl ty34 (.blk (n := 1) ((hx.pi 2 rfl).at_ hs) rfl)) fun a hk => ?_
 refine q_v hk (w_mv rfl) fun a hk => ?_
 have hs := hs.up1
 refine q_call (caps := []) hk rfl rfl Tryz.func90 fo90 rfl rfl (interp_m s m xc yc xa ya (vI S) (clz s S ch) t evs _ _ (hs.hasR (hC)) hT ((hx.pi 3 rfl)) g.m0 (by omega) g.v_le g.v_ne (by omega)) ?_
 rintro _ w ⟨b2, r3, rfl, ht4, hs⟩
 have hT := ht4
 have hs := hs.subR (R' := R) (by simp +contextual)
 refine ⟨_, rfl, fun a hk => ?_⟩
 refine q_v hk (w_mv rfl) fun a hk => ?_
 refine q_v hk (w_ext rfl rfl) fun a hk => ?_
 refine q_v hk (w_ext rfl rfl) fun a hk => ?_
 refine q_v hk (w_as rfl) fun a hk => ?_
 refine q_v hk (w_as rfl) fun a hk => ?_
 refine c_end (x_t (wS (wR ?_)))
 refine q_v hk (w_ld1 rfl ty60 (.blk (n := 1) ((hx.pi 0 rfl).at_ hs) rfl)) fun a hk => ?_
 refine q_v hk (w_ldA rfl ty120 (.blk (n := 14) ((hx.pi 1 rfl).at_ hs) rfl) rfl) fun a hk => ?_
 refine q_v hk (w_mv rfl) fun a hk => ?_
 refine q_v hk (w_ldv (z := mq x) rfl ty56 (.blk (n := 4) ((hx.pi 4 rfl).at_ hs) rfl)) fun a hk => ?_
 have hs := hs.up1
 have hs := hs.frz (r := lst 4 (.slice (some ⟨b2, 0, none⟩) m m) m (en vq (fun i => mq ((itp (pt s (vI S)) (clz s S ch) m m) i)) m)) (blk_lst (hs.mi 0 rfl) (en_len vq_len) (Nat.le_refl _)) (fun _ h => (Option.some.inj h.2).symm)
 refine q_call (caps := []) hk rfl rfl Tryz.func91 fo91 rfl rfl (peval_m s m m (some ⟨b2, 0, none⟩) (itp (pt s (vI S)) (clz s S ch) m m) x t (evs ++ interpE (m : Int)) _ _ hs hT (HasR.nth 0 rfl) g.m0 (by omega) (by have := interp_len2 (n := m) (by omega); simp only [List.length_append]; omega)) ?_
 rintro _ w ⟨r5, rfl, ht6, hs⟩
 have hT := ht6
 refine ⟨_, rfl, fun a hk => ?_⟩
 refine q_v hk (w_mv rfl) fun a hk => ?_
 have hs := hs.up1
 refine q_sto (o := 0) (cs := [.int .u64 ((dg 0 (mq (atZ s S m x ch)) : Nat) : Int), .int .u64 ((dg 1 (mq (atZ s S m x ch)) : Nat) : Int), .int .u64 ((dg 2 (mq (atZ s S m x ch)) : Nat) : Int), .int .u64 ((dg 3 (mq (atZ s S m x ch)) : Nat) : Int)]) (vs' := [.int .u64 ((dg 0 (mq (atZ s S m x ch)) : Nat) : Int), .int .u64 ((dg 1 (mq (atZ s S m x ch)) : Nat) : Int), .int .u64 ((dg 2 (mq (atZ s S m x ch)) : Nat) : Int), .int .u64 ((dg 3 (mq (atZ s S m x ch)) : Nat) : Int)]) hk hs rfl rfl rfl ty56 rfl rfl rfl rfl rfl rfl fun w hs => ?_
 refine q_v hk (w_as rfl) fun a hk => ?_
 refine c_end (x_t ?_)
 refine (wpIn_ret ?_)
 refine c_retG (vs := [vec (mq (atZ s S m x ch)), .int .i64 0]) hk rfl ⟨⟨_, rfl, lv_A ty56 (.blk (n := 4) (hs.mi 0 rfl) rfl) rfl⟩, rfl, trivial⟩ rfl ?_
 have hs := hs.drop
 have hs := hs.toR (R' := R) (fun r hr => .of (by simp [hr]))
 exact ⟨_, rfl, by rw [← List.append_assoc]; exact hT, hs⟩
end Go.Proofs.YtdnkkbmpefhbjaaGreatDoor
namespace Go.Proofs.YtdnkkbmpefhbjaaGreatDoor
set_option linter.all false
open Go Go.RowKit Alg
def valsE (th n : Nat) : List Ev := weightsE (th : Int) ++ upE 0 (th : Int) coefE ++ eachE (n : Int) (upE 0 (th : Int) coefE)
def atE (th n : Nat) : List Ev := eachE (n : Int) (interpE (th : Int) ++ downE (th : Int) coefE)
theorem values_bad {F0 : Nat → Prop} {W : World} {M R : List Res} (m lc : Nat) (la : Option Addr) (S : Nat → Shr) (t : Option Nat) (w0 : World) (hs : Sat F0 W M R w0) (hS : HasR (shareR la m lc S) R) (hG : HasR laidR R) (HO : ShOk S m) (hz : csErr S m ≠ 0) : Calls Tryz.prog 41 [tval t, .slice la m lc].toArray w0 fun e w => e = .returned (.tuple #[.slice none 0 0, .int .i64 (csErr S m)]) ∧ Sat F0 W M R w := by
 refine c_enter (args := [tval t, .slice la m lc]) Tryz.func41 rfl rfl rfl fun a hk => ?_
 refine wS (wR ?_)
 refine q_box (vs := [tval t]) hk hs rfl rfl rfl rfl fun b1 w a hk hs => ?_
 refine q_v hk (w_as rfl) fun a hk => ?_
 refine q_v hk (w_as rfl) fun a hk => ?_
 refine c_end (x_t (wS (wR ?_)))
 refine q_v hk (w_mv rfl) fun a hk => ?_
 refine q_call (caps := []) hk rfl rfl Tryz.func78 fo78 rfl rfl (used_bad m lc la S _ hs (hS) (hG) HO hz) ?_
 rintro _ w ⟨rfl, hs⟩
 refine ⟨_, rfl, fun a hk => ?_⟩
 refine q_v hk (w_mv rfl) fun a hk => ?_
 refine q_v hk (w_ext rfl rfl) fun a hk => ?_
 refine q_v hk (w_ext rfl rfl) fun a hk => ?_
 refine q_v hk (w_ext rfl rfl) fun a hk => ?_
 refine q_alc (vs := [.int .i64 0, .int .u64 0, .int .u64 0, .int .u64 0, .int .u64 0, .int .u64 0, .int .u64 0, .int .u64 0, .int .u64 0, .int .u64 0, .int .u64 0, .int .u64 0, .int .u64 0, .int .u64 0]) hk hs zr120 rfl rfl rfl fun b2 w a hk hs => ?_
 refine q_sto (o := 0) (cs := [.int .i64 0, .int .u64 0, .int .u64 0, .int .u64 0, .int .u64 0, .int .u64 0, .int .u64 0, .int .u64 0, .int .u64 0, .int .u64 0, .int .u64 0, .int .u64 0, .int .u64 0, .int .u64 0]) (vs' := [.int .i64 0, .int .u64 0, .int .u64 0, .int .u64 0, .int .u64 0, .int .u64 0, .int .u64 0, .int .u64 0, .int .u64 0, .int .u64 0, .int .u64 0, .int .u64 0, .int .u64 0, .int .u64 0]) hk hs rfl rfl rfl ty120 rfl rfl rfl rfl rfl rfl fun w hs => ?_
 refine q_v hk (w_as rfl) fun a hk => ?_
 refine q_v hk (w_as rfl) fun a hk => ?_
 refine c_end (x_t (wS (wS (wR ?_))))
 refine q_v hk (w_mv rfl) fun a hk => ?_
 refine q_v hk (w_ne rfl rfl (decide_eq_true (by omega))) fun a hk => ?_
 refine c_end (x_t ?_)
 refine c_T hk rfl ?_
 refine wS (wR ?_)
 refine q_v hk (w_mv rfl) fun a hk => ?_
 refine q_v hk (w_as rfl) fun a hk => ?_
 refine q_v hk (w_as rfl) fun a hk => ?_
 refine c_end (x_t ?_)
 refine (wpIn_ret (x_tr ?_))
 refine c_ret2 hk rfl rfl rfl ?_
 have hs := hs.drop
 have hs := hs.drop
 exact ⟨rfl, hs⟩
theorem values_m {F0 : Nat → Prop} {W : World} {M R : List Res} (s : Bool) (m lc : Nat) (la : Option Addr) (S : Nat → Shr) (t : Option Nat) (evs : List Ev) (r : Res) (w0 : World) (hs : Sat F0 W (r :: M) R w0) (hS : HasR (shareR la m lc S) R) (hG : HasR laidR R) (HO : ShOk S m) (g : Good s S m) (hz : csErr S m = 0) (hm : m ≤ 255) (hn9 : (S 0).n ≤ 4) (hT : TapeIs t evs r) (he : evs.length ≤ 10000) : Calls Tryz.prog 41 [tval t, .slice la m lc].toArray w0 fun e w => ∃ r a c, e = .returned (.tuple #[.slice a (S 0).n c, .int .i64 0]) ∧ TapeIs t (evs ++ valsE (thN S) (S 0).n) r ∧ Sat F0 W (r :: row 56 4 (.slice a (S 0).n c) (S 0).n (en vq (fun i => mq (valZ s S (thN S) i)) (S 0).n) :: M) R w := by
 have hm0 := g.m0
 have hth := g.th_le
 have hS2 := share_take hS hth.2
 have g2 := g.take
 refine c_enter (args := [tval t, .slice la m lc]) Tryz.func41 rfl rfl rfl fun a hk => ?_
 refine wS (wR ?_)
 refine q_box (vs := [tval t]) hk hs rfl rfl rfl rfl fun b1 w a hk hs => ?_
 refine q_v hk (w_as rfl) fun a hk => ?_
 refine q_v hk (w_as rfl) fun a hk => ?_
 refine c_end (x_t (wS (wR ?_)))
 refine q_v hk (w_mv rfl) fun a hk => ?_
 refine q_call (caps := []) hk rfl rfl Tryz.func78 fo78 rfl rfl (used_m s m lc la S _ hs (hS) (hG) HO g hz hm) ?_
 rintro _ w ⟨rfl, hs⟩
 refine ⟨_, rfl, fun a hk => ?_⟩
 refine q_v hk (w_mv rfl) fun a hk => ?_
 refine q_v hk (w_ext rfl rfl) fun a hk => ?_
 refine q_v hk (w_ext rfl rfl) fun a hk => ?_
 refine q_v hk (w_ext rfl rfl) fun a hk => ?_
 refine q_alc (vs := [.int .i64 0, .int .u64 0, .int .u64 0, .int .u64 0, .int .u64 0, .int .u64 0, .int .u64 0, .int .u64 0, .int .u64 0, .int .u64 0, .int .u64 0, .int .u64 0, .int .u64 0, .int .u64 0]) hk hs zr120 rfl rfl rfl fun b2 w a hk hs => ?_
 refine q_sto (o := 0) (cs := fieldL s) (vs' := fieldL s) hk hs rfl rfl rfl ty120 rfl rfl rfl rfl rfl rfl fun w hs => ?_
 refine q_v hk (w_as rfl) fun a hk => ?_
 refine q_v hk (w_as rfl) fun a hk => ?_
 refine c_end (x_t (wS (wS (wR ?_))))
 refine q_v hk (w_mv rfl) fun a hk => ?_
 refine q_v hk (w_ne rfl rfl (decide_eq_false (by decide))) fun a hk => ?_
 refine c_end (x_t ?_)
 refine c_F hk rfl ?_
 refine (wpIn_skip (x_t ?_))
 refine wS ?_
 have hL := okL.cons (hs.mi 1 rfl) (okL.cons (hs.mi 0 rfl) okL.nil)
 refine d_begin _ 11 (by kernel_rfl) rfl hs hL fun w hs hL => ?_
 refine d_join (n2 := 2) 511 (fun a w => ∃ (b1_8 : Nat) (b1_4 : Nat) (a1_3 : Option Addr) (c1_3b : Nat) (r1_4b : Res), TapeIs t (evs ++ (weightsE ((thN S) : Int) ++ upE 0 ((thN S) : Int) coefE)) r1_4b ∧ Kn [] 35 [(8, .pointer (some ⟨b1_8, 0, none⟩)), (25, .int .i64 0), (24, .slice (some ⟨b1_4, 0, none⟩) (thN S) (thN S)), (18, .tuple #[.slice (some ⟨b1_4, 0, none⟩) (thN S) (thN S), .int .i64 0]), (23, .tuple #[.slice (some ⟨b1_4, 0, none⟩) (thN S) (thN S), .int .i64 0]), (22, .slice a1_3 (thN S) c1_3b), (21, .slice la (thN S) lc), (20, fieldV s), (19, tval t), (16, .bool false), (15, .int .i64 0), (7, .int .i64 0), (1, .slice la (thN S) lc), (6, .pointer (some ⟨b2, 0, none⟩)), (14, .int .i64 0), (13, .slice la (thN S) lc), (12, fieldV s), (9, .tuple #[fieldV s, .slice la (thN S) lc, .int .i64 0]), (11, .tuple #[fieldV s, .slice la (thN S) lc, .int .i64 0]), (10, .slice la m lc), (5, .int .i64 0), (4, .slice none 0 0), (2, .pointer (some ⟨b1, 0, none⟩)), (0, tval t)] a ∧ Sat F0 W ((blk b1_8 [.slice none 0 0] 51) :: r1_4b :: (blk b1_4 (en vq (fun i => mq (zw (pt s (vI S)) (thN S) i)) (thN S)) 56) :: (blk b2 (fieldL s) 120) :: (blk b1 [tval t] 60) :: M) ((lst 1 (.slice a1_3 (thN S) c1_3b) (thN S) (en ic (fun i => ((vI S i : Nat) : Int)) (thN S))) :: R) w ∧ okL [blk b1 [tval t] 60, blk b2 (fieldL s) 120] w) ?_ ?_
 ·
  intro hJ511
  refine d_join (n2 := 6) 271 (fun a w => ∃ (b1_8 : Nat) (a1_3 : Option Addr) (c1_3b : Nat), Kn [] 35 [(8, .pointer (some ⟨b1_8, 0, none⟩)), (22, .slice a1_3 (thN S) c1_3b), (21, .slice la (thN S) lc), (20, fieldV s), (19, tval t), (16, .bool false), (15, .int .i64 0), (7, .int .i64 0), (1, .slice la (thN S) lc), (6, .pointer (some ⟨b2, 0, none⟩)), (14, .int .i64 0), (13, .slice la (thN S) lc), (12, fieldV s), (9, .tuple #[fieldV s, .slice la (thN S) lc, .int .i64 0]), (11, .tuple #[fieldV s, .slice la (thN S) lc, .int .i64 0]), (10, .slice la m lc), (5, .int .i64 0), (4, .slice none 0 0), (2, .pointer (some ⟨b1, 0, none⟩)), (0, tval t)] a ∧ Sat F0 W ((blk b1_8 [.slice none 0 0] 51) :: (row 3 1 (.slice a1_3 (thN S) c1_3b) (thN S) (en ic (fun i => (S i).I) (thN S))) :: (blk b2 (fieldL s) 120) :: (blk b1 [tval t] 60) :: r :: M) R w ∧ okL [blk b1 [tval t] 60, blk b2 (fieldL s) 120] w) ?_ ?_
  ·
   intro hJ271
   refine d_w 0 1 hk hL rfl (fun w hL => w_ld1 rfl ty60 (.blk (n := 1) (hL.at 0 rfl) rfl)) fun a hk => ?_
   refine d_w 1 3 hk hL rfl (fun w hL => w_ldA rfl ty120 (.blk (n := 14) (hL.at 1 rfl) rfl) rfl) fun a hk => ?_
   refine d_w 2 7 hk hL rfl (fun w hL => w_mv rfl) fun a hk => ?_
   refine d_2 3 8 15 263 rfl rfl (by kernel_rfl) (fun K hK => ?_) (fun K hK => ?_)
   ·
    refine q_call (caps := []) hk rfl rfl Tryz.func80 fo80 rfl rfl (indices_c (thN S) lc la S _ ((hS2).at_ hs) (by omega)) ?_
    rintro _ w ⟨a1_3, c1_3b, rfl, hS⟩
    have hs := hs.call1 hS
    clear hS
    refine ⟨_, rfl, fun a hk => ?_⟩
    have hL := okL.cons (hs.mi 2 rfl) (okL.cons (hs.mi 1 rfl) okL.nil)
    refine c_end (x_t (hK _ _ hL ?_))
    clear hK K
    refine d_2 4 8 31 271 rfl rfl (by kernel_rfl) (fun K hK => ?_) (fun K hK => ?_)
    ·
     have hs := hs.rw0 (congrArg (fun q => row 3 1 (.slice a1_3 (thN S) c1_3b) (thN S) q) g2.xs_eq)
     have hs := hs.frz (r := lst 1 (.slice a1_3 (thN S) c1_3b) (thN S) (en ic (fun i => ((vI S i : Nat) : Int)) (thN S))) (row_lst (hs.mi 0 rfl)) (fun _ h => h.2)
     have hs := hs.up2
     refine q_call (caps := []) hk rfl rfl Tryz.func79 fo79 rfl rfl (zero_m s (thN S) c1_3b a1_3 (vI S) t evs _ _ hs hT (HasR.nth 0 rfl) g2.m0 (by omega) g2.v_le g2.v_ne (by omega)) ?_
     rintro _ w ⟨b1_4, r1_4b, rfl, ht1_4c, hs⟩
     rw [List.append_assoc] at ht1_4c
     have hT := ht1_4c
     refine ⟨_, rfl, fun a hk => ?_⟩
     have hL := okL.cons (hs.mi 3 rfl) (okL.cons (hs.mi 2 rfl) okL.nil)
     refine c_end (x_t (hK _ _ hL ?_))
     clear hK K
     refine d_w 5 63 hk hL rfl (fun w hL => w_mv rfl) fun a hk => ?_
     refine d_w 6 127 hk hL rfl (fun w hL => w_ext rfl rfl) fun a hk => ?_
     refine d_w 7 255 hk hL rfl (fun w hL => w_ext rfl rfl) fun a hk => ?_
     refine d_1 8 511 rfl (by kernel_rfl) fun K hK => ?_
     refine q_alc (vs := [.slice none 0 0]) hk hs zr51 rfl rfl rfl fun b1_8 w a hk hs => ?_
     have hL := okL.cons (hs.mi 4 rfl) (okL.cons (hs.mi 3 rfl) okL.nil)
     refine c_end (x_t (hK _ _ hL ?_))
     clear hK K
     have hL := okL.cons (hs.mi 4 rfl) (okL.cons (hs.mi 3 rfl) okL.nil)
     exact hJ511 _ _ ⟨_, _, _, _, _, hT, hk.k rfl (hk.k rfl (hk.k rfl (hk.k rfl (hk.k rfl (hk.k rfl (hk.k rfl (hk.k rfl (hk.k rfl (hk.k rfl (hk.k rfl (hk.k rfl (hk.k rfl (hk.k rfl (hk.k rfl (hk.k rfl (hk.k rfl (hk.k rfl (hk.k rfl (hk.k rfl (hk.k rfl (hk.k rfl (hk.k rfl (hk.k rfl hk.nil))))))))))))))))))))))), hs, hL⟩
    ·
     refine q_alc (vs := [.slice none 0 0]) hk hs zr51 rfl rfl rfl fun b1_8 w a hk hs => ?_
     have hL := okL.cons (hs.mi 3 rfl) (okL.cons (hs.mi 2 rfl) okL.nil)
     refine c_end (x_t (hK _ _ hL ?_))
     clear hK K
     have hL := okL.cons (hs.mi 3 rfl) (okL.cons (hs.mi 2 rfl) okL.nil)
     exact hJ271 _ _ ⟨_, _, _, hk.k rfl (hk.k rfl (hk.k rfl (hk.k rfl (hk.k rfl (hk.k rfl (hk.k rfl (hk.k rfl (hk.k rfl (hk.k rfl (hk.k rfl (hk.k rfl (hk.k rfl (hk.k rfl (hk.k rfl (hk.k rfl (hk.k rfl (hk.k rfl (hk.k rfl (hk.k rfl hk.nil))))))))))))))))))), hs, hL⟩
   ·
    refine q_alc (vs := [.slice none 0 0]) hk hs zr51 rfl rfl rfl fun b1_8 w a hk hs => ?_
    have hL := okL.cons (hs.mi 2 rfl) (okL.cons (hs.mi 1 rfl) okL.nil)
    refine c_end (x_t (hK _ _ hL ?_))
    clear hK K
    refine d_1 3 271 rfl (by kernel_rfl) fun K hK => ?_
    refine q_call (caps := []) hk rfl rfl Tryz.func80 fo80 rfl rfl (indices_c (thN S) lc la S _ ((hS2).at_ hs) (by omega)) ?_
    rintro _ w ⟨a1_3, c1_3b, rfl, hS⟩
    have hs := hs.call1 hS
    clear hS
    refine ⟨_, rfl, fun a hk => ?_⟩
    have hL := okL.cons (hs.mi 3 rfl) (okL.cons (hs.mi 2 rfl) okL.nil)
    refine c_end (x_t (hK _ _ hL ?_))
    clear hK K
    have hs := hs.up4
    have hs := hs.up4
    have hs := hs.up4
    have hs := hs.up3
    have hs := hs.up4
    have hL := okL.cons (hs.mi 3 rfl) (okL.cons (hs.mi 2 rfl) okL.nil)
    exact hJ271 _ _ ⟨_, _, _, hk.k rfl (hk.k rfl (hk.k rfl (hk.k rfl (hk.k rfl (hk.k rfl (hk.k rfl (hk.k rfl (hk.k rfl (hk.k rfl (hk.k rfl (hk.k rfl (hk.k rfl (hk.k rfl (hk.k rfl (hk.k rfl (hk.k rfl (hk.k rfl (hk.k rfl (hk.k rfl hk.nil))))))))))))))))))), hs, hL⟩
  ·
   rintro a w ⟨b1_8, a1_3, c1_3b, hk, hs, hL⟩
   refine d_1 4 287 rfl (by kernel_rfl) fun K hK => ?_
   have hs := hs.up1
   have hs := hs.rw0 (congrArg (fun q => row 3 1 (.slice a1_3 (thN S) c1_3b) (thN S) q) g2.xs_eq)
   have hs := hs.frz (r := lst 1 (.slice a1_3 (thN S) c1_3b) (thN S) (en ic (fun i => ((vI S i : Nat) : Int)) (thN S))) (row_lst (hs.mi 0 rfl)) (fun _ h => h.2)
   have hs := hs.up3
   refine q_call (caps := []) hk rfl rfl Tryz.func79 fo79 rfl rfl (zero_m s (thN S) c1_3b a1_3 (vI S) t evs _ _ hs hT (HasR.nth 0 rfl) g2.m0 (by omega) g2.v_le g2.v_ne (by omega)) ?_
   rintro _ w ⟨b1_4, r1_4b, rfl, ht1_4c, hs⟩
   rw [List.append_assoc] at ht1_4c
   have hT := ht1_4c
   refine ⟨_, rfl, fun a hk => ?_⟩
   have hL := okL.cons (hs.mi 4 rfl) (okL.cons (hs.mi 3 rfl) okL.nil)
   refine c_end (x_t (hK _ _ hL ?_))
   clear hK K
   refine d_w 5 319 hk hL rfl (fun w hL => w_mv rfl) fun a hk => ?_
   refine d_w 6 383 hk hL rfl (fun w hL => w_ext rfl rfl) fun a hk => ?_
   refine d_w 7 511 hk hL rfl (fun w hL => w_ext rfl rfl) fun a hk => ?_
   have hs := hs.up4
   have hs := hs.up4
   have hs := hs.up3
   have hs := hs.up3
   have hs := hs.up4
   have hL := okL.cons (hs.mi 4 rfl) (okL.cons (hs.mi 3 rfl) okL.nil)
   exact hJ511 _ _ ⟨_, _, _, _, _, hT, hk.k rfl (hk.k rfl (hk.k rfl (hk.k rfl (hk.k rfl (hk.k rfl (hk.k rfl (hk.k rfl (hk.k rfl (hk.k rfl (hk.k rfl (hk.k rfl (hk.k rfl (hk.k rfl (hk.k rfl (hk.k rfl (hk.k rfl (hk.k rfl (hk.k rfl (hk.k rfl (hk.k rfl (hk.k rfl (hk.k rfl (hk.k rfl hk.nil))))))))))))))))))))))), hs, hL⟩
 ·
  rintro a w ⟨b1_8, b1_4, a1_3, c1_3b, r1_4b, hT, hk, hs, hL⟩
  refine d_1 9 1023 rfl (by kernel_rfl) fun K hK => ?_
  refine q_sto (o := 0) (cs := [.slice (some ⟨b1_4, 0, none⟩) (thN S) (thN S)]) (vs' := [.slice (some ⟨b1_4, 0, none⟩) (thN S) (thN S)]) hk hs rfl rfl rfl ty51 rfl rfl rfl rfl rfl rfl fun w hs => ?_
  have hL := okL.cons (hs.mi 4 rfl) (okL.cons (hs.mi 3 rfl) okL.nil)
  refine c_end (x_t (hK _ _ hL ?_))
  clear hK K
  refine d_w 10 2047 hk hL rfl (fun w hL => w_as rfl) fun a hk => ?_
  refine d_end (by kernel_rfl) ?_
  refine (x_t ?_)
  refine wS (wS (wR ?_))
  refine q_v hk (w_mv rfl) fun a hk => ?_
  refine q_v hk (w_ne rfl rfl (decide_eq_false (by decide))) fun a hk => ?_
  refine c_end (x_t ?_)
  refine c_F hk rfl ?_
  refine (wpIn_skip (x_t ?_))
  refine wS (wR ?_)
  refine q_v hk (w_ld1 rfl ty60 (.blk (n := 1) (hs.mi 4 rfl) rfl)) fun a hk => ?_
  refine q_v hk (w_mv rfl) fun a hk => ?_
  refine q_v hk (w_mkf (frees := [.tmp 2, .tmp 6, .tmp 8]) rfl) fun a hk => ?_
  have hs := hs.up2
  have hs := hs.frz (r := lst 4 (.slice (some ⟨b1_4, 0, none⟩) (thN S) (thN S)) (thN S) (en vq (fun i => mq (zw (pt s (vI S)) (thN S) i)) (thN S))) (blk_lst (hs.mi 0 rfl) (en_len vq_len) (Nat.le_refl _)) (fun _ h => (Option.some.inj h.2).symm)
  have hs := hs.up3
  have hs := hs.frz (r := blk b1 [tval t] 60) (hs.okM _ (.head _)) (fun _ h => h)
  have hs := hs.up2
  have hs := hs.frz (r := blk b2 (fieldL s) 120) (hs.okM _ (.head _)) (fun _ h => h)
  have hs := hs.frz (r := blk b1_8 [.slice (some ⟨b1_4, 0, none⟩) (thN S) (thN S)] 51) (hs.okM _ (.head _)) (fun _ h => h)
  refine q_call (caps := []) hk rfl rfl Tryz.func81 fo81 rfl rfl (each_cm s (thN S) lc la S (82, [.pointer (some ⟨b1, 0, none⟩), .pointer (some ⟨b2, 0, none⟩), .pointer (some ⟨b1_8, 0, none⟩)]) (valZ s S (thN S)) (upE 0 ((thN S) : Int) coefE) (rall [blk b1 [tval t] 60, blk b2 (fieldL s) 120, blk b1_8 [.slice (some ⟨b1_4, 0, none⟩) (thN S) (thN S)] 51, lst 4 (.slice (some ⟨b1_4, 0, none⟩) (thN S) (thN S)) (thN S) (en vq (fun i => mq (zw (pt s (vI S)) (thN S) i)) (thN S))]) t (evs ++ (weightsE ((thN S) : Int) ++ upE 0 ((thN S) : Int) coefE)) _ _ hs (hS2.cons.cons.cons.cons.cons) g2 (by omega) hn9 (vals_f s S (thN S) (thN S) b1 b2 b1_8 (some ⟨b1_4, 0, none⟩) t (by omega)) (.rall fun q hq => by simp only [List.mem_cons, List.not_mem_nil, or_false] at hq; rcases hq with rfl | rfl | rfl | rfl <;> exact HasR.of (by simp)) (by have h2 := coef_len3 (m := (thN S)); omega) hT (by have h1 := weights_len (n := ((thN S) : Int)) (by omega); have h2 := coef_len3 (m := (thN S)); simp only [List.length_append]; omega)) ?_
  rintro _ w ⟨r3, a4, c5, rfl, hT, hs⟩
  refine ⟨_, rfl, fun a hk => ?_⟩
  refine q_v hk (w_ext rfl rfl) fun a hk => ?_
  refine q_v hk (w_ext rfl rfl) fun a hk => ?_
  refine q_v hk (w_as rfl) fun a hk => ?_
  refine q_v hk (w_as rfl) fun a hk => ?_
  refine c_end (x_t ?_)
  refine (wpIn_ret ?_)
  refine c_ret2 hk rfl rfl rfl ?_
  have hs := hs.toR (R' := R) (fun r hr => .of (by simp [hr]))
  exact ⟨_, _, _, rfl, by unfold valsE; rw [← List.append_assoc]; exact hT, hs⟩
end Go.Proofs.YtdnkkbmpefhbjaaGreatDoor
namespace Go.Proofs.YtdnkkbmpefhbjaaGreatDoor
set_option linter.all false
open Go Go.RowKit Alg
abbrev shareZ : Value := .agg #[.int .i64 0, .int .i64 0, .int .i64 0, .int .i64 0, .slice none 0 0]
theorem at_bad {F0 : Nat → Prop} {W : World} {M R : List Res} (m lc : Nat) (la : Option Addr) (S : Nat → Shr) (t : Option Nat) (ix : Int) (w0 : World) (hs : Sat F0 W M R w0) (hS : HasR (shareR la m lc S) R) (hG : HasR laidR R) (HO : ShOk S m) (hz : csErr S m ≠ 0) : Calls Tryz.prog 47 [tval t, .slice la m lc, .int .i64 ix].toArray w0 fun e w => e = .returned (.tuple #[shareZ, .int .i64 (csErr S m)]) ∧ Sat F0 W M R w := by
 refine c_enter (args := [tval t, .slice la m lc, .int .i64 ix]) Tryz.func47 rfl rfl rfl fun a hk => ?_
 refine wS (wR ?_)
 refine q_box (vs := [tval t]) hk hs rfl rfl rfl rfl fun b1 w a hk hs => ?_
 refine q_alc (vs := [.int .i64 0, .int .i64 0, .int .i64 0, .int .i64 0, .slice none 0 0]) hk hs zr53 rfl rfl rfl fun b2 w a hk hs => ?_
 refine q_v hk (w_as rfl) fun a hk => ?_
 refine c_end (x_t (wS (wR ?_)))
 refine q_v hk (w_mv rfl) fun a hk => ?_
 refine q_call (caps := []) hk rfl rfl Tryz.func78 fo78 rfl rfl (used_bad m lc la S _ hs (hS) (hG) HO hz) ?_
 rintro _ w ⟨rfl, hs⟩
 refine ⟨_, rfl, fun a hk => ?_⟩
 refine q_v hk (w_mv rfl) fun a hk => ?_
 refine q_v hk (w_ext rfl rfl) fun a hk => ?_
 refine q_v hk (w_ext rfl rfl) fun a hk => ?_
 refine q_v hk (w_ext rfl rfl) fun a hk => ?_
 refine q_alc (vs := [.int .i64 0, .int .u64 0, .int .u64 0, .int .u64 0, .int .u64 0, .int .u64 0, .int .u64 0, .int .u64 0, .int .u64 0, .int .u64 0, .int .u64 0, .int .u64 0, .int .u64 0, .int .u64 0]) hk hs zr120 rfl rfl rfl fun b3 w a hk hs => ?_
 refine q_sto (o := 0) (cs := [.int .i64 0, .int .u64 0, .int .u64 0, .int .u64 0, .int .u64 0, .int .u64 0, .int .u64 0, .int .u64 0, .int .u64 0, .int .u64 0, .int .u64 0, .int .u64 0, .int .u64 0, .int .u64 0]) (vs' := [.int .i64 0, .int .u64 0, .int .u64 0, .int .u64 0, .int .u64 0, .int .u64 0, .int .u64 0, .int .u64 0, .int .u64 0, .int .u64 0, .int .u64 0, .int .u64 0, .int .u64 0, .int .u64 0]) hk hs rfl rfl rfl ty120 rfl rfl rfl rfl rfl rfl fun w hs => ?_
 refine q_v hk (w_as rfl) fun a hk => ?_
 refine q_v hk (w_as rfl) fun a hk => ?_
 refine c_end (x_t (wS ?_))
 refine wpIn_block ?_
 refine wS (wR ?_)
 refine q_v hk (w_mv rfl) fun a hk => ?_
 refine q_v hk (w_ne rfl rfl (decide_eq_true (by omega))) fun a hk => ?_
 refine q_v hk (w_as rfl) fun a hk => ?_
 refine c_end (x_t ?_)
 refine c_T hk rfl ?_
 refine wS (wR ?_)
 refine q_v hk (w_bld rfl fl53 zr53 rfl rfl) fun a hk => ?_
 refine q_v hk (w_mv rfl) fun a hk => ?_
 have hs := hs.up1
 refine q_sto (o := 0) (cs := [.int .i64 0, .int .i64 0, .int .i64 0, .int .i64 0, .slice none 0 0]) (vs' := [.int .i64 0, .int .i64 0, .int .i64 0, .int .i64 0, .slice none 0 0]) hk hs rfl rfl rfl ty53 rfl rfl rfl rfl rfl rfl fun w hs => ?_
 refine q_v hk (w_as rfl) fun a hk => ?_
 refine c_end (x_t ?_)
 refine (wpIn_ret (x_br (x_tr ?_)))
 refine c_retG (vs := [.agg #[.int .i64 0, .int .i64 0, .int .i64 0, .int .i64 0, .slice none 0 0], .int .i64 (csErr S m)]) hk rfl ⟨⟨_, rfl, lv_A ty53 (.blk (n := 5) (hs.mi 0 rfl) rfl) rfl⟩, rfl, trivial⟩ rfl ?_
 have hs := hs.drop
 have hs := hs.drop
 have hs := hs.drop
 exact ⟨rfl, hs⟩
theorem at_m {F0 : Nat → Prop} {W : World} {M R : List Res} (s : Bool) (m lc : Nat) (la : Option Addr) (S : Nat → Shr) (t : Option Nat) (evs : List Ev) (r : Res) (ix : Nat) (w0 : World) (hs : Sat F0 W (r :: M) R w0) (hS : HasR (shareR la m lc S) R) (hG : HasR laidR R) (HO : ShOk S m) (g : Good s S m) (hz : csErr S m = 0) (hm : m ≤ 255) (hn9 : (S 0).n ≤ 4) (hT : TapeIs t evs r) (he : evs.length ≤ 10000) (hi1 : 1 ≤ ix) (hi2 : ix ≤ 255) : Calls Tryz.prog 47 [tval t, .slice la m lc, .int .i64 ((ix : Nat) : Int)].toArray w0 fun e w => ∃ r a c, e = .returned (.tuple #[.agg #[.int .i64 (S 0).F, .int .i64 (S 0).T, .int .i64 ((ix : Nat) : Int), .int .i64 (S 0).L, .slice a (S 0).n c], .int .i64 0]) ∧ TapeIs t (evs ++ atE (thN S) (S 0).n) r ∧ Sat F0 W (r :: row 56 4 (.slice a (S 0).n c) (S 0).n (en vq (fun i => mq ((atZ s S (thN S) (zn s ix)) i)) (S 0).n) :: M) R w := by
 have hm0 := g.m0
 have hth := g.th_le
 have hS2 := share_take hS hth.2
 have g2 := g.take
 refine c_enter (args := [tval t, .slice la m lc, .int .i64 ((ix : Nat) : Int)]) Tryz.func47 rfl rfl rfl fun a hk => ?_
 refine wS (wR ?_)
 refine q_box (vs := [tval t]) hk hs rfl rfl rfl rfl fun b1 w a hk hs => ?_
 refine q_alc (vs := [.int .i64 0, .int .i64 0, .int .i64 0, .int .i64 0, .slice none 0 0]) hk hs zr53 rfl rfl rfl fun b2 w a hk hs => ?_
 refine q_v hk (w_as rfl) fun a hk => ?_
 refine c_end (x_t (wS (wR ?_)))
 refine q_v hk (w_mv rfl) fun a hk => ?_
 refine q_call (caps := []) hk rfl rfl Tryz.func78 fo78 rfl rfl (used_m s m lc la S _ hs (hS) (hG) HO g hz hm) ?_
 rintro _ w ⟨rfl, hs⟩
 refine ⟨_, rfl, fun a hk => ?_⟩
 refine q_v hk (w_mv rfl) fun a hk => ?_
 refine q_v hk (w_ext rfl rfl) fun a hk => ?_
 refine q_v hk (w_ext rfl rfl) fun a hk => ?_
 refine q_v hk (w_ext rfl rfl) fun a hk => ?_
 refine q_alc (vs := [.int .i64 0, .int .u64 0, .int .u64 0, .int .u64 0, .int .u64 0, .int .u64 0, .int .u64 0, .int .u64 0, .int .u64 0, .int .u64 0, .int .u64 0, .int .u64 0, .int .u64 0, .int .u64 0]) hk hs zr120 rfl rfl rfl fun b3 w a hk hs => ?_
 refine q_sto (o := 0) (cs := fieldL s) (vs' := fieldL s) hk hs rfl rfl rfl ty120 rfl rfl rfl rfl rfl rfl fun w hs => ?_
 refine q_v hk (w_as rfl) fun a hk => ?_
 refine q_v hk (w_as rfl) fun a hk => ?_
 refine c_end (x_t (wS ?_))
 refine wpIn_block ?_
 refine wS (wR ?_)
 refine q_v hk (w_mv rfl) fun a hk => ?_
 refine q_v hk (w_ne rfl rfl (decide_eq_false (by decide))) fun a hk => ?_
 refine q_v hk (w_as rfl) fun a hk => ?_
 refine c_end (x_t ?_)
 refine c_F hk rfl ?_
 refine wS (wR ?_)
 refine q_v hk (w_mv rfl) fun a hk => ?_
 refine q_v hk (w_lt rfl rfl (decide_eq_false (by omega))) fun a hk => ?_
 refine q_v hk (w_mv rfl) fun a hk => ?_
 refine q_v hk (w_mv rfl) fun a hk => ?_
 refine q_v hk (w_gt rfl rfl (decide_eq_false (by omega))) fun a hk => ?_
 refine q_v hk (w_pickF rfl rfl) fun a hk => ?_
 refine q_v hk (w_as rfl) fun a hk => ?_
 refine c_end (x_t ?_)
 refine c_F hk rfl ?_
 refine (wpIn_skip (x_b (x_t ?_)))
 refine wS (wR ?_)
 refine q_v hk (w_mv rfl) fun a hk => ?_
 refine q_call (caps := []) hk rfl rfl Tryz.func80 fo80 rfl rfl (indices_c (thN S) lc la S _ ((hS2).at_ hs) (by omega)) ?_
 rintro _ w ⟨a4, c5, rfl, hS⟩
 have hs := hs.call1 hS
 clear hS
 refine ⟨_, rfl, fun a hk => ?_⟩
 refine q_alc (vs := [.slice none 0 0]) hk hs zr34 rfl rfl rfl fun b6 w a hk hs => ?_
 refine q_sto (o := 0) (cs := [.slice a4 (thN S) c5]) (vs' := [.slice a4 (thN S) c5]) hk hs rfl rfl rfl ty34 rfl rfl rfl rfl rfl rfl fun w hs => ?_
 refine c_end (x_t (wS (wR ?_)))
 refine q_v hk (w_ldA rfl ty120 (.blk (n := 14) (hs.mi 2 rfl) rfl) rfl) fun a hk => ?_
 refine q_v hk (w_mv rfl) fun a hk => ?_
 refine q_v hk (w_conv rfl Tryz.underlying3 Tryz.underlying46 (wru64 (by omega) (by omega))) fun a hk => ?_
 refine q_v hk (w_bldv1 (k := ix) rfl (by omega) (by unfold Go.Proofs.YtdnkkbmpefhbjaaGreatDoor.W; omega) Tryz.underlying47 ty46 zr47) fun a hk => ?_
 refine q_call (caps := []) hk rfl rfl Tryz.func88 fo88 rfl rfl (zto_c (s := s) _ ix (lt255 hi2)) ?_
 rintro _ w ⟨rfl, hb⟩
 have hs := hs.below hb
 refine ⟨_, rfl, fun a hk => ?_⟩
 refine q_alc (vs := [.int .u64 0, .int .u64 0, .int .u64 0, .int .u64 0]) hk hs zr56 rfl rfl rfl fun b7 w a hk hs => ?_
 refine q_sto (o := 0) (cs := [.int .u64 ((dg 0 (mq (zn s ix)) : Nat) : Int), .int .u64 ((dg 1 (mq (zn s ix)) : Nat) : Int), .int .u64 ((dg 2 (mq (zn s ix)) : Nat) : Int), .int .u64 ((dg 3 (mq (zn s ix)) : Nat) : Int)]) (vs' := [.int .u64 ((dg 0 (mq (zn s ix)) : Nat) : Int), .int .u64 ((dg 1 (mq (zn s ix)) : Nat) : Int), .int .u64 ((dg 2 (mq (zn s ix)) : Nat) : Int), .int .u64 ((dg 3 (mq (zn s ix)) : Nat) : Int)]) hk hs rfl rfl rfl ty56 rfl rfl rfl rfl rfl rfl fun w hs => ?_
 refine c_end (x_t (wS (wR ?_)))
 refine q_v hk (w_ld1 rfl ty60 (.blk (n := 1) (hs.mi 5 rfl) rfl)) fun a hk => ?_
 refine q_v hk (w_mv rfl) fun a hk => ?_
 refine q_v hk (w_mkf (frees := [.tmp 3, .tmp 8, .tmp 10, .tmp 11]) rfl) fun a hk => ?_
 have hs := hs.up2
 have hs := hs.rw0 (congrArg (fun q => row 3 1 (.slice a4 (thN S) c5) (thN S) q) g2.xs_eq)
 have hs := hs.frz (r := lst 1 (.slice a4 (thN S) c5) (thN S) (en ic (fun i => ((vI S i : Nat) : Int)) (thN S))) (row_lst (hs.mi 0 rfl)) (fun _ h => h.2)
 have hs := hs.up4
 have hs := hs.frz (r := blk b1 [tval t] 60) (hs.okM _ (.head _)) (fun _ h => h)
 have hs := hs.up2
 have hs := hs.frz (r := blk b3 (fieldL s) 120) (hs.okM _ (.head _)) (fun _ h => h)
 have hs := hs.up1
 have hs := hs.frz (r := blk b6 [.slice a4 (thN S) c5] 34) (hs.okM _ (.head _)) (fun _ h => h)
 have hs := hs.frz (r := blk b7 [.int .u64 ((dg 0 (mq (zn s ix)) : Nat) : Int), .int .u64 ((dg 1 (mq (zn s ix)) : Nat) : Int), .int .u64 ((dg 2 (mq (zn s ix)) : Nat) : Int), .int .u64 ((dg 3 (mq (zn s ix)) : Nat) : Int)] 56) (hs.okM _ (.head _)) (fun _ h => h)
 have hs := hs.up1
 refine q_call (caps := []) hk rfl rfl Tryz.func81 fo81 rfl rfl (each_cm s (thN S) lc la S (89, [.pointer (some ⟨b1, 0, none⟩), .pointer (some ⟨b3, 0, none⟩), .pointer (some ⟨b6, 0, none⟩), .pointer (some ⟨b7, 0, none⟩)]) (atZ s S (thN S) (zn s ix)) (interpE ((thN S) : Int) ++ downE ((thN S) : Int) coefE) (rall [blk b1 [tval t] 60, blk b3 (fieldL s) 120, blk b6 [.slice a4 (thN S) c5] 34, lst 1 (.slice a4 (thN S) c5) (thN S) (en ic (fun i => ((vI S i : Nat) : Int)) (thN S)), blk b7 (vq (mq (zn s ix))) 56]) t evs _ _ hs (hS2.cons.cons.cons.cons.cons) g2 (by omega) hn9 (at_f s S (thN S) c5 b1 b3 b6 b7 a4 (zn s ix) t (by omega) g2) (.rall fun q hq => by simp only [List.mem_cons, List.not_mem_nil, or_false] at hq; rcases hq with rfl | rfl | rfl | rfl | rfl; exact HasR.nth 3 rfl; exact HasR.nth 2 rfl; exact HasR.nth 1 rfl; exact HasR.nth 4 rfl; exact HasR.nth 0 rfl) (by have h1 := interp_len2 (n := (thN S)) (by omega); have h2 := coefD_len (thN S); simp only [List.length_append]; omega) hT (by omega)) ?_
 rintro _ w ⟨r8, a9, c10, rfl, hT, hs⟩
 refine ⟨_, rfl, fun a hk => ?_⟩
 refine q_v hk (w_mv rfl) fun a hk => ?_
 refine q_v hk (w_ext rfl rfl) fun a hk => ?_
 refine q_v hk (w_ext rfl rfl) fun a hk => ?_
 refine q_v hk (w_as rfl) fun a hk => ?_
 refine q_v hk (w_as rfl) fun a hk => ?_
 refine c_end (x_t (wS (wS (wR ?_))))
 refine q_v hk (w_mv rfl) fun a hk => ?_
 refine q_v hk (w_ne rfl rfl (decide_eq_false (by decide))) fun a hk => ?_
 refine c_end (x_t ?_)
 refine c_F hk rfl ?_
 refine (wpIn_skip (x_t ?_))
 refine wS (wR ?_)
 refine q_v hk (w_mv rfl) fun a hk => ?_
 refine q_v hk (w_iaL (k := 0) rfl rfl Tryz.underlying22 ty53 ((share_lst hS2.cons.cons.cons.cons.cons).at_ hs) (by omega) (by omega)) fun a hk => ?_
 refine q_v hk (w_ldA rfl ty53 (lstq (k := 0) ((share_lst hS2.cons.cons.cons.cons.cons).at_ hs) (by omega) (en_chunk shc_len (by omega))) rfl) fun a hk => ?_
 refine q_alc (vs := [.int .i64 0, .int .i64 0, .int .i64 0, .int .i64 0, .slice none 0 0]) hk hs zr53 rfl rfl rfl fun b11 w a hk hs => ?_
 refine q_sto (o := 0) (cs := [.int .i64 ((S 0).F), .int .i64 ((S 0).T), .int .i64 ((S 0).I), .int .i64 ((S 0).L), .slice ((S 0).a) ((S 0).n) ((S 0).c)]) (vs' := [.int .i64 ((S 0).F), .int .i64 ((S 0).T), .int .i64 ((S 0).I), .int .i64 ((S 0).L), .slice ((S 0).a) ((S 0).n) ((S 0).c)]) hk hs rfl rfl rfl ty53 rfl rfl rfl rfl rfl rfl fun w hs => ?_
 refine c_end (x_t (wS (wR ?_)))
 refine q_v hk (w_mv rfl) fun a hk => ?_
 refine q_v hk (w_mv rfl) fun a hk => ?_
 refine q_v hk (w_fa rfl fq53_2 ty3) fun a hk => ?_
 refine q_sto (o := 2) (cs := [.int .i64 ((ix : Nat) : Int)]) (vs' := [.int .i64 ((S 0).F), .int .i64 ((S 0).T), .int .i64 ((ix : Nat) : Int), .int .i64 ((S 0).L), .slice ((S 0).a) ((S 0).n) ((S 0).c)]) hk hs rfl rfl rfl ty3 rfl rfl rfl rfl rfl rfl fun w hs => ?_
 refine q_v hk (w_fa rfl fq53_4 ty51) fun a hk => ?_
 refine q_sto (o := 4) (cs := [.slice a9 ((S 0).n) c10]) (vs' := [.int .i64 ((S 0).F), .int .i64 ((S 0).T), .int .i64 ((ix : Nat) : Int), .int .i64 ((S 0).L), .slice a9 ((S 0).n) c10]) hk hs rfl rfl rfl ty51 rfl rfl rfl rfl rfl rfl fun w hs => ?_
 refine c_end (x_t (wS (wR ?_)))
 refine q_v hk (w_ldA rfl ty53 (.blk (n := 5) (hs.mi 0 rfl) rfl) rfl) fun a hk => ?_
 have hs := hs.up3
 refine q_sto (o := 0) (cs := [.int .i64 ((S 0).F), .int .i64 ((S 0).T), .int .i64 ((ix : Nat) : Int), .int .i64 ((S 0).L), .slice a9 ((S 0).n) c10]) (vs' := [.int .i64 ((S 0).F), .int .i64 ((S 0).T), .int .i64 ((ix : Nat) : Int), .int .i64 ((S 0).L), .slice a9 ((S 0).n) c10]) hk hs rfl rfl rfl ty53 rfl rfl rfl rfl rfl rfl fun w hs => ?_
 refine q_v hk (w_as rfl) fun a hk => ?_
 refine c_end (x_t ?_)
 refine (wpIn_ret ?_)
 refine c_retG (vs := [.agg #[.int .i64 ((S 0).F), .int .i64 ((S 0).T), .int .i64 ((ix : Nat) : Int), .int .i64 ((S 0).L), .slice a9 ((S 0).n) c10], .int .i64 0]) hk rfl ⟨⟨_, rfl, lv_A ty53 (.blk (n := 5) (hs.mi 0 rfl) rfl) rfl⟩, rfl, trivial⟩ rfl ?_
 have hs := hs.drop
 have hs := hs.drop
 have hs := hs.toR (R' := R) (fun r hr => .of (by simp [hr]))
 exact ⟨_, _, _, rfl, hT, hs⟩
end Go.Proofs.YtdnkkbmpefhbjaaGreatDoor
namespace Go.Proofs.YtdnkkbmpefhbjaaGreatDoor
set_option linter.all false
open Go Go.RowKit Go.Shelf
attribute [local go_sem] Oper.semAt_some
/-- A slice of n vectors. -/
structure VecsAt (w : World) (a : Option Addr) (n : Nat) (X : Nat → Nat) : Prop where
  at_ : n = 0 ∨ ∃ b off, a = some ⟨b, off, none⟩ ∧ b < w.heap.size ∧ ∀ i, i < n → ∀ j, j < 4 → w.cell? ⟨b, off + i * 4 + j, none⟩ = some (.int .u64 ((dg j (X i) : Nat) : Int))
theorem VecsAt.below {w w' : World} {a : Option Addr} {n : Nat} {X : Nat → Nat} (h : VecsAt w a n X) (hb : Below w.heap.size w w') : VecsAt w' a n X :=
  ⟨h.at_.imp id fun ⟨b, off, e, hl, hc⟩ => ⟨b, off, e, Nat.lt_of_lt_of_le hl hb.size, fun i hi j hj => (hb.cell (p := ⟨b, off + i * 4 + j, none⟩) hl).trans (hc i hi j hj)⟩⟩
theorem load_elem {W : World} {b p x : Nat} (h : ∀ j, j < 4 → W.cell? ⟨b, p + j, none⟩ = some (.int .u64 ((dg j x : Nat) : Int))) : (Instr.loadAt 56 (.pointer (some ⟨b, p, none⟩))).run Tryz.prog W = .ok (vec x) W := by
  have := run_loadVar_at (P := Tryz.prog) W ⟨b, p, none⟩ 56 (vc x) _ (fun j v hj => by
    have e : (⟨b, p, none⟩ : Addr).add j = ⟨b, p + j, none⟩ := by unfold Addr.add; split <;> simp_all
    rw [e]
    have hj4 : j < 4 := (List.getElem?_eq_some_iff.1 hj).1
    rw [h j hj4, ← hj]
    have h4 : j = 0 ∨ j = 1 ∨ j = 2 ∨ j = 3 := by omega
    rcases h4 with rfl | rfl | rfl | rfl <;> rfl) Tryz.underlying56 rfl (by kernel_rfl)
  simp only [Instr.loadAt, Instr.sureAddr, Sem.run_bind, Sem.run_pure, Result.andThen_ok, this]
  rfl
theorem unpack_ok (s : Bool) (v m : Nat) (hm : m ≤ 31) (hv : v < pr s) (hz : Zf v m) (w : World) :
    Calls Tryz.prog 125 #[fieldV s, vec (RR s v), .int .i64 (m : Int)] w fun e w' => (∃ r, e = .returned r ∧ ∃ g, r = .tuple #[.slice (some ⟨g, 0, none⟩) m m, .int .i64 0] ∧ w.heap.size ≤ g ∧ BytesAt w' g 0 m (byt v)) ∧ Below w.heap.size w w' := by
  refine (unpack_walk s (RR s v) v m hm w (Lib.hid (encode_c s v hv))).mono ?_
  rintro e w' ⟨⟨_, g, rfl, hg, hB⟩ | ⟨hn, _⟩, hb⟩
  · exact ⟨⟨_, rfl, g, rfl, hg, hB⟩, hb⟩
  · exact absurd hz hn
theorem unpack_bad (s : Bool) (v m : Nat) (hm : m ≤ 31) (hv : v < pr s) (hz : ¬ Zf v m) (w : World) :
    Calls Tryz.prog 125 #[fieldV s, vec (RR s v), .int .i64 (m : Int)] w fun e w' => e = .returned (.tuple #[.slice none 0 0, .int .i64 10]) ∧ Below w.heap.size w w' := by
  refine (unpack_walk s (RR s v) v m hm w (Lib.hid (encode_c s v hv))).mono ?_
  rintro e w' ⟨⟨h, _⟩ | ⟨_, rfl⟩, hb⟩
  · exact absurd h hz
  · exact ⟨rfl, hb⟩
/-- The chunks of pre are all well padded; their bytes. -/
def okC (N : Nat) (v : Nat → Nat) (l : List Nat) : Prop := ∀ i ∈ l, Zf (v i) (cz N i)
def byC (N : Nat) (v : Nat → Nat) (l : List Nat) : List Value := l.flatMap fun i => fl (byt (v i)) (cz N i)
theorem byC_snoc (N : Nat) (v : Nat → Nat) (l : List Nat) (i : Nat) : byC N v (l ++ [i]) = byC N v l ++ fl (byt (v i)) (cz N i) := by simp [byC]
theorem okC_snoc {N : Nat} {v : Nat → Nat} {l : List Nat} {i : Nat} : okC N v (l ++ [i]) ↔ okC N v l ∧ Zf (v i) (cz N i) := by
  unfold okC
  constructor
  · exact fun h => ⟨fun j hj => h j (List.mem_append_left _ hj), h i (by simp)⟩
  · rintro ⟨h1, h2⟩ j hj
    rw [List.mem_append, List.mem_singleton] at hj
    rcases hj with hj | rfl
    · exact h1 j hj
    · exact h2
/-- What holds between two rounds: all is well so far and the bytes have come, or something is wrong. -/
def JI (N : Nat) (v : Nat → Nat) (l : List Nat) (xs : List Value) (q : Int) : Prop := (okC N v l ∧ xs = byC N v l ∧ q = 0) ∨ (¬ okC N v l ∧ q = 10)
/-- What Join hands back. -/
def JO (base N : Nat) (v : Nat → Nat) (r : Value) (w : World) : Prop :=
  (okC N v (List.range (cn N)) ∧ ∃ out k, r = .tuple #[out, .int .i64 0] ∧ w.ownsRow base 5 1 out k (byC N v (List.range (cn N)))) ∨ (¬ okC N v (List.range (cn N)) ∧ r = .tuple #[.slice none 0 0, .int .i64 10])
set_option maxRecDepth 100000 in
set_option maxHeartbeats 4000000 in
theorem join_walk (s : Bool) (a : Option Addr) (N c : Nat) (v : Nat → Nat) (hN : N ≤ 65535) (w : World) (HX : Hid (VecsAt w a (cn N) (fun i => RR s (v i)))) (Hv : Hid (∀ i, i < cn N → v i < pr s)) :
    Calls Tryz.prog 86 #[fieldV s, .slice a (cn N) c, .int .i64 (N : Int)] w fun e w' => (∃ r, e = .returned r ∧ JO w.heap.size N v r w') ∧ Below w.heap.size w w' := by
  have hd : decide (0 ≤ (N : Int) ∧ (N : Int) ≤ 65535) = true := by simp; omega
  have Hd := Lib.hid hd
  clear hd
  have hcn : cn (N : Int) ≤ 2115 := by unfold cn; split <;> omega
  obtain ⟨i0, hi, hz0, hz1, hz2⟩ := info_parts infoByte
  have Hi := Lib.hid hi
  have Hz0 := Lib.hid hz0
  have Hz1 := Lib.hid hz1
  have Hz2 := Lib.hid hz2
  clear hi hz0 hz1 hz2
  refine (callsIn_wide (n := 6)).1 ?_
  refine callsIn_of_wp_marks Tryz.func86 rfl trivial ?_ rfl
  simp only [Tryz.ntmps86, List.size_toArray, List.length_cons, List.length_nil, Nat.reduceAdd, Nat.reduceSub, Array.replicate_succ, Array.replicate_zero, List.push_toArray, List.append_toArray, List.nil_append, List.cons_append]
  gi_wp2
  refine ⟨trivial, ?_⟩
  try (refine ⟨(fun h => by cases h), ?_⟩)
  refine CallsIn.mono (callsIn_wide.2 (valid_c _ _)) ?_
  rintro _ _ ⟨rfl, rfl⟩
  rw [Hd.out]
  gi_wp2
  refine wpIn_wide.2 (wp_np ?_)
  refine region_mix 5 [false, false, false, false, false] (fun w' => w' = World.drew _) (by kernel_rfl) (by kernel_rfl) (by intro _ _ d _ _ h; cases d <;> exact h) rfl ?_
  simp only [List.take_succ_cons, List.take_zero, List.drop_succ_cons, List.drop_zero]
  with_reducible refine mix_v ?_ ?_ ?_
  · rfl
  · rfl
  apply Exists.intro
  refine ⟨fun w' hC => ?_, ?_⟩
  · subst hC
    go_simp
    rfl
  try simp only [Act.put, sA, sB, sC, sD]
  with_reducible refine mix_v ?_ ?_ ?_
  · rfl
  · rfl
  apply Exists.intro
  refine ⟨fun w' hC => ?_, ?_⟩
  · subst hC
    go_simp
    rfl
  try simp only [Act.put, sA, sB, sC, sD]
  with_reducible refine mix_v ?_ ?_ ?_
  · rfl
  · rfl
  apply Exists.intro
  refine ⟨fun w' hC => ?_, ?_⟩
  · subst hC
    go_simp
    rfl
  try simp only [Act.put, sA, sB, sC, sD]
  with_reducible refine mix_c ?_ ?_ ?_
  · rfl
  · rfl
  apply Exists.intro
  apply Exists.intro
  apply Exists.intro
  refine ⟨fun w' hC => ?_, fun w' hC => ?_, ?_⟩
  · subst hC
    go_simp
    exact ⟨rfl, rfl⟩
  · subst hC
    exact same_of (count_c _ _)
  try simp only [Act.put, sA, sB, sC, sD]
  with_reducible refine mix_v ?_ ?_ ?_
  · rfl
  · rfl
  apply Exists.intro
  refine ⟨fun w' hC => ?_, ?_⟩
  · subst hC
    go_simp
    rfl
  try simp only [Act.put, sA, sB, sC, sD]
  refine mix_nil ?_
  rintro _ rfl
  go_wp2_with fail
  refine np_normal ?_
  gi_wp2
  refine ⟨trivial, ?_⟩
  try (refine ⟨(fun h => by cases h), ?_⟩)
  refine CallsIn.mono (callsIn_wide.2 (bounds_c _ _)) ?_
  rintro _ _ ⟨rfl, rfl⟩
  gi_wp2
  obtain ⟨b0, e0⟩ : ∃ b, b = w.heap.size := ⟨_, rfl⟩
  obtain ⟨b1, e1⟩ : ∃ b, b = b0 + 1 := ⟨_, rfl⟩
  obtain ⟨b2, e2⟩ : ∃ b, b = b1 + 1 := ⟨_, rfl⟩
  obtain ⟨b3, e3⟩ : ∃ b, b = b2 + 1 := ⟨_, rfl⟩
  obtain ⟨b4, e4⟩ : ∃ b, b = b3 + 1 := ⟨_, rfl⟩
  rw [← e0, ← e1, ← e2, ← e3, ← e4]
  refine wpi_name ?_
  intro W0 hW
  have hk0 : Blk W0 b0 (fieldA s) 120 ∧ Blk W0 b1 #[.slice a (cn (N : Int)) c] 51 ∧ Blk W0 b2 #[.slice none 0 0] 42 ∧ Blk W0 b3 #[.int .i64 0] 25 ∧ Blk W0 b4 #[.int .i64 (N : Int)] 3 ∧ W0.heap.size = b4 + 1 ∧ Below w.heap.size w W0 := by
    rw [hW]
    refine ⟨(((((Blk.new (by first | exact e0 | (simp only [World.size_alloc]; omega))).alloc _).alloc _).alloc _).alloc _), ((((Blk.new (by first | exact e0 | (simp only [World.size_alloc]; omega))).alloc _).alloc _).alloc _), (((Blk.new (by first | exact e0 | (simp only [World.size_alloc]; omega))).alloc _).alloc _), ((Blk.new (by first | exact e0 | (simp only [World.size_alloc]; omega))).alloc _), (Blk.new (by first | exact e0 | (simp only [World.size_alloc]; omega))), by simp only [World.size_drew, World.size_alloc]; omega, ?_⟩
    have := e0
    exact (by repeat first | with_reducible exact Below.refl _ _ | with_reducible refine Below.drew ?_ | with_reducible refine below_dN ?_ | with_reducible refine Below.alloc ?_ (by first | omega | (simp; done) | (simp; omega)) _ | with_reducible refine Below.setCell ?_ (by first | omega | (simp; done) | (simp; omega)) _ | with_reducible refine Below.trans ?_ (Below.mono (by assumption) (by first | omega | (simp; done) | (simp; omega))))
  obtain ⟨k0, k1, k2, k3, k4, hsz, hBW⟩ := hk0
  rw [← e0] at hBW
  have HW := Lib.hid (And.intro hsz (And.intro e0 (And.intro e1 (And.intro e2 (And.intro e3 e4)))))
  have lb01 : b0 < b1 := by omega
  have lb12 : b1 < b2 := by omega
  have lb23 : b2 < b3 := by omega
  have lb34 : b3 < b4 := by omega
  have lW : b4 < W0.heap.size := by omega
  have hw0 : w.heap.size ≤ b0 := by omega
  have hb0 : b0 ≤ w.heap.size := by omega
  clear hW hsz e0 e1 e2 e3 e4
  refine wpIn_rangeFunc_ownG rfl (by decide) (gf := 153) (lb := #[.pointer (some ⟨b4, 0, none⟩)]) rfl trivial (enters_of Tryz.func153 (by kernel_rfl) rfl)
    (bounds_stops 5 (by decide) N b4 hN W0 k4.lt (k4.cell rfl)) KB_t (KB_b (by omega)) (Below.refl _ _) (fun _ => rfl)
    (fun pre W => (Blk W b0 (fieldA s) 120 ∧ Blk W b1 #[.slice a (cn (N : Int)) c] 51 ∧ Blk W b4 #[.int .i64 (N : Int)] 3 ∧
      (∃ out k xs q, Blk W b2 #[out] 42 ∧ Blk W b3 #[.int .i64 q] 25 ∧ W.ownsRow b0 5 1 out k xs ∧ k ≤ 31 * pre.length ∧ JI N v (pre.map fun i => i.val) xs q)) ∧ Below b0 w W)
    (fun _ _ _ => False)
    (OwnFrom.and (fun pre A B row hs hg hr => ⟨hs.1.kept hg (fun r e => (hr r e).2), hs.2.1.kept hg (fun r e => (hr r e).2), hs.2.2.1.kept hg (fun r e => (hr r e).2), by
      obtain ⟨out, k, xs, q, h1, h2, h3, h4⟩ := hs.2.2.2
      exact ⟨out, k, xs, q, h1.kept hg (fun r e => (hr r e).2), h2.kept hg (fun r e => (hr r e).2), row_kept h3 hg (fun r e => (hr r e).2), h4⟩⟩) (ownFrom_below (by omega) (by omega)))
    (fun _ _ _ _ _ hs _ _ => hs)
    ⟨⟨k0, k1, k4, _, 0, [], 0, k2, k3, World.ownsRow_nil _ _ _ _, by omega, .inl ⟨(fun _ h => by cases h), rfl, rfl⟩⟩, hBW⟩
    (fun x => { tmps := #[fieldV s, .slice a (cn (N : Int)) c, .int .i64 (N : Int), .pointer (some ⟨b0, 0, none⟩), .pointer (some ⟨b1, 0, none⟩), undef, .slice none 0 0, .int .i64 0, .pointer (some ⟨b2, 0, none⟩), .pointer (some ⟨b3, 0, none⟩), .int .i64 ((x.val : Nat) : Int), .int .i64 ((cz N x.val : Nat) : Int), undef, undef, .bool false, .int .i64 (N : Int), .bool true, .bool false, .bool false, .slice a (cn (N : Int)) c, .int .i64 ((cn (N : Int) : Nat) : Int), .int .i64 (N : Int), .int .i64 ((cn (N : Int) : Nat) : Int), .bool false, .int .i64 (N : Int), .func (.func 153) #[] #[.pointer (some ⟨b4, 0, none⟩)], .int .i64 ((x.val : Nat) : Int), .int .i64 ((cz N x.val : Nat) : Int), undef, undef, undef, undef, undef, undef, undef, undef, undef, undef, undef, undef, undef, undef, undef, undef, undef, undef, undef, undef], defers := [] }) ?assign ?body ?done ?stop
  case assign =>
    intro l x W K hK
    gi_wp2
    exact hK
  case body =>
    rintro l pre x W ⟨⟨j0, j1, j4, out, k, xs, q, j2, j3, ho, hk, hJ⟩, hB⟩ hpre
    have hxn := x.isLt
    have hpre2 : pre.length < 2115 := by omega
    clear hpre
    obtain ⟨be, off, rfl, hbe, hcell⟩ := HX.out.at_.resolve_left (by omega)
    obtain ⟨m, em⟩ : ∃ m, m = cz N x.val := ⟨_, rfl⟩
    have hm31 : m ≤ 31 := by rw [em]; unfold cz; omega
    obtain ⟨i, ei⟩ : ∃ i, i = x.val := ⟨_, rfl⟩
    have hi2 : i < cn (N : Int) := by omega
    have hi3 : (i : Int) < ((cn (N : Int) : Nat) : Int) := by omega
    obtain ⟨y, ey⟩ : ∃ y, y = v i := ⟨_, rfl⟩
    have hy : y < pr s := by rw [ey]; exact Hv.out i hi2
    have hcx : ∀ j, j < 4 → W.cell? ⟨be, off + i * 4 + j, none⟩ = some (.int .u64 ((dg j (RR s y) : Nat) : Int)) := fun j hj => (hB.cell (p := ⟨be, off + i * 4 + j, none⟩) (by show be < b0; omega)).trans (by rw [ey]; exact hcell i hi2 j hj)
    have Hcx := Lib.hid hcx
    rw [← em, ← ei]
    have HI := Lib.hid (And.intro em (And.intro ei ey))
    have c1 := j1.cell (j := 0) rfl
    have lw0 := j0.lt
    have lw1 := j1.lt
    have lw2 := j2.lt
    have lw3 := j3.lt
    have lw4 := j4.lt
    have lwe : be < W.heap.size := by have := hB.size; omega
    have HJ := Lib.hid (And.intro j0 (And.intro j1 (And.intro j4 (And.intro j2 (And.intro j3 (And.intro ho (And.intro hk (And.intro hJ hB))))))))
    clear em ei ey hcx hcell j0 j1 j2 j3 j4 ho hk hJ hB hxn
    by_cases hz : Zf y m
    · have Hz := Lib.hid hz
      clear hz
      gi_wp2
      refine heldr_begin 12 [b0, b1, be] (by kernel_rfl) rfl (by intro _ _ d _ _ h; cases d <;> exact h) ?_
      intro hQ hK
      with_reducible apply heldr_v (n := 11) 0
      · rfl
      · kernel_rfl
      · kernel_rfl
      · kernel_rfl
      · exact hQ
      · with_reducible exact hK
      · rfl
      apply Exists.intro
      refine ⟨fun w' hC => ?_, ?_⟩
      · have k0_ := hC (b0) (by simp only [List.mem_cons, true_or, or_true])
        have k1_ := hC (b1) (by simp only [List.mem_cons, true_or, or_true])
        have k2_ := hC (be) (by simp only [List.mem_cons, true_or, or_true])
        clear hC
        have hl := load_field s (W := w') (b := b0) (fun j v hj => (k0_ j).trans (HJ.out.1.cell hj))
        exact exec_load rfl rfl hl
      try simp only [Act.put, sA, sB, sC, sD]
      with_reducible apply heldr_v (n := 10) 1
      · rfl
      · kernel_rfl
      · kernel_rfl
      · kernel_rfl
      · exact hQ
      · with_reducible exact hK
      · rfl
      apply Exists.intro
      refine ⟨fun w' hC => ?_, ?_⟩
      · have k0_ := hC (b0) (by simp only [List.mem_cons, true_or, or_true])
        have k1_ := hC (b1) (by simp only [List.mem_cons, true_or, or_true])
        have k2_ := hC (be) (by simp only [List.mem_cons, true_or, or_true])
        clear hC
        go_simp
        rfl
      try simp only [Act.put, sA, sB, sC, sD]
      with_reducible apply heldr_v (n := 9) 2
      · rfl
      · kernel_rfl
      · kernel_rfl
      · kernel_rfl
      · exact hQ
      · with_reducible exact hK
      · rfl
      apply Exists.intro
      refine ⟨fun w' hC => ?_, ?_⟩
      · have k0_ := hC (b0) (by simp only [List.mem_cons, true_or, or_true])
        have k1_ := hC (b1) (by simp only [List.mem_cons, true_or, or_true])
        have k2_ := hC (be) (by simp only [List.mem_cons, true_or, or_true])
        clear hC
        go_simp
        rfl
      try simp only [Act.put, sA, sB, sC, sD]
      with_reducible apply heldr_v (n := 8) 3
      · rfl
      · kernel_rfl
      · kernel_rfl
      · kernel_rfl
      · exact hQ
      · with_reducible exact hK
      · rfl
      apply Exists.intro
      refine ⟨fun w' hC => ?_, ?_⟩
      · have k0_ := hC (b0) (by simp only [List.mem_cons, true_or, or_true])
        have k1_ := hC (b1) (by simp only [List.mem_cons, true_or, or_true])
        have k2_ := hC (be) (by simp only [List.mem_cons, true_or, or_true])
        clear hC
        go_simp
        rfl
      try simp only [Act.put, sA, sB, sC, sD]
      with_reducible apply heldr_v (n := 7) 4
      · rfl
      · kernel_rfl
      · kernel_rfl
      · kernel_rfl
      · exact hQ
      · with_reducible exact hK
      · rfl
      apply Exists.intro
      refine ⟨fun w' hC => ?_, ?_⟩
      · have k0_ := hC (b0) (by simp only [List.mem_cons, true_or, or_true])
        have k1_ := hC (b1) (by simp only [List.mem_cons, true_or, or_true])
        have k2_ := hC (be) (by simp only [List.mem_cons, true_or, or_true])
        clear hC
        have hl := load_elem (W := w') (b := be) (p := off + i * 4) (x := RR s y) (fun j hj => (k2_ (off + i * 4 + j)).trans (Hcx.out j hj))
        exact exec_load rfl rfl hl
      try simp only [Act.put, sA, sB, sC, sD]
      with_reducible apply heldr_v (n := 6) 5
      · rfl
      · kernel_rfl
      · kernel_rfl
      · kernel_rfl
      · exact hQ
      · with_reducible exact hK
      · rfl
      apply Exists.intro
      refine ⟨fun w' hC => ?_, ?_⟩
      · have k0_ := hC (b0) (by simp only [List.mem_cons, true_or, or_true])
        have k1_ := hC (b1) (by simp only [List.mem_cons, true_or, or_true])
        have k2_ := hC (be) (by simp only [List.mem_cons, true_or, or_true])
        clear hC
        go_simp
        rfl
      try simp only [Act.put, sA, sB, sC, sD]
      with_reducible apply heldr_callx (n := 5) 6
      · rfl
      · kernel_rfl
      · rfl
      · with_reducible exact hK
      apply Exists.intro
      apply Exists.intro
      apply Exists.intro
      refine ⟨?_, ?_, ?_, ?_⟩
      · go_simp
        exact ⟨rfl, rfl⟩
      · exact unpack_ok s y m hm31 hy Hz.out _
      · intro b hb
        simp only [List.mem_cons, List.not_mem_nil, or_false] at hb
        rcases hb with rfl | rfl | rfl <;> first | omega | (simp; done) | (simp; omega)
      rintro r6 v6 ⟨g6, rfl, hg6, hB6⟩ h6 hK
      obtain ⟨c6, f6, s6⟩ := bfacts h6
      try simp only [World.size_alloc, World.size_setCell, size_drew, size_drewN] at s6
      try simp only [Act.put, sA, sB, sC, sD]
      with_reducible apply heldr_v (n := 4) 7
      · rfl
      · kernel_rfl
      · kernel_rfl
      · kernel_rfl
      · exact hQ
      · with_reducible exact hK
      · rfl
      apply Exists.intro
      refine ⟨fun w' hC => ?_, ?_⟩
      · have k0_ := hC (b0) (by simp only [List.mem_cons, true_or, or_true])
        have k1_ := hC (b1) (by simp only [List.mem_cons, true_or, or_true])
        have k2_ := hC (be) (by simp only [List.mem_cons, true_or, or_true])
        clear hC
        go_simp
        rfl
      try simp only [Act.put, sA, sB, sC, sD]
      with_reducible apply heldr_v (n := 3) 8
      · rfl
      · kernel_rfl
      · kernel_rfl
      · kernel_rfl
      · exact hQ
      · with_reducible exact hK
      · rfl
      apply Exists.intro
      refine ⟨fun w' hC => ?_, ?_⟩
      · have k0_ := hC (b0) (by simp only [List.mem_cons, true_or, or_true])
        have k1_ := hC (b1) (by simp only [List.mem_cons, true_or, or_true])
        have k2_ := hC (be) (by simp only [List.mem_cons, true_or, or_true])
        clear hC
        go_simp
        rfl
      try simp only [Act.put, sA, sB, sC, sD]
      with_reducible apply heldr_v (n := 2) 9
      · rfl
      · kernel_rfl
      · kernel_rfl
      · kernel_rfl
      · exact hQ
      · with_reducible exact hK
      · rfl
      apply Exists.intro
      refine ⟨fun w' hC => ?_, ?_⟩
      · have k0_ := hC (b0) (by simp only [List.mem_cons, true_or, or_true])
        have k1_ := hC (b1) (by simp only [List.mem_cons, true_or, or_true])
        have k2_ := hC (be) (by simp only [List.mem_cons, true_or, or_true])
        clear hC
        go_simp
        rfl
      try simp only [Act.put, sA, sB, sC, sD]
      with_reducible apply heldr_v (n := 1) 10
      · rfl
      · kernel_rfl
      · kernel_rfl
      · kernel_rfl
      · exact hQ
      · with_reducible exact hK
      · rfl
      apply Exists.intro
      refine ⟨fun w' hC => ?_, ?_⟩
      · have k0_ := hC (b0) (by simp only [List.mem_cons, true_or, or_true])
        have k1_ := hC (b1) (by simp only [List.mem_cons, true_or, or_true])
        have k2_ := hC (be) (by simp only [List.mem_cons, true_or, or_true])
        clear hC
        go_simp
        rfl
      try simp only [Act.put, sA, sB, sC, sD]
      with_reducible apply heldr_v (n := 0) 11
      · rfl
      · kernel_rfl
      · kernel_rfl
      · kernel_rfl
      · exact hQ
      · with_reducible exact hK
      · rfl
      apply Exists.intro
      refine ⟨fun w' hC => ?_, ?_⟩
      · have k0_ := hC (b0) (by simp only [List.mem_cons, true_or, or_true])
        have k1_ := hC (b1) (by simp only [List.mem_cons, true_or, or_true])
        have k2_ := hC (be) (by simp only [List.mem_cons, true_or, or_true])
        clear hC
        go_simp
        rfl
      try simp only [Act.put, sA, sB, sC, sD]
      refine heldr_end (by kernel_rfl) ?_
      clear hK hQ
      have hB8 : Below W.heap.size W v6 := (by repeat first | with_reducible exact Below.refl _ _ | with_reducible refine Below.drew ?_ | with_reducible refine below_dN ?_ | with_reducible refine Below.alloc ?_ (by first | omega | (simp; done) | (simp; omega)) _ | with_reducible refine Below.setCell ?_ (by first | omega | (simp; done) | (simp; omega)) _ | with_reducible refine Below.trans ?_ (Below.mono (by assumption) (by first | omega | (simp; done) | (simp; omega))))
      obtain ⟨j0, j1, j4, j2, j3, ho, hk, hJ, hB⟩ := HJ.out
      obtain ⟨ao, co, rfl⟩ := row_slice2 ho
      have y2 := (j2.below hB8 lw2).cell (j := 0) rfl
      have Ho8 := Lib.hid (row_below ho hB8)
      have HB8 := Lib.hid hB8
      have HB6 := Lib.hid hB6
      have hk2 : k ≤ 65565 := by omega
      have hs8 := hB8.size
      clear hB8 hB6 j0 j1 j2 j3 j4 ho hB hJ c1 c6 f6 h6
      gi_wp2_with (gi_at_builtin; refine wpListIn_append_own _ rfl (.tmp 41) (.tmp 42) 42 rfl b0 5 i0 _ 1 1 Tryz.underlying42 Hi.out Hz0.out Hz1.out Hz2.out rfl (by decide) (.slice ao k co) k xs rfl Ho8.out ⟨g6, 0, none⟩ m m (fl (byt y) m) rfl (by rw [fl_length, Nat.mul_one]) (bytes_src HB6.out) (fl_one1 _ _) (by unfold maxLen; omega) (by omega) (by omega) ?_; intro v' w9 own9 grow9 _; obtain ⟨a9, c9, rfl⟩ := row_slice2 own9; obtain ⟨j0, j1, j4, j2, j3, ho, hk', hJ, hB⟩ := HJ.out; have HWr := Lib.hid (((Wrote.refl W b2 (Value.slice ao k co).ownBlock).step HB8.out).grown grow9); have Own9 := Lib.hid own9; have Hne := Lib.hid (row_ne ho j2 rfl); have b8 := j2.below HB8.out lw2; have b9 := b8.same (grow9.block b2 b8.lt (fun e => Hne.out e.symm)); have B9 := Lib.hid b9; have y9 := b9.cell (j := 0) rfl; have z9 := b9.fz 0; clear own9 grow9 b8 b9 j0 j1 j2 j3 j4 ho hk' hJ hB y2)
      obtain ⟨j0, j1, j4, j2, j3, ho, hk', hJ, hB⟩ := HJ.out
      have hW2 := HWr.out.set 0 (.slice a9 (k + m) c9)
      have own := row_other (p := b2) (j := 0) (u := .slice a9 (k + m) c9) Own9.out (row_ne Own9.out B9.out rfl)
      refine ⟨hW2.keeps j2 (row_cells ho), hW2.block b4 lw4 (by omega) (fun e => row_ne ho j4 rfl e.symm), ⟨j0.same (hW2.block b0 lw0 (by omega) (fun e => row_ne ho j0 rfl e.symm)), j1.same (hW2.block b1 lw1 (by omega) (fun e => row_ne ho j1 rfl e.symm)),
        j4.same (hW2.block b4 lw4 (by omega) (fun e => row_ne ho j4 rfl e.symm)), _, k + m, _, q, B9.out.set, j3.same (hW2.block b3 lw3 (by omega) (fun e => row_ne ho j3 rfl e.symm)), own, by rw [List.length_append]; simp only [List.length_cons, List.length_nil]; omega, ?_⟩, ?_⟩
      · rw [List.map_append, List.map_cons, List.map_nil]
        have hz : Zf (v x.val) (cz N x.val) := by rw [← HI.out.1, ← HI.out.2.1, ← HI.out.2.2]; exact Hz.out
        rcases hJ with ⟨h1, h2, h3⟩ | ⟨h1, h2⟩
        · refine .inl ⟨okC_snoc.2 ⟨h1, hz⟩, ?_, h3⟩
          rw [byC_snoc, ← h2, ← HI.out.1, ← HI.out.2.1, ← HI.out.2.2]
        · exact .inr ⟨fun h => h1 (okC_snoc.1 h).1, h2⟩
      · exact hB.trans (hW2.below (by omega) (by omega) (fun k hk => (ho.lt k hk).1))
    · have Hz := Lib.hid hz
      clear hz
      gi_wp2
      refine heldr_begin 12 [b0, b1, be] (by kernel_rfl) rfl (by intro _ _ d _ _ h; cases d <;> exact h) ?_
      intro hQ hK
      with_reducible apply heldr_v (n := 11) 0
      · rfl
      · kernel_rfl
      · kernel_rfl
      · kernel_rfl
      · exact hQ
      · with_reducible exact hK
      · rfl
      apply Exists.intro
      refine ⟨fun w' hC => ?_, ?_⟩
      · have k0_ := hC (b0) (by simp only [List.mem_cons, true_or, or_true])
        have k1_ := hC (b1) (by simp only [List.mem_cons, true_or, or_true])
        have k2_ := hC (be) (by simp only [List.mem_cons, true_or, or_true])
        clear hC
        have hl := load_field s (W := w') (b := b0) (fun j v hj => (k0_ j).trans (HJ.out.1.cell hj))
        exact exec_load rfl rfl hl
      try simp only [Act.put, sA, sB, sC, sD]
      with_reducible apply heldr_v (n := 10) 1
      · rfl
      · kernel_rfl
      · kernel_rfl
      · kernel_rfl
      · exact hQ
      · with_reducible exact hK
      · rfl
      apply Exists.intro
      refine ⟨fun w' hC => ?_, ?_⟩
      · have k0_ := hC (b0) (by simp only [List.mem_cons, true_or, or_true])
        have k1_ := hC (b1) (by simp only [List.mem_cons, true_or, or_true])
        have k2_ := hC (be) (by simp only [List.mem_cons, true_or, or_true])
        clear hC
        go_simp
        rfl
      try simp only [Act.put, sA, sB, sC, sD]
      with_reducible apply heldr_v (n := 9) 2
      · rfl
      · kernel_rfl
      · kernel_rfl
      · kernel_rfl
      · exact hQ
      · with_reducible exact hK
      · rfl
      apply Exists.intro
      refine ⟨fun w' hC => ?_, ?_⟩
      · have k0_ := hC (b0) (by simp only [List.mem_cons, true_or, or_true])
        have k1_ := hC (b1) (by simp only [List.mem_cons, true_or, or_true])
        have k2_ := hC (be) (by simp only [List.mem_cons, true_or, or_true])
        clear hC
        go_simp
        rfl
      try simp only [Act.put, sA, sB, sC, sD]
      with_reducible apply heldr_v (n := 8) 3
      · rfl
      · kernel_rfl
      · kernel_rfl
      · kernel_rfl
      · exact hQ
      · with_reducible exact hK
      · rfl
      apply Exists.intro
      refine ⟨fun w' hC => ?_, ?_⟩
      · have k0_ := hC (b0) (by simp only [List.mem_cons, true_or, or_true])
        have k1_ := hC (b1) (by simp only [List.mem_cons, true_or, or_true])
        have k2_ := hC (be) (by simp only [List.mem_cons, true_or, or_true])
        clear hC
        go_simp
        rfl
      try simp only [Act.put, sA, sB, sC, sD]
      with_reducible apply heldr_v (n := 7) 4
      · rfl
      · kernel_rfl
      · kernel_rfl
      · kernel_rfl
      · exact hQ
      · with_reducible exact hK
      · rfl
      apply Exists.intro
      refine ⟨fun w' hC => ?_, ?_⟩
      · have k0_ := hC (b0) (by simp only [List.mem_cons, true_or, or_true])
        have k1_ := hC (b1) (by simp only [List.mem_cons, true_or, or_true])
        have k2_ := hC (be) (by simp only [List.mem_cons, true_or, or_true])
        clear hC
        have hl := load_elem (W := w') (b := be) (p := off + i * 4) (x := RR s y) (fun j hj => (k2_ (off + i * 4 + j)).trans (Hcx.out j hj))
        exact exec_load rfl rfl hl
      try simp only [Act.put, sA, sB, sC, sD]
      with_reducible apply heldr_v (n := 6) 5
      · rfl
      · kernel_rfl
      · kernel_rfl
      · kernel_rfl
      · exact hQ
      · with_reducible exact hK
      · rfl
      apply Exists.intro
      refine ⟨fun w' hC => ?_, ?_⟩
      · have k0_ := hC (b0) (by simp only [List.mem_cons, true_or, or_true])
        have k1_ := hC (b1) (by simp only [List.mem_cons, true_or, or_true])
        have k2_ := hC (be) (by simp only [List.mem_cons, true_or, or_true])
        clear hC
        go_simp
        rfl
      try simp only [Act.put, sA, sB, sC, sD]
      with_reducible apply heldr_call (n := 5) 6
      · rfl
      · kernel_rfl
      · rfl
      · with_reducible exact hK
      apply Exists.intro
      apply Exists.intro
      apply Exists.intro
      refine ⟨?_, ?_, ?_, ?_⟩
      · go_simp
        exact ⟨rfl, rfl⟩
      · exact unpack_bad s y m hm31 hy Hz.out _
      · intro b hb
        simp only [List.mem_cons, List.not_mem_nil, or_false] at hb
        rcases hb with rfl | rfl | rfl <;> first | omega | (simp; done) | (simp; omega)
      intro v6 h6 hK
      obtain ⟨c6, f6, s6⟩ := bfacts h6
      try simp only [World.size_alloc, World.size_setCell, size_drew, size_drewN] at s6
      try simp only [Act.put, sA, sB, sC, sD]
      with_reducible apply heldr_v (n := 4) 7
      · rfl
      · kernel_rfl
      · kernel_rfl
      · kernel_rfl
      · exact hQ
      · with_reducible exact hK
      · rfl
      apply Exists.intro
      refine ⟨fun w' hC => ?_, ?_⟩
      · have k0_ := hC (b0) (by simp only [List.mem_cons, true_or, or_true])
        have k1_ := hC (b1) (by simp only [List.mem_cons, true_or, or_true])
        have k2_ := hC (be) (by simp only [List.mem_cons, true_or, or_true])
        clear hC
        go_simp
        rfl
      try simp only [Act.put, sA, sB, sC, sD]
      with_reducible apply heldr_v (n := 3) 8
      · rfl
      · kernel_rfl
      · kernel_rfl
      · kernel_rfl
      · exact hQ
      · with_reducible exact hK
      · rfl
      apply Exists.intro
      refine ⟨fun w' hC => ?_, ?_⟩
      · have k0_ := hC (b0) (by simp only [List.mem_cons, true_or, or_true])
        have k1_ := hC (b1) (by simp only [List.mem_cons, true_or, or_true])
        have k2_ := hC (be) (by simp only [List.mem_cons, true_or, or_true])
        clear hC
        go_simp
        rfl
      try simp only [Act.put, sA, sB, sC, sD]
      with_reducible apply heldr_v (n := 2) 9
      · rfl
      · kernel_rfl
      · kernel_rfl
      · kernel_rfl
      · exact hQ
      · with_reducible exact hK
      · rfl
      apply Exists.intro
      refine ⟨fun w' hC => ?_, ?_⟩
      · have k0_ := hC (b0) (by simp only [List.mem_cons, true_or, or_true])
        have k1_ := hC (b1) (by simp only [List.mem_cons, true_or, or_true])
        have k2_ := hC (be) (by simp only [List.mem_cons, true_or, or_true])
        clear hC
        go_simp
        rfl
      try simp only [Act.put, sA, sB, sC, sD]
      with_reducible apply heldr_v (n := 1) 10
      · rfl
      · kernel_rfl
      · kernel_rfl
      · kernel_rfl
      · exact hQ
      · with_reducible exact hK
      · rfl
      apply Exists.intro
      refine ⟨fun w' hC => ?_, ?_⟩
      · have k0_ := hC (b0) (by simp only [List.mem_cons, true_or, or_true])
        have k1_ := hC (b1) (by simp only [List.mem_cons, true_or, or_true])
        have k2_ := hC (be) (by simp only [List.mem_cons, true_or, or_true])
        clear hC
        go_simp
        rfl
      try simp only [Act.put, sA, sB, sC, sD]
      with_reducible apply heldr_v (n := 0) 11
      · rfl
      · kernel_rfl
      · kernel_rfl
      · kernel_rfl
      · exact hQ
      · with_reducible exact hK
      · rfl
      apply Exists.intro
      refine ⟨fun w' hC => ?_, ?_⟩
      · have k0_ := hC (b0) (by simp only [List.mem_cons, true_or, or_true])
        have k1_ := hC (b1) (by simp only [List.mem_cons, true_or, or_true])
        have k2_ := hC (be) (by simp only [List.mem_cons, true_or, or_true])
        clear hC
        go_simp
        rfl
      try simp only [Act.put, sA, sB, sC, sD]
      refine heldr_end (by kernel_rfl) ?_
      clear hK hQ
      have hB8 : Below W.heap.size W v6 := (by repeat first | with_reducible exact Below.refl _ _ | with_reducible refine Below.drew ?_ | with_reducible refine below_dN ?_ | with_reducible refine Below.alloc ?_ (by first | omega | (simp; done) | (simp; omega)) _ | with_reducible refine Below.setCell ?_ (by first | omega | (simp; done) | (simp; omega)) _ | with_reducible refine Below.trans ?_ (Below.mono (by assumption) (by first | omega | (simp; done) | (simp; omega))))
      obtain ⟨j0, j1, j4, j2, j3, ho, hk, hJ, hB⟩ := HJ.out
      obtain ⟨ao, co, rfl⟩ := row_slice2 ho
      have y2 := (j2.below hB8 lw2).cell (j := 0) rfl
      have z2 := (j2.below hB8 lw2).fz 0
      have y3 := (j3.below hB8 lw3).cell (j := 0) rfl
      have z3 := (j3.below hB8 lw3).fz 0
      have Ho8 := Lib.hid (row_other (p := b3) (j := 0) (u := .int .i64 10) (row_below ho hB8) (row_ne ho j3 rfl))
      have HB8 := Lib.hid hB8
      have hs8 := hB8.size
      clear hB8 j0 j1 j2 j3 j4 ho hk hB hJ c1 c6 f6 h6
      gi_wp2_with (gi_at_builtin; refine wpListIn_append_none _ rfl (.tmp 41) (.tmp 42) 42 rfl b0 5 i0 1 Tryz.underlying42 Hi.out (.slice ao k co) k xs rfl Ho8.out rfl ?_)
      obtain ⟨j0, j1, j4, j2, j3, ho, hk, hJ, hB⟩ := HJ.out
      have hW2 := (((Wrote.refl W b2 (some b3)).step HB8.out).setr 0 (.int .i64 10)).set 0 (.slice ao k co)
      have p2 := (j2.below HB8.out lw2).other (p := b3) (j := 0) (u := .int .i64 10) (by omega)
      have p3 := ((j3.below HB8.out lw3).set (u := .int .i64 10)).other (p := b2) (j := 0) (u := .slice ao k co) (by omega)
      have own := row_other (p := b2) (j := 0) (u := .slice ao k co) Ho8.out (row_ne Ho8.out p2 rfl)
      refine ⟨hW2.keeps j2 (fun k e => by cases e; exact ⟨_, j3, rfl⟩), hW2.block b4 lw4 (by omega) (fun e => by cases e; omega), ⟨j0.same (hW2.block b0 lw0 (by omega) (fun e => by cases e; omega)), j1.same (hW2.block b1 lw1 (by omega) (fun e => by cases e; omega)),
        j4.same (hW2.block b4 lw4 (by omega) (fun e => by cases e; omega)), _, k, xs, 10, p2.set, p3, own, by rw [List.length_append]; simp only [List.length_cons, List.length_nil]; omega, ?_⟩, ?_⟩
      · rw [List.map_append, List.map_cons, List.map_nil]
        refine .inr ⟨fun h => Hz.out ?_, rfl⟩
        have := (okC_snoc.1 h).2
        rwa [← HI.out.1, ← HI.out.2.1, ← HI.out.2.2] at this
      · exact hB.trans (hW2.below (by omega) (by omega) (fun k e => by cases e; omega))
  case done =>
    rintro D ys W hD rfl ⟨⟨j0, j1, j4, out, k, xs, q, j2, j3, ho, hk, hJ⟩, hB⟩ hK
    obtain ⟨ao, co, rfl⟩ := row_slice2 ho
    have y2 := j2.cell (j := 0) rfl
    have y3 := j3.cell (j := 0) rfl
    have lW4 := j4.lt
    have HJ := Lib.hid (And.intro ho (And.intro hB hJ))
    have HK := Lib.hid hK
    clear j0 j1 j2 j3 j4 ho hB hK hk
    rcases hJ with ⟨h1, h2, rfl⟩ | ⟨h1, rfl⟩
    · have H1 := Lib.hid (And.intro h1 h2)
      clear h1 h2
      gi_wp2
      obtain ⟨ho, hB, _⟩ := HJ.out
      refine ⟨by simp, .inl ⟨_, _, rfl, run_takeDeferred HK.out, ?_⟩⟩
      have hr : ∀ r, some D = some r → ∃ o : Obj, W.heap[r]? = some o ∧ o.isCells = false := fun r e => by cases e; exact ⟨_, HK.out, rfl⟩
      have hg := grownBy_putObj' W D (.deferred none)
      have o1 := row_kept ho hg hr
      have em : (upF (cn (N : Int)) (cn (N : Int))).map (fun i => i.val) = List.range (cn (N : Int)) := (upF_map (cn (N : Int)) fun i => i).trans (List.map_id' _)
      refine ⟨.tuple #[.slice ao k co, .int .i64 0], ?_, ⟨_, rfl, .inl ⟨?_, _, k, rfl, ?_⟩⟩, ?_⟩
      · simp only [results, Tryz.results86]
        go_simp
      · have := H1.out.1
        rw [em] at this
        exact this
      · have h2 := H1.out.2
        rw [em] at h2
        rw [← h2, show w.heap.size = b0 by omega]
        exact o1
      · rw [show w.heap.size = b0 by omega]
        exact hB.grown hg (by show b0 ≤ W.heap.size; omega) (fun k e => by cases e; omega)
    · have H1 := Lib.hid h1
      clear h1
      gi_wp2
      refine wpIn_wide.2 (wp_np ?_)
      refine region_mix 2 [false, false] (fun w' => w' = World.drew _) (by kernel_rfl) (by kernel_rfl) (by intro _ _ d _ _ h; cases d <;> exact h) rfl ?_
      simp only [List.take_succ_cons, List.take_zero, List.drop_succ_cons, List.drop_zero]
      with_reducible refine mix_v ?_ ?_ ?_
      · rfl
      · rfl
      apply Exists.intro
      refine ⟨fun w' hC => ?_, ?_⟩
      · subst hC
        go_simp
        rfl
      try simp only [Act.put, sA, sB, sC, sD]
      with_reducible refine mix_v ?_ ?_ ?_
      · rfl
      · rfl
      apply Exists.intro
      refine ⟨fun w' hC => ?_, ?_⟩
      · subst hC
        go_simp
        rfl
      try simp only [Act.put, sA, sB, sC, sD]
      refine mix_nil ?_
      rintro _ rfl
      go_wp2_with fail
      refine np_normal ?_
      gi_wp2
      obtain ⟨ho, hB, _⟩ := HJ.out
      refine ⟨by simp, .inl ⟨_, _, rfl, run_takeDeferred HK.out, ?_⟩⟩
      have hr : ∀ r, some D = some r → ∃ o : Obj, W.heap[r]? = some o ∧ o.isCells = false := fun r e => by cases e; exact ⟨_, HK.out, rfl⟩
      have hg := grownBy_putObj' W.drew D (.deferred none)
      have em : (upF (cn (N : Int)) (cn (N : Int))).map (fun i => i.val) = List.range (cn (N : Int)) := (upF_map (cn (N : Int)) fun i => i).trans (List.map_id' _)
      refine ⟨.tuple #[.slice none 0 0, .int .i64 10], ?_, ⟨_, rfl, .inr ⟨?_, rfl⟩⟩, ?_⟩
      · simp only [results, Tryz.results86]
        go_simp
      · have := H1.out
        rw [em] at this
        exact this
      · rw [show w.heap.size = b0 by omega]
        exact (Below.trans (c := W.drew) hB ⟨rfl, rfl, rfl, Nat.le_refl _, fun _ _ => rfl⟩).grown hg (by show b0 ≤ W.heap.size; omega) (fun k e => by cases e; omega)
  case stop =>
    rintro D cc pre W _ _ h _
    exact h.elim
/-- Too long, or another count of chunks than the length says. -/
theorem join_big (s : Bool) (a : Option Addr) (n c : Nat) (N : Int) (hN : ¬ (0 ≤ N ∧ N ≤ 65535)) (w : World) :
    Calls Tryz.prog 86 #[fieldV s, .slice a n c, .int .i64 N] w fun e w' => e = .returned (.tuple #[.slice none 0 0, .int .i64 6]) ∧ Below w.heap.size w w' := by
  have hd : decide (0 ≤ N ∧ N ≤ 65535) = false := by simpa using hN
  have Hd := Lib.hid hd
  clear hd hN
  go_enter Tryz.func86, Tryz.ntmps86
  go_wp2_with fail
  refine Calls.mono (valid_c _ _) ?_
  rintro _ _ ⟨rfl, rfl⟩
  rw [Hd.out]
  go_wp2_with fail
  exact bodyPost_ret (v := .tuple #[.slice none 0 0, .int .i64 6]) (by simp only [results, Tryz.results86]; go_simp) rfl ⟨rfl, (by repeat first | with_reducible exact Below.refl _ _ | with_reducible refine Below.drew ?_ | with_reducible refine below_dN ?_ | with_reducible refine Below.alloc ?_ (by first | omega | (simp; done) | (simp; omega)) _ | with_reducible refine Below.setCell ?_ (by first | omega | (simp; done) | (simp; omega)) _ | with_reducible refine Below.trans ?_ (Below.mono (by assumption) (by first | omega | (simp; done) | (simp; omega))))⟩
theorem join_ne (s : Bool) (a : Option Addr) (n c : Nat) (N : Nat) (hN : N ≤ 65535) (hne : n ≠ cn N) (w : World) :
    Calls Tryz.prog 86 #[fieldV s, .slice a n c, .int .i64 (N : Int)] w fun e w' => e = .returned (.tuple #[.slice none 0 0, .int .i64 8]) ∧ Below w.heap.size w w' := by
  have hd : decide (0 ≤ (N : Int) ∧ (N : Int) ≤ 65535) = true := by simp; omega
  have Hd := Lib.hid hd
  have hne2 : (n : Int) ≠ ((cn (N : Int) : Nat) : Int) := by omega
  clear hd
  go_enter Tryz.func86, Tryz.ntmps86
  go_wp2_with fail
  refine Calls.mono (valid_c _ _) ?_
  rintro _ _ ⟨rfl, rfl⟩
  rw [Hd.out]
  go_wp2_with fail
  refine region_mix 5 [false, false, false, false, false] (fun w' => w' = World.drew _) (by kernel_rfl) (by kernel_rfl) (by intro _ _ d _ _ h; cases d <;> exact h) rfl ?_
  simp only [List.take_succ_cons, List.take_zero, List.drop_succ_cons, List.drop_zero]
  with_reducible refine mix_v ?_ ?_ ?_
  · rfl
  · rfl
  apply Exists.intro
  refine ⟨fun w' hC => ?_, ?_⟩
  · subst hC
    go_simp
    rfl
  try simp only [Act.put, sA, sB, sC, sD]
  with_reducible refine mix_v ?_ ?_ ?_
  · rfl
  · rfl
  apply Exists.intro
  refine ⟨fun w' hC => ?_, ?_⟩
  · subst hC
    go_simp
    rfl
  try simp only [Act.put, sA, sB, sC, sD]
  with_reducible refine mix_v ?_ ?_ ?_
  · rfl
  · rfl
  apply Exists.intro
  refine ⟨fun w' hC => ?_, ?_⟩
  · subst hC
    go_simp
    rfl
  try simp only [Act.put, sA, sB, sC, sD]
  with_reducible refine mix_c ?_ ?_ ?_
  · rfl
  · rfl
  apply Exists.intro
  apply Exists.intro
  apply Exists.intro
  refine ⟨fun w' hC => ?_, fun w' hC => ?_, ?_⟩
  · subst hC
    go_simp
    exact ⟨rfl, rfl⟩
  · subst hC
    exact same_of (count_c _ _)
  try simp only [Act.put, sA, sB, sC, sD]
  with_reducible refine mix_v ?_ ?_ ?_
  · rfl
  · rfl
  apply Exists.intro
  refine ⟨fun w' hC => ?_, ?_⟩
  · subst hC
    go_simp
    rfl
  try simp only [Act.put, sA, sB, sC, sD]
  refine mix_nil ?_
  rintro _ rfl
  go_wp2_with fail
  exact bodyPost_ret (v := .tuple #[.slice none 0 0, .int .i64 8]) (by simp only [results, Tryz.results86]; go_simp) rfl ⟨rfl, (by repeat first | with_reducible exact Below.refl _ _ | with_reducible refine Below.drew ?_ | with_reducible refine below_dN ?_ | with_reducible refine Below.alloc ?_ (by first | omega | (simp; done) | (simp; omega)) _ | with_reducible refine Below.setCell ?_ (by first | omega | (simp; done) | (simp; omega)) _ | with_reducible refine Below.trans ?_ (Below.mono (by assumption) (by first | omega | (simp; done) | (simp; omega))))⟩
end Go.Proofs.YtdnkkbmpefhbjaaGreatDoor
namespace Go.Proofs.YtdnkkbmpefhbjaaGreatDoor
set_option linter.all false
open Go Go.RowKit Go.Shelf
end Go.Proofs.YtdnkkbmpefhbjaaGreatDoor
namespace Go.Proofs.YtdnkkbmpefhbjaaGreatDoor
set_option linter.all false
open Go Go.RowKit Go.Shelf
end Go.Proofs.YtdnkkbmpefhbjaaGreatDoor
namespace Go.Proofs.YtdnkkbmpefhbjaaGreatDoor
set_option linter.all false
open Go Go.RowKit Go.Shelf
end Go.Proofs.YtdnkkbmpefhbjaaGreatDoor
namespace Go.Proofs.YtdnkkbmpefhbjaaGreatDoor
set_option linter.all false
open Go Go.RowKit
theorem pos_add {b o j : Nat} : (⟨b, o, none⟩ : Addr).add j = ⟨b, o + j, none⟩ := add_pos
theorem vq_get {x j : Nat} (hj : j < 4) : (vq x)[j]? = some (.int .u64 ((dg j x : Nat) : Int)) := by
  have h : j = 0 ∨ j = 1 ∨ j = 2 ∨ j = 3 := by omega
  rcases h with rfl | rfl | rfl | rfl <;> rfl
theorem vecs_of {w : World} {a : Option Addr} {n c : Nat} {X : Nat → Nat} (h : LstAt w 4 (.slice a n c) n (en vq X n)) : VecsAt w a n X := by
  refine ⟨?_⟩
  by_cases h0 : n = 0
  · exact .inl h0
  have ha := lst_some h (by omega)
  obtain ⟨a', c', he, _, _, hx⟩ := h.at_
  cases he
  obtain ⟨h1, h2, _⟩ := hx _ ha (by omega)
  refine .inr ⟨(adq a).block, (adq a).off, ?_, h2, fun i hi j hj => ?_⟩
  · rw [ha, ← h1]
    rfl
  · have := lstq h hi (en_chunk vq_len hi) j _ (vq_get hj)
    have e : adq a = ⟨(adq a).block, (adq a).off, none⟩ := by rw [← h1]
    rw [e, pos_add, pos_add] at this
    exact this
/-- A row that a call made. -/
theorem Sat.ofOwn {F0 : Nat → Prop} {W w w' : World} {M R : List Res} {T : TypeId} {sz n : Nat} {v : Value} {xs : List Value} (hs : Sat F0 W M R w) (hb : Below w.heap.size w w') (ho : w'.ownsRow w.heap.size T sz v n xs) : Sat F0 W (row T sz v n xs :: M) R w' :=
  hs.new (.ofBelow hb) ⟨ho.1, ho.2.imp id fun ⟨g, cap, cur, e, hg, r⟩ => ⟨g, cap, cur, e, Nat.zero_le _, r⟩⟩ fun k hk => (ho.lt k hk).1
end Go.Proofs.YtdnkkbmpefhbjaaGreatDoor
namespace Go.Proofs.YtdnkkbmpefhbjaaGreatDoor
set_option linter.all false
open Go Go.RowKit
open Classical in
/-- What Join says. -/
noncomputable def jErr (n : Nat) (N : Int) (v : Nat → Nat) : Int := if 0 ≤ N ∧ N ≤ 65535 then (if n = cn N then (if okC N.toNat v (List.range n) then 0 else 10) else 8) else 6
def jFlat (N : Nat) (v : Nat → Nat) (l : List Nat) : List Nat := l.flatMap fun i => (List.range (cz N i)).map (byt (v i))
/-- The bytes that Join hands back. -/
noncomputable def jBytes (n : Nat) (N : Int) (v : Nat → Nat) : List Nat := if jErr n N v = 0 then jFlat N.toNat v (List.range n) else []
theorem byC_el (N : Nat) (v : Nat → Nat) (l : List Nat) : byC N v l = el bc (jFlat N v l) := by
  unfold byC jFlat el
  induction l with
  | nil => rfl
  | cons x l ih =>
    rw [List.flatMap_cons, List.flatMap_cons, List.flatMap_append, ih]
    congr 1
    unfold fl bc
    induction (List.range (cz N x)) with
    | nil => rfl
    | cons y m ihm => simp [ihm]
/-- How Join's answer lies. -/
def JQ (W : World) (n : Nat) (N : Int) (v : Nat → Nat) (e : Ending) (w : World) : Prop :=
  ∃ a k c, e = .returned (.tuple #[.slice a k c, .int .i64 (jErr n N v)]) ∧ Sat no W [row 5 1 (.slice a k c) k (el bc (jBytes n N v))] [] w
theorem JQ.bad {W w : World} {n : Nat} {N : Int} {v : Nat → Nat} {q : Int} (hb : Below W.heap.size W w) (h : jErr n N v = q) (hq : q ≠ 0) : JQ W n N v (.returned (.tuple #[.slice none 0 0, .int .i64 q])) w := by
  refine ⟨none, 0, 0, by rw [h], ?_⟩
  have hnil : jBytes n N v = [] := by unfold jBytes; rw [if_neg (by rw [h]; exact hq)]
  rw [hnil]
  exact ((Sat.start W [] (fun _ h => by cases h)).below hb).row0 _ _
open Classical in
theorem JQ.of {W w : World} {N : Nat} {v : Nat → Nat} {r : Value} (hb : Below W.heap.size W w) (hN : N ≤ 65535) (h : JO W.heap.size N v r w) : JQ W (cn N) N v (.returned r) w := by
  have e0 : jErr (cn N) N v = if okC N v (List.range (cn N)) then 0 else 10 := by
    unfold jErr
    rw [if_pos (by omega), if_pos rfl]
    simp
  rcases h with ⟨hok, out, k, rfl, ho⟩ | ⟨hok, rfl⟩
  · rw [if_pos hok] at e0
    obtain ⟨a, c, rfl⟩ := row_slice2 ho
    refine ⟨a, k, c, by rw [e0], ?_⟩
    have hj : jBytes (cn N) N v = jFlat N v (List.range (cn N)) := by unfold jBytes; rw [if_pos e0]; rfl
    rw [hj, ← byC_el]
    exact (Sat.start W [] (fun _ h => by cases h)).ofOwn hb ho
  · rw [if_neg hok] at e0
    exact JQ.bad hb e0 (by decide)
theorem joinQ (s : Bool) (la : Option Addr) (n lc : Nat) (N : Int) (v : Nat → Nat) (W : World) (HX : LstAt W 4 (.slice la n lc) n (en vq (fun i => RR s (v i)) n)) (Hv : ∀ i, i < n → v i < pr s) :
    Calls Tryz.prog 86 #[fieldV s, .slice la n lc, .int .i64 N] W (JQ W n N v) := by
  by_cases h1 : 0 ≤ N ∧ N ≤ 65535
  · obtain ⟨M, rfl⟩ : ∃ M : Nat, N = M := ⟨N.toNat, by omega⟩
    by_cases h2 : n = cn M
    · subst h2
      refine (join_walk s la M lc v (by omega) W (Lib.hid (vecs_of HX)) (Lib.hid Hv)).mono ?_
      rintro e w ⟨⟨r, rfl, h⟩, hb⟩
      exact .of hb (by omega) h
    · refine (join_ne s la n lc M (by omega) h2 W).mono ?_
      rintro e w ⟨rfl, hb⟩
      exact .bad hb (by unfold jErr; rw [if_pos h1, if_neg h2]) (by decide)
  · refine (join_big s la n lc N h1 W).mono ?_
    rintro e w ⟨rfl, hb⟩
    exact .bad hb (by unfold jErr; rw [if_neg h1]) (by decide)
theorem bytesIn_of {w : World} {a : Option Addr} {n c : Nat} {l : List Nat} (h : LstAt w 1 (.slice a n c) n (el bc l)) : Lib.BytesIn w a n (l.map fun x : Nat => (x : Int)) := by
  intro hn
  have ha := lst_some h hn
  obtain ⟨a', c', he, _, _, hx⟩ := h.at_
  cases he
  obtain ⟨h1, h2, h3⟩ := hx _ ha hn
  refine ⟨(adq a).block, (adq a).off, by rw [ha, ← h1]; rfl, fun i hi => ?_⟩
  have hl : l.length = n := by have := h.len; rw [el_len bc_len] at this; omega
  have := h3 i (.int .u8 ((l.map fun x : Nat => (x : Int)).getD i 0)) (by
    have hh := el_chunk (c := bc) bc_len (l := l) (k := i) (by omega) 0
    rw [Nat.mul_one] at hh
    have h4 := congrArg (fun q => q[0]?) hh
    simp only [List.getElem?_take, List.getElem?_drop] at h4
    simp only [bc, Nat.add_zero, show (0 < 1) = True by simp, if_true] at h4
    rw [h4]
    simp [List.getD, hl, hi])
  have e : adq a = ⟨(adq a).block, (adq a).off, none⟩ := by rw [← h1]
  rw [e, add_pos] at this
  exact this
theorem bytesEqQ (w : World) (a b : Option Addr) (n c m d : Nat) (l l' : List Nat) (h1 : LstAt w 1 (.slice a n c) n (el bc l)) (h2 : LstAt w 1 (.slice b m d) m (el bc l')) (h : l = l') :
    Calls Tryz.prog 46 #[.slice a n c, .slice b m d] w fun e w' => e = .returned (.bool true) ∧ w = w' := by
  subst h
  have e1 := h1.len
  have e2 := h2.len
  rw [el_len bc_len] at e1 e2
  refine (Tryz.bytes_Equal_all a b n c m d _ _ w (by simp; omega) (by simp; omega) (bytesIn_of h1) (bytesIn_of h2)).mono ?_
  rintro e w' ⟨rfl, rfl⟩
  exact ⟨by simp, rfl⟩
end Go.Proofs.YtdnkkbmpefhbjaaGreatDoor
namespace Go.Proofs.YtdnkkbmpefhbjaaGreatDoor
set_option linter.all false
open Go Go.RowKit Alg
def valN (s : Bool) (S : Nat → Shr) (m i : Nat) : Nat := (valZ s S m i).val
theorem combine_bad {F0 : Nat → Prop} {W : World} {M R : List Res} (m lc : Nat) (la : Option Addr) (S : Nat → Shr) (t : Option Nat) (w0 : World) (hs : Sat F0 W M R w0) (hS : HasR (shareR la m lc S) R) (hG : HasR laidR R) (HO : ShOk S m) (hz : csErr S m ≠ 0) : Calls Tryz.prog 44 [tval t, .slice la m lc].toArray w0 fun e w => e = .returned (.tuple #[.slice none 0 0, .int .i64 (csErr S m)]) ∧ Sat F0 W M R w := by
 refine c_enter (args := [tval t, .slice la m lc]) Tryz.func44 rfl rfl rfl fun a hk => ?_
 refine wS (wR ?_)
 refine q_v hk (w_as rfl) fun a hk => ?_
 refine q_v hk (w_as rfl) fun a hk => ?_
 refine c_end (x_t (wS (wR ?_)))
 refine q_v hk (w_mv rfl) fun a hk => ?_
 refine q_v hk (w_mv rfl) fun a hk => ?_
 refine q_call (caps := []) hk rfl rfl Tryz.func41 fo41 rfl rfl (values_bad m lc la S t _ hs (hS) (hG) HO hz) ?_
 rintro _ w ⟨rfl, hs⟩
 refine ⟨_, rfl, fun a hk => ?_⟩
 refine q_v hk (w_mv rfl) fun a hk => ?_
 refine q_v hk (w_ext rfl rfl) fun a hk => ?_
 refine q_v hk (w_ext rfl rfl) fun a hk => ?_
 refine q_v hk (w_as rfl) fun a hk => ?_
 refine q_v hk (w_as rfl) fun a hk => ?_
 refine c_end (x_t (wS (wS (wR ?_))))
 refine q_v hk (w_mv rfl) fun a hk => ?_
 refine q_v hk (w_ne rfl rfl (decide_eq_true (by omega))) fun a hk => ?_
 refine c_end (x_t ?_)
 refine c_T hk rfl ?_
 refine wS (wR ?_)
 refine q_v hk (w_mv rfl) fun a hk => ?_
 refine q_v hk (w_as rfl) fun a hk => ?_
 refine q_v hk (w_as rfl) fun a hk => ?_
 refine c_end (x_t ?_)
 refine (wpIn_ret (x_tr ?_))
 refine c_ret2 hk rfl rfl rfl ?_
 exact ⟨rfl, hs⟩
theorem combine_m {F0 : Nat → Prop} {W : World} {M R : List Res} (s : Bool) (m lc : Nat) (la : Option Addr) (S : Nat → Shr) (t : Option Nat) (evs : List Ev) (r : Res) (w0 : World) (hs : Sat F0 W (r :: M) R w0) (hS : HasR (shareR la m lc S) R) (hG : HasR laidR R) (HO : ShOk S m) (g : Good s S m) (hz : csErr S m = 0) (hm : m ≤ 255) (hn9 : (S 0).n ≤ 4) (hT : TapeIs t evs r) (he : evs.length ≤ 10000) : Calls Tryz.prog 44 [tval t, .slice la m lc].toArray w0 fun e w => ∃ r a k c, e = .returned (.tuple #[.slice a k c, .int .i64 (jErr (S 0).n (S 0).L (valN s S (thN S)))]) ∧ TapeIs t (evs ++ valsE (thN S) (S 0).n) r ∧ Sat F0 W (r :: row 5 1 (.slice a k c) k (el bc (jBytes (S 0).n (S 0).L (valN s S (thN S)))) :: M) R w := by
 have hm0 := g.m0
 refine c_enter (args := [tval t, .slice la m lc]) Tryz.func44 rfl rfl rfl fun a hk => ?_
 refine wS (wR ?_)
 refine q_v hk (w_as rfl) fun a hk => ?_
 refine q_v hk (w_as rfl) fun a hk => ?_
 refine c_end (x_t (wS (wR ?_)))
 refine q_v hk (w_mv rfl) fun a hk => ?_
 refine q_v hk (w_mv rfl) fun a hk => ?_
 refine q_call (caps := []) hk rfl rfl Tryz.func41 fo41 rfl rfl (values_m s m lc la S t evs _ _ hs (hS) (hG) HO g hz hm hn9 hT he) ?_
 rintro _ w ⟨r1, a2, c3, rfl, hT, hs⟩
 refine ⟨_, rfl, fun a hk => ?_⟩
 refine q_v hk (w_mv rfl) fun a hk => ?_
 refine q_v hk (w_ext rfl rfl) fun a hk => ?_
 refine q_v hk (w_ext rfl rfl) fun a hk => ?_
 refine q_v hk (w_as rfl) fun a hk => ?_
 refine q_v hk (w_as rfl) fun a hk => ?_
 refine c_end (x_t (wS (wS (wR ?_))))
 refine q_v hk (w_mv rfl) fun a hk => ?_
 refine q_v hk (w_ne rfl rfl (decide_eq_false (by decide))) fun a hk => ?_
 refine c_end (x_t ?_)
 refine c_F hk rfl ?_
 refine (wpIn_skip (x_t ?_))
 refine wS (wR ?_)
 refine q_v hk (w_mv rfl) fun a hk => ?_
 refine q_v hk (w_iaL (k := 0) rfl rfl Tryz.underlying22 ty53 ((share_lst hS).at_ hs) (by omega) (by omega)) fun a hk => ?_
 refine q_v hk (w_fa rfl fq53_0 ty3) fun a hk => ?_
 refine q_v hk (w_ld1 rfl ty3 (ic_eq (g.F 0 g.m0) (lstf (k := 0) (o := 0) (m := 1) ((share_lst hS).at_ hs) (by omega) (en_chunk shc_len (by omega)) rfl))) fun a hk => ?_
 refine q_call (caps := []) hk rfl rfl Tryz.func85 fo85 rfl rfl (get_c s _ ((hG).at_ hs)) ?_
 rintro _ w ⟨rfl, hb⟩
 have hs := hs.below hb
 refine ⟨_, rfl, fun a hk => ?_⟩
 refine q_v hk (w_mv rfl) fun a hk => ?_
 refine q_v hk (w_ext rfl rfl) fun a hk => ?_
 refine q_v hk (w_ext rfl rfl) fun a hk => ?_
 refine q_alc (vs := [.int .i64 0, .int .u64 0, .int .u64 0, .int .u64 0, .int .u64 0, .int .u64 0, .int .u64 0, .int .u64 0, .int .u64 0, .int .u64 0, .int .u64 0, .int .u64 0, .int .u64 0, .int .u64 0]) hk hs zr120 rfl rfl rfl fun b4 w a hk hs => ?_
 refine q_sto (o := 0) (cs := fieldL s) (vs' := fieldL s) hk hs rfl rfl rfl ty120 rfl rfl rfl rfl rfl rfl fun w hs => ?_
 refine q_v hk (w_as rfl) fun a hk => ?_
 refine c_end (x_t (wS ?_))
 have hL := okL.cons (hs.mi 0 rfl) (okL.cons ((share_lst hS).at_ hs) okL.nil)
 refine d_begin _ 11 (by kernel_rfl) rfl hs hL fun w hs hL => ?_
 refine d_w 0 1 hk hL rfl (fun w hL => w_ldA rfl ty120 (.blk (n := 14) (hL.at 0 rfl) rfl) rfl) fun a hk => ?_
 refine d_w 1 3 hk hL rfl (fun w hL => w_mv rfl) fun a hk => ?_
 refine d_w 2 7 hk hL rfl (fun w hL => w_mv rfl) fun a hk => ?_
 refine d_w 3 15 hk hL rfl (fun w hL => w_iaL (k := 0) rfl rfl Tryz.underlying22 ty53 (hL.at 1 rfl) (by omega) (by omega)) fun a hk => ?_
 refine d_w 4 31 hk hL rfl (fun w hL => w_fa rfl fq53_3 ty3) fun a hk => ?_
 refine d_w 5 63 hk hL rfl (fun w hL => w_ld1 rfl ty3 (lstf (k := 0) (o := 3) (m := 1) (hL.at 1 rfl) (by omega) (en_chunk shc_len (by omega)) rfl)) fun a hk => ?_
 refine d_1 6 127 rfl (by kernel_rfl) fun K hK => ?_
 refine q_call (caps := []) hk rfl rfl Tryz.func86 fo86 rfl rfl (joinQ s _ (S 0).n _ (S 0).L (valN s S (thN S)) _ (row_lst (hs.mi 2 rfl)) (fun i _ => (valZ s S (thN S) i).isLt)) ?_
 rintro _ w ⟨a1_6, k1_6b, c1_6c, rfl, hS⟩
 have hs := hs.call1 hS
 clear hS
 refine ⟨_, rfl, fun a hk => ?_⟩
 have hL := okL.cons (hs.mi 1 rfl) (okL.cons ((share_lst hS).at_ hs) okL.nil)
 refine c_end (x_t (hK _ _ hL ?_))
 clear hK K
 refine d_w 7 255 hk hL rfl (fun w hL => w_ext rfl rfl) fun a hk => ?_
 refine d_w 8 511 hk hL rfl (fun w hL => w_ext rfl rfl) fun a hk => ?_
 refine d_w 9 1023 hk hL rfl (fun w hL => w_as rfl) fun a hk => ?_
 refine d_w 10 2047 hk hL rfl (fun w hL => w_as rfl) fun a hk => ?_
 refine d_end (by kernel_rfl) ?_
 refine (x_t ?_)
 refine (wpIn_ret ?_)
 refine c_ret2 hk rfl rfl rfl ?_
 have hs := hs.up1
 have hs := hs.drop
 have hs := hs.up2
 have hs := hs.drop
 have hs := hs.up1
 exact ⟨_, _, _, _, rfl, hT, hs⟩
end Go.Proofs.YtdnkkbmpefhbjaaGreatDoor
namespace Go.Proofs.YtdnkkbmpefhbjaaGreatDoor
set_option linter.all false
open Go Go.RowKit Alg
end Go.Proofs.YtdnkkbmpefhbjaaGreatDoor
namespace Go.Proofs.YtdnkkbmpefhbjaaGreatDoor
set_option linter.all false
open Go Go.RowKit Alg
end Go.Proofs.YtdnkkbmpefhbjaaGreatDoor
namespace Go.Proofs.YtdnkkbmpefhbjaaGreatDoor
set_option linter.all false
open Go Go.RowKit Alg
section
variable {la : Option Addr} {m lc : Nat} {S : Nat → Shr} {w : World} (HS : (shareR la m lc S).ok w) (HL : Laid w) (HO : ShOk S m)
include HS HL HO
variable {s : Bool} (g : Good s S m) (hz : csErr S m = 0) (hm : m ≤ 255)
include g hz hm
variable (hn9 : (S 0).n ≤ 4)
include hn9
theorem valuesN : Calls Tryz.prog 41 #[.pointer none, .slice la m lc] w fun e w' => ∃ a c, e = .returned (.tuple #[.slice a (S 0).n c, .int .i64 0]) ∧ Sat no w [row 56 4 (.slice a (S 0).n c) (S 0).n (en vq (fun i => mq (valZ s S (thN S) i)) (S 0).n)] [] w' :=
  (values_m s m lc la S none [] nores w (sat_in HS HL).none hr0 hr1 HO g hz hm hn9 rfl (by decide)).mono fun _ _ h => by
    obtain ⟨r, a, c, h1, h2, h3⟩ := h
    obtain rfl := h2
    exact ⟨a, c, h1, sat_out h3⟩
theorem combN : Calls Tryz.prog 44 #[.pointer none, .slice la m lc] w fun e w' => ∃ a k c, e = .returned (.tuple #[.slice a k c, .int .i64 (jErr (S 0).n (S 0).L (valN s S (thN S)))]) ∧ Sat no w [row 5 1 (.slice a k c) k (el bc (jBytes (S 0).n (S 0).L (valN s S (thN S))))] [] w' :=
  (combine_m s m lc la S none [] nores w (sat_in HS HL).none hr0 hr1 HO g hz hm hn9 rfl (by decide)).mono fun _ _ h => by
    obtain ⟨r, a, k, c, h1, h2, h3⟩ := h
    obtain rfl := h2
    exact ⟨a, k, c, h1, sat_out h3⟩
theorem atN (ix : Nat) (hi1 : 1 ≤ ix) (hi2 : ix ≤ 255) : Calls Tryz.prog 47 #[.pointer none, .slice la m lc, .int .i64 ((ix : Nat) : Int)] w fun e w' => ∃ a c, e = .returned (.tuple #[.agg #[.int .i64 (S 0).F, .int .i64 (S 0).T, .int .i64 ((ix : Nat) : Int), .int .i64 (S 0).L, .slice a (S 0).n c], .int .i64 0]) ∧ Sat no w [row 56 4 (.slice a (S 0).n c) (S 0).n (en vq (fun i => mq (atZ s S (thN S) (zn s ix) i)) (S 0).n)] [] w' :=
  (at_m s m lc la S none [] nores ix w (sat_in HS HL).none hr0 hr1 HO g hz hm hn9 rfl (by decide) hi1 hi2).mono fun _ _ h => by
    obtain ⟨r, a, c, h1, h2, h3⟩ := h
    obtain rfl := h2
    exact ⟨a, c, h1, sat_out h3⟩
end
/-! A share whose cells lie in a block of their own. -/
/-! The examples. -/
section
variable {y0 y1 y2 a0 a1 a2 : Nat}
theorem sh2_good : Good false (sh3 y0 y1 y2 a0 a1 a2) 2 where
  m0 := by decide
  F _ _ := rfl
  T _ _ := rfl
  Lq _ _ := rfl
  n _ _ := rfl
  idx i hi := by show 1 ≤ (i : Int) + 1 ∧ (i : Int) + 1 ≤ 255; omega
  app i k h _ := by show (i : Int) + 1 ≠ (k : Int) + 1; omega
  X _ _ _ _ := mq_lt _
  t1 := by show (1 : Int) ≤ 2; decide
  tm := by show (2 : Int) ≤ 2; decide
  l0 := by show (0 : Int) ≤ 1; decide
  l1 := by show (1 : Int) ≤ 65535; decide
  cn := by show 1 = cn 1; decide
theorem sh2_err : csErr (sh3 y0 y1 y2 a0 a1 a2) 2 = 0 := sh2_good.err (by show (2 : Int) ≤ 255; decide)
theorem sh2_ok : ShOk (sh3 y0 y1 y2 a0 a1 a2) 2 := ⟨by decide, fun _ _ => by show (1 : Nat) ≤ 100000000; decide, fun _ _ _ _ => mq_lt4 _⟩
theorem sh2_itp {k : Nat} (hk : k < 2) : itp (pt false (vI (sh3 8 11 y2 a0 a1 a2))) (clz false (sh3 8 11 y2 a0 a1 a2) 0) 2 2 k = p53 k := itp_of sh2_good.fap (fun j hj => by
  rw [sh3_clz, sh3_pt]
  match j, hj with
  | 0, _ => exact p53_0
  | 1, _ => exact p53_1) hk
theorem sh2_val : valZ false (sh3 8 11 y2 a0 a1 a2) 2 0 = zn false 5 := by
  unfold valZ
  rw [dot_itp 2 (by decide), sh2_itp (by decide)]
  rfl
theorem sh2_at : atZ false (sh3 8 11 y2 a0 a1 a2) 2 (zn false 3) 0 = zn false 14 := by
  unfold atZ
  rw [Hn_ev, Sg_congr (d := p53) (fun k hk => sh2_itp hk)]
  exact p53_2
theorem valN_zv {s : Bool} {S : Nat → Shr} {m i : Nat} : valN s S m i = zv (valZ s S m i) := rfl
theorem zn_lit5 : zv (zn false 5) = 5 := zn_lit (by decide)
theorem sh2_vN : valN false (sh3 8 11 y2 a0 a1 a2) 2 0 = 5 := by
  rw [valN_zv, sh2_val]
  exact zn_lit5
theorem jErr_5 {v : Nat → Nat} (h : v 0 = 5) : jErr 1 1 v = 0 := by
  have ok : okC (Int.toNat 1) v (List.range 1) := fun i hi => by
    obtain rfl : i = 0 := by have := List.mem_range.1 hi; omega
    rw [h]
    exact fun j h1 _ => by unfold byt; rw [Nat.div_eq_of_lt (Nat.lt_of_lt_of_le (by decide : 5 < 256 ^ 1) (Nat.pow_le_pow_right (by decide) h1))]
  unfold jErr
  rw [if_pos (by decide), if_pos (by decide), if_pos ok]
theorem jBytes_5 {v : Nat → Nat} (h : v 0 = 5) : jBytes 1 1 v = [5] := by
  unfold jBytes
  rw [if_pos (jErr_5 h)]
  show (List.range 1).flatMap (fun i => (List.range (cz 1 i)).map (byt (v i))) = [5]
  show (List.range (cz 1 0)).map (byt (v 0)) ++ [] = [5]
  rw [h]
  decide
end
end Go.Proofs.YtdnkkbmpefhbjaaGreatDoor
