/- The walk by triples, further: slices of slices, elements written, arrays made, results in cells, comparisons. -/
import Derived.Test.YtpggmebgndkpjaaDoorSym
import Derived.Test.YtpggmebgndkpjaaDoorLaws5
namespace Go.Proofs.YtpggmebgndkpjaaDoor
set_option linter.all false
open Go Go.RowKit

section
variable {P : Program} {G : List (Nat × Value)} {w : World} {v v' : Value} {d : Option Nat} {T : Nat} {p : String} {e : Array Edge} {g : Option (Nat × Bool)} {x y c : Operand} {tx ty te : TypeId} {s nb n k cc : Nat} {b : Bool} {a : Option Addr} {xs ws : List Value}
/-! x[l:h], x[l:h:m] of a slice. -/
/-- Where it begins. -/
def sla (a : Option Addr) (m l s : Nat) : Option Addr := if m = l then a else a.map (·.add (l * s))
theorem run_bound {kd : IntKind} {i : Int} {l y : Nat} {cd : BoundsCode} (hi : i = (l : Int)) (hl : l ≤ y) : (Instr.sliceBound (.int kd i) y cd).run P w = .ok l w := by
  subst hi
  have h1 : (l : Int) ≤ (y : Int) := by omega
  simp [Instr.sliceBound, asIntOf, Sem.run_bind, Sem.run_pure, Result.andThen_ok, hl]
theorem LstAt.sub {l h m : Nat} (hL : LstAt w s (.slice a n cc) n xs) (hlh : l ≤ h) (hhn : h ≤ n) (hhm : h ≤ m) (hmc : m ≤ cc) : LstAt w s (.slice (sla a m l s) (h - l) (m - l)) (h - l) ((xs.drop (l * s)).take ((h - l) * s)) := by
  have hlen := hL.len
  obtain ⟨a', c', he, hc, hn, hx⟩ := hL.at_
  cases he
  have hle : h * s ≤ n * s := Nat.mul_le_mul_right _ hhn
  have hls : l * s ≤ h * s := Nat.mul_le_mul_right _ hlh
  have hsub : (h - l) * s = h * s - l * s := Nat.sub_mul _ _ _
  refine ⟨by rw [List.length_take, List.length_drop, hlen]; omega, sla a m l s, m - l, rfl, by omega, fun hz => ?_, fun ad ha h0 => ?_⟩
  · unfold sla at hz
    split at hz
    · have := hn hz; omega
    · cases a with
      | none => have := hn rfl; omega
      | some q => cases hz
  · unfold sla at ha
    rw [if_neg (by omega)] at ha
    cases a with
    | none => cases ha
    | some q =>
      cases ha
      obtain ⟨h1, h2, h3⟩ := hx q rfl (by omega)
      refine ⟨by unfold Addr.add; split <;> simp_all, by unfold Addr.add; split <;> simpa using h2, fun j u hj => ?_⟩
      rw [add_add h1]
      rw [List.getElem?_take] at hj
      split at hj
      · rw [List.getElem?_drop] at hj; exact h3 _ _ hj
      · cases hj
section
variable {lo hi mx : Option Operand} {vl vh vm : Option Value}
/-- A bound that may be left out. -/
def obq (G : List (Nat × Value)) : Option Operand → Option (Option Value)
  | none => some none
  | some x => match evq G x with | some v => some (some v) | none => none
theorem obq_eval {Ds : List Nat} {N : Nat} {A : Act} (hk : Kn Ds N G A) {o : Option Operand} {r : Option Value} (h : obq G o = some r) : o.map A.eval = r := by
  cases o with
  | none => cases h; rfl
  | some x =>
    simp only [obq] at h
    split at h
    · rename_i v hv; cases h; simp [hk.eval hv]
    · cases h
/-- The bound's number: that of the value, or d where it is left out. -/
def bnd (r : Option Value) (d : Int) : Option Int := match r with | none => some d | some (.int _ i) => some i | _ => none
theorem w_slc {l h : Nat} {b1 b2 : Int} (hx : evq G x = some (.slice a n cc)) (hl : obq G lo = some vl) (hh : obq G hi = some vh) (hu : P.underlying tx = some (.slice te)) (ht : tq P te = some (b, s, nb)) (e1 : bnd vl 0 = some b1) (e2 : bnd vh n = some b2) (h1 : b1 = (l : Int)) (h2 : b2 = (h : Int)) (hlh : l ≤ h) (hhn : h ≤ n) (hnc : n ≤ cc) :
    Wq P G ⟨d, .slice tx x lo hi none, T, p, e, g⟩ (.slice (sla a cc l s) (h - l) (cc - l)) w w := fun Ds N A hk => by
  have ex := hk.eval hx
  have el := obq_eval hk hl
  have eh := obq_eval hk hh
  generalize A.eval = ev at ex el eh
  have hb : (Instr.sliceBounds true n cc vl vh none).run P w = .ok (l, h, cc) w := by
    cases vh with
    | none =>
      simp only [bnd, Option.some.injEq] at e2
      obtain rfl : n = h := by omega
      cases vl with
      | none =>
        simp only [bnd, Option.some.injEq] at e1
        obtain rfl : l = 0 := by omega
        simp only [Instr.sliceBounds, Sem.run_bind, Sem.run_pure, Result.andThen_ok]
      | some u =>
        cases u <;> simp only [bnd, reduceCtorEq, Option.some.injEq] at e1
        subst e1
        simp only [Instr.sliceBounds, Sem.run_bind, Sem.run_pure, Result.andThen_ok, run_bound h1 hlh]
    | some uh =>
      cases uh <;> simp only [bnd, reduceCtorEq, Option.some.injEq] at e2
      subst e2
      cases vl with
      | none =>
        simp only [bnd, Option.some.injEq] at e1
        obtain rfl : l = 0 := by omega
        simp only [Instr.sliceBounds, Sem.run_bind, Sem.run_pure, Result.andThen_ok, run_bound h2 (Nat.le_trans hhn hnc)]
      | some u =>
        cases u <;> simp only [bnd, reduceCtorEq, Option.some.injEq] at e1
        subst e1
        simp only [Instr.sliceBounds, Sem.run_bind, Sem.run_pure, Result.andThen_ok, run_bound h1 hlh, run_bound h2 (Nat.le_trans hhn hnc)]
  simp only [execOp, ex, el, eh, Option.map_none, Instr.sliceAt, Instr.slice, Sem.run_bind, Sem.run_pure, Result.andThen_ok, run_underlying hu, hb, tq_size ht]
  rfl
/-- The whole of an array, by its address. -/
theorem w_slcA {q : Addr} (hx : evq G x = some (.pointer (some q))) (hu : P.underlying tx = some (.array n te)) (ht : tq P te = some (b, s, nb)) (hn : Nat.beq n 0 = false) :
    Wq P G ⟨d, .slice tx x none none none, T, p, e, g⟩ (.slice (some (q.add (0 * s))) n n) w w := fun Ds N A hk => by
  have ex := hk.eval hx
  have h0 : ¬ n = 0 := Nat.ne_of_beq_eq_false hn
  generalize A.eval = ev at ex
  simp only [execOp, ex, Option.map_none, Instr.sliceAt, Instr.sureAddr, Instr.sliceBounds, Sem.run_bind, Sem.run_pure, Result.andThen_ok, run_underlying hu, tq_size ht, if_neg h0, Nat.sub_zero]
theorem w_bit {k : IntKind} {op : BinOp} {u v r : Int} (hop : op = .and ∨ op = .or ∨ op = .xor ∨ op = .andNot) (hx : evq G x = some (.int k u)) (hy : evq G y = some (.int k v)) (hr : bits op k u v = r) : Wq P G ⟨d, .binOp op tx x y ty, T, p, e, g⟩ (.int k r) w w := .of2 hx hy fun ev h1 h2 => by
  subst hr
  rcases hop with rfl | rfl | rfl | rfl <;> simp [execOp, h1, h2, go_sem, Sem.run_pure]
theorem w_shr {k k' : IntKind} {u v r : Int} (hx : evq G x = some (.int k u)) (hy : evq G y = some (.int k' v)) (h0 : 0 ≤ v) (hr : u / 2 ^ min v.toNat k.bits = r) : Wq P G ⟨d, .binOp .shr tx x y ty, T, p, e, g⟩ (.int k r) w w := .of2 hx hy fun ev h1 h2 => by
  subst hr
  simp [execOp, h1, h2, binOp, eqGuard, shift_shr_any k k' u v h0, Sem.run_pure]
theorem w_shl {k k' : IntKind} {u v r : Int} (hx : evq G x = some (.int k u)) (hy : evq G y = some (.int k' v)) (h0 : 0 ≤ v) (hr : k.wrap (u * 2 ^ min v.toNat k.bits) = r) : Wq P G ⟨d, .binOp .shl tx x y ty, T, p, e, g⟩ (.int k r) w w := .of2 hx hy fun ev h1 h2 => by
  subst hr
  simp [execOp, h1, h2, binOp, eqGuard, shift_shl_any k k' u v h0, Sem.run_pure]
theorem w_s2a {q : Addr} {k : Nat} (hx : evq G x = some (.slice a n cc)) (ha : a = some q) (hu : P.underlying tx = some (.array k te)) (hk : k ≤ n) : Wq P G ⟨d, .sliceToArrayPointer tx x, T, p, e, g⟩ (.pointer (some q)) w w := .of1 hx fun ev h1 => by
  subst ha
  simp [execOp, h1, Instr.arrayAt, run_underlying hu, Nat.not_lt.2 hk, Sem.run_bind, Sem.run_pure]
theorem w_ix {vs : List Value} {k : Nat} {i : Int} {kd : IntKind} {v : Value} (hx : evq G x = some (.agg vs.toArray)) (hy : evq G y = some (.int kd i)) (hu : P.underlying tx = some (.array n te)) (ht : tq P te = some (false, s, nb)) (hi : i = (k : Int)) (hk : k < n) (hv : vs[k * s]? = some v) : Wq P G ⟨d, .index tx x y, T, p, e, g⟩ v w w := .of2 hx hy fun ev h1 h2 => by
  subst hi
  have h0 : (0 : Int) ≤ (k : Int) ∧ (k : Int) < (n : Int) := by omega
  simp only [execOp, h1, h2, Instr.index, asIntOf, run_underlying hu, Sem.run_bind, Sem.run_pure, Result.andThen_ok, if_pos h0, tq_size ht, part, tq_agg ht, Int.toNat_natCast]
  simp [hv, Sem.run_pure]
theorem w_slc3 {l h m : Nat} {b1 b2 b3 : Int} (hx : evq G x = some (.slice a n cc)) (hl : obq G lo = some vl) (hh : obq G hi = some vh) (hm : obq G mx = some vm) (hu : P.underlying tx = some (.slice te)) (ht : tq P te = some (b, s, nb)) (e1 : bnd vl 0 = some b1) (e2 : vh.bind (fun v => bnd (some v) 0) = some b2) (e3 : vm.bind (fun v => bnd (some v) 0) = some b3)
    (h1 : b1 = (l : Int)) (h2 : b2 = (h : Int)) (h3 : b3 = (m : Int)) (hlh : l ≤ h) (hhm : h ≤ m) (hmc : m ≤ cc) :
    Wq P G ⟨d, .slice tx x lo hi mx, T, p, e, g⟩ (.slice (sla a m l s) (h - l) (m - l)) w w := fun Ds N A hk => by
  have ex := hk.eval hx
  have el := obq_eval hk hl
  have eh := obq_eval hk hh
  have em := obq_eval hk hm
  generalize A.eval = ev at ex el eh em
  cases vm with
  | none => cases e3
  | some um =>
    cases vh with
    | none => cases e2
    | some uh =>
      cases um <;> simp only [Option.bind_some, bnd, reduceCtorEq, Option.some.injEq] at e3
      cases uh <;> simp only [Option.bind_some, bnd, reduceCtorEq, Option.some.injEq] at e2
      subst e2 e3
      cases vl with
      | none =>
        simp only [bnd, Option.some.injEq] at e1
        obtain rfl : l = 0 := by omega
        simp only [execOp, ex, el, eh, em, Instr.sliceAt, Instr.slice, Instr.sliceBounds, Sem.run_bind, Sem.run_pure, Result.andThen_ok, run_underlying hu, tq_size ht, run_bound h3 hmc, run_bound h2 hhm]
        rfl
      | some u =>
        cases u <;> simp only [bnd, reduceCtorEq, Option.some.injEq] at e1
        subst e1
        simp only [execOp, ex, el, eh, em, Instr.sliceAt, Instr.slice, Instr.sliceBounds, Sem.run_bind, Sem.run_pure, Result.andThen_ok, run_underlying hu, tq_size ht, run_bound h3 hmc, run_bound h2 hhm, run_bound h1 hlh]
        rfl
end
/-! Two vectors; pointers and slices against nil. -/
theorem eqp_nil {D : Nat} {q : Option Addr} {et : TypeId} (hu : P.underlying tx = some (.pointer et)) : (Op.equalIn (D + 1) tx (.pointer q) (.pointer none)).run P w = .ok q.isNone w := by
  cases q <;> simp [Op.equalIn, run_underlying hu]
theorem w_peq {q : Option Addr} {et : TypeId} {t : Bool} (hx : evq G x = some (.pointer q)) (hy : evq G y = some (.pointer none)) (hu : P.underlying tx = some (.pointer et)) (ht : q.isNone = t) : Wq P G ⟨d, .binOp .eql tx x y ty, T, p, e, g⟩ (.bool t) w w := .of2 hx hy fun ev h1 h2 => by
  have h := eqp_nil (P := P) (w := w) (D := 9999) (q := q) hu
  rw [ht] at h
  simp [execOp, h1, h2, binOp, eqGuard, Op.equal, Op.maxDepth, h]
theorem w_pne {q : Option Addr} {et : TypeId} {t : Bool} (hx : evq G x = some (.pointer q)) (hy : evq G y = some (.pointer none)) (hu : P.underlying tx = some (.pointer et)) (ht : q.isNone = !t) : Wq P G ⟨d, .binOp .neq tx x y ty, T, p, e, g⟩ (.bool t) w w := .of2 hx hy fun ev h1 h2 => by
  have h := eqp_nil (P := P) (w := w) (D := 9999) (q := q) hu
  rw [ht] at h
  simp [execOp, h1, h2, binOp, eqGuard, Op.equal, Op.maxDepth, h]
theorem run_vecEq {D : Nat} {t te : TypeId} {a b : Nat} (ha : a < R4) (hb : b < R4) (ht : P.underlying t = some (.array 4 te)) (he : P.underlying te = some (.int .u64)) (hz : tq P te = some (false, 1, nb)) :
    (Op.equalIn (D + 2) t (vec a) (vec b)).run P w = .ok (decide (a = b)) w := by
  have h := run_equalIn_four w (D + 1) t te (dg 0 a) (dg 1 a) (dg 2 a) (dg 3 a) (dg 0 b) (dg 1 b) (dg 2 b) (dg 3 b) ht he (fun w => tq_size hz) (fun x y w => run_equalIn_int w D te .u64 .u64 x y he)
  unfold vec
  rw [h]
  congr 1
  by_cases hab : a = b
  · subst hab; simp
  · rw [decide_eq_false hab]
    refine Bool.eq_false_iff.2 fun hall => hab (vec_inj ha hb ?_)
    simp only [Bool.and_eq_true, beq_iff_eq] at hall
    unfold vec
    rw [hall.1.1.1, hall.1.1.2, hall.1.2, hall.2]
theorem w_veq {a b : Nat} {t : Bool} (hx : evq G x = some (vec a)) (hy : evq G y = some (vec b)) (ha : a < R4) (hb : b < R4) (ht : P.underlying tx = some (.array 4 te)) (he : P.underlying te = some (.int .u64)) (hz : tq P te = some (false, 1, nb)) (hq : P.eqGuardType P.depth tx = false) (hr : decide (a = b) = t) :
    Wq P G ⟨d, .binOp .eql tx x y ty, T, p, e, g⟩ (.bool t) w w := .of2 hx hy fun ev h1 h2 => by
  have h := run_vecEq (P := P) (w := w) (D := 9998) (t := tx) ha hb ht he hz
  rw [hr] at h
  unfold vec at h h1 h2
  simp [execOp, h1, h2, binOp, eqGuard, Op.equal, Op.maxDepth, h, run_program, hq]
theorem w_vne {a b : Nat} {t : Bool} (hx : evq G x = some (vec a)) (hy : evq G y = some (vec b)) (ha : a < R4) (hb : b < R4) (ht : P.underlying tx = some (.array 4 te)) (he : P.underlying te = some (.int .u64)) (hz : tq P te = some (false, 1, nb)) (hq : P.eqGuardType P.depth tx = false) (hr : decide (a ≠ b) = t) :
    Wq P G ⟨d, .binOp .neq tx x y ty, T, p, e, g⟩ (.bool t) w w := .of2 hx hy fun ev h1 h2 => by
  have h := run_vecEq (P := P) (w := w) (D := 9998) (t := tx) ha hb ht he hz
  have hr' : decide (a = b) = !t := by rw [← hr]; by_cases hab : a = b <;> simp [hab]
  rw [hr'] at h
  unfold vec at h h1 h2
  simp [execOp, h1, h2, binOp, eqGuard, Op.equal, Op.maxDepth, h, run_program, hq]
end
section
variable {r : Option Nat} {n N : Nat} {P : Program} {ops : Array Oper} {Q : Exit → Act → World → Prop} {rest : List Oper} {G : List (Nat × Value)} {a : Act} {w w' : World} {v : Value} {Ds : List Nat}
  {d T : Nat} {p : String} {e : Array Edge} {g : Option (Nat × Bool)} {x y : Operand} {tx t te : TypeId} {F0 : Nat → Prop} {W : World} {M R : List Res} {vs cs vs' xs news : List Value} {ab : Bool} {s nb mm cc : Nat} {z : Value}
/-! make([]T, n) -/
theorem q_mks {k : Nat} {i j : Int} (hk : Kn Ds N G a) (hs : Sat F0 W M R w) (hx : evq G x = some (.int .i64 i)) (hy : evq G y = some (.int .i64 j)) (hu : P.underlying tx = some (.slice te)) (ht : tq P te = some (ab, s, nb)) (hz : zq P te = some z) (hzc : z.cells = cs.toArray) (hl : Nat.beq cs.length s = true) (hs0 : Nat.blt 0 s = true)
    (h1 : i = (k : Int)) (h2 : j = (k : Int)) (hb : k * nb ≤ 140737488355328) (h63 : k ≤ 9223372036854775807) (hd : Nat.ble (d + 1) N = true) (hg : wq ops G g = some true)
    (h : ∀ b w a, Kn Ds N ((d, .slice (some ⟨b, 0, none⟩) k k) :: G) a → Sat F0 W (blk b ((List.range k).flatMap fun _ => cs) te :: M) R w → wpListIn (Fr r) n P ops Q rest a w) :
    wpListIn (Fr r) n P ops Q (⟨some d, .makeSlice tx x y, T, p, e, g⟩ :: rest) a w := by
  subst h1 h2
  have hl' := Nat.eq_of_beq_eq_true hl
  have hs0' : 0 < s := by have := Nat.le_of_ble_eq_true hs0; omega
  have hw : IntKind.i64.wrap (k : Int) = (k : Int) := wr64 (by omega) (by omega)
  have hcell : (Array.range (k * s)).map (fun i => z.cells[i % z.cells.size]!) = ((List.range k).flatMap fun _ => cs).toArray := by
    rw [hzc]
    apply Array.ext'
    simp only [Array.toList_map, Array.toList_range, List.toList_toArray]
    clear hb h63 hw hk h hx hy
    induction k with
    | zero => simp
    | succ k ih =>
      rw [Nat.succ_mul, List.range_add, List.map_append, ih, List.range_succ, List.flatMap_append]
      congr 1
      simp only [List.map_map, List.flatMap_cons, List.flatMap_nil, List.append_nil]
      apply List.ext_getElem
      · simp [hl']
      · intro i h1 h2
        simp only [List.length_map, List.length_range] at h1
        simp only [List.getElem_map, List.getElem_range, Function.comp, List.size_toArray, hl']
        rw [show (k * s + i) % s = i by rw [Nat.add_comm, Nat.add_mul_mod_self_right, Nat.mod_eq_of_lt h1]]
        simp [h2]
  obtain ⟨inf, hi, hiz, his, hib⟩ := tz_info ht hz
  have hy : Wq P G ⟨some d, .makeSlice tx x y, T, p, e, g⟩ (.slice (some ⟨w.heap.size, 0, none⟩) k k) w (w.alloc (.cells ((List.range k).flatMap fun _ => cs).toArray te)) := .of2 hx hy fun ev h1 h2 => by
    have hm := run_make (P := P) w tx te inf z hu hi hiz .i64 .i64 (k : Int) (k : Int) (by omega) (Int.le_refl _) (by rw [hib, ← Int.natCast_mul, Nat.mul_comm]; omega) (by omega)
    simp only [Int.toNat_natCast, madeCells, his, hcell] at hm
    simp only [execOp, h1, h2, Sem.run_bind, hm, Result.andThen_ok, Sem.run_pure]
  exact q_val hk hy hd rfl hg fun a hk => h _ _ a hk hs.alloc
/-- An element of an array of the call's own is written. -/
theorem q_stoE {α : Type} {c : α → List Value} {f : Nat → α} {xx : α} {b k m : Nat} {tt : TypeId} {q : Addr} (hk : Kn Ds N G a) (hs : Sat F0 W (blk b (en c f m) t :: M) R w) (hx : evq G x = some (.pointer (some q))) (hq : q = (⟨b, 0, none⟩ : Addr).add (k * s)) (hy : evq G y = some v) (ht : tq P tt = some (ab, s, nb))
    (hc : v.cells = (c xx).toArray) (hlen : ∀ x, (c x).length = s) (h1 : ones (c xx) = true) (hkm : k < m) (hg : wq ops G g = some true)
    (h : ∀ w, Sat F0 W (blk b (en c (fun i => if i = k then xx else f i) m) t :: M) R w → wpListIn (Fr r) n P ops Q rest a w) : wpListIn (Fr r) n P ops Q (⟨none, .store tt x y, T, p, e, g⟩ :: rest) a w := by
  have hb : Nat.ble (k * s + s) (en c f m).length = true := Nat.ble_eq_true_of_le (by rw [en_len hlen, ← Nat.succ_mul]; exact Nat.mul_le_mul_right _ hkm)
  refine q_sto hk hs hx (o := k * s) (by rw [hq, add_pos, Nat.zero_add]) hy ht hc (by rw [hlen]; exact Nat.beq_refl _) h1 hb rfl hg fun w hs => h w ?_
  rw [en_set hlen hkm] at hs
  exact hs
end
section
variable {α : Type} {c : α → List Value} {f g h : Nat → α} {n k : Nat}
theorem en_upto : en c (fun i => if i = k then g k else if i < k then g i else h i) n = en c (fun i => if i < k + 1 then g i else h i) n := en_congr fun i _ => by
  by_cases h1 : i = k
  · subst h1; rw [if_pos rfl, if_pos (Nat.lt_succ_self _)]
  · by_cases h2 : i < k
    · rw [if_neg h1, if_pos h2, if_pos (by omega)]
    · rw [if_neg h1, if_neg h2, if_neg (by omega)]
theorem en_full : en c (fun i => if i < n then g i else h i) n = en c g n := en_congr fun i hi => if_pos hi
theorem en_none : en c (fun i => if i < 0 then g i else h i) n = en c h n := en_congr fun i _ => if_neg (Nat.not_lt_zero i)
theorem made_en {cs : List Value} {x : α} (hx : c x = cs) : ((List.range n).flatMap fun _ => cs) = en c (fun _ => x) n := by subst hx; rfl
end
/-! Results in cells. -/
section
variable {P : Program} {N : Nat} {G : List (Nat × Value)} {a : Act} {w : World} {Ds : List Nat}
def resq (P : Program) (G : List (Nat × Value)) (w : World) : List ResultVar → List Value → Prop
  | [], [] => True
  | .tmp t :: r, v :: vs => gq G t = some v ∧ resq P G w r vs
  | .cell t T :: r, v :: vs => (∃ q, gq G t = some (.pointer (some q)) ∧ (loadVar T q).run P w = .ok v w) ∧ resq P G w r vs
  | _, _ => False
def resF (tmps : Array Value) : ResultVar → Sem Value
  | .tmp t => pure (tmps.getD t undef)
  | .cell b T => do loadVar T (← asAddr (tmps.getD b undef))
theorem results_eq (fn : Func) (tmps : Array Value) : results fn tmps = (fn.results.mapM (resF tmps) >>= fun vs => pure (if h : vs.size = 1 then vs[0] else .tuple vs)) := by
  unfold results
  congr 1
theorem resq_run (hk : Kn Ds N G a) : ∀ {rs : List ResultVar} {vs : List Value}, resq P G w rs vs → (rs.mapM (resF a.tmps)).run P w = .ok vs w
  | [], [], _ => rfl
  | .tmp t :: r, v :: vs, h => by
    rw [List.mapM_cons, Sem.run_bind]
    have h1 : a.tmps.getD t undef = v := by simp [Array.getD_eq_getD_getElem?, hk.at_ t v h.1]
    simp only [resF, h1, Sem.run_pure, Result.andThen_ok, Sem.run_bind, resq_run hk h.2]
  | .cell t T :: r, v :: vs, h => by
    obtain ⟨⟨q, hq, hl⟩, h2⟩ := h
    rw [List.mapM_cons, Sem.run_bind]
    have h1 : a.tmps.getD t undef = .pointer (some q) := by simp [Array.getD_eq_getD_getElem?, hk.at_ t _ hq]
    simp only [resF, h1, asAddr, Sem.run_pure, Result.andThen_ok, Sem.run_bind, hl, resq_run hk h2]
  | [], _ :: _, h => h.elim
  | .tmp _ :: _, [], h => h.elim
  | .cell _ _ :: _, [], h => h.elim
def valq : List Value → Value | [x] => x | vs => .tuple vs.toArray
theorem c_retG {fn : Func} {R : Ending → World → Prop} {rs : List ResultVar} {vs : List Value} {v : Value} (hk : Kn [] N G a) (hr : fn.results = rs.toArray) (h : resq P G w rs vs) (hv : valq vs = v) (hR : R (.returned v) w) : bodyPost P fn R .ret a w := by
  refine ⟨hk.df, v, ?_, hR⟩
  have h0 := resq_run hk h
  rw [results_eq, hr, Array.mapM_eq_mapM_toList]
  have h1 : (List.toArray <$> rs.toArray.toList.mapM (resF a.tmps) : Sem _).run P w = .ok vs.toArray w := by
    show (rs.mapM (resF a.tmps) >>= fun l => pure l.toArray : Sem _).run P w = _
    rw [Sem.run_bind, h0, Result.andThen_ok]
    rfl
  rw [Sem.run_bind, h1, Result.andThen_ok, Sem.run_pure]
  subst hv
  clear h h0 h1 hR
  match vs with
  | [] => rfl
  | [x] => rfl
  | x :: y :: l => rfl
theorem lv_A {q : Addr} {T : TypeId} {s n : Nat} {xs : List Value} (ht : tq P T = some (true, s, n)) (hc : CellsAt w q xs) (hs : xs.length = s) : (loadVar T q).run P w = .ok (.agg xs.toArray) w := by
  subst hs
  simp only [loadVar, Sem.run_bind, tq_agg ht, Result.andThen_ok, tq_size ht, if_true]
  rw [run_loadCells_list w q xs hc]
  rfl
theorem lv_1 {q : Addr} {T : TypeId} {s n : Nat} {v : Value} (ht : tq P T = some (false, s, n)) (hc : CellsAt w q [v]) : (loadVar T q).run P w = .ok v w := by
  have h0 := hc 0 v rfl
  rw [show q.add 0 = q from rfl] at h0
  simp [loadVar, Sem.run_bind, tq_agg ht, Result.andThen_ok, load, Sem.run, h0]
end
/-! Masks; loops gone round by round. -/
def am (b : Bool) : Int := if b then 18446744073709551615 else 0
section
variable {F : Fence} {n : Nat} {P : Program} {Q : Exit → Act → World → Prop} {a : Act} {w : World} {c : Code} {G : List (Nat × Value)} {d : Option Nat} {T : Nat} {p : String} {e : Array Edge} {g : Option (Nat × Bool)} {x y : Operand} {tx ty : TypeId}
theorem w_andam {b1 b2 : Bool} (hx : evq G x = some (.int .u64 (am b1))) (hy : evq G y = some (.int .u64 (am b2))) : Wq P G ⟨d, .binOp .and tx x y ty, T, p, e, g⟩ (.int .u64 (am (b1 && b2))) w w := .of2 hx hy fun ev h1 h2 => by
  cases b1 <;> cases b2 <;> (simp only [am] at h1 h2 ⊢; simp [execOp, h1, h2, binOp, Op.intBits, Sem.run_pure, go_sem]; try decide)
theorem c_rounds (m : Nat) (h : Code.roundsIn F n P c Q m a w) : (Code.loop c).wpIn F n P Q a w := wpIn_loop_rounds m h
theorem c_rsucc {m : Nat} (h : c.wpIn F n P (Exit.then (Code.roundsIn F n P c Q m) Q) a w) : Code.roundsIn F n P c Q (m + 1) a w := h
end
/-! Arrays that are put together. -/
theorem vec_small {n : Nat} (h : n < W) : vec n = .agg #[.int .u64 ((n : Nat) : Int), .int .u64 0, .int .u64 0, .int .u64 0] := by
  have h0 : dg 0 n = n := by unfold dg; rw [Nat.pow_zero, Nat.div_one, Nat.mod_eq_of_lt h]
  have hk : ∀ k, 0 < k → dg k n = 0 := fun k hk => by
    unfold dg
    have : n < W ^ k := Nat.lt_of_lt_of_le h (by rw [← Nat.pow_one W]; exact Nat.pow_le_pow_right (by decide) hk)
    rw [Nat.div_eq_of_lt this, Nat.zero_mod]
  unfold vec
  rw [h0, hk 1 (by decide), hk 2 (by decide), hk 3 (by decide)]
  rfl
section
variable {P : Program} {G : List (Nat × Value)} {w : World} {v v' : Value} {d : Option Nat} {T : Nat} {p : String} {e : Array Edge} {g : Option (Nat × Bool)} {x y c : Operand} {tx ty te : TypeId} {s nb n k cc : Nat} {b : Bool}
theorem fillq_arr (s : Nat) (l : List (Nat × Nat)) (m : Nat) (hl : ∀ i, i < m → l[i]? = some (i * s, s)) : ∀ (ps : List (Nat × Value)) (cells cs : List Value), (∀ q ∈ ps, q.1 < m) → fillq l cells ps = some cs → Instr.fill (fun i => some (i * s, s)) cells.toArray ps = some cs.toArray
  | [], cells, cs, _, h => by cases h; rfl
  | (i, v) :: r, cells, cs, hm, h => by
    unfold fillq at h
    rw [hl i (hm _ (.head _))] at h
    simp only at h
    split at h
    · rename_i hb
      rw [Bool.and_eq_true] at hb
      have h1 := Nat.eq_of_beq_eq_true hb.1
      have h2 := Nat.le_of_ble_eq_true hb.2
      unfold Instr.fill
      simp only
      rw [if_neg (by simp [h1]; omega), ← Array.foldl_toList, Array.toList_zipIdx, foldl_splice v.cells.toList (i * s) 0 cells.toArray (by simp [h1]; omega)]
      simp only [Nat.add_zero, Array.length_toList, h1, List.toList_toArray]
      exact fillq_arr s l m hl r _ cs (fun q hq => hm q (.tail _ hq)) h
    · cases h
theorem w_bldA {l : List (Nat × Operand)} {ps : List (Nat × Value)} {z : Value} {zs cs : List Value} (hp : partsq G l = some ps) (hu : P.underlying tx = some (.array n te)) (ht : tq P te = some (b, s, nb)) (hz : zq P tx = some z) (hzs : z.cells = zs.toArray) (hm : ps.all (fun q => Nat.blt q.1 n) = true) (hc : fillq ((List.range n).map fun i => (i * s, s)) zs ps = some cs) :
    Wq P G ⟨d, .build tx l.toArray, T, p, e, g⟩ (.agg cs.toArray) w w := fun Ds N a hk => by
  have hev := partsq_eval hk hp
  generalize a.eval = ev at hev
  have hfl := fillq_arr s _ n (fun i hi => by simp [hi]) ps zs cs (fun q hq => by have := List.all_eq_true.1 hm q hq; have := Nat.le_of_ble_eq_true this; omega) hc
  have hpl : (l.toArray.map fun (x : Nat × Operand) => (x.1, ev x.2)) = ps.toArray := by rw [List.map_toArray, hev]
  simp only [execOp, Instr.build, Sem.run_bind, Sem.run_pure, Result.andThen_ok, run_underlying hu, zq_zero hz, hzs, hpl, tq_size ht, hfl]
/-- A vector of no word, of one word. -/
theorem w_bldv0 (hu : P.underlying tx = some (.array 4 te)) (ht : tq P te = some (false, 1, nb)) (hz : zq P tx = some (.agg #[.int .u64 0, .int .u64 0, .int .u64 0, .int .u64 0])) : Wq P G ⟨d, .build tx #[], T, p, e, g⟩ (vec 0) w w := by
  rw [vec_small (show 0 < W by decide)]
  exact w_bldA (l := []) rfl hu ht hz rfl rfl rfl
theorem w_bldv1 {i : Int} (hx : evq G x = some (.int .u64 i)) (hi : i = (k : Int)) (hk : k < W) (hu : P.underlying tx = some (.array 4 te)) (ht : tq P te = some (false, 1, nb)) (hz : zq P tx = some (.agg #[.int .u64 0, .int .u64 0, .int .u64 0, .int .u64 0])) : Wq P G ⟨d, .build tx #[(0, x)], T, p, e, g⟩ (vec k) w w := by
  subst hi
  rw [vec_small hk]
  refine w_bldA (l := [(0, x)]) (ps := [(0, .int .u64 (k : Int))]) ?_ hu ht hz rfl rfl rfl
  unfold partsq
  rw [hx]
  rfl
end
/-! A region that draws its order, where two operations may come up: both are gone through, up to where they meet. -/
def soleP (md : Region.Mode) (m i k : Nat) : Nat → List Oper → Bool
  | _, [] => true
  | j, y :: r => (j == i || j == k || m.testBit j || y.after.any fun e => Region.binds md e && !m.testBit e.on) && soleP md m i k (j + 1) r
theorem soleP_spec {md : Region.Mode} {m i k' : Nat} : ∀ {l : List Oper} {k : Nat}, soleP md m i k' k l = true → ∀ j y, l[j]? = some y → k + j = i ∨ k + j = k' ∨ m.testBit (k + j) = true ∨ ∃ e ∈ y.after, Region.binds md e = true ∧ m.testBit e.on = false
  | [], _, _, j, _, h => by simp at h
  | x :: r, k, hB, j, y, h => by
    simp only [soleP, Bool.and_eq_true, Bool.or_eq_true, beq_iff_eq, Array.any_eq_true', Bool.not_eq_true'] at hB
    cases j with
    | zero =>
      simp only [List.getElem?_cons_zero, Option.some.injEq] at h
      subst h
      rcases hB.1 with ((h1 | h1) | h1) | ⟨e, h1, h2, h3⟩
      · exact .inl h1
      · exact .inr (.inl h1)
      · exact .inr (.inr (.inl h1))
      · exact .inr (.inr (.inr ⟨e, h1, h2, h3⟩))
    | succ j =>
      have := soleP_spec hB.2 j y (by simpa using h)
      rw [show k + (j + 1) = k + 1 + j by omega]
      exact this
section
variable {P : Program} {Q : Exit → Act → World → Prop} {r : Option Nat} {m n : Nat} {a : Act} {w : World} {ops : Array Oper} {L : List Res} {k k' n' : Nat} {o : Oper}
def chk2 (ops : Array Oper) (n' k ki kj i j : Nat) : Bool := match ops.toList.drop i, ops.toList.drop j with | o :: _, o' :: _ => chk0 ops n' k ki i o && chk0 ops n' k kj j o' && soleP .any k i j 0 ops.toList | _, _ => false
theorem take_op {i : Nat} {rr : List Oper} (hi : ops.toList.drop i = o :: rr) (hm : k ||| 1 <<< i = k')
    (h : ∀ K : Act → World → Prop, (∀ a w, okL L w → wpAnyQ r m P .any ops (npQ Q) (okL L) n (lsM n' k') a w → K a w) → wpListIn (Fr r) m P ops (Exit.then K (npQ Q)) [o] a w) :
    wpOpIn (Fr r) m P ops (npQ Q) i (fun a' w' => okL L w' ∧ wpAnyQ r m P .any ops (npQ Q) (okL L) n ((lsM n' k).setIfInBounds i true) a' w') a w := by
  have h1 := h (fun a' w' => okL L w' ∧ wpAnyQ r m P .any ops (npQ Q) (okL L) n ((lsM n' k).setIfInBounds i true) a' w') (fun a w h1 h2 => ⟨h1, by rw [lsM_set hm]; exact h2⟩)
  unfold wpOpIn
  simp only [drop_at hi]
  unfold wpListIn at h1
  split
  · rename_i hw
    rw [if_pos hw] at h1
    exact Oper.wpIn_swap h1
  · rename_i hw
    rw [if_neg hw] at h1
    exact h1
theorem d_2 (i j ki kj : Nat) {oi oj : Oper} {ri rj : List Oper} (hi : ops.toList.drop i = oi :: ri) (hj : ops.toList.drop j = oj :: rj) (hc : chk2 ops n' k ki kj i j = true)
    (h1 : ∀ K : Act → World → Prop, (∀ a w, okL L w → wpAnyQ r m P .any ops (npQ Q) (okL L) n (lsM n' ki) a w → K a w) → wpListIn (Fr r) m P ops (Exit.then K (npQ Q)) [oi] a w)
    (h2 : ∀ K : Act → World → Prop, (∀ a w, okL L w → wpAnyQ r m P .any ops (npQ Q) (okL L) n (lsM n' kj) a w → K a w) → wpListIn (Fr r) m P ops (Exit.then K (npQ Q)) [oj] a w) :
    wpAnyQ r m P .any ops (npQ Q) (okL L) (n + 1) (lsM n' k) a w := by
  unfold chk2 at hc
  rw [hi, hj] at hc
  simp only [Bool.and_eq_true] at hc
  obtain ⟨⟨hci, hcj⟩, hso⟩ := hc
  obtain ⟨hN, hs, hun, haf, hlt, hmi⟩ := chk0_spec hci
  obtain ⟨_, _, _, _, _, hmj⟩ := chk0_spec hcj
  have hr := readyM (md := .any) hN hi hun haf hlt
  refine ⟨fun h0 => (by rw [h0] at hr; cases hr), fun q hq => ?_⟩
  obtain ⟨hqun, oq, hoq, hall⟩ := mem_ready.1 hq
  have hl := (Array.getElem?_eq_some_iff.1 hoq).1
  rw [lsM_getD, if_pos (by omega)] at hqun
  have eq : q = i ∨ q = j := by
    rcases soleP_spec hso q oq (by simpa using hoq) with h1 | h1 | h1 | ⟨e, h1, h2, h3⟩
    · omega
    · omega
    · rw [Nat.zero_add, hqun] at h1; cases h1
    · have h4 := hall e h1 h2
      rw [lsM_getD] at h4
      split at h4
      · rw [h3] at h4; cases h4
      · cases h4
  rcases eq with rfl | rfl
  · exact take_op hi hmi h1
  · exact take_op hj hmj h2
def soleS (md : Region.Mode) (m : Nat) (is : List Nat) : Nat → List Oper → Bool
  | _, [] => true
  | j, y :: r => (is.contains j || m.testBit j || y.after.any fun e => Region.binds md e && !m.testBit e.on) && soleS md m is (j + 1) r
theorem soleS_spec {md : Region.Mode} {m : Nat} {is : List Nat} : ∀ {l : List Oper} {k : Nat}, soleS md m is k l = true → ∀ j y, l[j]? = some y → k + j ∈ is ∨ m.testBit (k + j) = true ∨ ∃ e ∈ y.after, Region.binds md e = true ∧ m.testBit e.on = false
  | [], _, _, j, _, h => by simp at h
  | x :: r, k, hB, j, y, h => by
    simp only [soleS, Bool.and_eq_true, Bool.or_eq_true, List.contains_iff_mem, Array.any_eq_true', Bool.not_eq_true'] at hB
    cases j with
    | zero =>
      simp only [List.getElem?_cons_zero, Option.some.injEq] at h
      subst h
      rcases hB.1 with (h1 | h1) | ⟨e, h1, h2, h3⟩
      · exact .inl h1
      · exact .inr (.inl h1)
      · exact .inr (.inr ⟨e, h1, h2, h3⟩)
    | succ j =>
      have := soleS_spec hB.2 j y (by simpa using h)
      rw [show k + (j + 1) = k + 1 + j by omega]
      exact this
def chk3 (ops : Array Oper) (n' k ki kj kl i j l : Nat) : Bool := match ops.toList.drop i, ops.toList.drop j, ops.toList.drop l with | o :: _, o' :: _, o2 :: _ => chk0 ops n' k ki i o && chk0 ops n' k kj j o' && chk0 ops n' k kl l o2 && soleS .any k [i, j, l] 0 ops.toList | _, _, _ => false
/-- Three may come up. -/
theorem d_3 (i j l ki kj kl : Nat) {oi oj ol : Oper} {ri rj rl : List Oper} (hi : ops.toList.drop i = oi :: ri) (hj : ops.toList.drop j = oj :: rj) (hl : ops.toList.drop l = ol :: rl) (hc : chk3 ops n' k ki kj kl i j l = true)
    (h1 : ∀ K : Act → World → Prop, (∀ a w, okL L w → wpAnyQ r m P .any ops (npQ Q) (okL L) n (lsM n' ki) a w → K a w) → wpListIn (Fr r) m P ops (Exit.then K (npQ Q)) [oi] a w)
    (h2 : ∀ K : Act → World → Prop, (∀ a w, okL L w → wpAnyQ r m P .any ops (npQ Q) (okL L) n (lsM n' kj) a w → K a w) → wpListIn (Fr r) m P ops (Exit.then K (npQ Q)) [oj] a w)
    (h3 : ∀ K : Act → World → Prop, (∀ a w, okL L w → wpAnyQ r m P .any ops (npQ Q) (okL L) n (lsM n' kl) a w → K a w) → wpListIn (Fr r) m P ops (Exit.then K (npQ Q)) [ol] a w) :
    wpAnyQ r m P .any ops (npQ Q) (okL L) (n + 1) (lsM n' k) a w := by
  unfold chk3 at hc
  rw [hi, hj, hl] at hc
  simp only [Bool.and_eq_true] at hc
  obtain ⟨⟨⟨hci, hcj⟩, hcl⟩, hso⟩ := hc
  obtain ⟨hN, hs, hun, haf, hlt, hmi⟩ := chk0_spec hci
  obtain ⟨_, _, _, _, _, hmj⟩ := chk0_spec hcj
  obtain ⟨_, _, _, _, _, hml⟩ := chk0_spec hcl
  have hr := readyM (md := .any) hN hi hun haf hlt
  refine ⟨fun h0 => (by rw [h0] at hr; cases hr), fun q hq => ?_⟩
  obtain ⟨hqun, oq, hoq, hall⟩ := mem_ready.1 hq
  have hlq := (Array.getElem?_eq_some_iff.1 hoq).1
  rw [lsM_getD, if_pos (by omega)] at hqun
  have eq : q = i ∨ q = j ∨ q = l := by
    rcases soleS_spec hso q oq (by simpa using hoq) with h1 | h1 | ⟨e, h1, h2, h3⟩
    · simpa using h1
    · rw [Nat.zero_add, hqun] at h1; cases h1
    · have h4 := hall e h1 h2
      rw [lsM_getD] at h4
      split at h4
      · rw [h3] at h4; cases h4
      · cases h4
  rcases eq with rfl | rfl | rfl
  · exact take_op hi hmi h1
  · exact take_op hj hmj h2
  · exact take_op hl hml h3
theorem d_join {n1 n2 : Nat} (k' : Nat) (J : Act → World → Prop) (h : (∀ a w, J a w → wpAnyQ r m P .any ops (npQ Q) (okL L) n2 (lsM n' k') a w) → wpAnyQ r m P .any ops (npQ Q) (okL L) n1 (lsM n' k) a w)
    (hJ : ∀ a w, J a w → wpAnyQ r m P .any ops (npQ Q) (okL L) n2 (lsM n' k') a w) : wpAnyQ r m P .any ops (npQ Q) (okL L) n1 (lsM n' k) a w := h hJ
end
/-! A scope with two labels: 1, to which the run comes back, and 0, from which it leaves. -/
def Exit.jumps (J : Nat → Act → World → Prop) (Q : Exit → Act → World → Prop) : Exit → Act → World → Prop
  | .goto l, a, w => J l a w
  | e, a, w => Q e a w
theorem stepR_scope {P : Program} {b : Frame} {a : Act} {k : List Item} {cs : List Frame} {w : World} {c : Code} : step P (lone (b.atR a (.code (.scope c) :: k)) cs w) = .next (lone (b.atR a (.code c :: .inScope c :: k)) cs w) :=
  step_lone_go (by simp [stepG, stepG.exec, Frame.atR])
theorem stepR_inScope {P : Program} {b : Frame} {a : Act} {k : List Item} {cs : List Frame} {w : World} {c : Code} : step P (lone (b.atR a (.inScope c :: k)) cs w) = .next (lone (b.atR a k) cs w) :=
  step_lone_go (by simp [stepG, stepG.exec, Frame.atR])
section
variable {F : Fence} {n : Nat} {P : Program} {Q : Exit → Act → World → Prop} {a : Act} {w : World} {K : Act → World → Prop} {J : Nat → Act → World → Prop} {l i : Nat}
theorem x_jn (h : Q .normal a w) : Exit.jumps J Q .normal a w := h
theorem x_jr (h : Q .ret a w) : Exit.jumps J Q .ret a w := h
theorem x_jg (h : J l a w) : Exit.jumps J Q (.goto l) a w := h
theorem x_tg (h : Q (.goto l) a w) : Exit.then K Q (.goto l) a w := h
theorem x_bg (h : Q (.goto l) a w) : Exit.inBlock i Q (.goto l) a w := h
theorem wpIn_scope {c : Code} (J : Nat → Act → World → Prop) (S : Nat → Act → World → Nat → Prop) (R : Nat → Code) (hR : ∀ l a w, J l a w → findLabel c l = some (R l))
    (hS : ∀ l a w, J l a w → ∃ m, S l a w m)
    (first : c.wpIn F n P (Exit.jumps J Q) a w) (pass : ∀ m l a w, J l a w → S l a w m → (R l).wpIn F n P (Exit.jumps (fun l' a' w' => J l' a' w' ∧ ∃ m', S l' a' w' m' ∧ m' < m) Q) a w) : (Code.scope c).wpIn F n P Q a w := by
  intro b k cs hro hb hr
  have h0 : (lone (b.atR a (.code (.scope c) :: k)) cs w).fenced P F := fenced_calm hb hr rfl
  have key : ∀ m l a w, J l a w → S l a w m → ∃ e a' w', Q e a' w' ∧ ArrivesIn (Machine.fenced P F) P (lone (b.atR a (.code (R l) :: .inScope c :: k)) cs w) b k cs e a' w' := by
    intro m
    induction m using Nat.strongRecOn with
    | _ m ih =>
      intro l a w hJ hm
      obtain ⟨e, a₁, w₁, hq, harr⟩ := pass m l a w hJ hm b (.inScope c :: k) cs hro hb hr
      cases e with
      | normal => exact ⟨.normal, a₁, w₁, hq, StepsIn.trans harr (.one (fenced_calm hb hr rfl) stepR_inScope)⟩
      | exit id => exact ⟨_, a₁, w₁, hq, ⟨fun k' hk => harr.1 k' (by simp [exitTo, hk]), fun hr' hk => harr.2 hr' (by simpa [exitTo] using hk)⟩⟩
      | goto l' =>
        obtain ⟨hJ', m', hm', hlt⟩ := hq
        obtain ⟨e₂, a₂, w₂, hq₂, harr₂⟩ := ih m' hlt l' a₁ w₁ hJ' hm'
        exact ⟨e₂, a₂, w₂, hq₂, .of_steps (harr.1 _ (by simp [gotoIn, hR _ _ _ hJ'])) harr₂⟩
      | ret => exact ⟨_, a₁, w₁, hq, harr⟩
      | panic ch => exact ⟨_, a₁, w₁, hq, harr⟩
      | outgrown => exact ⟨_, a₁, w₁, hq, harr⟩
  obtain ⟨e, a₁, w₁, hq, harr⟩ := first b (.inScope c :: k) cs hro hb hr
  cases e with
  | normal => exact ⟨.normal, a₁, w₁, hq, .head h0 stepR_scope (StepsIn.trans harr (.one (fenced_calm hb hr rfl) stepR_inScope))⟩
  | exit id => exact ⟨_, a₁, w₁, hq, .of_steps (.one h0 stepR_scope) (⟨fun k' hk => harr.1 k' (by simp [exitTo, hk]), fun hr' hk => harr.2 hr' (by simpa [exitTo] using hk)⟩)⟩
  | goto l' =>
    obtain ⟨m', hm'⟩ := hS _ _ _ hq
    obtain ⟨e₂, a₂, w₂, hq₂, harr₂⟩ := key m' l' a₁ w₁ hq hm'
    exact ⟨e₂, a₂, w₂, hq₂, .of_steps (.head h0 stepR_scope (harr.1 _ (by simp [gotoIn, hR _ _ _ hq]))) harr₂⟩
  | ret => exact ⟨_, a₁, w₁, hq, .of_steps (.one h0 stepR_scope) harr⟩
  | panic ch => exact ⟨_, a₁, w₁, hq, .of_steps (.one h0 stepR_scope) harr⟩
  | outgrown => exact ⟨_, a₁, w₁, hq, .of_steps (.one h0 stepR_scope) harr⟩
end
section
variable {F : Fence} {n : Nat} {P : Program} {Q : Exit → Act → World → Prop} {a : Act} {w : World} {α : Type} {I1 : α → Act → World → Prop} {μ : α → Nat} {I0 : Act → World → Prop} {R1 R0 : Code}
theorem jumps_mono {J J' : Nat → Act → World → Prop} {c : Code} (h : c.wpIn F n P (Exit.jumps J Q) a w) (hJ : ∀ l a w, J l a w → J' l a w) : c.wpIn F n P (Exit.jumps J' Q) a w :=
  wpIn_mono h fun e a w q => by cases e <;> first | exact hJ _ _ _ q | exact q
theorem c_fall1 (H1 : ∀ k a w, I1 k a w → R1.wpIn F n P (Exit.jumps (fun l a' w' => (l = 1 ∧ ∃ k', I1 k' a' w' ∧ μ k' < μ k) ∨ (l = 0 ∧ I0 a' w')) Q) a w) (k : α) (h : I1 k a w) :
    R1.wpIn F n P (Exit.jumps (fun l a' w' => (l = 1 ∧ ∃ k', I1 k' a' w') ∨ (l = 0 ∧ I0 a' w')) Q) a w :=
  jumps_mono (H1 k a w h) fun _ _ _ q => q.imp (fun ⟨e, k', h, _⟩ => ⟨e, k', h⟩) id
theorem c_fall0 {J : Nat → Act → World → Prop} (H0 : ∀ a w, I0 a w → R0.wpIn F n P (Exit.jumps (fun _ _ _ => False) Q) a w) (h : I0 a w) : R0.wpIn F n P (Exit.jumps J Q) a w :=
  jumps_mono (H0 a w h) fun _ _ _ q => q.elim
theorem c_scope {c : Code} (I1 : α → Act → World → Prop) (μ : α → Nat) (I0 : Act → World → Prop) (h1 : findLabel c 1 = some (.seq .skip R1)) (h0 : findLabel c 0 = some (.seq .skip R0))
    (H0 : ∀ a w, I0 a w → R0.wpIn F n P (Exit.jumps (fun _ _ _ => False) Q) a w)
    (H1 : (∀ a w, I0 a w → R0.wpIn F n P (Exit.jumps (fun _ _ _ => False) Q) a w) → ∀ k a w, I1 k a w → R1.wpIn F n P (Exit.jumps (fun l a' w' => (l = 1 ∧ ∃ k', I1 k' a' w' ∧ μ k' < μ k) ∨ (l = 0 ∧ I0 a' w')) Q) a w)
    (first : (∀ a w, I0 a w → R0.wpIn F n P (Exit.jumps (fun _ _ _ => False) Q) a w) → (∀ k a w, I1 k a w → R1.wpIn F n P (Exit.jumps (fun l a' w' => (l = 1 ∧ ∃ k', I1 k' a' w' ∧ μ k' < μ k) ∨ (l = 0 ∧ I0 a' w')) Q) a w) →
      c.wpIn F n P (Exit.jumps (fun l a' w' => (l = 1 ∧ ∃ k', I1 k' a' w') ∨ (l = 0 ∧ I0 a' w')) Q) a w) : (Code.scope c).wpIn F n P Q a w := by
  refine wpIn_scope (fun l a' w' => (l = 1 ∧ ∃ k', I1 k' a' w') ∨ (l = 0 ∧ I0 a' w')) (fun l a' w' m => (l = 1 ∧ ∃ k', I1 k' a' w' ∧ m = μ k' + 1) ∨ (l = 0 ∧ I0 a' w' ∧ m = 0)) (fun l => if l = 1 then .seq .skip R1 else .seq .skip R0)
    (fun l a w h => ?_) (fun l a w h => ?_) (first H0 (H1 H0)) (fun m l a w _ hm => ?_)
  · rcases h with ⟨rfl, _⟩ | ⟨rfl, _⟩
    · exact h1
    · exact h0
  · rcases h with ⟨rfl, k, h⟩ | ⟨rfl, h⟩
    · exact ⟨_, .inl ⟨rfl, k, h, rfl⟩⟩
    · exact ⟨_, .inr ⟨rfl, h, rfl⟩⟩
  · rcases hm with ⟨rfl, k, h, rfl⟩ | ⟨rfl, h, rfl⟩
    · rw [if_pos rfl]
      refine wpIn_seq (wpIn_skip ?_)
      refine jumps_mono (H1 H0 k a w h) fun l a' w' q => ?_
      rcases q with ⟨rfl, k', h', hlt⟩ | ⟨rfl, h'⟩
      · exact ⟨.inl ⟨rfl, k', h'⟩, _, .inl ⟨rfl, k', h', rfl⟩, by omega⟩
      · exact ⟨.inr ⟨rfl, h'⟩, _, .inr ⟨rfl, h', rfl⟩, by omega⟩
    · rw [if_neg (by decide)]
      exact wpIn_seq (wpIn_skip (jumps_mono (H0 a w h) fun _ _ _ q => q.elim))
end
theorem okr1 {W : World} {r1 : Res} (h1 : r1.ok W) : ∀ r ∈ [r1], r.ok W := fun r hr => by rcases List.mem_singleton.1 hr with rfl; exact h1
theorem okrc {W : World} {r1 : Res} {R : List Res} (h1 : r1.ok W) (h : ∀ r ∈ R, r.ok W) : ∀ r ∈ r1 :: R, r.ok W := fun r hr => by
  rcases List.mem_cons.1 hr with rfl | hr
  · exact h1
  · exact h r hr
/-- A part of a list of bytes. -/
theorem subB {w : World} {a : Option Addr} {n cc l h m : Nat} {L : List Nat} (hL : LstAt w 1 (.slice a n cc) n (el bc L)) (h1 : l ≤ h) (h2 : h ≤ n) (h3 : h ≤ m) (h4 : m ≤ cc) : LstAt w 1 (.slice (sla a m l 1) (h - l) (m - l)) (h - l) (el bc ((L.drop l).take (h - l))) := by
  have := hL.sub h1 h2 h3 h4
  have e : ∀ (k j : Nat) (L : List Nat), ((el bc L).drop k).take j = el bc ((L.drop k).take j) := by
    have e1 : ∀ L : List Nat, el bc L = L.map fun x => Value.int .u8 ((x : Nat) : Int) := fun L => by
      induction L with
      | nil => rfl
      | cons y m ih => simp only [el, List.flatMap_cons, List.map_cons] at ih ⊢; rw [ih]; rfl
    intro k j L
    rw [e1, e1, List.map_take, List.map_drop]
  rw [Nat.mul_one, Nat.mul_one, e] at this
  exact this
theorem sla_some {w : World} {a : Option Addr} {n cc l m s : Nat} {xs : List Value} (h : LstAt w s (.slice a n cc) n xs) (hn : 0 < n) (hl : l < m) : sla a m l s = some ((adq a).add (l * s)) := by
  rw [lst_some h hn]
  unfold sla
  rw [if_neg (by omega)]
  rfl
/-- A part of a list of bytes, as an array's cells. -/
theorem cellsB {w : World} {a : Option Addr} {n cc l k : Nat} {L : List Nat} (h : LstAt w 1 (.slice a n cc) n (el bc L)) (hlk : l + k ≤ n) (h0 : 0 < k) : CellsAt w ((adq a).add (l * 1)) (el bc ((L.drop l).take k)) := by
  have hc : n ≤ cc := by obtain ⟨a', c', he, h1, _⟩ := h.at_; cases he; exact h1
  have h' := subB (l := l) (h := l + k) (m := cc) h (by omega) hlk (by omega) (Nat.le_refl _)
  rw [sla_some h (by omega) (by omega), Nat.add_sub_cancel_left] at h'
  obtain ⟨a', c', he, _, _, hx⟩ := h'.at_
  cases he
  exact fun j u hj => (hx _ rfl h0).2.2 j u hj
theorem elB_at {L : List Nat} {k : Nat} (hk : k < L.length) : (el bc L)[k * 1]? = some (.int .u8 ((L.getD k 0 : Nat) : Int)) := by
  have h := el_chunk (c := bc) bc_len hk 0
  have h2 := congrArg (fun q => q[0]?) h
  simp only [List.getElem?_take, List.getElem?_drop, bc, Nat.add_zero, show (0 < 1) = True by simp, if_true] at h2
  rw [h2]
  rfl
/-- A block's cells as a row. -/
theorem Sat.toRow {F0 : Nat → Prop} {W w : World} {M R : List Res} {b n sz T : Nat} {cs xs : List Value} (hs : Sat F0 W (blk b cs T :: M) R w) (hx : cs = xs) (hl : xs.length = n * sz) (hn : n ≤ 1000000) : Sat F0 W (row T sz (.slice (some ⟨b, 0, none⟩) n n) n xs :: M) R w := by
  subst hx
  refine ⟨hs.keep, ?_, hs.okR, ?_, ?_, ?_⟩
  · intro x hx
    cases hx with
    | head => exact ⟨hl, .inr ⟨b, n, cs.toArray, rfl, Nat.zero_le _, hs.okM _ (.head _), Nat.le_refl _, by unfold maxLen; omega, by simpa using hl, by rw [← hl]; simp⟩⟩
    | tail _ h => exact hs.okM x (.tail _ h)
  · intro x hx k hk
    cases hx with
    | head => cases hk; exact hs.own _ (.head _) b rfl
    | tail _ h => exact hs.own x (.tail _ h) k hk
  · have h := List.pairwise_cons.1 hs.dM
    exact List.pairwise_cons.2 ⟨fun x hx k hk => by cases hk; exact h.1 x hx b rfl, h.2⟩
  · intro x hx r hr k hk
    cases hx with
    | head => cases hk; exact hs.dR _ (.head _) r hr b rfl
    | tail _ h => exact hs.dR x (.tail _ h) r hr k hk
/-- A whole array of elements is stored. -/
theorem q_stoL {α : Type} {c : α → List Value} {l : List α} {r : Option Nat} {n N : Nat} {Ds : List Nat} {P : Program} {ops : Array Oper} {Q : Exit → Act → World → Prop} {rest : List Oper} {G : List (Nat × Value)} {a : Act} {F0 : Nat → Prop} {W w : World} {M R : List Res} {v : Value}
    {T : Nat} {p : String} {e : Array Edge} {g : Option (Nat × Bool)} {x y : Operand} {vs : List Value} {t b : Nat} {q : Addr} {tt : TypeId} {ab : Bool} {s nb : Nat} (hk : Kn Ds N G a) (hs : Sat F0 W (blk b vs t :: M) R w) (hx : evq G x = some (.pointer (some q))) (hq : q = ⟨b, 0, none⟩) (hy : evq G y = some v) (ht : tq P tt = some (ab, s, nb))
    (hc : v.cells = (el c l).toArray) (hl : (el c l).length = s) (h1 : ones (el c l) = true) (hb : Nat.beq vs.length s = true) (hg : wq ops G g = some true)
    (h : ∀ w, Sat F0 W (blk b (el c l) t :: M) R w → wpListIn (Fr r) n P ops Q rest a w) : wpListIn (Fr r) n P ops Q (⟨none, .store tt x y, T, p, e, g⟩ :: rest) a w :=
  q_sto (o := 0) (cs := el c l) (vs' := el c l) hk hs hx hq hy ht hc (by rw [hl]; exact Nat.beq_refl s) h1 (by have := Nat.eq_of_beq_eq_true hb; rw [this, Nat.zero_add]; rw [Nat.ble_eq]; exact Nat.le_refl s) (by have := Nat.eq_of_beq_eq_true hb; rw [Nat.zero_add, ← this]; simp) hg h
theorem wru8m (a : Int) : IntKind.u8.wrap a = a % 256 := by rw [IntKind.wrap_u8]
theorem wdvu64 {a b : Int} (h1 : 0 ≤ a) (h2 : 0 < b) (h3 : a ≤ 18446744073709551615) : IntKind.u64.wrap (a.tdiv b) = a / b := by
  rw [Int.tdiv_eq_ediv_of_nonneg h1]
  have h4 : a / b ≤ a := Int.ediv_le_self _ h1
  exact wru64 (Int.ediv_nonneg h1 (by omega)) (by omega)
theorem wdvu8 {a b : Int} (h1 : 0 ≤ a) (h2 : 0 < b) (h3 : a ≤ 255) : IntKind.u8.wrap (a.tdiv b) = a / b := by
  rw [Int.tdiv_eq_ediv_of_nonneg h1]
  have h4 : a / b ≤ a := Int.ediv_le_self _ h1
  exact wru8 (Int.ediv_nonneg h1 (by omega)) (by omega)
def fieldL (s : Bool) : List Value := [.int .i64 (fid s), .int .u64 ((dg 0 (pr s) : Nat) : Int), .int .u64 ((dg 1 (pr s) : Nat) : Int), .int .u64 ((dg 2 (pr s) : Nat) : Int), .int .u64 ((dg 3 (pr s) : Nat) : Int), .int .u64 ((ninv s : Nat) : Int),
  .int .u64 ((dg 0 (rone s) : Nat) : Int), .int .u64 ((dg 1 (rone s) : Nat) : Int), .int .u64 ((dg 2 (rone s) : Nat) : Int), .int .u64 ((dg 3 (rone s) : Nat) : Int), .int .u64 ((dg 0 (rsq s) : Nat) : Int), .int .u64 ((dg 1 (rsq s) : Nat) : Int), .int .u64 ((dg 2 (rsq s) : Nat) : Int), .int .u64 ((dg 3 (rsq s) : Nat) : Int)]
end Go.Proofs.YtpggmebgndkpjaaDoor
