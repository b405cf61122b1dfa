/- Part 3 of what the proof of AuditConsistent, AuditChunks, AuditSuspects needs: joined out of the texts of this seat, only what is used. -/
import Derived.Test.YtdnkkbmpefhbjaaGreatDoorPaB
import Derived.MapKept
namespace Go.Proofs.YtdnkkbmpefhbjaaGreatDoor
set_option linter.all false
open Go Go.RowKit
/-- The events of a function for the numbers from a bound to below another one. -/
def upE (fr to : Int) (F : Int → List Ev) : List Ev := ((List.range (to - fr).toNat).map fun k : Nat => F (fr + (k : Int))).flatten
/-- .. in descending order. -/
def downE (n : Int) (F : Int → List Ev) : List Ev := upE 0 n fun i => F (n - 1 - i)
def pairE (eq : Bool) (i k : Int) : List Ev := if i = k ∧ eq = false then [] else [(3, i, k)]
def pairsE (n : Int) (eq : Bool) : List Ev := upE 0 n fun i => upE 0 n fun k => pairE eq i k
def stepE (i : Int) : List Ev := [(6, i, 0)] ++ upE 0 16 fun j => [(1, j, 0)]
def inverseE : List Ev := downE 64 stepE
def coefE (i : Int) : List Ev := [(2, i, 0)]
def weightsE (n : Int) : List Ev := if n = 0 then [] else pairsE n false ++ upE 0 n coefE ++ inverseE ++ downE n coefE
def interpE (n : Int) : List Ev := weightsE n ++ pairsE n true
theorem upE_nil {fr a : Int} {F : Int → List Ev} (h : a ≤ fr) : upE fr a F = [] := by unfold upE; rw [show (a - fr).toNat = 0 by omega]; rfl
theorem upE_succ {fr x : Int} {F : Int → List Ev} (h : fr ≤ x) : upE fr x F ++ F x = upE fr (x + 1) F := by
  obtain ⟨k, rfl⟩ : ∃ k : Nat, x = fr + k := ⟨(x - fr).toNat, by omega⟩
  unfold upE
  rw [show (fr + (k : Int) - fr).toNat = k by omega, show (fr + (k : Int) + 1 - fr).toNat = k + 1 by omega, List.range_succ, List.map_append, List.flatten_append]
  simp
theorem upE_len {fr to : Int} {F : Int → List Ev} {B : Nat} (h : ∀ i, (F i).length ≤ B) : (upE fr to F).length ≤ (to - fr).toNat * B := by
  unfold upE
  generalize (to - fr).toNat = n
  induction n with
  | zero => simp
  | succ n ih =>
    rw [List.range_succ, List.map_append, List.flatten_append, List.length_append, Nat.succ_mul]
    have := h (fr + (n : Int))
    simp only [List.map_cons, List.map_nil, List.flatten_cons, List.flatten_nil, List.append_nil]
    omega
theorem pairE_len (eq : Bool) (i k : Int) : (pairE eq i k).length ≤ 1 := by unfold pairE; split <;> simp
theorem coef_len (i : Int) : (coefE i).length ≤ 1 := by simp [coefE]
theorem up255 {fr to : Int} {F : Int → List Ev} {B : Nat} (h : ∀ i, (F i).length ≤ B) (h0 : 0 ≤ fr) (h1 : to ≤ 255) : (upE fr to F).length ≤ 255 * B := Nat.le_trans (upE_len h) (Nat.mul_le_mul_right _ (by omega))
theorem pairs_len {n : Int} (eq : Bool) (h : n ≤ 255) : (pairsE n eq).length ≤ 65025 := by
  have := up255 (fr := 0) (to := n) (F := fun i => upE 0 n fun k => pairE eq i k) (B := 255) (fun i => by have := up255 (fr := 0) (to := n) (fun k => pairE_len eq i k) (by omega) h; omega) (by omega) h
  exact this
theorem down_len {n : Int} {F : Int → List Ev} {B : Nat} (h : ∀ i, (F i).length ≤ B) (h1 : n ≤ 255) : (downE n F).length ≤ 255 * B := up255 (fun i => h _) (by omega) h1
theorem step_len (i : Int) : (stepE i).length ≤ 17 := by
  have := upE_len (fr := 0) (to := 16) (F := fun j => [(1, j, 0)]) (B := 1) (fun _ => by simp)
  unfold stepE
  rw [List.length_append, List.length_singleton]
  omega
theorem inverse_len : inverseE.length ≤ 1088 := by
  have := upE_len (fr := 0) (to := 64) (F := fun i => stepE (64 - 1 - i)) (B := 17) (fun _ => step_len _)
  have e : inverseE = upE 0 64 (fun i => stepE (64 - 1 - i)) := rfl
  rw [e]; omega
theorem weights_len {n : Int} (h : n ≤ 255) : (weightsE n).length ≤ 67000 := by
  unfold weightsE
  split
  · simp
  · have h1 := pairs_len false h
    have h2 := up255 (fr := 0) (to := n) coef_len (by omega) h
    have h3 := down_len (n := n) coef_len h
    have h4 := inverse_len
    simp only [List.length_append]
    omega
theorem interp_len {n : Int} (h : n ≤ 255) : (interpE n).length ≤ 133000 := by
  have h1 := pairs_len true h
  have h2 := weights_len h
  unfold interpE
  rw [List.length_append]
  omega
end Go.Proofs.YtdnkkbmpefhbjaaGreatDoor
namespace Go.Proofs.YtdnkkbmpefhbjaaGreatDoor
set_option linter.all false
open Go Go.RowKit Alg
theorem upE_one (fr to : Int) (f : Int → Ev) : (upE fr to fun i => [f i]).length = (to - fr).toNat := by
  unfold upE
  generalize (to - fr).toNat = n
  induction n with
  | zero => rfl
  | succ n ih => rw [List.range_succ, List.map_append, List.flatten_append, List.length_append, ih]; rfl
theorem scan_o {q k o : Nat} {g : Nat → Nat} (h : o = if q < k then g q else 0) : (if (decide (q = k)) = true then g k else o) = if q < k + 1 then g q else 0 := by
  rw [h]
  by_cases e : q = k
  · subst e; simp
  · simp only [e, decide_false, Bool.false_eq_true, if_false]
    by_cases l : q < k
    · rw [if_pos l, if_pos (by omega)]
    · rw [if_neg l, if_neg (by omega)]
theorem rone_lt4 (s : Bool) : rone s < R4 := by rw [← mq_one]; exact mq_lt4 _
theorem tableOf_c (s : Bool) (x : Zp s) (W : World)  : Calls Tryz.prog 181 [fieldV s, vec (mq x)].toArray W fun e w => e = .returned (.agg (en vq (fun i => mq (pw x i)) 16).toArray) ∧ Below W.heap.size W w := by
  refine c_enter (args := [fieldV s, vec (mq x)]) Tryz.func181 rfl rfl rfl fun a hk => ?_
  have hs := Sat.start W [] (fun _ h => by cases h)
  refine wpIn_seq ?_
  refine wpIn_region_lit ?_
  refine q_box (vs := fieldL s) hk hs rfl rfl rfl rfl fun b1 w a hk hs => ?_
  refine q_box (vs := [.int .u64 ((dg 0 (mq x) : Nat) : Int), .int .u64 ((dg 1 (mq x) : Nat) : Int), .int .u64 ((dg 2 (mq x) : Nat) : Int), .int .u64 ((dg 3 (mq x) : Nat) : Int)]) hk hs rfl rfl rfl rfl fun b2 w a hk hs => ?_
  refine q_alc (vs := en vq (fun _ => 0) 16) hk hs zr220 (by kernel_rfl) rfl rfl fun b3 w a hk hs => ?_
  refine (c_end (x_t ?_))
  refine wpIn_seq ?_
  refine wpIn_region_lit ?_
  refine q_val hk (w_fa rfl fq120_3 ty56) rfl rfl rfl fun a hk => ?_
  refine q_val hk (w_ldv (z := rone s) rfl ty56 (.blk (n := 4) (hs.mi 2 rfl) rfl)) rfl rfl rfl fun a hk => ?_
  refine q_val hk (w_iaA (k := 0) rfl rfl Tryz.underlying220 ty56 (by omega) (by omega)) rfl rfl rfl fun a hk => ?_
  refine q_stoE (c := vq) (xx := (rone s)) (k := 0) hk hs rfl rfl rfl ty56 rfl vq_len rfl (by omega) rfl fun w hs => ?_
  refine (c_end (x_t ?_))
  refine wpIn_seq ?_
  refine wpIn_seq ?_
  refine wpIn_region_lit ?_
  refine q_val hk (w_mv rfl) rfl rfl rfl fun a hk => ?_
  refine (c_end (x_t ?_))
  refine wpIn_block ?_
  have hs := hs.rw0 (congrArg (fun q => blk b3 q 220) (en_congr (g := fun i => if i < 0 + 1 then mq (pw x i) else 0) fun i hi => by by_cases h : i = 0 <;> simp [h, pw, mq_one]))
  refine c_loop (α := Nat) (fun k a w => k ≤ 15 ∧ Kn [] 23 [(9, .int .i64 (k : Int)), (4, .pointer (some ⟨b3, 0, none⟩)), (3, .pointer (some ⟨b2, 0, none⟩)), (2, .pointer (some ⟨b1, 0, none⟩))] a ∧ Sat no W [blk b3 (en vq (fun i => (if i < k + 1 then mq (pw x i) else 0)) 16) 220, blk b2 [.int .u64 ((dg 0 (mq x) : Nat) : Int), .int .u64 ((dg 1 (mq x) : Nat) : Int), .int .u64 ((dg 2 (mq x) : Nat) : Int), .int .u64 ((dg 3 (mq x) : Nat) : Int)] 56, blk b1 (fieldL s) 120] [] w) (fun k => 15 - k) 0 ?_ ?_
  · exact ⟨(by omega), hk.k rfl (hk.k rfl (hk.k rfl (hk.k rfl hk.nil))), hs⟩
  rintro k a w ⟨hf0, hk, hs⟩
  refine wpIn_seq ?_
  refine wpIn_region_lit ?_
  rcases Classical.em ((k : Int) < 15) with hc4 | hc4
  · skip
    refine q_val hk (w_lt rfl rfl (decide_eq_true hc4)) rfl rfl rfl fun a hk => ?_
    refine (c_end (x_t ?_))
    refine wpIn_seq ?_
    refine c_T hk rfl ?_
    refine (wpIn_skip (x_t ?_))
    refine wpIn_seq ?_
    refine wpIn_block ?_
    refine wpIn_seq ?_
    refine wpIn_region_lit ?_
    refine q_val hk (w_mv rfl) rfl rfl rfl fun a hk => ?_
    refine q_val hk (w_as rfl) rfl rfl rfl fun a hk => ?_
    refine (c_end (x_t ?_))
    have hL := okL.cons (hs.mi 2 rfl) (okL.cons (hs.mi 1 rfl) okL.nil)
    refine d_begin _ 10 (by kernel_rfl) rfl hs hL fun w hs hL => ?_
    refine d_v 0 1 hk hL rfl (by kernel_rfl) rfl rfl (fun w hL => w_mv rfl) fun a hk => ?_
    refine d_v 1 3 hk hL rfl (by kernel_rfl) rfl rfl (fun w hL => w_add rfl rfl (wr64 (by omega) (by omega))) fun a hk => ?_
    refine d_v 2 7 hk hL rfl (by kernel_rfl) rfl rfl (fun w hL => w_ldA rfl ty120 (.blk (n := 14) (hL.at 0 rfl) rfl) rfl) fun a hk => ?_
    refine d_v 3 15 hk hL rfl (by kernel_rfl) rfl rfl (fun w hL => w_mv rfl) fun a hk => ?_
    refine d_v 4 31 hk hL rfl (by kernel_rfl) rfl rfl (fun w hL => w_iaA (k := k) rfl rfl Tryz.underlying220 ty56 (by omega) (by omega)) fun a hk => ?_
    refine d_v 6 95 hk hL rfl (by kernel_rfl) rfl rfl (fun w hL => w_ldv (z := mq x) rfl ty56 (.blk (n := 4) (hL.at 1 rfl) rfl)) fun a hk => ?_
    refine d_1 5 127 rfl (by kernel_rfl) fun K hK => ?_
    refine q_val hk (w_ldv (z := mq (pw x k)) rfl ty56 (vq_eq (if_pos (Nat.lt_succ_self k)) (lstq (k := k) (blk_lst (hs.mi 0 rfl) (en_len vq_len) (Nat.le_refl _)) (by omega) (en_chunk vq_len (by omega))))) rfl rfl rfl fun a hk => ?_
    have hL := okL.cons (hs.mi 2 rfl) (okL.cons (hs.mi 1 rfl) okL.nil)
    refine c_end (x_t (hK _ _ hL ?_))
    clear hK K
    refine d_1 7 255 rfl (by kernel_rfl) fun K hK => ?_
    refine q_call (caps := []) hk rfl rfl Tryz.func120 fo120 rfl rfl (zmul_c (x := (pw x k)) (y := x) _ rfl rfl) ?_
    rintro _ w ⟨rfl, hb⟩
    have hs := hs.below hb
    refine ⟨_, rfl, fun a hk => ?_⟩
    have hL := okL.cons (hs.mi 2 rfl) (okL.cons (hs.mi 1 rfl) okL.nil)
    refine c_end (x_t (hK _ _ hL ?_))
    clear hK K
    refine d_v 8 511 hk hL rfl (by kernel_rfl) rfl rfl (fun w hL => w_iaA (k := (((k : Int) + 1)).toNat) rfl rfl Tryz.underlying220 ty56 (by omega) (by omega)) fun a hk => ?_
    refine d_1 9 1023 rfl (by kernel_rfl) fun K hK => ?_
    refine q_stoE (c := vq) (xx := (mq ((pw x k) * x))) (k := ((((k : Int) + 1)).toNat)) hk hs rfl rfl rfl ty56 rfl vq_len rfl (by omega) rfl fun w hs => ?_
    have hL := okL.cons (hs.mi 2 rfl) (okL.cons (hs.mi 1 rfl) okL.nil)
    refine c_end (x_t (hK _ _ hL ?_))
    clear hK K
    refine d_end (by kernel_rfl) ?_
    refine (x_b (x_t ?_))
    refine wpIn_region_lit ?_
    refine q_val hk (w_add rfl rfl (wr64 (by omega) (by omega))) rfl rfl rfl fun a hk => ?_
    refine q_val hk (w_mv rfl) rfl rfl rfl fun a hk => ?_
    refine (c_end (x_t ?_))
    have hs := hs.rw0 (congrArg (fun q => blk b3 q 220) (en_congr (g := fun i => if i < k + 1 + 1 then mq (pw x i) else 0) fun i hi => by (repeat' split) <;> first | rfl | omega | (subst_vars; rfl)))
    exact ⟨k + 1, ⟨(by omega), hk.k rfl (hk.k rfl (hk.k rfl (hk.k rfl hk.nil))), hs⟩, by omega⟩
  · skip
    refine q_val hk (w_lt rfl rfl (decide_eq_false hc4)) rfl rfl rfl fun a hk => ?_
    refine (c_end (x_t ?_))
    refine wpIn_seq ?_
    refine c_F hk rfl ?_
    refine (wpIn_exit (x_te (x_te (x_be ?_))))
    refine (x_t ?_)
    refine wpIn_seq ?_
    refine wpIn_region_lit ?_
    refine q_val hk (w_ldA rfl ty220 (arr_all (hs.mi 0 rfl)) (en_len vq_len)) rfl rfl rfl fun a hk => ?_
    refine q_stoN (c := vq) (f := (fun i => (if i < k + 1 then mq (pw x i) else 0))) (m := 16) hk hs rfl rfl rfl ty220 rfl (en_len vq_len) (en_ones vq_ones) (en_len vq_len) rfl fun w hs => ?_
    refine (c_end (x_t ?_))
    refine (wpIn_ret ?_)
    refine c_retG (vs := [.agg (en vq (fun i => (if i < k + 1 then mq (pw x i) else 0)) 16).toArray]) hk rfl ⟨⟨_, rfl, lv_A ty220 (arr_all (hs.mi 0 rfl)) (en_len vq_len)⟩, trivial⟩ rfl ?_
    exact ⟨by rw [en_congr (g := fun i => mq (pw x i)) fun i hi => if_pos (by omega)]; rfl, hs.toBelow⟩
theorem scan_m {F0 : Nat → Prop} {W : World} {M R : List Res} (s : Bool) (F : Nat → Zp s) (q : Nat) (t : Option Nat) (evs : List Ev) (r : Res) (w0 : World) (hs : Sat F0 W (r :: M) R w0) (hT : TapeIs t evs r) (hq : q < 16) (hn : evs.length ≤ 100000000000) : Calls Tryz.prog 183 [.agg (en vq (fun i => mq (F i)) 16).toArray, tval t, .int .u64 ((q : Nat) : Int)].toArray w0 fun e w => ∃ r, e = .returned (vec (mq (F q))) ∧ TapeIs t (evs ++ upE 0 16 (fun k => [(1, k, 0)])) r ∧ Sat F0 W (r :: M) R w := by
  have hqW : q < Go.Proofs.YtdnkkbmpefhbjaaGreatDoor.W := by unfold Go.Proofs.YtdnkkbmpefhbjaaGreatDoor.W; omega
  refine c_enter (args := [.agg (en vq (fun i => mq (F i)) 16).toArray, tval t, .int .u64 ((q : Nat) : Int)]) Tryz.func183 rfl rfl rfl fun a hk => ?_
  refine wpIn_seq ?_
  refine wpIn_region_lit ?_
  refine q_box (vs := en vq (fun i => mq (F i)) 16) hk hs rfl rfl rfl rfl fun b1 w a hk hs => ?_
  refine q_alc (vs := [.int .u64 0, .int .u64 0, .int .u64 0, .int .u64 0]) hk hs zr56 rfl rfl rfl fun b2 w a hk hs => ?_
  refine (c_end (x_t ?_))
  refine wpIn_seq ?_
  refine wpIn_seq ?_
  refine wpIn_region_lit ?_
  refine q_val hk (w_ldA rfl ty220 (arr_all (hs.mi 1 rfl)) (en_len vq_len)) rfl rfl rfl fun a hk => ?_
  refine q_val hk (w_mv rfl) rfl rfl rfl fun a hk => ?_
  refine (c_end (x_t ?_))
  refine wpIn_block ?_
  have hs := hs.rw0 (show blk b2 [.int .u64 0, .int .u64 0, .int .u64 0, .int .u64 0] 56 = blk b2 [.int .u64 ((dg 0 0 : Nat) : Int), .int .u64 ((dg 1 0 : Nat) : Int), .int .u64 ((dg 2 0 : Nat) : Int), .int .u64 ((dg 3 0 : Nat) : Int)] 56 from rfl)
  refine c_loop (α := Nat) (fun k a w => ∃ (r : Res) (o : Nat), k ≤ 16 ∧ (o = if q < k then mq (F q) else 0) ∧ TapeIs t (evs ++ upE 0 ((k : Nat) : Int) (fun k => [(1, k, 0)])) r ∧ Kn [] 26 [(10, .int .i64 (k : Int)), (9, .agg (en vq (fun i => mq (F i)) 16).toArray), (6, .pointer (some ⟨b2, 0, none⟩)), (1, tval t), (2, .int .u64 ((q : Nat) : Int))] a ∧ Sat F0 W ((blk b2 [.int .u64 ((dg 0 o : Nat) : Int), .int .u64 ((dg 1 o : Nat) : Int), .int .u64 ((dg 2 o : Nat) : Int), .int .u64 ((dg 3 o : Nat) : Int)] 56) :: (blk b1 (en vq (fun i => mq (F i)) 16) 220) :: r :: M) R w) (fun k => 16 - k) 0 ?_ ?_
  · exact ⟨_, _, (by omega), (if_neg (Nat.not_lt_zero q)).symm, (by rw [upE_nil (by omega), List.append_nil]; exact hT), hk.k rfl (hk.k rfl (hk.k rfl (hk.k rfl (hk.k rfl hk.nil)))), hs⟩
  rintro k a w ⟨r, o, hf0, hf1, hf2, hk, hs⟩
  have hT := hf2
  have hl := upE_one 0 ((k : Nat) : Int) (fun k => (1, k, 0))
  have ho4 : o < R4 := by rw [hf1]; split <;> first | exact mq_lt4 _ | decide
  refine wpIn_seq ?_
  refine wpIn_region_lit ?_
  rcases Classical.em ((k : Int) < 16) with hc3 | hc3
  · skip
    refine q_val hk (w_lt rfl rfl (decide_eq_true hc3)) rfl rfl rfl fun a hk => ?_
    refine (c_end (x_t ?_))
    refine wpIn_seq ?_
    refine c_T hk rfl ?_
    refine (wpIn_skip (x_t ?_))
    refine wpIn_seq ?_
    refine wpIn_block ?_
    refine wpIn_seq ?_
    refine wpIn_region_lit ?_
    refine q_val hk (w_mv rfl) rfl rfl rfl fun a hk => ?_
    refine q_val hk (w_ixA (k := k) rfl rfl Tryz.underlying220 ty56 (by omega) (by omega) (en_chunk vq_len (by omega))) rfl rfl rfl fun a hk => ?_
    refine q_alc (vs := [.int .u64 0, .int .u64 0, .int .u64 0, .int .u64 0]) hk hs zr56 rfl rfl rfl fun b4 w a hk hs => ?_
    refine q_val hk (w_as rfl) rfl rfl rfl fun a hk => ?_
    refine q_sto (o := 0) (cs := [.int .u64 ((dg 0 (mq (F k)) : Nat) : Int), .int .u64 ((dg 1 (mq (F k)) : Nat) : Int), .int .u64 ((dg 2 (mq (F k)) : Nat) : Int), .int .u64 ((dg 3 (mq (F k)) : Nat) : Int)]) (vs' := [.int .u64 ((dg 0 (mq (F k)) : Nat) : Int), .int .u64 ((dg 1 (mq (F k)) : Nat) : Int), .int .u64 ((dg 2 (mq (F k)) : Nat) : Int), .int .u64 ((dg 3 (mq (F k)) : Nat) : Int)]) hk hs rfl rfl rfl ty56 rfl rfl rfl rfl rfl rfl fun w hs => ?_
    refine (c_end (x_t ?_))
    refine wpIn_seq ?_
    refine wpIn_region_lit ?_
    refine q_val hk (w_mv rfl) rfl rfl rfl fun a hk => ?_
    refine q_val hk (w_mv rfl) rfl rfl rfl fun a hk => ?_
    have hs := hs.up3
    refine q_call (caps := []) hk rfl rfl Tryz.func61 fo61 rfl rfl (note_m t 1 (k : Int) 0 (evs ++ upE 0 ((k : Nat) : Int) (fun k => [(1, k, 0)])) _ _ hT hs (by rw [List.length_append, hl]; omega)) ?_
    rintro _ w ⟨v5, r6, rfl, ht7, hs⟩
    have hT := ht7
    refine ⟨_, rfl, fun a hk => ?_⟩
    refine (c_end (x_t ?_))
    have hL := okL.cons (hs.mi 1 rfl) okL.nil
    refine d_begin _ 8 (by kernel_rfl) rfl hs hL fun w hs hL => ?_
    refine d_join (n2 := 2) 63 (fun a w => Kn [] 26 [(22, vec o), (20, .int .u64 (am (decide (q = k)))), (21, vec (mq (F k))), (19, .int .u64 (k : Int)), (18, .int .i64 (k : Int)), (17, .int .u64 ((q : Nat) : Int)), (16, v5), (15, .int .i64 (k : Int)), (14, tval t), (7, .int .i64 (k : Int)), (8, .pointer (some ⟨b4, 0, none⟩)), (13, vec (mq (F k))), (12, .int .i64 (k : Int)), (11, .bool true), (10, .int .i64 (k : Int)), (9, .agg (en vq (fun i => mq (F i)) 16).toArray), (6, .pointer (some ⟨b2, 0, none⟩)), (1, tval t), (2, .int .u64 ((q : Nat) : Int))] a ∧ Sat F0 W (r6 :: (blk b4 [.int .u64 ((dg 0 (mq (F k)) : Nat) : Int), .int .u64 ((dg 1 (mq (F k)) : Nat) : Int), .int .u64 ((dg 2 (mq (F k)) : Nat) : Int), .int .u64 ((dg 3 (mq (F k)) : Nat) : Int)] 56) :: (blk b2 [.int .u64 ((dg 0 o : Nat) : Int), .int .u64 ((dg 1 o : Nat) : Int), .int .u64 ((dg 2 o : Nat) : Int), .int .u64 ((dg 3 o : Nat) : Int)] 56) :: (blk b1 (en vq (fun i => mq (F i)) 16) 220) :: M) R w ∧ okL [blk b4 [.int .u64 ((dg 0 (mq (F k)) : Nat) : Int), .int .u64 ((dg 1 (mq (F k)) : Nat) : Int), .int .u64 ((dg 2 (mq (F k)) : Nat) : Int), .int .u64 ((dg 3 (mq (F k)) : Nat) : Int)] 56] w) ?_ ?_
    · intro hJ63
      refine d_v 0 1 hk hL rfl (by kernel_rfl) rfl rfl (fun w hL => w_mv rfl) fun a hk => ?_
      refine d_v 1 3 hk hL rfl (by kernel_rfl) rfl rfl (fun w hL => w_mv rfl) fun a hk => ?_
      refine d_v 2 7 hk hL rfl (by kernel_rfl) rfl rfl (fun w hL => w_conv rfl Tryz.underlying3 Tryz.underlying46 (wru64 (by omega) (by omega))) fun a hk => ?_
      refine d_v 4 23 hk hL rfl (by kernel_rfl) rfl rfl (fun w hL => w_ldv (z := mq (F k)) rfl ty56 (.blk (n := 4) (hL.at 0 rfl) rfl)) fun a hk => ?_
      refine d_2 3 5 31 55 rfl rfl (by kernel_rfl) (fun K hK => ?_) (fun K hK => ?_)
      · skip
        refine q_call (caps := []) hk rfl rfl Tryz.func185 fo185 rfl rfl (maskEq_c q k _ hqW (by unfold Go.Proofs.YtdnkkbmpefhbjaaGreatDoor.W; omega)) ?_
        rintro _ w ⟨rfl, hb⟩
        have hs := hs.below hb
        refine ⟨_, rfl, fun a hk => ?_⟩
        have hL := okL.cons (hs.mi 1 rfl) okL.nil
        refine c_end (x_t (hK _ _ hL ?_))
        clear hK K
        refine d_1 5 63 rfl (by kernel_rfl) fun K hK => ?_
        refine q_val hk (w_ldv (z := o) rfl ty56 (.blk (n := 4) (hs.mi 2 rfl) rfl)) rfl rfl rfl fun a hk => ?_
        have hL := okL.cons (hs.mi 1 rfl) okL.nil
        refine c_end (x_t (hK _ _ hL ?_))
        clear hK K
        have hL := okL.cons (hs.mi 1 rfl) okL.nil
        exact hJ63 _ _ ⟨hk.k rfl (hk.k rfl (hk.k rfl (hk.k rfl (hk.k rfl (hk.k rfl (hk.k rfl (hk.k rfl (hk.k rfl (hk.k rfl (hk.k rfl (hk.k rfl (hk.k rfl (hk.k rfl (hk.k rfl (hk.k rfl (hk.k rfl (hk.k rfl (hk.k rfl hk.nil)))))))))))))))))), hs, hL⟩
      · skip
        refine q_val hk (w_ldv (z := o) rfl ty56 (.blk (n := 4) (hs.mi 2 rfl) rfl)) rfl rfl rfl fun a hk => ?_
        have hL := okL.cons (hs.mi 1 rfl) okL.nil
        refine c_end (x_t (hK _ _ hL ?_))
        clear hK K
        refine d_1 3 63 rfl (by kernel_rfl) fun K hK => ?_
        refine q_call (caps := []) hk rfl rfl Tryz.func185 fo185 rfl rfl (maskEq_c q k _ hqW (by unfold Go.Proofs.YtdnkkbmpefhbjaaGreatDoor.W; omega)) ?_
        rintro _ w ⟨rfl, hb⟩
        have hs := hs.below hb
        refine ⟨_, rfl, fun a hk => ?_⟩
        have hL := okL.cons (hs.mi 1 rfl) okL.nil
        refine c_end (x_t (hK _ _ hL ?_))
        clear hK K
        have hL := okL.cons (hs.mi 1 rfl) okL.nil
        exact hJ63 _ _ ⟨hk.k rfl (hk.k rfl (hk.k rfl (hk.k rfl (hk.k rfl (hk.k rfl (hk.k rfl (hk.k rfl (hk.k rfl (hk.k rfl (hk.k rfl (hk.k rfl (hk.k rfl (hk.k rfl (hk.k rfl (hk.k rfl (hk.k rfl (hk.k rfl (hk.k rfl hk.nil)))))))))))))))))), hs, hL⟩
    · rintro a w ⟨hk, hs, hL⟩
      refine d_1 6 127 rfl (by kernel_rfl) fun K hK => ?_
      refine q_call (caps := []) hk rfl rfl Tryz.func165 fo165 rfl rfl (zchoose_c _ (decide (q = k)) rfl (mq_lt4 _) ho4) ?_
      rintro _ w ⟨rfl, hb⟩
      have hs := hs.below hb
      refine ⟨_, rfl, fun a hk => ?_⟩
      have hL := okL.cons (hs.mi 1 rfl) okL.nil
      refine c_end (x_t (hK _ _ hL ?_))
      clear hK K
      refine d_1 7 255 rfl (by kernel_rfl) fun K hK => ?_
      have hs := hs.up2
      refine q_sto (o := 0) (cs := [.int .u64 ((dg 0 (if (decide (q = k)) then mq (F k) else o) : Nat) : Int), .int .u64 ((dg 1 (if (decide (q = k)) then mq (F k) else o) : Nat) : Int), .int .u64 ((dg 2 (if (decide (q = k)) then mq (F k) else o) : Nat) : Int), .int .u64 ((dg 3 (if (decide (q = k)) then mq (F k) else o) : Nat) : Int)]) (vs' := [.int .u64 ((dg 0 (if (decide (q = k)) then mq (F k) else o) : Nat) : Int), .int .u64 ((dg 1 (if (decide (q = k)) then mq (F k) else o) : Nat) : Int), .int .u64 ((dg 2 (if (decide (q = k)) then mq (F k) else o) : Nat) : Int), .int .u64 ((dg 3 (if (decide (q = k)) then mq (F k) else o) : Nat) : Int)]) hk hs rfl rfl rfl ty56 rfl rfl rfl rfl rfl rfl fun w hs => ?_
      have hL := okL.cons (hs.mi 2 rfl) okL.nil
      refine c_end (x_t (hK _ _ hL ?_))
      clear hK K
      refine d_end (by kernel_rfl) ?_
      refine (x_b (x_t ?_))
      refine wpIn_region_lit ?_
      refine q_val hk (w_add rfl rfl (wr64 (by omega) (by omega))) rfl rfl rfl fun a hk => ?_
      refine q_val hk (w_mv rfl) rfl rfl rfl fun a hk => ?_
      refine (c_end (x_t ?_))
      rw [List.append_assoc, show upE 0 ((k : Nat) : Int) (fun k => [(1, k, 0)]) ++ [(1, ((k : Nat) : Int), 0)] = upE 0 ((k + 1 : Nat) : Int) (fun k => [(1, k, 0)]) from upE_succ (F := (fun k => [(1, k, 0)])) (by omega)] at hT
      have ho := scan_o (g := fun i => mq (F i)) hf1
      have hs := hs.up2
      have hs := hs.drop
      have hs := hs.up1
      have hs := hs.up2
      have hs := hs.up2
      exact ⟨k + 1, ⟨_, _, (by omega), ho, hT, hk.k rfl (hk.k rfl (hk.k rfl (hk.k rfl (hk.k rfl hk.nil)))), hs⟩, by omega⟩
  · skip
    obtain rfl : 16 = k := by omega
    refine q_val hk (w_lt rfl rfl (decide_eq_false hc3)) rfl rfl rfl fun a hk => ?_
    refine (c_end (x_t ?_))
    refine wpIn_seq ?_
    refine c_F hk rfl ?_
    refine (wpIn_exit (x_te (x_te (x_be ?_))))
    refine (x_t ?_)
    refine wpIn_seq ?_
    refine wpIn_region_lit ?_
    refine q_val hk (w_ldv (z := o) rfl ty56 (.blk (n := 4) (hs.mi 0 rfl) rfl)) rfl rfl rfl fun a hk => ?_
    refine q_sto (o := 0) (cs := [.int .u64 ((dg 0 o : Nat) : Int), .int .u64 ((dg 1 o : Nat) : Int), .int .u64 ((dg 2 o : Nat) : Int), .int .u64 ((dg 3 o : Nat) : Int)]) (vs' := [.int .u64 ((dg 0 o : Nat) : Int), .int .u64 ((dg 1 o : Nat) : Int), .int .u64 ((dg 2 o : Nat) : Int), .int .u64 ((dg 3 o : Nat) : Int)]) hk hs rfl rfl rfl ty56 rfl rfl rfl rfl rfl rfl fun w hs => ?_
    refine (c_end (x_t ?_))
    refine (wpIn_ret ?_)
    refine c_retG (vs := [vec o]) hk rfl ⟨⟨_, rfl, lv_A ty56 (.blk (n := 4) (hs.mi 0 rfl) rfl) rfl⟩, trivial⟩ rfl ?_
    have hs := hs.drop
    have hs := hs.drop
    exact ⟨_, by rw [hf1, if_pos (by omega)]; rfl, hT, hs⟩
theorem shr_u64 {x n : Nat} {v : Int} (h : v = (n : Int)) (hn : n ≤ 64) : ((x : Nat) : Int) / 2 ^ min v.toNat IntKind.u64.bits = ((x / 2 ^ n : Nat) : Int) := by
  subst h
  rw [Int.toNat_natCast, show min n IntKind.u64.bits = n from Nat.min_eq_left hn]
  norm_cast
theorem shl_u64 {x n : Nat} {v : Int} (h : v = (n : Int)) (hn : n ≤ 64) : IntKind.u64.wrap (((x : Nat) : Int) * 2 ^ min v.toNat IntKind.u64.bits) = ((x * 2 ^ n % 2 ^ 64 : Nat) : Int) := by
  subst h
  rw [Int.toNat_natCast, show min n IntKind.u64.bits = n from Nat.min_eq_left hn, IntKind.wrap_u64, Int.natCast_emod, Int.natCast_mul, Int.natCast_pow]
  rfl
theorem bits_A {e i : Nat} (he : e < R4) (hi : i < 64) : bits .and .u64 ((dg (i / 16) e / 2 ^ (4 * i % 64) : Nat) : Int) (1 * 16 - 1) = ((e / 2 ^ (4 * i) % 16 : Nat) : Int) := by
  rw [show ((1 * 16 - 1 : Int)) = ((15 : Nat) : Int) from rfl, u64_and_nat _ _ (Nat.lt_of_le_of_lt (Nat.div_le_self _ _) (dg_lt _ _)) (by decide), and15, dg_bits he hi]
theorem bits_B {e i y : Nat} (he : e < R4) (hi : i < 64) : bits .and .u64 ((dg (i / 16) e / 2 ^ (4 * i % 64) ||| y * 2 ^ (64 - 4 * i % 64) % 2 ^ 64 : Nat) : Int) (1 * 16 - 1) = ((e / 2 ^ (4 * i) % 16 : Nat) : Int) := by
  have h1 : dg (i / 16) e / 2 ^ (4 * i % 64) < Go.Proofs.YtdnkkbmpefhbjaaGreatDoor.W := Nat.lt_of_le_of_lt (Nat.div_le_self _ _) (dg_lt _ _)
  have h2 : y * 2 ^ (64 - 4 * i % 64) % 2 ^ 64 < Go.Proofs.YtdnkkbmpefhbjaaGreatDoor.W := Nat.mod_lt _ (by decide)
  rw [show ((1 * 16 - 1 : Int)) = ((15 : Nat) : Int) from rfl, u64_and_nat _ _ (or_lt_W h1 h2) (by decide), and15, ← dg_bits he hi]
  rw [show (16 : Nat) = 2 ^ 4 from rfl, Nat.or_mod_two_pow]
  have e3 : y * 2 ^ (64 - 4 * i % 64) % 2 ^ 64 % 2 ^ 4 = 0 := by
    rw [Nat.mod_mod_of_dvd _ (Nat.pow_dvd_pow 2 (by omega))]
    exact Nat.mod_eq_zero_of_dvd (Nat.dvd_trans (Nat.pow_dvd_pow 2 (by omega)) (Nat.dvd_mul_left _ _))
  rw [e3, Nat.or_zero]
theorem bits_c (e0 i : Nat) (W : World) (he : e0 < R4) (hi : i < 64) : Calls Tryz.prog 184 [vec e0, .int .i64 ((4 * i : Nat) : Int), .int .i64 4].toArray W fun e w => e = .returned (.int .u64 ((e0 / 2 ^ (4 * i) % 16 : Nat) : Int)) ∧ Below W.heap.size W w := by
  refine c_enter (args := [vec e0, .int .i64 ((4 * i : Nat) : Int), .int .i64 4]) Tryz.func184 rfl rfl rfl fun a hk => ?_
  have hs := Sat.start W [] (fun _ h => by cases h)
  refine wpIn_seq ?_
  refine wpIn_region_lit ?_
  refine q_box (vs := [.int .u64 ((dg 0 e0 : Nat) : Int), .int .u64 ((dg 1 e0 : Nat) : Int), .int .u64 ((dg 2 e0 : Nat) : Int), .int .u64 ((dg 3 e0 : Nat) : Int)]) hk hs rfl rfl rfl rfl fun b1 w a hk hs => ?_
  have hs := hs.rw0 (show blk b1 [.int .u64 ((dg 0 e0 : Nat) : Int), .int .u64 ((dg 1 e0 : Nat) : Int), .int .u64 ((dg 2 e0 : Nat) : Int), .int .u64 ((dg 3 e0 : Nat) : Int)] 47 = blk b1 (en uc (fun j => dg j e0) 4) 47 from rfl)
  refine q_val hk (w_as rfl) rfl rfl rfl fun a hk => ?_
  refine (c_end (x_t ?_))
  refine wpIn_seq ?_
  refine wpIn_seq ?_
  refine wpIn_region_lit ?_
  refine q_val hk (w_mv rfl) rfl rfl rfl fun a hk => ?_
  refine q_val hk (w_lt rfl rfl (decide_eq_false (by omega))) rfl rfl rfl fun a hk => ?_
  refine q_val hk (w_mv rfl) rfl rfl rfl fun a hk => ?_
  refine q_val hk (w_mv rfl) rfl rfl rfl fun a hk => ?_
  refine q_val hk (w_ge rfl rfl (decide_eq_false (by omega))) rfl rfl rfl fun a hk => ?_
  refine q_val hk (w_pickF rfl rfl) rfl rfl rfl fun a hk => ?_
  refine q_val hk (w_mv rfl) rfl rfl rfl fun a hk => ?_
  refine q_val hk (w_mv rfl) rfl rfl rfl fun a hk => ?_
  refine q_val hk (w_lt rfl rfl (decide_eq_false (by decide))) rfl rfl rfl fun a hk => ?_
  refine q_val hk (w_pickF rfl rfl) rfl rfl rfl fun a hk => ?_
  refine q_val hk (w_mv rfl) rfl rfl rfl fun a hk => ?_
  refine q_val hk (w_mv rfl) rfl rfl rfl fun a hk => ?_
  refine q_val hk (w_gt rfl rfl (decide_eq_false (by decide))) rfl rfl rfl fun a hk => ?_
  refine q_val hk (w_pickF rfl rfl) rfl rfl rfl fun a hk => ?_
  refine (c_end (x_t ?_))
  refine c_F hk rfl ?_
  refine (wpIn_skip (x_t ?_))
  refine wpIn_seq ?_
  refine wpIn_region_lit ?_
  refine q_val hk (w_mv rfl) rfl rfl rfl fun a hk => ?_
  refine q_val hk (w_quo rfl rfl (by omega) (wdv64 (by omega) (by omega) (by omega))) rfl rfl rfl fun a hk => ?_
  refine q_val hk (w_mv rfl) rfl rfl rfl fun a hk => ?_
  refine q_val hk (w_rem rfl rfl (by omega) (wmd (by omega))) rfl rfl rfl fun a hk => ?_
  refine q_val hk (w_as rfl) rfl rfl rfl fun a hk => ?_
  refine q_val hk (w_as rfl) rfl rfl rfl fun a hk => ?_
  refine (c_end (x_t ?_))
  refine wpIn_seq ?_
  refine wpIn_region_lit ?_
  refine q_val hk (w_mv rfl) rfl rfl rfl fun a hk => ?_
  refine q_val hk (w_iaA (k := (i / 16)) rfl rfl Tryz.underlying47 ty46 (by omega) (by omega)) rfl rfl rfl fun a hk => ?_
  refine q_val hk (w_ld1 rfl ty46 (lstq (k := (i / 16)) (blk_lst (hs.mi 0 rfl) (en_len uc_len) (Nat.le_refl _)) (by omega) (en_chunk uc_len (by omega)))) rfl rfl rfl fun a hk => ?_
  refine q_val hk (w_mv rfl) rfl rfl rfl fun a hk => ?_
  refine q_val hk (w_shr (r := ((dg (i / 16) e0 / 2 ^ (4 * i % 64) : Nat) : Int)) rfl rfl (by omega) (shr_u64 (by omega) (by omega))) rfl rfl rfl fun a hk => ?_
  refine q_val hk (w_as rfl) rfl rfl rfl fun a hk => ?_
  refine (c_end (x_t ?_))
  refine wpIn_seq ?_
  refine wpIn_seq ?_
  refine wpIn_region_lit ?_
  refine q_val hk (w_mv rfl) rfl rfl rfl fun a hk => ?_
  refine q_val hk (w_add rfl rfl (wr64 (by omega) (by omega))) rfl rfl rfl fun a hk => ?_
  rcases Classical.em (((((4 * i : Nat) : Int) / 64) + 1) < 4) with hc2 | hc2
  · skip
    refine q_val hk (w_lt rfl rfl (decide_eq_true hc2)) rfl rfl rfl fun a hk => ?_
    refine (c_end (x_t ?_))
    refine c_T hk rfl ?_
    refine wpIn_region_lit ?_
    refine q_val hk (w_mv rfl) rfl rfl rfl fun a hk => ?_
    refine q_val hk (w_mv rfl) rfl rfl rfl fun a hk => ?_
    refine q_val hk (w_add rfl rfl (wr64 (by omega) (by omega))) rfl rfl rfl fun a hk => ?_
    refine q_val hk (w_iaA (k := (i / 16 + 1)) rfl rfl Tryz.underlying47 ty46 (by omega) (by omega)) rfl rfl rfl fun a hk => ?_
    refine q_val hk (w_ld1 rfl ty46 (lstq (k := (i / 16 + 1)) (blk_lst (hs.mi 0 rfl) (en_len uc_len) (Nat.le_refl _)) (by omega) (en_chunk uc_len (by omega)))) rfl rfl rfl fun a hk => ?_
    refine q_val hk (w_mv rfl) rfl rfl rfl fun a hk => ?_
    refine q_val hk (w_sub rfl rfl (wr64 (by omega) (by omega))) rfl rfl rfl fun a hk => ?_
    refine q_val hk (w_shl (r := ((dg (i / 16 + 1) e0 * 2 ^ (64 - 4 * i % 64) % 2 ^ 64 : Nat) : Int)) rfl rfl (by omega) (shl_u64 (by omega) (by omega))) rfl rfl rfl fun a hk => ?_
    refine q_val hk (w_bit (op := .or) (by simp) rfl rfl (u64_or_nat _ _ (Nat.lt_of_le_of_lt (Nat.div_le_self _ _) (dg_lt _ _)) (Nat.mod_lt _ (by decide)))) rfl rfl rfl fun a hk => ?_
    refine q_val hk (w_as rfl) rfl rfl rfl fun a hk => ?_
    refine (c_end (x_t ?_))
    refine wpIn_seq ?_
    refine wpIn_seq ?_
    refine wpIn_region_lit ?_
    refine q_val hk (w_mv rfl) rfl rfl rfl fun a hk => ?_
    refine q_val hk (w_lt rfl rfl (decide_eq_true (by decide))) rfl rfl rfl fun a hk => ?_
    refine (c_end (x_t ?_))
    refine c_T hk rfl ?_
    refine wpIn_region_lit ?_
    refine q_val hk (w_mv rfl) rfl rfl rfl fun a hk => ?_
    refine q_val hk (w_mv rfl) rfl rfl rfl fun a hk => ?_
    refine q_val hk (w_shl (r := (1 * 16)) rfl rfl (by omega) (by decide)) rfl rfl rfl fun a hk => ?_
    refine q_val hk (w_sub (r := (1 * 16 - 1)) rfl rfl (by decide)) rfl rfl rfl fun a hk => ?_
    refine q_val hk (w_bit (op := .and) (by simp) rfl rfl (bits_B he hi)) rfl rfl rfl fun a hk => ?_
    refine q_val hk (w_as rfl) rfl rfl rfl fun a hk => ?_
    refine (c_end (x_t ?_))
    refine wpIn_seq ?_
    refine wpIn_region_lit ?_
    refine q_val hk (w_mv rfl) rfl rfl rfl fun a hk => ?_
    refine q_val hk (w_as rfl) rfl rfl rfl fun a hk => ?_
    refine (c_end (x_t ?_))
    refine (wpIn_ret ?_)
    refine c_ret1 hk rfl rfl ?_
    exact ⟨rfl, hs.toBelow⟩
  · skip
    refine q_val hk (w_lt rfl rfl (decide_eq_false hc2)) rfl rfl rfl fun a hk => ?_
    refine (c_end (x_t ?_))
    refine c_F hk rfl ?_
    refine (wpIn_skip (x_t ?_))
    refine wpIn_seq ?_
    refine wpIn_seq ?_
    refine wpIn_region_lit ?_
    refine q_val hk (w_mv rfl) rfl rfl rfl fun a hk => ?_
    refine q_val hk (w_lt rfl rfl (decide_eq_true (by decide))) rfl rfl rfl fun a hk => ?_
    refine (c_end (x_t ?_))
    refine c_T hk rfl ?_
    refine wpIn_region_lit ?_
    refine q_val hk (w_mv rfl) rfl rfl rfl fun a hk => ?_
    refine q_val hk (w_mv rfl) rfl rfl rfl fun a hk => ?_
    refine q_val hk (w_shl (r := (1 * 16)) rfl rfl (by omega) (by decide)) rfl rfl rfl fun a hk => ?_
    refine q_val hk (w_sub (r := (1 * 16 - 1)) rfl rfl (by decide)) rfl rfl rfl fun a hk => ?_
    refine q_val hk (w_bit (op := .and) (by simp) rfl rfl (bits_A he hi)) rfl rfl rfl fun a hk => ?_
    refine q_val hk (w_as rfl) rfl rfl rfl fun a hk => ?_
    refine (c_end (x_t ?_))
    refine wpIn_seq ?_
    refine wpIn_region_lit ?_
    refine q_val hk (w_mv rfl) rfl rfl rfl fun a hk => ?_
    refine q_val hk (w_as rfl) rfl rfl rfl fun a hk => ?_
    refine (c_end (x_t ?_))
    refine (wpIn_ret ?_)
    refine c_ret1 hk rfl rfl ?_
    exact ⟨rfl, hs.toBelow⟩
theorem pow_start {s : Bool} {x : Zp s} {e0 : Nat} (he : e0 < R4) : rone s = mq (pw x (e0 / 2 ^ (4 * (64 - 0)))) := by
  rw [Nat.div_eq_of_lt (show e0 < 2 ^ (4 * (64 - 0)) from he)]
  exact mq_one.symm
theorem pow_sq {s : Bool} {x : Zp s} {m : Nat} : mq (pw x (2 ^ m) * pw x (2 ^ m)) = mq (pw x (2 ^ (m + 1))) := by
  rw [Nat.pow_succ, Nat.mul_two, pw_add]
theorem pow_next {s : Bool} {x : Zp s} {e0 j : Nat} (hj : j < 64) : mq (pw (pw x (e0 / 2 ^ (4 * (64 - j)))) (2 ^ 4) * pw x (e0 / 2 ^ (4 * (63 - j)) % 16)) = mq (pw x (e0 / 2 ^ (4 * (64 - (j + 1))))) := by
  rw [pw_pw, ← pw_add, show 64 - (j + 1) = 63 - j by omega]
  have e : e0 / 2 ^ (4 * (64 - j)) = e0 / 2 ^ (4 * (63 - j)) / 16 := by
    rw [Nat.div_div_eq_div_mul, show 16 = 2 ^ 4 from rfl, ← Nat.pow_add, show 4 * (63 - j) + 4 = 4 * (64 - j) by omega]
  rw [e, show 2 ^ 4 = 16 from rfl]
  congr 2
  omega
theorem pow_m {F0 : Nat → Prop} {W : World} {M R : List Res} (s : Bool) (x : Zp s) (e0 : Nat) (t : Option Nat) (evs : List Ev) (r : Res) (w0 : World) (hs : Sat F0 W (r :: M) R w0) (hT : TapeIs t evs r) (he : e0 < R4) (hn : evs.length ≤ 10000000000) : Calls Tryz.prog 180 [tval t, fieldV s, vec (mq x), vec e0].toArray w0 fun e w => ∃ r, e = .returned (vec (mq (pw x e0))) ∧ TapeIs t (evs ++ inverseE) r ∧ Sat F0 W (r :: M) R w := by
  refine c_enter (args := [tval t, fieldV s, vec (mq x), vec e0]) Tryz.func180 rfl rfl rfl fun a hk => ?_
  refine wpIn_seq ?_
  refine wpIn_region_lit ?_
  refine q_box (vs := fieldL s) hk hs rfl rfl rfl rfl fun b1 w a hk hs => ?_
  refine q_box (vs := [.int .u64 ((dg 0 (mq x) : Nat) : Int), .int .u64 ((dg 1 (mq x) : Nat) : Int), .int .u64 ((dg 2 (mq x) : Nat) : Int), .int .u64 ((dg 3 (mq x) : Nat) : Int)]) hk hs rfl rfl rfl rfl fun b2 w a hk hs => ?_
  refine q_box (vs := [.int .u64 ((dg 0 e0 : Nat) : Int), .int .u64 ((dg 1 e0 : Nat) : Int), .int .u64 ((dg 2 e0 : Nat) : Int), .int .u64 ((dg 3 e0 : Nat) : Int)]) hk hs rfl rfl rfl rfl fun b3 w a hk hs => ?_
  refine q_alc (vs := [.int .u64 0, .int .u64 0, .int .u64 0, .int .u64 0]) hk hs zr56 rfl rfl rfl fun b4 w a hk hs => ?_
  refine (c_end (x_t ?_))
  refine wpIn_seq ?_
  refine wpIn_region_lit ?_
  refine q_val hk (w_ldA rfl ty120 (.blk (n := 14) (hs.mi 3 rfl) rfl) rfl) rfl rfl rfl fun a hk => ?_
  refine q_val hk (w_ldv (z := mq x) rfl ty56 (.blk (n := 4) (hs.mi 2 rfl) rfl)) rfl rfl rfl fun a hk => ?_
  refine q_call (caps := []) hk rfl rfl Tryz.func181 fo181 rfl rfl (tableOf_c s x _) ?_
  rintro _ w ⟨rfl, hb⟩
  have hs := hs.below hb
  refine ⟨_, rfl, fun a hk => ?_⟩
  refine q_alc (vs := en vq (fun _ => 0) 16) hk hs zr220 (by kernel_rfl) rfl rfl fun b5 w a hk hs => ?_
  refine q_stoN (c := vq) (f := (fun i => mq (pw x i))) (m := 16) hk hs rfl rfl rfl ty220 rfl (en_len vq_len) (en_ones vq_ones) (en_len vq_len) rfl fun w hs => ?_
  refine (c_end (x_t ?_))
  refine wpIn_seq ?_
  refine wpIn_region_lit ?_
  refine q_val hk (w_fa rfl fq120_3 ty56) rfl rfl rfl fun a hk => ?_
  refine q_val hk (w_ldv (z := rone s) rfl ty56 (.blk (n := 4) (hs.mi 4 rfl) rfl)) rfl rfl rfl fun a hk => ?_
  refine q_alc (vs := [.int .u64 0, .int .u64 0, .int .u64 0, .int .u64 0]) hk hs zr56 rfl rfl rfl fun b6 w a hk hs => ?_
  refine q_sto (o := 0) (cs := [.int .u64 ((dg 0 (rone s) : Nat) : Int), .int .u64 ((dg 1 (rone s) : Nat) : Int), .int .u64 ((dg 2 (rone s) : Nat) : Int), .int .u64 ((dg 3 (rone s) : Nat) : Int)]) (vs' := [.int .u64 ((dg 0 (rone s) : Nat) : Int), .int .u64 ((dg 1 (rone s) : Nat) : Int), .int .u64 ((dg 2 (rone s) : Nat) : Int), .int .u64 ((dg 3 (rone s) : Nat) : Int)]) hk hs rfl rfl rfl ty56 rfl rfl rfl rfl rfl rfl fun w hs => ?_
  refine (c_end (x_t ?_))
  refine wpIn_seq ?_
  refine wpIn_seq ?_
  refine wpIn_region_lit ?_
  refine q_val hk (w_as rfl) rfl rfl rfl fun a hk => ?_
  refine (c_end (x_t ?_))
  refine wpIn_block ?_
  refine c_loop (α := Nat) (fun j a w => ∃ (r : Res) (o : Nat) (xj : Int), (j ≤ 64 ∧ xj = 63 - (j : Int)) ∧ o = mq (pw x (e0 / 2 ^ (4 * (64 - j)))) ∧ TapeIs t (evs ++ upE 0 ((j : Nat) : Int) (fun i => stepE (64 - 1 - i))) r ∧ Kn [] 41 [(11, .int .i64 xj), (10, .pointer (some ⟨b6, 0, none⟩)), (9, .pointer (some ⟨b5, 0, none⟩)), (8, .pointer (some ⟨b4, 0, none⟩)), (7, .pointer (some ⟨b3, 0, none⟩)), (5, .pointer (some ⟨b1, 0, none⟩)), (0, tval t)] a ∧ Sat F0 W ((blk b6 [.int .u64 ((dg 0 o : Nat) : Int), .int .u64 ((dg 1 o : Nat) : Int), .int .u64 ((dg 2 o : Nat) : Int), .int .u64 ((dg 3 o : Nat) : Int)] 56) :: (blk b5 (en vq (fun i => mq (pw x i)) 16) 220) :: (blk b4 [.int .u64 0, .int .u64 0, .int .u64 0, .int .u64 0] 56) :: (blk b3 [.int .u64 ((dg 0 e0 : Nat) : Int), .int .u64 ((dg 1 e0 : Nat) : Int), .int .u64 ((dg 2 e0 : Nat) : Int), .int .u64 ((dg 3 e0 : Nat) : Int)] 47) :: (blk b2 [.int .u64 ((dg 0 (mq x) : Nat) : Int), .int .u64 ((dg 1 (mq x) : Nat) : Int), .int .u64 ((dg 2 (mq x) : Nat) : Int), .int .u64 ((dg 3 (mq x) : Nat) : Int)] 56) :: (blk b1 (fieldL s) 120) :: r :: M) R w) (fun j => 64 - j) 0 ?_ ?_
  · exact ⟨_, _, _, ⟨by omega, by omega⟩, (pow_start he), (by rw [upE_nil (by omega), List.append_nil]; exact hT), hk.k rfl (hk.k rfl (hk.k rfl (hk.k rfl (hk.k rfl (hk.k rfl (hk.k rfl hk.nil)))))), hs⟩
  rintro j a w ⟨r, o, xj, hf0, hf1, hf2, hk, hs⟩
  have hT := hf2
  have hfj := hf0
  have ho := hf1
  have hl := upE_len (fr := 0) (to := ((j : Nat) : Int)) (F := (fun i => stepE (64 - 1 - i))) (B := 17) (fun _ => step_len _)
  refine wpIn_seq ?_
  refine wpIn_seq ?_
  refine wpIn_region_lit ?_
  refine q_val hk (w_mv rfl) rfl rfl rfl fun a hk => ?_
  rcases Classical.em (0 ≤ xj) with hc7 | hc7
  · skip
    refine q_val hk (w_ge rfl rfl (decide_eq_true hc7)) rfl rfl rfl fun a hk => ?_
    refine (c_end (x_t ?_))
    refine c_T hk rfl ?_
    refine (wpIn_skip (x_t ?_))
    refine wpIn_seq ?_
    refine wpIn_block ?_
    refine wpIn_seq ?_
    refine wpIn_region_lit ?_
    refine q_val hk (w_mv rfl) rfl rfl rfl fun a hk => ?_
    refine q_val hk (w_mv rfl) rfl rfl rfl fun a hk => ?_
    have hs := hs.up6
    refine q_call (caps := []) hk rfl rfl Tryz.func61 fo61 rfl rfl (note_m t 6 xj 0 (evs ++ upE 0 ((j : Nat) : Int) (fun i => stepE (64 - 1 - i))) _ _ hT hs (by rw [List.length_append]; omega)) ?_
    rintro _ w ⟨v8, r9, rfl, ht10, hs⟩
    have hT := ht10
    refine ⟨_, rfl, fun a hk => ?_⟩
    refine (c_end (x_t ?_))
    refine wpIn_seq ?_
    refine wpIn_seq ?_
    refine wpIn_region_lit ?_
    refine q_val hk (w_mv rfl) rfl rfl rfl fun a hk => ?_
    refine (c_end (x_t ?_))
    refine wpIn_block ?_
    refine c_loop (α := Nat) (fun m a w => ∃ (o2 : Nat), m ≤ 4 ∧ o2 = mq (pw (pw x (e0 / 2 ^ (4 * (64 - j)))) (2 ^ m)) ∧ Kn [] 41 [(24, .int .i64 (m : Int)), (22, .int .i64 xj), (21, tval t), (18, .bool true), (17, .int .i64 xj), (11, .int .i64 xj), (10, .pointer (some ⟨b6, 0, none⟩)), (9, .pointer (some ⟨b5, 0, none⟩)), (8, .pointer (some ⟨b4, 0, none⟩)), (7, .pointer (some ⟨b3, 0, none⟩)), (5, .pointer (some ⟨b1, 0, none⟩)), (0, tval t)] a ∧ Sat F0 W (r9 :: (blk b6 [.int .u64 ((dg 0 o2 : Nat) : Int), .int .u64 ((dg 1 o2 : Nat) : Int), .int .u64 ((dg 2 o2 : Nat) : Int), .int .u64 ((dg 3 o2 : Nat) : Int)] 56) :: (blk b5 (en vq (fun i => mq (pw x i)) 16) 220) :: (blk b4 [.int .u64 0, .int .u64 0, .int .u64 0, .int .u64 0] 56) :: (blk b3 [.int .u64 ((dg 0 e0 : Nat) : Int), .int .u64 ((dg 1 e0 : Nat) : Int), .int .u64 ((dg 2 e0 : Nat) : Int), .int .u64 ((dg 3 e0 : Nat) : Int)] 47) :: (blk b2 [.int .u64 ((dg 0 (mq x) : Nat) : Int), .int .u64 ((dg 1 (mq x) : Nat) : Int), .int .u64 ((dg 2 (mq x) : Nat) : Int), .int .u64 ((dg 3 (mq x) : Nat) : Int)] 56) :: (blk b1 (fieldL s) 120) :: M) R w) (fun m => 4 - m) 0 ?_ ?_
    · exact ⟨_, (by omega), (by rw [ho]; show _ = mq (pw (pw x _) 1); rw [pw_one]), hk.k rfl (hk.k rfl (hk.k rfl (hk.k rfl (hk.k rfl (hk.k rfl (hk.k rfl (hk.k rfl (hk.k rfl (hk.k rfl (hk.k rfl (hk.k rfl hk.nil))))))))))), hs⟩
    rintro m a w ⟨o2, hf0, hf1, hk, hs⟩
    have hfm := hf1
    refine wpIn_seq ?_
    refine wpIn_region_lit ?_
    rcases Classical.em ((m : Int) < 4) with hc11 | hc11
    · skip
      refine q_val hk (w_lt rfl rfl (decide_eq_true hc11)) rfl rfl rfl fun a hk => ?_
      refine (c_end (x_t ?_))
      refine wpIn_seq ?_
      refine c_T hk rfl ?_
      refine (wpIn_skip (x_t ?_))
      refine wpIn_seq ?_
      refine wpIn_block ?_
      refine wpIn_region_lit ?_
      refine q_val hk (w_ldA rfl ty120 (.blk (n := 14) (hs.mi 6 rfl) rfl) rfl) rfl rfl rfl fun a hk => ?_
      refine q_val hk (w_ldv (z := o2) rfl ty56 (.blk (n := 4) (hs.mi 1 rfl) rfl)) rfl rfl rfl fun a hk => ?_
      refine q_call (caps := []) hk rfl rfl Tryz.func182 fo182 rfl rfl (zsq_c (x := (pw (pw x (e0 / 2 ^ (4 * (64 - j)))) (2 ^ m))) _ hfm) ?_
      rintro _ w ⟨rfl, hb⟩
      have hs := hs.below hb
      refine ⟨_, rfl, fun a hk => ?_⟩
      have hs := hs.up1
      refine q_sto (o := 0) (cs := [.int .u64 ((dg 0 (mq ((pw (pw x (e0 / 2 ^ (4 * (64 - j)))) (2 ^ m)) * (pw (pw x (e0 / 2 ^ (4 * (64 - j)))) (2 ^ m)))) : Nat) : Int), .int .u64 ((dg 1 (mq ((pw (pw x (e0 / 2 ^ (4 * (64 - j)))) (2 ^ m)) * (pw (pw x (e0 / 2 ^ (4 * (64 - j)))) (2 ^ m)))) : Nat) : Int), .int .u64 ((dg 2 (mq ((pw (pw x (e0 / 2 ^ (4 * (64 - j)))) (2 ^ m)) * (pw (pw x (e0 / 2 ^ (4 * (64 - j)))) (2 ^ m)))) : Nat) : Int), .int .u64 ((dg 3 (mq ((pw (pw x (e0 / 2 ^ (4 * (64 - j)))) (2 ^ m)) * (pw (pw x (e0 / 2 ^ (4 * (64 - j)))) (2 ^ m)))) : Nat) : Int)]) (vs' := [.int .u64 ((dg 0 (mq ((pw (pw x (e0 / 2 ^ (4 * (64 - j)))) (2 ^ m)) * (pw (pw x (e0 / 2 ^ (4 * (64 - j)))) (2 ^ m)))) : Nat) : Int), .int .u64 ((dg 1 (mq ((pw (pw x (e0 / 2 ^ (4 * (64 - j)))) (2 ^ m)) * (pw (pw x (e0 / 2 ^ (4 * (64 - j)))) (2 ^ m)))) : Nat) : Int), .int .u64 ((dg 2 (mq ((pw (pw x (e0 / 2 ^ (4 * (64 - j)))) (2 ^ m)) * (pw (pw x (e0 / 2 ^ (4 * (64 - j)))) (2 ^ m)))) : Nat) : Int), .int .u64 ((dg 3 (mq ((pw (pw x (e0 / 2 ^ (4 * (64 - j)))) (2 ^ m)) * (pw (pw x (e0 / 2 ^ (4 * (64 - j)))) (2 ^ m)))) : Nat) : Int)]) hk hs rfl rfl rfl ty56 rfl rfl rfl rfl rfl rfl fun w hs => ?_
      refine (c_end (x_b (x_t ?_)))
      refine wpIn_region_lit ?_
      refine q_val hk (w_add rfl rfl (wr64 (by omega) (by omega))) rfl rfl rfl fun a hk => ?_
      refine q_val hk (w_mv rfl) rfl rfl rfl fun a hk => ?_
      refine (c_end (x_t ?_))
      have hs := hs.up6
      have hs := hs.up6
      have hs := hs.up6
      have hs := hs.up6
      have hs := hs.up6
      have hs := hs.up5
      have hs := hs.up6
      exact ⟨m + 1, ⟨_, (by omega), pow_sq, hk.k rfl (hk.k rfl (hk.k rfl (hk.k rfl (hk.k rfl (hk.k rfl (hk.k rfl (hk.k rfl (hk.k rfl (hk.k rfl (hk.k rfl (hk.k rfl hk.nil))))))))))), hs⟩, by omega⟩
    · skip
      have hm4 : m = 4 := by omega
      rw [hm4] at hfm
      refine q_val hk (w_lt rfl rfl (decide_eq_false hc11)) rfl rfl rfl fun a hk => ?_
      refine (c_end (x_t ?_))
      refine wpIn_seq ?_
      refine c_F hk rfl ?_
      refine (wpIn_exit (x_te (x_te (x_be ?_))))
      refine (x_t ?_)
      have hL := okL.cons (hs.mi 6 rfl) (okL.cons (hs.mi 2 rfl) (okL.cons (hs.mi 4 rfl) okL.nil))
      refine d_begin _ 11 (by kernel_rfl) rfl hs hL fun w hs hL => ?_
      refine d_join (n2 := 2) 511 (fun a w => ∃ (r1_8 : Res), TapeIs t (((evs ++ upE 0 ((j : Nat) : Int) (fun i => stepE (64 - 1 - i))) ++ [(6, xj, 0)]) ++ upE 0 16 (fun k => [(1, k, 0)])) r1_8 ∧ Kn [] 41 [(38, vec (mq (pw x (e0 / 2 ^ (4 * (63 - j)) % 16)))), (37, .int .u64 ((e0 / 2 ^ (4 * (63 - j)) % 16 : Nat) : Int)), (31, vec o2), (36, .int .i64 ((4 * (63 - j) : Nat) : Int)), (35, .int .i64 xj), (34, vec e0), (33, tval t), (32, .agg (en vq (fun i => mq (pw x i)) 16).toArray), (30, fieldV s), (25, .bool false), (24, .int .i64 (m : Int)), (22, .int .i64 xj), (21, tval t), (18, .bool true), (17, .int .i64 xj), (11, .int .i64 xj), (10, .pointer (some ⟨b6, 0, none⟩)), (9, .pointer (some ⟨b5, 0, none⟩)), (8, .pointer (some ⟨b4, 0, none⟩)), (7, .pointer (some ⟨b3, 0, none⟩)), (5, .pointer (some ⟨b1, 0, none⟩)), (0, tval t)] a ∧ Sat F0 W (r1_8 :: (blk b6 [.int .u64 ((dg 0 o2 : Nat) : Int), .int .u64 ((dg 1 o2 : Nat) : Int), .int .u64 ((dg 2 o2 : Nat) : Int), .int .u64 ((dg 3 o2 : Nat) : Int)] 56) :: (blk b5 (en vq (fun i => mq (pw x i)) 16) 220) :: (blk b4 [.int .u64 0, .int .u64 0, .int .u64 0, .int .u64 0] 56) :: (blk b3 [.int .u64 ((dg 0 e0 : Nat) : Int), .int .u64 ((dg 1 e0 : Nat) : Int), .int .u64 ((dg 2 e0 : Nat) : Int), .int .u64 ((dg 3 e0 : Nat) : Int)] 47) :: (blk b2 [.int .u64 ((dg 0 (mq x) : Nat) : Int), .int .u64 ((dg 1 (mq x) : Nat) : Int), .int .u64 ((dg 2 (mq x) : Nat) : Int), .int .u64 ((dg 3 (mq x) : Nat) : Int)] 56) :: (blk b1 (fieldL s) 120) :: M) R w ∧ okL [blk b1 (fieldL s) 120, blk b5 (en vq (fun i => mq (pw x i)) 16) 220, blk b3 [.int .u64 ((dg 0 e0 : Nat) : Int), .int .u64 ((dg 1 e0 : Nat) : Int), .int .u64 ((dg 2 e0 : Nat) : Int), .int .u64 ((dg 3 e0 : Nat) : Int)] 47] w) ?_ ?_
      · intro hJ511
        refine d_join (n2 := 3) 255 (fun a w => Kn [] 41 [(37, .int .u64 ((e0 / 2 ^ (4 * (63 - j)) % 16 : Nat) : Int)), (31, vec o2), (36, .int .i64 ((4 * (63 - j) : Nat) : Int)), (35, .int .i64 xj), (34, vec e0), (33, tval t), (32, .agg (en vq (fun i => mq (pw x i)) 16).toArray), (30, fieldV s), (25, .bool false), (24, .int .i64 (m : Int)), (22, .int .i64 xj), (21, tval t), (18, .bool true), (17, .int .i64 xj), (11, .int .i64 xj), (10, .pointer (some ⟨b6, 0, none⟩)), (9, .pointer (some ⟨b5, 0, none⟩)), (8, .pointer (some ⟨b4, 0, none⟩)), (7, .pointer (some ⟨b3, 0, none⟩)), (5, .pointer (some ⟨b1, 0, none⟩)), (0, tval t)] a ∧ Sat F0 W (r9 :: (blk b6 [.int .u64 ((dg 0 o2 : Nat) : Int), .int .u64 ((dg 1 o2 : Nat) : Int), .int .u64 ((dg 2 o2 : Nat) : Int), .int .u64 ((dg 3 o2 : Nat) : Int)] 56) :: (blk b5 (en vq (fun i => mq (pw x i)) 16) 220) :: (blk b4 [.int .u64 0, .int .u64 0, .int .u64 0, .int .u64 0] 56) :: (blk b3 [.int .u64 ((dg 0 e0 : Nat) : Int), .int .u64 ((dg 1 e0 : Nat) : Int), .int .u64 ((dg 2 e0 : Nat) : Int), .int .u64 ((dg 3 e0 : Nat) : Int)] 47) :: (blk b2 [.int .u64 ((dg 0 (mq x) : Nat) : Int), .int .u64 ((dg 1 (mq x) : Nat) : Int), .int .u64 ((dg 2 (mq x) : Nat) : Int), .int .u64 ((dg 3 (mq x) : Nat) : Int)] 56) :: (blk b1 (fieldL s) 120) :: M) R w ∧ okL [blk b1 (fieldL s) 120, blk b5 (en vq (fun i => mq (pw x i)) 16) 220, blk b3 [.int .u64 ((dg 0 e0 : Nat) : Int), .int .u64 ((dg 1 e0 : Nat) : Int), .int .u64 ((dg 2 e0 : Nat) : Int), .int .u64 ((dg 3 e0 : Nat) : Int)] 47] w) ?_ ?_
        · intro hJ255
          refine d_v 0 1 hk hL rfl (by kernel_rfl) rfl rfl (fun w hL => w_ldA rfl ty120 (.blk (n := 14) (hL.at 0 rfl) rfl) rfl) fun a hk => ?_
          refine d_v 2 5 hk hL rfl (by kernel_rfl) rfl rfl (fun w hL => w_ldA rfl ty220 (arr_all (hL.at 1 rfl)) (en_len vq_len)) fun a hk => ?_
          refine d_v 3 13 hk hL rfl (by kernel_rfl) rfl rfl (fun w hL => w_mv rfl) fun a hk => ?_
          refine d_v 4 29 hk hL rfl (by kernel_rfl) rfl rfl (fun w hL => w_ldv (z := e0) rfl ty47 (.blk (n := 4) (hL.at 2 rfl) rfl)) fun a hk => ?_
          refine d_v 5 61 hk hL rfl (by kernel_rfl) rfl rfl (fun w hL => w_mv rfl) fun a hk => ?_
          refine d_v 6 125 hk hL rfl (by kernel_rfl) rfl rfl (fun w hL => w_mul (r := ((4 * (63 - j) : Nat) : Int)) rfl rfl (by rw [wr64 (by omega) (by omega)]; omega)) fun a hk => ?_
          refine d_2 1 7 127 253 rfl rfl (by kernel_rfl) (fun K hK => ?_) (fun K hK => ?_)
          · skip
            refine q_val hk (w_ldv (z := o2) rfl ty56 (.blk (n := 4) (hs.mi 1 rfl) rfl)) rfl rfl rfl fun a hk => ?_
            have hL := okL.cons (hs.mi 6 rfl) (okL.cons (hs.mi 2 rfl) (okL.cons (hs.mi 4 rfl) okL.nil))
            refine c_end (x_t (hK _ _ hL ?_))
            clear hK K
            refine d_1 7 255 rfl (by kernel_rfl) fun K hK => ?_
            refine q_call (caps := []) hk rfl rfl Tryz.func184 fo184 rfl rfl (bits_c e0 (63 - j) _ he (by omega)) ?_
            rintro _ w ⟨rfl, hb⟩
            have hs := hs.below hb
            refine ⟨_, rfl, fun a hk => ?_⟩
            have hL := okL.cons (hs.mi 6 rfl) (okL.cons (hs.mi 2 rfl) (okL.cons (hs.mi 4 rfl) okL.nil))
            refine c_end (x_t (hK _ _ hL ?_))
            clear hK K
            have hL := okL.cons (hs.mi 6 rfl) (okL.cons (hs.mi 2 rfl) (okL.cons (hs.mi 4 rfl) okL.nil))
            exact hJ255 _ _ ⟨hk.k rfl (hk.k rfl (hk.k rfl (hk.k rfl (hk.k rfl (hk.k rfl (hk.k rfl (hk.k rfl (hk.k rfl (hk.k rfl (hk.k rfl (hk.k rfl (hk.k rfl (hk.k rfl (hk.k rfl (hk.k rfl (hk.k rfl (hk.k rfl (hk.k rfl (hk.k rfl (hk.k rfl hk.nil)))))))))))))))))))), hs, hL⟩
          · skip
            refine q_call (caps := []) hk rfl rfl Tryz.func184 fo184 rfl rfl (bits_c e0 (63 - j) _ he (by omega)) ?_
            rintro _ w ⟨rfl, hb⟩
            have hs := hs.below hb
            refine ⟨_, rfl, fun a hk => ?_⟩
            have hL := okL.cons (hs.mi 6 rfl) (okL.cons (hs.mi 2 rfl) (okL.cons (hs.mi 4 rfl) okL.nil))
            refine c_end (x_t (hK _ _ hL ?_))
            clear hK K
            refine d_2 1 8 255 509 rfl rfl (by kernel_rfl) (fun K hK => ?_) (fun K hK => ?_)
            · skip
              refine q_val hk (w_ldv (z := o2) rfl ty56 (.blk (n := 4) (hs.mi 1 rfl) rfl)) rfl rfl rfl fun a hk => ?_
              have hL := okL.cons (hs.mi 6 rfl) (okL.cons (hs.mi 2 rfl) (okL.cons (hs.mi 4 rfl) okL.nil))
              refine c_end (x_t (hK _ _ hL ?_))
              clear hK K
              have hL := okL.cons (hs.mi 6 rfl) (okL.cons (hs.mi 2 rfl) (okL.cons (hs.mi 4 rfl) okL.nil))
              exact hJ255 _ _ ⟨hk.k rfl (hk.k rfl (hk.k rfl (hk.k rfl (hk.k rfl (hk.k rfl (hk.k rfl (hk.k rfl (hk.k rfl (hk.k rfl (hk.k rfl (hk.k rfl (hk.k rfl (hk.k rfl (hk.k rfl (hk.k rfl (hk.k rfl (hk.k rfl (hk.k rfl (hk.k rfl (hk.k rfl hk.nil)))))))))))))))))))), hs, hL⟩
            · skip
              refine q_call (caps := []) hk rfl rfl Tryz.func183 fo183 rfl rfl (scan_m s (fun i => pw x i) (e0 / 2 ^ (4 * (63 - j)) % 16) t ((evs ++ upE 0 ((j : Nat) : Int) (fun i => stepE (64 - 1 - i))) ++ [(6, xj, 0)]) _ _ hs hT (by omega) (by rw [List.length_append, List.length_append, List.length_singleton]; omega)) ?_
              rintro _ w ⟨r1_8, rfl, ht1_8b, hs⟩
              have hT := ht1_8b
              refine ⟨_, rfl, fun a hk => ?_⟩
              have hL := okL.cons (hs.mi 6 rfl) (okL.cons (hs.mi 2 rfl) (okL.cons (hs.mi 4 rfl) okL.nil))
              refine c_end (x_t (hK _ _ hL ?_))
              clear hK K
              refine d_1 1 511 rfl (by kernel_rfl) fun K hK => ?_
              refine q_val hk (w_ldv (z := o2) rfl ty56 (.blk (n := 4) (hs.mi 1 rfl) rfl)) rfl rfl rfl fun a hk => ?_
              have hL := okL.cons (hs.mi 6 rfl) (okL.cons (hs.mi 2 rfl) (okL.cons (hs.mi 4 rfl) okL.nil))
              refine c_end (x_t (hK _ _ hL ?_))
              clear hK K
              have hL := okL.cons (hs.mi 6 rfl) (okL.cons (hs.mi 2 rfl) (okL.cons (hs.mi 4 rfl) okL.nil))
              exact hJ511 _ _ ⟨_, hT, hk.k rfl (hk.k rfl (hk.k rfl (hk.k rfl (hk.k rfl (hk.k rfl (hk.k rfl (hk.k rfl (hk.k rfl (hk.k rfl (hk.k rfl (hk.k rfl (hk.k rfl (hk.k rfl (hk.k rfl (hk.k rfl (hk.k rfl (hk.k rfl (hk.k rfl (hk.k rfl (hk.k rfl (hk.k rfl hk.nil))))))))))))))))))))), hs, hL⟩
        · rintro a w ⟨hk, hs, hL⟩
          refine d_1 8 511 rfl (by kernel_rfl) fun K hK => ?_
          refine q_call (caps := []) hk rfl rfl Tryz.func183 fo183 rfl rfl (scan_m s (fun i => pw x i) (e0 / 2 ^ (4 * (63 - j)) % 16) t ((evs ++ upE 0 ((j : Nat) : Int) (fun i => stepE (64 - 1 - i))) ++ [(6, xj, 0)]) _ _ hs hT (by omega) (by rw [List.length_append, List.length_append, List.length_singleton]; omega)) ?_
          rintro _ w ⟨r1_8, rfl, ht1_8b, hs⟩
          have hT := ht1_8b
          refine ⟨_, rfl, fun a hk => ?_⟩
          have hL := okL.cons (hs.mi 6 rfl) (okL.cons (hs.mi 2 rfl) (okL.cons (hs.mi 4 rfl) okL.nil))
          refine c_end (x_t (hK _ _ hL ?_))
          clear hK K
          have hL := okL.cons (hs.mi 6 rfl) (okL.cons (hs.mi 2 rfl) (okL.cons (hs.mi 4 rfl) okL.nil))
          exact hJ511 _ _ ⟨_, hT, hk.k rfl (hk.k rfl (hk.k rfl (hk.k rfl (hk.k rfl (hk.k rfl (hk.k rfl (hk.k rfl (hk.k rfl (hk.k rfl (hk.k rfl (hk.k rfl (hk.k rfl (hk.k rfl (hk.k rfl (hk.k rfl (hk.k rfl (hk.k rfl (hk.k rfl (hk.k rfl (hk.k rfl (hk.k rfl hk.nil))))))))))))))))))))), hs, hL⟩
      · rintro a w ⟨r1_8, hT, hk, hs, hL⟩
        refine d_1 9 1023 rfl (by kernel_rfl) fun K hK => ?_
        refine q_call (caps := []) hk rfl rfl Tryz.func120 fo120 rfl rfl (zmul_c (x := (pw (pw x (e0 / 2 ^ (4 * (64 - j)))) (2 ^ 4))) (y := (pw x (e0 / 2 ^ (4 * (63 - j)) % 16))) _ hfm rfl) ?_
        rintro _ w ⟨rfl, hb⟩
        have hs := hs.below hb
        refine ⟨_, rfl, fun a hk => ?_⟩
        have hL := okL.cons (hs.mi 6 rfl) (okL.cons (hs.mi 2 rfl) (okL.cons (hs.mi 4 rfl) okL.nil))
        refine c_end (x_t (hK _ _ hL ?_))
        clear hK K
        refine d_1 10 2047 rfl (by kernel_rfl) fun K hK => ?_
        have hs := hs.up1
        refine q_sto (o := 0) (cs := [.int .u64 ((dg 0 (mq ((pw (pw x (e0 / 2 ^ (4 * (64 - j)))) (2 ^ 4)) * (pw x (e0 / 2 ^ (4 * (63 - j)) % 16)))) : Nat) : Int), .int .u64 ((dg 1 (mq ((pw (pw x (e0 / 2 ^ (4 * (64 - j)))) (2 ^ 4)) * (pw x (e0 / 2 ^ (4 * (63 - j)) % 16)))) : Nat) : Int), .int .u64 ((dg 2 (mq ((pw (pw x (e0 / 2 ^ (4 * (64 - j)))) (2 ^ 4)) * (pw x (e0 / 2 ^ (4 * (63 - j)) % 16)))) : Nat) : Int), .int .u64 ((dg 3 (mq ((pw (pw x (e0 / 2 ^ (4 * (64 - j)))) (2 ^ 4)) * (pw x (e0 / 2 ^ (4 * (63 - j)) % 16)))) : Nat) : Int)]) (vs' := [.int .u64 ((dg 0 (mq ((pw (pw x (e0 / 2 ^ (4 * (64 - j)))) (2 ^ 4)) * (pw x (e0 / 2 ^ (4 * (63 - j)) % 16)))) : Nat) : Int), .int .u64 ((dg 1 (mq ((pw (pw x (e0 / 2 ^ (4 * (64 - j)))) (2 ^ 4)) * (pw x (e0 / 2 ^ (4 * (63 - j)) % 16)))) : Nat) : Int), .int .u64 ((dg 2 (mq ((pw (pw x (e0 / 2 ^ (4 * (64 - j)))) (2 ^ 4)) * (pw x (e0 / 2 ^ (4 * (63 - j)) % 16)))) : Nat) : Int), .int .u64 ((dg 3 (mq ((pw (pw x (e0 / 2 ^ (4 * (64 - j)))) (2 ^ 4)) * (pw x (e0 / 2 ^ (4 * (63 - j)) % 16)))) : Nat) : Int)]) hk hs rfl rfl rfl ty56 rfl rfl rfl rfl rfl rfl fun w hs => ?_
        have hL := okL.cons (hs.mi 6 rfl) (okL.cons (hs.mi 2 rfl) (okL.cons (hs.mi 4 rfl) okL.nil))
        refine c_end (x_t (hK _ _ hL ?_))
        clear hK K
        refine d_end (by kernel_rfl) ?_
        refine (x_b (x_t ?_))
        refine wpIn_region_lit ?_
        refine q_val hk (w_mv rfl) rfl rfl rfl fun a hk => ?_
        refine q_val hk (w_sub rfl rfl (wr64 (by omega) (by omega))) rfl rfl rfl fun a hk => ?_
        refine q_val hk (w_as rfl) rfl rfl rfl fun a hk => ?_
        refine (c_end (x_t ?_))
        rw [List.append_assoc, List.append_assoc, show upE 0 ((j : Nat) : Int) (fun i => stepE (64 - 1 - i)) ++ ([(6, xj, 0)] ++ upE 0 16 (fun k => [(1, k, 0)])) = upE 0 ((j + 1 : Nat) : Int) (fun i => stepE (64 - 1 - i)) from by rw [hfj.2]; exact (by have h := upE_succ (F := (fun i => stepE (64 - 1 - i))) (x := ((j : Nat) : Int)) (fr := 0) (by omega); unfold stepE at h ⊢; rw [show (64 : Int) - 1 - ((j : Nat) : Int) = 63 - ((j : Nat) : Int) by omega] at h; exact h)] at hT
        have hs := hs.up1
        have hs := hs.up6
        have hs := hs.up6
        have hs := hs.up6
        have hs := hs.up6
        have hs := hs.up6
        have hs := hs.up6
        exact ⟨j + 1, ⟨_, _, _, ⟨by omega, by omega⟩, (pow_next (by omega)), hT, hk.k rfl (hk.k rfl (hk.k rfl (hk.k rfl (hk.k rfl (hk.k rfl (hk.k rfl hk.nil)))))), hs⟩, by omega⟩
  · skip
    refine q_val hk (w_ge rfl rfl (decide_eq_false hc7)) rfl rfl rfl fun a hk => ?_
    refine (c_end (x_t ?_))
    refine c_F hk rfl ?_
    refine (wpIn_exit (x_te (x_te (x_be ?_))))
    refine (x_t ?_)
    refine wpIn_seq ?_
    refine wpIn_region_lit ?_
    refine q_val hk (w_ldv (z := o) rfl ty56 (.blk (n := 4) (hs.mi 0 rfl) rfl)) rfl rfl rfl fun a hk => ?_
    have hs := hs.up2
    refine q_sto (o := 0) (cs := [.int .u64 ((dg 0 o : Nat) : Int), .int .u64 ((dg 1 o : Nat) : Int), .int .u64 ((dg 2 o : Nat) : Int), .int .u64 ((dg 3 o : Nat) : Int)]) (vs' := [.int .u64 ((dg 0 o : Nat) : Int), .int .u64 ((dg 1 o : Nat) : Int), .int .u64 ((dg 2 o : Nat) : Int), .int .u64 ((dg 3 o : Nat) : Int)]) hk hs rfl rfl rfl ty56 rfl rfl rfl rfl rfl rfl fun w hs => ?_
    refine (c_end (x_t ?_))
    refine (wpIn_ret ?_)
    refine c_retG (vs := [vec o]) hk rfl ⟨⟨_, rfl, lv_A ty56 (.blk (n := 4) (hs.mi 0 rfl) rfl) rfl⟩, trivial⟩ rfl ?_
    have hs := hs.drop
    have hs := hs.drop
    have hs := hs.drop
    have hs := hs.drop
    have hs := hs.drop
    have hs := hs.drop
    have hj64 : j = 64 := by omega
    subst hj64
    exact ⟨_, by rw [ho, Nat.sub_self, Nat.mul_zero, Nat.pow_zero, Nat.div_one]; rfl, hT, hs⟩
end Go.Proofs.YtdnkkbmpefhbjaaGreatDoor
namespace Go.Proofs.YtdnkkbmpefhbjaaGreatDoor
set_option linter.all false
open Go Go.RowKit Alg
/-- A pair as yield gets it. -/
def evP (x : Nat × Nat) : List Value := [.int .i64 ((x.1 : Nat) : Int), vec x.2]
def upP (n : Nat) (f : Nat → Nat) : List (Nat × Nat) := (List.range n).map fun i => (i, f i)
def dnP (n : Nat) (f : Nat → Nat) : List (Nat × Nat) := (List.range n).map fun i => (n - 1 - i, f (n - 1 - i))
def coefP (x : Nat × Nat) : Ev := (2, ((x.1 : Nat) : Int), 0)
theorem upP_get {n i : Nat} {f : Nat → Nat} (h : i < n) : (upP n f)[i]? = some (i, f i) := by simp [upP, h]
theorem dnP_get {n i : Nat} {f : Nat → Nat} (h : i < n) : (dnP n f)[i]? = some (n - 1 - i, f (n - 1 - i)) := by simp [dnP, h]
theorem upP_len {n : Nat} {f : Nat → Nat} : (upP n f).length = n := by simp [upP]
theorem dnP_len {n : Nat} {f : Nat → Nat} : (dnP n f).length = n := by simp [dnP]
theorem upP_some {n k : Nat} {f : Nat → Nat} {x : Nat × Nat} (h : (upP n f)[k]? = some x) : k < n ∧ x = (k, f k) := by
  have hk : k < n := by have := (List.getElem?_eq_some_iff.1 h).1; rwa [upP_len] at this
  rw [upP_get hk] at h
  exact ⟨hk, (Option.some.inj h).symm⟩
theorem dnP_some {n k : Nat} {f : Nat → Nat} {x : Nat × Nat} (h : (dnP n f)[k]? = some x) : k < n ∧ x = (n - 1 - k, f (n - 1 - k)) := by
  have hk : k < n := by have := (List.getElem?_eq_some_iff.1 h).1; rwa [dnP_len] at this
  rw [dnP_get hk] at h
  exact ⟨hk, (Option.some.inj h).symm⟩
theorem take_coef {xs : List (Nat × Nat)} {k : Nat} {x : Nat × Nat} {evs : List Ev} (h : xs[k]? = some x) : evs ++ (xs.take k).map coefP ++ [(2, ((x.1 : Nat) : Int), 0)] = evs ++ (xs.take (k + 1)).map coefP := by
  have hl := (List.getElem?_eq_some_iff.1 h).1
  rw [List.take_succ_eq_append_getElem hl, List.map_append, List.append_assoc, (List.getElem?_eq_some_iff.1 h).2]
  rfl
theorem upP_coef {n : Nat} {f : Nat → Nat} : ((upP n f).take n).map coefP = upE 0 (n : Int) fun i => [(2, i, 0)] := by
  rw [List.take_of_length_le (by rw [upP_len]; exact Nat.le_refl n)]
  unfold upP upE
  rw [List.map_map, show ((n : Int) - 0).toNat = n by omega]
  generalize n = m
  induction m with
  | zero => rfl
  | succ m ih => rw [List.range_succ, List.map_append, List.map_append, List.flatten_append, ih]; simp [coefP]
theorem dnP_coef {n : Nat} {f : Nat → Nat} : ((dnP n f).take n).map coefP = downE (n : Int) fun i => [(2, i, 0)] := by
  rw [List.take_of_length_le (by rw [dnP_len]; exact Nat.le_refl n)]
  unfold dnP downE upE
  rw [List.map_map, show ((n : Int) - 0).toNat = n by omega]
  have key : ∀ m, m ≤ n → (List.range m).map (coefP ∘ fun i => (n - 1 - i, f (n - 1 - i))) = ((List.range m).map fun (i : Nat) => [((2 : Int), (n : Int) - 1 - (0 + (i : Int)), (0 : Int))]).flatten := by
    intro m
    induction m with
    | zero => intro _; rfl
    | succ m ih =>
      intro hm
      rw [List.range_succ, List.map_append, List.map_append, List.flatten_append, ih (by omega)]
      congr 1
      simp only [List.map_cons, List.map_nil, Function.comp, coefP, List.flatten_cons, List.flatten_nil, List.append_nil]
      rw [show (((n - 1 - m : Nat)) : Int) = (n : Int) - 1 - (0 + (m : Int)) by omega]
  exact key n (Nat.le_refl n)
theorem all_it (b n lc : Nat) (la : Option Addr) (f : Nat → Nat) (hn : n ≤ 1000000000) : IterQ Tryz.prog 178 [.pointer (some ⟨b, 0, none⟩)] evP (upP n f) (fun _ r => r = nores) (rall [blk b [.slice la n lc] 51, lst 4 (.slice la n lc) n (en vq f n)]) := by
  intro l J Jx F0 W R hR hY FR j k w0 hj hK hs
  obtain rfl := hK
  refine c_enter (args := [.func (.yield l) #[] #[], .pointer (some ⟨b, 0, none⟩)]) Tryz.func178 rfl rfl rfl fun a hk => ?_
  refine wpIn_seq ?_
  refine wpIn_region_lit ?_
  refine q_val hk (w_ld1 rfl ty51 (.blk (n := 1) ((hR.pi 0 rfl).at_ hs) rfl)) rfl rfl rfl fun a hk => ?_
  refine q_val hk (w_len rfl Tryz.underlying51) rfl rfl rfl fun a hk => ?_
  refine q_val hk (w_mv rfl) rfl rfl rfl fun a hk => ?_
  refine (c_end (x_t ?_))
  refine wpIn_block ?_
  refine c_loop (α := Nat) (fun i a w => ∃ (j : Res), i ≤ n ∧ J i j ∧ Kn [] 18 [(7, .int .i64 (i : Int)), (6, .int .i64 ((n : Nat) : Int)), (5, .slice la n lc), (0, .func (.yield l) #[] #[])] a ∧ Sat F0 W [j, nores, FR] R w) (fun i => n - i) 0 ?_ ?_
  · exact ⟨_, (by omega), hj, hk.k rfl (hk.k rfl (hk.k rfl (hk.k rfl hk.nil))), hs⟩
  rintro i a w ⟨j, hf0, hf1, hk, hs⟩
  have hj := hf1
  refine wpIn_seq ?_
  refine wpIn_region_lit ?_
  rcases Classical.em ((i : Int) < ((n : Nat) : Int)) with hc1 | hc1
  · skip
    have hlt : i < n := by omega
    refine q_val hk (w_lt rfl rfl (decide_eq_true hc1)) rfl rfl rfl fun a hk => ?_
    refine (c_end (x_t ?_))
    refine wpIn_seq ?_
    refine c_T hk rfl ?_
    refine (wpIn_skip (x_t ?_))
    refine wpIn_seq ?_
    refine wpIn_block ?_
    refine wpIn_seq ?_
    refine wpIn_region_lit ?_
    refine q_val hk (w_mv rfl) rfl rfl rfl fun a hk => ?_
    refine q_val hk (w_iaL (k := i) rfl rfl Tryz.underlying51 ty56 ((hR.pi 1 rfl).at_ hs) (by omega) (by omega)) rfl rfl rfl fun a hk => ?_
    refine q_val hk (w_ldv (z := f i) rfl ty56 (lstq (k := i) ((hR.pi 1 rfl).at_ hs) (by omega) (en_chunk vq_len (by omega)))) rfl rfl rfl fun a hk => ?_
    refine q_alc (vs := [.int .u64 0, .int .u64 0, .int .u64 0, .int .u64 0]) hk hs zr56 rfl rfl rfl fun b2 w a hk hs => ?_
    refine q_val hk (w_as rfl) rfl rfl rfl fun a hk => ?_
    refine q_sto (o := 0) (cs := [.int .u64 ((dg 0 (f i) : Nat) : Int), .int .u64 ((dg 1 (f i) : Nat) : Int), .int .u64 ((dg 2 (f i) : Nat) : Int), .int .u64 ((dg 3 (f i) : Nat) : Int)]) (vs' := [.int .u64 ((dg 0 (f i) : Nat) : Int), .int .u64 ((dg 1 (f i) : Nat) : Int), .int .u64 ((dg 2 (f i) : Nat) : Int), .int .u64 ((dg 3 (f i) : Nat) : Int)]) hk hs rfl rfl rfl ty56 rfl rfl rfl rfl rfl rfl fun w hs => ?_
    refine (c_end (x_t ?_))
    refine wpIn_seq ?_
    refine wpIn_region_lit ?_
    refine q_val hk (w_mv rfl) rfl rfl rfl fun a hk => ?_
    refine q_val hk (w_mv rfl) rfl rfl rfl fun a hk => ?_
    refine q_val hk (w_ldv (z := f i) rfl ty56 (.blk (n := 4) (hs.mi 0 rfl) rfl)) rfl rfl rfl fun a hk => ?_
    have hs := hs.up1
    refine q_yield hk hs i (i, f i) rfl rfl hY (upP_get hlt) rfl hj rfl rfl fun y3 j w a hj hk hs => ?_
    refine q_val hk (w_not rfl) rfl rfl rfl fun a hk => ?_
    refine (c_end (x_t ?_))
    rcases y3 with _ | _
    · skip
      have hj : Jx (i + 1) j := hj
      refine c_T hk rfl ?_
      refine (wpIn_ret (x_br (x_tr (x_tr (x_br ?_)))))
      refine c_ret0 hk rfl ?_
      have hs := hs.up1
      have hs := hs.drop
      exact ⟨⟨_, rfl⟩, _, _, hs, .inr ⟨i, (by rw [upP_len]; omega), hj, rfl⟩⟩
    · skip
      have hj : J (i + 1) j := hj
      refine c_F hk rfl ?_
      refine (wpIn_skip (x_b (x_t ?_)))
      refine wpIn_region_lit ?_
      refine q_val hk (w_add rfl rfl (wr64 (by omega) (by omega))) rfl rfl rfl fun a hk => ?_
      refine q_val hk (w_mv rfl) rfl rfl rfl fun a hk => ?_
      refine (c_end (x_t ?_))
      have hs := hs.up1
      have hs := hs.drop
      exact ⟨i + 1, ⟨_, (by omega), hj, hk.k rfl (hk.k rfl (hk.k rfl (hk.k rfl hk.nil))), hs⟩, by omega⟩
  · skip
    refine q_val hk (w_lt rfl rfl (decide_eq_false hc1)) rfl rfl rfl fun a hk => ?_
    refine (c_end (x_t ?_))
    refine wpIn_seq ?_
    refine c_F hk rfl ?_
    refine (wpIn_exit (x_te (x_te (x_be ?_))))
    refine c_end0 hk rfl ?_
    exact ⟨⟨_, rfl⟩, _, _, hs, .inl ⟨(by have e : i = (upP n f).length := (by rw [upP_len]; omega); rw [← e]; exact hj), rfl⟩⟩
theorem back_it (b n lc : Nat) (la : Option Addr) (f : Nat → Nat) (hn : n ≤ 1000000000) : IterQ Tryz.prog 169 [.pointer (some ⟨b, 0, none⟩)] evP (dnP n f) (fun _ r => r = nores) (rall [blk b [.slice la n lc] 51, lst 4 (.slice la n lc) n (en vq f n)]) := by
  intro l J Jx F0 W R hR hY FR j k w0 hj hK hs
  obtain rfl := hK
  refine c_enter (args := [.func (.yield l) #[] #[], .pointer (some ⟨b, 0, none⟩)]) Tryz.func169 rfl rfl rfl fun a hk => ?_
  refine wpIn_seq ?_
  refine wpIn_region_lit ?_
  refine q_val hk (w_ld1 rfl ty51 (.blk (n := 1) ((hR.pi 0 rfl).at_ hs) rfl)) rfl rfl rfl fun a hk => ?_
  refine q_val hk (w_len rfl Tryz.underlying51) rfl rfl rfl fun a hk => ?_
  refine q_val hk (w_sub rfl rfl (wr64 (by omega) (by omega))) rfl rfl rfl fun a hk => ?_
  refine q_val hk (w_as rfl) rfl rfl rfl fun a hk => ?_
  refine (c_end (x_t ?_))
  refine wpIn_block ?_
  refine c_loop (α := Nat) (fun i a w => ∃ (j : Res) (xi : Int), (i ≤ n ∧ xi = (n : Int) - 1 - (i : Int)) ∧ J i j ∧ Kn [] 19 [(3, .int .i64 xi), (0, .func (.yield l) #[] #[]), (1, .pointer (some ⟨b, 0, none⟩))] a ∧ Sat F0 W [j, nores, FR] R w) (fun i => n - i) 0 ?_ ?_
  · exact ⟨_, _, ⟨by omega, by omega⟩, hj, hk.k rfl (hk.k rfl (hk.k rfl hk.nil)), hs⟩
  rintro i a w ⟨j, xi, hf0, hf1, hk, hs⟩
  have hj := hf1
  refine wpIn_seq ?_
  refine wpIn_seq ?_
  refine wpIn_region_lit ?_
  refine q_val hk (w_mv rfl) rfl rfl rfl fun a hk => ?_
  rcases Classical.em (0 ≤ xi) with hc1 | hc1
  · skip
    have hlt : i < n := by omega
    have hxi : xi = ((n - 1 - i : Nat) : Int) := by omega
    subst hxi
    refine q_val hk (w_ge rfl rfl (decide_eq_true hc1)) rfl rfl rfl fun a hk => ?_
    refine (c_end (x_t ?_))
    refine c_T hk rfl ?_
    refine (wpIn_skip (x_t ?_))
    refine wpIn_seq ?_
    refine wpIn_block ?_
    refine wpIn_seq ?_
    refine wpIn_region_lit ?_
    refine q_val hk (w_mv rfl) rfl rfl rfl fun a hk => ?_
    refine q_val hk (w_mv rfl) rfl rfl rfl fun a hk => ?_
    refine q_val hk (w_ld1 rfl ty51 (.blk (n := 1) ((hR.pi 0 rfl).at_ hs) rfl)) rfl rfl rfl fun a hk => ?_
    refine q_val hk (w_mv rfl) rfl rfl rfl fun a hk => ?_
    refine q_val hk (w_iaL (k := (n - 1 - i)) rfl rfl Tryz.underlying51 ty56 ((hR.pi 1 rfl).at_ hs) (by omega) (by omega)) rfl rfl rfl fun a hk => ?_
    refine q_val hk (w_ldv (z := f (n - 1 - i)) rfl ty56 (lstq (k := (n - 1 - i)) ((hR.pi 1 rfl).at_ hs) (by omega) (en_chunk vq_len (by omega)))) rfl rfl rfl fun a hk => ?_
    refine q_yield hk hs i (n - 1 - i, f (n - 1 - i)) rfl rfl hY (dnP_get hlt) rfl hj rfl rfl fun y2 j w a hj hk hs => ?_
    refine q_val hk (w_not rfl) rfl rfl rfl fun a hk => ?_
    refine (c_end (x_t ?_))
    rcases y2 with _ | _
    · skip
      have hj : Jx (i + 1) j := hj
      refine c_T hk rfl ?_
      refine (wpIn_ret (x_br (x_tr (x_tr (x_br ?_)))))
      refine c_ret0 hk rfl ?_
      exact ⟨⟨_, rfl⟩, _, _, hs, .inr ⟨i, (by rw [dnP_len]; omega), hj, rfl⟩⟩
    · skip
      have hj : J (i + 1) j := hj
      refine c_F hk rfl ?_
      refine (wpIn_skip (x_b (x_t ?_)))
      refine wpIn_region_lit ?_
      refine q_val hk (w_mv rfl) rfl rfl rfl fun a hk => ?_
      refine q_val hk (w_sub rfl rfl (wr64 (by omega) (by omega))) rfl rfl rfl fun a hk => ?_
      refine q_val hk (w_as rfl) rfl rfl rfl fun a hk => ?_
      refine (c_end (x_t ?_))
      exact ⟨i + 1, ⟨_, _, ⟨by omega, by omega⟩, hj, hk.k rfl (hk.k rfl (hk.k rfl hk.nil)), hs⟩, by omega⟩
  · skip
    refine q_val hk (w_ge rfl rfl (decide_eq_false hc1)) rfl rfl rfl fun a hk => ?_
    refine (c_end (x_t ?_))
    refine c_F hk rfl ?_
    refine (wpIn_exit (x_te (x_te (x_be ?_))))
    refine c_end0 hk rfl ?_
    exact ⟨⟨_, rfl⟩, _, _, hs, .inl ⟨(by have e : i = (dnP n f).length := (by rw [dnP_len]; omega); rw [← e]; exact hj), rfl⟩⟩
theorem all_c (n lc : Nat) (la : Option Addr) (W : World)  : Calls Tryz.prog 164 [.slice la n lc].toArray W fun e w => ∃ b, e = .returned (.func (.func 178) #[] #[.pointer (some ⟨b, 0, none⟩)]) ∧ Sat no W [blk b [.slice la n lc] 51] [] w := by
  refine c_enter (args := [.slice la n lc]) Tryz.func164 rfl rfl rfl fun a hk => ?_
  have hs := Sat.start W [] (fun _ h => by cases h)
  refine wpIn_seq ?_
  refine wpIn_region_lit ?_
  refine q_box (vs := [.slice la n lc]) hk hs rfl rfl rfl rfl fun b1 w a hk hs => ?_
  refine q_val hk (w_as rfl) rfl rfl rfl fun a hk => ?_
  refine (c_end (x_t ?_))
  refine wpIn_seq ?_
  refine wpIn_region_lit ?_
  refine q_val hk (w_mkf (frees := [.tmp 1]) rfl) rfl rfl rfl fun a hk => ?_
  refine q_val hk (w_as rfl) rfl rfl rfl fun a hk => ?_
  refine (c_end (x_t ?_))
  refine (wpIn_ret ?_)
  refine c_ret1 hk rfl rfl ?_
  exact ⟨_, rfl, hs.fin⟩
theorem back_c (n lc : Nat) (la : Option Addr) (W : World)  : Calls Tryz.prog 148 [.slice la n lc].toArray W fun e w => ∃ b, e = .returned (.func (.func 169) #[] #[.pointer (some ⟨b, 0, none⟩)]) ∧ Sat no W [blk b [.slice la n lc] 51] [] w := by
  refine c_enter (args := [.slice la n lc]) Tryz.func148 rfl rfl rfl fun a hk => ?_
  have hs := Sat.start W [] (fun _ h => by cases h)
  refine wpIn_seq ?_
  refine wpIn_region_lit ?_
  refine q_box (vs := [.slice la n lc]) hk hs rfl rfl rfl rfl fun b1 w a hk hs => ?_
  refine q_val hk (w_as rfl) rfl rfl rfl fun a hk => ?_
  refine (c_end (x_t ?_))
  refine wpIn_seq ?_
  refine wpIn_region_lit ?_
  refine q_val hk (w_mkf (frees := [.tmp 1]) rfl) rfl rfl rfl fun a hk => ?_
  refine q_val hk (w_as rfl) rfl rfl rfl fun a hk => ?_
  refine (c_end (x_t ?_))
  refine (wpIn_ret ?_)
  refine c_ret1 hk rfl rfl ?_
  exact ⟨_, rfl, hs.fin⟩
theorem rvis_it (t : Option Nat) (evs : List Ev) (x : Nat × List Value) (xs : List (Nat × Nat)) (rx : Res) (bl bt : Nat) (hD : Den Tryz.prog (fval x) evP xs rx) (hn : evs.length + xs.length ≤ 100000000000) : IterQ Tryz.prog 177 [.pointer (some ⟨bl, 0, none⟩), .pointer (some ⟨bt, 0, none⟩)] evP xs (fun i r => TapeIs t (evs ++ (xs.take i).map coefP) r) (rall [blk bl [fval x] 192, blk bt [tval t] 60, rx]) := by
  intro l J Jx F0 W R hR hY FR j k w0 hj hK hs
  have hT := hK
  refine c_enterM (args := [.func (.yield l) #[] #[], .pointer (some ⟨bl, 0, none⟩), .pointer (some ⟨bt, 0, none⟩)]) Tryz.func177 rfl rfl rfl fun a hk => ?_
  refine wpIn_seq ?_
  refine wpIn_region_lit ?_
  refine q_box (vs := [.func (.yield l) #[] #[]]) hk hs rfl rfl rfl rfl fun b1 w a hk hs => ?_
  refine (c_end (x_t ?_))
  refine wpIn_seq ?_
  refine wpIn_region_lit ?_
  refine q_val hk (w_ld1 rfl ty192 (.blk (n := 1) ((hR.pi 0 rfl).at_ hs) rfl)) rfl rfl rfl fun a hk => ?_
  refine (c_end (x_t ?_))
  refine wpIn_block ?_
  have hk : Kn [] 17 [(6, fval x), (3, .pointer (some ⟨b1, 0, none⟩)), (2, .pointer (some ⟨bt, 0, none⟩))] a := hk.k rfl (hk.k rfl (hk.k rfl hk.nil))
  have hs := hs.up2
  have hs := hs.up2
  have hs := Sat.pack (l := [j, k, blk b1 [.func (.yield l) #[] #[]] 211]) hs
  have hs := hs.none.up1
  refine c_range0 hk hs rfl hD (hR.pi 2 rfl) (fun _ => rfl) rfl (fun k r => ∃ (j : Res) (rt : Res), J k j ∧ TapeIs t (evs ++ (xs.take k).map coefP) rt ∧ r = bun [j, rt, blk b1 [.func (.yield l) #[] #[]] 211]) (fun c k r => (c = .ret ∧ ∃ (j : Res) (rt : Res), Jx k j ∧ TapeIs t (evs ++ (xs.take k).map coefP) rt ∧ r = bun [j, rt, blk b1 [.func (.yield l) #[] #[]] 211])) ⟨_, _, hj, hT, rfl⟩ rfl ?_ ?_ ?_
  · rintro l2 k2 x2 hx2 LR2 LB2 FR2 hL2 r a w ⟨j, rt, hj, hT, rfl⟩ hk hs
    have hkl : ((xs.take k2).map coefP).length ≤ xs.length := by rw [List.length_map]; exact List.length_take_le' _ _
    have hk : Kn [] 17 [(8, vec x2.2), (7, .int .i64 ((x2.1 : Nat) : Int)), (6, fval x), (3, .pointer (some ⟨b1, 0, none⟩)), (2, .pointer (some ⟨bt, 0, none⟩))] a := hk
    have hs : Sat F0 W [j, rt, blk b1 [.func (.yield l) #[] #[]] 211, LR2, FR2] R w := hs.unpack
    refine wpIn_seq ?_
    refine wpIn_region_lit ?_
    refine q_val hk (w_as rfl) rfl rfl rfl fun a hk => ?_
    refine (c_end (x_t ?_))
    refine wpIn_region_lit ?_
    refine q_alc (vs := [.int .u64 0, .int .u64 0, .int .u64 0, .int .u64 0]) hk hs zr56 rfl rfl rfl fun b3 w a hk hs => ?_
    refine q_sto (o := 0) (cs := [.int .u64 ((dg 0 x2.2 : Nat) : Int), .int .u64 ((dg 1 x2.2 : Nat) : Int), .int .u64 ((dg 2 x2.2 : Nat) : Int), .int .u64 ((dg 3 x2.2 : Nat) : Int)]) (vs' := [.int .u64 ((dg 0 x2.2 : Nat) : Int), .int .u64 ((dg 1 x2.2 : Nat) : Int), .int .u64 ((dg 2 x2.2 : Nat) : Int), .int .u64 ((dg 3 x2.2 : Nat) : Int)]) hk hs rfl rfl rfl ty56 rfl rfl rfl rfl rfl rfl fun w hs => ?_
    refine (c_end (x_t ?_))
    have hs := hs.up4
    refine hL2.begin_ hs fun w hs => ?_
    refine wpIn_block ?_
    refine wpIn_seq ?_
    refine wpIn_region_lit ?_
    refine q_val hk (w_ld1 rfl ty60 (.blk (n := 1) ((hR.pi 1 rfl).at_ hs) rfl)) rfl rfl rfl fun a hk => ?_
    refine q_val hk (w_mv rfl) rfl rfl rfl fun a hk => ?_
    have hs := hs.up3
    refine q_call (caps := []) hk rfl rfl Tryz.func61 fo61 rfl rfl (note_m t 2 ((x2.1 : Nat) : Int) 0 (evs ++ (xs.take k2).map coefP) _ _ hT hs (by rw [List.length_append]; omega)) ?_
    rintro _ w ⟨v4, r5, rfl, ht6, hs⟩
    have hT := ht6
    refine ⟨_, rfl, fun a hk => ?_⟩
    refine (c_end (x_t ?_))
    refine wpIn_seq ?_
    refine wpIn_region_lit ?_
    refine q_val hk (w_ld1 rfl ty211 (.blk (n := 1) (hs.mi 4 rfl) rfl)) rfl rfl rfl fun a hk => ?_
    refine q_val hk (w_mv rfl) rfl rfl rfl fun a hk => ?_
    refine q_val hk (w_ldv (z := x2.2) rfl ty56 (.blk (n := 4) (hs.mi 2 rfl) rfl)) rfl rfl rfl fun a hk => ?_
    have hs := hs.up3
    refine q_yield hk hs k2 x2 rfl rfl hY hx2 rfl hj rfl rfl fun y7 j w a hj hk hs => ?_
    refine q_val hk (w_not rfl) rfl rfl rfl fun a hk => ?_
    refine (c_end (x_t ?_))
    rcases y7 with _ | _
    · skip
      have hj : Jx (k2 + 1) j := hj
      refine c_T hk rfl ?_
      refine (wpIn_ret (x_br ?_))
      rw [take_coef hx2] at hT
      have hs := hs.up3
      have hs := hs.drop
      have hs := hs.up4
      have hs := hs.up3
      have hs := hs.up4
      have hs := hs.up4
      have hs := hs.up4
      exact ⟨_, ⟨rfl, ⟨_, _, hj, hT, rfl⟩⟩, Sat.pack (l := [_, _, _]) hs⟩
    · skip
      have hj : J (k2 + 1) j := hj
      refine c_F hk rfl ?_
      refine (wpIn_skip (x_b ?_))
      rw [take_coef hx2] at hT
      have hs := hs.up3
      have hs := hs.drop
      have hs := hs.up4
      have hs := hs.up3
      have hs := hs.up4
      have hs := hs.up4
      have hs := hs.up4
      exact ⟨_, ⟨_, _, hj, hT, rfl⟩, Sat.pack (l := [_, _, _]) hs⟩
  · intro D2 r r2 a w hJ hK hk hs
    obtain ⟨j, rt, hj, hT, rfl⟩ := hJ
    obtain rfl := hK
    have hs := Sat.unpack (l := [j, rt, blk b1 [.func (.yield l) #[] #[]] 211]) hs.up2.drop.up1
    have hs : Sat F0 W [j, rt, blk b1 [.func (.yield l) #[] #[]] 211, dres D2, FR] R w := hs
    refine (x_b ?_)
    have hs := hs.up4
    have hs := hs.up3
    have hs := hs.up3
    have hs := hs.up3
    have hs := hs.up4
    refine c_endM (M := [j, rt, blk b1 [.func (.yield l) #[] #[]] 211, FR]) hk hs fun w hs => ⟨_, res_ok (rs := []) (vs := []) hk rfl trivial, ?_⟩
    have hs := hs.up2
    have hs := hs.drop
    exact ⟨⟨_, rfl⟩, _, _, hs, .inl ⟨hj, hT⟩⟩
  · rintro c D2 i2 r r2 a w hi2 ⟨rfl, j, rt, hj, hT, rfl⟩ hK hk hs
    obtain rfl := hK
    have hs := Sat.unpack (l := [j, rt, blk b1 [.func (.yield l) #[] #[]] 211]) hs.up2.drop.up1
    have hs : Sat F0 W [j, rt, blk b1 [.func (.yield l) #[] #[]] 211, dres D2, FR] R w := hs
    refine (wpIn_ret (x_br ?_))
    have hs := hs.up4
    have hs := hs.up3
    have hs := hs.up3
    have hs := hs.up3
    have hs := hs.up4
    refine c_retM (M := [j, rt, blk b1 [.func (.yield l) #[] #[]] 211, FR]) hk hs fun w hs => ⟨_, res_ok (rs := []) (vs := []) hk rfl trivial, ?_⟩
    have hs := hs.up2
    have hs := hs.drop
    exact ⟨⟨_, rfl⟩, _, _, hs, .inr ⟨i2, hi2, hj, hT⟩⟩
theorem rvis_c (t : Option Nat) (x : Nat × List Value) (W : World)  : Calls Tryz.prog 163 [tval t, fval x].toArray W fun e w => ∃ b3 b2, e = .returned (.func (.func 177) #[] #[.pointer (some ⟨b3, 0, none⟩), .pointer (some ⟨b2, 0, none⟩)]) ∧ Sat no W [blk b3 [fval x] 192, blk b2 [tval t] 60] [] w := by
  refine c_enter (args := [tval t, fval x]) Tryz.func163 rfl rfl rfl fun a hk => ?_
  have hs := Sat.start W [] (fun _ h => by cases h)
  refine wpIn_seq ?_
  refine wpIn_region_lit ?_
  refine q_box (vs := [tval t]) hk hs rfl rfl rfl rfl fun b1 w a hk hs => ?_
  refine q_box (vs := [fval x]) hk hs rfl rfl rfl rfl fun b2 w a hk hs => ?_
  refine q_val hk (w_as rfl) rfl rfl rfl fun a hk => ?_
  refine (c_end (x_t ?_))
  refine wpIn_seq ?_
  refine wpIn_region_lit ?_
  refine q_val hk (w_mkf (frees := [.tmp 3, .tmp 2]) rfl) rfl rfl rfl fun a hk => ?_
  refine q_val hk (w_as rfl) rfl rfl rfl fun a hk => ?_
  refine (c_end (x_t ?_))
  refine (wpIn_ret ?_)
  refine c_ret1 hk rfl rfl ?_
  exact ⟨_, _, rfl, hs.fin⟩
theorem pvis_it (t : Option Nat) (evs : List Ev) (x : Nat × List Value) (xs : List (Nat × Nat)) (rx : Res) (bl bt : Nat) (hD : Den Tryz.prog (fval x) evP xs rx) (hn : evs.length + xs.length ≤ 100000000000) : IterQ Tryz.prog 168 [.pointer (some ⟨bl, 0, none⟩), .pointer (some ⟨bt, 0, none⟩)] evP xs (fun i r => TapeIs t (evs ++ (xs.take i).map coefP) r) (rall [blk bl [fval x] 192, blk bt [tval t] 60, rx]) := by
  intro l J Jx F0 W R hR hY FR j k w0 hj hK hs
  have hT := hK
  refine c_enterM (args := [.func (.yield l) #[] #[], .pointer (some ⟨bl, 0, none⟩), .pointer (some ⟨bt, 0, none⟩)]) Tryz.func168 rfl rfl rfl fun a hk => ?_
  refine wpIn_seq ?_
  refine wpIn_region_lit ?_
  refine q_box (vs := [.func (.yield l) #[] #[]]) hk hs rfl rfl rfl rfl fun b1 w a hk hs => ?_
  refine (c_end (x_t ?_))
  refine wpIn_seq ?_
  refine wpIn_region_lit ?_
  refine q_val hk (w_ld1 rfl ty192 (.blk (n := 1) ((hR.pi 0 rfl).at_ hs) rfl)) rfl rfl rfl fun a hk => ?_
  refine (c_end (x_t ?_))
  refine wpIn_block ?_
  have hk : Kn [] 17 [(6, fval x), (3, .pointer (some ⟨b1, 0, none⟩)), (2, .pointer (some ⟨bt, 0, none⟩))] a := hk.k rfl (hk.k rfl (hk.k rfl hk.nil))
  have hs := hs.up2
  have hs := hs.up2
  have hs := Sat.pack (l := [j, k, blk b1 [.func (.yield l) #[] #[]] 211]) hs
  have hs := hs.none.up1
  refine c_range0 hk hs rfl hD (hR.pi 2 rfl) (fun _ => rfl) rfl (fun k r => ∃ (j : Res) (rt : Res), J k j ∧ TapeIs t (evs ++ (xs.take k).map coefP) rt ∧ r = bun [j, rt, blk b1 [.func (.yield l) #[] #[]] 211]) (fun c k r => (c = .ret ∧ ∃ (j : Res) (rt : Res), Jx k j ∧ TapeIs t (evs ++ (xs.take k).map coefP) rt ∧ r = bun [j, rt, blk b1 [.func (.yield l) #[] #[]] 211])) ⟨_, _, hj, hT, rfl⟩ rfl ?_ ?_ ?_
  · rintro l2 k2 x2 hx2 LR2 LB2 FR2 hL2 r a w ⟨j, rt, hj, hT, rfl⟩ hk hs
    have hkl : ((xs.take k2).map coefP).length ≤ xs.length := by rw [List.length_map]; exact List.length_take_le' _ _
    have hk : Kn [] 17 [(8, vec x2.2), (7, .int .i64 ((x2.1 : Nat) : Int)), (6, fval x), (3, .pointer (some ⟨b1, 0, none⟩)), (2, .pointer (some ⟨bt, 0, none⟩))] a := hk
    have hs : Sat F0 W [j, rt, blk b1 [.func (.yield l) #[] #[]] 211, LR2, FR2] R w := hs.unpack
    refine wpIn_seq ?_
    refine wpIn_region_lit ?_
    refine q_val hk (w_as rfl) rfl rfl rfl fun a hk => ?_
    refine (c_end (x_t ?_))
    refine wpIn_region_lit ?_
    refine q_alc (vs := [.int .u64 0, .int .u64 0, .int .u64 0, .int .u64 0]) hk hs zr56 rfl rfl rfl fun b3 w a hk hs => ?_
    refine q_sto (o := 0) (cs := [.int .u64 ((dg 0 x2.2 : Nat) : Int), .int .u64 ((dg 1 x2.2 : Nat) : Int), .int .u64 ((dg 2 x2.2 : Nat) : Int), .int .u64 ((dg 3 x2.2 : Nat) : Int)]) (vs' := [.int .u64 ((dg 0 x2.2 : Nat) : Int), .int .u64 ((dg 1 x2.2 : Nat) : Int), .int .u64 ((dg 2 x2.2 : Nat) : Int), .int .u64 ((dg 3 x2.2 : Nat) : Int)]) hk hs rfl rfl rfl ty56 rfl rfl rfl rfl rfl rfl fun w hs => ?_
    refine (c_end (x_t ?_))
    have hs := hs.up4
    refine hL2.begin_ hs fun w hs => ?_
    refine wpIn_block ?_
    refine wpIn_seq ?_
    refine wpIn_region_lit ?_
    refine q_val hk (w_ld1 rfl ty60 (.blk (n := 1) ((hR.pi 1 rfl).at_ hs) rfl)) rfl rfl rfl fun a hk => ?_
    refine q_val hk (w_mv rfl) rfl rfl rfl fun a hk => ?_
    have hs := hs.up3
    refine q_call (caps := []) hk rfl rfl Tryz.func61 fo61 rfl rfl (note_m t 2 ((x2.1 : Nat) : Int) 0 (evs ++ (xs.take k2).map coefP) _ _ hT hs (by rw [List.length_append]; omega)) ?_
    rintro _ w ⟨v4, r5, rfl, ht6, hs⟩
    have hT := ht6
    refine ⟨_, rfl, fun a hk => ?_⟩
    refine (c_end (x_t ?_))
    refine wpIn_seq ?_
    refine wpIn_region_lit ?_
    refine q_val hk (w_ld1 rfl ty211 (.blk (n := 1) (hs.mi 4 rfl) rfl)) rfl rfl rfl fun a hk => ?_
    refine q_val hk (w_mv rfl) rfl rfl rfl fun a hk => ?_
    refine q_val hk (w_ldv (z := x2.2) rfl ty56 (.blk (n := 4) (hs.mi 2 rfl) rfl)) rfl rfl rfl fun a hk => ?_
    have hs := hs.up3
    refine q_yield hk hs k2 x2 rfl rfl hY hx2 rfl hj rfl rfl fun y7 j w a hj hk hs => ?_
    refine q_val hk (w_not rfl) rfl rfl rfl fun a hk => ?_
    refine (c_end (x_t ?_))
    rcases y7 with _ | _
    · skip
      have hj : Jx (k2 + 1) j := hj
      refine c_T hk rfl ?_
      refine (wpIn_ret (x_br ?_))
      rw [take_coef hx2] at hT
      have hs := hs.up3
      have hs := hs.drop
      have hs := hs.up4
      have hs := hs.up3
      have hs := hs.up4
      have hs := hs.up4
      have hs := hs.up4
      exact ⟨_, ⟨rfl, ⟨_, _, hj, hT, rfl⟩⟩, Sat.pack (l := [_, _, _]) hs⟩
    · skip
      have hj : J (k2 + 1) j := hj
      refine c_F hk rfl ?_
      refine (wpIn_skip (x_b ?_))
      rw [take_coef hx2] at hT
      have hs := hs.up3
      have hs := hs.drop
      have hs := hs.up4
      have hs := hs.up3
      have hs := hs.up4
      have hs := hs.up4
      have hs := hs.up4
      exact ⟨_, ⟨_, _, hj, hT, rfl⟩, Sat.pack (l := [_, _, _]) hs⟩
  · intro D2 r r2 a w hJ hK hk hs
    obtain ⟨j, rt, hj, hT, rfl⟩ := hJ
    obtain rfl := hK
    have hs := Sat.unpack (l := [j, rt, blk b1 [.func (.yield l) #[] #[]] 211]) hs.up2.drop.up1
    have hs : Sat F0 W [j, rt, blk b1 [.func (.yield l) #[] #[]] 211, dres D2, FR] R w := hs
    refine (x_b ?_)
    have hs := hs.up4
    have hs := hs.up3
    have hs := hs.up3
    have hs := hs.up3
    have hs := hs.up4
    refine c_endM (M := [j, rt, blk b1 [.func (.yield l) #[] #[]] 211, FR]) hk hs fun w hs => ⟨_, res_ok (rs := []) (vs := []) hk rfl trivial, ?_⟩
    have hs := hs.up2
    have hs := hs.drop
    exact ⟨⟨_, rfl⟩, _, _, hs, .inl ⟨hj, hT⟩⟩
  · rintro c D2 i2 r r2 a w hi2 ⟨rfl, j, rt, hj, hT, rfl⟩ hK hk hs
    obtain rfl := hK
    have hs := Sat.unpack (l := [j, rt, blk b1 [.func (.yield l) #[] #[]] 211]) hs.up2.drop.up1
    have hs : Sat F0 W [j, rt, blk b1 [.func (.yield l) #[] #[]] 211, dres D2, FR] R w := hs
    refine (wpIn_ret (x_br ?_))
    have hs := hs.up4
    have hs := hs.up3
    have hs := hs.up3
    have hs := hs.up3
    have hs := hs.up4
    refine c_retM (M := [j, rt, blk b1 [.func (.yield l) #[] #[]] 211, FR]) hk hs fun w hs => ⟨_, res_ok (rs := []) (vs := []) hk rfl trivial, ?_⟩
    have hs := hs.up2
    have hs := hs.drop
    exact ⟨⟨_, rfl⟩, _, _, hs, .inr ⟨i2, hi2, hj, hT⟩⟩
theorem pvis_c (t : Option Nat) (x : Nat × List Value) (W : World)  : Calls Tryz.prog 147 [tval t, fval x].toArray W fun e w => ∃ b3 b2, e = .returned (.func (.func 168) #[] #[.pointer (some ⟨b3, 0, none⟩), .pointer (some ⟨b2, 0, none⟩)]) ∧ Sat no W [blk b3 [fval x] 192, blk b2 [tval t] 60] [] w := by
  refine c_enter (args := [tval t, fval x]) Tryz.func147 rfl rfl rfl fun a hk => ?_
  have hs := Sat.start W [] (fun _ h => by cases h)
  refine wpIn_seq ?_
  refine wpIn_region_lit ?_
  refine q_box (vs := [tval t]) hk hs rfl rfl rfl rfl fun b1 w a hk hs => ?_
  refine q_box (vs := [fval x]) hk hs rfl rfl rfl rfl fun b2 w a hk hs => ?_
  refine q_val hk (w_as rfl) rfl rfl rfl fun a hk => ?_
  refine (c_end (x_t ?_))
  refine wpIn_seq ?_
  refine wpIn_region_lit ?_
  refine q_val hk (w_mkf (frees := [.tmp 3, .tmp 2]) rfl) rfl rfl rfl fun a hk => ?_
  refine q_val hk (w_as rfl) rfl rfl rfl fun a hk => ?_
  refine (c_end (x_t ?_))
  refine (wpIn_ret ?_)
  refine c_ret1 hk rfl rfl ?_
  exact ⟨_, _, rfl, hs.fin⟩
end Go.Proofs.YtdnkkbmpefhbjaaGreatDoor
namespace Go.Proofs.YtdnkkbmpefhbjaaGreatDoor
set_option linter.all false
open Go Go.RowKit Alg
/-- What Inverse computes. -/
def zinv {s : Bool} (x : Zp s) : Zp s := pw x (pr s - 2)
theorem sub2 (s : Bool) : subV (pr s) 2 = pr s - 2 := by cases s <;> decide
theorem sub2_c (s : Bool) (w : World) : Calls Tryz.prog 160 #[vec (pr s), vec 2] w fun e w' => e = .returned (.tuple #[vec (pr s - 2), .int .u64 ((subC (pr s) 2 : Nat) : Int)]) ∧ Below w.heap.size w w' := by
  have h := limbSub_c (pr s) 2 (pr_lt s) (by decide) w
  rw [sub2] at h
  exact h
/-- One in place of zero. -/
def nz {s : Bool} (x : Zp s) : Zp s := if x = 0 then 1 else x
def Pp {s : Bool} (x : Nat → Zp s) : Nat → Zp s
  | 0 => 1
  | i + 1 => Pp x i * nz (x i)
/-- The inverse of the products, after j rounds. -/
def Iv {s : Bool} (x : Nat → Zp s) (n : Nat) : Nat → Zp s
  | 0 => zinv (Pp x n)
  | j + 1 => Iv x n j * nz (x (n - 1 - j))
/-- What Batch computes. -/
def binv {s : Bool} (x : Nat → Zp s) (n i : Nat) : Zp s := if x i = 0 then 0 else Pp x i * Iv x n (n - 1 - i)
theorem nz_ch {s : Bool} (x : Zp s) : (if decide (x = 0) = true then rone s else mq x) = mq (nz x) := by
  unfold nz
  by_cases h : x = 0
  · rw [if_pos (decide_eq_true h), if_pos h, mq_one]
  · rw [if_neg (by simpa using h), if_neg h]
theorem bi_ch {s : Bool} (x : Nat → Zp s) (n j : Nat) : (if decide (x (n - 1 - j) = 0) = true then 0 else mq (Pp x (n - 1 - j) * Iv x n j)) = if j < n then mq (binv x n (n - 1 - j)) else (if decide (x (n - 1 - j) = 0) = true then 0 else mq (Pp x (n - 1 - j) * Iv x n j)) := by
  by_cases hj : j < n
  · rw [if_pos hj]
    unfold binv
    rw [show n - 1 - (n - 1 - j) = j by omega]
    by_cases h : x (n - 1 - j) = 0
    · rw [if_pos (decide_eq_true h), if_pos h, mq_zero]
    · rw [if_neg (by simpa using h), if_neg h]
  · rw [if_neg hj]
/-- The elements of the result after k, j rounds. -/
def bat1 {s : Bool} (x : Nat → Zp s) (k i : Nat) : Nat := if i < k then mq (Pp x i) else 0
def bat2 {s : Bool} (x : Nat → Zp s) (n j i : Nat) : Nat := if n ≤ i + j then mq (binv x n i) else mq (Pp x i)
theorem bat1_step {s : Bool} {x : Nat → Zp s} {k n : Nat} : en vq (fun i => if i = k then mq (Pp x k) else bat1 x k i) n = en vq (bat1 x (k + 1)) n := en_congr fun i _ => by
  unfold bat1
  by_cases h : i = k
  · subst h; rw [if_pos rfl, if_pos (Nat.lt_succ_self _)]
  · rw [if_neg h]
    by_cases l : i < k
    · rw [if_pos l, if_pos (by omega)]
    · rw [if_neg l, if_neg (by omega)]
theorem bat2_zero {s : Bool} {x : Nat → Zp s} {n : Nat} : en vq (bat1 x n) n = en vq (bat2 x n 0) n := en_congr fun i hi => by
  unfold bat1 bat2; rw [if_pos hi, if_neg (by omega)]
theorem bat2_step {s : Bool} {x : Nat → Zp s} {j n : Nat} (hj : j < n) : en vq (fun i => if i = n - 1 - j then (if decide (x (n - 1 - j) = 0) = true then 0 else mq (Pp x (n - 1 - j) * Iv x n j)) else bat2 x n j i) n = en vq (bat2 x n (j + 1)) n := en_congr fun i hi => by
  rw [bi_ch, if_pos hj]
  unfold bat2
  by_cases h : i = n - 1 - j
  · rw [if_pos h, if_pos (by omega), h]
  · rw [if_neg h]
    by_cases l : n ≤ i + j
    · rw [if_pos l, if_pos (by omega)]
    · rw [if_neg l, if_neg (by omega)]
theorem bat2_end {s : Bool} {x : Nat → Zp s} {n : Nat} : en vq (bat2 x n n) n = en vq (fun i => mq (binv x n i)) n := en_congr fun i hi => by unfold bat2; rw [if_pos (by omega)]
theorem bat2_at {s : Bool} {x : Nat → Zp s} {n j : Nat} (hj : j < n) : bat2 x n j (n - 1 - j) = mq (Pp x (n - 1 - j)) := by unfold bat2; rw [if_neg (by omega)]
theorem coefU_len (n : Nat) : (upE 0 (n : Int) coefE).length = n := (upE_one 0 (n : Int) fun i => (2, i, 0)).trans (by omega)
theorem bat1_zero {s : Bool} {x : Nat → Zp s} {n : Nat} : en vq (fun _ => 0) n = en vq (bat1 x 0) n := en_congr fun i _ => by unfold bat1; rw [if_neg (Nat.not_lt_zero i)]
theorem pp_zero {s : Bool} {x : Nat → Zp s} : vq (rone s) = vq (mq (Pp x 0)) := by show _ = vq (mq 1); rw [mq_one]
def batE (n : Nat) : List Ev := upE 0 (n : Int) coefE ++ inverseE ++ downE (n : Int) coefE
theorem inv_m {F0 : Nat → Prop} {W : World} {M R : List Res} (s : Bool) (x : Zp s) (t : Option Nat) (evs : List Ev) (r : Res) (w0 : World) (hs : Sat F0 W (r :: M) R w0) (hT : TapeIs t evs r) (hn : evs.length ≤ 10000000000) : Calls Tryz.prog 167 [tval t, fieldV s, vec (mq x)].toArray w0 fun e w => ∃ r, e = .returned (vec (mq (zinv x))) ∧ TapeIs t (evs ++ inverseE) r ∧ Sat F0 W (r :: M) R w := by
  refine c_enter (args := [tval t, fieldV s, vec (mq x)]) Tryz.func167 rfl rfl rfl fun a hk => ?_
  refine wpIn_seq ?_
  refine wpIn_region_lit ?_
  refine q_box (vs := fieldL s) hk hs rfl rfl rfl rfl fun b1 w a hk hs => ?_
  refine q_box (vs := [.int .u64 ((dg 0 (mq x) : Nat) : Int), .int .u64 ((dg 1 (mq x) : Nat) : Int), .int .u64 ((dg 2 (mq x) : Nat) : Int), .int .u64 ((dg 3 (mq x) : Nat) : Int)]) hk hs rfl rfl rfl rfl fun b2 w a hk hs => ?_
  refine q_alc (vs := [.int .u64 0, .int .u64 0, .int .u64 0, .int .u64 0]) hk hs zr56 rfl rfl rfl fun b3 w a hk hs => ?_
  refine (c_end (x_t ?_))
  refine wpIn_seq ?_
  refine wpIn_region_lit ?_
  refine q_val hk (w_fa rfl fq120_1 ty47) rfl rfl rfl fun a hk => ?_
  refine q_val hk (w_ldv (z := pr s) rfl ty47 (.blk (n := 4) (hs.mi 2 rfl) rfl)) rfl rfl rfl fun a hk => ?_
  refine q_val hk (w_bldv1 (k := 2) rfl rfl (by decide) Tryz.underlying47 ty46 zr47) rfl rfl rfl fun a hk => ?_
  refine q_call (caps := []) hk rfl rfl Tryz.func160 fo160 rfl rfl (sub2_c s _) ?_
  rintro _ w ⟨rfl, hb⟩
  have hs := hs.below hb
  refine ⟨_, rfl, fun a hk => ?_⟩
  refine q_val hk (w_mv rfl) rfl rfl rfl fun a hk => ?_
  refine q_val hk (w_ext rfl rfl) rfl rfl rfl fun a hk => ?_
  refine q_val hk (w_ext rfl rfl) rfl rfl rfl fun a hk => ?_
  refine q_alc (vs := [.int .u64 0, .int .u64 0, .int .u64 0, .int .u64 0]) hk hs zr47 rfl rfl rfl fun b4 w a hk hs => ?_
  refine q_sto (o := 0) (cs := [.int .u64 ((dg 0 (pr s - 2) : Nat) : Int), .int .u64 ((dg 1 (pr s - 2) : Nat) : Int), .int .u64 ((dg 2 (pr s - 2) : Nat) : Int), .int .u64 ((dg 3 (pr s - 2) : Nat) : Int)]) (vs' := [.int .u64 ((dg 0 (pr s - 2) : Nat) : Int), .int .u64 ((dg 1 (pr s - 2) : Nat) : Int), .int .u64 ((dg 2 (pr s - 2) : Nat) : Int), .int .u64 ((dg 3 (pr s - 2) : Nat) : Int)]) hk hs rfl rfl rfl ty47 rfl rfl rfl rfl rfl rfl fun w hs => ?_
  refine q_val hk (w_as rfl) rfl rfl rfl fun a hk => ?_
  refine (c_end (x_t ?_))
  refine wpIn_seq ?_
  refine wpIn_region_lit ?_
  refine q_val hk (w_mv rfl) rfl rfl rfl fun a hk => ?_
  refine q_val hk (w_ldA rfl ty120 (.blk (n := 14) (hs.mi 3 rfl) rfl) rfl) rfl rfl rfl fun a hk => ?_
  refine q_val hk (w_ldv (z := mq x) rfl ty56 (.blk (n := 4) (hs.mi 2 rfl) rfl)) rfl rfl rfl fun a hk => ?_
  refine q_val hk (w_ldv (z := (pr s - 2)) rfl ty47 (.blk (n := 4) (hs.mi 0 rfl) rfl)) rfl rfl rfl fun a hk => ?_
  have hs := hs.up4
  refine q_call (caps := []) hk rfl rfl Tryz.func180 fo180 rfl rfl (pow_m s x (pr s - 2) t evs _ _ hs hT (Nat.lt_of_le_of_lt (Nat.sub_le _ _) (pr_lt s)) hn) ?_
  rintro _ w ⟨r5, rfl, ht6, hs⟩
  have hT := ht6
  refine ⟨_, rfl, fun a hk => ?_⟩
  have hs := hs.up2
  refine q_sto (o := 0) (cs := [.int .u64 ((dg 0 (mq (pw x (pr s - 2))) : Nat) : Int), .int .u64 ((dg 1 (mq (pw x (pr s - 2))) : Nat) : Int), .int .u64 ((dg 2 (mq (pw x (pr s - 2))) : Nat) : Int), .int .u64 ((dg 3 (mq (pw x (pr s - 2))) : Nat) : Int)]) (vs' := [.int .u64 ((dg 0 (mq (pw x (pr s - 2))) : Nat) : Int), .int .u64 ((dg 1 (mq (pw x (pr s - 2))) : Nat) : Int), .int .u64 ((dg 2 (mq (pw x (pr s - 2))) : Nat) : Int), .int .u64 ((dg 3 (mq (pw x (pr s - 2))) : Nat) : Int)]) hk hs rfl rfl rfl ty56 rfl rfl rfl rfl rfl rfl fun w hs => ?_
  refine (c_end (x_t ?_))
  refine (wpIn_ret ?_)
  refine c_retG (vs := [vec (mq (pw x (pr s - 2)))]) hk rfl ⟨⟨_, rfl, lv_A ty56 (.blk (n := 4) (hs.mi 0 rfl) rfl) rfl⟩, trivial⟩ rfl ?_
  have hs := hs.drop
  have hs := hs.up1
  have hs := hs.drop
  have hs := hs.up1
  have hs := hs.drop
  have hs := hs.up1
  have hs := hs.drop
  exact ⟨_, rfl, hT, hs⟩
theorem batch_m {F0 : Nat → Prop} {W : World} {M R : List Res} (s : Bool) (n lc : Nat) (la : Option Addr) (x : Nat → Zp s) (t : Option Nat) (evs : List Ev) (r : Res) (w0 : World) (hs : Sat F0 W (r :: M) R w0) (hT : TapeIs t evs r) (hL : HasR (lst 4 (.slice la n lc) n (en vq (fun i => mq (x i)) n)) R) (h0 : 0 < n) (hn9 : n ≤ 1000000) (hn : evs.length ≤ 1000000000) : Calls Tryz.prog 144 [tval t, fieldV s, .slice la n lc].toArray w0 fun e w => ∃ b r, e = .returned (.slice (some ⟨b, 0, none⟩) n n) ∧ TapeIs t (evs ++ batE n) r ∧ Sat F0 W (r :: blk b (en vq (fun i => mq (binv x n i)) n) 56 :: M) R w := by
  refine c_enterM (args := [tval t, fieldV s, .slice la n lc]) Tryz.func144 rfl rfl rfl fun a hk => ?_
  refine wpIn_seq ?_
  refine wpIn_region_lit ?_
  refine q_box (vs := fieldL s) hk hs rfl rfl rfl rfl fun b1 w a hk hs => ?_
  refine q_val hk (w_as rfl) rfl rfl rfl fun a hk => ?_
  refine (c_end (x_t ?_))
  refine wpIn_seq ?_
  refine wpIn_seq ?_
  refine wpIn_region_lit ?_
  refine q_val hk (w_mv rfl) rfl rfl rfl fun a hk => ?_
  refine q_val hk (w_len rfl Tryz.underlying51) rfl rfl rfl fun a hk => ?_
  refine q_val hk (w_eq rfl rfl (decide_eq_false (by omega))) rfl rfl rfl fun a hk => ?_
  refine (c_end (x_t ?_))
  refine c_F hk rfl ?_
  refine (wpIn_skip (x_t ?_))
  refine wpIn_seq ?_
  refine wpIn_region_lit ?_
  refine q_val hk (w_mv rfl) rfl rfl rfl fun a hk => ?_
  refine q_val hk (w_len rfl Tryz.underlying51) rfl rfl rfl fun a hk => ?_
  refine q_mks (k := n) (cs := vq 0) hk hs rfl rfl Tryz.underlying51 ty56 zr56 (by kernel_rfl) rfl rfl rfl rfl (by omega) (by omega) rfl rfl fun b2 w a hk hs => ?_
  have hs := hs.rw0 (show _ = blk b2 (en vq (fun _ => 0) n) 56 from rfl)
  refine q_alc (vs := [.slice none 0 0]) hk hs zr51 rfl rfl rfl fun b3 w a hk hs => ?_
  refine q_sto (o := 0) (cs := [.slice (some ⟨b2, 0, none⟩) n n]) (vs' := [.slice (some ⟨b2, 0, none⟩) n n]) hk hs rfl rfl rfl ty51 rfl rfl rfl rfl rfl rfl fun w hs => ?_
  refine (c_end (x_t ?_))
  refine wpIn_seq ?_
  refine wpIn_region_lit ?_
  refine q_val hk (w_fa rfl fq120_3 ty56) rfl rfl rfl fun a hk => ?_
  refine q_val hk (w_ldv (z := rone s) rfl ty56 (.blk (n := 4) (hs.mi 2 rfl) rfl)) rfl rfl rfl fun a hk => ?_
  refine q_alc (vs := [.int .u64 0, .int .u64 0, .int .u64 0, .int .u64 0]) hk hs zr56 rfl rfl rfl fun b4 w a hk hs => ?_
  refine q_sto (o := 0) (cs := [.int .u64 ((dg 0 (rone s) : Nat) : Int), .int .u64 ((dg 1 (rone s) : Nat) : Int), .int .u64 ((dg 2 (rone s) : Nat) : Int), .int .u64 ((dg 3 (rone s) : Nat) : Int)]) (vs' := [.int .u64 ((dg 0 (rone s) : Nat) : Int), .int .u64 ((dg 1 (rone s) : Nat) : Int), .int .u64 ((dg 2 (rone s) : Nat) : Int), .int .u64 ((dg 3 (rone s) : Nat) : Int)]) hk hs rfl rfl rfl ty56 rfl rfl rfl rfl rfl rfl fun w hs => ?_
  refine (c_end (x_t ?_))
  refine wpIn_seq ?_
  refine wpIn_seq ?_
  refine wpIn_region_lit ?_
  refine q_val hk (w_mv rfl) rfl rfl rfl fun a hk => ?_
  refine q_val hk (w_mv rfl) rfl rfl rfl fun a hk => ?_
  refine q_call (caps := []) hk rfl rfl Tryz.func164 fo164 rfl rfl (all_c n lc la _) ?_
  rintro _ w ⟨b5, rfl, hS⟩
  have hs := hs.call1 hS
  clear hS
  refine ⟨_, rfl, fun a hk => ?_⟩
  refine q_call (caps := []) hk rfl rfl Tryz.func163 fo163 rfl rfl (rvis_c t (178, [.pointer (some ⟨b5, 0, none⟩)]) _) ?_
  rintro _ w ⟨b6, b7, rfl, hS⟩
  have hs := hs.call2 hS
  clear hS
  refine ⟨_, rfl, fun a hk => ?_⟩
  refine (c_end (x_t ?_))
  refine wpIn_block ?_
  have hs := hs.up2
  have hs := Sat.frzL (l := [blk b5 [.slice la n lc] 51]) hs
  have hs := hs.up1
  have hs := hs.up1
  have hs := Sat.frzL (l := [blk b6 [.func (.func 178) #[] #[.pointer (some ⟨b5, 0, none⟩)]] 192, blk b7 [tval t] 60]) hs
  have hs := hs.up2
  have hs := hs.rw0 (congrArg (fun q => blk b2 q 56) (bat1_zero (x := x)))
  have hs := hs.up1
  have hs := hs.rw0 (congrArg (fun q => blk b4 q 56) (pp_zero (x := x)))
  have hk : Kn [] 76 [(26, .func (.func 177) #[] #[.pointer (some ⟨b6, 0, none⟩), .pointer (some ⟨b7, 0, none⟩)]), (8, .pointer (some ⟨b4, 0, none⟩)), (7, .pointer (some ⟨b3, 0, none⟩)), (6, .slice none 0 0), (4, .pointer (some ⟨b1, 0, none⟩)), (0, tval t), (2, .slice la n lc)] a := hk.k rfl (hk.k rfl (hk.k rfl (hk.k rfl (hk.k rfl (hk.k rfl (hk.k rfl hk.nil))))))
  have hs := hs.up4
  have hs := hs.up1
  have hs := hs.up2
  have hs := hs.up3
  have hs := hs.up4
  have hs := Sat.pack (l := [blk b1 (fieldL s) 120, blk b3 [.slice (some ⟨b2, 0, none⟩) n n] 51, blk b2 (en vq (fun i => bat1 x 0 i) n) 56, blk b4 [.int .u64 ((dg 0 (mq (Pp x 0)) : Nat) : Int), .int .u64 ((dg 1 (mq (Pp x 0)) : Nat) : Int), .int .u64 ((dg 2 (mq (Pp x 0)) : Nat) : Int), .int .u64 ((dg 3 (mq (Pp x 0)) : Nat) : Int)] 56]) hs
  refine c_range0 hk hs rfl (⟨_, _, _, rfl, Tryz.func177, fo177, rvis_it t evs (178, [.pointer (some ⟨b5, 0, none⟩)]) (upP n (fun i => mq (x i))) (rall [blk b5 [.slice la n lc] 51, lst 4 (.slice la n lc) n (en vq (fun i => mq (x i)) n)]) b6 b7 ⟨_, _, _, rfl, Tryz.func178, fo178, all_it b5 n lc la (fun i => mq (x i)) (by omega)⟩ (by rw [upP_len]; (try simp only [List.length_append, coefU_len, List.append_assoc]); have hI := inverse_len; omega)⟩) (.rall fun q hq => by simp only [List.mem_cons, List.not_mem_nil, or_false] at hq; rcases hq with rfl | rfl | rfl <;> first | exact (HasR.nth 0 rfl).pi 0 rfl | exact (HasR.nth 0 rfl).pi 1 rfl | exact HasR.two ((HasR.nth 1 rfl).pi 0 rfl) (hL.cons.cons)) (fun _ => rfl) rfl (fun k r => r = bun [blk b1 (fieldL s) 120, blk b3 [.slice (some ⟨b2, 0, none⟩) n n] 51, blk b2 (en vq (fun i => bat1 x k i) n) 56, blk b4 [.int .u64 ((dg 0 (mq (Pp x k)) : Nat) : Int), .int .u64 ((dg 1 (mq (Pp x k)) : Nat) : Int), .int .u64 ((dg 2 (mq (Pp x k)) : Nat) : Int), .int .u64 ((dg 3 (mq (Pp x k)) : Nat) : Int)] 56]) (fun c k r => False) rfl (by rw [List.take_zero, List.map_nil, List.append_nil]; exact hT) ?_ ?_ ?_
  · rintro l8 k8 x8 hx8 LR8 LB8 FR8 hL8 r a w ⟨rfl⟩ hk hs
    obtain ⟨hlt, rfl⟩ := upP_some hx8
    have hk : Kn [] 76 [(28, vec (mq (x k8))), (27, .int .i64 ((k8 : Nat) : Int)), (26, .func (.func 177) #[] #[.pointer (some ⟨b6, 0, none⟩), .pointer (some ⟨b7, 0, none⟩)]), (8, .pointer (some ⟨b4, 0, none⟩)), (7, .pointer (some ⟨b3, 0, none⟩)), (6, .slice none 0 0), (4, .pointer (some ⟨b1, 0, none⟩)), (0, tval t), (2, .slice la n lc)] a := hk
    have hs : Sat F0 W [blk b1 (fieldL s) 120, blk b3 [.slice (some ⟨b2, 0, none⟩) n n] 51, blk b2 (en vq (fun i => bat1 x k8 i) n) 56, blk b4 [.int .u64 ((dg 0 (mq (Pp x k8)) : Nat) : Int), .int .u64 ((dg 1 (mq (Pp x k8)) : Nat) : Int), .int .u64 ((dg 2 (mq (Pp x k8)) : Nat) : Int), .int .u64 ((dg 3 (mq (Pp x k8)) : Nat) : Int)] 56, LR8, FR8] ((rall [blk b6 [.func (.func 178) #[] #[.pointer (some ⟨b5, 0, none⟩)]] 192, blk b7 [tval t] 60]) :: (rall [blk b5 [.slice la n lc] 51]) :: R) w := hs.unpack
    refine wpIn_seq ?_
    refine wpIn_region_lit ?_
    refine q_val hk (w_as rfl) rfl rfl rfl fun a hk => ?_
    refine (c_end (x_t ?_))
    refine wpIn_region_lit ?_
    refine q_alc (vs := [.int .u64 0, .int .u64 0, .int .u64 0, .int .u64 0]) hk hs zr56 rfl rfl rfl fun b9 w a hk hs => ?_
    refine q_sto (o := 0) (cs := [.int .u64 ((dg 0 (mq (x k8)) : Nat) : Int), .int .u64 ((dg 1 (mq (x k8)) : Nat) : Int), .int .u64 ((dg 2 (mq (x k8)) : Nat) : Int), .int .u64 ((dg 3 (mq (x k8)) : Nat) : Int)]) (vs' := [.int .u64 ((dg 0 (mq (x k8)) : Nat) : Int), .int .u64 ((dg 1 (mq (x k8)) : Nat) : Int), .int .u64 ((dg 2 (mq (x k8)) : Nat) : Int), .int .u64 ((dg 3 (mq (x k8)) : Nat) : Int)]) hk hs rfl rfl rfl ty56 rfl rfl rfl rfl rfl rfl fun w hs => ?_
    refine (c_end (x_t ?_))
    have hs := hs.up5
    refine hL8.begin_ hs fun w hs => ?_
    refine wpIn_block ?_
    refine wpIn_seq ?_
    refine wpIn_region_lit ?_
    refine q_val hk (w_ld1 rfl ty51 (.blk (n := 1) (hs.mi 3 rfl) rfl)) rfl rfl rfl fun a hk => ?_
    refine q_val hk (w_mv rfl) rfl rfl rfl fun a hk => ?_
    refine q_val hk (w_ldv (z := (mq (Pp x k8))) rfl ty56 (.blk (n := 4) (hs.mi 5 rfl) rfl)) rfl rfl rfl fun a hk => ?_
    refine q_val hk (w_iaL (k := k8) rfl rfl Tryz.underlying51 ty56 (blk_lst (hs.mi 4 rfl) (en_len vq_len) (Nat.le_refl _)) (by omega) (by omega)) rfl rfl rfl fun a hk => ?_
    have hs := hs.up4
    refine q_stoE (c := vq) (xx := (mq (Pp x k8))) (k := k8) hk hs rfl rfl rfl ty56 rfl vq_len rfl (by omega) rfl fun w hs => ?_
    refine (c_end (x_t ?_))
    have hL := okL.cons (hs.mi 3 rfl) (okL.cons (hs.mi 2 rfl) okL.nil)
    refine d_begin _ 10 (by kernel_rfl) rfl hs hL fun w hs hL => ?_
    refine d_join (n2 := 2) 255 (fun a w => Kn [] 76 [(40, vec (if (decide ((x k8) = 0)) then rone s else mq (x k8))), (36, .int .u64 (am (decide ((x k8) = 0)))), (34, vec (mq (Pp x k8))), (39, vec (mq (x k8))), (38, vec (rone s)), (37, .pointer (some ⟨b1, 6, none⟩)), (35, vec (mq (x k8))), (33, fieldV s), (32, .pointer (some ((adq (some ⟨b2, 0, none⟩)).add (k8 * 4)))), (31, vec (mq (Pp x k8))), (30, .int .i64 ((k8 : Nat) : Int)), (29, .slice (some ⟨b2, 0, none⟩) n n), (10, .pointer (some ⟨b9, 0, none⟩)), (9, .int .i64 ((k8 : Nat) : Int)), (28, vec (mq (x k8))), (27, .int .i64 ((k8 : Nat) : Int)), (26, .func (.func 177) #[] #[.pointer (some ⟨b6, 0, none⟩), .pointer (some ⟨b7, 0, none⟩)]), (8, .pointer (some ⟨b4, 0, none⟩)), (7, .pointer (some ⟨b3, 0, none⟩)), (6, .slice none 0 0), (4, .pointer (some ⟨b1, 0, none⟩)), (0, tval t), (2, .slice la n lc)] a ∧ Sat F0 W [blk b2 (en vq (fun i => (if i = k8 then (mq (Pp x k8)) else bat1 x k8 i)) n) 56, LB8, blk b9 [.int .u64 ((dg 0 (mq (x k8)) : Nat) : Int), .int .u64 ((dg 1 (mq (x k8)) : Nat) : Int), .int .u64 ((dg 2 (mq (x k8)) : Nat) : Int), .int .u64 ((dg 3 (mq (x k8)) : Nat) : Int)] 56, blk b1 (fieldL s) 120, blk b3 [.slice (some ⟨b2, 0, none⟩) n n] 51, blk b4 [.int .u64 ((dg 0 (mq (Pp x k8)) : Nat) : Int), .int .u64 ((dg 1 (mq (Pp x k8)) : Nat) : Int), .int .u64 ((dg 2 (mq (Pp x k8)) : Nat) : Int), .int .u64 ((dg 3 (mq (Pp x k8)) : Nat) : Int)] 56, FR8] ((rall [blk b6 [.func (.func 178) #[] #[.pointer (some ⟨b5, 0, none⟩)]] 192, blk b7 [tval t] 60]) :: (rall [blk b5 [.slice la n lc] 51]) :: R) w ∧ okL [blk b1 (fieldL s) 120, blk b9 [.int .u64 ((dg 0 (mq (x k8)) : Nat) : Int), .int .u64 ((dg 1 (mq (x k8)) : Nat) : Int), .int .u64 ((dg 2 (mq (x k8)) : Nat) : Int), .int .u64 ((dg 3 (mq (x k8)) : Nat) : Int)] 56] w) ?_ ?_
    · intro hJ255
      refine d_join (n2 := 3) 127 (fun a w => Kn [] 76 [(36, .int .u64 (am (decide ((x k8) = 0)))), (34, vec (mq (Pp x k8))), (39, vec (mq (x k8))), (38, vec (rone s)), (37, .pointer (some ⟨b1, 6, none⟩)), (35, vec (mq (x k8))), (33, fieldV s), (32, .pointer (some ((adq (some ⟨b2, 0, none⟩)).add (k8 * 4)))), (31, vec (mq (Pp x k8))), (30, .int .i64 ((k8 : Nat) : Int)), (29, .slice (some ⟨b2, 0, none⟩) n n), (10, .pointer (some ⟨b9, 0, none⟩)), (9, .int .i64 ((k8 : Nat) : Int)), (28, vec (mq (x k8))), (27, .int .i64 ((k8 : Nat) : Int)), (26, .func (.func 177) #[] #[.pointer (some ⟨b6, 0, none⟩), .pointer (some ⟨b7, 0, none⟩)]), (8, .pointer (some ⟨b4, 0, none⟩)), (7, .pointer (some ⟨b3, 0, none⟩)), (6, .slice none 0 0), (4, .pointer (some ⟨b1, 0, none⟩)), (0, tval t), (2, .slice la n lc)] a ∧ Sat F0 W [blk b2 (en vq (fun i => (if i = k8 then (mq (Pp x k8)) else bat1 x k8 i)) n) 56, LB8, blk b9 [.int .u64 ((dg 0 (mq (x k8)) : Nat) : Int), .int .u64 ((dg 1 (mq (x k8)) : Nat) : Int), .int .u64 ((dg 2 (mq (x k8)) : Nat) : Int), .int .u64 ((dg 3 (mq (x k8)) : Nat) : Int)] 56, blk b1 (fieldL s) 120, blk b3 [.slice (some ⟨b2, 0, none⟩) n n] 51, blk b4 [.int .u64 ((dg 0 (mq (Pp x k8)) : Nat) : Int), .int .u64 ((dg 1 (mq (Pp x k8)) : Nat) : Int), .int .u64 ((dg 2 (mq (Pp x k8)) : Nat) : Int), .int .u64 ((dg 3 (mq (Pp x k8)) : Nat) : Int)] 56, FR8] ((rall [blk b6 [.func (.func 178) #[] #[.pointer (some ⟨b5, 0, none⟩)]] 192, blk b7 [tval t] 60]) :: (rall [blk b5 [.slice la n lc] 51]) :: R) w ∧ okL [blk b1 (fieldL s) 120, blk b9 [.int .u64 ((dg 0 (mq (x k8)) : Nat) : Int), .int .u64 ((dg 1 (mq (x k8)) : Nat) : Int), .int .u64 ((dg 2 (mq (x k8)) : Nat) : Int), .int .u64 ((dg 3 (mq (x k8)) : Nat) : Int)] 56] w) ?_ ?_
      · intro hJ127
        refine d_v 0 1 hk hL rfl (by kernel_rfl) rfl rfl (fun w hL => w_ldA rfl ty120 (.blk (n := 14) (hL.at 0 rfl) rfl) rfl) fun a hk => ?_
        refine d_v 2 5 hk hL rfl (by kernel_rfl) rfl rfl (fun w hL => w_ldv (z := mq (x k8)) rfl ty56 (.blk (n := 4) (hL.at 1 rfl) rfl)) fun a hk => ?_
        refine d_v 4 21 hk hL rfl (by kernel_rfl) rfl rfl (fun w hL => w_fa rfl fq120_3 ty56) fun a hk => ?_
        refine d_v 5 53 hk hL rfl (by kernel_rfl) rfl rfl (fun w hL => w_ldv (z := rone s) rfl ty56 (.blk (n := 4) (hL.at 0 rfl) rfl)) fun a hk => ?_
        refine d_v 6 117 hk hL rfl (by kernel_rfl) rfl rfl (fun w hL => w_ldv (z := mq (x k8)) rfl ty56 (.blk (n := 4) (hL.at 1 rfl) rfl)) fun a hk => ?_
        refine d_2 1 3 119 125 rfl rfl (by kernel_rfl) (fun K hK => ?_) (fun K hK => ?_)
        · skip
          refine q_val hk (w_ldv (z := (mq (Pp x k8))) rfl ty56 (.blk (n := 4) (hs.mi 5 rfl) rfl)) rfl rfl rfl fun a hk => ?_
          have hL := okL.cons (hs.mi 3 rfl) (okL.cons (hs.mi 2 rfl) okL.nil)
          refine c_end (x_t (hK _ _ hL ?_))
          clear hK K
          refine d_1 3 127 rfl (by kernel_rfl) fun K hK => ?_
          refine q_call (caps := []) hk rfl rfl Tryz.func166 fo166 rfl rfl (zisz_c (s := s) (x := (x k8)) _ rfl) ?_
          rintro _ w ⟨rfl, hb⟩
          have hs := hs.below hb
          refine ⟨_, rfl, fun a hk => ?_⟩
          have hL := okL.cons (hs.mi 3 rfl) (okL.cons (hs.mi 2 rfl) okL.nil)
          refine c_end (x_t (hK _ _ hL ?_))
          clear hK K
          have hL := okL.cons (hs.mi 3 rfl) (okL.cons (hs.mi 2 rfl) okL.nil)
          exact hJ127 _ _ ⟨hk.k rfl (hk.k rfl (hk.k rfl (hk.k rfl (hk.k rfl (hk.k rfl (hk.k rfl (hk.k rfl (hk.k rfl (hk.k rfl (hk.k rfl (hk.k rfl (hk.k rfl (hk.k rfl (hk.k rfl (hk.k rfl (hk.k rfl (hk.k rfl (hk.k rfl (hk.k rfl (hk.k rfl (hk.k rfl hk.nil))))))))))))))))))))), hs, hL⟩
        · skip
          refine q_call (caps := []) hk rfl rfl Tryz.func166 fo166 rfl rfl (zisz_c (s := s) (x := (x k8)) _ rfl) ?_
          rintro _ w ⟨rfl, hb⟩
          have hs := hs.below hb
          refine ⟨_, rfl, fun a hk => ?_⟩
          have hL := okL.cons (hs.mi 3 rfl) (okL.cons (hs.mi 2 rfl) okL.nil)
          refine c_end (x_t (hK _ _ hL ?_))
          clear hK K
          refine d_2 1 7 127 253 rfl rfl (by kernel_rfl) (fun K hK => ?_) (fun K hK => ?_)
          · skip
            refine q_val hk (w_ldv (z := (mq (Pp x k8))) rfl ty56 (.blk (n := 4) (hs.mi 5 rfl) rfl)) rfl rfl rfl fun a hk => ?_
            have hL := okL.cons (hs.mi 3 rfl) (okL.cons (hs.mi 2 rfl) okL.nil)
            refine c_end (x_t (hK _ _ hL ?_))
            clear hK K
            have hL := okL.cons (hs.mi 3 rfl) (okL.cons (hs.mi 2 rfl) okL.nil)
            exact hJ127 _ _ ⟨hk.k rfl (hk.k rfl (hk.k rfl (hk.k rfl (hk.k rfl (hk.k rfl (hk.k rfl (hk.k rfl (hk.k rfl (hk.k rfl (hk.k rfl (hk.k rfl (hk.k rfl (hk.k rfl (hk.k rfl (hk.k rfl (hk.k rfl (hk.k rfl (hk.k rfl (hk.k rfl (hk.k rfl (hk.k rfl hk.nil))))))))))))))))))))), hs, hL⟩
          · skip
            refine q_call (caps := []) hk rfl rfl Tryz.func165 fo165 rfl rfl (zchoose_c _ (decide ((x k8) = 0)) rfl (rone_lt4 s) (mq_lt4 _)) ?_
            rintro _ w ⟨rfl, hb⟩
            have hs := hs.below hb
            refine ⟨_, rfl, fun a hk => ?_⟩
            have hL := okL.cons (hs.mi 3 rfl) (okL.cons (hs.mi 2 rfl) okL.nil)
            refine c_end (x_t (hK _ _ hL ?_))
            clear hK K
            refine d_1 1 255 rfl (by kernel_rfl) fun K hK => ?_
            refine q_val hk (w_ldv (z := (mq (Pp x k8))) rfl ty56 (.blk (n := 4) (hs.mi 5 rfl) rfl)) rfl rfl rfl fun a hk => ?_
            have hL := okL.cons (hs.mi 3 rfl) (okL.cons (hs.mi 2 rfl) okL.nil)
            refine c_end (x_t (hK _ _ hL ?_))
            clear hK K
            have hL := okL.cons (hs.mi 3 rfl) (okL.cons (hs.mi 2 rfl) okL.nil)
            exact hJ255 _ _ ⟨hk.k rfl (hk.k rfl (hk.k rfl (hk.k rfl (hk.k rfl (hk.k rfl (hk.k rfl (hk.k rfl (hk.k rfl (hk.k rfl (hk.k rfl (hk.k rfl (hk.k rfl (hk.k rfl (hk.k rfl (hk.k rfl (hk.k rfl (hk.k rfl (hk.k rfl (hk.k rfl (hk.k rfl (hk.k rfl (hk.k rfl hk.nil)))))))))))))))))))))), hs, hL⟩
      · rintro a w ⟨hk, hs, hL⟩
        refine d_1 7 255 rfl (by kernel_rfl) fun K hK => ?_
        refine q_call (caps := []) hk rfl rfl Tryz.func165 fo165 rfl rfl (zchoose_c _ (decide ((x k8) = 0)) rfl (rone_lt4 s) (mq_lt4 _)) ?_
        rintro _ w ⟨rfl, hb⟩
        have hs := hs.below hb
        refine ⟨_, rfl, fun a hk => ?_⟩
        have hL := okL.cons (hs.mi 3 rfl) (okL.cons (hs.mi 2 rfl) okL.nil)
        refine c_end (x_t (hK _ _ hL ?_))
        clear hK K
        have hL := okL.cons (hs.mi 3 rfl) (okL.cons (hs.mi 2 rfl) okL.nil)
        exact hJ255 _ _ ⟨hk.k rfl (hk.k rfl (hk.k rfl (hk.k rfl (hk.k rfl (hk.k rfl (hk.k rfl (hk.k rfl (hk.k rfl (hk.k rfl (hk.k rfl (hk.k rfl (hk.k rfl (hk.k rfl (hk.k rfl (hk.k rfl (hk.k rfl (hk.k rfl (hk.k rfl (hk.k rfl (hk.k rfl (hk.k rfl (hk.k rfl hk.nil)))))))))))))))))))))), hs, hL⟩
    · rintro a w ⟨hk, hs, hL⟩
      refine d_1 8 511 rfl (by kernel_rfl) fun K hK => ?_
      refine q_call (caps := []) hk rfl rfl Tryz.func120 fo120 rfl rfl (zmul_c (x := (Pp x k8)) (y := (nz (x k8))) _ rfl (nz_ch _)) ?_
      rintro _ w ⟨rfl, hb⟩
      have hs := hs.below hb
      refine ⟨_, rfl, fun a hk => ?_⟩
      have hL := okL.cons (hs.mi 3 rfl) (okL.cons (hs.mi 2 rfl) okL.nil)
      refine c_end (x_t (hK _ _ hL ?_))
      clear hK K
      refine d_1 9 1023 rfl (by kernel_rfl) fun K hK => ?_
      have hs := hs.up5
      refine q_sto (o := 0) (cs := [.int .u64 ((dg 0 (mq ((Pp x k8) * (nz (x k8)))) : Nat) : Int), .int .u64 ((dg 1 (mq ((Pp x k8) * (nz (x k8)))) : Nat) : Int), .int .u64 ((dg 2 (mq ((Pp x k8) * (nz (x k8)))) : Nat) : Int), .int .u64 ((dg 3 (mq ((Pp x k8) * (nz (x k8)))) : Nat) : Int)]) (vs' := [.int .u64 ((dg 0 (mq ((Pp x k8) * (nz (x k8)))) : Nat) : Int), .int .u64 ((dg 1 (mq ((Pp x k8) * (nz (x k8)))) : Nat) : Int), .int .u64 ((dg 2 (mq ((Pp x k8) * (nz (x k8)))) : Nat) : Int), .int .u64 ((dg 3 (mq ((Pp x k8) * (nz (x k8)))) : Nat) : Int)]) hk hs rfl rfl rfl ty56 rfl rfl rfl rfl rfl rfl fun w hs => ?_
      have hL := okL.cons (hs.mi 4 rfl) (okL.cons (hs.mi 3 rfl) okL.nil)
      refine c_end (x_t (hK _ _ hL ?_))
      clear hK K
      refine d_end (by kernel_rfl) ?_
      refine (x_b ?_)
      have hs := hs.up1
      have hs := hs.rw0 (congrArg (fun q => blk b2 q 56) bat1_step)
      have hs := hs.up3
      have hs := hs.drop
      have hs := hs.up5
      have hs := hs.up3
      have hs := hs.up3
      have hs := hs.up3
      have hs := hs.up5
      have hs := hs.up5
      exact ⟨_, rfl, Sat.pack (l := [_, _, _, _]) hs⟩
  · intro D8 r r8 a w hJ hK hk hs
    rw [upP_len] at hJ hK
    obtain ⟨rfl⟩ := hJ
    have hs := Sat.unpack (l := [blk b1 (fieldL s) 120, blk b3 [.slice (some ⟨b2, 0, none⟩) n n] 51, blk b2 (en vq (fun i => bat1 x n i) n) 56, blk b4 [.int .u64 ((dg 0 (mq (Pp x n)) : Nat) : Int), .int .u64 ((dg 1 (mq (Pp x n)) : Nat) : Int), .int .u64 ((dg 2 (mq (Pp x n)) : Nat) : Int), .int .u64 ((dg 3 (mq (Pp x n)) : Nat) : Int)] 56]) hs.up1
    have hT := hK
    rw [upP_coef] at hT
    have hT : TapeIs t (evs ++ upE 0 (n : Int) coefE) r8 := hT
    have hs : Sat F0 W ((blk b1 (fieldL s) 120) :: (blk b3 [.slice (some ⟨b2, 0, none⟩) n n] 51) :: (blk b2 (en vq (fun i => bat1 x n i) n) 56) :: (blk b4 [.int .u64 ((dg 0 (mq (Pp x n)) : Nat) : Int), .int .u64 ((dg 1 (mq (Pp x n)) : Nat) : Int), .int .u64 ((dg 2 (mq (Pp x n)) : Nat) : Int), .int .u64 ((dg 3 (mq (Pp x n)) : Nat) : Int)] 56) :: (dres D8) :: r8 :: M) ((rall [blk b6 [.func (.func 178) #[] #[.pointer (some ⟨b5, 0, none⟩)]] 192, blk b7 [tval t] 60]) :: (rall [blk b5 [.slice la n lc] 51]) :: R) w := hs
    refine (x_b (x_t ?_))
    refine wpIn_seq ?_
    refine wpIn_region_lit ?_
    refine q_val hk (w_mv rfl) rfl rfl rfl fun a hk => ?_
    refine q_val hk (w_ldA rfl ty120 (.blk (n := 14) (hs.mi 0 rfl) rfl) rfl) rfl rfl rfl fun a hk => ?_
    refine q_val hk (w_ldv (z := (mq (Pp x n))) rfl ty56 (.blk (n := 4) (hs.mi 3 rfl) rfl)) rfl rfl rfl fun a hk => ?_
    have hs := hs.up5
    refine q_call (caps := []) hk rfl rfl Tryz.func167 fo167 rfl rfl (inv_m s (Pp x n) t (evs ++ upE 0 (n : Int) coefE) _ _ hs hT (by (try simp only [List.length_append, coefU_len]); omega)) ?_
    rintro _ w ⟨r10, rfl, ht11, hs⟩
    have hT := ht11
    refine ⟨_, rfl, fun a hk => ?_⟩
    refine q_alc (vs := [.int .u64 0, .int .u64 0, .int .u64 0, .int .u64 0]) hk hs zr56 rfl rfl rfl fun b12 w a hk hs => ?_
    refine q_sto (o := 0) (cs := [.int .u64 ((dg 0 (mq (zinv (Pp x n))) : Nat) : Int), .int .u64 ((dg 1 (mq (zinv (Pp x n))) : Nat) : Int), .int .u64 ((dg 2 (mq (zinv (Pp x n))) : Nat) : Int), .int .u64 ((dg 3 (mq (zinv (Pp x n))) : Nat) : Int)]) (vs' := [.int .u64 ((dg 0 (mq (zinv (Pp x n))) : Nat) : Int), .int .u64 ((dg 1 (mq (zinv (Pp x n))) : Nat) : Int), .int .u64 ((dg 2 (mq (zinv (Pp x n))) : Nat) : Int), .int .u64 ((dg 3 (mq (zinv (Pp x n))) : Nat) : Int)]) hk hs rfl rfl rfl ty56 rfl rfl rfl rfl rfl rfl fun w hs => ?_
    refine (c_end (x_t ?_))
    refine wpIn_seq ?_
    refine wpIn_seq ?_
    refine wpIn_region_lit ?_
    refine q_val hk (w_mv rfl) rfl rfl rfl fun a hk => ?_
    refine q_val hk (w_mv rfl) rfl rfl rfl fun a hk => ?_
    refine q_call (caps := []) hk rfl rfl Tryz.func148 fo148 rfl rfl (back_c n lc la _) ?_
    rintro _ w ⟨b13, rfl, hS⟩
    have hs := hs.call1 hS
    clear hS
    refine ⟨_, rfl, fun a hk => ?_⟩
    refine q_call (caps := []) hk rfl rfl Tryz.func163 fo163 rfl rfl (rvis_c t (169, [.pointer (some ⟨b13, 0, none⟩)]) _) ?_
    rintro _ w ⟨b14, b15, rfl, hS⟩
    have hs := hs.call2 hS
    clear hS
    refine ⟨_, rfl, fun a hk => ?_⟩
    refine (c_end (x_t ?_))
    refine wpIn_block ?_
    have hs := hs.up2
    have hs := Sat.frzL (l := [blk b13 [.slice la n lc] 51]) hs
    have hs := hs.up1
    have hs := hs.up1
    have hs := Sat.frzL (l := [blk b14 [.func (.func 169) #[] #[.pointer (some ⟨b13, 0, none⟩)]] 192, blk b15 [tval t] 60]) hs
    have hs := hs.up4
    have hs := hs.rw0 (congrArg (fun q => blk b2 q 56) bat2_zero)
    have hs := hs.up1
    have hs := hs.rw0 (show _ = blk b12 (vq (mq (Iv x n 0))) 56 from rfl)
    have hk : Kn [D8] 76 [(49, .func (.func 177) #[] #[.pointer (some ⟨b14, 0, none⟩), .pointer (some ⟨b15, 0, none⟩)]), (11, .pointer (some ⟨b12, 0, none⟩)), (7, .pointer (some ⟨b3, 0, none⟩)), (6, .slice none 0 0), (4, .pointer (some ⟨b1, 0, none⟩))] a := hk.k rfl (hk.k rfl (hk.k rfl (hk.k rfl (hk.k rfl hk.nil))))
    have hs := hs.up2
    have hs := hs.up1
    have hs := hs.up2
    have hs := hs.up4
    have hs := hs.up4
    have hs := Sat.pack (l := [blk b1 (fieldL s) 120, blk b3 [.slice (some ⟨b2, 0, none⟩) n n] 51, blk b2 (en vq (fun i => bat2 x n 0 i) n) 56, blk b12 [.int .u64 ((dg 0 (mq (Iv x n 0)) : Nat) : Int), .int .u64 ((dg 1 (mq (Iv x n 0)) : Nat) : Int), .int .u64 ((dg 2 (mq (Iv x n 0)) : Nat) : Int), .int .u64 ((dg 3 (mq (Iv x n 0)) : Nat) : Int)] 56]) hs
    refine c_range0 hk hs rfl (⟨_, _, _, rfl, Tryz.func177, fo177, rvis_it t ((evs ++ upE 0 (n : Int) coefE) ++ inverseE) (169, [.pointer (some ⟨b13, 0, none⟩)]) (dnP n (fun i => mq (x i))) (rall [blk b13 [.slice la n lc] 51, lst 4 (.slice la n lc) n (en vq (fun i => mq (x i)) n)]) b14 b15 ⟨_, _, _, rfl, Tryz.func169, fo169, back_it b13 n lc la (fun i => mq (x i)) (by omega)⟩ (by rw [dnP_len]; (try simp only [List.length_append, coefU_len, List.append_assoc]); have hI := inverse_len; omega)⟩) (.rall fun q hq => by simp only [List.mem_cons, List.not_mem_nil, or_false] at hq; rcases hq with rfl | rfl | rfl <;> first | exact (HasR.nth 0 rfl).pi 0 rfl | exact (HasR.nth 0 rfl).pi 1 rfl | exact HasR.two ((HasR.nth 1 rfl).pi 0 rfl) (hL.cons.cons.cons.cons)) (fun _ => rfl) rfl (fun k r => r = bun [blk b1 (fieldL s) 120, blk b3 [.slice (some ⟨b2, 0, none⟩) n n] 51, blk b2 (en vq (fun i => bat2 x n k i) n) 56, blk b12 [.int .u64 ((dg 0 (mq (Iv x n k)) : Nat) : Int), .int .u64 ((dg 1 (mq (Iv x n k)) : Nat) : Int), .int .u64 ((dg 2 (mq (Iv x n k)) : Nat) : Int), .int .u64 ((dg 3 (mq (Iv x n k)) : Nat) : Int)] 56]) (fun c k r => False) rfl (by rw [List.take_zero, List.map_nil, List.append_nil]; exact hT) ?_ ?_ ?_
    · rintro l16 k16 x16 hx16 LR16 LB16 FR16 hL16 r a w ⟨rfl⟩ hk hs
      obtain ⟨hlt, rfl⟩ := dnP_some hx16
      have hk : Kn [] 76 [(51, vec (mq (x (n - 1 - k16)))), (50, .int .i64 ((n - 1 - k16 : Nat) : Int)), (49, .func (.func 177) #[] #[.pointer (some ⟨b14, 0, none⟩), .pointer (some ⟨b15, 0, none⟩)]), (11, .pointer (some ⟨b12, 0, none⟩)), (7, .pointer (some ⟨b3, 0, none⟩)), (6, .slice none 0 0), (4, .pointer (some ⟨b1, 0, none⟩))] a := hk
      have hs : Sat F0 W [blk b1 (fieldL s) 120, blk b3 [.slice (some ⟨b2, 0, none⟩) n n] 51, blk b2 (en vq (fun i => bat2 x n k16 i) n) 56, blk b12 [.int .u64 ((dg 0 (mq (Iv x n k16)) : Nat) : Int), .int .u64 ((dg 1 (mq (Iv x n k16)) : Nat) : Int), .int .u64 ((dg 2 (mq (Iv x n k16)) : Nat) : Int), .int .u64 ((dg 3 (mq (Iv x n k16)) : Nat) : Int)] 56, LR16, FR16] ((rall [blk b14 [.func (.func 169) #[] #[.pointer (some ⟨b13, 0, none⟩)]] 192, blk b15 [tval t] 60]) :: (rall [blk b13 [.slice la n lc] 51]) :: (rall [blk b6 [.func (.func 178) #[] #[.pointer (some ⟨b5, 0, none⟩)]] 192, blk b7 [tval t] 60]) :: (rall [blk b5 [.slice la n lc] 51]) :: R) w := hs.unpack
      refine wpIn_seq ?_
      refine wpIn_region_lit ?_
      refine q_val hk (w_as rfl) rfl rfl rfl fun a hk => ?_
      refine (c_end (x_t ?_))
      refine wpIn_region_lit ?_
      refine q_alc (vs := [.int .u64 0, .int .u64 0, .int .u64 0, .int .u64 0]) hk hs zr56 rfl rfl rfl fun b17 w a hk hs => ?_
      refine q_sto (o := 0) (cs := [.int .u64 ((dg 0 (mq (x (n - 1 - k16))) : Nat) : Int), .int .u64 ((dg 1 (mq (x (n - 1 - k16))) : Nat) : Int), .int .u64 ((dg 2 (mq (x (n - 1 - k16))) : Nat) : Int), .int .u64 ((dg 3 (mq (x (n - 1 - k16))) : Nat) : Int)]) (vs' := [.int .u64 ((dg 0 (mq (x (n - 1 - k16))) : Nat) : Int), .int .u64 ((dg 1 (mq (x (n - 1 - k16))) : Nat) : Int), .int .u64 ((dg 2 (mq (x (n - 1 - k16))) : Nat) : Int), .int .u64 ((dg 3 (mq (x (n - 1 - k16))) : Nat) : Int)]) hk hs rfl rfl rfl ty56 rfl rfl rfl rfl rfl rfl fun w hs => ?_
      refine (c_end (x_t ?_))
      have hs := hs.up5
      refine hL16.begin_ hs fun w hs => ?_
      refine wpIn_block ?_
      refine wpIn_seq ?_
      refine wpIn_region_lit ?_
      refine q_val hk (w_ldv (z := mq (x (n - 1 - k16))) rfl ty56 (.blk (n := 4) (hs.mi 1 rfl) rfl)) rfl rfl rfl fun a hk => ?_
      refine q_call (caps := []) hk rfl rfl Tryz.func166 fo166 rfl rfl (zisz_c (s := s) (x := (x (n - 1 - k16))) _ rfl) ?_
      rintro _ w ⟨rfl, hb⟩
      have hs := hs.below hb
      refine ⟨_, rfl, fun a hk => ?_⟩
      refine q_val hk (w_as rfl) rfl rfl rfl fun a hk => ?_
      refine (c_end (x_t ?_))
      refine wpIn_seq ?_
      have hL := okL.cons (hs.mi 3 rfl) (okL.cons (hs.mi 2 rfl) (okL.cons (hs.mi 5 rfl) okL.nil))
      refine d_begin _ 14 (by kernel_rfl) rfl hs hL fun w hs hL => ?_
      refine d_v 0 1 hk hL rfl (by kernel_rfl) rfl rfl (fun w hL => w_ld1 rfl ty51 (.blk (n := 1) (hL.at 0 rfl) rfl)) fun a hk => ?_
      refine d_v 1 3 hk hL rfl (by kernel_rfl) rfl rfl (fun w hL => w_mv rfl) fun a hk => ?_
      refine d_v 2 7 hk hL rfl (by kernel_rfl) rfl rfl (fun w hL => w_mv rfl) fun a hk => ?_
      refine d_v 3 15 hk hL rfl (by kernel_rfl) rfl rfl (fun w hL => w_bldv0 Tryz.underlying56 ty46 zr56) fun a hk => ?_
      refine d_v 4 31 hk hL rfl (by kernel_rfl) rfl rfl (fun w hL => w_ldA rfl ty120 (.blk (n := 14) (hL.at 1 rfl) rfl) rfl) fun a hk => ?_
      refine d_v 5 63 hk hL rfl (by kernel_rfl) rfl rfl (fun w hL => w_ld1 rfl ty51 (.blk (n := 1) (hL.at 0 rfl) rfl)) fun a hk => ?_
      refine d_v 6 127 hk hL rfl (by kernel_rfl) rfl rfl (fun w hL => w_mv rfl) fun a hk => ?_
      refine d_v 9 639 hk hL rfl (by kernel_rfl) rfl rfl (fun w hL => w_ldv (z := mq (Iv x n k16)) rfl ty56 (.blk (n := 4) (hL.at 2 rfl) rfl)) fun a hk => ?_
      refine d_1 7 767 rfl (by kernel_rfl) fun K hK => ?_
      refine q_val hk (w_iaL (k := n - 1 - k16) rfl rfl Tryz.underlying51 ty56 (blk_lst (hs.mi 4 rfl) (en_len vq_len) (Nat.le_refl _)) (by omega) (by omega)) rfl rfl rfl fun a hk => ?_
      have hL := okL.cons (hs.mi 3 rfl) (okL.cons (hs.mi 2 rfl) (okL.cons (hs.mi 5 rfl) okL.nil))
      refine c_end (x_t (hK _ _ hL ?_))
      clear hK K
      refine d_1 8 1023 rfl (by kernel_rfl) fun K hK => ?_
      refine q_val hk (w_ldv (z := mq (Pp x (n - 1 - k16))) rfl ty56 (vq_eq (bat2_at hlt) (lstq (k := n - 1 - k16) (blk_lst (hs.mi 4 rfl) (en_len vq_len) (Nat.le_refl _)) (by omega) (en_chunk vq_len (by omega))))) rfl rfl rfl fun a hk => ?_
      have hL := okL.cons (hs.mi 3 rfl) (okL.cons (hs.mi 2 rfl) (okL.cons (hs.mi 5 rfl) okL.nil))
      refine c_end (x_t (hK _ _ hL ?_))
      clear hK K
      refine d_1 10 2047 rfl (by kernel_rfl) fun K hK => ?_
      refine q_call (caps := []) hk rfl rfl Tryz.func120 fo120 rfl rfl (zmul_c (x := (Pp x (n - 1 - k16))) (y := (Iv x n k16)) _ rfl rfl) ?_
      rintro _ w ⟨rfl, hb⟩
      have hs := hs.below hb
      refine ⟨_, rfl, fun a hk => ?_⟩
      have hL := okL.cons (hs.mi 3 rfl) (okL.cons (hs.mi 2 rfl) (okL.cons (hs.mi 5 rfl) okL.nil))
      refine c_end (x_t (hK _ _ hL ?_))
      clear hK K
      refine d_1 11 4095 rfl (by kernel_rfl) fun K hK => ?_
      refine q_call (caps := []) hk rfl rfl Tryz.func165 fo165 rfl rfl (zchoose_c _ (decide ((x (n - 1 - k16)) = 0)) rfl (by decide) (mq_lt4 _)) ?_
      rintro _ w ⟨rfl, hb⟩
      have hs := hs.below hb
      refine ⟨_, rfl, fun a hk => ?_⟩
      have hL := okL.cons (hs.mi 3 rfl) (okL.cons (hs.mi 2 rfl) (okL.cons (hs.mi 5 rfl) okL.nil))
      refine c_end (x_t (hK _ _ hL ?_))
      clear hK K
      refine d_1 12 8191 rfl (by kernel_rfl) fun K hK => ?_
      refine q_val hk (w_iaL (k := n - 1 - k16) rfl rfl Tryz.underlying51 ty56 (blk_lst (hs.mi 4 rfl) (en_len vq_len) (Nat.le_refl _)) (by omega) (by omega)) rfl rfl rfl fun a hk => ?_
      have hL := okL.cons (hs.mi 3 rfl) (okL.cons (hs.mi 2 rfl) (okL.cons (hs.mi 5 rfl) okL.nil))
      refine c_end (x_t (hK _ _ hL ?_))
      clear hK K
      refine d_1 13 16383 rfl (by kernel_rfl) fun K hK => ?_
      have hs := hs.up4
      refine q_stoE (c := vq) (xx := (if (decide ((x (n - 1 - k16)) = 0)) then 0 else mq ((Pp x (n - 1 - k16)) * (Iv x n k16)))) (k := (n - 1 - k16)) hk hs rfl rfl rfl ty56 rfl vq_len rfl (by omega) rfl fun w hs => ?_
      have hL := okL.cons (hs.mi 4 rfl) (okL.cons (hs.mi 3 rfl) (okL.cons (hs.mi 5 rfl) okL.nil))
      refine c_end (x_t (hK _ _ hL ?_))
      clear hK K
      refine d_end (by kernel_rfl) ?_
      refine (x_t ?_)
      have hL := okL.cons (hs.mi 3 rfl) (okL.cons (hs.mi 2 rfl) okL.nil)
      refine d_begin _ 9 (by kernel_rfl) rfl hs hL fun w hs hL => ?_
      refine d_join (n2 := 2) 127 (fun a w => Kn [] 76 [(73, vec (if (decide ((x (n - 1 - k16)) = 0)) then rone s else mq (x (n - 1 - k16)))), (68, vec (mq (Iv x n k16))), (72, vec (mq (x (n - 1 - k16)))), (71, vec (rone s)), (70, .pointer (some ⟨b1, 6, none⟩)), (69, .int .u64 (am (decide ((x (n - 1 - k16)) = 0)))), (67, fieldV s), (66, .pointer (some ((adq (some ⟨b2, 0, none⟩)).add ((n - 1 - k16) * 4)))), (65, vec (if (decide ((x (n - 1 - k16)) = 0)) then 0 else mq ((Pp x (n - 1 - k16)) * (Iv x n k16)))), (64, vec (mq ((Pp x (n - 1 - k16)) * (Iv x n k16)))), (62, vec (mq (Pp x (n - 1 - k16)))), (61, .pointer (some ((adq (some ⟨b2, 0, none⟩)).add ((n - 1 - k16) * 4)))), (63, vec (mq (Iv x n k16))), (60, .int .i64 ((n - 1 - k16 : Nat) : Int)), (59, .slice (some ⟨b2, 0, none⟩) n n), (58, fieldV s), (57, vec 0), (56, .int .u64 (am (decide ((x (n - 1 - k16)) = 0)))), (55, .int .i64 ((n - 1 - k16 : Nat) : Int)), (54, .slice (some ⟨b2, 0, none⟩) n n), (14, .int .u64 (am (decide ((x (n - 1 - k16)) = 0)))), (53, .int .u64 (am (decide ((x (n - 1 - k16)) = 0)))), (52, vec (mq (x (n - 1 - k16)))), (13, .pointer (some ⟨b17, 0, none⟩)), (12, .int .i64 ((n - 1 - k16 : Nat) : Int)), (51, vec (mq (x (n - 1 - k16)))), (50, .int .i64 ((n - 1 - k16 : Nat) : Int)), (49, .func (.func 177) #[] #[.pointer (some ⟨b14, 0, none⟩), .pointer (some ⟨b15, 0, none⟩)]), (11, .pointer (some ⟨b12, 0, none⟩)), (7, .pointer (some ⟨b3, 0, none⟩)), (6, .slice none 0 0), (4, .pointer (some ⟨b1, 0, none⟩))] a ∧ Sat F0 W [blk b2 (en vq (fun i => (if i = n - 1 - k16 then (if (decide ((x (n - 1 - k16)) = 0)) then 0 else mq ((Pp x (n - 1 - k16)) * (Iv x n k16))) else bat2 x n k16 i)) n) 56, LB16, blk b17 [.int .u64 ((dg 0 (mq (x (n - 1 - k16))) : Nat) : Int), .int .u64 ((dg 1 (mq (x (n - 1 - k16))) : Nat) : Int), .int .u64 ((dg 2 (mq (x (n - 1 - k16))) : Nat) : Int), .int .u64 ((dg 3 (mq (x (n - 1 - k16))) : Nat) : Int)] 56, blk b1 (fieldL s) 120, blk b3 [.slice (some ⟨b2, 0, none⟩) n n] 51, blk b12 [.int .u64 ((dg 0 (mq (Iv x n k16)) : Nat) : Int), .int .u64 ((dg 1 (mq (Iv x n k16)) : Nat) : Int), .int .u64 ((dg 2 (mq (Iv x n k16)) : Nat) : Int), .int .u64 ((dg 3 (mq (Iv x n k16)) : Nat) : Int)] 56, FR16] ((rall [blk b14 [.func (.func 169) #[] #[.pointer (some ⟨b13, 0, none⟩)]] 192, blk b15 [tval t] 60]) :: (rall [blk b13 [.slice la n lc] 51]) :: (rall [blk b6 [.func (.func 178) #[] #[.pointer (some ⟨b5, 0, none⟩)]] 192, blk b7 [tval t] 60]) :: (rall [blk b5 [.slice la n lc] 51]) :: R) w ∧ okL [blk b1 (fieldL s) 120, blk b17 [.int .u64 ((dg 0 (mq (x (n - 1 - k16))) : Nat) : Int), .int .u64 ((dg 1 (mq (x (n - 1 - k16))) : Nat) : Int), .int .u64 ((dg 2 (mq (x (n - 1 - k16))) : Nat) : Int), .int .u64 ((dg 3 (mq (x (n - 1 - k16))) : Nat) : Int)] 56] w) ?_ ?_
      · intro hJ127
        refine d_v 0 1 hk hL rfl (by kernel_rfl) rfl rfl (fun w hL => w_ldA rfl ty120 (.blk (n := 14) (hL.at 0 rfl) rfl) rfl) fun a hk => ?_
        refine d_v 2 5 hk hL rfl (by kernel_rfl) rfl rfl (fun w hL => w_mv rfl) fun a hk => ?_
        refine d_v 3 13 hk hL rfl (by kernel_rfl) rfl rfl (fun w hL => w_fa rfl fq120_3 ty56) fun a hk => ?_
        refine d_v 4 29 hk hL rfl (by kernel_rfl) rfl rfl (fun w hL => w_ldv (z := rone s) rfl ty56 (.blk (n := 4) (hL.at 0 rfl) rfl)) fun a hk => ?_
        refine d_v 5 61 hk hL rfl (by kernel_rfl) rfl rfl (fun w hL => w_ldv (z := mq (x (n - 1 - k16))) rfl ty56 (.blk (n := 4) (hL.at 1 rfl) rfl)) fun a hk => ?_
        refine d_2 1 6 63 125 rfl rfl (by kernel_rfl) (fun K hK => ?_) (fun K hK => ?_)
        · skip
          refine q_val hk (w_ldv (z := mq (Iv x n k16)) rfl ty56 (.blk (n := 4) (hs.mi 5 rfl) rfl)) rfl rfl rfl fun a hk => ?_
          have hL := okL.cons (hs.mi 3 rfl) (okL.cons (hs.mi 2 rfl) okL.nil)
          refine c_end (x_t (hK _ _ hL ?_))
          clear hK K
          refine d_1 6 127 rfl (by kernel_rfl) fun K hK => ?_
          refine q_call (caps := []) hk rfl rfl Tryz.func165 fo165 rfl rfl (zchoose_c _ (decide ((x (n - 1 - k16)) = 0)) rfl (rone_lt4 s) (mq_lt4 _)) ?_
          rintro _ w ⟨rfl, hb⟩
          have hs := hs.below hb
          refine ⟨_, rfl, fun a hk => ?_⟩
          have hL := okL.cons (hs.mi 3 rfl) (okL.cons (hs.mi 2 rfl) okL.nil)
          refine c_end (x_t (hK _ _ hL ?_))
          clear hK K
          have hL := okL.cons (hs.mi 3 rfl) (okL.cons (hs.mi 2 rfl) okL.nil)
          exact hJ127 _ _ ⟨hk.k rfl (hk.k rfl (hk.k rfl (hk.k rfl (hk.k rfl (hk.k rfl (hk.k rfl (hk.k rfl (hk.k rfl (hk.k rfl (hk.k rfl (hk.k rfl (hk.k rfl (hk.k rfl (hk.k rfl (hk.k rfl (hk.k rfl (hk.k rfl (hk.k rfl (hk.k rfl (hk.k rfl (hk.k rfl (hk.k rfl (hk.k rfl (hk.k rfl (hk.k rfl (hk.k rfl (hk.k rfl (hk.k rfl (hk.k rfl (hk.k rfl (hk.k rfl hk.nil))))))))))))))))))))))))))))))), hs, hL⟩
        · skip
          refine q_call (caps := []) hk rfl rfl Tryz.func165 fo165 rfl rfl (zchoose_c _ (decide ((x (n - 1 - k16)) = 0)) rfl (rone_lt4 s) (mq_lt4 _)) ?_
          rintro _ w ⟨rfl, hb⟩
          have hs := hs.below hb
          refine ⟨_, rfl, fun a hk => ?_⟩
          have hL := okL.cons (hs.mi 3 rfl) (okL.cons (hs.mi 2 rfl) okL.nil)
          refine c_end (x_t (hK _ _ hL ?_))
          clear hK K
          refine d_1 1 127 rfl (by kernel_rfl) fun K hK => ?_
          refine q_val hk (w_ldv (z := mq (Iv x n k16)) rfl ty56 (.blk (n := 4) (hs.mi 5 rfl) rfl)) rfl rfl rfl fun a hk => ?_
          have hL := okL.cons (hs.mi 3 rfl) (okL.cons (hs.mi 2 rfl) okL.nil)
          refine c_end (x_t (hK _ _ hL ?_))
          clear hK K
          have hL := okL.cons (hs.mi 3 rfl) (okL.cons (hs.mi 2 rfl) okL.nil)
          exact hJ127 _ _ ⟨hk.k rfl (hk.k rfl (hk.k rfl (hk.k rfl (hk.k rfl (hk.k rfl (hk.k rfl (hk.k rfl (hk.k rfl (hk.k rfl (hk.k rfl (hk.k rfl (hk.k rfl (hk.k rfl (hk.k rfl (hk.k rfl (hk.k rfl (hk.k rfl (hk.k rfl (hk.k rfl (hk.k rfl (hk.k rfl (hk.k rfl (hk.k rfl (hk.k rfl (hk.k rfl (hk.k rfl (hk.k rfl (hk.k rfl (hk.k rfl (hk.k rfl (hk.k rfl hk.nil))))))))))))))))))))))))))))))), hs, hL⟩
      · rintro a w ⟨hk, hs, hL⟩
        refine d_1 7 255 rfl (by kernel_rfl) fun K hK => ?_
        refine q_call (caps := []) hk rfl rfl Tryz.func120 fo120 rfl rfl (zmul_c (x := (Iv x n k16)) (y := (nz (x (n - 1 - k16)))) _ rfl (nz_ch _)) ?_
        rintro _ w ⟨rfl, hb⟩
        have hs := hs.below hb
        refine ⟨_, rfl, fun a hk => ?_⟩
        have hL := okL.cons (hs.mi 3 rfl) (okL.cons (hs.mi 2 rfl) okL.nil)
        refine c_end (x_t (hK _ _ hL ?_))
        clear hK K
        refine d_1 8 511 rfl (by kernel_rfl) fun K hK => ?_
        have hs := hs.up5
        refine q_sto (o := 0) (cs := [.int .u64 ((dg 0 (mq ((Iv x n k16) * (nz (x (n - 1 - k16))))) : Nat) : Int), .int .u64 ((dg 1 (mq ((Iv x n k16) * (nz (x (n - 1 - k16))))) : Nat) : Int), .int .u64 ((dg 2 (mq ((Iv x n k16) * (nz (x (n - 1 - k16))))) : Nat) : Int), .int .u64 ((dg 3 (mq ((Iv x n k16) * (nz (x (n - 1 - k16))))) : Nat) : Int)]) (vs' := [.int .u64 ((dg 0 (mq ((Iv x n k16) * (nz (x (n - 1 - k16))))) : Nat) : Int), .int .u64 ((dg 1 (mq ((Iv x n k16) * (nz (x (n - 1 - k16))))) : Nat) : Int), .int .u64 ((dg 2 (mq ((Iv x n k16) * (nz (x (n - 1 - k16))))) : Nat) : Int), .int .u64 ((dg 3 (mq ((Iv x n k16) * (nz (x (n - 1 - k16))))) : Nat) : Int)]) hk hs rfl rfl rfl ty56 rfl rfl rfl rfl rfl rfl fun w hs => ?_
        have hL := okL.cons (hs.mi 4 rfl) (okL.cons (hs.mi 3 rfl) okL.nil)
        refine c_end (x_t (hK _ _ hL ?_))
        clear hK K
        refine d_end (by kernel_rfl) ?_
        refine (x_b ?_)
        have hs := hs.up1
        have hs := hs.rw0 (congrArg (fun q => blk b2 q 56) (bat2_step hlt))
        have hs := hs.up3
        have hs := hs.drop
        have hs := hs.up5
        have hs := hs.up3
        have hs := hs.up3
        have hs := hs.up3
        have hs := hs.up5
        have hs := hs.up5
        exact ⟨_, rfl, Sat.pack (l := [_, _, _, _]) hs⟩
    · intro D16 r r16 a w hJ hK hk hs
      rw [dnP_len] at hJ hK
      obtain ⟨rfl⟩ := hJ
      have hs := Sat.unpack (l := [blk b1 (fieldL s) 120, blk b3 [.slice (some ⟨b2, 0, none⟩) n n] 51, blk b2 (en vq (fun i => bat2 x n n i) n) 56, blk b12 [.int .u64 ((dg 0 (mq (Iv x n n)) : Nat) : Int), .int .u64 ((dg 1 (mq (Iv x n n)) : Nat) : Int), .int .u64 ((dg 2 (mq (Iv x n n)) : Nat) : Int), .int .u64 ((dg 3 (mq (Iv x n n)) : Nat) : Int)] 56]) hs.up1
      have hT := hK
      rw [dnP_coef] at hT
      have hT : TapeIs t (((evs ++ upE 0 (n : Int) coefE) ++ inverseE) ++ downE (n : Int) coefE) r16 := hT
      have hs : Sat F0 W ((blk b1 (fieldL s) 120) :: (blk b3 [.slice (some ⟨b2, 0, none⟩) n n] 51) :: (blk b2 (en vq (fun i => bat2 x n n i) n) 56) :: (blk b12 [.int .u64 ((dg 0 (mq (Iv x n n)) : Nat) : Int), .int .u64 ((dg 1 (mq (Iv x n n)) : Nat) : Int), .int .u64 ((dg 2 (mq (Iv x n n)) : Nat) : Int), .int .u64 ((dg 3 (mq (Iv x n n)) : Nat) : Int)] 56) :: (dres D16) :: r16 :: (blk b4 [.int .u64 ((dg 0 (mq (Pp x n)) : Nat) : Int), .int .u64 ((dg 1 (mq (Pp x n)) : Nat) : Int), .int .u64 ((dg 2 (mq (Pp x n)) : Nat) : Int), .int .u64 ((dg 3 (mq (Pp x n)) : Nat) : Int)] 56) :: (dres D8) :: M) ((rall [blk b14 [.func (.func 169) #[] #[.pointer (some ⟨b13, 0, none⟩)]] 192, blk b15 [tval t] 60]) :: (rall [blk b13 [.slice la n lc] 51]) :: (rall [blk b6 [.func (.func 178) #[] #[.pointer (some ⟨b5, 0, none⟩)]] 192, blk b7 [tval t] 60]) :: (rall [blk b5 [.slice la n lc] 51]) :: R) w := hs
      refine (x_b (x_t ?_))
      refine wpIn_seq ?_
      refine wpIn_region_lit ?_
      refine q_val hk (w_ld1 rfl ty51 (.blk (n := 1) (hs.mi 1 rfl) rfl)) rfl rfl rfl fun a hk => ?_
      refine q_val hk (w_as rfl) rfl rfl rfl fun a hk => ?_
      refine (c_end (x_t ?_))
      refine (wpIn_ret ?_)
      have hs := hs.up6
      have hs := hs.up6
      have hs := hs.up5
      have hs := hs.up5
      have hs := hs.up5
      have hs := hs.up5
      have hs := hs.up7
      have hs := hs.up7
      refine c_retM (M := ((blk b1 (fieldL s) 120) :: (blk b3 [.slice (some ⟨b2, 0, none⟩) n n] 51) :: (blk b2 (en vq (fun i => bat2 x n n i) n) 56) :: (blk b12 [.int .u64 ((dg 0 (mq (Iv x n n)) : Nat) : Int), .int .u64 ((dg 1 (mq (Iv x n n)) : Nat) : Int), .int .u64 ((dg 2 (mq (Iv x n n)) : Nat) : Int), .int .u64 ((dg 3 (mq (Iv x n n)) : Nat) : Int)] 56) :: r16 :: (blk b4 [.int .u64 ((dg 0 (mq (Pp x n)) : Nat) : Int), .int .u64 ((dg 1 (mq (Pp x n)) : Nat) : Int), .int .u64 ((dg 2 (mq (Pp x n)) : Nat) : Int), .int .u64 ((dg 3 (mq (Pp x n)) : Nat) : Int)] 56) :: M)) hk hs fun w hs => ⟨_, res_ok (rs := [.tmp 6]) (vs := [.slice (some ⟨b2, 0, none⟩) n n]) hk rfl ⟨rfl, trivial⟩, ?_⟩
      have hs := hs.drop
      have hs := hs.drop
      have hs := hs.up1
      have hs := hs.drop
      have hs := hs.up2
      have hs := hs.drop
      have hs := hs.up1
      have hs := hs.toR (R' := R) (fun r hr => .of (by simp [hr]))
      rw [bat2_end] at hs
      exact ⟨_, _, rfl, by unfold batE; simpa only [List.append_assoc] using hT, hs⟩
    · rintro _ _ _ _ _ _ _ _ h; exact h.elim
  · rintro _ _ _ _ _ _ _ _ h; exact h.elim
end Go.Proofs.YtdnkkbmpefhbjaaGreatDoor
namespace Go.Proofs.YtdnkkbmpefhbjaaGreatDoor
set_option linter.all false
open Go Go.RowKit Alg
/-- Horner's rule, from the top, after k rounds. -/
def Hn {s : Bool} (c : Nat → Zp s) (n : Nat) (x : Zp s) : Nat → Zp s
  | 0 => 0
  | k + 1 => Hn c n x k * x + c (n - 1 - k)
/-- The quotient's elements after k rounds. -/
def quf {s : Bool} (c : Nat → Zp s) (n : Nat) (x : Zp s) (k j : Nat) : Nat := if n ≤ j + 1 + k then mq (Hn c n x (n - 1 - j)) else 0
section
variable {s : Bool} {c : Nat → Zp s} {x : Zp s} {n k : Nat}
theorem quf_zero : en vq (fun _ => 0) (n - 1) = en vq (quf c n x 0) (n - 1) := en_congr fun i hi => by unfold quf; rw [if_neg (by omega)]
theorem quf_step (hk : 0 < n - 1 - k) : en vq (fun i => if i = n - 1 - k - 1 then mq (Hn c n x (k + 1)) else quf c n x k i) (n - 1) = en vq (quf c n x (k + 1)) (n - 1) := en_congr fun i hi => by
  unfold quf
  by_cases h : i = n - 1 - k - 1
  · rw [if_pos h, if_pos (by omega), h, show n - 1 - (n - 1 - k - 1) = k + 1 by omega]
  · rw [if_neg h]
    by_cases l : n ≤ i + 1 + k
    · rw [if_pos l, if_pos (by omega)]
    · rw [if_neg l, if_neg (by omega)]
theorem quf_last (hk : n - 1 - k = 0) : en vq (quf c n x k) (n - 1) = en vq (quf c n x (k + 1)) (n - 1) := en_congr fun i hi => by
  unfold quf
  rw [if_pos (by omega), if_pos (by omega)]
theorem quf_end : en vq (quf c n x n) (n - 1) = en vq (fun i => mq (Hn c n x (n - 1 - i))) (n - 1) := en_congr fun i hi => by unfold quf; rw [if_pos (by omega)]
end
/-- One row of a product, and all. -/
def mrow {s : Bool} (a b : Nat → Zp s) (i : Nat) (f : Nat → Zp s) : Nat → Nat → Zp s
  | 0 => f
  | k + 1 => fun j => if j = i + k then mrow a b i f k j + a i * b k else mrow a b i f k j
def mall {s : Bool} (a b : Nat → Zp s) (nb : Nat) : Nat → Nat → Zp s
  | 0 => fun _ => 0
  | i + 1 => mrow a b i (mall a b nb i) nb
theorem mall_zero {s : Bool} {a b : Nat → Zp s} {nb n : Nat} : en vq (fun _ => 0) n = en vq (fun j => mq (mall a b nb 0 j)) n := en_congr fun i _ => by show 0 = mq (0 : Zp s); rw [mq_zero]
theorem mrow_step {s : Bool} {a b : Nat → Zp s} {i k n : Nat} {f : Nat → Zp s} : en vq (fun j => if j = i + k then mq (mrow a b i f k (i + k) + a i * b k) else mq (mrow a b i f k j)) n = en vq (fun j => mq (mrow a b i f (k + 1) j)) n := en_congr fun j _ => by
  show _ = mq (if j = i + k then _ else _)
  by_cases h : j = i + k
  · rw [if_pos h, if_pos h, h]
  · rw [if_neg h, if_neg h]
theorem quot_m {F0 : Nat → Prop} {W : World} {M R : List Res} (s : Bool) (n lc : Nat) (la : Option Addr) (c : Nat → Zp s) (x : Zp s) (t : Option Nat) (evs : List Ev) (r : Res) (w0 : World) (hs : Sat F0 W (r :: M) R w0) (hT : TapeIs t evs r) (hL : HasR (lst 4 (.slice la n lc) n (en vq (fun i => mq (c i)) n)) R) (h0 : 0 < n) (hn9 : n ≤ 1000000) (hn : evs.length ≤ 1000000000) : Calls Tryz.prog 119 [tval t, fieldV s, .slice la n lc, vec (mq x)].toArray w0 fun e w => ∃ b r, e = .returned (.tuple #[.slice (some ⟨b, 0, none⟩) (n - 1) (n - 1), vec (mq (Hn c n x n))]) ∧ TapeIs t (evs ++ downE n coefE) r ∧ Sat F0 W (r :: blk b (en vq (fun i => mq (Hn c n x (n - 1 - i))) (n - 1)) 56 :: M) R w := by
  refine c_enterM (args := [tval t, fieldV s, .slice la n lc, vec (mq x)]) Tryz.func119 rfl rfl rfl fun a hk => ?_
  refine wpIn_seq ?_
  refine wpIn_region_lit ?_
  refine q_box (vs := fieldL s) hk hs rfl rfl rfl rfl fun b1 w a hk hs => ?_
  refine q_box (vs := [.int .u64 ((dg 0 (mq x) : Nat) : Int), .int .u64 ((dg 1 (mq x) : Nat) : Int), .int .u64 ((dg 2 (mq x) : Nat) : Int), .int .u64 ((dg 3 (mq x) : Nat) : Int)]) hk hs rfl rfl rfl rfl fun b2 w a hk hs => ?_
  refine q_val hk (w_as rfl) rfl rfl rfl fun a hk => ?_
  refine q_alc (vs := [.int .u64 0, .int .u64 0, .int .u64 0, .int .u64 0]) hk hs zr56 rfl rfl rfl fun b3 w a hk hs => ?_
  refine (c_end (x_t ?_))
  refine wpIn_seq ?_
  refine wpIn_region_lit ?_
  refine q_val hk (w_mv rfl) rfl rfl rfl fun a hk => ?_
  refine q_val hk (w_len rfl Tryz.underlying51) rfl rfl rfl fun a hk => ?_
  refine q_val hk (w_sub rfl rfl (wr64 (by omega) (by omega))) rfl rfl rfl fun a hk => ?_
  refine q_val hk (w_max (r := ((n - 1 : Nat) : Int)) rfl rfl (by omega)) rfl rfl rfl fun a hk => ?_
  refine q_mks (k := n - 1) (cs := vq 0) hk hs rfl rfl Tryz.underlying51 ty56 zr56 (by kernel_rfl) rfl rfl rfl rfl (by omega) (by omega) rfl rfl fun b4 w a hk hs => ?_
  have hs := hs.rw0 (show _ = blk b4 (en vq (fun _ => 0) (n - 1)) 56 from rfl)
  refine q_alc (vs := [.slice none 0 0]) hk hs zr51 rfl rfl rfl fun b5 w a hk hs => ?_
  refine q_sto (o := 0) (cs := [.slice (some ⟨b4, 0, none⟩) (n - 1) (n - 1)]) (vs' := [.slice (some ⟨b4, 0, none⟩) (n - 1) (n - 1)]) hk hs rfl rfl rfl ty51 rfl rfl rfl rfl rfl rfl fun w hs => ?_
  refine (c_end (x_t ?_))
  refine wpIn_seq ?_
  refine wpIn_region_lit ?_
  refine q_alc (vs := [.int .u64 0, .int .u64 0, .int .u64 0, .int .u64 0]) hk hs zr56 rfl rfl rfl fun b6 w a hk hs => ?_
  refine (c_end (x_t ?_))
  refine wpIn_seq ?_
  refine wpIn_seq ?_
  refine wpIn_region_lit ?_
  refine q_val hk (w_mv rfl) rfl rfl rfl fun a hk => ?_
  refine q_val hk (w_mv rfl) rfl rfl rfl fun a hk => ?_
  refine q_call (caps := []) hk rfl rfl Tryz.func148 fo148 rfl rfl (back_c n lc la _) ?_
  rintro _ w ⟨b7, rfl, hS⟩
  have hs := hs.call1 hS
  clear hS
  refine ⟨_, rfl, fun a hk => ?_⟩
  refine q_call (caps := []) hk rfl rfl Tryz.func147 fo147 rfl rfl (pvis_c t (169, [.pointer (some ⟨b7, 0, none⟩)]) _) ?_
  rintro _ w ⟨b8, b9, rfl, hS⟩
  have hs := hs.call2 hS
  clear hS
  refine ⟨_, rfl, fun a hk => ?_⟩
  refine (c_end (x_t ?_))
  refine wpIn_block ?_
  have hs := hs.up2
  have hs := Sat.frzL (l := [blk b7 [.slice la n lc] 51]) hs
  have hs := hs.up1
  have hs := hs.up1
  have hs := Sat.frzL (l := [blk b8 [.func (.func 169) #[] #[.pointer (some ⟨b7, 0, none⟩)]] 192, blk b9 [tval t] 60]) hs
  have hs := hs.up2
  have hs := hs.rw0 (congrArg (fun q => blk b4 q 56) (quf_zero (c := c) (x := x)))
  have hs := hs.up1
  have hs := hs.rw0 (show blk b6 [.int .u64 0, .int .u64 0, .int .u64 0, .int .u64 0] 56 = blk b6 [.int .u64 ((dg 0 0 : Nat) : Int), .int .u64 ((dg 1 0 : Nat) : Int), .int .u64 ((dg 2 0 : Nat) : Int), .int .u64 ((dg 3 0 : Nat) : Int)] 56 from rfl)
  have hs := hs.rw0 (show _ = blk b6 (vq (mq (Hn c n x 0))) 56 from by show blk b6 (vq 0) 56 = blk b6 (vq (mq 0)) 56; rw [mq_zero])
  have hk : Kn [] 41 [(22, .func (.func 168) #[] #[.pointer (some ⟨b8, 0, none⟩), .pointer (some ⟨b9, 0, none⟩)]), (11, .pointer (some ⟨b6, 0, none⟩)), (10, .pointer (some ⟨b5, 0, none⟩)), (9, .pointer (some ⟨b3, 0, none⟩)), (8, .slice none 0 0), (7, .pointer (some ⟨b2, 0, none⟩)), (5, .pointer (some ⟨b1, 0, none⟩))] a := hk.k rfl (hk.k rfl (hk.k rfl (hk.k rfl (hk.k rfl (hk.k rfl (hk.k rfl hk.nil))))))
  have hs := hs.up6
  have hs := hs.up1
  have hs := hs.up2
  have hs := hs.up3
  have hs := hs.up5
  have hs := hs.up6
  have hs := Sat.pack (l := [blk b1 (fieldL s) 120, blk b2 [.int .u64 ((dg 0 (mq x) : Nat) : Int), .int .u64 ((dg 1 (mq x) : Nat) : Int), .int .u64 ((dg 2 (mq x) : Nat) : Int), .int .u64 ((dg 3 (mq x) : Nat) : Int)] 56, blk b5 [.slice (some ⟨b4, 0, none⟩) (n - 1) (n - 1)] 51, blk b4 (en vq (fun i => quf c n x 0 i) (n - 1)) 56, blk b6 [.int .u64 ((dg 0 (mq (Hn c n x 0)) : Nat) : Int), .int .u64 ((dg 1 (mq (Hn c n x 0)) : Nat) : Int), .int .u64 ((dg 2 (mq (Hn c n x 0)) : Nat) : Int), .int .u64 ((dg 3 (mq (Hn c n x 0)) : Nat) : Int)] 56]) hs
  refine c_range0 hk hs rfl (⟨_, _, _, rfl, Tryz.func168, fo168, pvis_it t evs (169, [.pointer (some ⟨b7, 0, none⟩)]) (dnP n (fun i => mq (c i))) (rall [blk b7 [.slice la n lc] 51, lst 4 (.slice la n lc) n (en vq (fun i => mq (c i)) n)]) b8 b9 ⟨_, _, _, rfl, Tryz.func169, fo169, back_it b7 n lc la (fun i => mq (c i)) (by omega)⟩ (by rw [dnP_len]; (try simp only [List.length_append, coefU_len, List.append_assoc]); have hI := inverse_len; omega)⟩) (.rall fun q hq => by simp only [List.mem_cons, List.not_mem_nil, or_false] at hq; rcases hq with rfl | rfl | rfl <;> first | exact (HasR.nth 0 rfl).pi 0 rfl | exact (HasR.nth 0 rfl).pi 1 rfl | exact HasR.two ((HasR.nth 1 rfl).pi 0 rfl) (hL.cons.cons)) (fun _ => rfl) rfl (fun k r => r = bun [blk b1 (fieldL s) 120, blk b2 [.int .u64 ((dg 0 (mq x) : Nat) : Int), .int .u64 ((dg 1 (mq x) : Nat) : Int), .int .u64 ((dg 2 (mq x) : Nat) : Int), .int .u64 ((dg 3 (mq x) : Nat) : Int)] 56, blk b5 [.slice (some ⟨b4, 0, none⟩) (n - 1) (n - 1)] 51, blk b4 (en vq (fun i => quf c n x k i) (n - 1)) 56, blk b6 [.int .u64 ((dg 0 (mq (Hn c n x k)) : Nat) : Int), .int .u64 ((dg 1 (mq (Hn c n x k)) : Nat) : Int), .int .u64 ((dg 2 (mq (Hn c n x k)) : Nat) : Int), .int .u64 ((dg 3 (mq (Hn c n x k)) : Nat) : Int)] 56]) (fun c k r => False) rfl (by rw [List.take_zero, List.map_nil, List.append_nil]; exact hT) ?_ ?_ ?_
  · rintro l10 k10 x10 hx10 LR10 LB10 FR10 hL10 r a w ⟨rfl⟩ hk hs
    obtain ⟨hlt, rfl⟩ := dnP_some hx10
    have hk : Kn [] 41 [(24, vec (mq (c (n - 1 - k10)))), (23, .int .i64 ((n - 1 - k10 : Nat) : Int)), (22, .func (.func 168) #[] #[.pointer (some ⟨b8, 0, none⟩), .pointer (some ⟨b9, 0, none⟩)]), (11, .pointer (some ⟨b6, 0, none⟩)), (10, .pointer (some ⟨b5, 0, none⟩)), (9, .pointer (some ⟨b3, 0, none⟩)), (8, .slice none 0 0), (7, .pointer (some ⟨b2, 0, none⟩)), (5, .pointer (some ⟨b1, 0, none⟩))] a := hk
    have hs : Sat F0 W [blk b1 (fieldL s) 120, blk b2 [.int .u64 ((dg 0 (mq x) : Nat) : Int), .int .u64 ((dg 1 (mq x) : Nat) : Int), .int .u64 ((dg 2 (mq x) : Nat) : Int), .int .u64 ((dg 3 (mq x) : Nat) : Int)] 56, blk b5 [.slice (some ⟨b4, 0, none⟩) (n - 1) (n - 1)] 51, blk b4 (en vq (fun i => quf c n x k10 i) (n - 1)) 56, blk b6 [.int .u64 ((dg 0 (mq (Hn c n x k10)) : Nat) : Int), .int .u64 ((dg 1 (mq (Hn c n x k10)) : Nat) : Int), .int .u64 ((dg 2 (mq (Hn c n x k10)) : Nat) : Int), .int .u64 ((dg 3 (mq (Hn c n x k10)) : Nat) : Int)] 56, LR10, FR10] ((rall [blk b8 [.func (.func 169) #[] #[.pointer (some ⟨b7, 0, none⟩)]] 192, blk b9 [tval t] 60]) :: (rall [blk b7 [.slice la n lc] 51]) :: R) w := hs.unpack
    refine wpIn_seq ?_
    refine wpIn_region_lit ?_
    refine q_val hk (w_as rfl) rfl rfl rfl fun a hk => ?_
    refine (c_end (x_t ?_))
    refine wpIn_region_lit ?_
    refine q_alc (vs := [.int .u64 0, .int .u64 0, .int .u64 0, .int .u64 0]) hk hs zr56 rfl rfl rfl fun b11 w a hk hs => ?_
    refine q_sto (o := 0) (cs := [.int .u64 ((dg 0 (mq (c (n - 1 - k10))) : Nat) : Int), .int .u64 ((dg 1 (mq (c (n - 1 - k10))) : Nat) : Int), .int .u64 ((dg 2 (mq (c (n - 1 - k10))) : Nat) : Int), .int .u64 ((dg 3 (mq (c (n - 1 - k10))) : Nat) : Int)]) (vs' := [.int .u64 ((dg 0 (mq (c (n - 1 - k10))) : Nat) : Int), .int .u64 ((dg 1 (mq (c (n - 1 - k10))) : Nat) : Int), .int .u64 ((dg 2 (mq (c (n - 1 - k10))) : Nat) : Int), .int .u64 ((dg 3 (mq (c (n - 1 - k10))) : Nat) : Int)]) hk hs rfl rfl rfl ty56 rfl rfl rfl rfl rfl rfl fun w hs => ?_
    refine (c_end (x_t ?_))
    have hs := hs.up6
    refine hL10.begin_ hs fun w hs => ?_
    refine wpIn_block ?_
    refine wpIn_seq ?_
    have hL := okL.cons (hs.mi 2 rfl) (okL.cons (hs.mi 3 rfl) (okL.cons (hs.mi 1 rfl) okL.nil))
    refine d_begin _ 8 (by kernel_rfl) rfl hs hL fun w hs hL => ?_
    refine d_v 0 1 hk hL rfl (by kernel_rfl) rfl rfl (fun w hL => w_ldA rfl ty120 (.blk (n := 14) (hL.at 0 rfl) rfl) rfl) fun a hk => ?_
    refine d_v 1 3 hk hL rfl (by kernel_rfl) rfl rfl (fun w hL => w_ldA rfl ty120 (.blk (n := 14) (hL.at 0 rfl) rfl) rfl) fun a hk => ?_
    refine d_v 3 11 hk hL rfl (by kernel_rfl) rfl rfl (fun w hL => w_ldv (z := mq x) rfl ty56 (.blk (n := 4) (hL.at 1 rfl) rfl)) fun a hk => ?_
    refine d_v 5 43 hk hL rfl (by kernel_rfl) rfl rfl (fun w hL => w_ldv (z := mq (c (n - 1 - k10))) rfl ty56 (.blk (n := 4) (hL.at 2 rfl) rfl)) fun a hk => ?_
    refine d_1 2 47 rfl (by kernel_rfl) fun K hK => ?_
    refine q_val hk (w_ldv (z := mq (Hn c n x k10)) rfl ty56 (.blk (n := 4) (hs.mi 6 rfl) rfl)) rfl rfl rfl fun a hk => ?_
    have hL := okL.cons (hs.mi 2 rfl) (okL.cons (hs.mi 3 rfl) (okL.cons (hs.mi 1 rfl) okL.nil))
    refine c_end (x_t (hK _ _ hL ?_))
    clear hK K
    refine d_1 4 63 rfl (by kernel_rfl) fun K hK => ?_
    refine q_call (caps := []) hk rfl rfl Tryz.func120 fo120 rfl rfl (zmul_c (x := (Hn c n x k10)) (y := x) _ rfl rfl) ?_
    rintro _ w ⟨rfl, hb⟩
    have hs := hs.below hb
    refine ⟨_, rfl, fun a hk => ?_⟩
    have hL := okL.cons (hs.mi 2 rfl) (okL.cons (hs.mi 3 rfl) (okL.cons (hs.mi 1 rfl) okL.nil))
    refine c_end (x_t (hK _ _ hL ?_))
    clear hK K
    refine d_1 6 127 rfl (by kernel_rfl) fun K hK => ?_
    refine q_call (caps := []) hk rfl rfl Tryz.func121 fo121 rfl rfl (zadd_c (x := ((Hn c n x k10) * x)) (y := (c (n - 1 - k10))) _ rfl rfl) ?_
    rintro _ w ⟨rfl, hb⟩
    have hs := hs.below hb
    refine ⟨_, rfl, fun a hk => ?_⟩
    have hL := okL.cons (hs.mi 2 rfl) (okL.cons (hs.mi 3 rfl) (okL.cons (hs.mi 1 rfl) okL.nil))
    refine c_end (x_t (hK _ _ hL ?_))
    clear hK K
    refine d_1 7 255 rfl (by kernel_rfl) fun K hK => ?_
    have hs := hs.up6
    refine q_sto (o := 0) (cs := [.int .u64 ((dg 0 (mq (((Hn c n x k10) * x) + (c (n - 1 - k10)))) : Nat) : Int), .int .u64 ((dg 1 (mq (((Hn c n x k10) * x) + (c (n - 1 - k10)))) : Nat) : Int), .int .u64 ((dg 2 (mq (((Hn c n x k10) * x) + (c (n - 1 - k10)))) : Nat) : Int), .int .u64 ((dg 3 (mq (((Hn c n x k10) * x) + (c (n - 1 - k10)))) : Nat) : Int)]) (vs' := [.int .u64 ((dg 0 (mq (((Hn c n x k10) * x) + (c (n - 1 - k10)))) : Nat) : Int), .int .u64 ((dg 1 (mq (((Hn c n x k10) * x) + (c (n - 1 - k10)))) : Nat) : Int), .int .u64 ((dg 2 (mq (((Hn c n x k10) * x) + (c (n - 1 - k10)))) : Nat) : Int), .int .u64 ((dg 3 (mq (((Hn c n x k10) * x) + (c (n - 1 - k10)))) : Nat) : Int)]) hk hs rfl rfl rfl ty56 rfl rfl rfl rfl rfl rfl fun w hs => ?_
    have hL := okL.cons (hs.mi 3 rfl) (okL.cons (hs.mi 4 rfl) (okL.cons (hs.mi 2 rfl) okL.nil))
    refine c_end (x_t (hK _ _ hL ?_))
    clear hK K
    refine d_end (by kernel_rfl) ?_
    refine (x_t ?_)
    refine wpIn_seq ?_
    refine wpIn_region_lit ?_
    refine q_val hk (w_mv rfl) rfl rfl rfl fun a hk => ?_
    rcases Classical.em (0 < ((n - 1 - k10 : Nat) : Int)) with hc12 | hc12
    · skip
      refine q_val hk (w_gt rfl rfl (decide_eq_true hc12)) rfl rfl rfl fun a hk => ?_
      refine (c_end (x_t ?_))
      refine c_T hk rfl ?_
      refine wpIn_region_lit ?_
      refine q_val hk (w_ld1 rfl ty51 (.blk (n := 1) (hs.mi 5 rfl) rfl)) rfl rfl rfl fun a hk => ?_
      refine q_val hk (w_mv rfl) rfl rfl rfl fun a hk => ?_
      refine q_val hk (w_sub rfl rfl (wr64 (by omega) (by omega))) rfl rfl rfl fun a hk => ?_
      refine q_val hk (w_ldv (z := mq (((Hn c n x k10) * x) + (c (n - 1 - k10)))) rfl ty56 (.blk (n := 4) (hs.mi 0 rfl) rfl)) rfl rfl rfl fun a hk => ?_
      refine q_val hk (w_iaL (k := (n - 1 - k10 - 1)) rfl rfl Tryz.underlying51 ty56 (blk_lst (hs.mi 6 rfl) (en_len vq_len) (Nat.le_refl _)) (by omega) (by omega)) rfl rfl rfl fun a hk => ?_
      have hs := hs.up6
      refine q_stoE (c := vq) (xx := (mq (((Hn c n x k10) * x) + (c (n - 1 - k10))))) (k := (n - 1 - k10 - 1)) hk hs rfl rfl rfl ty56 rfl vq_len rfl (by omega) rfl fun w hs => ?_
      refine (c_end (x_b ?_))
      have hs := hs.rw0 (congrArg (fun q => blk b4 q 56) (quf_step (by omega)))
      have hs := hs.up3
      have hs := hs.drop
      have hs := hs.up6
      have hs := hs.up3
      have hs := hs.up3
      have hs := hs.up3
      have hs := hs.up6
      have hs := hs.up6
      have hs := hs.up6
      exact ⟨_, rfl, Sat.pack (l := [_, _, _, _, _]) hs⟩
    · skip
      refine q_val hk (w_gt rfl rfl (decide_eq_false hc12)) rfl rfl rfl fun a hk => ?_
      refine (c_end (x_t ?_))
      refine c_F hk rfl ?_
      refine (wpIn_skip (x_b ?_))
      have hs := hs.up6
      have hs := hs.rw0 (congrArg (fun q => blk b4 q 56) (quf_last (by omega)))
      have hs := hs.up3
      have hs := hs.drop
      have hs := hs.up6
      have hs := hs.up3
      have hs := hs.up3
      have hs := hs.up3
      have hs := hs.up6
      have hs := hs.up6
      have hs := hs.up6
      exact ⟨_, rfl, Sat.pack (l := [_, _, _, _, _]) hs⟩
  · intro D10 r r10 a w hJ hK hk hs
    rw [dnP_len] at hJ hK
    obtain ⟨rfl⟩ := hJ
    have hs := Sat.unpack (l := [blk b1 (fieldL s) 120, blk b2 [.int .u64 ((dg 0 (mq x) : Nat) : Int), .int .u64 ((dg 1 (mq x) : Nat) : Int), .int .u64 ((dg 2 (mq x) : Nat) : Int), .int .u64 ((dg 3 (mq x) : Nat) : Int)] 56, blk b5 [.slice (some ⟨b4, 0, none⟩) (n - 1) (n - 1)] 51, blk b4 (en vq (fun i => quf c n x n i) (n - 1)) 56, blk b6 [.int .u64 ((dg 0 (mq (Hn c n x n)) : Nat) : Int), .int .u64 ((dg 1 (mq (Hn c n x n)) : Nat) : Int), .int .u64 ((dg 2 (mq (Hn c n x n)) : Nat) : Int), .int .u64 ((dg 3 (mq (Hn c n x n)) : Nat) : Int)] 56]) hs.up1
    have hT := hK
    rw [dnP_coef] at hT
    have hT : TapeIs t (evs ++ downE (n : Int) coefE) r10 := hT
    have hs : Sat F0 W ((blk b1 (fieldL s) 120) :: (blk b2 [.int .u64 ((dg 0 (mq x) : Nat) : Int), .int .u64 ((dg 1 (mq x) : Nat) : Int), .int .u64 ((dg 2 (mq x) : Nat) : Int), .int .u64 ((dg 3 (mq x) : Nat) : Int)] 56) :: (blk b5 [.slice (some ⟨b4, 0, none⟩) (n - 1) (n - 1)] 51) :: (blk b4 (en vq (fun i => quf c n x n i) (n - 1)) 56) :: (blk b6 [.int .u64 ((dg 0 (mq (Hn c n x n)) : Nat) : Int), .int .u64 ((dg 1 (mq (Hn c n x n)) : Nat) : Int), .int .u64 ((dg 2 (mq (Hn c n x n)) : Nat) : Int), .int .u64 ((dg 3 (mq (Hn c n x n)) : Nat) : Int)] 56) :: (dres D10) :: r10 :: (blk b3 [.int .u64 0, .int .u64 0, .int .u64 0, .int .u64 0] 56) :: M) ((rall [blk b8 [.func (.func 169) #[] #[.pointer (some ⟨b7, 0, none⟩)]] 192, blk b9 [tval t] 60]) :: (rall [blk b7 [.slice la n lc] 51]) :: R) w := hs
    refine (x_b (x_t ?_))
    refine wpIn_seq ?_
    have hL := okL.cons (hs.mi 2 rfl) (okL.cons (hs.mi 4 rfl) okL.nil)
    refine d_begin _ 4 (by kernel_rfl) rfl hs hL fun w hs hL => ?_
    refine d_v 0 1 hk hL rfl (by kernel_rfl) rfl rfl (fun w hL => w_ld1 rfl ty51 (.blk (n := 1) (hL.at 0 rfl) rfl)) fun a hk => ?_
    refine d_v 1 3 hk hL rfl (by kernel_rfl) rfl rfl (fun w hL => w_ldv (z := mq (Hn c n x n)) rfl ty56 (.blk (n := 4) (hL.at 1 rfl) rfl)) fun a hk => ?_
    refine d_v 2 7 hk hL rfl (by kernel_rfl) rfl rfl (fun w hL => w_as rfl) fun a hk => ?_
    refine d_1 3 15 rfl (by kernel_rfl) fun K hK => ?_
    have hs := hs.up7
    refine q_sto (o := 0) (cs := [.int .u64 ((dg 0 (mq (Hn c n x n)) : Nat) : Int), .int .u64 ((dg 1 (mq (Hn c n x n)) : Nat) : Int), .int .u64 ((dg 2 (mq (Hn c n x n)) : Nat) : Int), .int .u64 ((dg 3 (mq (Hn c n x n)) : Nat) : Int)]) (vs' := [.int .u64 ((dg 0 (mq (Hn c n x n)) : Nat) : Int), .int .u64 ((dg 1 (mq (Hn c n x n)) : Nat) : Int), .int .u64 ((dg 2 (mq (Hn c n x n)) : Nat) : Int), .int .u64 ((dg 3 (mq (Hn c n x n)) : Nat) : Int)]) hk hs rfl rfl rfl ty56 rfl rfl rfl rfl rfl rfl fun w hs => ?_
    have hL := okL.cons (hs.mi 3 rfl) (okL.cons (hs.mi 5 rfl) okL.nil)
    refine c_end (x_t (hK _ _ hL ?_))
    clear hK K
    refine d_end (by kernel_rfl) ?_
    refine (x_t ?_)
    refine (wpIn_ret ?_)
    have hs := hs.up7
    have hs := hs.up6
    have hs := hs.up6
    have hs := hs.up6
    have hs := hs.up6
    have hs := hs.up6
    have hs := hs.up6
    have hs := hs.up7
    refine c_retM (M := ((blk b3 [.int .u64 ((dg 0 (mq (Hn c n x n)) : Nat) : Int), .int .u64 ((dg 1 (mq (Hn c n x n)) : Nat) : Int), .int .u64 ((dg 2 (mq (Hn c n x n)) : Nat) : Int), .int .u64 ((dg 3 (mq (Hn c n x n)) : Nat) : Int)] 56) :: (blk b1 (fieldL s) 120) :: (blk b2 [.int .u64 ((dg 0 (mq x) : Nat) : Int), .int .u64 ((dg 1 (mq x) : Nat) : Int), .int .u64 ((dg 2 (mq x) : Nat) : Int), .int .u64 ((dg 3 (mq x) : Nat) : Int)] 56) :: (blk b5 [.slice (some ⟨b4, 0, none⟩) (n - 1) (n - 1)] 51) :: (blk b4 (en vq (fun i => quf c n x n i) (n - 1)) 56) :: (blk b6 [.int .u64 ((dg 0 (mq (Hn c n x n)) : Nat) : Int), .int .u64 ((dg 1 (mq (Hn c n x n)) : Nat) : Int), .int .u64 ((dg 2 (mq (Hn c n x n)) : Nat) : Int), .int .u64 ((dg 3 (mq (Hn c n x n)) : Nat) : Int)] 56) :: r10 :: M)) hk hs fun w hs => ⟨_, res_ok (rs := [.tmp 8, .cell 9 56]) (vs := [.slice (some ⟨b4, 0, none⟩) (n - 1) (n - 1), vec (mq (Hn c n x n))]) hk rfl ⟨rfl, ⟨_, rfl, lv_A ty56 (.blk (n := 4) (hs.mi 0 rfl) rfl) rfl⟩, trivial⟩, ?_⟩
    have hs := hs.drop
    have hs := hs.drop
    have hs := hs.drop
    have hs := hs.drop
    have hs := hs.up1
    have hs := hs.drop
    have hs := hs.up1
    have hs := hs.toR (R' := R) (fun r hr => .of (by simp [hr]))
    rw [quf_end] at hs
    exact ⟨_, _, rfl, hT, hs⟩
  · rintro _ _ _ _ _ _ _ _ h; exact h.elim
theorem mul_m {F0 : Nat → Prop} {W : World} {M R : List Res} (s : Bool) (na ca nb cb : Nat) (aa ab : Option Addr) (pa pb : Nat → Zp s) (w0 : World) (hs : Sat F0 W M ((lst 4 (.slice aa na ca) na (en vq (fun i => mq (pa i)) na)) :: (lst 4 (.slice ab nb cb) nb (en vq (fun i => mq (pb i)) nb)) :: R) w0) (h0 : 0 < na) (h1 : 0 < nb) (hn9 : na ≤ 1000000) (hn8 : nb ≤ 1000000) : Calls Tryz.prog 145 [.pointer none, fieldV s, .slice aa na ca, .slice ab nb cb].toArray w0 fun e w => ∃ o, e = .returned (.slice (some ⟨o, 0, none⟩) (na + nb - 1) (na + nb - 1)) ∧ Sat F0 W (blk o (en vq (fun j => mq (mall pa pb nb na j)) (na + nb - 1)) 56 :: M) R w := by
  refine c_enter (args := [.pointer none, fieldV s, .slice aa na ca, .slice ab nb cb]) Tryz.func145 rfl rfl rfl fun a hk => ?_
  refine wpIn_seq ?_
  refine wpIn_region_lit ?_
  refine q_box (vs := fieldL s) hk hs rfl rfl rfl rfl fun b1 w a hk hs => ?_
  refine q_val hk (w_as rfl) rfl rfl rfl fun a hk => ?_
  refine (c_end (x_t ?_))
  refine wpIn_seq ?_
  refine wpIn_seq ?_
  refine wpIn_region_lit ?_
  refine q_val hk (w_mv rfl) rfl rfl rfl fun a hk => ?_
  refine q_val hk (w_len rfl Tryz.underlying51) rfl rfl rfl fun a hk => ?_
  refine q_val hk (w_eq rfl rfl (decide_eq_false (by omega))) rfl rfl rfl fun a hk => ?_
  refine q_val hk (w_mv rfl) rfl rfl rfl fun a hk => ?_
  refine q_val hk (w_mv rfl) rfl rfl rfl fun a hk => ?_
  refine q_val hk (w_len rfl Tryz.underlying51) rfl rfl rfl fun a hk => ?_
  refine q_val hk (w_eq rfl rfl (decide_eq_false (by omega))) rfl rfl rfl fun a hk => ?_
  refine q_val hk (w_pickF rfl rfl) rfl rfl rfl fun a hk => ?_
  refine (c_end (x_t ?_))
  refine c_F hk rfl ?_
  refine (wpIn_skip (x_t ?_))
  refine wpIn_seq ?_
  refine wpIn_region_lit ?_
  refine q_val hk (w_mv rfl) rfl rfl rfl fun a hk => ?_
  refine q_val hk (w_len rfl Tryz.underlying51) rfl rfl rfl fun a hk => ?_
  refine q_val hk (w_mv rfl) rfl rfl rfl fun a hk => ?_
  refine q_val hk (w_len rfl Tryz.underlying51) rfl rfl rfl fun a hk => ?_
  refine q_val hk (w_add rfl rfl (wr64 (by omega) (by omega))) rfl rfl rfl fun a hk => ?_
  refine q_val hk (w_sub (r := ((na + nb - 1 : Nat) : Int)) rfl rfl (by rw [wr64 (by omega) (by omega)]; omega)) rfl rfl rfl fun a hk => ?_
  refine q_mks (k := na + nb - 1) (cs := vq 0) hk hs rfl rfl Tryz.underlying51 ty56 zr56 (by kernel_rfl) rfl rfl rfl rfl (by omega) (by omega) rfl rfl fun b2 w a hk hs => ?_
  have hs := hs.rw0 (show _ = blk b2 (en vq (fun _ => 0) (na + nb - 1)) 56 from rfl)
  refine q_val hk (w_as rfl) rfl rfl rfl fun a hk => ?_
  refine (c_end (x_t ?_))
  refine wpIn_seq ?_
  refine wpIn_seq ?_
  refine wpIn_region_lit ?_
  refine q_val hk (w_mv rfl) rfl rfl rfl fun a hk => ?_
  refine q_val hk (w_len rfl Tryz.underlying51) rfl rfl rfl fun a hk => ?_
  refine q_val hk (w_mv rfl) rfl rfl rfl fun a hk => ?_
  refine (c_end (x_t ?_))
  refine wpIn_block ?_
  have hs := hs.rw0 (congrArg (fun q => blk b2 q 56) (mall_zero (a := pa) (b := pb) (nb := nb)))
  refine c_loop (α := Nat) (fun u a w => u ≤ na ∧ Kn [] 67 [(31, .int .i64 ((u : Nat) : Int)), (30, .int .i64 ((na : Nat) : Int)), (29, .slice aa na ca), (9, .slice (some ⟨b2, 0, none⟩) (na + nb - 1) (na + nb - 1)), (8, .slice none 0 0), (5, .pointer (some ⟨b1, 0, none⟩)), (0, .pointer none), (3, .slice ab nb cb)] a ∧ Sat F0 W ((blk b2 (en vq (fun i => mq (mall pa pb nb u i)) (na + nb - 1)) 56) :: (blk b1 (fieldL s) 120) :: M) ((lst 4 (.slice aa na ca) na (en vq (fun i => mq (pa i)) na)) :: (lst 4 (.slice ab nb cb) nb (en vq (fun i => mq (pb i)) nb)) :: R) w) (fun u => na - u) 0 ?_ ?_
  · exact ⟨(by omega), hk.k rfl (hk.k rfl (hk.k rfl (hk.k rfl (hk.k rfl (hk.k rfl (hk.k rfl (hk.k rfl hk.nil))))))), hs⟩
  rintro u a w ⟨hf0, hk, hs⟩
  refine wpIn_seq ?_
  refine wpIn_region_lit ?_
  rcases Classical.em (((u : Nat) : Int) < ((na : Nat) : Int)) with hc3 | hc3
  · skip
    refine q_val hk (w_lt rfl rfl (decide_eq_true hc3)) rfl rfl rfl fun a hk => ?_
    refine (c_end (x_t ?_))
    refine wpIn_seq ?_
    refine c_T hk rfl ?_
    refine (wpIn_skip (x_t ?_))
    refine wpIn_seq ?_
    refine wpIn_block ?_
    refine wpIn_seq ?_
    refine wpIn_region_lit ?_
    refine q_val hk (w_mv rfl) rfl rfl rfl fun a hk => ?_
    refine q_val hk (w_iaL (k := u) rfl rfl Tryz.underlying51 ty56 (hs.ri 0 rfl) (by omega) (by omega)) rfl rfl rfl fun a hk => ?_
    refine q_val hk (w_ldv (z := mq (pa u)) rfl ty56 (lstq (k := u) (hs.ri 0 rfl) (by omega) (en_chunk vq_len (by omega)))) rfl rfl rfl fun a hk => ?_
    refine q_alc (vs := [.int .u64 0, .int .u64 0, .int .u64 0, .int .u64 0]) hk hs zr56 rfl rfl rfl fun b4 w a hk hs => ?_
    refine q_val hk (w_as rfl) rfl rfl rfl fun a hk => ?_
    refine q_sto (o := 0) (cs := [.int .u64 ((dg 0 (mq (pa u)) : Nat) : Int), .int .u64 ((dg 1 (mq (pa u)) : Nat) : Int), .int .u64 ((dg 2 (mq (pa u)) : Nat) : Int), .int .u64 ((dg 3 (mq (pa u)) : Nat) : Int)]) (vs' := [.int .u64 ((dg 0 (mq (pa u)) : Nat) : Int), .int .u64 ((dg 1 (mq (pa u)) : Nat) : Int), .int .u64 ((dg 2 (mq (pa u)) : Nat) : Int), .int .u64 ((dg 3 (mq (pa u)) : Nat) : Int)]) hk hs rfl rfl rfl ty56 rfl rfl rfl rfl rfl rfl fun w hs => ?_
    refine (c_end (x_t ?_))
    refine wpIn_seq ?_
    refine wpIn_region_lit ?_
    refine q_val hk (w_mv rfl) rfl rfl rfl fun a hk => ?_
    refine q_val hk (w_len rfl Tryz.underlying51) rfl rfl rfl fun a hk => ?_
    refine q_val hk (w_mv rfl) rfl rfl rfl fun a hk => ?_
    refine (c_end (x_t ?_))
    refine wpIn_block ?_
    refine c_loop (α := Nat) (fun k a w => k ≤ nb ∧ Kn [] 67 [(38, .int .i64 ((k : Nat) : Int)), (37, .int .i64 ((nb : Nat) : Int)), (36, .slice ab nb cb), (10, .int .i64 ((u : Nat) : Int)), (11, .pointer (some ⟨b4, 0, none⟩)), (35, vec (mq (pa u))), (33, .int .i64 ((u : Nat) : Int)), (32, .bool true), (31, .int .i64 ((u : Nat) : Int)), (30, .int .i64 ((na : Nat) : Int)), (29, .slice aa na ca), (9, .slice (some ⟨b2, 0, none⟩) (na + nb - 1) (na + nb - 1)), (8, .slice none 0 0), (5, .pointer (some ⟨b1, 0, none⟩)), (0, .pointer none), (3, .slice ab nb cb)] a ∧ Sat F0 W ((blk b4 [.int .u64 ((dg 0 (mq (pa u)) : Nat) : Int), .int .u64 ((dg 1 (mq (pa u)) : Nat) : Int), .int .u64 ((dg 2 (mq (pa u)) : Nat) : Int), .int .u64 ((dg 3 (mq (pa u)) : Nat) : Int)] 56) :: (blk b2 (en vq (fun i => mq (mrow pa pb u (mall pa pb nb u) k i)) (na + nb - 1)) 56) :: (blk b1 (fieldL s) 120) :: M) ((lst 4 (.slice aa na ca) na (en vq (fun i => mq (pa i)) na)) :: (lst 4 (.slice ab nb cb) nb (en vq (fun i => mq (pb i)) nb)) :: R) w) (fun k => nb - k) 0 ?_ ?_
    · exact ⟨(by omega), hk.k rfl (hk.k rfl (hk.k rfl (hk.k rfl (hk.k rfl (hk.k rfl (hk.k rfl (hk.k rfl (hk.k rfl (hk.k rfl (hk.k rfl (hk.k rfl (hk.k rfl (hk.k rfl (hk.k rfl (hk.k rfl hk.nil))))))))))))))), hs⟩
    rintro k a w ⟨hf0, hk, hs⟩
    refine wpIn_seq ?_
    refine wpIn_region_lit ?_
    rcases Classical.em (((k : Nat) : Int) < ((nb : Nat) : Int)) with hc5 | hc5
    · skip
      refine q_val hk (w_lt rfl rfl (decide_eq_true hc5)) rfl rfl rfl fun a hk => ?_
      refine (c_end (x_t ?_))
      refine wpIn_seq ?_
      refine c_T hk rfl ?_
      refine (wpIn_skip (x_t ?_))
      refine wpIn_seq ?_
      refine wpIn_block ?_
      refine wpIn_seq ?_
      refine wpIn_region_lit ?_
      refine q_val hk (w_mv rfl) rfl rfl rfl fun a hk => ?_
      refine q_val hk (w_iaL (k := k) rfl rfl Tryz.underlying51 ty56 (hs.ri 1 rfl) (by omega) (by omega)) rfl rfl rfl fun a hk => ?_
      refine q_val hk (w_ldv (z := mq (pb k)) rfl ty56 (lstq (k := k) (hs.ri 1 rfl) (by omega) (en_chunk vq_len (by omega)))) rfl rfl rfl fun a hk => ?_
      refine q_alc (vs := [.int .u64 0, .int .u64 0, .int .u64 0, .int .u64 0]) hk hs zr56 rfl rfl rfl fun b6 w a hk hs => ?_
      refine q_val hk (w_as rfl) rfl rfl rfl fun a hk => ?_
      refine q_sto (o := 0) (cs := [.int .u64 ((dg 0 (mq (pb k)) : Nat) : Int), .int .u64 ((dg 1 (mq (pb k)) : Nat) : Int), .int .u64 ((dg 2 (mq (pb k)) : Nat) : Int), .int .u64 ((dg 3 (mq (pb k)) : Nat) : Int)]) (vs' := [.int .u64 ((dg 0 (mq (pb k)) : Nat) : Int), .int .u64 ((dg 1 (mq (pb k)) : Nat) : Int), .int .u64 ((dg 2 (mq (pb k)) : Nat) : Int), .int .u64 ((dg 3 (mq (pb k)) : Nat) : Int)]) hk hs rfl rfl rfl ty56 rfl rfl rfl rfl rfl rfl fun w hs => ?_
      refine (c_end (x_t ?_))
      refine wpIn_seq ?_
      refine wpIn_region_lit ?_
      refine q_val hk (w_mv rfl) rfl rfl rfl fun a hk => ?_
      refine q_val hk (w_mv rfl) rfl rfl rfl fun a hk => ?_
      refine q_val hk (w_mv rfl) rfl rfl rfl fun a hk => ?_
      refine q_call (caps := []) hk rfl rfl Tryz.func61 fo61 rfl rfl (note_n 3 ((u : Nat) : Int) ((k : Nat) : Int) _ hs) ?_
      rintro _ w ⟨v7, rfl, hs⟩
      refine ⟨_, rfl, fun a hk => ?_⟩
      refine (c_end (x_t ?_))
      have hL := okL.cons (hs.mi 3 rfl) (okL.cons (hs.mi 1 rfl) (okL.cons (hs.mi 0 rfl) okL.nil))
      refine d_begin _ 18 (by kernel_rfl) rfl hs hL fun w hs hL => ?_
      refine d_join (n2 := 3) 32767 (fun a w => Kn [] 67 [(61, vec (mq ((pa u) * (pb k)))), (57, vec (mq (mrow pa pb u (mall pa pb nb u) k (u + k)))), (56, .pointer (some ((adq (some ⟨b2, 0, none⟩)).add ((u + k) * 4)))), (60, vec (mq (pb k))), (59, vec (mq (pa u))), (58, fieldV s), (55, .int .i64 ((u + k : Nat) : Int)), (54, .int .i64 ((k : Nat) : Int)), (53, .int .i64 ((u : Nat) : Int)), (52, .slice (some ⟨b2, 0, none⟩) (na + nb - 1) (na + nb - 1)), (51, fieldV s), (50, .int .i64 ((u + k : Nat) : Int)), (49, .int .i64 ((k : Nat) : Int)), (48, .int .i64 ((u : Nat) : Int)), (47, .slice (some ⟨b2, 0, none⟩) (na + nb - 1) (na + nb - 1)), (46, v7), (45, .int .i64 ((k : Nat) : Int)), (44, .int .i64 ((u : Nat) : Int)), (43, .pointer none), (12, .int .i64 ((k : Nat) : Int)), (13, .pointer (some ⟨b6, 0, none⟩)), (42, vec (mq (pb k))), (41, .pointer (some ((adq ab).add (k * 4)))), (40, .int .i64 ((k : Nat) : Int)), (39, .bool true), (38, .int .i64 ((k : Nat) : Int)), (37, .int .i64 ((nb : Nat) : Int)), (36, .slice ab nb cb), (10, .int .i64 ((u : Nat) : Int)), (11, .pointer (some ⟨b4, 0, none⟩)), (35, vec (mq (pa u))), (33, .int .i64 ((u : Nat) : Int)), (32, .bool true), (31, .int .i64 ((u : Nat) : Int)), (30, .int .i64 ((na : Nat) : Int)), (29, .slice aa na ca), (9, .slice (some ⟨b2, 0, none⟩) (na + nb - 1) (na + nb - 1)), (8, .slice none 0 0), (5, .pointer (some ⟨b1, 0, none⟩)), (0, .pointer none), (3, .slice ab nb cb)] a ∧ Sat F0 W ((blk b6 [.int .u64 ((dg 0 (mq (pb k)) : Nat) : Int), .int .u64 ((dg 1 (mq (pb k)) : Nat) : Int), .int .u64 ((dg 2 (mq (pb k)) : Nat) : Int), .int .u64 ((dg 3 (mq (pb k)) : Nat) : Int)] 56) :: (blk b4 [.int .u64 ((dg 0 (mq (pa u)) : Nat) : Int), .int .u64 ((dg 1 (mq (pa u)) : Nat) : Int), .int .u64 ((dg 2 (mq (pa u)) : Nat) : Int), .int .u64 ((dg 3 (mq (pa u)) : Nat) : Int)] 56) :: (blk b2 (en vq (fun i => mq (mrow pa pb u (mall pa pb nb u) k i)) (na + nb - 1)) 56) :: (blk b1 (fieldL s) 120) :: M) ((lst 4 (.slice aa na ca) na (en vq (fun i => mq (pa i)) na)) :: (lst 4 (.slice ab nb cb) nb (en vq (fun i => mq (pb i)) nb)) :: R) w ∧ okL [blk b1 (fieldL s) 120, blk b4 [.int .u64 ((dg 0 (mq (pa u)) : Nat) : Int), .int .u64 ((dg 1 (mq (pa u)) : Nat) : Int), .int .u64 ((dg 2 (mq (pa u)) : Nat) : Int), .int .u64 ((dg 3 (mq (pa u)) : Nat) : Int)] 56, blk b6 [.int .u64 ((dg 0 (mq (pb k)) : Nat) : Int), .int .u64 ((dg 1 (mq (pb k)) : Nat) : Int), .int .u64 ((dg 2 (mq (pb k)) : Nat) : Int), .int .u64 ((dg 3 (mq (pb k)) : Nat) : Int)] 56] w) ?_ ?_
      · intro hJ32767
        refine d_join (n2 := 4) 31743 (fun a w => Kn [] 67 [(61, vec (mq ((pa u) * (pb k)))), (56, .pointer (some ((adq (some ⟨b2, 0, none⟩)).add ((u + k) * 4)))), (60, vec (mq (pb k))), (59, vec (mq (pa u))), (58, fieldV s), (55, .int .i64 ((u + k : Nat) : Int)), (54, .int .i64 ((k : Nat) : Int)), (53, .int .i64 ((u : Nat) : Int)), (52, .slice (some ⟨b2, 0, none⟩) (na + nb - 1) (na + nb - 1)), (51, fieldV s), (50, .int .i64 ((u + k : Nat) : Int)), (49, .int .i64 ((k : Nat) : Int)), (48, .int .i64 ((u : Nat) : Int)), (47, .slice (some ⟨b2, 0, none⟩) (na + nb - 1) (na + nb - 1)), (46, v7), (45, .int .i64 ((k : Nat) : Int)), (44, .int .i64 ((u : Nat) : Int)), (43, .pointer none), (12, .int .i64 ((k : Nat) : Int)), (13, .pointer (some ⟨b6, 0, none⟩)), (42, vec (mq (pb k))), (41, .pointer (some ((adq ab).add (k * 4)))), (40, .int .i64 ((k : Nat) : Int)), (39, .bool true), (38, .int .i64 ((k : Nat) : Int)), (37, .int .i64 ((nb : Nat) : Int)), (36, .slice ab nb cb), (10, .int .i64 ((u : Nat) : Int)), (11, .pointer (some ⟨b4, 0, none⟩)), (35, vec (mq (pa u))), (33, .int .i64 ((u : Nat) : Int)), (32, .bool true), (31, .int .i64 ((u : Nat) : Int)), (30, .int .i64 ((na : Nat) : Int)), (29, .slice aa na ca), (9, .slice (some ⟨b2, 0, none⟩) (na + nb - 1) (na + nb - 1)), (8, .slice none 0 0), (5, .pointer (some ⟨b1, 0, none⟩)), (0, .pointer none), (3, .slice ab nb cb)] a ∧ Sat F0 W ((blk b6 [.int .u64 ((dg 0 (mq (pb k)) : Nat) : Int), .int .u64 ((dg 1 (mq (pb k)) : Nat) : Int), .int .u64 ((dg 2 (mq (pb k)) : Nat) : Int), .int .u64 ((dg 3 (mq (pb k)) : Nat) : Int)] 56) :: (blk b4 [.int .u64 ((dg 0 (mq (pa u)) : Nat) : Int), .int .u64 ((dg 1 (mq (pa u)) : Nat) : Int), .int .u64 ((dg 2 (mq (pa u)) : Nat) : Int), .int .u64 ((dg 3 (mq (pa u)) : Nat) : Int)] 56) :: (blk b2 (en vq (fun i => mq (mrow pa pb u (mall pa pb nb u) k i)) (na + nb - 1)) 56) :: (blk b1 (fieldL s) 120) :: M) ((lst 4 (.slice aa na ca) na (en vq (fun i => mq (pa i)) na)) :: (lst 4 (.slice ab nb cb) nb (en vq (fun i => mq (pb i)) nb)) :: R) w ∧ okL [blk b1 (fieldL s) 120, blk b4 [.int .u64 ((dg 0 (mq (pa u)) : Nat) : Int), .int .u64 ((dg 1 (mq (pa u)) : Nat) : Int), .int .u64 ((dg 2 (mq (pa u)) : Nat) : Int), .int .u64 ((dg 3 (mq (pa u)) : Nat) : Int)] 56, blk b6 [.int .u64 ((dg 0 (mq (pb k)) : Nat) : Int), .int .u64 ((dg 1 (mq (pb k)) : Nat) : Int), .int .u64 ((dg 2 (mq (pb k)) : Nat) : Int), .int .u64 ((dg 3 (mq (pb k)) : Nat) : Int)] 56] w) ?_ ?_
        · intro hJ31743
          refine d_v 0 1 hk hL rfl (by kernel_rfl) rfl rfl (fun w hL => w_mv rfl) fun a hk => ?_
          refine d_v 1 3 hk hL rfl (by kernel_rfl) rfl rfl (fun w hL => w_mv rfl) fun a hk => ?_
          refine d_v 2 7 hk hL rfl (by kernel_rfl) rfl rfl (fun w hL => w_mv rfl) fun a hk => ?_
          refine d_v 3 15 hk hL rfl (by kernel_rfl) rfl rfl (fun w hL => w_add (r := ((u + k : Nat) : Int)) rfl rfl (by rw [wr64 (by omega) (by omega)]; omega)) fun a hk => ?_
          refine d_v 4 31 hk hL rfl (by kernel_rfl) rfl rfl (fun w hL => w_ldA rfl ty120 (.blk (n := 14) (hL.at 0 rfl) rfl) rfl) fun a hk => ?_
          refine d_v 5 63 hk hL rfl (by kernel_rfl) rfl rfl (fun w hL => w_mv rfl) fun a hk => ?_
          refine d_v 6 127 hk hL rfl (by kernel_rfl) rfl rfl (fun w hL => w_mv rfl) fun a hk => ?_
          refine d_v 7 255 hk hL rfl (by kernel_rfl) rfl rfl (fun w hL => w_mv rfl) fun a hk => ?_
          refine d_v 8 511 hk hL rfl (by kernel_rfl) rfl rfl (fun w hL => w_add (r := ((u + k : Nat) : Int)) rfl rfl (by rw [wr64 (by omega) (by omega)]; omega)) fun a hk => ?_
          refine d_v 11 2559 hk hL rfl (by kernel_rfl) rfl rfl (fun w hL => w_ldA rfl ty120 (.blk (n := 14) (hL.at 0 rfl) rfl) rfl) fun a hk => ?_
          refine d_v 12 6655 hk hL rfl (by kernel_rfl) rfl rfl (fun w hL => w_ldv (z := mq (pa u)) rfl ty56 (.blk (n := 4) (hL.at 1 rfl) rfl)) fun a hk => ?_
          refine d_v 13 14847 hk hL rfl (by kernel_rfl) rfl rfl (fun w hL => w_ldv (z := mq (pb k)) rfl ty56 (.blk (n := 4) (hL.at 2 rfl) rfl)) fun a hk => ?_
          refine d_2 9 14 15359 31231 rfl rfl (by kernel_rfl) (fun K hK => ?_) (fun K hK => ?_)
          · skip
            refine q_val hk (w_iaL (k := u + k) rfl rfl Tryz.underlying51 ty56 (blk_lst (hs.mi 2 rfl) (en_len vq_len) (Nat.le_refl _)) (by omega) (by omega)) rfl rfl rfl fun a hk => ?_
            have hL := okL.cons (hs.mi 3 rfl) (okL.cons (hs.mi 1 rfl) (okL.cons (hs.mi 0 rfl) okL.nil))
            refine c_end (x_t (hK _ _ hL ?_))
            clear hK K
            refine d_2 10 14 16383 31743 rfl rfl (by kernel_rfl) (fun K hK => ?_) (fun K hK => ?_)
            · skip
              refine q_val hk (w_ldv (z := mq (mrow pa pb u (mall pa pb nb u) k (u + k))) rfl ty56 (lstq (k := u + k) (blk_lst (hs.mi 2 rfl) (en_len vq_len) (Nat.le_refl _)) (by omega) (en_chunk vq_len (by omega)))) rfl rfl rfl fun a hk => ?_
              have hL := okL.cons (hs.mi 3 rfl) (okL.cons (hs.mi 1 rfl) (okL.cons (hs.mi 0 rfl) okL.nil))
              refine c_end (x_t (hK _ _ hL ?_))
              clear hK K
              refine d_1 14 32767 rfl (by kernel_rfl) fun K hK => ?_
              refine q_call (caps := []) hk rfl rfl Tryz.func120 fo120 rfl rfl (zmul_c (x := (pa u)) (y := (pb k)) _ rfl rfl) ?_
              rintro _ w ⟨rfl, hb⟩
              have hs := hs.below hb
              refine ⟨_, rfl, fun a hk => ?_⟩
              have hL := okL.cons (hs.mi 3 rfl) (okL.cons (hs.mi 1 rfl) (okL.cons (hs.mi 0 rfl) okL.nil))
              refine c_end (x_t (hK _ _ hL ?_))
              clear hK K
              have hL := okL.cons (hs.mi 3 rfl) (okL.cons (hs.mi 1 rfl) (okL.cons (hs.mi 0 rfl) okL.nil))
              exact hJ32767 _ _ ⟨hk.k rfl (hk.k rfl (hk.k rfl (hk.k rfl (hk.k rfl (hk.k rfl (hk.k rfl (hk.k rfl (hk.k rfl (hk.k rfl (hk.k rfl (hk.k rfl (hk.k rfl (hk.k rfl (hk.k rfl (hk.k rfl (hk.k rfl (hk.k rfl (hk.k rfl (hk.k rfl (hk.k rfl (hk.k rfl (hk.k rfl (hk.k rfl (hk.k rfl (hk.k rfl (hk.k rfl (hk.k rfl (hk.k rfl (hk.k rfl (hk.k rfl (hk.k rfl (hk.k rfl (hk.k rfl (hk.k rfl (hk.k rfl (hk.k rfl (hk.k rfl (hk.k rfl (hk.k rfl (hk.k rfl hk.nil)))))))))))))))))))))))))))))))))))))))), hs, hL⟩
            · skip
              refine q_call (caps := []) hk rfl rfl Tryz.func120 fo120 rfl rfl (zmul_c (x := (pa u)) (y := (pb k)) _ rfl rfl) ?_
              rintro _ w ⟨rfl, hb⟩
              have hs := hs.below hb
              refine ⟨_, rfl, fun a hk => ?_⟩
              have hL := okL.cons (hs.mi 3 rfl) (okL.cons (hs.mi 1 rfl) (okL.cons (hs.mi 0 rfl) okL.nil))
              refine c_end (x_t (hK _ _ hL ?_))
              clear hK K
              have hL := okL.cons (hs.mi 3 rfl) (okL.cons (hs.mi 1 rfl) (okL.cons (hs.mi 0 rfl) okL.nil))
              exact hJ31743 _ _ ⟨hk.k rfl (hk.k rfl (hk.k rfl (hk.k rfl (hk.k rfl (hk.k rfl (hk.k rfl (hk.k rfl (hk.k rfl (hk.k rfl (hk.k rfl (hk.k rfl (hk.k rfl (hk.k rfl (hk.k rfl (hk.k rfl (hk.k rfl (hk.k rfl (hk.k rfl (hk.k rfl (hk.k rfl (hk.k rfl (hk.k rfl (hk.k rfl (hk.k rfl (hk.k rfl (hk.k rfl (hk.k rfl (hk.k rfl (hk.k rfl (hk.k rfl (hk.k rfl (hk.k rfl (hk.k rfl (hk.k rfl (hk.k rfl (hk.k rfl (hk.k rfl (hk.k rfl (hk.k rfl hk.nil))))))))))))))))))))))))))))))))))))))), hs, hL⟩
          · skip
            refine q_call (caps := []) hk rfl rfl Tryz.func120 fo120 rfl rfl (zmul_c (x := (pa u)) (y := (pb k)) _ rfl rfl) ?_
            rintro _ w ⟨rfl, hb⟩
            have hs := hs.below hb
            refine ⟨_, rfl, fun a hk => ?_⟩
            have hL := okL.cons (hs.mi 3 rfl) (okL.cons (hs.mi 1 rfl) (okL.cons (hs.mi 0 rfl) okL.nil))
            refine c_end (x_t (hK _ _ hL ?_))
            clear hK K
            refine d_1 9 31743 rfl (by kernel_rfl) fun K hK => ?_
            refine q_val hk (w_iaL (k := u + k) rfl rfl Tryz.underlying51 ty56 (blk_lst (hs.mi 2 rfl) (en_len vq_len) (Nat.le_refl _)) (by omega) (by omega)) rfl rfl rfl fun a hk => ?_
            have hL := okL.cons (hs.mi 3 rfl) (okL.cons (hs.mi 1 rfl) (okL.cons (hs.mi 0 rfl) okL.nil))
            refine c_end (x_t (hK _ _ hL ?_))
            clear hK K
            have hL := okL.cons (hs.mi 3 rfl) (okL.cons (hs.mi 1 rfl) (okL.cons (hs.mi 0 rfl) okL.nil))
            exact hJ31743 _ _ ⟨hk.k rfl (hk.k rfl (hk.k rfl (hk.k rfl (hk.k rfl (hk.k rfl (hk.k rfl (hk.k rfl (hk.k rfl (hk.k rfl (hk.k rfl (hk.k rfl (hk.k rfl (hk.k rfl (hk.k rfl (hk.k rfl (hk.k rfl (hk.k rfl (hk.k rfl (hk.k rfl (hk.k rfl (hk.k rfl (hk.k rfl (hk.k rfl (hk.k rfl (hk.k rfl (hk.k rfl (hk.k rfl (hk.k rfl (hk.k rfl (hk.k rfl (hk.k rfl (hk.k rfl (hk.k rfl (hk.k rfl (hk.k rfl (hk.k rfl (hk.k rfl (hk.k rfl (hk.k rfl hk.nil))))))))))))))))))))))))))))))))))))))), hs, hL⟩
        · rintro a w ⟨hk, hs, hL⟩
          refine d_1 10 32767 rfl (by kernel_rfl) fun K hK => ?_
          refine q_val hk (w_ldv (z := mq (mrow pa pb u (mall pa pb nb u) k (u + k))) rfl ty56 (lstq (k := u + k) (blk_lst (hs.mi 2 rfl) (en_len vq_len) (Nat.le_refl _)) (by omega) (en_chunk vq_len (by omega)))) rfl rfl rfl fun a hk => ?_
          have hL := okL.cons (hs.mi 3 rfl) (okL.cons (hs.mi 1 rfl) (okL.cons (hs.mi 0 rfl) okL.nil))
          refine c_end (x_t (hK _ _ hL ?_))
          clear hK K
          have hL := okL.cons (hs.mi 3 rfl) (okL.cons (hs.mi 1 rfl) (okL.cons (hs.mi 0 rfl) okL.nil))
          exact hJ32767 _ _ ⟨hk.k rfl (hk.k rfl (hk.k rfl (hk.k rfl (hk.k rfl (hk.k rfl (hk.k rfl (hk.k rfl (hk.k rfl (hk.k rfl (hk.k rfl (hk.k rfl (hk.k rfl (hk.k rfl (hk.k rfl (hk.k rfl (hk.k rfl (hk.k rfl (hk.k rfl (hk.k rfl (hk.k rfl (hk.k rfl (hk.k rfl (hk.k rfl (hk.k rfl (hk.k rfl (hk.k rfl (hk.k rfl (hk.k rfl (hk.k rfl (hk.k rfl (hk.k rfl (hk.k rfl (hk.k rfl (hk.k rfl (hk.k rfl (hk.k rfl (hk.k rfl (hk.k rfl (hk.k rfl (hk.k rfl hk.nil)))))))))))))))))))))))))))))))))))))))), hs, hL⟩
      · rintro a w ⟨hk, hs, hL⟩
        refine d_1 15 65535 rfl (by kernel_rfl) fun K hK => ?_
        refine q_call (caps := []) hk rfl rfl Tryz.func121 fo121 rfl rfl (zadd_c (x := (mrow pa pb u (mall pa pb nb u) k (u + k))) (y := ((pa u) * (pb k))) _ rfl rfl) ?_
        rintro _ w ⟨rfl, hb⟩
        have hs := hs.below hb
        refine ⟨_, rfl, fun a hk => ?_⟩
        have hL := okL.cons (hs.mi 3 rfl) (okL.cons (hs.mi 1 rfl) (okL.cons (hs.mi 0 rfl) okL.nil))
        refine c_end (x_t (hK _ _ hL ?_))
        clear hK K
        refine d_1 16 131071 rfl (by kernel_rfl) fun K hK => ?_
        refine q_val hk (w_iaL (k := u + k) rfl rfl Tryz.underlying51 ty56 (blk_lst (hs.mi 2 rfl) (en_len vq_len) (Nat.le_refl _)) (by omega) (by omega)) rfl rfl rfl fun a hk => ?_
        have hL := okL.cons (hs.mi 3 rfl) (okL.cons (hs.mi 1 rfl) (okL.cons (hs.mi 0 rfl) okL.nil))
        refine c_end (x_t (hK _ _ hL ?_))
        clear hK K
        refine d_1 17 262143 rfl (by kernel_rfl) fun K hK => ?_
        have hs := hs.up2
        refine q_stoE (c := vq) (xx := (mq ((mrow pa pb u (mall pa pb nb u) k (u + k)) + ((pa u) * (pb k))))) (k := (u + k)) hk hs rfl rfl rfl ty56 rfl vq_len rfl (by omega) rfl fun w hs => ?_
        have hL := okL.cons (hs.mi 3 rfl) (okL.cons (hs.mi 2 rfl) (okL.cons (hs.mi 1 rfl) okL.nil))
        refine c_end (x_t (hK _ _ hL ?_))
        clear hK K
        refine d_end (by kernel_rfl) ?_
        refine (x_b (x_t ?_))
        refine wpIn_region_lit ?_
        refine q_val hk (w_add rfl rfl (wr64 (by omega) (by omega))) rfl rfl rfl fun a hk => ?_
        refine q_val hk (w_mv rfl) rfl rfl rfl fun a hk => ?_
        refine (c_end (x_t ?_))
        have hs := hs.rw0 (congrArg (fun q => blk b2 q 56) mrow_step)
        have hs := hs.up1
        have hs := hs.drop
        have hs := hs.up2
        have hs := hs.up1
        have hs := hs.up2
        exact ⟨k + 1, ⟨(by omega), hk.k rfl (hk.k rfl (hk.k rfl (hk.k rfl (hk.k rfl (hk.k rfl (hk.k rfl (hk.k rfl (hk.k rfl (hk.k rfl (hk.k rfl (hk.k rfl (hk.k rfl (hk.k rfl (hk.k rfl (hk.k rfl hk.nil))))))))))))))), hs⟩, by omega⟩
    · skip
      refine q_val hk (w_lt rfl rfl (decide_eq_false hc5)) rfl rfl rfl fun a hk => ?_
      refine (c_end (x_t ?_))
      refine wpIn_seq ?_
      refine c_F hk rfl ?_
      refine (wpIn_exit (x_te (x_te (x_be ?_))))
      refine (x_b (x_t ?_))
      refine wpIn_region_lit ?_
      refine q_val hk (w_add rfl rfl (wr64 (by omega) (by omega))) rfl rfl rfl fun a hk => ?_
      refine q_val hk (w_mv rfl) rfl rfl rfl fun a hk => ?_
      refine (c_end (x_t ?_))
      have hknb : k = nb := by omega
      rw [hknb] at hs
      have hs := hs.drop
      exact ⟨u + 1, ⟨(by omega), hk.k rfl (hk.k rfl (hk.k rfl (hk.k rfl (hk.k rfl (hk.k rfl (hk.k rfl (hk.k rfl hk.nil))))))), hs⟩, by omega⟩
  · skip
    refine q_val hk (w_lt rfl rfl (decide_eq_false hc3)) rfl rfl rfl fun a hk => ?_
    refine (c_end (x_t ?_))
    refine wpIn_seq ?_
    refine c_F hk rfl ?_
    refine (wpIn_exit (x_te (x_te (x_be ?_))))
    refine (x_t ?_)
    refine wpIn_seq ?_
    refine wpIn_region_lit ?_
    refine q_val hk (w_mv rfl) rfl rfl rfl fun a hk => ?_
    refine q_val hk (w_as rfl) rfl rfl rfl fun a hk => ?_
    refine (c_end (x_t ?_))
    refine (wpIn_ret ?_)
    refine c_ret1 hk rfl rfl ?_
    have hs := hs.up1
    have hs := hs.drop
    have hs := hs.toR (R' := R) (fun r hr => .of (by simp [hr]))
    have hina : u = na := by omega
    subst hina
    exact ⟨_, rfl, hs⟩
end Go.Proofs.YtdnkkbmpefhbjaaGreatDoor
namespace Go.Proofs.YtdnkkbmpefhbjaaGreatDoor
set_option linter.all false
open Go Go.RowKit
/-- A map with the keys ks, of which the values have V. -/
def mapI (V : Value → Prop) (b : Nat) (ks : List Int) : Res where
  foot := (· = b)
  ok w := ∃ es clock, w.heap[b]? = some (.map es clock) ∧ es.toList.map (·.key) = ks.map (fun k => Value.int .i64 k) ∧ ∀ x ∈ es.toList, V x.val
  loc w w' h k := by
    obtain ⟨es, clock, h1, h2⟩ := k
    exact ⟨es, clock, by rw [h b rfl]; exact h1, h2⟩
  lt w k h hk := by
    subst hk
    obtain ⟨es, clock, h1, h2⟩ := h
    exact (Array.getElem?_eq_some_iff.1 h1).1
def ins (ks : List Int) (k : Int) : List Int := if k ∈ ks then ks else ks ++ [k]
def isI (v : Value) : Prop := ∃ u, v = .int .i64 u
section
variable {V : Value → Prop} {b : Nat} {ks : List Int}
theorem keys_isKey {es : Array MapEntry} (h : es.toList.map (·.key) = ks.map (fun k => Value.int .i64 k)) : ∀ x ∈ es.toList, MapKept.IsKey (.int .i64) x.key := by
  intro x hx
  have : x.key ∈ es.toList.map (·.key) := List.mem_map_of_mem hx
  rw [h] at this
  obtain ⟨k, _, hk⟩ := List.mem_map.1 this
  rw [← hk]
  exact rfl
theorem key_mem {es : Array MapEntry} {k : Int} (h : es.toList.map (·.key) = ks.map (fun k => Value.int .i64 k)) : (∃ x ∈ es.toList, x.key = .int .i64 k) ↔ k ∈ ks := by
  constructor
  · rintro ⟨x, hx, hk⟩
    have : x.key ∈ es.toList.map (·.key) := List.mem_map_of_mem hx
    rw [h, hk] at this
    obtain ⟨k', h1, h2⟩ := List.mem_map.1 this
    cases h2
    exact h1
  · intro hk
    have : Value.int .i64 k ∈ ks.map (fun k => Value.int .i64 k) := List.mem_map_of_mem hk
    rw [← h] at this
    obtain ⟨x, hx, he⟩ := List.mem_map.1 this
    exact ⟨x, hx, he⟩
variable {r : Option Nat} {n N : Nat} {P : Program} {ops : Array Oper} {Q : Exit → Act → World → Prop} {rest : List Oper} {G : List (Nat × Value)} {a : Act} {w w' : World} {v : Value} {Ds : List Nat}
  {d T : Nat} {p : String} {e : Array Edge} {g : Option (Nat × Bool)} {x y z : Operand} {tx kt et : TypeId} {F0 : Nat → Prop} {W : World} {M R : List Res}
theorem q_mkm (V : Value → Prop) (hk : Kn Ds N G a) (hs : Sat F0 W M R w) (hd : Nat.ble (d + 1) N = true) (hg : wq ops G g = some true)
    (h : ∀ b w a, Kn Ds N ((d, .map (some b)) :: G) a → Sat F0 W (mapI V b [] :: M) R w → wpListIn (Fr r) n P ops Q rest a w) : wpListIn (Fr r) n P ops Q (⟨some d, .makeMap tx none, T, p, e, g⟩ :: rest) a w := by
  refine q_val (v := .map (some w.heap.size)) (w' := w.alloc (.map #[] 0)) hk (fun Ds N a hk => ?_) hd rfl hg fun a hk => h _ _ a hk ?_
  · simp [execOp, Instr.makeMap, newObj, Sem.run_bind, Sem.run_pure, Result.andThen_ok, go_sem]
    rfl
  · exact hs.new (.alloc _ _ _) ⟨#[], 0, World.alloc_heap_new w _, rfl, by simp⟩ fun k hk => Nat.le_of_eq hk.symm
theorem q_mup {k : Int} (hk : Kn Ds N G a) (hs : Sat F0 W (mapI V b ks :: M) R w) (hx : evq G x = some (.map (some b))) (hy : evq G y = some (.int .i64 k)) (hz : evq G z = some v) (hV : V v) (hu : P.underlying tx = some (.map kt et)) (hkt : P.underlying kt = some (.int .i64)) (hg : wq ops G g = some true)
    (h : ∀ w, Sat F0 W (mapI V b (ins ks k) :: M) R w → wpListIn (Fr r) n P ops Q rest a w) : wpListIn (Fr r) n P ops Q (⟨none, .mapUpdate tx x y z, T, p, e, g⟩ :: rest) a w := by
  obtain ⟨es, clock, hb, hks, hVs⟩ := hs.okM _ (.head _)
  have hkey : MapKept.IsKey (.int .i64) (Value.int .i64 k) := rfl
  have e1 := hk.eval hx
  have e2 := hk.eval hy
  have e3 := hk.eval hz
  rcases MapKept.findNow_spec hkey es.toList 0 (keys_isKey hks) with ⟨h1, h2⟩ | ⟨j, e0, h1, h2, h3⟩
  · have hrun : (Instr.mapUpdate tx (.map (some b)) (.int .i64 k) v).run P w = .ok () (w.putObj b (.map (es.push { key := .int .i64 k, val := v, born := clock }) (clock + 1))) := by
      simp only [Instr.mapUpdate, Sem.run_bind, run_underlying hu, Result.andThen_ok, MapKept.run_getObj_map hb, MapKept.run_checkKey hkt hkey, MapKept.run_findKey hkt h1]
      exact MapKept.run_setObj_map _ hb
    refine q_st (w' := w.putObj b (.map (es.push { key := .int .i64 k, val := v, born := clock }) (clock + 1))) hk (fun Ds' N' a' hk' => ?_) rfl hg (h _ ?_)
    · have e1 := hk'.eval hx
      have e2 := hk'.eval hy
      have e3 := hk'.eval hz
      generalize a'.eval = ev at e1 e2 e3
      simp only [execOp, e1, e2, e3, Sem.run_bind, hrun, Result.andThen_ok, Sem.run_pure]
    · refine hs.chg (.putObj _ _ _) ⟨_, _, World.putObj_heap_same (Array.getElem?_eq_some_iff.1 hb).1, ?_, ?_⟩ fun _ hk => .inl hk
      · have hn : k ∉ ks := fun hm => by obtain ⟨x, hx, he⟩ := (key_mem hks).2 hm; exact h2 x hx he
        unfold ins
        rw [if_neg hn, Array.toList_push, List.map_append, List.map_append, hks]
        rfl
      · intro x hx
        rw [Array.toList_push] at hx
        rcases List.mem_append.1 hx with hx | hx
        · exact hVs x hx
        · rcases List.mem_singleton.1 hx with rfl; exact hV
  · rw [Nat.zero_add] at h1
    have he : es[j]? = some e0 := by rw [← Array.getElem?_toList]; exact h2
    have hrun : (Instr.mapUpdate tx (.map (some b)) (.int .i64 k) v).run P w = .ok () (w.putObj b (.map (es.modify j fun e => { e with key := .int .i64 k, val := v }) clock)) := by
      simp only [Instr.mapUpdate, Sem.run_bind, run_underlying hu, Result.andThen_ok, MapKept.run_getObj_map hb, MapKept.run_checkKey hkt hkey, MapKept.run_findKey hkt h1, he, Option.map_some, Option.getD_some, h3, MapKept.run_keyThatStays hkey]
      exact MapKept.run_setObj_map _ hb
    refine q_st (w' := w.putObj b (.map (es.modify j fun e => { e with key := .int .i64 k, val := v }) clock)) hk (fun Ds' N' a' hk' => ?_) rfl hg (h _ ?_)
    · have e1 := hk'.eval hx
      have e2 := hk'.eval hy
      have e3 := hk'.eval hz
      generalize a'.eval = ev at e1 e2 e3
      simp only [execOp, e1, e2, e3, Sem.run_bind, hrun, Result.andThen_ok, Sem.run_pure]
    · refine hs.chg (.putObj _ _ _) ⟨_, _, World.putObj_heap_same (Array.getElem?_eq_some_iff.1 hb).1, ?_, ?_⟩ fun _ hk => .inl hk
      · have hm : k ∈ ks := (key_mem hks).1 ⟨e0, List.mem_of_getElem? h2, h3⟩
        unfold ins
        rw [if_pos hm, ← hks]
        exact MapKept.modify_keys j _ fun e he' => by rw [he] at he'; cases he'; exact h3.symm
      · intro x hx
        obtain ⟨i, hi⟩ := List.mem_iff_getElem?.1 hx
        rw [Array.getElem?_toList, Array.getElem?_modify] at hi
        split at hi
        · obtain ⟨e5, _, rfl⟩ := Option.map_eq_some_iff.1 hi
          exact hV
        · exact hVs x (List.mem_of_getElem? (by rw [Array.getElem?_toList]; exact hi))
theorem w_lkm {z : Value} {k : Int} (hm : (mapI V b ks).ok w) (hx : evq G x = some (.map (some b))) (hy : evq G y = some (.int .i64 k)) (hu : P.underlying tx = some (.map kt et)) (hkt : P.underlying kt = some (.int .i64)) (hz : zq P et = some z) (hV : V z) :
    ∃ v, V v ∧ Wq P G ⟨some d, .lookup tx x y false, T, p, e, g⟩ v w w := by
  obtain ⟨es, clock, hb, hks, hVs⟩ := hm
  have hkey : MapKept.IsKey (.int .i64) (Value.int .i64 k) := rfl
  rcases MapKept.findNow_spec hkey es.toList 0 (keys_isKey hks) with ⟨h1, h2⟩ | ⟨j, e0, h1, h2, h3⟩
  · refine ⟨z, hV, .of2 hx hy fun ev e1 e2 => ?_⟩
    simp only [execOp, e1, e2, Instr.lookup, Sem.run_bind, run_underlying hu, Result.andThen_ok, MapKept.run_getObj_map hb, Sem.run_pure, MapKept.run_checkKey hkt hkey, MapKept.run_findKey hkt h1, zq_zero hz]
    rfl
  · refine ⟨e0.val, hVs e0 (List.mem_of_getElem? h2), .of2 hx hy fun ev e1 e2 => ?_⟩
    simp only [execOp, e1, e2, Instr.lookup, Sem.run_bind, run_underlying hu, Result.andThen_ok, MapKept.run_getObj_map hb, Sem.run_pure, MapKept.run_checkKey hkt hkey, MapKept.run_findKey hkt h1]
    rfl
theorem q_lkm {z : Value} {k : Int} (hk : Kn Ds N G a) (hm : (mapI V b ks).ok w) (hx : evq G x = some (.map (some b))) (hy : evq G y = some (.int .i64 k)) (hu : P.underlying tx = some (.map kt et)) (hkt : P.underlying kt = some (.int .i64)) (hz : zq P et = some z) (hV : V z)
    (hd : Nat.ble (d + 1) N = true) (hg : wq ops G g = some true) (h : ∀ v a, V v → Kn Ds N ((d, v) :: G) a → wpListIn (Fr r) n P ops Q rest a w) : wpListIn (Fr r) n P ops Q (⟨some d, .lookup tx x y false, T, p, e, g⟩ :: rest) a w := by
  obtain ⟨v, hV', hw⟩ := w_lkm hm hx hy hu hkt hz hV
  exact q_val hk hw hd rfl hg fun a hk => h v a hV' hk
theorem w_lnm (hm : (mapI V b ks).ok w) (hx : evq G x = some (.map (some b))) (hu : P.underlying tx = some (.map kt et)) : Wq P G ⟨some d, .call ⟨.builtin .len, #[x], #[tx]⟩, T, p, e, g⟩ (.int .i64 ((ks.length : Nat) : Int)) w w := by
  obtain ⟨es, clock, hb, hks, hVs⟩ := hm
  have hl : es.size = ks.length := by have := congrArg List.length hks; simpa using this
  refine .of1 hx fun ev h => ?_
  simp [execOp, h, resolve, invoke, builtin, Builtin.len_, run_underlying hu, MapKept.run_getObj_map hb, goInt, Sem.run_pure, go_sem, hl]
end
/-! How many keys there are. -/
theorem ins_le (l : List Int) (ks : List Int) : (l.foldl ins ks).length ≤ ks.length + l.length := by
  induction l generalizing ks with
  | nil => simp
  | cons x l ih =>
    rw [List.foldl_cons]
    have := ih (ins ks x)
    have : (ins ks x).length ≤ ks.length + 1 := by unfold ins; split <;> simp
    simp only [List.length_cons]; omega
theorem ins_eq (l : List Int) (ks : List Int) : (l.foldl ins ks).length = ks.length + l.length ↔ (l.Nodup ∧ ∀ x ∈ l, x ∉ ks) := by
  induction l generalizing ks with
  | nil => simp
  | cons x l ih =>
    rw [List.foldl_cons]
    have h1 := ins_le l (ins ks x)
    by_cases hx : x ∈ ks
    · have e : ins ks x = ks := if_pos hx
      rw [e] at h1 ⊢
      constructor
      · intro h; simp only [List.length_cons] at h; omega
      · rintro ⟨_, h⟩; exact absurd hx (h x (.head _))
    · have e : ins ks x = ks ++ [x] := if_neg hx
      rw [e]
      have h2 := ih (ks ++ [x])
      rw [List.length_append, List.length_singleton] at h2
      rw [List.length_cons, show ks.length + (l.length + 1) = ks.length + 1 + l.length by omega, h2]
      simp only [List.nodup_cons, List.mem_append, List.mem_singleton, not_or, List.mem_cons]
      constructor
      · rintro ⟨h3, h4⟩
        refine ⟨⟨fun hm => (h4 x hm).2.1 rfl, h3⟩, ?_⟩
        rintro z (rfl | hz)
        · exact hx
        · exact (h4 z hz).1
      · rintro ⟨⟨h3, h4⟩, h5⟩
        exact ⟨h4, fun z hz => ⟨h5 z (.inr hz), fun he => h3 (he ▸ hz), fun h => by cases h⟩⟩
end Go.Proofs.YtdnkkbmpefhbjaaGreatDoor
namespace Go.Proofs.YtdnkkbmpefhbjaaGreatDoor
set_option linter.all false
open Go Go.RowKit Alg
/-- The keys after k elements. -/
def ksv (v : Nat → Int) (k : Nat) : List Int := ((List.range k).map v).foldl ins []
theorem ksv_succ (v : Nat → Int) (k : Nat) : ins (ksv v k) (v k) = ksv v (k + 1) := by simp [ksv, List.range_succ]
theorem ksv_full {v : Nat → Int} {n : Nat} (h : ∀ i k, i < k → k < n → v i ≠ v k) : (ksv v n).length = n := by
  have hn : ((List.range n).map v).Nodup := by
    rw [List.nodup_iff_pairwise_ne, List.pairwise_map, List.pairwise_iff_getElem]
    intro i j hi hj hij
    simp only [List.length_range] at hi hj
    simp only [List.getElem_range]
    exact h i j hij hj
  have h1 := (ins_eq ((List.range n).map v) []).2 ⟨hn, fun _ _ => by simp⟩
  simpa [ksv] using h1
/-- The points. -/
def pt (s : Bool) (v : Nat → Nat) (i : Nat) : Zp s := zn s (v i)
/-- A product of differences. -/
def wr {s : Bool} (x : Nat → Zp s) (u : Nat) : Nat → Zp s
  | 0 => 1
  | k + 1 => if k = u then wr x u k else wr x u k * (x u - x k)
def Wd {s : Bool} (x : Nat → Zp s) (n u i : Nat) : Nat := if i < u then mq (wr x i n) else 0
def Wi {s : Bool} (x : Nat → Zp s) (n u k i : Nat) : Nat := if i = u then mq (wr x u k) else Wd x n u i
def wgt {s : Bool} (x : Nat → Zp s) (n i : Nat) : Zp s := binv (fun i => wr x i n) n i
def pairF (n : Nat) (i : Int) : List Ev := upE 0 (n : Int) (pairE false i)
section
variable {s : Bool} {x : Nat → Zp s} {n u k : Nat}
theorem wdz_zero : en vq (fun _ => 0) n = en vq (Wd x n 0) n := en_congr fun i _ => by unfold Wd; rw [if_neg (Nat.not_lt_zero i)]
theorem wdz_open : en vq (fun i => if i = u then rone s else Wd x n u i) n = en vq (Wi x n u 0) n := en_congr fun i _ => by
  unfold Wi
  by_cases h : i = u
  · rw [if_pos h, if_pos h]; exact mq_one.symm
  · rw [if_neg h, if_neg h]
theorem wi_at : Wi x n u k u = mq (wr x u k) := if_pos rfl
theorem wi_step (h : ¬ k = u) : en vq (fun i => if i = u then mq (wr x u k * (x u - x k)) else Wi x n u k i) n = en vq (Wi x n u (k + 1)) n := en_congr fun i _ => by
  unfold Wi
  by_cases hi : i = u
  · rw [if_pos hi, if_pos hi]; show _ = mq (if k = u then _ else _); rw [if_neg h]
  · rw [if_neg hi, if_neg hi, if_neg hi]
theorem wi_skip (h : k = u) : en vq (Wi x n u k) n = en vq (Wi x n u (k + 1)) n := en_congr fun i _ => by
  unfold Wi
  by_cases hi : i = u
  · rw [if_pos hi, if_pos hi]; show _ = mq (if k = u then _ else _); rw [if_pos h]
  · rw [if_neg hi, if_neg hi]
theorem wi_shut : en vq (Wi x n u n) n = en vq (Wd x n (u + 1)) n := en_congr fun i _ => by
  unfold Wi Wd
  by_cases hi : i = u
  · rw [if_pos hi, if_pos (by omega), hi]
  · rw [if_neg hi]
    by_cases l : i < u
    · rw [if_pos l, if_pos (by omega)]
    · rw [if_neg l, if_neg (by omega)]
theorem wdz_end : en vq (Wd x n n) n = en vq (fun i => mq (wr x i n)) n := en_congr fun i hi => by unfold Wd; rw [if_pos hi]
theorem pf_ne {E : List Ev} (h : ¬ k = u) : E ++ upE 0 (k : Int) (pairE false (u : Int)) ++ [(3, (u : Int), (k : Int))] = E ++ upE 0 ((k + 1 : Nat) : Int) (pairE false (u : Int)) := by
  have e := upE_succ (F := pairE false (u : Int)) (fr := 0) (x := (k : Int)) (by omega)
  have p : pairE false (u : Int) (k : Int) = [(3, (u : Int), (k : Int))] := by unfold pairE; rw [if_neg (by omega)]
  rw [p] at e
  rw [List.append_assoc, e]
  rfl
theorem pf_eq {E : List Ev} (h : k = u) : E ++ upE 0 (k : Int) (pairE false (u : Int)) = E ++ upE 0 ((k + 1 : Nat) : Int) (pairE false (u : Int)) := by
  have e := upE_succ (F := pairE false (u : Int)) (fr := 0) (x := (k : Int)) (by omega)
  have p : pairE false (u : Int) (k : Int) = [] := by unfold pairE; rw [if_pos ⟨by omega, rfl⟩]
  rw [p, List.append_nil] at e
  rw [e]
  rfl
theorem pf_row {E : List Ev} : E ++ upE 0 (u : Int) (pairF n) ++ upE 0 (n : Int) (pairE false (u : Int)) = E ++ upE 0 ((u + 1 : Nat) : Int) (pairF n) := by
  have e := upE_succ (F := pairF n) (fr := 0) (x := (u : Int)) (by omega)
  rw [List.append_assoc, show upE 0 (n : Int) (pairE false (u : Int)) = pairF n (u : Int) from rfl, e]
  rfl
theorem pairF_len {i : Int} : (pairF n i).length ≤ n := by
  have := upE_len (fr := 0) (to := (n : Int)) (F := pairE false i) (B := 1) (fun k => by unfold pairE; split <;> simp)
  unfold pairF; omega
theorem pairFs_len : (upE 0 (u : Int) (pairF n)).length ≤ u * n := by
  have := upE_len (fr := 0) (to := (u : Int)) (F := pairF n) (B := n) (fun k => pairF_len)
  simpa using this
theorem pairK_len : (upE 0 (k : Int) (pairE false (u : Int))).length ≤ k := by
  have := upE_len (fr := 0) (to := (k : Int)) (F := pairE false (u : Int)) (B := 1) (fun k => by unfold pairE; split <;> simp)
  omega
end
theorem wE_eq {n : Nat} (h : 0 < n) {E : List Ev} : E ++ upE 0 (n : Int) (pairF n) ++ batE n = E ++ weightsE (n : Int) := by
  unfold weightsE batE
  rw [if_neg (by omega)]
  simp only [List.append_assoc]
  rfl
theorem lcheck_c (n lc : Nat) (la : Option Addr) (v : Nat → Nat) (W : World) (HX : LstAt W 1 (.slice la n lc) n (en ic (fun i => ((v i : Nat) : Int)) n)) (hn : n ≤ 1000000) (hv : ∀ i, i < n → 1 ≤ v i ∧ v i ≤ 255) (hd : ∀ i k, i < k → k < n → v i ≠ v k) : Calls Tryz.prog 127 [.slice la n lc].toArray W fun e w => e = .returned (.int .i64 0) ∧ Below W.heap.size W w := by
  refine c_enter (args := [.slice la n lc]) Tryz.func127 rfl rfl rfl fun a hk => ?_
  have hs := Sat.start W [lst 1 (.slice la n lc) n (en ic (fun i => ((v i : Nat) : Int)) n)] (fun r hr => by rcases List.mem_singleton.1 hr with rfl; exact HX)
  refine wpIn_seq ?_
  refine wpIn_region_lit ?_
  refine q_val hk (w_as rfl) rfl rfl rfl fun a hk => ?_
  refine (c_end (x_t ?_))
  refine wpIn_seq ?_
  refine wpIn_region_lit ?_
  refine q_mkm (fun _ => True) hk hs rfl rfl fun b1 w a hk hs => ?_
  refine q_val hk (w_as rfl) rfl rfl rfl fun a hk => ?_
  refine (c_end (x_t ?_))
  refine wpIn_seq ?_
  refine wpIn_seq ?_
  refine wpIn_region_lit ?_
  refine q_val hk (w_mv rfl) rfl rfl rfl fun a hk => ?_
  refine q_val hk (w_len rfl Tryz.underlying34) rfl rfl rfl fun a hk => ?_
  refine q_val hk (w_mv rfl) rfl rfl rfl fun a hk => ?_
  refine (c_end (x_t ?_))
  refine wpIn_block ?_
  refine c_loop (α := Nat) (fun k a w => k ≤ n ∧ Kn [] 27 [(9, .int .i64 ((k : Nat) : Int)), (8, .int .i64 ((n : Nat) : Int)), (7, .slice la n lc), (3, .map (some b1)), (0, .slice la n lc)] a ∧ Sat no W [mapI (fun _ => True) b1 (ksv (fun i => ((v i : Nat) : Int)) k)] [lst 1 (.slice la n lc) n (en ic (fun i => ((v i : Nat) : Int)) n)] w) (fun k => n - k) 0 ?_ ?_
  · exact ⟨(by omega), hk.k rfl (hk.k rfl (hk.k rfl (hk.k rfl (hk.k rfl hk.nil)))), hs⟩
  rintro k a w ⟨hf0, hk, hs⟩
  refine wpIn_seq ?_
  refine wpIn_region_lit ?_
  rcases Classical.em (((k : Nat) : Int) < ((n : Nat) : Int)) with hc2 | hc2
  · skip
    have hvi := hv k (by omega)
    refine q_val hk (w_lt rfl rfl (decide_eq_true hc2)) rfl rfl rfl fun a hk => ?_
    refine (c_end (x_t ?_))
    refine wpIn_seq ?_
    refine c_T hk rfl ?_
    refine (wpIn_skip (x_t ?_))
    refine wpIn_seq ?_
    refine wpIn_block ?_
    refine wpIn_seq ?_
    refine wpIn_region_lit ?_
    refine q_val hk (w_iaL (k := k) rfl rfl Tryz.underlying34 ty3 (hs.ri 0 rfl) (by omega) (by omega)) rfl rfl rfl fun a hk => ?_
    refine q_val hk (w_ld1 rfl ty3 (lstq (k := k) (hs.ri 0 rfl) (by omega) (en_chunk ic_len (by omega)))) rfl rfl rfl fun a hk => ?_
    refine q_val hk (w_as rfl) rfl rfl rfl fun a hk => ?_
    refine (c_end (x_t ?_))
    refine wpIn_seq ?_
    refine wpIn_seq ?_
    refine wpIn_region_lit ?_
    refine q_val hk (w_mv rfl) rfl rfl rfl fun a hk => ?_
    refine q_val hk (w_lt rfl rfl (decide_eq_false (by omega))) rfl rfl rfl fun a hk => ?_
    refine q_val hk (w_mv rfl) rfl rfl rfl fun a hk => ?_
    refine q_val hk (w_mv rfl) rfl rfl rfl fun a hk => ?_
    refine q_val hk (w_gt rfl rfl (decide_eq_false (by omega))) rfl rfl rfl fun a hk => ?_
    refine q_val hk (w_pickF rfl rfl) rfl rfl rfl fun a hk => ?_
    refine (c_end (x_t ?_))
    refine c_F hk rfl ?_
    refine (wpIn_skip (x_t ?_))
    refine wpIn_region_lit ?_
    refine q_val hk (w_mv rfl) rfl rfl rfl fun a hk => ?_
    refine q_val hk (w_mv rfl) rfl rfl rfl fun a hk => ?_
    refine q_mup hk hs rfl rfl rfl trivial Tryz.underlying204 Tryz.underlying3 rfl fun w hs => ?_
    refine (c_end (x_b (x_t ?_)))
    refine wpIn_region_lit ?_
    refine q_val hk (w_add rfl rfl (wr64 (by omega) (by omega))) rfl rfl rfl fun a hk => ?_
    refine q_val hk (w_mv rfl) rfl rfl rfl fun a hk => ?_
    refine (c_end (x_t ?_))
    have hs := hs.rw0 (congrArg (mapI (fun _ => True) b1) (ksv_succ (fun i => ((v i : Nat) : Int)) k))
    exact ⟨k + 1, ⟨(by omega), hk.k rfl (hk.k rfl (hk.k rfl (hk.k rfl (hk.k rfl hk.nil)))), hs⟩, by omega⟩
  · skip
    have hkn : k = n := by omega
    subst hkn
    refine q_val hk (w_lt rfl rfl (decide_eq_false hc2)) rfl rfl rfl fun a hk => ?_
    refine (c_end (x_t ?_))
    refine wpIn_seq ?_
    refine c_F hk rfl ?_
    refine (wpIn_exit (x_te (x_te (x_be ?_))))
    refine (x_t ?_)
    refine wpIn_seq ?_
    refine wpIn_seq ?_
    refine wpIn_region_lit ?_
    refine q_val hk (w_mv rfl) rfl rfl rfl fun a hk => ?_
    refine q_val hk (w_lnm (hs.mi 0 rfl) rfl Tryz.underlying204) rfl rfl rfl fun a hk => ?_
    refine q_val hk (w_mv rfl) rfl rfl rfl fun a hk => ?_
    refine q_val hk (w_len rfl Tryz.underlying34) rfl rfl rfl fun a hk => ?_
    refine q_val hk (w_lt rfl rfl (decide_eq_false (by rw [ksv_full (v := (fun i => ((v i : Nat) : Int))) (fun i j h1 h2 h3 => hd i j h1 (by omega) (Int.ofNat.inj h3))]; omega))) rfl rfl rfl fun a hk => ?_
    refine (c_end (x_t ?_))
    refine c_F hk rfl ?_
    refine (wpIn_skip (x_t ?_))
    refine wpIn_seq ?_
    refine wpIn_region_lit ?_
    refine q_val hk (w_as rfl) rfl rfl rfl fun a hk => ?_
    refine (c_end (x_t ?_))
    refine (wpIn_ret ?_)
    refine c_ret1 hk rfl rfl ?_
    exact ⟨rfl, hs.toBelow⟩
end Go.Proofs.YtdnkkbmpefhbjaaGreatDoor
namespace Go.Proofs.YtdnkkbmpefhbjaaGreatDoor
set_option linter.all false
open Go Go.RowKit Alg
def ptf {s : Bool} (x : Nat → Zp s) (k i : Nat) : Nat := if i < k then mq (x i) else 0
theorem ptf_zero {s : Bool} {x : Nat → Zp s} {n : Nat} : en vq (fun _ => 0) n = en vq (ptf x 0) n := en_congr fun i _ => by unfold ptf; rw [if_neg (Nat.not_lt_zero i)]
theorem ptf_step {s : Bool} {x : Nat → Zp s} {k n : Nat} : en vq (fun i => if i = k then mq (x k) else ptf x k i) n = en vq (ptf x (k + 1)) n := en_congr fun i _ => by
  unfold ptf
  by_cases h : i = k
  · subst h; rw [if_pos rfl, if_pos (Nat.lt_succ_self _)]
  · rw [if_neg h]
    by_cases l : i < k
    · rw [if_pos l, if_pos (by omega)]
    · rw [if_neg l, if_neg (by omega)]
theorem ptf_end {s : Bool} {x : Nat → Zp s} {n : Nat} : en vq (ptf x n) n = en vq (fun i => mq (x i)) n := en_congr fun i hi => by unfold ptf; rw [if_pos hi]
theorem lt255 {k : Nat} (h : k ≤ 255) : k < R4 := Nat.lt_of_le_of_lt h (by decide)
theorem points_m {F0 : Nat → Prop} {W : World} {M R : List Res} (s : Bool) (n lc : Nat) (la : Option Addr) (v : Nat → Nat) (w0 : World) (hs : Sat F0 W M ((lst 1 (.slice la n lc) n (en ic (fun i => ((v i : Nat) : Int)) n)) :: R) w0) (hn : n ≤ 1000000) (hv : ∀ i, i < n → 1 ≤ v i ∧ v i ≤ 255) : Calls Tryz.prog 117 [fieldV s, .slice la n lc].toArray w0 fun e w => ∃ b, e = .returned (.slice (some ⟨b, 0, none⟩) n n) ∧ Sat F0 W (blk b (en vq (fun i => mq (pt s v i)) n) 56 :: M) R w := by
  refine c_enter (args := [fieldV s, .slice la n lc]) Tryz.func117 rfl rfl rfl fun a hk => ?_
  refine wpIn_seq ?_
  refine wpIn_region_lit ?_
  refine q_box (vs := fieldL s) hk hs rfl rfl rfl rfl fun b1 w a hk hs => ?_
  refine q_val hk (w_as rfl) rfl rfl rfl fun a hk => ?_
  refine (c_end (x_t ?_))
  refine wpIn_seq ?_
  refine wpIn_region_lit ?_
  refine q_val hk (w_mv rfl) rfl rfl rfl fun a hk => ?_
  refine q_val hk (w_len rfl Tryz.underlying34) rfl rfl rfl fun a hk => ?_
  refine q_mks (k := n) (cs := vq 0) hk hs rfl rfl Tryz.underlying51 ty56 zr56 (by kernel_rfl) rfl rfl rfl rfl (by omega) (by omega) rfl rfl fun b2 w a hk hs => ?_
  have hs := hs.rw0 (show _ = blk b2 (en vq (fun _ => 0) n) 56 from rfl)
  refine q_val hk (w_as rfl) rfl rfl rfl fun a hk => ?_
  refine (c_end (x_t ?_))
  refine wpIn_seq ?_
  refine wpIn_seq ?_
  refine wpIn_region_lit ?_
  refine q_val hk (w_mv rfl) rfl rfl rfl fun a hk => ?_
  refine q_val hk (w_len rfl Tryz.underlying34) rfl rfl rfl fun a hk => ?_
  refine q_val hk (w_mv rfl) rfl rfl rfl fun a hk => ?_
  refine (c_end (x_t ?_))
  refine wpIn_block ?_
  have hs := hs.rw0 (congrArg (fun q => blk b2 q 56) (ptf_zero (x := pt s v)))
  refine c_loop (α := Nat) (fun k a w => k ≤ n ∧ Kn [] 28 [(13, .int .i64 ((k : Nat) : Int)), (12, .int .i64 ((n : Nat) : Int)), (11, .slice la n lc), (5, .slice (some ⟨b2, 0, none⟩) n n), (4, .slice none 0 0), (2, .pointer (some ⟨b1, 0, none⟩))] a ∧ Sat F0 W ((blk b2 (en vq (fun i => ptf (pt s v) k i) n) 56) :: (blk b1 (fieldL s) 120) :: M) ((lst 1 (.slice la n lc) n (en ic (fun i => ((v i : Nat) : Int)) n)) :: R) w) (fun k => n - k) 0 ?_ ?_
  · exact ⟨(by omega), hk.k rfl (hk.k rfl (hk.k rfl (hk.k rfl (hk.k rfl (hk.k rfl hk.nil))))), hs⟩
  rintro k a w ⟨hf0, hk, hs⟩
  refine wpIn_seq ?_
  refine wpIn_region_lit ?_
  rcases Classical.em (((k : Nat) : Int) < ((n : Nat) : Int)) with hc3 | hc3
  · skip
    have hvk := hv k (by omega)
    refine q_val hk (w_lt rfl rfl (decide_eq_true hc3)) rfl rfl rfl fun a hk => ?_
    refine (c_end (x_t ?_))
    refine wpIn_seq ?_
    refine c_T hk rfl ?_
    refine (wpIn_skip (x_t ?_))
    refine wpIn_seq ?_
    refine wpIn_block ?_
    refine wpIn_seq ?_
    refine wpIn_region_lit ?_
    refine q_val hk (w_mv rfl) rfl rfl rfl fun a hk => ?_
    refine q_val hk (w_iaL (k := k) rfl rfl Tryz.underlying34 ty3 (hs.ri 0 rfl) (by omega) (by omega)) rfl rfl rfl fun a hk => ?_
    refine q_val hk (w_ld1 rfl ty3 (lstq (k := k) (hs.ri 0 rfl) (by omega) (en_chunk ic_len (by omega)))) rfl rfl rfl fun a hk => ?_
    refine q_val hk (w_as rfl) rfl rfl rfl fun a hk => ?_
    refine q_val hk (w_as rfl) rfl rfl rfl fun a hk => ?_
    refine (c_end (x_t ?_))
    refine wpIn_region_lit ?_
    refine q_val hk (w_mv rfl) rfl rfl rfl fun a hk => ?_
    refine q_val hk (w_mv rfl) rfl rfl rfl fun a hk => ?_
    refine q_val hk (w_ldA rfl ty120 (.blk (n := 14) (hs.mi 1 rfl) rfl) rfl) rfl rfl rfl fun a hk => ?_
    refine q_val hk (w_mv rfl) rfl rfl rfl fun a hk => ?_
    refine q_val hk (w_conv rfl Tryz.underlying3 Tryz.underlying46 (wru64 (by omega) (by omega))) rfl rfl rfl fun a hk => ?_
    refine q_val hk (w_bldv1 (k := v k) rfl (by omega) (by unfold Go.Proofs.YtdnkkbmpefhbjaaGreatDoor.W; omega) Tryz.underlying47 ty46 zr47) rfl rfl rfl fun a hk => ?_
    refine q_call (caps := []) hk rfl rfl Tryz.func88 fo88 rfl rfl (zto_c (s := s) _ (v k) (lt255 hvk.2)) ?_
    rintro _ w ⟨rfl, hb⟩
    have hs := hs.below hb
    refine ⟨_, rfl, fun a hk => ?_⟩
    refine q_val hk (w_iaL (k := k) rfl rfl Tryz.underlying51 ty56 (blk_lst (hs.mi 0 rfl) (en_len vq_len) (Nat.le_refl _)) (by omega) (by omega)) rfl rfl rfl fun a hk => ?_
    refine q_stoE (c := vq) (xx := (mq (pt s v k))) (k := k) hk hs rfl rfl rfl ty56 rfl vq_len rfl (by omega) rfl fun w hs => ?_
    refine (c_end (x_b (x_t ?_)))
    refine wpIn_region_lit ?_
    refine q_val hk (w_add rfl rfl (wr64 (by omega) (by omega))) rfl rfl rfl fun a hk => ?_
    refine q_val hk (w_mv rfl) rfl rfl rfl fun a hk => ?_
    refine (c_end (x_t ?_))
    have hs := hs.rw0 (congrArg (fun q => blk b2 q 56) (ptf_step (x := pt s v)))
    exact ⟨k + 1, ⟨(by omega), hk.k rfl (hk.k rfl (hk.k rfl (hk.k rfl (hk.k rfl (hk.k rfl hk.nil))))), hs⟩, by omega⟩
  · skip
    refine q_val hk (w_lt rfl rfl (decide_eq_false hc3)) rfl rfl rfl fun a hk => ?_
    refine (c_end (x_t ?_))
    refine wpIn_seq ?_
    refine c_F hk rfl ?_
    refine (wpIn_exit (x_te (x_te (x_be ?_))))
    refine (x_t ?_)
    refine wpIn_seq ?_
    refine wpIn_region_lit ?_
    refine q_val hk (w_mv rfl) rfl rfl rfl fun a hk => ?_
    refine q_val hk (w_as rfl) rfl rfl rfl fun a hk => ?_
    refine (c_end (x_t ?_))
    refine (wpIn_ret ?_)
    refine c_ret1 hk rfl rfl ?_
    have hs := hs.up1
    have hs := hs.drop
    have hs := hs.toR (R' := R) (fun r hr => .of (by simp [hr]))
    have hkn : k = n := by omega
    subst hkn
    rw [ptf_end] at hs
    exact ⟨_, rfl, hs⟩
theorem weights_m0 {F0 : Nat → Prop} {W : World} {M R : List Res} (s : Bool) (n lc : Nat) (la : Option Addr) (v : Nat → Nat) (t : Option Nat) (evs : List Ev) (r : Res) (w0 : World) (hs : Sat F0 W (r :: M) R w0) (hT : TapeIs t evs r) (hL : HasR (lst 1 (.slice la n lc) n (en ic (fun i => ((v i : Nat) : Int)) n)) R) (h0 : 0 < n) (hn : n ≤ 255) (hv : ∀ i, i < n → 1 ≤ v i ∧ v i ≤ 255) (hd : ∀ i k, i < k → k < n → v i ≠ v k) (he : evs.length ≤ 100000000) : Calls Tryz.prog 116 [tval t, fieldV s, .slice la n lc].toArray w0 fun e w => ∃ b r, e = .returned (.tuple #[.slice (some ⟨b, 0, none⟩) n n, .int .i64 0]) ∧ TapeIs t (evs ++ weightsE (n : Int)) r ∧ Sat F0 W (r :: blk b (en vq (fun i => mq (wgt (pt s v) n i)) n) 56 :: M) R w := by
  refine c_enter (args := [tval t, fieldV s, .slice la n lc]) Tryz.func116 rfl rfl rfl fun a hk => ?_
  refine wpIn_seq ?_
  refine wpIn_region_lit ?_
  refine q_box (vs := fieldL s) hk hs rfl rfl rfl rfl fun b1 w a hk hs => ?_
  refine q_val hk (w_as rfl) rfl rfl rfl fun a hk => ?_
  refine q_val hk (w_as rfl) rfl rfl rfl fun a hk => ?_
  refine (c_end (x_t ?_))
  refine wpIn_seq ?_
  refine wpIn_seq ?_
  refine wpIn_region_lit ?_
  refine q_val hk (w_mv rfl) rfl rfl rfl fun a hk => ?_
  refine q_call (caps := []) hk rfl rfl Tryz.func127 fo127 rfl rfl (lcheck_c n lc la v _ ((hL).at_ hs) (by omega) hv hd) ?_
  rintro _ w ⟨rfl, hb⟩
  have hs := hs.below hb
  refine ⟨_, rfl, fun a hk => ?_⟩
  refine q_val hk (w_as rfl) rfl rfl rfl fun a hk => ?_
  refine (c_end (x_t ?_))
  refine wpIn_seq ?_
  refine wpIn_region_lit ?_
  refine q_val hk (w_mv rfl) rfl rfl rfl fun a hk => ?_
  refine q_val hk (w_ne rfl rfl (decide_eq_false (by decide))) rfl rfl rfl fun a hk => ?_
  refine (c_end (x_t ?_))
  refine c_F hk rfl ?_
  refine (wpIn_skip (x_t ?_))
  refine wpIn_seq ?_
  refine wpIn_region_lit ?_
  refine q_val hk (w_ldA rfl ty120 (.blk (n := 14) (hs.mi 0 rfl) rfl) rfl) rfl rfl rfl fun a hk => ?_
  refine q_val hk (w_mv rfl) rfl rfl rfl fun a hk => ?_
  refine q_call (caps := []) hk rfl rfl Tryz.func117 fo117 rfl rfl (points_m s n lc la v _ (hs.hasR hL) (by omega) hv) ?_
  rintro _ w ⟨b2, rfl, hs⟩
  have hs := hs.subR (R' := R) (by simp)
  refine ⟨_, rfl, fun a hk => ?_⟩
  refine q_val hk (w_as rfl) rfl rfl rfl fun a hk => ?_
  have hs := hs.frz (r := lst 4 (.slice (some ⟨b2, 0, none⟩) n n) n (en vq (fun i => mq (pt s v i)) n)) (blk_lst (hs.mi 0 rfl) (en_len vq_len) (Nat.le_refl _)) (fun _ h => (Option.some.inj h.2).symm)
  refine (c_end (x_t ?_))
  refine wpIn_seq ?_
  refine wpIn_region_lit ?_
  refine q_val hk (w_mv rfl) rfl rfl rfl fun a hk => ?_
  refine q_val hk (w_len rfl Tryz.underlying51) rfl rfl rfl fun a hk => ?_
  refine q_mks (k := n) (cs := vq 0) hk hs rfl rfl Tryz.underlying51 ty56 zr56 (by kernel_rfl) rfl rfl rfl rfl (by omega) (by omega) rfl rfl fun b3 w a hk hs => ?_
  have hs := hs.rw0 (show _ = blk b3 (en vq (fun _ => 0) n) 56 from rfl)
  refine q_val hk (w_as rfl) rfl rfl rfl fun a hk => ?_
  refine (c_end (x_t ?_))
  refine wpIn_seq ?_
  refine wpIn_seq ?_
  refine wpIn_region_lit ?_
  refine q_val hk (w_mv rfl) rfl rfl rfl fun a hk => ?_
  refine q_val hk (w_len rfl Tryz.underlying51) rfl rfl rfl fun a hk => ?_
  refine q_val hk (w_mv rfl) rfl rfl rfl fun a hk => ?_
  refine (c_end (x_t ?_))
  refine wpIn_block ?_
  have hs := hs.rw0 (congrArg (fun q => blk b3 q 56) (wdz_zero (x := pt s v)))
  refine c_loop (α := Nat) (fun u a w => ∃ (r : Res), u ≤ n ∧ TapeIs t (evs ++ upE 0 ((u : Nat) : Int) (pairF n)) r ∧ Kn [] 71 [(26, .int .i64 ((u : Nat) : Int)), (25, .int .i64 ((n : Nat) : Int)), (10, .slice (some ⟨b3, 0, none⟩) n n), (9, .slice (some ⟨b2, 0, none⟩) n n), (7, .int .i64 0), (6, .slice none 0 0), (4, .pointer (some ⟨b1, 0, none⟩)), (0, tval t)] a ∧ Sat F0 W ((blk b3 (en vq (fun i => Wd (pt s v) n u i) n) 56) :: (blk b1 (fieldL s) 120) :: r :: M) ((lst 4 (.slice (some ⟨b2, 0, none⟩) n n) n (en vq (fun i => mq (pt s v i)) n)) :: R) w) (fun u => n - u) 0 ?_ ?_
  · exact ⟨_, (by omega), (by rw [upE_nil (by omega), List.append_nil]; exact hT), hk.k rfl (hk.k rfl (hk.k rfl (hk.k rfl (hk.k rfl (hk.k rfl (hk.k rfl (hk.k rfl hk.nil))))))), hs⟩
  rintro u a w ⟨r, hf0, hf1, hk, hs⟩
  have hT := hf1
  refine wpIn_seq ?_
  refine wpIn_region_lit ?_
  rcases Classical.em (((u : Nat) : Int) < ((n : Nat) : Int)) with hc4 | hc4
  · skip
    refine q_val hk (w_lt rfl rfl (decide_eq_true hc4)) rfl rfl rfl fun a hk => ?_
    refine (c_end (x_t ?_))
    refine wpIn_seq ?_
    refine c_T hk rfl ?_
    refine (wpIn_skip (x_t ?_))
    refine wpIn_seq ?_
    refine wpIn_block ?_
    refine wpIn_seq ?_
    refine wpIn_region_lit ?_
    refine q_val hk (w_mv rfl) rfl rfl rfl fun a hk => ?_
    refine q_val hk (w_as rfl) rfl rfl rfl fun a hk => ?_
    refine (c_end (x_t ?_))
    refine wpIn_seq ?_
    refine wpIn_region_lit ?_
    refine q_val hk (w_mv rfl) rfl rfl rfl fun a hk => ?_
    refine q_val hk (w_mv rfl) rfl rfl rfl fun a hk => ?_
    refine q_val hk (w_fa rfl fq120_3 ty56) rfl rfl rfl fun a hk => ?_
    refine q_val hk (w_ldv (z := rone s) rfl ty56 (.blk (n := 4) (hs.mi 1 rfl) rfl)) rfl rfl rfl fun a hk => ?_
    refine q_val hk (w_iaL (k := u) rfl rfl Tryz.underlying51 ty56 (blk_lst (hs.mi 0 rfl) (en_len vq_len) (Nat.le_refl _)) (by omega) (by omega)) rfl rfl rfl fun a hk => ?_
    refine q_stoE (c := vq) (xx := (rone s)) (k := u) hk hs rfl rfl rfl ty56 rfl vq_len rfl (by omega) rfl fun w hs => ?_
    refine (c_end (x_t ?_))
    refine wpIn_seq ?_
    refine wpIn_region_lit ?_
    refine q_val hk (w_mv rfl) rfl rfl rfl fun a hk => ?_
    refine q_val hk (w_len rfl Tryz.underlying51) rfl rfl rfl fun a hk => ?_
    refine q_val hk (w_mv rfl) rfl rfl rfl fun a hk => ?_
    refine (c_end (x_t ?_))
    refine wpIn_block ?_
    have hs := hs.rw0 (congrArg (fun q => blk b3 q 56) (wdz_open (x := pt s v)))
    refine c_loop (α := Nat) (fun k a w => ∃ (r2 : Res), k ≤ n ∧ TapeIs t (evs ++ upE 0 ((u : Nat) : Int) (pairF n) ++ upE 0 ((k : Nat) : Int) (pairE false ((u : Nat) : Int))) r2 ∧ Kn [] 71 [(36, .int .i64 ((k : Nat) : Int)), (35, .int .i64 ((n : Nat) : Int)), (34, .slice (some ⟨b2, 0, none⟩) n n), (32, vec (rone s)), (31, .pointer (some ⟨b1, 6, none⟩)), (30, .int .i64 ((u : Nat) : Int)), (29, .slice (some ⟨b3, 0, none⟩) n n), (11, .int .i64 ((u : Nat) : Int)), (28, .int .i64 ((u : Nat) : Int)), (27, .bool true), (26, .int .i64 ((u : Nat) : Int)), (25, .int .i64 ((n : Nat) : Int)), (10, .slice (some ⟨b3, 0, none⟩) n n), (9, .slice (some ⟨b2, 0, none⟩) n n), (7, .int .i64 0), (6, .slice none 0 0), (4, .pointer (some ⟨b1, 0, none⟩)), (0, tval t)] a ∧ Sat F0 W ((blk b3 (en vq (fun i => Wi (pt s v) n u k i) n) 56) :: (blk b1 (fieldL s) 120) :: r2 :: M) ((lst 4 (.slice (some ⟨b2, 0, none⟩) n n) n (en vq (fun i => mq (pt s v i)) n)) :: R) w) (fun k => n - k) 0 ?_ ?_
    · exact ⟨_, (by omega), (by rw [upE_nil (a := ((0 : Nat) : Int)) (by omega), List.append_nil]; exact hT), hk.k rfl (hk.k rfl (hk.k rfl (hk.k rfl (hk.k rfl (hk.k rfl (hk.k rfl (hk.k rfl (hk.k rfl (hk.k rfl (hk.k rfl (hk.k rfl (hk.k rfl (hk.k rfl (hk.k rfl (hk.k rfl (hk.k rfl (hk.k rfl hk.nil))))))))))))))))), hs⟩
    rintro k a w ⟨r2, hf0, hf1, hk, hs⟩
    have hT := hf1
    have hlu := pairFs_len (n := n) (u := u)
    have hlk := pairK_len (k := k) (u := u)
    have hun : u * n ≤ 1000 * 1000 := Nat.mul_le_mul (by omega) (by omega)
    refine wpIn_seq ?_
    refine wpIn_region_lit ?_
    rcases Classical.em (((k : Nat) : Int) < ((n : Nat) : Int)) with hc5 | hc5
    · skip
      refine q_val hk (w_lt rfl rfl (decide_eq_true hc5)) rfl rfl rfl fun a hk => ?_
      refine (c_end (x_t ?_))
      refine wpIn_seq ?_
      refine c_T hk rfl ?_
      refine (wpIn_skip (x_t ?_))
      refine wpIn_seq ?_
      refine wpIn_block ?_
      refine wpIn_seq ?_
      refine wpIn_region_lit ?_
      refine q_val hk (w_mv rfl) rfl rfl rfl fun a hk => ?_
      refine q_val hk (w_as rfl) rfl rfl rfl fun a hk => ?_
      refine (c_end (x_t ?_))
      refine wpIn_seq ?_
      refine wpIn_region_lit ?_
      refine q_val hk (w_mv rfl) rfl rfl rfl fun a hk => ?_
      refine q_val hk (w_mv rfl) rfl rfl rfl fun a hk => ?_
      rcases Classical.em (((k : Nat) : Int) ≠ ((u : Nat) : Int)) with hc6 | hc6
      · skip
        refine q_val hk (w_ne rfl rfl (decide_eq_true hc6)) rfl rfl rfl fun a hk => ?_
        refine (c_end (x_t ?_))
        refine c_T hk rfl ?_
        refine wpIn_seq ?_
        refine wpIn_region_lit ?_
        refine q_val hk (w_mv rfl) rfl rfl rfl fun a hk => ?_
        refine q_val hk (w_mv rfl) rfl rfl rfl fun a hk => ?_
        refine q_val hk (w_mv rfl) rfl rfl rfl fun a hk => ?_
        have hs := hs.up2
        refine q_call (caps := []) hk rfl rfl Tryz.func61 fo61 rfl rfl (note_m t 3 ((u : Nat) : Int) ((k : Nat) : Int) (evs ++ upE 0 ((u : Nat) : Int) (pairF n) ++ upE 0 ((k : Nat) : Int) (pairE false ((u : Nat) : Int))) _ _ hT hs (by simp only [List.length_append]; omega)) ?_
        rintro _ w ⟨v7, r8, rfl, ht9, hs⟩
        have hT := ht9
        refine ⟨_, rfl, fun a hk => ?_⟩
        refine (c_end (x_t ?_))
        have hL := okL.cons (hs.mi 2 rfl) (okL.cons (hs.ri 0 rfl) okL.nil)
        refine d_begin _ 20 (by kernel_rfl) rfl hs hL fun w hs hL => ?_
        refine d_join (n2 := 3) 131071 (fun a w => Kn [] 71 [(62, vec (mq ((pt s v u) - (pt s v k)))), (52, vec (mq (wr (pt s v) u k))), (51, .pointer (some ((adq (some ⟨b3, 0, none⟩)).add (u * 4)))), (61, vec (mq (pt s v k))), (60, .pointer (some ((adq (some ⟨b2, 0, none⟩)).add (k * 4)))), (59, .int .i64 ((k : Nat) : Int)), (58, .slice (some ⟨b2, 0, none⟩) n n), (57, vec (mq (pt s v u))), (56, .pointer (some ((adq (some ⟨b2, 0, none⟩)).add (u * 4)))), (55, .int .i64 ((u : Nat) : Int)), (54, .slice (some ⟨b2, 0, none⟩) n n), (53, fieldV s), (50, .int .i64 ((u : Nat) : Int)), (49, .slice (some ⟨b3, 0, none⟩) n n), (48, fieldV s), (47, .int .i64 ((u : Nat) : Int)), (46, .slice (some ⟨b3, 0, none⟩) n n), (45, v7), (44, .int .i64 ((k : Nat) : Int)), (43, .int .i64 ((u : Nat) : Int)), (42, tval t), (41, .bool true), (40, .int .i64 ((u : Nat) : Int)), (39, .int .i64 ((k : Nat) : Int)), (12, .int .i64 ((k : Nat) : Int)), (38, .int .i64 ((k : Nat) : Int)), (37, .bool true), (36, .int .i64 ((k : Nat) : Int)), (35, .int .i64 ((n : Nat) : Int)), (34, .slice (some ⟨b2, 0, none⟩) n n), (32, vec (rone s)), (31, .pointer (some ⟨b1, 6, none⟩)), (30, .int .i64 ((u : Nat) : Int)), (29, .slice (some ⟨b3, 0, none⟩) n n), (11, .int .i64 ((u : Nat) : Int)), (28, .int .i64 ((u : Nat) : Int)), (27, .bool true), (26, .int .i64 ((u : Nat) : Int)), (25, .int .i64 ((n : Nat) : Int)), (10, .slice (some ⟨b3, 0, none⟩) n n), (9, .slice (some ⟨b2, 0, none⟩) n n), (7, .int .i64 0), (6, .slice none 0 0), (4, .pointer (some ⟨b1, 0, none⟩)), (0, tval t)] a ∧ Sat F0 W (r8 :: (blk b3 (en vq (fun i => Wi (pt s v) n u k i) n) 56) :: (blk b1 (fieldL s) 120) :: M) ((lst 4 (.slice (some ⟨b2, 0, none⟩) n n) n (en vq (fun i => mq (pt s v i)) n)) :: R) w ∧ okL [blk b1 (fieldL s) 120, lst 4 (.slice (some ⟨b2, 0, none⟩) n n) n (en vq (fun i => mq (pt s v i)) n)] w) ?_ ?_
        · intro hJ131071
          refine d_join (n2 := 4) 131007 (fun a w => Kn [] 71 [(62, vec (mq ((pt s v u) - (pt s v k)))), (51, .pointer (some ((adq (some ⟨b3, 0, none⟩)).add (u * 4)))), (61, vec (mq (pt s v k))), (60, .pointer (some ((adq (some ⟨b2, 0, none⟩)).add (k * 4)))), (59, .int .i64 ((k : Nat) : Int)), (58, .slice (some ⟨b2, 0, none⟩) n n), (57, vec (mq (pt s v u))), (56, .pointer (some ((adq (some ⟨b2, 0, none⟩)).add (u * 4)))), (55, .int .i64 ((u : Nat) : Int)), (54, .slice (some ⟨b2, 0, none⟩) n n), (53, fieldV s), (50, .int .i64 ((u : Nat) : Int)), (49, .slice (some ⟨b3, 0, none⟩) n n), (48, fieldV s), (47, .int .i64 ((u : Nat) : Int)), (46, .slice (some ⟨b3, 0, none⟩) n n), (45, v7), (44, .int .i64 ((k : Nat) : Int)), (43, .int .i64 ((u : Nat) : Int)), (42, tval t), (41, .bool true), (40, .int .i64 ((u : Nat) : Int)), (39, .int .i64 ((k : Nat) : Int)), (12, .int .i64 ((k : Nat) : Int)), (38, .int .i64 ((k : Nat) : Int)), (37, .bool true), (36, .int .i64 ((k : Nat) : Int)), (35, .int .i64 ((n : Nat) : Int)), (34, .slice (some ⟨b2, 0, none⟩) n n), (32, vec (rone s)), (31, .pointer (some ⟨b1, 6, none⟩)), (30, .int .i64 ((u : Nat) : Int)), (29, .slice (some ⟨b3, 0, none⟩) n n), (11, .int .i64 ((u : Nat) : Int)), (28, .int .i64 ((u : Nat) : Int)), (27, .bool true), (26, .int .i64 ((u : Nat) : Int)), (25, .int .i64 ((n : Nat) : Int)), (10, .slice (some ⟨b3, 0, none⟩) n n), (9, .slice (some ⟨b2, 0, none⟩) n n), (7, .int .i64 0), (6, .slice none 0 0), (4, .pointer (some ⟨b1, 0, none⟩)), (0, tval t)] a ∧ Sat F0 W (r8 :: (blk b3 (en vq (fun i => Wi (pt s v) n u k i) n) 56) :: (blk b1 (fieldL s) 120) :: M) ((lst 4 (.slice (some ⟨b2, 0, none⟩) n n) n (en vq (fun i => mq (pt s v i)) n)) :: R) w ∧ okL [blk b1 (fieldL s) 120, lst 4 (.slice (some ⟨b2, 0, none⟩) n n) n (en vq (fun i => mq (pt s v i)) n)] w) ?_ ?_
          · intro hJ131007
            refine d_v 0 1 hk hL rfl (by kernel_rfl) rfl rfl (fun w hL => w_mv rfl) fun a hk => ?_
            refine d_v 1 3 hk hL rfl (by kernel_rfl) rfl rfl (fun w hL => w_mv rfl) fun a hk => ?_
            refine d_v 2 7 hk hL rfl (by kernel_rfl) rfl rfl (fun w hL => w_ldA rfl ty120 (.blk (n := 14) (hL.at 0 rfl) rfl) rfl) fun a hk => ?_
            refine d_v 3 15 hk hL rfl (by kernel_rfl) rfl rfl (fun w hL => w_mv rfl) fun a hk => ?_
            refine d_v 4 31 hk hL rfl (by kernel_rfl) rfl rfl (fun w hL => w_mv rfl) fun a hk => ?_
            refine d_v 7 159 hk hL rfl (by kernel_rfl) rfl rfl (fun w hL => w_ldA rfl ty120 (.blk (n := 14) (hL.at 0 rfl) rfl) rfl) fun a hk => ?_
            refine d_v 8 415 hk hL rfl (by kernel_rfl) rfl rfl (fun w hL => w_mv rfl) fun a hk => ?_
            refine d_v 9 927 hk hL rfl (by kernel_rfl) rfl rfl (fun w hL => w_mv rfl) fun a hk => ?_
            refine d_v 10 1951 hk hL rfl (by kernel_rfl) rfl rfl (fun w hL => w_iaL (k := u) rfl rfl Tryz.underlying51 ty56 (hL.at 1 rfl) (by omega) (by omega)) fun a hk => ?_
            refine d_v 11 3999 hk hL rfl (by kernel_rfl) rfl rfl (fun w hL => w_ldv (z := mq (pt s v u)) rfl ty56 (lstq (k := u) (hL.at 1 rfl) (by omega) (en_chunk vq_len (by omega)))) fun a hk => ?_
            refine d_v 12 8095 hk hL rfl (by kernel_rfl) rfl rfl (fun w hL => w_mv rfl) fun a hk => ?_
            refine d_v 13 16287 hk hL rfl (by kernel_rfl) rfl rfl (fun w hL => w_mv rfl) fun a hk => ?_
            refine d_v 14 32671 hk hL rfl (by kernel_rfl) rfl rfl (fun w hL => w_iaL (k := k) rfl rfl Tryz.underlying51 ty56 (hL.at 1 rfl) (by omega) (by omega)) fun a hk => ?_
            refine d_v 15 65439 hk hL rfl (by kernel_rfl) rfl rfl (fun w hL => w_ldv (z := mq (pt s v k)) rfl ty56 (lstq (k := k) (hL.at 1 rfl) (by omega) (en_chunk vq_len (by omega)))) fun a hk => ?_
            refine d_2 5 16 65471 130975 rfl rfl (by kernel_rfl) (fun K hK => ?_) (fun K hK => ?_)
            · skip
              refine q_val hk (w_iaL (k := u) rfl rfl Tryz.underlying51 ty56 (blk_lst (hs.mi 1 rfl) (en_len vq_len) (Nat.le_refl _)) (by omega) (by omega)) rfl rfl rfl fun a hk => ?_
              have hL := okL.cons (hs.mi 2 rfl) (okL.cons (hs.ri 0 rfl) okL.nil)
              refine c_end (x_t (hK _ _ hL ?_))
              clear hK K
              refine d_2 6 16 65535 131007 rfl rfl (by kernel_rfl) (fun K hK => ?_) (fun K hK => ?_)
              · skip
                refine q_val hk (w_ldv (z := mq (wr (pt s v) u k)) rfl ty56 (vq_eq wi_at (lstq (k := u) (blk_lst (hs.mi 1 rfl) (en_len vq_len) (Nat.le_refl _)) (by omega) (en_chunk vq_len (by omega))))) rfl rfl rfl fun a hk => ?_
                have hL := okL.cons (hs.mi 2 rfl) (okL.cons (hs.ri 0 rfl) okL.nil)
                refine c_end (x_t (hK _ _ hL ?_))
                clear hK K
                refine d_1 16 131071 rfl (by kernel_rfl) fun K hK => ?_
                refine q_call (caps := []) hk rfl rfl Tryz.func143 fo143 rfl rfl (zsub_c (x := (pt s v u)) (y := (pt s v k)) _ rfl rfl) ?_
                rintro _ w ⟨rfl, hb⟩
                have hs := hs.below hb
                refine ⟨_, rfl, fun a hk => ?_⟩
                have hL := okL.cons (hs.mi 2 rfl) (okL.cons (hs.ri 0 rfl) okL.nil)
                refine c_end (x_t (hK _ _ hL ?_))
                clear hK K
                have hL := okL.cons (hs.mi 2 rfl) (okL.cons (hs.ri 0 rfl) okL.nil)
                exact hJ131071 _ _ ⟨hk.k rfl (hk.k rfl (hk.k rfl (hk.k rfl (hk.k rfl (hk.k rfl (hk.k rfl (hk.k rfl (hk.k rfl (hk.k rfl (hk.k rfl (hk.k rfl (hk.k rfl (hk.k rfl (hk.k rfl (hk.k rfl (hk.k rfl (hk.k rfl (hk.k rfl (hk.k rfl (hk.k rfl (hk.k rfl (hk.k rfl (hk.k rfl (hk.k rfl (hk.k rfl (hk.k rfl (hk.k rfl (hk.k rfl (hk.k rfl (hk.k rfl (hk.k rfl (hk.k rfl (hk.k rfl (hk.k rfl (hk.k rfl (hk.k rfl (hk.k rfl (hk.k rfl (hk.k rfl (hk.k rfl (hk.k rfl (hk.k rfl (hk.k rfl (hk.k rfl hk.nil)))))))))))))))))))))))))))))))))))))))))))), hs, hL⟩
              · skip
                refine q_call (caps := []) hk rfl rfl Tryz.func143 fo143 rfl rfl (zsub_c (x := (pt s v u)) (y := (pt s v k)) _ rfl rfl) ?_
                rintro _ w ⟨rfl, hb⟩
                have hs := hs.below hb
                refine ⟨_, rfl, fun a hk => ?_⟩
                have hL := okL.cons (hs.mi 2 rfl) (okL.cons (hs.ri 0 rfl) okL.nil)
                refine c_end (x_t (hK _ _ hL ?_))
                clear hK K
                have hL := okL.cons (hs.mi 2 rfl) (okL.cons (hs.ri 0 rfl) okL.nil)
                exact hJ131007 _ _ ⟨hk.k rfl (hk.k rfl (hk.k rfl (hk.k rfl (hk.k rfl (hk.k rfl (hk.k rfl (hk.k rfl (hk.k rfl (hk.k rfl (hk.k rfl (hk.k rfl (hk.k rfl (hk.k rfl (hk.k rfl (hk.k rfl (hk.k rfl (hk.k rfl (hk.k rfl (hk.k rfl (hk.k rfl (hk.k rfl (hk.k rfl (hk.k rfl (hk.k rfl (hk.k rfl (hk.k rfl (hk.k rfl (hk.k rfl (hk.k rfl (hk.k rfl (hk.k rfl (hk.k rfl (hk.k rfl (hk.k rfl (hk.k rfl (hk.k rfl (hk.k rfl (hk.k rfl (hk.k rfl (hk.k rfl (hk.k rfl (hk.k rfl (hk.k rfl hk.nil))))))))))))))))))))))))))))))))))))))))))), hs, hL⟩
            · skip
              refine q_call (caps := []) hk rfl rfl Tryz.func143 fo143 rfl rfl (zsub_c (x := (pt s v u)) (y := (pt s v k)) _ rfl rfl) ?_
              rintro _ w ⟨rfl, hb⟩
              have hs := hs.below hb
              refine ⟨_, rfl, fun a hk => ?_⟩
              have hL := okL.cons (hs.mi 2 rfl) (okL.cons (hs.ri 0 rfl) okL.nil)
              refine c_end (x_t (hK _ _ hL ?_))
              clear hK K
              refine d_1 5 131007 rfl (by kernel_rfl) fun K hK => ?_
              refine q_val hk (w_iaL (k := u) rfl rfl Tryz.underlying51 ty56 (blk_lst (hs.mi 1 rfl) (en_len vq_len) (Nat.le_refl _)) (by omega) (by omega)) rfl rfl rfl fun a hk => ?_
              have hL := okL.cons (hs.mi 2 rfl) (okL.cons (hs.ri 0 rfl) okL.nil)
              refine c_end (x_t (hK _ _ hL ?_))
              clear hK K
              have hL := okL.cons (hs.mi 2 rfl) (okL.cons (hs.ri 0 rfl) okL.nil)
              exact hJ131007 _ _ ⟨hk.k rfl (hk.k rfl (hk.k rfl (hk.k rfl (hk.k rfl (hk.k rfl (hk.k rfl (hk.k rfl (hk.k rfl (hk.k rfl (hk.k rfl (hk.k rfl (hk.k rfl (hk.k rfl (hk.k rfl (hk.k rfl (hk.k rfl (hk.k rfl (hk.k rfl (hk.k rfl (hk.k rfl (hk.k rfl (hk.k rfl (hk.k rfl (hk.k rfl (hk.k rfl (hk.k rfl (hk.k rfl (hk.k rfl (hk.k rfl (hk.k rfl (hk.k rfl (hk.k rfl (hk.k rfl (hk.k rfl (hk.k rfl (hk.k rfl (hk.k rfl (hk.k rfl (hk.k rfl (hk.k rfl (hk.k rfl (hk.k rfl (hk.k rfl hk.nil))))))))))))))))))))))))))))))))))))))))))), hs, hL⟩
          · rintro a w ⟨hk, hs, hL⟩
            refine d_1 6 131071 rfl (by kernel_rfl) fun K hK => ?_
            refine q_val hk (w_ldv (z := mq (wr (pt s v) u k)) rfl ty56 (vq_eq wi_at (lstq (k := u) (blk_lst (hs.mi 1 rfl) (en_len vq_len) (Nat.le_refl _)) (by omega) (en_chunk vq_len (by omega))))) rfl rfl rfl fun a hk => ?_
            have hL := okL.cons (hs.mi 2 rfl) (okL.cons (hs.ri 0 rfl) okL.nil)
            refine c_end (x_t (hK _ _ hL ?_))
            clear hK K
            have hL := okL.cons (hs.mi 2 rfl) (okL.cons (hs.ri 0 rfl) okL.nil)
            exact hJ131071 _ _ ⟨hk.k rfl (hk.k rfl (hk.k rfl (hk.k rfl (hk.k rfl (hk.k rfl (hk.k rfl (hk.k rfl (hk.k rfl (hk.k rfl (hk.k rfl (hk.k rfl (hk.k rfl (hk.k rfl (hk.k rfl (hk.k rfl (hk.k rfl (hk.k rfl (hk.k rfl (hk.k rfl (hk.k rfl (hk.k rfl (hk.k rfl (hk.k rfl (hk.k rfl (hk.k rfl (hk.k rfl (hk.k rfl (hk.k rfl (hk.k rfl (hk.k rfl (hk.k rfl (hk.k rfl (hk.k rfl (hk.k rfl (hk.k rfl (hk.k rfl (hk.k rfl (hk.k rfl (hk.k rfl (hk.k rfl (hk.k rfl (hk.k rfl (hk.k rfl (hk.k rfl hk.nil)))))))))))))))))))))))))))))))))))))))))))), hs, hL⟩
        · rintro a w ⟨hk, hs, hL⟩
          refine d_1 17 262143 rfl (by kernel_rfl) fun K hK => ?_
          refine q_call (caps := []) hk rfl rfl Tryz.func120 fo120 rfl rfl (zmul_c (x := (wr (pt s v) u k)) (y := ((pt s v u) - (pt s v k))) _ rfl rfl) ?_
          rintro _ w ⟨rfl, hb⟩
          have hs := hs.below hb
          refine ⟨_, rfl, fun a hk => ?_⟩
          have hL := okL.cons (hs.mi 2 rfl) (okL.cons (hs.ri 0 rfl) okL.nil)
          refine c_end (x_t (hK _ _ hL ?_))
          clear hK K
          refine d_1 18 524287 rfl (by kernel_rfl) fun K hK => ?_
          refine q_val hk (w_iaL (k := u) rfl rfl Tryz.underlying51 ty56 (blk_lst (hs.mi 1 rfl) (en_len vq_len) (Nat.le_refl _)) (by omega) (by omega)) rfl rfl rfl fun a hk => ?_
          have hL := okL.cons (hs.mi 2 rfl) (okL.cons (hs.ri 0 rfl) okL.nil)
          refine c_end (x_t (hK _ _ hL ?_))
          clear hK K
          refine d_1 19 1048575 rfl (by kernel_rfl) fun K hK => ?_
          have hs := hs.up1
          refine q_stoE (c := vq) (xx := (mq ((wr (pt s v) u k) * ((pt s v u) - (pt s v k))))) (k := u) hk hs rfl rfl rfl ty56 rfl vq_len rfl (by omega) rfl fun w hs => ?_
          have hL := okL.cons (hs.mi 2 rfl) (okL.cons (hs.ri 0 rfl) okL.nil)
          refine c_end (x_t (hK _ _ hL ?_))
          clear hK K
          refine d_end (by kernel_rfl) ?_
          refine (x_b (x_t ?_))
          refine wpIn_region_lit ?_
          refine q_val hk (w_add rfl rfl (wr64 (by omega) (by omega))) rfl rfl rfl fun a hk => ?_
          refine q_val hk (w_mv rfl) rfl rfl rfl fun a hk => ?_
          refine (c_end (x_t ?_))
          have hs := hs.rw0 (congrArg (fun q => blk b3 q 56) (wi_step (x := pt s v) (by omega)))
          rw [pf_ne (by omega)] at hT
          have hs := hs.up1
          have hs := hs.up2
          have hs := hs.up2
          exact ⟨k + 1, ⟨_, (by omega), hT, hk.k rfl (hk.k rfl (hk.k rfl (hk.k rfl (hk.k rfl (hk.k rfl (hk.k rfl (hk.k rfl (hk.k rfl (hk.k rfl (hk.k rfl (hk.k rfl (hk.k rfl (hk.k rfl (hk.k rfl (hk.k rfl (hk.k rfl (hk.k rfl hk.nil))))))))))))))))), hs⟩, by omega⟩
      · skip
        refine q_val hk (w_ne rfl rfl (decide_eq_false hc6)) rfl rfl rfl fun a hk => ?_
        refine (c_end (x_t ?_))
        refine c_F hk rfl ?_
        refine (wpIn_skip (x_b (x_t ?_)))
        refine wpIn_region_lit ?_
        refine q_val hk (w_add rfl rfl (wr64 (by omega) (by omega))) rfl rfl rfl fun a hk => ?_
        refine q_val hk (w_mv rfl) rfl rfl rfl fun a hk => ?_
        refine (c_end (x_t ?_))
        have hs := hs.rw0 (congrArg (fun q => blk b3 q 56) (wi_skip (x := pt s v) (by omega)))
        rw [pf_eq (by omega)] at hT
        exact ⟨k + 1, ⟨_, (by omega), hT, hk.k rfl (hk.k rfl (hk.k rfl (hk.k rfl (hk.k rfl (hk.k rfl (hk.k rfl (hk.k rfl (hk.k rfl (hk.k rfl (hk.k rfl (hk.k rfl (hk.k rfl (hk.k rfl (hk.k rfl (hk.k rfl (hk.k rfl (hk.k rfl hk.nil))))))))))))))))), hs⟩, by omega⟩
    · skip
      refine q_val hk (w_lt rfl rfl (decide_eq_false hc5)) rfl rfl rfl fun a hk => ?_
      refine (c_end (x_t ?_))
      refine wpIn_seq ?_
      refine c_F hk rfl ?_
      refine (wpIn_exit (x_te (x_te (x_be ?_))))
      refine (x_b (x_t ?_))
      refine wpIn_region_lit ?_
      refine q_val hk (w_add rfl rfl (wr64 (by omega) (by omega))) rfl rfl rfl fun a hk => ?_
      refine q_val hk (w_mv rfl) rfl rfl rfl fun a hk => ?_
      refine (c_end (x_t ?_))
      have hkn : k = n := by omega
      subst hkn
      have hs := hs.rw0 (congrArg (fun q => blk b3 q 56) (wi_shut (x := pt s v) (u := u)))
      rw [pf_row] at hT
      exact ⟨u + 1, ⟨_, (by omega), hT, hk.k rfl (hk.k rfl (hk.k rfl (hk.k rfl (hk.k rfl (hk.k rfl (hk.k rfl (hk.k rfl hk.nil))))))), hs⟩, by omega⟩
  · skip
    refine q_val hk (w_lt rfl rfl (decide_eq_false hc4)) rfl rfl rfl fun a hk => ?_
    refine (c_end (x_t ?_))
    refine wpIn_seq ?_
    refine c_F hk rfl ?_
    refine (wpIn_exit (x_te (x_te (x_be ?_))))
    refine (x_t ?_)
    refine wpIn_seq ?_
    refine wpIn_region_lit ?_
    refine q_val hk (w_mv rfl) rfl rfl rfl fun a hk => ?_
    refine q_val hk (w_ldA rfl ty120 (.blk (n := 14) (hs.mi 1 rfl) rfl) rfl) rfl rfl rfl fun a hk => ?_
    refine q_val hk (w_mv rfl) rfl rfl rfl fun a hk => ?_
    have hun : u = n := by omega
    rw [hun] at hs hT
    have hs := hs.rw0 (congrArg (fun q => blk b3 q 56) (wdz_end (x := pt s v)))
    have hs := hs.frz (r := lst 4 (.slice (some ⟨b3, 0, none⟩) n n) n (en vq (fun i => mq (wr (pt s v) i n)) n)) (blk_lst (hs.mi 0 rfl) (en_len vq_len) (Nat.le_refl _)) (fun _ h => (Option.some.inj h.2).symm)
    have hs := hs.up1
    have hlu := pairFs_len (n := n) (u := n)
    have hnn : n * n ≤ 1000 * 1000 := Nat.mul_le_mul (by omega) (by omega)
    refine q_call (caps := []) hk rfl rfl Tryz.func144 fo144 rfl rfl (batch_m s n n (some ⟨b3, 0, none⟩) (fun i => wr (pt s v) i n) t (evs ++ upE 0 ((n : Nat) : Int) (pairF n)) _ _ hs hT (HasR.nth 0 rfl) (by omega) (by omega) (by simp only [List.length_append]; omega)) ?_
    rintro _ w ⟨b10, r11, rfl, ht12, hs⟩
    have hT := ht12
    refine ⟨_, rfl, fun a hk => ?_⟩
    refine q_val hk (w_as rfl) rfl rfl rfl fun a hk => ?_
    refine q_val hk (w_as rfl) rfl rfl rfl fun a hk => ?_
    refine (c_end (x_t ?_))
    refine (wpIn_ret ?_)
    refine c_ret2 hk rfl rfl rfl ?_
    have hs := hs.up2
    have hs := hs.drop
    have hs := hs.toR (R' := R) (fun r hr => .of (by simp [hr]))
    rw [wE_eq h0] at hT
    exact ⟨_, _, rfl, hT, hs⟩
end Go.Proofs.YtdnkkbmpefhbjaaGreatDoor
namespace Go.Proofs.YtdnkkbmpefhbjaaGreatDoor
set_option linter.all false
open Go Go.RowKit Alg
def lin {s : Bool} (y : Zp s) (k : Nat) : Zp s := if k = 0 then 0 - y else 1
/-- The product of X - x i. -/
def mst {s : Bool} (x : Nat → Zp s) : Nat → Nat → Zp s
  | 0 => fun _ => 1
  | k + 1 => mall (mst x k) (lin (x k)) 2 (k + 1)
theorem mst_zero {s : Bool} {x : Nat → Zp s} : vq (rone s) = en vq (fun i => mq (mst x 0 i)) 1 := by
  show _ = vq (mq (1 : Zp s)) ++ []
  rw [mq_one, List.append_nil]
theorem lin_two {s : Bool} {y : Zp s} : vq (mq (0 - y)) ++ vq (rone s) = en vq (fun i => mq (lin y i)) 2 := by
  show _ = vq (mq (lin y 0)) ++ (vq (mq (lin y 1)) ++ [])
  show _ = vq (mq (0 - y)) ++ (vq (mq (1 : Zp s)) ++ [])
  rw [mq_one, List.append_nil]
theorem master_m {F0 : Nat → Prop} {W : World} {M R : List Res} (s : Bool) (n lc : Nat) (la : Option Addr) (x : Nat → Zp s) (w0 : World) (hs : Sat F0 W M ((lst 4 (.slice la n lc) n (en vq (fun i => mq (x i)) n)) :: R) w0) (hn : n ≤ 1000) : Calls Tryz.prog 118 [fieldV s, .slice la n lc].toArray w0 fun e w => ∃ b, e = .returned (.slice (some ⟨b, 0, none⟩) (n + 1) (n + 1)) ∧ Sat F0 W (blk b (en vq (fun i => mq (mst x n i)) (n + 1)) 56 :: M) R w := by
  refine c_enter (args := [fieldV s, .slice la n lc]) Tryz.func118 rfl rfl rfl fun a hk => ?_
  refine wpIn_seq ?_
  refine wpIn_region_lit ?_
  refine q_box (vs := fieldL s) hk hs rfl rfl rfl rfl fun b1 w a hk hs => ?_
  refine q_val hk (w_as rfl) rfl rfl rfl fun a hk => ?_
  refine (c_end (x_t ?_))
  refine wpIn_seq ?_
  refine wpIn_region_lit ?_
  refine q_val hk (w_fa rfl fq120_3 ty56) rfl rfl rfl fun a hk => ?_
  refine q_val hk (w_ldv (z := rone s) rfl ty56 (.blk (n := 4) (hs.mi 0 rfl) rfl)) rfl rfl rfl fun a hk => ?_
  refine q_bsl (els := [.tmp 9]) (cs := [.int .u64 ((dg 0 (rone s) : Nat) : Int), .int .u64 ((dg 1 (rone s) : Nat) : Int), .int .u64 ((dg 2 (rone s) : Nat) : Int), .int .u64 ((dg 3 (rone s) : Nat) : Int)]) hk hs rfl Tryz.underlying51 ty56 zr56 rfl rfl rfl rfl rfl rfl rfl fun b2 w a hk hs => ?_
  refine q_val hk (w_as rfl) rfl rfl rfl fun a hk => ?_
  refine (c_end (x_t ?_))
  refine wpIn_seq ?_
  refine wpIn_seq ?_
  refine wpIn_region_lit ?_
  refine q_val hk (w_mv rfl) rfl rfl rfl fun a hk => ?_
  refine q_val hk (w_len rfl Tryz.underlying51) rfl rfl rfl fun a hk => ?_
  refine q_val hk (w_mv rfl) rfl rfl rfl fun a hk => ?_
  refine (c_end (x_t ?_))
  refine wpIn_block ?_
  have hs := hs.rw0 (congrArg (fun q => blk b2 q 56) (mst_zero (x := x)))
  refine c_loop (α := Nat) (fun k a w => ∃ (ob : Nat), k ≤ n ∧ Kn [] 28 [(13, .int .i64 ((k : Nat) : Int)), (5, .slice (some ⟨ob, 0, none⟩) (k + 1) (k + 1)), (12, .int .i64 ((n : Nat) : Int)), (11, .slice la n lc), (4, .slice none 0 0), (2, .pointer (some ⟨b1, 0, none⟩))] a ∧ Sat F0 W ((blk ob (en vq (fun i => mq (mst x k i)) (k + 1)) 56) :: (blk b1 (fieldL s) 120) :: M) ((lst 4 (.slice la n lc) n (en vq (fun i => mq (x i)) n)) :: R) w) (fun k => n - k) 0 ?_ ?_
  · exact ⟨_, (by omega), hk.k rfl (hk.k rfl (hk.k rfl (hk.k rfl (hk.k rfl (hk.k rfl hk.nil))))), hs⟩
  rintro k a w ⟨ob, hf0, hk, hs⟩
  refine wpIn_seq ?_
  refine wpIn_region_lit ?_
  rcases Classical.em (((k : Nat) : Int) < ((n : Nat) : Int)) with hc3 | hc3
  · skip
    refine q_val hk (w_lt rfl rfl (decide_eq_true hc3)) rfl rfl rfl fun a hk => ?_
    refine (c_end (x_t ?_))
    refine wpIn_seq ?_
    refine c_T hk rfl ?_
    refine (wpIn_skip (x_t ?_))
    refine wpIn_seq ?_
    refine wpIn_block ?_
    refine wpIn_seq ?_
    refine wpIn_region_lit ?_
    refine q_val hk (w_iaL (k := k) rfl rfl Tryz.underlying51 ty56 (hs.ri 0 rfl) (by omega) (by omega)) rfl rfl rfl fun a hk => ?_
    refine q_val hk (w_ldv (z := mq (x k)) rfl ty56 (lstq (k := k) (hs.ri 0 rfl) (by omega) (en_chunk vq_len (by omega)))) rfl rfl rfl fun a hk => ?_
    refine q_alc (vs := [.int .u64 0, .int .u64 0, .int .u64 0, .int .u64 0]) hk hs zr56 rfl rfl rfl fun b4 w a hk hs => ?_
    refine q_sto (o := 0) (cs := [.int .u64 ((dg 0 (mq (x k)) : Nat) : Int), .int .u64 ((dg 1 (mq (x k)) : Nat) : Int), .int .u64 ((dg 2 (mq (x k)) : Nat) : Int), .int .u64 ((dg 3 (mq (x k)) : Nat) : Int)]) (vs' := [.int .u64 ((dg 0 (mq (x k)) : Nat) : Int), .int .u64 ((dg 1 (mq (x k)) : Nat) : Int), .int .u64 ((dg 2 (mq (x k)) : Nat) : Int), .int .u64 ((dg 3 (mq (x k)) : Nat) : Int)]) hk hs rfl rfl rfl ty56 rfl rfl rfl rfl rfl rfl fun w hs => ?_
    refine (c_end (x_t ?_))
    have hL := okL.cons (hs.mi 2 rfl) (okL.cons (hs.mi 0 rfl) okL.nil)
    refine d_begin _ 10 (by kernel_rfl) rfl hs hL fun w hs hL => ?_
    refine d_v 0 1 hk hL rfl (by kernel_rfl) rfl rfl (fun w hL => w_ldA rfl ty120 (.blk (n := 14) (hL.at 0 rfl) rfl) rfl) fun a hk => ?_
    refine d_v 1 3 hk hL rfl (by kernel_rfl) rfl rfl (fun w hL => w_mv rfl) fun a hk => ?_
    refine d_v 2 7 hk hL rfl (by kernel_rfl) rfl rfl (fun w hL => w_ldA rfl ty120 (.blk (n := 14) (hL.at 0 rfl) rfl) rfl) fun a hk => ?_
    refine d_v 3 15 hk hL rfl (by kernel_rfl) rfl rfl (fun w hL => w_ldv (z := mq (x k)) rfl ty56 (.blk (n := 4) (hL.at 1 rfl) rfl)) fun a hk => ?_
    refine d_v 5 47 hk hL rfl (by kernel_rfl) rfl rfl (fun w hL => w_fa rfl fq120_3 ty56) fun a hk => ?_
    refine d_v 6 111 hk hL rfl (by kernel_rfl) rfl rfl (fun w hL => w_ldv (z := rone s) rfl ty56 (.blk (n := 4) (hL.at 0 rfl) rfl)) fun a hk => ?_
    refine d_1 4 127 rfl (by kernel_rfl) fun K hK => ?_
    refine q_call (caps := []) hk rfl rfl Tryz.func146 fo146 rfl rfl (zneg_c (x := (x k)) _ rfl) ?_
    rintro _ w ⟨rfl, hb⟩
    have hs := hs.below hb
    refine ⟨_, rfl, fun a hk => ?_⟩
    have hL := okL.cons (hs.mi 2 rfl) (okL.cons (hs.mi 0 rfl) okL.nil)
    refine c_end (x_t (hK _ _ hL ?_))
    clear hK K
    refine d_1 7 255 rfl (by kernel_rfl) fun K hK => ?_
    refine q_bsl (els := [.tmp 21, .tmp 23]) (cs := [.int .u64 ((dg 0 (mq (0 - (x k))) : Nat) : Int), .int .u64 ((dg 1 (mq (0 - (x k))) : Nat) : Int), .int .u64 ((dg 2 (mq (0 - (x k))) : Nat) : Int), .int .u64 ((dg 3 (mq (0 - (x k))) : Nat) : Int), .int .u64 ((dg 0 (rone s) : Nat) : Int), .int .u64 ((dg 1 (rone s) : Nat) : Int), .int .u64 ((dg 2 (rone s) : Nat) : Int), .int .u64 ((dg 3 (rone s) : Nat) : Int)]) hk hs rfl Tryz.underlying51 ty56 zr56 rfl rfl rfl rfl rfl rfl rfl fun b1_7 w a hk hs => ?_
    have hL := okL.cons (hs.mi 3 rfl) (okL.cons (hs.mi 1 rfl) okL.nil)
    refine c_end (x_t (hK _ _ hL ?_))
    clear hK K
    refine d_1 8 511 rfl (by kernel_rfl) fun K hK => ?_
    have hs := hs.rw0 (congrArg (fun q => blk b1_7 q 56) (lin_two (y := x k)))
    have hs := hs.frz (r := lst 4 (.slice (some ⟨b1_7, 0, none⟩) 2 2) 2 (en vq (fun i => mq (lin (x k) i)) 2)) (blk_lst (hs.mi 0 rfl) (en_len vq_len) (Nat.le_refl _)) (fun _ h => (Option.some.inj h.2).symm)
    have hs := hs.up1
    have hs := hs.frz (r := lst 4 (.slice (some ⟨ob, 0, none⟩) (k + 1) (k + 1)) (k + 1) (en vq (fun i => mq (mst x k i)) (k + 1))) (blk_lst (hs.mi 0 rfl) (en_len vq_len) (Nat.le_refl _)) (fun _ h => (Option.some.inj h.2).symm)
    refine q_call (caps := []) hk rfl rfl Tryz.func145 fo145 rfl rfl (mul_m s (k + 1) (k + 1) 2 2 (some ⟨ob, 0, none⟩) (some ⟨b1_7, 0, none⟩) (mst x k) (lin (x k)) _ ((hs.hasR (HasR.nth 1 rfl)).hasR (HasR.nth 0 rfl).cons) (by omega) (by omega) (by omega) (by omega)) ?_
    rintro _ w ⟨b1_8, rfl, hs⟩
    have hs := hs.subR (R' := ((lst 4 (.slice la n lc) n (en vq (fun i => mq (x i)) n)) :: R)) (by simp +contextual)
    have hs : Sat F0 W ((blk b1_8 (en vq (fun i => mq (mst x (k + 1) i)) (k + 1 + 1)) 56) :: (blk b4 [.int .u64 ((dg 0 (mq (x k)) : Nat) : Int), .int .u64 ((dg 1 (mq (x k)) : Nat) : Int), .int .u64 ((dg 2 (mq (x k)) : Nat) : Int), .int .u64 ((dg 3 (mq (x k)) : Nat) : Int)] 56) :: (blk b1 (fieldL s) 120) :: M) ((lst 4 (.slice la n lc) n (en vq (fun i => mq (x i)) n)) :: R) w := hs
    refine ⟨_, rfl, fun a hk => ?_⟩
    have hL := okL.cons (hs.mi 2 rfl) (okL.cons (hs.mi 1 rfl) okL.nil)
    refine c_end (x_t (hK _ _ hL ?_))
    clear hK K
    refine d_v 9 1023 hk hL rfl (by kernel_rfl) rfl rfl (fun w hL => w_as rfl) fun a hk => ?_
    refine d_end (by kernel_rfl) ?_
    refine (x_b (x_t ?_))
    refine wpIn_region_lit ?_
    refine q_val hk (w_add rfl rfl (wr64 (by omega) (by omega))) rfl rfl rfl fun a hk => ?_
    refine q_val hk (w_mv rfl) rfl rfl rfl fun a hk => ?_
    refine (c_end (x_t ?_))
    have hs := hs.up1
    have hs := hs.drop
    exact ⟨k + 1, ⟨_, (by omega), hk.k rfl (hk.k rfl (hk.k rfl (hk.k rfl (hk.k rfl (hk.k rfl hk.nil))))), hs⟩, by omega⟩
  · skip
    refine q_val hk (w_lt rfl rfl (decide_eq_false hc3)) rfl rfl rfl fun a hk => ?_
    refine (c_end (x_t ?_))
    refine wpIn_seq ?_
    refine c_F hk rfl ?_
    refine (wpIn_exit (x_te (x_te (x_be ?_))))
    refine (x_t ?_)
    refine wpIn_seq ?_
    refine wpIn_region_lit ?_
    refine q_val hk (w_mv rfl) rfl rfl rfl fun a hk => ?_
    refine q_val hk (w_as rfl) rfl rfl rfl fun a hk => ?_
    refine (c_end (x_t ?_))
    refine (wpIn_ret ?_)
    refine c_ret1 hk rfl rfl ?_
    have hs := hs.up1
    have hs := hs.drop
    have hs := hs.toR (R' := R) (fun r hr => .of (by simp [hr]))
    have hkn : k = n := by omega
    rw [hkn] at hs ⊢
    exact ⟨_, rfl, hs⟩
end Go.Proofs.YtdnkkbmpefhbjaaGreatDoor
