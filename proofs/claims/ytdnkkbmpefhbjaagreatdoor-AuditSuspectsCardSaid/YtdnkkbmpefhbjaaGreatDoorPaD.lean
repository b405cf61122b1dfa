/- Part 4 of what the proof of AuditConsistent, AuditChunks, AuditSuspects needs: joined out of the texts of this seat, only what is used. -/
import Derived.Test.YtdnkkbmpefhbjaaGreatDoorPaC
import Derived.Laws.Cover3
import Derived.Maps.AppendAt
import Derived.OwnWalk
import Derived.Laws.CopyOwn
import Derived.IntWalk
namespace Go.Proofs.YtdnkkbmpefhbjaaGreatDoor
set_option linter.all false
open Go Go.RowKit Alg
def ita {s : Bool} (po pq : Nat → Zp s) (c : Zp s) (k i : Nat) : Nat := if i < k then mq (po i + c * pq i) else mq (po i)
section
variable {s : Bool} {po pq : Nat → Zp s} {c : Zp s} {n k : Nat}
theorem ita_zero : en vq (fun i => mq (po i)) n = en vq (ita po pq c 0) n := en_congr fun i _ => by unfold ita; rw [if_neg (Nat.not_lt_zero i)]
theorem ita_at : ita po pq c k k = mq (po k) := if_neg (Nat.lt_irrefl k)
theorem ita_step : en vq (fun i => if i = k then mq (po k + c * pq k) else ita po pq c k i) n = en vq (ita po pq c (k + 1)) n := en_congr fun i _ => by
  unfold ita
  by_cases h : i = k
  · subst h; rw [if_pos rfl, if_pos (Nat.lt_succ_self _)]
  · rw [if_neg h]
    by_cases l : i < k
    · rw [if_pos l, if_pos (by omega)]
    · rw [if_neg l, if_neg (by omega)]
theorem ita_end : en vq (ita po pq c n) n = en vq (fun i => mq (po i + c * pq i)) n := en_congr fun i hi => by unfold ita; rw [if_pos hi]
end
theorem pairT_next {E : List Ev} {i : Int} {k : Nat} : E ++ upE 0 ((k : Nat) : Int) (pairE true i) ++ [(3, i, ((k : Nat) : Int))] = E ++ upE 0 ((k + 1 : Nat) : Int) (pairE true i) := by
  have e := upE_succ (F := pairE true i) (fr := 0) (x := (k : Int)) (by omega)
  have p : pairE true i (k : Int) = [(3, i, (k : Int))] := by unfold pairE; rw [if_neg (by simp)]
  rw [p] at e
  rw [List.append_assoc, e]
  rfl
theorem pairT_len {i : Int} {n : Nat} : (upE 0 (n : Int) (pairE true i)).length ≤ n := by
  have := upE_len (fr := 0) (to := (n : Int)) (F := pairE true i) (B := 1) (fun k => by unfold pairE; split <;> simp)
  omega
def pairT (n : Nat) (i : Int) : List Ev := upE 0 (n : Int) (pairE true i)
theorem pairTs_len {n u : Nat} : (upE 0 (u : Int) (pairT n)).length ≤ u * n := by
  have := upE_len (fr := 0) (to := (u : Int)) (F := pairT n) (B := n) (fun k => pairT_len)
  simpa using this
theorem pt_row {E : List Ev} {n u : Nat} : E ++ upE 0 (u : Int) (pairT n) ++ upE 0 (n : Int) (pairE true ((u : Nat) : Int)) = E ++ upE 0 ((u + 1 : Nat) : Int) (pairT n) := by
  have e := upE_succ (F := pairT n) (fr := 0) (x := (u : Int)) (by omega)
  rw [List.append_assoc, show upE 0 (n : Int) (pairE true (u : Int)) = pairT n (u : Int) from rfl, e]
  rfl
/-- The polynomial after u points. -/
def itp {s : Bool} (x y : Nat → Zp s) (n : Nat) : Nat → Nat → Zp s
  | 0 => fun _ => 0
  | u + 1 => fun k => itp x y n u k + wgt x n u * y u * Hn (mst x n) (n + 1) (x u) (n + 1 - 1 - k)
theorem itp_zero {s : Bool} {x y : Nat → Zp s} {n m : Nat} : en vq (fun _ => 0) m = en vq (fun j => mq (itp x y n 0 j)) m := en_congr fun i _ => by show 0 = mq (0 : Zp s); rw [mq_zero]
theorem iadd_m {F0 : Nat → Prop} {W : World} {M R : List Res} (s : Bool) (n i0 bf bw by' bo bt wb ob qb yc : Nat) (ya : Option Addr) (pw' py po pq : Nat → Zp s) (t : Option Nat) (evs : List Ev) (r : Res) (w0 : World) (hs : Sat F0 W (r :: (blk ob (en vq (fun i => mq (po i)) n) 56) :: M) R w0) (hF : HasR (rall [blk bf (fieldL s) 120, blk bw [.slice (some ⟨wb, 0, none⟩) n n] 51, lst 4 (.slice (some ⟨wb, 0, none⟩) n n) n (en vq (fun i => mq (pw' i)) n), blk by' [.slice ya n yc] 51, lst 4 (.slice ya n yc) n (en vq (fun i => mq (py i)) n), blk bo [.slice (some ⟨ob, 0, none⟩) n n] 51, blk bt [tval t] 60]) R) (hQ : HasR (lst 4 (.slice (some ⟨qb, 0, none⟩) (n + 1 - 1) (n + 1 - 1)) (n + 1 - 1) (en vq (fun i => mq (pq i)) (n + 1 - 1))) R) (hT : TapeIs t evs r) (hi : i0 < n) (hn : n ≤ 1000) (he : evs.length ≤ 100000000) : Calls Tryz.prog 128 [.int .i64 ((i0 : Nat) : Int), .slice (some ⟨qb, 0, none⟩) (n + 1 - 1) (n + 1 - 1), .pointer (some ⟨bf, 0, none⟩), .pointer (some ⟨bw, 0, none⟩), .pointer (some ⟨by', 0, none⟩), .pointer (some ⟨bo, 0, none⟩), .pointer (some ⟨bt, 0, none⟩)].toArray w0 fun e w => ∃ v r, e = .returned v ∧ TapeIs t (evs ++ upE 0 (n : Int) (pairE true ((i0 : Nat) : Int))) r ∧ Sat F0 W (r :: blk ob (en vq (fun i => mq (po i + (pw' i0 * py i0) * pq i)) n) 56 :: M) R w := by
  refine c_enter (args := [.int .i64 ((i0 : Nat) : Int), .slice (some ⟨qb, 0, none⟩) (n + 1 - 1) (n + 1 - 1), .pointer (some ⟨bf, 0, none⟩), .pointer (some ⟨bw, 0, none⟩), .pointer (some ⟨by', 0, none⟩), .pointer (some ⟨bo, 0, none⟩), .pointer (some ⟨bt, 0, none⟩)]) Tryz.func128 rfl rfl rfl fun a hk => ?_
  refine wpIn_seq ?_
  have hL := okL.cons ((hF.pi 0 rfl).at_ hs) (okL.cons ((hF.pi 1 rfl).at_ hs) (okL.cons ((hF.pi 2 rfl).at_ hs) (okL.cons ((hF.pi 3 rfl).at_ hs) (okL.cons ((hF.pi 4 rfl).at_ hs) okL.nil))))
  refine d_begin _ 12 (by kernel_rfl) rfl hs hL fun w hs hL => ?_
  refine d_join (n2 := 1) 2047 (fun a w => ∃ (b1_10 : Nat), Kn [] 47 [(9, .pointer (some ⟨b1_10, 0, none⟩)), (20, vec (mq ((pw' i0) * (py i0)))), (19, vec (mq (py i0))), (18, .pointer (some ((adq ya).add (i0 * 4)))), (17, .int .i64 ((i0 : Nat) : Int)), (16, .slice ya n yc), (15, vec (mq (pw' i0))), (14, .pointer (some ((adq (some ⟨wb, 0, none⟩)).add (i0 * 4)))), (13, .int .i64 ((i0 : Nat) : Int)), (12, .slice (some ⟨wb, 0, none⟩) n n), (11, fieldV s), (0, .int .i64 ((i0 : Nat) : Int)), (1, .slice (some ⟨qb, 0, none⟩) (n + 1 - 1) (n + 1 - 1)), (2, .pointer (some ⟨bf, 0, none⟩)), (3, .pointer (some ⟨bw, 0, none⟩)), (4, .pointer (some ⟨by', 0, none⟩)), (5, .pointer (some ⟨bo, 0, none⟩)), (6, .pointer (some ⟨bt, 0, none⟩))] a ∧ Sat F0 W ((blk b1_10 [.int .u64 0, .int .u64 0, .int .u64 0, .int .u64 0] 56) :: r :: (blk ob (en vq (fun i => mq (po i)) n) 56) :: M) R w ∧ okL [blk bf (fieldL s) 120, blk bw [.slice (some ⟨wb, 0, none⟩) n n] 51, lst 4 (.slice (some ⟨wb, 0, none⟩) n n) n (en vq (fun i => mq (pw' i)) n), blk by' [.slice ya n yc] 51, lst 4 (.slice ya n yc) n (en vq (fun i => mq (py i)) n)] w) ?_ ?_
  · intro hJ2047
    refine d_v 0 1 hk hL rfl (by kernel_rfl) rfl rfl (fun w hL => w_ldA rfl ty120 (.blk (n := 14) (hL.at 0 rfl) rfl) rfl) fun a hk => ?_
    refine d_v 1 3 hk hL rfl (by kernel_rfl) rfl rfl (fun w hL => w_ld1 rfl ty51 (.blk (n := 1) (hL.at 1 rfl) rfl)) fun a hk => ?_
    refine d_v 2 7 hk hL rfl (by kernel_rfl) rfl rfl (fun w hL => w_mv rfl) fun a hk => ?_
    refine d_v 3 15 hk hL rfl (by kernel_rfl) rfl rfl (fun w hL => w_iaL (k := i0) rfl rfl Tryz.underlying51 ty56 (hL.at 2 rfl) (by omega) (by omega)) fun a hk => ?_
    refine d_v 4 31 hk hL rfl (by kernel_rfl) rfl rfl (fun w hL => w_ldv (z := mq (pw' i0)) rfl ty56 (lstq (k := i0) (hL.at 2 rfl) (by omega) (en_chunk vq_len (by omega)))) fun a hk => ?_
    refine d_v 5 63 hk hL rfl (by kernel_rfl) rfl rfl (fun w hL => w_ld1 rfl ty51 (.blk (n := 1) (hL.at 3 rfl) rfl)) fun a hk => ?_
    refine d_v 6 127 hk hL rfl (by kernel_rfl) rfl rfl (fun w hL => w_mv rfl) fun a hk => ?_
    refine d_v 7 255 hk hL rfl (by kernel_rfl) rfl rfl (fun w hL => w_iaL (k := i0) rfl rfl Tryz.underlying51 ty56 (hL.at 4 rfl) (by omega) (by omega)) fun a hk => ?_
    refine d_v 8 511 hk hL rfl (by kernel_rfl) rfl rfl (fun w hL => w_ldv (z := mq (py i0)) rfl ty56 (lstq (k := i0) (hL.at 4 rfl) (by omega) (en_chunk vq_len (by omega)))) fun a hk => ?_
    refine d_2 9 10 1023 1535 rfl rfl (by kernel_rfl) (fun K hK => ?_) (fun K hK => ?_)
    · skip
      refine q_call (caps := []) hk rfl rfl Tryz.func120 fo120 rfl rfl (zmul_c (x := (pw' i0)) (y := (py i0)) _ rfl rfl) ?_
      rintro _ w ⟨rfl, hb⟩
      have hs := hs.below hb
      refine ⟨_, rfl, fun a hk => ?_⟩
      have hL := okL.cons ((hF.pi 0 rfl).at_ hs) (okL.cons ((hF.pi 1 rfl).at_ hs) (okL.cons ((hF.pi 2 rfl).at_ hs) (okL.cons ((hF.pi 3 rfl).at_ hs) (okL.cons ((hF.pi 4 rfl).at_ hs) okL.nil))))
      refine c_end (x_t (hK _ _ hL ?_))
      clear hK K
      refine d_1 10 2047 rfl (by kernel_rfl) fun K hK => ?_
      refine q_alc (vs := [.int .u64 0, .int .u64 0, .int .u64 0, .int .u64 0]) hk hs zr56 rfl rfl rfl fun b1_10 w a hk hs => ?_
      have hL := okL.cons ((hF.pi 0 rfl).at_ hs) (okL.cons ((hF.pi 1 rfl).at_ hs) (okL.cons ((hF.pi 2 rfl).at_ hs) (okL.cons ((hF.pi 3 rfl).at_ hs) (okL.cons ((hF.pi 4 rfl).at_ hs) okL.nil))))
      refine c_end (x_t (hK _ _ hL ?_))
      clear hK K
      have hL := okL.cons ((hF.pi 0 rfl).at_ hs) (okL.cons ((hF.pi 1 rfl).at_ hs) (okL.cons ((hF.pi 2 rfl).at_ hs) (okL.cons ((hF.pi 3 rfl).at_ hs) (okL.cons ((hF.pi 4 rfl).at_ hs) okL.nil))))
      exact hJ2047 _ _ ⟨_, hk.k rfl (hk.k rfl (hk.k rfl (hk.k rfl (hk.k rfl (hk.k rfl (hk.k rfl (hk.k rfl (hk.k rfl (hk.k rfl (hk.k rfl (hk.k rfl (hk.k rfl (hk.k rfl (hk.k rfl (hk.k rfl (hk.k rfl (hk.k rfl hk.nil))))))))))))))))), hs, hL⟩
    · skip
      refine q_alc (vs := [.int .u64 0, .int .u64 0, .int .u64 0, .int .u64 0]) hk hs zr56 rfl rfl rfl fun b1_10 w a hk hs => ?_
      have hL := okL.cons ((hF.pi 0 rfl).at_ hs) (okL.cons ((hF.pi 1 rfl).at_ hs) (okL.cons ((hF.pi 2 rfl).at_ hs) (okL.cons ((hF.pi 3 rfl).at_ hs) (okL.cons ((hF.pi 4 rfl).at_ hs) okL.nil))))
      refine c_end (x_t (hK _ _ hL ?_))
      clear hK K
      refine d_1 9 2047 rfl (by kernel_rfl) fun K hK => ?_
      refine q_call (caps := []) hk rfl rfl Tryz.func120 fo120 rfl rfl (zmul_c (x := (pw' i0)) (y := (py i0)) _ rfl rfl) ?_
      rintro _ w ⟨rfl, hb⟩
      have hs := hs.below hb
      refine ⟨_, rfl, fun a hk => ?_⟩
      have hL := okL.cons ((hF.pi 0 rfl).at_ hs) (okL.cons ((hF.pi 1 rfl).at_ hs) (okL.cons ((hF.pi 2 rfl).at_ hs) (okL.cons ((hF.pi 3 rfl).at_ hs) (okL.cons ((hF.pi 4 rfl).at_ hs) okL.nil))))
      refine c_end (x_t (hK _ _ hL ?_))
      clear hK K
      have hL := okL.cons ((hF.pi 0 rfl).at_ hs) (okL.cons ((hF.pi 1 rfl).at_ hs) (okL.cons ((hF.pi 2 rfl).at_ hs) (okL.cons ((hF.pi 3 rfl).at_ hs) (okL.cons ((hF.pi 4 rfl).at_ hs) okL.nil))))
      exact hJ2047 _ _ ⟨_, hk.k rfl (hk.k rfl (hk.k rfl (hk.k rfl (hk.k rfl (hk.k rfl (hk.k rfl (hk.k rfl (hk.k rfl (hk.k rfl (hk.k rfl (hk.k rfl (hk.k rfl (hk.k rfl (hk.k rfl (hk.k rfl (hk.k rfl (hk.k rfl hk.nil))))))))))))))))), hs, hL⟩
  · rintro a w ⟨b1_10, hk, hs, hL⟩
    refine d_1 11 4095 rfl (by kernel_rfl) fun K hK => ?_
    refine q_sto (o := 0) (cs := [.int .u64 ((dg 0 (mq ((pw' i0) * (py i0))) : Nat) : Int), .int .u64 ((dg 1 (mq ((pw' i0) * (py i0))) : Nat) : Int), .int .u64 ((dg 2 (mq ((pw' i0) * (py i0))) : Nat) : Int), .int .u64 ((dg 3 (mq ((pw' i0) * (py i0))) : Nat) : Int)]) (vs' := [.int .u64 ((dg 0 (mq ((pw' i0) * (py i0))) : Nat) : Int), .int .u64 ((dg 1 (mq ((pw' i0) * (py i0))) : Nat) : Int), .int .u64 ((dg 2 (mq ((pw' i0) * (py i0))) : Nat) : Int), .int .u64 ((dg 3 (mq ((pw' i0) * (py i0))) : Nat) : Int)]) hk hs rfl rfl rfl ty56 rfl rfl rfl rfl rfl rfl fun w hs => ?_
    have hL := okL.cons ((hF.pi 0 rfl).at_ hs) (okL.cons ((hF.pi 1 rfl).at_ hs) (okL.cons ((hF.pi 2 rfl).at_ hs) (okL.cons ((hF.pi 3 rfl).at_ hs) (okL.cons ((hF.pi 4 rfl).at_ hs) okL.nil))))
    refine c_end (x_t (hK _ _ hL ?_))
    clear hK K
    refine d_end (by kernel_rfl) ?_
    refine (x_t ?_)
    refine wpIn_seq ?_
    refine wpIn_region_lit ?_
    refine q_val hk (w_ld1 rfl ty51 (.blk (n := 1) ((hF.pi 5 rfl).at_ hs) rfl)) rfl rfl rfl fun a hk => ?_
    refine q_val hk (w_len rfl Tryz.underlying51) rfl rfl rfl fun a hk => ?_
    refine q_val hk (w_mv rfl) rfl rfl rfl fun a hk => ?_
    refine (c_end (x_t ?_))
    refine wpIn_block ?_
    have hs := hs.up2
    have hs := hs.rw0 (congrArg (fun q => blk ob q 56) (ita_zero (po := po) (pq := pq) (c := (pw' i0 * py i0))))
    refine c_loop (α := Nat) (fun k a w => ∃ (r : Res), k ≤ n ∧ TapeIs t (evs ++ upE 0 ((k : Nat) : Int) (pairE true ((i0 : Nat) : Int))) r ∧ Kn [] 47 [(23, .int .i64 ((k : Nat) : Int)), (22, .int .i64 ((n : Nat) : Int)), (9, .pointer (some ⟨b1_10, 0, none⟩)), (0, .int .i64 ((i0 : Nat) : Int)), (1, .slice (some ⟨qb, 0, none⟩) (n + 1 - 1) (n + 1 - 1)), (2, .pointer (some ⟨bf, 0, none⟩)), (5, .pointer (some ⟨bo, 0, none⟩)), (6, .pointer (some ⟨bt, 0, none⟩))] a ∧ Sat F0 W ((blk ob (en vq (fun i => ita po pq (pw' i0 * py i0) k i) n) 56) :: (blk b1_10 [.int .u64 ((dg 0 (mq ((pw' i0) * (py i0))) : Nat) : Int), .int .u64 ((dg 1 (mq ((pw' i0) * (py i0))) : Nat) : Int), .int .u64 ((dg 2 (mq ((pw' i0) * (py i0))) : Nat) : Int), .int .u64 ((dg 3 (mq ((pw' i0) * (py i0))) : Nat) : Int)] 56) :: r :: M) R w) (fun k => n - k) 0 ?_ ?_
    · exact ⟨_, (by omega), (by rw [upE_nil (by omega), List.append_nil]; exact hT), hk.k rfl (hk.k rfl (hk.k rfl (hk.k rfl (hk.k rfl (hk.k rfl (hk.k rfl (hk.k rfl hk.nil))))))), hs⟩
    rintro k a w ⟨r, hf0, hf1, hk, hs⟩
    have hT := hf1
    have hlk := pairT_len (n := k) (i := ((i0 : Nat) : Int))
    refine wpIn_seq ?_
    refine wpIn_region_lit ?_
    rcases Classical.em (((k : Nat) : Int) < ((n : Nat) : Int)) with hc1 | hc1
    · skip
      refine q_val hk (w_lt rfl rfl (decide_eq_true hc1)) rfl rfl rfl fun a hk => ?_
      refine (c_end (x_t ?_))
      refine wpIn_seq ?_
      refine c_T hk rfl ?_
      refine (wpIn_skip (x_t ?_))
      refine wpIn_seq ?_
      refine wpIn_block ?_
      refine wpIn_seq ?_
      refine wpIn_region_lit ?_
      refine q_val hk (w_mv rfl) rfl rfl rfl fun a hk => ?_
      refine q_val hk (w_as rfl) rfl rfl rfl fun a hk => ?_
      refine (c_end (x_t ?_))
      refine wpIn_seq ?_
      refine wpIn_region_lit ?_
      refine q_val hk (w_ld1 rfl ty60 (.blk (n := 1) ((hF.pi 6 rfl).at_ hs) rfl)) rfl rfl rfl fun a hk => ?_
      refine q_val hk (w_mv rfl) rfl rfl rfl fun a hk => ?_
      refine q_val hk (w_mv rfl) rfl rfl rfl fun a hk => ?_
      have hs := hs.up2
      refine q_call (caps := []) hk rfl rfl Tryz.func61 fo61 rfl rfl (note_m t 3 ((i0 : Nat) : Int) ((k : Nat) : Int) (evs ++ upE 0 ((k : Nat) : Int) (pairE true ((i0 : Nat) : Int))) _ _ hT hs (by simp only [List.length_append]; omega)) ?_
      rintro _ w ⟨v2, r3, rfl, ht4, hs⟩
      have hT := ht4
      refine ⟨_, rfl, fun a hk => ?_⟩
      refine (c_end (x_t ?_))
      have hL := okL.cons ((hF.pi 5 rfl).at_ hs) (okL.cons ((hF.pi 0 rfl).at_ hs) (okL.cons (hs.mi 2 rfl) (okL.cons (hQ.at_ hs) okL.nil)))
      refine d_begin _ 17 (by kernel_rfl) rfl hs hL fun w hs hL => ?_
      refine d_join (n2 := 3) 16383 (fun a w => Kn [] 47 [(43, vec (mq (((pw' i0) * (py i0)) * (pq k)))), (36, vec (mq (po k))), (35, .pointer (some ((adq (some ⟨ob, 0, none⟩)).add (k * 4)))), (42, vec (mq (pq k))), (41, .pointer (some ((adq (some ⟨qb, 0, none⟩)).add (k * 4)))), (40, .int .i64 ((k : Nat) : Int)), (39, .slice (some ⟨qb, 0, none⟩) (n + 1 - 1) (n + 1 - 1)), (38, vec (mq ((pw' i0) * (py i0)))), (37, fieldV s), (34, .int .i64 ((k : Nat) : Int)), (33, .slice (some ⟨ob, 0, none⟩) n n), (32, fieldV s), (31, .int .i64 ((k : Nat) : Int)), (30, .slice (some ⟨ob, 0, none⟩) n n), (29, v2), (28, .int .i64 ((k : Nat) : Int)), (27, .int .i64 ((i0 : Nat) : Int)), (26, tval t), (10, .int .i64 ((k : Nat) : Int)), (25, .int .i64 ((k : Nat) : Int)), (24, .bool true), (23, .int .i64 ((k : Nat) : Int)), (22, .int .i64 ((n : Nat) : Int)), (9, .pointer (some ⟨b1_10, 0, none⟩)), (0, .int .i64 ((i0 : Nat) : Int)), (1, .slice (some ⟨qb, 0, none⟩) (n + 1 - 1) (n + 1 - 1)), (2, .pointer (some ⟨bf, 0, none⟩)), (5, .pointer (some ⟨bo, 0, none⟩)), (6, .pointer (some ⟨bt, 0, none⟩))] a ∧ Sat F0 W (r3 :: (blk ob (en vq (fun i => ita po pq (pw' i0 * py i0) k i) n) 56) :: (blk b1_10 [.int .u64 ((dg 0 (mq ((pw' i0) * (py i0))) : Nat) : Int), .int .u64 ((dg 1 (mq ((pw' i0) * (py i0))) : Nat) : Int), .int .u64 ((dg 2 (mq ((pw' i0) * (py i0))) : Nat) : Int), .int .u64 ((dg 3 (mq ((pw' i0) * (py i0))) : Nat) : Int)] 56) :: M) R w ∧ okL [blk bo [.slice (some ⟨ob, 0, none⟩) n n] 51, blk bf (fieldL s) 120, blk b1_10 [.int .u64 ((dg 0 (mq ((pw' i0) * (py i0))) : Nat) : Int), .int .u64 ((dg 1 (mq ((pw' i0) * (py i0))) : Nat) : Int), .int .u64 ((dg 2 (mq ((pw' i0) * (py i0))) : Nat) : Int), .int .u64 ((dg 3 (mq ((pw' i0) * (py i0))) : Nat) : Int)] 56, lst 4 (.slice (some ⟨qb, 0, none⟩) (n + 1 - 1) (n + 1 - 1)) (n + 1 - 1) (en vq (fun i => mq (pq i)) (n + 1 - 1))] w) ?_ ?_
      · intro hJ16383
        refine d_join (n2 := 4) 16319 (fun a w => Kn [] 47 [(43, vec (mq (((pw' i0) * (py i0)) * (pq k)))), (35, .pointer (some ((adq (some ⟨ob, 0, none⟩)).add (k * 4)))), (42, vec (mq (pq k))), (41, .pointer (some ((adq (some ⟨qb, 0, none⟩)).add (k * 4)))), (40, .int .i64 ((k : Nat) : Int)), (39, .slice (some ⟨qb, 0, none⟩) (n + 1 - 1) (n + 1 - 1)), (38, vec (mq ((pw' i0) * (py i0)))), (37, fieldV s), (34, .int .i64 ((k : Nat) : Int)), (33, .slice (some ⟨ob, 0, none⟩) n n), (32, fieldV s), (31, .int .i64 ((k : Nat) : Int)), (30, .slice (some ⟨ob, 0, none⟩) n n), (29, v2), (28, .int .i64 ((k : Nat) : Int)), (27, .int .i64 ((i0 : Nat) : Int)), (26, tval t), (10, .int .i64 ((k : Nat) : Int)), (25, .int .i64 ((k : Nat) : Int)), (24, .bool true), (23, .int .i64 ((k : Nat) : Int)), (22, .int .i64 ((n : Nat) : Int)), (9, .pointer (some ⟨b1_10, 0, none⟩)), (0, .int .i64 ((i0 : Nat) : Int)), (1, .slice (some ⟨qb, 0, none⟩) (n + 1 - 1) (n + 1 - 1)), (2, .pointer (some ⟨bf, 0, none⟩)), (5, .pointer (some ⟨bo, 0, none⟩)), (6, .pointer (some ⟨bt, 0, none⟩))] a ∧ Sat F0 W (r3 :: (blk ob (en vq (fun i => ita po pq (pw' i0 * py i0) k i) n) 56) :: (blk b1_10 [.int .u64 ((dg 0 (mq ((pw' i0) * (py i0))) : Nat) : Int), .int .u64 ((dg 1 (mq ((pw' i0) * (py i0))) : Nat) : Int), .int .u64 ((dg 2 (mq ((pw' i0) * (py i0))) : Nat) : Int), .int .u64 ((dg 3 (mq ((pw' i0) * (py i0))) : Nat) : Int)] 56) :: M) R w ∧ okL [blk bo [.slice (some ⟨ob, 0, none⟩) n n] 51, blk bf (fieldL s) 120, blk b1_10 [.int .u64 ((dg 0 (mq ((pw' i0) * (py i0))) : Nat) : Int), .int .u64 ((dg 1 (mq ((pw' i0) * (py i0))) : Nat) : Int), .int .u64 ((dg 2 (mq ((pw' i0) * (py i0))) : Nat) : Int), .int .u64 ((dg 3 (mq ((pw' i0) * (py i0))) : Nat) : Int)] 56, lst 4 (.slice (some ⟨qb, 0, none⟩) (n + 1 - 1) (n + 1 - 1)) (n + 1 - 1) (en vq (fun i => mq (pq i)) (n + 1 - 1))] w) ?_ ?_
        · intro hJ16319
          refine d_v 0 1 hk hL rfl (by kernel_rfl) rfl rfl (fun w hL => w_ld1 rfl ty51 (.blk (n := 1) (hL.at 0 rfl) rfl)) fun a hk => ?_
          refine d_v 1 3 hk hL rfl (by kernel_rfl) rfl rfl (fun w hL => w_mv rfl) fun a hk => ?_
          refine d_v 2 7 hk hL rfl (by kernel_rfl) rfl rfl (fun w hL => w_ldA rfl ty120 (.blk (n := 14) (hL.at 1 rfl) rfl) rfl) fun a hk => ?_
          refine d_v 3 15 hk hL rfl (by kernel_rfl) rfl rfl (fun w hL => w_ld1 rfl ty51 (.blk (n := 1) (hL.at 0 rfl) rfl)) fun a hk => ?_
          refine d_v 4 31 hk hL rfl (by kernel_rfl) rfl rfl (fun w hL => w_mv rfl) fun a hk => ?_
          refine d_v 7 159 hk hL rfl (by kernel_rfl) rfl rfl (fun w hL => w_ldA rfl ty120 (.blk (n := 14) (hL.at 1 rfl) rfl) rfl) fun a hk => ?_
          refine d_v 8 415 hk hL rfl (by kernel_rfl) rfl rfl (fun w hL => w_ldv (z := mq ((pw' i0) * (py i0))) rfl ty56 (.blk (n := 4) (hL.at 2 rfl) rfl)) fun a hk => ?_
          refine d_v 9 927 hk hL rfl (by kernel_rfl) rfl rfl (fun w hL => w_mv rfl) fun a hk => ?_
          refine d_v 10 1951 hk hL rfl (by kernel_rfl) rfl rfl (fun w hL => w_mv rfl) fun a hk => ?_
          refine d_v 11 3999 hk hL rfl (by kernel_rfl) rfl rfl (fun w hL => w_iaL (k := k) rfl rfl Tryz.underlying51 ty56 (hL.at 3 rfl) (by omega) (by omega)) fun a hk => ?_
          refine d_v 12 8095 hk hL rfl (by kernel_rfl) rfl rfl (fun w hL => w_ldv (z := mq (pq k)) rfl ty56 (lstq (k := k) (hL.at 3 rfl) (by omega) (en_chunk vq_len (by omega)))) fun a hk => ?_
          refine d_2 5 13 8127 16287 rfl rfl (by kernel_rfl) (fun K hK => ?_) (fun K hK => ?_)
          · skip
            refine q_val hk (w_iaL (k := k) rfl rfl Tryz.underlying51 ty56 (blk_lst (hs.mi 1 rfl) (en_len vq_len) (Nat.le_refl _)) (by omega) (by omega)) rfl rfl rfl fun a hk => ?_
            have hL := okL.cons ((hF.pi 5 rfl).at_ hs) (okL.cons ((hF.pi 0 rfl).at_ hs) (okL.cons (hs.mi 2 rfl) (okL.cons (hQ.at_ hs) okL.nil)))
            refine c_end (x_t (hK _ _ hL ?_))
            clear hK K
            refine d_2 6 13 8191 16319 rfl rfl (by kernel_rfl) (fun K hK => ?_) (fun K hK => ?_)
            · skip
              refine q_val hk (w_ldv (z := mq (po k)) rfl ty56 (vq_eq ita_at (lstq (k := k) (blk_lst (hs.mi 1 rfl) (en_len vq_len) (Nat.le_refl _)) (by omega) (en_chunk vq_len (by omega))))) rfl rfl rfl fun a hk => ?_
              have hL := okL.cons ((hF.pi 5 rfl).at_ hs) (okL.cons ((hF.pi 0 rfl).at_ hs) (okL.cons (hs.mi 2 rfl) (okL.cons (hQ.at_ hs) okL.nil)))
              refine c_end (x_t (hK _ _ hL ?_))
              clear hK K
              refine d_1 13 16383 rfl (by kernel_rfl) fun K hK => ?_
              refine q_call (caps := []) hk rfl rfl Tryz.func120 fo120 rfl rfl (zmul_c (x := ((pw' i0) * (py i0))) (y := (pq k)) _ rfl rfl) ?_
              rintro _ w ⟨rfl, hb⟩
              have hs := hs.below hb
              refine ⟨_, rfl, fun a hk => ?_⟩
              have hL := okL.cons ((hF.pi 5 rfl).at_ hs) (okL.cons ((hF.pi 0 rfl).at_ hs) (okL.cons (hs.mi 2 rfl) (okL.cons (hQ.at_ hs) okL.nil)))
              refine c_end (x_t (hK _ _ hL ?_))
              clear hK K
              have hL := okL.cons ((hF.pi 5 rfl).at_ hs) (okL.cons ((hF.pi 0 rfl).at_ hs) (okL.cons (hs.mi 2 rfl) (okL.cons (hQ.at_ hs) okL.nil)))
              exact hJ16383 _ _ ⟨hk.k rfl (hk.k rfl (hk.k rfl (hk.k rfl (hk.k rfl (hk.k rfl (hk.k rfl (hk.k rfl (hk.k rfl (hk.k rfl (hk.k rfl (hk.k rfl (hk.k rfl (hk.k rfl (hk.k rfl (hk.k rfl (hk.k rfl (hk.k rfl (hk.k rfl (hk.k rfl (hk.k rfl (hk.k rfl (hk.k rfl (hk.k rfl (hk.k rfl (hk.k rfl (hk.k rfl (hk.k rfl (hk.k rfl hk.nil)))))))))))))))))))))))))))), hs, hL⟩
            · skip
              refine q_call (caps := []) hk rfl rfl Tryz.func120 fo120 rfl rfl (zmul_c (x := ((pw' i0) * (py i0))) (y := (pq k)) _ rfl rfl) ?_
              rintro _ w ⟨rfl, hb⟩
              have hs := hs.below hb
              refine ⟨_, rfl, fun a hk => ?_⟩
              have hL := okL.cons ((hF.pi 5 rfl).at_ hs) (okL.cons ((hF.pi 0 rfl).at_ hs) (okL.cons (hs.mi 2 rfl) (okL.cons (hQ.at_ hs) okL.nil)))
              refine c_end (x_t (hK _ _ hL ?_))
              clear hK K
              have hL := okL.cons ((hF.pi 5 rfl).at_ hs) (okL.cons ((hF.pi 0 rfl).at_ hs) (okL.cons (hs.mi 2 rfl) (okL.cons (hQ.at_ hs) okL.nil)))
              exact hJ16319 _ _ ⟨hk.k rfl (hk.k rfl (hk.k rfl (hk.k rfl (hk.k rfl (hk.k rfl (hk.k rfl (hk.k rfl (hk.k rfl (hk.k rfl (hk.k rfl (hk.k rfl (hk.k rfl (hk.k rfl (hk.k rfl (hk.k rfl (hk.k rfl (hk.k rfl (hk.k rfl (hk.k rfl (hk.k rfl (hk.k rfl (hk.k rfl (hk.k rfl (hk.k rfl (hk.k rfl (hk.k rfl (hk.k rfl hk.nil))))))))))))))))))))))))))), hs, hL⟩
          · skip
            refine q_call (caps := []) hk rfl rfl Tryz.func120 fo120 rfl rfl (zmul_c (x := ((pw' i0) * (py i0))) (y := (pq k)) _ rfl rfl) ?_
            rintro _ w ⟨rfl, hb⟩
            have hs := hs.below hb
            refine ⟨_, rfl, fun a hk => ?_⟩
            have hL := okL.cons ((hF.pi 5 rfl).at_ hs) (okL.cons ((hF.pi 0 rfl).at_ hs) (okL.cons (hs.mi 2 rfl) (okL.cons (hQ.at_ hs) okL.nil)))
            refine c_end (x_t (hK _ _ hL ?_))
            clear hK K
            refine d_1 5 16319 rfl (by kernel_rfl) fun K hK => ?_
            refine q_val hk (w_iaL (k := k) rfl rfl Tryz.underlying51 ty56 (blk_lst (hs.mi 1 rfl) (en_len vq_len) (Nat.le_refl _)) (by omega) (by omega)) rfl rfl rfl fun a hk => ?_
            have hL := okL.cons ((hF.pi 5 rfl).at_ hs) (okL.cons ((hF.pi 0 rfl).at_ hs) (okL.cons (hs.mi 2 rfl) (okL.cons (hQ.at_ hs) okL.nil)))
            refine c_end (x_t (hK _ _ hL ?_))
            clear hK K
            have hL := okL.cons ((hF.pi 5 rfl).at_ hs) (okL.cons ((hF.pi 0 rfl).at_ hs) (okL.cons (hs.mi 2 rfl) (okL.cons (hQ.at_ hs) okL.nil)))
            exact hJ16319 _ _ ⟨hk.k rfl (hk.k rfl (hk.k rfl (hk.k rfl (hk.k rfl (hk.k rfl (hk.k rfl (hk.k rfl (hk.k rfl (hk.k rfl (hk.k rfl (hk.k rfl (hk.k rfl (hk.k rfl (hk.k rfl (hk.k rfl (hk.k rfl (hk.k rfl (hk.k rfl (hk.k rfl (hk.k rfl (hk.k rfl (hk.k rfl (hk.k rfl (hk.k rfl (hk.k rfl (hk.k rfl (hk.k rfl hk.nil))))))))))))))))))))))))))), hs, hL⟩
        · rintro a w ⟨hk, hs, hL⟩
          refine d_1 6 16383 rfl (by kernel_rfl) fun K hK => ?_
          refine q_val hk (w_ldv (z := mq (po k)) rfl ty56 (vq_eq ita_at (lstq (k := k) (blk_lst (hs.mi 1 rfl) (en_len vq_len) (Nat.le_refl _)) (by omega) (en_chunk vq_len (by omega))))) rfl rfl rfl fun a hk => ?_
          have hL := okL.cons ((hF.pi 5 rfl).at_ hs) (okL.cons ((hF.pi 0 rfl).at_ hs) (okL.cons (hs.mi 2 rfl) (okL.cons (hQ.at_ hs) okL.nil)))
          refine c_end (x_t (hK _ _ hL ?_))
          clear hK K
          have hL := okL.cons ((hF.pi 5 rfl).at_ hs) (okL.cons ((hF.pi 0 rfl).at_ hs) (okL.cons (hs.mi 2 rfl) (okL.cons (hQ.at_ hs) okL.nil)))
          exact hJ16383 _ _ ⟨hk.k rfl (hk.k rfl (hk.k rfl (hk.k rfl (hk.k rfl (hk.k rfl (hk.k rfl (hk.k rfl (hk.k rfl (hk.k rfl (hk.k rfl (hk.k rfl (hk.k rfl (hk.k rfl (hk.k rfl (hk.k rfl (hk.k rfl (hk.k rfl (hk.k rfl (hk.k rfl (hk.k rfl (hk.k rfl (hk.k rfl (hk.k rfl (hk.k rfl (hk.k rfl (hk.k rfl (hk.k rfl (hk.k rfl hk.nil)))))))))))))))))))))))))))), hs, hL⟩
      · rintro a w ⟨hk, hs, hL⟩
        refine d_1 14 32767 rfl (by kernel_rfl) fun K hK => ?_
        refine q_call (caps := []) hk rfl rfl Tryz.func121 fo121 rfl rfl (zadd_c (x := (po k)) (y := (((pw' i0) * (py i0)) * (pq k))) _ rfl rfl) ?_
        rintro _ w ⟨rfl, hb⟩
        have hs := hs.below hb
        refine ⟨_, rfl, fun a hk => ?_⟩
        have hL := okL.cons ((hF.pi 5 rfl).at_ hs) (okL.cons ((hF.pi 0 rfl).at_ hs) (okL.cons (hs.mi 2 rfl) (okL.cons (hQ.at_ hs) okL.nil)))
        refine c_end (x_t (hK _ _ hL ?_))
        clear hK K
        refine d_1 15 65535 rfl (by kernel_rfl) fun K hK => ?_
        refine q_val hk (w_iaL (k := k) rfl rfl Tryz.underlying51 ty56 (blk_lst (hs.mi 1 rfl) (en_len vq_len) (Nat.le_refl _)) (by omega) (by omega)) rfl rfl rfl fun a hk => ?_
        have hL := okL.cons ((hF.pi 5 rfl).at_ hs) (okL.cons ((hF.pi 0 rfl).at_ hs) (okL.cons (hs.mi 2 rfl) (okL.cons (hQ.at_ hs) okL.nil)))
        refine c_end (x_t (hK _ _ hL ?_))
        clear hK K
        refine d_1 16 131071 rfl (by kernel_rfl) fun K hK => ?_
        have hs := hs.up1
        refine q_stoE (c := vq) (xx := (mq ((po k) + (((pw' i0) * (py i0)) * (pq k))))) (k := k) hk hs rfl rfl rfl ty56 rfl vq_len rfl (by omega) rfl fun w hs => ?_
        have hL := okL.cons ((hF.pi 5 rfl).at_ hs) (okL.cons ((hF.pi 0 rfl).at_ hs) (okL.cons (hs.mi 2 rfl) (okL.cons (hQ.at_ hs) okL.nil)))
        refine c_end (x_t (hK _ _ hL ?_))
        clear hK K
        refine d_end (by kernel_rfl) ?_
        refine (x_b (x_t ?_))
        refine wpIn_region_lit ?_
        refine q_val hk (w_add rfl rfl (wr64 (by omega) (by omega))) rfl rfl rfl fun a hk => ?_
        refine q_val hk (w_mv rfl) rfl rfl rfl fun a hk => ?_
        refine (c_end (x_t ?_))
        have hs := hs.rw0 (congrArg (fun q => blk ob q 56) (ita_step (po := po) (pq := pq)))
        rw [pairT_next] at hT
        have hs := hs.up1
        have hs := hs.up2
        have hs := hs.up2
        exact ⟨k + 1, ⟨_, (by omega), hT, hk.k rfl (hk.k rfl (hk.k rfl (hk.k rfl (hk.k rfl (hk.k rfl (hk.k rfl (hk.k rfl hk.nil))))))), hs⟩, by omega⟩
    · skip
      refine q_val hk (w_lt rfl rfl (decide_eq_false hc1)) rfl rfl rfl fun a hk => ?_
      refine (c_end (x_t ?_))
      refine wpIn_seq ?_
      refine c_F hk rfl ?_
      refine (wpIn_exit (x_te (x_te (x_be ?_))))
      refine c_end0 hk rfl ?_
      have hs := hs.up1
      have hs := hs.drop
      have hs := hs.up1
      have hkn : k = n := by omega
      rw [hkn] at hs hT
      rw [ita_end] at hs
      exact ⟨_, _, rfl, hT, hs⟩
theorem interp_m {F0 : Nat → Prop} {W : World} {M R : List Res} (s : Bool) (n lc yc : Nat) (la ya : Option Addr) (v : Nat → Nat) (py : Nat → Zp s) (t : Option Nat) (evs : List Ev) (r : Res) (w0 : World) (hs : Sat F0 W (r :: M) ((lst 4 (.slice ya n yc) n (en vq (fun i => mq (py i)) n)) :: R) w0) (hT : TapeIs t evs r) (hL : HasR (lst 1 (.slice la n lc) n (en ic (fun i => ((v i : Nat) : Int)) n)) R) (h0 : 0 < n) (hn : n ≤ 255) (hv : ∀ i, i < n → 1 ≤ v i ∧ v i ≤ 255) (hd : ∀ i k, i < k → k < n → v i ≠ v k) (he : evs.length ≤ 10000000) : Calls Tryz.prog 90 [tval t, fieldV s, .slice la n lc, .slice ya n yc].toArray w0 fun e w => ∃ b r, e = .returned (.tuple #[.slice (some ⟨b, 0, none⟩) n n, .int .i64 0]) ∧ TapeIs t (evs ++ interpE (n : Int)) r ∧ Sat F0 W (r :: blk b (en vq (fun i => mq (itp (pt s v) py n n i)) n) 56 :: M) R w := by
  refine c_enter (args := [tval t, fieldV s, .slice la n lc, .slice ya n yc]) Tryz.func90 rfl rfl rfl fun a hk => ?_
  refine wpIn_seq ?_
  refine wpIn_region_lit ?_
  refine q_box (vs := [tval t]) hk hs rfl rfl rfl rfl fun b1 w a hk hs => ?_
  refine q_box (vs := fieldL s) hk hs rfl rfl rfl rfl fun b2 w a hk hs => ?_
  refine q_box (vs := [.slice ya n yc]) hk hs rfl rfl rfl rfl fun b3 w a hk hs => ?_
  refine q_val hk (w_as rfl) rfl rfl rfl fun a hk => ?_
  refine q_val hk (w_as rfl) rfl rfl rfl fun a hk => ?_
  refine (c_end (x_t ?_))
  refine wpIn_seq ?_
  refine wpIn_seq ?_
  refine wpIn_region_lit ?_
  refine q_val hk (w_mv rfl) rfl rfl rfl fun a hk => ?_
  refine q_call (caps := []) hk rfl rfl Tryz.func127 fo127 rfl rfl (lcheck_c n lc la v _ ((hL.cons).at_ hs) (by omega) hv hd) ?_
  rintro _ w ⟨rfl, hb⟩
  have hs := hs.below hb
  refine ⟨_, rfl, fun a hk => ?_⟩
  refine q_val hk (w_as rfl) rfl rfl rfl fun a hk => ?_
  refine (c_end (x_t ?_))
  refine wpIn_seq ?_
  refine wpIn_region_lit ?_
  refine q_val hk (w_mv rfl) rfl rfl rfl fun a hk => ?_
  refine q_val hk (w_ne rfl rfl (decide_eq_false (by decide))) rfl rfl rfl fun a hk => ?_
  refine (c_end (x_t ?_))
  refine c_F hk rfl ?_
  refine (wpIn_skip (x_t ?_))
  refine wpIn_seq ?_
  refine wpIn_seq ?_
  refine wpIn_region_lit ?_
  refine q_val hk (w_mv rfl) rfl rfl rfl fun a hk => ?_
  refine q_val hk (w_len rfl Tryz.underlying34) rfl rfl rfl fun a hk => ?_
  refine q_val hk (w_ld1 rfl ty51 (.blk (n := 1) (hs.mi 0 rfl) rfl)) rfl rfl rfl fun a hk => ?_
  refine q_val hk (w_len rfl Tryz.underlying51) rfl rfl rfl fun a hk => ?_
  refine q_val hk (w_ne rfl rfl (decide_eq_false (by omega))) rfl rfl rfl fun a hk => ?_
  refine (c_end (x_t ?_))
  refine c_F hk rfl ?_
  refine (wpIn_skip (x_t ?_))
  refine wpIn_seq ?_
  refine wpIn_region_lit ?_
  refine q_val hk (w_ld1 rfl ty60 (.blk (n := 1) (hs.mi 2 rfl) rfl)) rfl rfl rfl fun a hk => ?_
  refine q_val hk (w_ldA rfl ty120 (.blk (n := 14) (hs.mi 1 rfl) rfl) rfl) rfl rfl rfl fun a hk => ?_
  refine q_val hk (w_mv rfl) rfl rfl rfl fun a hk => ?_
  have hs := hs.up3
  refine q_call (caps := []) hk rfl rfl Tryz.func116 fo116 rfl rfl (weights_m0 s n lc la v t evs _ _ hs hT (hL.cons) h0 hn hv hd (by omega)) ?_
  rintro _ w ⟨b4, r5, rfl, ht6, hs⟩
  have hT := ht6
  refine ⟨_, rfl, fun a hk => ?_⟩
  refine q_val hk (w_mv rfl) rfl rfl rfl fun a hk => ?_
  refine q_val hk (w_ext rfl rfl) rfl rfl rfl fun a hk => ?_
  refine q_val hk (w_ext rfl rfl) rfl rfl rfl fun a hk => ?_
  refine q_alc (vs := [.slice none 0 0]) hk hs zr51 rfl rfl rfl fun b7 w a hk hs => ?_
  refine q_sto (o := 0) (cs := [.slice (some ⟨b4, 0, none⟩) n n]) (vs' := [.slice (some ⟨b4, 0, none⟩) n n]) hk hs rfl rfl rfl ty51 rfl rfl rfl rfl rfl rfl fun w hs => ?_
  refine q_val hk (w_as rfl) rfl rfl rfl fun a hk => ?_
  refine (c_end (x_t ?_))
  refine wpIn_seq ?_
  refine wpIn_region_lit ?_
  refine q_val hk (w_ldA rfl ty120 (.blk (n := 14) (hs.mi 4 rfl) rfl) rfl) rfl rfl rfl fun a hk => ?_
  refine q_val hk (w_mv rfl) rfl rfl rfl fun a hk => ?_
  refine q_call (caps := []) hk rfl rfl Tryz.func117 fo117 rfl rfl (points_m s n lc la v _ (hs.hasR (hL.cons)) (by omega) hv) ?_
  rintro _ w ⟨b8, rfl, hs⟩
  have hs := hs.subR (R' := ((lst 4 (.slice ya n yc) n (en vq (fun i => mq (py i)) n)) :: R)) (by simp +contextual)
  refine ⟨_, rfl, fun a hk => ?_⟩
  refine q_val hk (w_as rfl) rfl rfl rfl fun a hk => ?_
  have hs := hs.frz (r := lst 4 (.slice (some ⟨b8, 0, none⟩) n n) n (en vq (fun i => mq (pt s v i)) n)) (blk_lst (hs.mi 0 rfl) (en_len vq_len) (Nat.le_refl _)) (fun _ h => (Option.some.inj h.2).symm)
  refine (c_end (x_t ?_))
  refine wpIn_seq ?_
  refine wpIn_region_lit ?_
  refine q_val hk (w_ldA rfl ty120 (.blk (n := 14) (hs.mi 4 rfl) rfl) rfl) rfl rfl rfl fun a hk => ?_
  refine q_val hk (w_mv rfl) rfl rfl rfl fun a hk => ?_
  refine q_call (caps := []) hk rfl rfl Tryz.func118 fo118 rfl rfl (master_m s n n (some ⟨b8, 0, none⟩) (pt s v) _ (hs.hasR (HasR.nth 0 rfl)) (by omega)) ?_
  rintro _ w ⟨b9, rfl, hs⟩
  have hs := hs.subR (R' := ((lst 4 (.slice (some ⟨b8, 0, none⟩) n n) n (en vq (fun i => mq (pt s v i)) n)) :: (lst 4 (.slice ya n yc) n (en vq (fun i => mq (py i)) n)) :: R)) (by simp +contextual)
  refine ⟨_, rfl, fun a hk => ?_⟩
  refine q_val hk (w_as rfl) rfl rfl rfl fun a hk => ?_
  have hs := hs.frz (r := lst 4 (.slice (some ⟨b9, 0, none⟩) (n + 1) (n + 1)) (n + 1) (en vq (fun i => mq (mst (pt s v) n i)) (n + 1))) (blk_lst (hs.mi 0 rfl) (en_len vq_len) (Nat.le_refl _)) (fun _ h => (Option.some.inj h.2).symm)
  refine (c_end (x_t ?_))
  refine wpIn_seq ?_
  refine wpIn_region_lit ?_
  refine q_val hk (w_mv rfl) rfl rfl rfl fun a hk => ?_
  refine q_val hk (w_len rfl Tryz.underlying51) rfl rfl rfl fun a hk => ?_
  refine q_mks (k := n) (cs := vq 0) hk hs rfl rfl Tryz.underlying51 ty56 zr56 (by kernel_rfl) rfl rfl rfl rfl (by omega) (by omega) rfl rfl fun b10 w a hk hs => ?_
  have hs := hs.rw0 (show _ = blk b10 (en vq (fun _ => 0) n) 56 from rfl)
  refine q_alc (vs := [.slice none 0 0]) hk hs zr51 rfl rfl rfl fun b11 w a hk hs => ?_
  refine q_sto (o := 0) (cs := [.slice (some ⟨b10, 0, none⟩) n n]) (vs' := [.slice (some ⟨b10, 0, none⟩) n n]) hk hs rfl rfl rfl ty51 rfl rfl rfl rfl rfl rfl fun w hs => ?_
  refine (c_end (x_t ?_))
  refine wpIn_seq ?_
  refine wpIn_region_lit ?_
  refine q_val hk (w_mkf (frees := [.tmp 5, .tmp 11, .tmp 7, .tmp 15, .tmp 4]) rfl) rfl rfl rfl fun a hk => ?_
  refine q_val hk (w_as rfl) rfl rfl rfl fun a hk => ?_
  refine (c_end (x_t ?_))
  refine wpIn_seq ?_
  refine wpIn_seq ?_
  refine wpIn_region_lit ?_
  refine q_val hk (w_mv rfl) rfl rfl rfl fun a hk => ?_
  refine q_val hk (w_len rfl Tryz.underlying51) rfl rfl rfl fun a hk => ?_
  refine q_val hk (w_mv rfl) rfl rfl rfl fun a hk => ?_
  refine (c_end (x_t ?_))
  refine wpIn_block ?_
  have hs := hs.up4
  have hs := hs.frz (r := lst 4 (.slice (some ⟨b4, 0, none⟩) n n) n (en vq (fun i => mq (wgt (pt s v) n i)) n)) (blk_lst (hs.mi 0 rfl) (en_len vq_len) (Nat.le_refl _)) (fun _ h => (Option.some.inj h.2).symm)
  have hs := hs.up6
  have hs := hs.frz (r := blk b1 [tval t] 60) (hs.okM _ (.head _)) (fun _ h => h)
  have hs := hs.up5
  have hs := hs.frz (r := blk b2 (fieldL s) 120) (hs.okM _ (.head _)) (fun _ h => h)
  have hs := hs.up4
  have hs := hs.frz (r := blk b3 [.slice ya n yc] 51) (hs.okM _ (.head _)) (fun _ h => h)
  have hs := hs.up2
  have hs := hs.frz (r := blk b7 [.slice (some ⟨b4, 0, none⟩) n n] 51) (hs.okM _ (.head _)) (fun _ h => h)
  have hs := hs.frz (r := blk b11 [.slice (some ⟨b10, 0, none⟩) n n] 51) (hs.okM _ (.head _)) (fun _ h => h)
  have hs := hs.rw0 (congrArg (fun q => blk b10 q 56) (itp_zero (x := pt s v) (y := py) (n := n)))
  refine c_loop (α := Nat) (fun u a w => ∃ (r : Res), u ≤ n ∧ TapeIs t (evs ++ weightsE (n : Int) ++ upE 0 ((u : Nat) : Int) (pairT n)) r ∧ Kn [] 68 [(49, .int .i64 ((u : Nat) : Int)), (48, .int .i64 ((n : Nat) : Int)), (16, .func (.func 128) #[] #[.pointer (some ⟨b2, 0, none⟩), .pointer (some ⟨b7, 0, none⟩), .pointer (some ⟨b3, 0, none⟩), .pointer (some ⟨b11, 0, none⟩), .pointer (some ⟨b1, 0, none⟩)]), (15, .pointer (some ⟨b11, 0, none⟩)), (14, .slice (some ⟨b9, 0, none⟩) (n + 1) (n + 1)), (13, .slice (some ⟨b8, 0, none⟩) n n), (9, .int .i64 0), (8, .slice none 0 0), (5, .pointer (some ⟨b2, 0, none⟩))] a ∧ Sat F0 W ((blk b10 (en vq (fun i => mq (itp (pt s v) py n u i)) n) 56) :: r :: M) ((blk b11 [.slice (some ⟨b10, 0, none⟩) n n] 51) :: (blk b7 [.slice (some ⟨b4, 0, none⟩) n n] 51) :: (blk b3 [.slice ya n yc] 51) :: (blk b2 (fieldL s) 120) :: (blk b1 [tval t] 60) :: (lst 4 (.slice (some ⟨b4, 0, none⟩) n n) n (en vq (fun i => mq (wgt (pt s v) n i)) n)) :: (lst 4 (.slice (some ⟨b9, 0, none⟩) (n + 1) (n + 1)) (n + 1) (en vq (fun i => mq (mst (pt s v) n i)) (n + 1))) :: (lst 4 (.slice (some ⟨b8, 0, none⟩) n n) n (en vq (fun i => mq (pt s v i)) n)) :: (lst 4 (.slice ya n yc) n (en vq (fun i => mq (py i)) n)) :: R) w) (fun u => n - u) 0 ?_ ?_
  · exact ⟨_, (by omega), (by rw [upE_nil (by omega), List.append_nil]; exact hT), hk.k rfl (hk.k rfl (hk.k rfl (hk.k rfl (hk.k rfl (hk.k rfl (hk.k rfl (hk.k rfl (hk.k rfl hk.nil)))))))), hs⟩
  rintro u a w ⟨r, hf0, hf1, hk, hs⟩
  have hT := hf1
  have hlw := weights_len (n := (n : Int)) (by omega)
  have hlu := pairTs_len (n := n) (u := u)
  have hun : u * n ≤ 1000 * 1000 := Nat.mul_le_mul (by omega) (by omega)
  refine wpIn_seq ?_
  refine wpIn_region_lit ?_
  rcases Classical.em (((u : Nat) : Int) < ((n : Nat) : Int)) with hc12 | hc12
  · skip
    refine q_val hk (w_lt rfl rfl (decide_eq_true hc12)) rfl rfl rfl fun a hk => ?_
    refine (c_end (x_t ?_))
    refine wpIn_seq ?_
    refine c_T hk rfl ?_
    refine (wpIn_skip (x_t ?_))
    refine wpIn_seq ?_
    refine wpIn_block ?_
    refine wpIn_seq ?_
    refine wpIn_region_lit ?_
    refine q_val hk (w_mv rfl) rfl rfl rfl fun a hk => ?_
    refine q_val hk (w_as rfl) rfl rfl rfl fun a hk => ?_
    refine (c_end (x_t ?_))
    refine wpIn_seq ?_
    have hL := okL.cons (hs.ri 3 rfl) (okL.cons (hs.ri 7 rfl) okL.nil)
    refine d_begin _ 13 (by kernel_rfl) rfl hs hL fun w hs hL => ?_
    refine d_join (n2 := 1) 4095 (fun a w => ∃ (b1_6 : Nat) (b1_10 : Nat), Kn [] 68 [(18, .slice (some ⟨b1_6, 0, none⟩) (n + 1 - 1) (n + 1 - 1)), (19, .pointer (some ⟨b1_10, 0, none⟩)), (61, vec (mq (Hn (mst (pt s v) n) (n + 1) (pt s v u) (n + 1)))), (60, .slice (some ⟨b1_6, 0, none⟩) (n + 1 - 1) (n + 1 - 1)), (52, .tuple #[.slice (some ⟨b1_6, 0, none⟩) (n + 1 - 1) (n + 1 - 1), vec (mq (Hn (mst (pt s v) n) (n + 1) (pt s v u) (n + 1)))]), (59, .tuple #[.slice (some ⟨b1_6, 0, none⟩) (n + 1 - 1) (n + 1 - 1), vec (mq (Hn (mst (pt s v) n) (n + 1) (pt s v u) (n + 1)))]), (58, vec (mq (pt s v u))), (57, .pointer (some ((adq (some ⟨b8, 0, none⟩)).add (u * 4)))), (56, .int .i64 ((u : Nat) : Int)), (55, .slice (some ⟨b8, 0, none⟩) n n), (54, .slice (some ⟨b9, 0, none⟩) (n + 1) (n + 1)), (53, fieldV s), (17, .int .i64 ((u : Nat) : Int)), (51, .int .i64 ((u : Nat) : Int)), (50, .bool true), (49, .int .i64 ((u : Nat) : Int)), (48, .int .i64 ((n : Nat) : Int)), (16, .func (.func 128) #[] #[.pointer (some ⟨b2, 0, none⟩), .pointer (some ⟨b7, 0, none⟩), .pointer (some ⟨b3, 0, none⟩), .pointer (some ⟨b11, 0, none⟩), .pointer (some ⟨b1, 0, none⟩)]), (15, .pointer (some ⟨b11, 0, none⟩)), (14, .slice (some ⟨b9, 0, none⟩) (n + 1) (n + 1)), (13, .slice (some ⟨b8, 0, none⟩) n n), (9, .int .i64 0), (8, .slice none 0 0), (5, .pointer (some ⟨b2, 0, none⟩))] a ∧ Sat F0 W ((blk b1_10 [.int .u64 0, .int .u64 0, .int .u64 0, .int .u64 0] 56) :: (blk b1_6 (en vq (fun i => mq (Hn (mst (pt s v) n) (n + 1) (pt s v u) (n + 1 - 1 - i))) (n + 1 - 1)) 56) :: (blk b10 (en vq (fun i => mq (itp (pt s v) py n u i)) n) 56) :: r :: M) ((blk b11 [.slice (some ⟨b10, 0, none⟩) n n] 51) :: (blk b7 [.slice (some ⟨b4, 0, none⟩) n n] 51) :: (blk b3 [.slice ya n yc] 51) :: (blk b2 (fieldL s) 120) :: (blk b1 [tval t] 60) :: (lst 4 (.slice (some ⟨b4, 0, none⟩) n n) n (en vq (fun i => mq (wgt (pt s v) n i)) n)) :: (lst 4 (.slice (some ⟨b9, 0, none⟩) (n + 1) (n + 1)) (n + 1) (en vq (fun i => mq (mst (pt s v) n i)) (n + 1))) :: (lst 4 (.slice (some ⟨b8, 0, none⟩) n n) n (en vq (fun i => mq (pt s v i)) n)) :: (lst 4 (.slice ya n yc) n (en vq (fun i => mq (py i)) n)) :: R) w ∧ okL [blk b2 (fieldL s) 120, lst 4 (.slice (some ⟨b8, 0, none⟩) n n) n (en vq (fun i => mq (pt s v i)) n)] w) ?_ ?_
    · intro hJ4095
      refine d_v 0 1 hk hL rfl (by kernel_rfl) rfl rfl (fun w hL => w_ldA rfl ty120 (.blk (n := 14) (hL.at 0 rfl) rfl) rfl) fun a hk => ?_
      refine d_v 1 3 hk hL rfl (by kernel_rfl) rfl rfl (fun w hL => w_mv rfl) fun a hk => ?_
      refine d_v 2 7 hk hL rfl (by kernel_rfl) rfl rfl (fun w hL => w_mv rfl) fun a hk => ?_
      refine d_v 3 15 hk hL rfl (by kernel_rfl) rfl rfl (fun w hL => w_mv rfl) fun a hk => ?_
      refine d_v 4 31 hk hL rfl (by kernel_rfl) rfl rfl (fun w hL => w_iaL (k := u) rfl rfl Tryz.underlying51 ty56 (hL.at 1 rfl) (by omega) (by omega)) fun a hk => ?_
      refine d_v 5 63 hk hL rfl (by kernel_rfl) rfl rfl (fun w hL => w_ldv (z := mq (pt s v u)) rfl ty56 (lstq (k := u) (hL.at 1 rfl) (by omega) (en_chunk vq_len (by omega)))) fun a hk => ?_
      refine d_2 6 10 127 1087 rfl rfl (by kernel_rfl) (fun K hK => ?_) (fun K hK => ?_)
      · skip
        have hs := hs.none
        refine q_call (caps := []) hk rfl rfl Tryz.func119 fo119 rfl rfl (quot_m s (n + 1) (n + 1) (some ⟨b9, 0, none⟩) (mst (pt s v) n) (pt s v u) none [] _ _ hs rfl (HasR.nth 6 rfl) (by omega) (by omega) (by decide)) ?_
        rintro _ w ⟨b1_6, r1_6b, rfl, ht1_6c, hs⟩
        have hs := hs.drop
        refine ⟨_, rfl, fun a hk => ?_⟩
        have hL := okL.cons (hs.ri 3 rfl) (okL.cons (hs.ri 7 rfl) okL.nil)
        refine c_end (x_t (hK _ _ hL ?_))
        clear hK K
        refine d_v 7 255 hk hL rfl (by kernel_rfl) rfl rfl (fun w hL => w_mv rfl) fun a hk => ?_
        refine d_v 8 511 hk hL rfl (by kernel_rfl) rfl rfl (fun w hL => w_ext rfl rfl) fun a hk => ?_
        refine d_v 9 1023 hk hL rfl (by kernel_rfl) rfl rfl (fun w hL => w_ext rfl rfl) fun a hk => ?_
        refine d_1 10 2047 rfl (by kernel_rfl) fun K hK => ?_
        refine q_alc (vs := [.int .u64 0, .int .u64 0, .int .u64 0, .int .u64 0]) hk hs zr56 rfl rfl rfl fun b1_10 w a hk hs => ?_
        have hL := okL.cons (hs.ri 3 rfl) (okL.cons (hs.ri 7 rfl) okL.nil)
        refine c_end (x_t (hK _ _ hL ?_))
        clear hK K
        refine d_v 11 4095 hk hL rfl (by kernel_rfl) rfl rfl (fun w hL => w_as rfl) fun a hk => ?_
        have hL := okL.cons (hs.ri 3 rfl) (okL.cons (hs.ri 7 rfl) okL.nil)
        exact hJ4095 _ _ ⟨_, _, hk.k rfl (hk.k rfl (hk.k rfl (hk.k rfl (hk.k rfl (hk.k rfl (hk.k rfl (hk.k rfl (hk.k rfl (hk.k rfl (hk.k rfl (hk.k rfl (hk.k rfl (hk.k rfl (hk.k rfl (hk.k rfl (hk.k rfl (hk.k rfl (hk.k rfl (hk.k rfl (hk.k rfl (hk.k rfl (hk.k rfl (hk.k rfl hk.nil))))))))))))))))))))))), hs, hL⟩
      · skip
        refine q_alc (vs := [.int .u64 0, .int .u64 0, .int .u64 0, .int .u64 0]) hk hs zr56 rfl rfl rfl fun b1_10 w a hk hs => ?_
        have hL := okL.cons (hs.ri 3 rfl) (okL.cons (hs.ri 7 rfl) okL.nil)
        refine c_end (x_t (hK _ _ hL ?_))
        clear hK K
        refine d_1 6 1151 rfl (by kernel_rfl) fun K hK => ?_
        have hs := hs.none
        refine q_call (caps := []) hk rfl rfl Tryz.func119 fo119 rfl rfl (quot_m s (n + 1) (n + 1) (some ⟨b9, 0, none⟩) (mst (pt s v) n) (pt s v u) none [] _ _ hs rfl (HasR.nth 6 rfl) (by omega) (by omega) (by decide)) ?_
        rintro _ w ⟨b1_6, r1_6b, rfl, ht1_6c, hs⟩
        have hs := hs.drop
        refine ⟨_, rfl, fun a hk => ?_⟩
        have hL := okL.cons (hs.ri 3 rfl) (okL.cons (hs.ri 7 rfl) okL.nil)
        refine c_end (x_t (hK _ _ hL ?_))
        clear hK K
        refine d_v 7 1279 hk hL rfl (by kernel_rfl) rfl rfl (fun w hL => w_mv rfl) fun a hk => ?_
        refine d_v 8 1535 hk hL rfl (by kernel_rfl) rfl rfl (fun w hL => w_ext rfl rfl) fun a hk => ?_
        refine d_v 9 2047 hk hL rfl (by kernel_rfl) rfl rfl (fun w hL => w_ext rfl rfl) fun a hk => ?_
        refine d_v 11 4095 hk hL rfl (by kernel_rfl) rfl rfl (fun w hL => w_as rfl) fun a hk => ?_
        have hs := hs.up3
        have hs := hs.up3
        have hs := hs.up2
        have hs := hs.up3
        have hL := okL.cons (hs.ri 3 rfl) (okL.cons (hs.ri 7 rfl) okL.nil)
        exact hJ4095 _ _ ⟨_, _, hk.k rfl (hk.k rfl (hk.k rfl (hk.k rfl (hk.k rfl (hk.k rfl (hk.k rfl (hk.k rfl (hk.k rfl (hk.k rfl (hk.k rfl (hk.k rfl (hk.k rfl (hk.k rfl (hk.k rfl (hk.k rfl (hk.k rfl (hk.k rfl (hk.k rfl (hk.k rfl (hk.k rfl (hk.k rfl (hk.k rfl (hk.k rfl hk.nil))))))))))))))))))))))), hs, hL⟩
    · rintro a w ⟨b1_6, b1_10, hk, hs, hL⟩
      refine d_1 12 8191 rfl (by kernel_rfl) fun K hK => ?_
      refine q_sto (o := 0) (cs := [.int .u64 ((dg 0 (mq (Hn (mst (pt s v) n) (n + 1) (pt s v u) (n + 1))) : Nat) : Int), .int .u64 ((dg 1 (mq (Hn (mst (pt s v) n) (n + 1) (pt s v u) (n + 1))) : Nat) : Int), .int .u64 ((dg 2 (mq (Hn (mst (pt s v) n) (n + 1) (pt s v u) (n + 1))) : Nat) : Int), .int .u64 ((dg 3 (mq (Hn (mst (pt s v) n) (n + 1) (pt s v u) (n + 1))) : Nat) : Int)]) (vs' := [.int .u64 ((dg 0 (mq (Hn (mst (pt s v) n) (n + 1) (pt s v u) (n + 1))) : Nat) : Int), .int .u64 ((dg 1 (mq (Hn (mst (pt s v) n) (n + 1) (pt s v u) (n + 1))) : Nat) : Int), .int .u64 ((dg 2 (mq (Hn (mst (pt s v) n) (n + 1) (pt s v u) (n + 1))) : Nat) : Int), .int .u64 ((dg 3 (mq (Hn (mst (pt s v) n) (n + 1) (pt s v u) (n + 1))) : Nat) : Int)]) hk hs rfl rfl rfl ty56 rfl rfl rfl rfl rfl rfl fun w hs => ?_
      have hL := okL.cons (hs.ri 3 rfl) (okL.cons (hs.ri 7 rfl) okL.nil)
      refine c_end (x_t (hK _ _ hL ?_))
      clear hK K
      refine d_end (by kernel_rfl) ?_
      refine (x_t ?_)
      refine wpIn_region_lit ?_
      refine q_val hk (w_mv rfl) rfl rfl rfl fun a hk => ?_
      refine q_val hk (w_mv rfl) rfl rfl rfl fun a hk => ?_
      refine q_val hk (w_mv rfl) rfl rfl rfl fun a hk => ?_
      have hs := hs.up1
      have hs := hs.frz (r := lst 4 (.slice (some ⟨b1_6, 0, none⟩) (n + 1 - 1) (n + 1 - 1)) (n + 1 - 1) (en vq (fun i => mq (Hn (mst (pt s v) n) (n + 1) (pt s v u) (n + 1 - 1 - i))) (n + 1 - 1))) (blk_lst (hs.mi 0 rfl) (en_len vq_len) (Nat.le_refl _)) (fun _ h => (Option.some.inj h.2).symm)
      have hs := hs.up1
      have hs := hs.up2
      have hFF : HasR (rall [blk b2 (fieldL s) 120, blk b7 [.slice (some ⟨b4, 0, none⟩) n n] 51, lst 4 (.slice (some ⟨b4, 0, none⟩) n n) n (en vq (fun i => mq (wgt (pt s v) n i)) n), blk b3 [.slice ya n yc] 51, lst 4 (.slice ya n yc) n (en vq (fun i => mq (py i)) n), blk b11 [.slice (some ⟨b10, 0, none⟩) n n] 51, blk b1 [tval t] 60]) ((lst 4 (.slice (some ⟨b1_6, 0, none⟩) (n + 1 - 1) (n + 1 - 1)) (n + 1 - 1) (en vq (fun i => mq (Hn (mst (pt s v) n) (n + 1) (pt s v u) (n + 1 - 1 - i))) (n + 1 - 1))) :: (blk b11 [.slice (some ⟨b10, 0, none⟩) n n] 51) :: (blk b7 [.slice (some ⟨b4, 0, none⟩) n n] 51) :: (blk b3 [.slice ya n yc] 51) :: (blk b2 (fieldL s) 120) :: (blk b1 [tval t] 60) :: (lst 4 (.slice (some ⟨b4, 0, none⟩) n n) n (en vq (fun i => mq (wgt (pt s v) n i)) n)) :: (lst 4 (.slice (some ⟨b9, 0, none⟩) (n + 1) (n + 1)) (n + 1) (en vq (fun i => mq (mst (pt s v) n i)) (n + 1))) :: (lst 4 (.slice (some ⟨b8, 0, none⟩) n n) n (en vq (fun i => mq (pt s v i)) n)) :: (lst 4 (.slice ya n yc) n (en vq (fun i => mq (py i)) n)) :: R) := (.rall fun q hq => by simp only [List.mem_cons, List.not_mem_nil, or_false] at hq; rcases hq with rfl | rfl | rfl | rfl | rfl | rfl | rfl <;> exact HasR.of (by simp))
      refine q_call (caps := [.pointer (some ⟨b2, 0, none⟩), .pointer (some ⟨b7, 0, none⟩), .pointer (some ⟨b3, 0, none⟩), .pointer (some ⟨b11, 0, none⟩), .pointer (some ⟨b1, 0, none⟩)]) hk rfl rfl Tryz.func128 fo128 rfl rfl (iadd_m s n u b2 b7 b3 b11 b1 b4 b10 b1_6 yc ya (wgt (pt s v) n) py (itp (pt s v) py n u) (fun k => Hn (mst (pt s v) n) (n + 1) (pt s v u) (n + 1 - 1 - k)) t (evs ++ weightsE (n : Int) ++ upE 0 ((u : Nat) : Int) (pairT n)) _ _ hs hFF (HasR.nth 0 rfl) hT (by omega) (by omega) (by simp only [List.length_append]; omega)) ?_
      rintro _ w ⟨v13, r14, rfl, hT, hs⟩
      have hs : Sat F0 W (r14 :: (blk b10 (en vq (fun i => mq (itp (pt s v) py n (u + 1) i)) n) 56) :: (blk b1_10 [.int .u64 ((dg 0 (mq (Hn (mst (pt s v) n) (n + 1) (pt s v u) (n + 1))) : Nat) : Int), .int .u64 ((dg 1 (mq (Hn (mst (pt s v) n) (n + 1) (pt s v u) (n + 1))) : Nat) : Int), .int .u64 ((dg 2 (mq (Hn (mst (pt s v) n) (n + 1) (pt s v u) (n + 1))) : Nat) : Int), .int .u64 ((dg 3 (mq (Hn (mst (pt s v) n) (n + 1) (pt s v u) (n + 1))) : Nat) : Int)] 56) :: M) ((lst 4 (.slice (some ⟨b1_6, 0, none⟩) (n + 1 - 1) (n + 1 - 1)) (n + 1 - 1) (en vq (fun i => mq (Hn (mst (pt s v) n) (n + 1) (pt s v u) (n + 1 - 1 - i))) (n + 1 - 1))) :: (blk b11 [.slice (some ⟨b10, 0, none⟩) n n] 51) :: (blk b7 [.slice (some ⟨b4, 0, none⟩) n n] 51) :: (blk b3 [.slice ya n yc] 51) :: (blk b2 (fieldL s) 120) :: (blk b1 [tval t] 60) :: (lst 4 (.slice (some ⟨b4, 0, none⟩) n n) n (en vq (fun i => mq (wgt (pt s v) n i)) n)) :: (lst 4 (.slice (some ⟨b9, 0, none⟩) (n + 1) (n + 1)) (n + 1) (en vq (fun i => mq (mst (pt s v) n i)) (n + 1))) :: (lst 4 (.slice (some ⟨b8, 0, none⟩) n n) n (en vq (fun i => mq (pt s v i)) n)) :: (lst 4 (.slice ya n yc) n (en vq (fun i => mq (py i)) n)) :: R) w := hs
      have hs := hs.subR (R' := ((blk b11 [.slice (some ⟨b10, 0, none⟩) n n] 51) :: (blk b7 [.slice (some ⟨b4, 0, none⟩) n n] 51) :: (blk b3 [.slice ya n yc] 51) :: (blk b2 (fieldL s) 120) :: (blk b1 [tval t] 60) :: (lst 4 (.slice (some ⟨b4, 0, none⟩) n n) n (en vq (fun i => mq (wgt (pt s v) n i)) n)) :: (lst 4 (.slice (some ⟨b9, 0, none⟩) (n + 1) (n + 1)) (n + 1) (en vq (fun i => mq (mst (pt s v) n i)) (n + 1))) :: (lst 4 (.slice (some ⟨b8, 0, none⟩) n n) n (en vq (fun i => mq (pt s v i)) n)) :: (lst 4 (.slice ya n yc) n (en vq (fun i => mq (py i)) n)) :: R)) (by simp +contextual)
      refine ⟨_, rfl, fun a hk => ?_⟩
      refine (c_end (x_b (x_t ?_)))
      refine wpIn_region_lit ?_
      refine q_val hk (w_add rfl rfl (wr64 (by omega) (by omega))) rfl rfl rfl fun a hk => ?_
      refine q_val hk (w_mv rfl) rfl rfl rfl fun a hk => ?_
      refine (c_end (x_t ?_))
      rw [pt_row] at hT
      have hs := hs.up2
      have hs := hs.drop
      have hs := hs.up1
      exact ⟨u + 1, ⟨_, (by omega), hT, hk.k rfl (hk.k rfl (hk.k rfl (hk.k rfl (hk.k rfl (hk.k rfl (hk.k rfl (hk.k rfl (hk.k rfl hk.nil)))))))), hs⟩, by omega⟩
  · skip
    refine q_val hk (w_lt rfl rfl (decide_eq_false hc12)) rfl rfl rfl fun a hk => ?_
    refine (c_end (x_t ?_))
    refine wpIn_seq ?_
    refine c_F hk rfl ?_
    refine (wpIn_exit (x_te (x_te (x_be ?_))))
    refine (x_t ?_)
    refine wpIn_seq ?_
    refine wpIn_region_lit ?_
    refine q_val hk (w_ld1 rfl ty51 (.blk (n := 1) (hs.ri 0 rfl) rfl)) rfl rfl rfl fun a hk => ?_
    refine q_val hk (w_as rfl) rfl rfl rfl fun a hk => ?_
    refine q_val hk (w_as rfl) rfl rfl rfl fun a hk => ?_
    refine (c_end (x_t ?_))
    refine (wpIn_ret ?_)
    refine c_ret2 hk rfl rfl rfl ?_
    have hs := hs.up1
    have hs := hs.toR (R' := R) (fun r hr => .of (by simp [hr]))
    have hun : u = n := by omega
    rw [hun] at hs hT
    exact ⟨_, _, rfl, by unfold interpE; rw [← List.append_assoc]; exact hT, hs⟩
end Go.Proofs.YtdnkkbmpefhbjaaGreatDoor
namespace Go.Proofs.YtdnkkbmpefhbjaaGreatDoor
set_option linter.all false
open Go Go.RowKit Alg
/-- An element as the reference has it. -/
def zv {s : Bool} (z : Zp s) : Nat := z.val
section
variable {s : Bool} (w : World)
theorem zv_lt4 (z : Zp s) : zv z < R4 := Nat.lt_trans z.isLt (pr_lt s)
theorem zv_one : zv (1 : Zp s) = 1 := one_val
theorem zv_zero : zv (0 : Zp s) = 0 := Fin.val_zero _
theorem rmul_z {a b : Nat} {x y : Zp s} (ha : a = zv x) (hb : b = zv y) : Calls Tryz.prog 66 #[vec (pr s), vec a, vec b] w fun e w' => e = .returned (vec (zv (x * y))) ∧ Below w.heap.size w w' := by
  subst ha hb
  unfold zv
  rw [mul_val]
  exact refMul_c (pr s) x.val y.val (pr_lt s) x.isLt (val_lt4 y) w
theorem radd_z {a b : Nat} {x y : Zp s} (ha : a = zv x) (hb : b = zv y) : Calls Tryz.prog 30 #[vec (pr s), vec a, vec b] w fun e w' => e = .returned (vec (zv (x + y))) ∧ Below w.heap.size w w' := by
  subst ha hb
  unfold zv
  rw [add_val]
  exact refAdd_c (pr s) x.val y.val (pr_lt s) x.isLt y.isLt w
theorem rsub_z {a b : Nat} {x y : Zp s} (ha : a = zv x) (hb : b = zv y) : Calls Tryz.prog 131 #[vec (pr s), vec a, vec b] w fun e w' => e = .returned (vec (zv (x - y))) ∧ Below w.heap.size w w' := by
  subst ha hb
  unfold zv
  rw [sub_val]
  exact refSub_c (pr s) x.val y.val (pr_lt s) x.isLt y.isLt w
theorem rmod_z (n : Nat) (hn : n < R4) : Calls Tryz.prog 29 #[vec (pr s), vec n] w fun e w' => e = .returned (vec (zv (zn s n))) ∧ Below w.heap.size w w' := by
  unfold zv
  rw [zn_val]
  exact refMod_c (pr s) n (pr_lt s) (pr_gt1 s) hn w
theorem rone_z : Calls Tryz.prog 67 #[] w fun e w' => e = .returned (vec (zv (1 : Zp s))) ∧ Below w.heap.size w w' := by
  rw [zv_one]
  exact refOne_c w
theorem rform_z {a : Nat} {x : Zp s} (ha : a = zv x) : Calls Tryz.prog 43 #[vec (pr s), vec a] w fun e w' => e = .returned (vec (mq x)) ∧ Below w.heap.size w w' := by
  subst ha
  exact refForm_c (pr s) x.val (pr_lt s) (pr_gt1 s) (val_lt4 x) w
end
theorem rsub2_c (s : Bool) (w : World) : Calls Tryz.prog 112 #[vec (pr s), vec 2] w fun e w' => e = .returned (.tuple #[vec (pr s - 2), .int .u64 ((subC (pr s) 2 : Nat) : Int)]) ∧ Below w.heap.size w w' := by
  have h := refsub_c (pr s) 2 (pr_lt s) (by decide) w
  rw [sub2] at h
  exact h
theorem rp_start {s : Bool} {x : Zp s} {e0 : Nat} (he : e0 < R4) : vq (zv (1 : Zp s)) = vq (zv (pw x (e0 / 2 ^ (256 - 0)))) := by
  rw [Nat.div_eq_of_lt (show e0 < 2 ^ (256 - 0) from he)]
  rfl
theorem rp_T {s : Bool} {x : Zp s} {e0 j : Nat} (hj : j < 256) (h : bitn e0 (255 - j) = 1) : pw x (e0 / 2 ^ (256 - j)) * pw x (e0 / 2 ^ (256 - j)) * x = pw x (e0 / 2 ^ (256 - (j + 1))) := by
  have e : e0 / 2 ^ (256 - j) = e0 / 2 ^ (255 - j) / 2 := by rw [Nat.div_div_eq_div_mul, ← Nat.pow_succ, show (255 - j).succ = 256 - j by omega]
  unfold bitn at h
  rw [show 256 - (j + 1) = 255 - j by omega, ← pw_add, e]
  show pw x (_ + 1) = _
  congr 1
  omega
theorem rp_F {s : Bool} {x : Zp s} {e0 j : Nat} (hj : j < 256) (h : ¬ bitn e0 (255 - j) = 1) : pw x (e0 / 2 ^ (256 - j)) * pw x (e0 / 2 ^ (256 - j)) = pw x (e0 / 2 ^ (256 - (j + 1))) := by
  have e : e0 / 2 ^ (256 - j) = e0 / 2 ^ (255 - j) / 2 := by rw [Nat.div_div_eq_div_mul, ← Nat.pow_succ, show (255 - j).succ = 256 - j by omega]
  unfold bitn at h
  rw [show 256 - (j + 1) = 255 - j by omega, ← pw_add, e]
  congr 1
  omega
theorem rpow_z (s : Bool) (x : Zp s) (e0 : Nat) (W : World) (he : e0 < R4) : Calls Tryz.prog 173 [vec (pr s), vec (zv x), vec e0].toArray W fun e w => e = .returned (vec (zv (pw x e0))) ∧ Below W.heap.size W w := by
  refine c_enter (args := [vec (pr s), vec (zv x), vec e0]) Tryz.func173 rfl rfl rfl fun a hk => ?_
  have hs := Sat.start W [] (fun _ h => by cases h)
  refine wpIn_seq ?_
  refine wpIn_region_lit ?_
  refine q_box (vs := [.int .u64 ((dg 0 (pr s) : Nat) : Int), .int .u64 ((dg 1 (pr s) : Nat) : Int), .int .u64 ((dg 2 (pr s) : Nat) : Int), .int .u64 ((dg 3 (pr s) : Nat) : Int)]) hk hs rfl rfl rfl rfl fun b1 w a hk hs => ?_
  refine q_box (vs := [.int .u64 ((dg 0 (zv x) : Nat) : Int), .int .u64 ((dg 1 (zv x) : Nat) : Int), .int .u64 ((dg 2 (zv x) : Nat) : Int), .int .u64 ((dg 3 (zv x) : Nat) : Int)]) hk hs rfl rfl rfl rfl fun b2 w a hk hs => ?_
  refine q_box (vs := [.int .u64 ((dg 0 e0 : Nat) : Int), .int .u64 ((dg 1 e0 : Nat) : Int), .int .u64 ((dg 2 e0 : Nat) : Int), .int .u64 ((dg 3 e0 : Nat) : Int)]) hk hs rfl rfl rfl rfl fun b3 w a hk hs => ?_
  refine q_alc (vs := [.int .u64 0, .int .u64 0, .int .u64 0, .int .u64 0]) hk hs zr47 rfl rfl rfl fun b4 w a hk hs => ?_
  refine (c_end (x_t ?_))
  refine wpIn_seq ?_
  refine wpIn_region_lit ?_
  refine q_call (caps := []) hk rfl rfl Tryz.func67 fo67 rfl rfl (rone_z (s := s) _) ?_
  rintro _ w ⟨rfl, hb⟩
  have hs := hs.below hb
  refine ⟨_, rfl, fun a hk => ?_⟩
  refine q_alc (vs := [.int .u64 0, .int .u64 0, .int .u64 0, .int .u64 0]) hk hs zr47 rfl rfl rfl fun b5 w a hk hs => ?_
  refine q_sto (o := 0) (cs := [.int .u64 ((dg 0 (zv (1 : Zp s)) : Nat) : Int), .int .u64 ((dg 1 (zv (1 : Zp s)) : Nat) : Int), .int .u64 ((dg 2 (zv (1 : Zp s)) : Nat) : Int), .int .u64 ((dg 3 (zv (1 : Zp s)) : Nat) : Int)]) (vs' := [.int .u64 ((dg 0 (zv (1 : Zp s)) : Nat) : Int), .int .u64 ((dg 1 (zv (1 : Zp s)) : Nat) : Int), .int .u64 ((dg 2 (zv (1 : Zp s)) : Nat) : Int), .int .u64 ((dg 3 (zv (1 : Zp s)) : Nat) : Int)]) hk hs rfl rfl rfl ty47 rfl rfl rfl rfl rfl rfl fun w hs => ?_
  refine (c_end (x_t ?_))
  refine wpIn_seq ?_
  refine wpIn_seq ?_
  refine wpIn_region_lit ?_
  refine q_val hk (w_as rfl) rfl rfl rfl fun a hk => ?_
  refine (c_end (x_t ?_))
  refine wpIn_block ?_
  have hs := hs.rw0 (congrArg (fun q => blk b5 q 47) (rp_start (x := x) he))
  refine c_loop (α := Nat) (fun j a w => ∃ (xi : Int), (j ≤ 256 ∧ xi = 255 - (j : Int)) ∧ Kn [] 27 [(8, .int .i64 xi), (7, .pointer (some ⟨b5, 0, none⟩)), (6, .pointer (some ⟨b4, 0, none⟩)), (5, .pointer (some ⟨b3, 0, none⟩)), (4, .pointer (some ⟨b2, 0, none⟩)), (3, .pointer (some ⟨b1, 0, none⟩))] a ∧ Sat no W [blk b5 [.int .u64 ((dg 0 (zv (pw x (e0 / 2 ^ (256 - j)))) : Nat) : Int), .int .u64 ((dg 1 (zv (pw x (e0 / 2 ^ (256 - j)))) : Nat) : Int), .int .u64 ((dg 2 (zv (pw x (e0 / 2 ^ (256 - j)))) : Nat) : Int), .int .u64 ((dg 3 (zv (pw x (e0 / 2 ^ (256 - j)))) : Nat) : Int)] 47, blk b4 [.int .u64 0, .int .u64 0, .int .u64 0, .int .u64 0] 47, blk b3 [.int .u64 ((dg 0 e0 : Nat) : Int), .int .u64 ((dg 1 e0 : Nat) : Int), .int .u64 ((dg 2 e0 : Nat) : Int), .int .u64 ((dg 3 e0 : Nat) : Int)] 47, blk b2 [.int .u64 ((dg 0 (zv x) : Nat) : Int), .int .u64 ((dg 1 (zv x) : Nat) : Int), .int .u64 ((dg 2 (zv x) : Nat) : Int), .int .u64 ((dg 3 (zv x) : Nat) : Int)] 47, blk b1 [.int .u64 ((dg 0 (pr s) : Nat) : Int), .int .u64 ((dg 1 (pr s) : Nat) : Int), .int .u64 ((dg 2 (pr s) : Nat) : Int), .int .u64 ((dg 3 (pr s) : Nat) : Int)] 47] [] w) (fun j => 256 - j) 0 ?_ ?_
  · exact ⟨_, ⟨by omega, by omega⟩, hk.k rfl (hk.k rfl (hk.k rfl (hk.k rfl (hk.k rfl (hk.k rfl hk.nil))))), hs⟩
  rintro j a w ⟨xi, hf0, hk, hs⟩
  refine wpIn_seq ?_
  refine wpIn_seq ?_
  refine wpIn_region_lit ?_
  refine q_val hk (w_mv rfl) rfl rfl rfl fun a hk => ?_
  rcases Classical.em (0 ≤ xi) with hc6 | hc6
  · skip
    have hjl : j < 256 := by omega
    have hxi : xi = ((255 - j : Nat) : Int) := by omega
    subst hxi
    refine q_val hk (w_ge rfl rfl (decide_eq_true hc6)) rfl rfl rfl fun a hk => ?_
    refine (c_end (x_t ?_))
    refine c_T hk rfl ?_
    refine (wpIn_skip (x_t ?_))
    refine wpIn_seq ?_
    refine wpIn_block ?_
    refine wpIn_seq ?_
    refine wpIn_region_lit ?_
    refine q_val hk (w_ldv (z := pr s) rfl ty47 (.blk (n := 4) (hs.mi 4 rfl) rfl)) rfl rfl rfl fun a hk => ?_
    refine q_val hk (w_ldv (z := zv (pw x (e0 / 2 ^ (256 - j)))) rfl ty47 (.blk (n := 4) (hs.mi 0 rfl) rfl)) rfl rfl rfl fun a hk => ?_
    refine q_val hk (w_ldv (z := zv (pw x (e0 / 2 ^ (256 - j)))) rfl ty47 (.blk (n := 4) (hs.mi 0 rfl) rfl)) rfl rfl rfl fun a hk => ?_
    refine q_call (caps := []) hk rfl rfl Tryz.func66 fo66 rfl rfl (rmul_z (x := (pw x (e0 / 2 ^ (256 - j)))) (y := (pw x (e0 / 2 ^ (256 - j)))) _ rfl rfl) ?_
    rintro _ w ⟨rfl, hb⟩
    have hs := hs.below hb
    refine ⟨_, rfl, fun a hk => ?_⟩
    refine q_sto (o := 0) (cs := [.int .u64 ((dg 0 (zv ((pw x (e0 / 2 ^ (256 - j))) * (pw x (e0 / 2 ^ (256 - j))))) : Nat) : Int), .int .u64 ((dg 1 (zv ((pw x (e0 / 2 ^ (256 - j))) * (pw x (e0 / 2 ^ (256 - j))))) : Nat) : Int), .int .u64 ((dg 2 (zv ((pw x (e0 / 2 ^ (256 - j))) * (pw x (e0 / 2 ^ (256 - j))))) : Nat) : Int), .int .u64 ((dg 3 (zv ((pw x (e0 / 2 ^ (256 - j))) * (pw x (e0 / 2 ^ (256 - j))))) : Nat) : Int)]) (vs' := [.int .u64 ((dg 0 (zv ((pw x (e0 / 2 ^ (256 - j))) * (pw x (e0 / 2 ^ (256 - j))))) : Nat) : Int), .int .u64 ((dg 1 (zv ((pw x (e0 / 2 ^ (256 - j))) * (pw x (e0 / 2 ^ (256 - j))))) : Nat) : Int), .int .u64 ((dg 2 (zv ((pw x (e0 / 2 ^ (256 - j))) * (pw x (e0 / 2 ^ (256 - j))))) : Nat) : Int), .int .u64 ((dg 3 (zv ((pw x (e0 / 2 ^ (256 - j))) * (pw x (e0 / 2 ^ (256 - j))))) : Nat) : Int)]) hk hs rfl rfl rfl ty47 rfl rfl rfl rfl rfl rfl fun w hs => ?_
    refine (c_end (x_t ?_))
    refine wpIn_seq ?_
    refine wpIn_region_lit ?_
    refine q_val hk (w_ldv (z := e0) rfl ty47 (.blk (n := 4) (hs.mi 2 rfl) rfl)) rfl rfl rfl fun a hk => ?_
    refine q_val hk (w_mv rfl) rfl rfl rfl fun a hk => ?_
    refine q_call (caps := []) hk rfl rfl Tryz.func111 fo111 rfl rfl (refBit_c e0 (255 - j) (by omega) _) ?_
    rintro _ w ⟨rfl, hb⟩
    have hs := hs.below hb
    refine ⟨_, rfl, fun a hk => ?_⟩
    rcases Classical.em (((bitn e0 (255 - j) : Nat) : Int) = 1) with hc7 | hc7
    · skip
      refine q_val hk (w_eq rfl rfl (decide_eq_true hc7)) rfl rfl rfl fun a hk => ?_
      refine (c_end (x_t ?_))
      refine c_T hk rfl ?_
      refine wpIn_region_lit ?_
      refine q_val hk (w_ldv (z := pr s) rfl ty47 (.blk (n := 4) (hs.mi 4 rfl) rfl)) rfl rfl rfl fun a hk => ?_
      refine q_val hk (w_ldv (z := zv ((pw x (e0 / 2 ^ (256 - j))) * (pw x (e0 / 2 ^ (256 - j))))) rfl ty47 (.blk (n := 4) (hs.mi 0 rfl) rfl)) rfl rfl rfl fun a hk => ?_
      refine q_val hk (w_ldv (z := zv x) rfl ty47 (.blk (n := 4) (hs.mi 3 rfl) rfl)) rfl rfl rfl fun a hk => ?_
      refine q_call (caps := []) hk rfl rfl Tryz.func66 fo66 rfl rfl (rmul_z (x := ((pw x (e0 / 2 ^ (256 - j))) * (pw x (e0 / 2 ^ (256 - j))))) (y := x) _ rfl rfl) ?_
      rintro _ w ⟨rfl, hb⟩
      have hs := hs.below hb
      refine ⟨_, rfl, fun a hk => ?_⟩
      refine q_sto (o := 0) (cs := [.int .u64 ((dg 0 (zv (((pw x (e0 / 2 ^ (256 - j))) * (pw x (e0 / 2 ^ (256 - j)))) * x)) : Nat) : Int), .int .u64 ((dg 1 (zv (((pw x (e0 / 2 ^ (256 - j))) * (pw x (e0 / 2 ^ (256 - j)))) * x)) : Nat) : Int), .int .u64 ((dg 2 (zv (((pw x (e0 / 2 ^ (256 - j))) * (pw x (e0 / 2 ^ (256 - j)))) * x)) : Nat) : Int), .int .u64 ((dg 3 (zv (((pw x (e0 / 2 ^ (256 - j))) * (pw x (e0 / 2 ^ (256 - j)))) * x)) : Nat) : Int)]) (vs' := [.int .u64 ((dg 0 (zv (((pw x (e0 / 2 ^ (256 - j))) * (pw x (e0 / 2 ^ (256 - j)))) * x)) : Nat) : Int), .int .u64 ((dg 1 (zv (((pw x (e0 / 2 ^ (256 - j))) * (pw x (e0 / 2 ^ (256 - j)))) * x)) : Nat) : Int), .int .u64 ((dg 2 (zv (((pw x (e0 / 2 ^ (256 - j))) * (pw x (e0 / 2 ^ (256 - j)))) * x)) : Nat) : Int), .int .u64 ((dg 3 (zv (((pw x (e0 / 2 ^ (256 - j))) * (pw x (e0 / 2 ^ (256 - j)))) * x)) : Nat) : Int)]) hk hs rfl rfl rfl ty47 rfl rfl rfl rfl rfl rfl fun w hs => ?_
      refine (c_end (x_b (x_t ?_)))
      refine wpIn_region_lit ?_
      refine q_val hk (w_mv rfl) rfl rfl rfl fun a hk => ?_
      refine q_val hk (w_sub rfl rfl (wr64 (by omega) (by omega))) rfl rfl rfl fun a hk => ?_
      refine q_val hk (w_as rfl) rfl rfl rfl fun a hk => ?_
      refine (c_end (x_t ?_))
      have hs := hs.rw0 (congrArg (fun q => blk b5 (vq (zv q)) 47) (rp_T (x := x) hjl (by omega)))
      exact ⟨j + 1, ⟨_, ⟨by omega, by omega⟩, hk.k rfl (hk.k rfl (hk.k rfl (hk.k rfl (hk.k rfl (hk.k rfl hk.nil))))), hs⟩, by omega⟩
    · skip
      refine q_val hk (w_eq rfl rfl (decide_eq_false hc7)) rfl rfl rfl fun a hk => ?_
      refine (c_end (x_t ?_))
      refine c_F hk rfl ?_
      refine (wpIn_skip (x_b (x_t ?_)))
      refine wpIn_region_lit ?_
      refine q_val hk (w_mv rfl) rfl rfl rfl fun a hk => ?_
      refine q_val hk (w_sub rfl rfl (wr64 (by omega) (by omega))) rfl rfl rfl fun a hk => ?_
      refine q_val hk (w_as rfl) rfl rfl rfl fun a hk => ?_
      refine (c_end (x_t ?_))
      have hs := hs.rw0 (congrArg (fun q => blk b5 (vq (zv q)) 47) (rp_F (x := x) hjl (by omega)))
      exact ⟨j + 1, ⟨_, ⟨by omega, by omega⟩, hk.k rfl (hk.k rfl (hk.k rfl (hk.k rfl (hk.k rfl (hk.k rfl hk.nil))))), hs⟩, by omega⟩
  · skip
    refine q_val hk (w_ge rfl rfl (decide_eq_false hc6)) rfl rfl rfl fun a hk => ?_
    refine (c_end (x_t ?_))
    refine c_F hk rfl ?_
    refine (wpIn_exit (x_te (x_te (x_be ?_))))
    refine (x_t ?_)
    refine wpIn_seq ?_
    refine wpIn_region_lit ?_
    refine q_val hk (w_ldv (z := zv (pw x (e0 / 2 ^ (256 - j)))) rfl ty47 (.blk (n := 4) (hs.mi 0 rfl) rfl)) rfl rfl rfl fun a hk => ?_
    have hs := hs.up1
    refine q_sto (o := 0) (cs := [.int .u64 ((dg 0 (zv (pw x (e0 / 2 ^ (256 - j)))) : Nat) : Int), .int .u64 ((dg 1 (zv (pw x (e0 / 2 ^ (256 - j)))) : Nat) : Int), .int .u64 ((dg 2 (zv (pw x (e0 / 2 ^ (256 - j)))) : Nat) : Int), .int .u64 ((dg 3 (zv (pw x (e0 / 2 ^ (256 - j)))) : Nat) : Int)]) (vs' := [.int .u64 ((dg 0 (zv (pw x (e0 / 2 ^ (256 - j)))) : Nat) : Int), .int .u64 ((dg 1 (zv (pw x (e0 / 2 ^ (256 - j)))) : Nat) : Int), .int .u64 ((dg 2 (zv (pw x (e0 / 2 ^ (256 - j)))) : Nat) : Int), .int .u64 ((dg 3 (zv (pw x (e0 / 2 ^ (256 - j)))) : Nat) : Int)]) hk hs rfl rfl rfl ty47 rfl rfl rfl rfl rfl rfl fun w hs => ?_
    refine (c_end (x_t ?_))
    refine (wpIn_ret ?_)
    refine c_retG (vs := [vec (zv (pw x (e0 / 2 ^ (256 - j))))]) hk rfl ⟨⟨_, rfl, lv_A ty47 (.blk (n := 4) (hs.mi 0 rfl) rfl) rfl⟩, trivial⟩ rfl ?_
    have hj : j = 256 := by omega
    exact ⟨by rw [hj, Nat.sub_self, Nat.pow_zero, Nat.div_one]; rfl, hs.toBelow⟩
theorem rinv_z (s : Bool) (x : Zp s) (W : World)  : Calls Tryz.prog 157 [vec (pr s), vec (zv x)].toArray W fun e w => e = .returned (vec (zv (zinv x))) ∧ Below W.heap.size W w := by
  refine c_enter (args := [vec (pr s), vec (zv x)]) Tryz.func157 rfl rfl rfl fun a hk => ?_
  have hs := Sat.start W [] (fun _ h => by cases h)
  refine wpIn_seq ?_
  refine wpIn_region_lit ?_
  refine q_box (vs := [.int .u64 ((dg 0 (pr s) : Nat) : Int), .int .u64 ((dg 1 (pr s) : Nat) : Int), .int .u64 ((dg 2 (pr s) : Nat) : Int), .int .u64 ((dg 3 (pr s) : Nat) : Int)]) hk hs rfl rfl rfl rfl fun b1 w a hk hs => ?_
  refine q_box (vs := [.int .u64 ((dg 0 (zv x) : Nat) : Int), .int .u64 ((dg 1 (zv x) : Nat) : Int), .int .u64 ((dg 2 (zv x) : Nat) : Int), .int .u64 ((dg 3 (zv x) : Nat) : Int)]) hk hs rfl rfl rfl rfl fun b2 w a hk hs => ?_
  refine q_alc (vs := [.int .u64 0, .int .u64 0, .int .u64 0, .int .u64 0]) hk hs zr47 rfl rfl rfl fun b3 w a hk hs => ?_
  refine (c_end (x_t ?_))
  refine wpIn_seq ?_
  refine wpIn_region_lit ?_
  refine q_val hk (w_ldv (z := pr s) rfl ty47 (.blk (n := 4) (hs.mi 2 rfl) rfl)) rfl rfl rfl fun a hk => ?_
  refine q_val hk (w_bldv1 (k := 2) rfl rfl (by decide) Tryz.underlying47 ty46 zr47) rfl rfl rfl fun a hk => ?_
  refine q_call (caps := []) hk rfl rfl Tryz.func112 fo112 rfl rfl (rsub2_c s _) ?_
  rintro _ w ⟨rfl, hb⟩
  have hs := hs.below hb
  refine ⟨_, rfl, fun a hk => ?_⟩
  refine q_val hk (w_mv rfl) rfl rfl rfl fun a hk => ?_
  refine q_val hk (w_ext rfl rfl) rfl rfl rfl fun a hk => ?_
  refine q_val hk (w_ext rfl rfl) rfl rfl rfl fun a hk => ?_
  refine q_alc (vs := [.int .u64 0, .int .u64 0, .int .u64 0, .int .u64 0]) hk hs zr47 rfl rfl rfl fun b4 w a hk hs => ?_
  refine q_sto (o := 0) (cs := [.int .u64 ((dg 0 (pr s - 2) : Nat) : Int), .int .u64 ((dg 1 (pr s - 2) : Nat) : Int), .int .u64 ((dg 2 (pr s - 2) : Nat) : Int), .int .u64 ((dg 3 (pr s - 2) : Nat) : Int)]) (vs' := [.int .u64 ((dg 0 (pr s - 2) : Nat) : Int), .int .u64 ((dg 1 (pr s - 2) : Nat) : Int), .int .u64 ((dg 2 (pr s - 2) : Nat) : Int), .int .u64 ((dg 3 (pr s - 2) : Nat) : Int)]) hk hs rfl rfl rfl ty47 rfl rfl rfl rfl rfl rfl fun w hs => ?_
  refine q_val hk (w_as rfl) rfl rfl rfl fun a hk => ?_
  refine (c_end (x_t ?_))
  refine wpIn_seq ?_
  refine wpIn_region_lit ?_
  refine q_val hk (w_ldv (z := pr s) rfl ty47 (.blk (n := 4) (hs.mi 3 rfl) rfl)) rfl rfl rfl fun a hk => ?_
  refine q_val hk (w_ldv (z := zv x) rfl ty47 (.blk (n := 4) (hs.mi 2 rfl) rfl)) rfl rfl rfl fun a hk => ?_
  refine q_val hk (w_ldv (z := (pr s - 2)) rfl ty47 (.blk (n := 4) (hs.mi 0 rfl) rfl)) rfl rfl rfl fun a hk => ?_
  refine q_call (caps := []) hk rfl rfl Tryz.func173 fo173 rfl rfl (rpow_z s x (pr s - 2) _ (Nat.lt_of_le_of_lt (Nat.sub_le _ _) (pr_lt s))) ?_
  rintro _ w ⟨rfl, hb⟩
  have hs := hs.below hb
  refine ⟨_, rfl, fun a hk => ?_⟩
  have hs := hs.up1
  refine q_sto (o := 0) (cs := [.int .u64 ((dg 0 (zv (zinv x)) : Nat) : Int), .int .u64 ((dg 1 (zv (zinv x)) : Nat) : Int), .int .u64 ((dg 2 (zv (zinv x)) : Nat) : Int), .int .u64 ((dg 3 (zv (zinv x)) : Nat) : Int)]) (vs' := [.int .u64 ((dg 0 (zv (zinv x)) : Nat) : Int), .int .u64 ((dg 1 (zv (zinv x)) : Nat) : Int), .int .u64 ((dg 2 (zv (zinv x)) : Nat) : Int), .int .u64 ((dg 3 (zv (zinv x)) : Nat) : Int)]) hk hs rfl rfl rfl ty47 rfl rfl rfl rfl rfl rfl fun w hs => ?_
  refine (c_end (x_t ?_))
  refine (wpIn_ret ?_)
  refine c_retG (vs := [vec (zv (zinv x))]) hk rfl ⟨⟨_, rfl, lv_A ty47 (.blk (n := 4) (hs.mi 0 rfl) rfl) rfl⟩, trivial⟩ rfl ?_
  exact ⟨rfl, hs.toBelow⟩
end Go.Proofs.YtdnkkbmpefhbjaaGreatDoor
namespace Go.Proofs.YtdnkkbmpefhbjaaGreatDoor
set_option linter.all false
open Go Go.RowKit Alg
def rEv {s : Bool} (c : Nat → Zp s) (x : Zp s) : Nat → Zp s
  | 0 => 0
  | k + 1 => rEv c x k + c k * pw x k
theorem mallv_zero {s : Bool} {a b : Nat → Zp s} {nb n : Nat} : en vq (fun _ => 0) n = en vq (fun j => zv (mall a b nb 0 j)) n := en_congr fun i _ => by show 0 = zv (0 : Zp s); rw [zv_zero]
theorem mrowv_step {s : Bool} {a b : Nat → Zp s} {i k n : Nat} {f : Nat → Zp s} : en vq (fun j => if j = i + k then zv (mrow a b i f k (i + k) + a i * b k) else zv (mrow a b i f k j)) n = en vq (fun j => zv (mrow a b i f (k + 1) j)) n := en_congr fun j _ => by
  show _ = zv (if j = i + k then _ else _)
  by_cases h : j = i + k
  · rw [if_pos h, if_pos h, h]
  · rw [if_neg h, if_neg h]
def cpf {s : Bool} (x : Nat → Zp s) (k i : Nat) : Nat := if i < k then zv (x i) else 0
def adf {s : Bool} (x y : Nat → Zp s) (k i : Nat) : Nat := if i < k then zv (x i + y i) else zv (x i)
section
variable {s : Bool} {x y : Nat → Zp s} {k n : Nat}
theorem cpf_zero : en vq (fun _ => 0) n = en vq (cpf x 0) n := en_congr fun i _ => by unfold cpf; rw [if_neg (Nat.not_lt_zero i)]
theorem cpf_step : en vq (fun i => if i = k then zv (x k) else cpf x k i) n = en vq (cpf x (k + 1)) n := en_congr fun i _ => by
  unfold cpf
  by_cases h : i = k
  · subst h; rw [if_pos rfl, if_pos (Nat.lt_succ_self _)]
  · rw [if_neg h]
    by_cases l : i < k
    · rw [if_pos l, if_pos (by omega)]
    · rw [if_neg l, if_neg (by omega)]
theorem adf_zero : en vq (cpf x n) n = en vq (adf x y 0) n := en_congr fun i hi => by unfold cpf adf; rw [if_pos hi, if_neg (Nat.not_lt_zero i)]
theorem adf_at : adf x y k k = zv (x k) := if_neg (Nat.lt_irrefl k)
theorem adf_step : en vq (fun i => if i = k then zv (x k + y k) else adf x y k i) n = en vq (adf x y (k + 1)) n := en_congr fun i _ => by
  unfold adf
  by_cases h : i = k
  · subst h; rw [if_pos rfl, if_pos (Nat.lt_succ_self _)]
  · rw [if_neg h]
    by_cases l : i < k
    · rw [if_pos l, if_pos (by omega)]
    · rw [if_neg l, if_neg (by omega)]
theorem adf_end : en vq (adf x y n) n = en vq (fun i => zv (x i + y i)) n := en_congr fun i hi => by unfold adf; rw [if_pos hi]
end
theorem reval_z (s : Bool) (n cc : Nat) (ca : Option Addr) (c : Nat → Zp s) (x : Zp s) (W : World) (HC : LstAt W 4 (.slice ca n cc) n (en vq (fun i => zv (c i)) n)) (hn : n ≤ 1000) : Calls Tryz.prog 92 [vec (pr s), .slice ca n cc, vec (zv x)].toArray W fun e w => e = .returned (vec (zv (rEv c x n))) ∧ Below W.heap.size W w := by
  refine c_enter (args := [vec (pr s), .slice ca n cc, vec (zv x)]) Tryz.func92 rfl rfl rfl fun a hk => ?_
  have hs := Sat.start W [lst 4 (.slice ca n cc) n (en vq (fun i => zv (c i)) n)] (okr1 HC)
  refine wpIn_seq ?_
  refine wpIn_region_lit ?_
  refine q_box (vs := [.int .u64 ((dg 0 (pr s) : Nat) : Int), .int .u64 ((dg 1 (pr s) : Nat) : Int), .int .u64 ((dg 2 (pr s) : Nat) : Int), .int .u64 ((dg 3 (pr s) : Nat) : Int)]) hk hs rfl rfl rfl rfl fun b1 w a hk hs => ?_
  refine q_box (vs := [.int .u64 ((dg 0 (zv x) : Nat) : Int), .int .u64 ((dg 1 (zv x) : Nat) : Int), .int .u64 ((dg 2 (zv x) : Nat) : Int), .int .u64 ((dg 3 (zv x) : Nat) : Int)]) hk hs rfl rfl rfl rfl fun b2 w a hk hs => ?_
  refine q_alc (vs := [.int .u64 0, .int .u64 0, .int .u64 0, .int .u64 0]) hk hs zr47 rfl rfl rfl fun b3 w a hk hs => ?_
  refine (c_end (x_t ?_))
  refine wpIn_seq ?_
  refine wpIn_region_lit ?_
  refine q_alc (vs := [.int .u64 0, .int .u64 0, .int .u64 0, .int .u64 0]) hk hs zr47 rfl rfl rfl fun b4 w a hk hs => ?_
  refine (c_end (x_t ?_))
  refine wpIn_seq ?_
  refine wpIn_region_lit ?_
  refine q_call (caps := []) hk rfl rfl Tryz.func67 fo67 rfl rfl (rone_z (s := s) _) ?_
  rintro _ w ⟨rfl, hb⟩
  have hs := hs.below hb
  refine ⟨_, rfl, fun a hk => ?_⟩
  refine q_alc (vs := [.int .u64 0, .int .u64 0, .int .u64 0, .int .u64 0]) hk hs zr47 rfl rfl rfl fun b5 w a hk hs => ?_
  refine q_sto (o := 0) (cs := [.int .u64 ((dg 0 (zv (1 : Zp s)) : Nat) : Int), .int .u64 ((dg 1 (zv (1 : Zp s)) : Nat) : Int), .int .u64 ((dg 2 (zv (1 : Zp s)) : Nat) : Int), .int .u64 ((dg 3 (zv (1 : Zp s)) : Nat) : Int)]) (vs' := [.int .u64 ((dg 0 (zv (1 : Zp s)) : Nat) : Int), .int .u64 ((dg 1 (zv (1 : Zp s)) : Nat) : Int), .int .u64 ((dg 2 (zv (1 : Zp s)) : Nat) : Int), .int .u64 ((dg 3 (zv (1 : Zp s)) : Nat) : Int)]) hk hs rfl rfl rfl ty47 rfl rfl rfl rfl rfl rfl fun w hs => ?_
  refine (c_end (x_t ?_))
  refine wpIn_seq ?_
  refine wpIn_seq ?_
  refine wpIn_region_lit ?_
  refine q_val hk (w_as rfl) rfl rfl rfl fun a hk => ?_
  refine (c_end (x_t ?_))
  refine wpIn_block ?_
  have hs := hs.up1
  have hs := hs.rw0 (show blk b4 [.int .u64 0, .int .u64 0, .int .u64 0, .int .u64 0] 47 = blk b4 [.int .u64 ((dg 0 0 : Nat) : Int), .int .u64 ((dg 1 0 : Nat) : Int), .int .u64 ((dg 2 0 : Nat) : Int), .int .u64 ((dg 3 0 : Nat) : Int)] 47 from rfl)
  have hs := hs.rw0 (show _ = blk b4 (vq (zv (rEv c x 0))) 47 from by show blk b4 (vq 0) 47 = blk b4 (vq (zv 0)) 47; rw [zv_zero])
  have hs := hs.up1
  have hs : Sat _ _ (blk b5 (vq (zv (pw x 0))) 47 :: _) _ _ := hs
  refine c_loop (α := Nat) (fun k a w => k ≤ n ∧ Kn [] 32 [(9, .int .i64 ((k : Nat) : Int)), (8, .pointer (some ⟨b5, 0, none⟩)), (7, .pointer (some ⟨b4, 0, none⟩)), (6, .pointer (some ⟨b3, 0, none⟩)), (5, .pointer (some ⟨b2, 0, none⟩)), (3, .pointer (some ⟨b1, 0, none⟩)), (1, .slice ca n cc)] a ∧ Sat no W [blk b5 [.int .u64 ((dg 0 (zv (pw x k)) : Nat) : Int), .int .u64 ((dg 1 (zv (pw x k)) : Nat) : Int), .int .u64 ((dg 2 (zv (pw x k)) : Nat) : Int), .int .u64 ((dg 3 (zv (pw x k)) : Nat) : Int)] 47, blk b4 [.int .u64 ((dg 0 (zv (rEv c x k)) : Nat) : Int), .int .u64 ((dg 1 (zv (rEv c x k)) : Nat) : Int), .int .u64 ((dg 2 (zv (rEv c x k)) : Nat) : Int), .int .u64 ((dg 3 (zv (rEv c x k)) : Nat) : Int)] 47, blk b3 [.int .u64 0, .int .u64 0, .int .u64 0, .int .u64 0] 47, blk b2 [.int .u64 ((dg 0 (zv x) : Nat) : Int), .int .u64 ((dg 1 (zv x) : Nat) : Int), .int .u64 ((dg 2 (zv x) : Nat) : Int), .int .u64 ((dg 3 (zv x) : Nat) : Int)] 47, blk b1 [.int .u64 ((dg 0 (pr s) : Nat) : Int), .int .u64 ((dg 1 (pr s) : Nat) : Int), .int .u64 ((dg 2 (pr s) : Nat) : Int), .int .u64 ((dg 3 (pr s) : Nat) : Int)] 47] [lst 4 (.slice ca n cc) n (en vq (fun i => zv (c i)) n)] w) (fun k => n - k) 0 ?_ ?_
  · exact ⟨(by omega), hk.k rfl (hk.k rfl (hk.k rfl (hk.k rfl (hk.k rfl (hk.k rfl (hk.k rfl hk.nil)))))), hs⟩
  rintro k a w ⟨hf0, hk, hs⟩
  refine wpIn_seq ?_
  refine wpIn_seq ?_
  refine wpIn_region_lit ?_
  refine q_val hk (w_mv rfl) rfl rfl rfl fun a hk => ?_
  refine q_val hk (w_mv rfl) rfl rfl rfl fun a hk => ?_
  refine q_val hk (w_len rfl Tryz.underlying72) rfl rfl rfl fun a hk => ?_
  rcases Classical.em (((k : Nat) : Int) < ((n : Nat) : Int)) with hc6 | hc6
  · skip
    refine q_val hk (w_lt rfl rfl (decide_eq_true hc6)) rfl rfl rfl fun a hk => ?_
    refine (c_end (x_t ?_))
    refine c_T hk rfl ?_
    refine (wpIn_skip (x_t ?_))
    refine wpIn_seq ?_
    refine wpIn_block ?_
    refine wpIn_seq ?_
    have hL := okL.cons (hs.mi 4 rfl) (okL.cons (hs.ri 0 rfl) (okL.cons (hs.mi 0 rfl) okL.nil))
    refine d_begin _ 11 (by kernel_rfl) rfl hs hL fun w hs hL => ?_
    refine d_join (n2 := 2) 511 (fun a w => Kn [] 32 [(25, vec (zv ((c k) * (pw x k)))), (18, vec (zv (rEv c x k))), (24, vec (zv (pw x k))), (23, vec (zv (c k))), (22, .pointer (some ((adq ca).add (k * 4)))), (21, .int .i64 ((k : Nat) : Int)), (20, .slice ca n cc), (19, vec (pr s)), (17, vec (pr s)), (14, .bool true), (13, .int .i64 ((n : Nat) : Int)), (12, .slice ca n cc), (11, .int .i64 ((k : Nat) : Int)), (9, .int .i64 ((k : Nat) : Int)), (8, .pointer (some ⟨b5, 0, none⟩)), (7, .pointer (some ⟨b4, 0, none⟩)), (6, .pointer (some ⟨b3, 0, none⟩)), (5, .pointer (some ⟨b2, 0, none⟩)), (3, .pointer (some ⟨b1, 0, none⟩)), (1, .slice ca n cc)] a ∧ Sat no W [blk b5 [.int .u64 ((dg 0 (zv (pw x k)) : Nat) : Int), .int .u64 ((dg 1 (zv (pw x k)) : Nat) : Int), .int .u64 ((dg 2 (zv (pw x k)) : Nat) : Int), .int .u64 ((dg 3 (zv (pw x k)) : Nat) : Int)] 47, blk b4 [.int .u64 ((dg 0 (zv (rEv c x k)) : Nat) : Int), .int .u64 ((dg 1 (zv (rEv c x k)) : Nat) : Int), .int .u64 ((dg 2 (zv (rEv c x k)) : Nat) : Int), .int .u64 ((dg 3 (zv (rEv c x k)) : Nat) : Int)] 47, blk b3 [.int .u64 0, .int .u64 0, .int .u64 0, .int .u64 0] 47, blk b2 [.int .u64 ((dg 0 (zv x) : Nat) : Int), .int .u64 ((dg 1 (zv x) : Nat) : Int), .int .u64 ((dg 2 (zv x) : Nat) : Int), .int .u64 ((dg 3 (zv x) : Nat) : Int)] 47, blk b1 [.int .u64 ((dg 0 (pr s) : Nat) : Int), .int .u64 ((dg 1 (pr s) : Nat) : Int), .int .u64 ((dg 2 (pr s) : Nat) : Int), .int .u64 ((dg 3 (pr s) : Nat) : Int)] 47] [lst 4 (.slice ca n cc) n (en vq (fun i => zv (c i)) n)] w ∧ okL [blk b1 [.int .u64 ((dg 0 (pr s) : Nat) : Int), .int .u64 ((dg 1 (pr s) : Nat) : Int), .int .u64 ((dg 2 (pr s) : Nat) : Int), .int .u64 ((dg 3 (pr s) : Nat) : Int)] 47, lst 4 (.slice ca n cc) n (en vq (fun i => zv (c i)) n), blk b5 [.int .u64 ((dg 0 (zv (pw x k)) : Nat) : Int), .int .u64 ((dg 1 (zv (pw x k)) : Nat) : Int), .int .u64 ((dg 2 (zv (pw x k)) : Nat) : Int), .int .u64 ((dg 3 (zv (pw x k)) : Nat) : Int)] 47] w) ?_ ?_
    · intro hJ511
      refine d_v 0 1 hk hL rfl (by kernel_rfl) rfl rfl (fun w hL => w_ldv (z := pr s) rfl ty47 (.blk (n := 4) (hL.at 0 rfl) rfl)) fun a hk => ?_
      refine d_v 2 5 hk hL rfl (by kernel_rfl) rfl rfl (fun w hL => w_ldv (z := pr s) rfl ty47 (.blk (n := 4) (hL.at 0 rfl) rfl)) fun a hk => ?_
      refine d_v 3 13 hk hL rfl (by kernel_rfl) rfl rfl (fun w hL => w_mv rfl) fun a hk => ?_
      refine d_v 4 29 hk hL rfl (by kernel_rfl) rfl rfl (fun w hL => w_mv rfl) fun a hk => ?_
      refine d_v 5 61 hk hL rfl (by kernel_rfl) rfl rfl (fun w hL => w_iaL (k := k) rfl rfl Tryz.underlying72 ty47 (hL.at 1 rfl) (by omega) (by omega)) fun a hk => ?_
      refine d_v 6 125 hk hL rfl (by kernel_rfl) rfl rfl (fun w hL => w_ldv (z := zv (c k)) rfl ty47 (lstq (k := k) (hL.at 1 rfl) (by omega) (en_chunk vq_len (by omega)))) fun a hk => ?_
      refine d_v 7 253 hk hL rfl (by kernel_rfl) rfl rfl (fun w hL => w_ldv (z := zv (pw x k)) rfl ty47 (.blk (n := 4) (hL.at 2 rfl) rfl)) fun a hk => ?_
      refine d_2 1 8 255 509 rfl rfl (by kernel_rfl) (fun K hK => ?_) (fun K hK => ?_)
      · skip
        refine q_val hk (w_ldv (z := zv (rEv c x k)) rfl ty47 (.blk (n := 4) (hs.mi 1 rfl) rfl)) rfl rfl rfl fun a hk => ?_
        have hL := okL.cons (hs.mi 4 rfl) (okL.cons (hs.ri 0 rfl) (okL.cons (hs.mi 0 rfl) okL.nil))
        refine c_end (x_t (hK _ _ hL ?_))
        clear hK K
        refine d_1 8 511 rfl (by kernel_rfl) fun K hK => ?_
        refine q_call (caps := []) hk rfl rfl Tryz.func66 fo66 rfl rfl (rmul_z (x := (c k)) (y := (pw x k)) _ rfl rfl) ?_
        rintro _ w ⟨rfl, hb⟩
        have hs := hs.below hb
        refine ⟨_, rfl, fun a hk => ?_⟩
        have hL := okL.cons (hs.mi 4 rfl) (okL.cons (hs.ri 0 rfl) (okL.cons (hs.mi 0 rfl) okL.nil))
        refine c_end (x_t (hK _ _ hL ?_))
        clear hK K
        have hL := okL.cons (hs.mi 4 rfl) (okL.cons (hs.ri 0 rfl) (okL.cons (hs.mi 0 rfl) okL.nil))
        exact hJ511 _ _ ⟨hk.k rfl (hk.k rfl (hk.k rfl (hk.k rfl (hk.k rfl (hk.k rfl (hk.k rfl (hk.k rfl (hk.k rfl (hk.k rfl (hk.k rfl (hk.k rfl (hk.k rfl (hk.k rfl (hk.k rfl (hk.k rfl (hk.k rfl (hk.k rfl (hk.k rfl (hk.k rfl hk.nil))))))))))))))))))), hs, hL⟩
      · skip
        refine q_call (caps := []) hk rfl rfl Tryz.func66 fo66 rfl rfl (rmul_z (x := (c k)) (y := (pw x k)) _ rfl rfl) ?_
        rintro _ w ⟨rfl, hb⟩
        have hs := hs.below hb
        refine ⟨_, rfl, fun a hk => ?_⟩
        have hL := okL.cons (hs.mi 4 rfl) (okL.cons (hs.ri 0 rfl) (okL.cons (hs.mi 0 rfl) okL.nil))
        refine c_end (x_t (hK _ _ hL ?_))
        clear hK K
        refine d_1 1 511 rfl (by kernel_rfl) fun K hK => ?_
        refine q_val hk (w_ldv (z := zv (rEv c x k)) rfl ty47 (.blk (n := 4) (hs.mi 1 rfl) rfl)) rfl rfl rfl fun a hk => ?_
        have hL := okL.cons (hs.mi 4 rfl) (okL.cons (hs.ri 0 rfl) (okL.cons (hs.mi 0 rfl) okL.nil))
        refine c_end (x_t (hK _ _ hL ?_))
        clear hK K
        have hL := okL.cons (hs.mi 4 rfl) (okL.cons (hs.ri 0 rfl) (okL.cons (hs.mi 0 rfl) okL.nil))
        exact hJ511 _ _ ⟨hk.k rfl (hk.k rfl (hk.k rfl (hk.k rfl (hk.k rfl (hk.k rfl (hk.k rfl (hk.k rfl (hk.k rfl (hk.k rfl (hk.k rfl (hk.k rfl (hk.k rfl (hk.k rfl (hk.k rfl (hk.k rfl (hk.k rfl (hk.k rfl (hk.k rfl (hk.k rfl hk.nil))))))))))))))))))), hs, hL⟩
    · rintro a w ⟨hk, hs, hL⟩
      refine d_1 9 1023 rfl (by kernel_rfl) fun K hK => ?_
      refine q_call (caps := []) hk rfl rfl Tryz.func30 fo30 rfl rfl (radd_z (x := (rEv c x k)) (y := ((c k) * (pw x k))) _ rfl rfl) ?_
      rintro _ w ⟨rfl, hb⟩
      have hs := hs.below hb
      refine ⟨_, rfl, fun a hk => ?_⟩
      have hL := okL.cons (hs.mi 4 rfl) (okL.cons (hs.ri 0 rfl) (okL.cons (hs.mi 0 rfl) okL.nil))
      refine c_end (x_t (hK _ _ hL ?_))
      clear hK K
      refine d_1 10 2047 rfl (by kernel_rfl) fun K hK => ?_
      have hs := hs.up1
      refine q_sto (o := 0) (cs := [.int .u64 ((dg 0 (zv ((rEv c x k) + ((c k) * (pw x k)))) : Nat) : Int), .int .u64 ((dg 1 (zv ((rEv c x k) + ((c k) * (pw x k)))) : Nat) : Int), .int .u64 ((dg 2 (zv ((rEv c x k) + ((c k) * (pw x k)))) : Nat) : Int), .int .u64 ((dg 3 (zv ((rEv c x k) + ((c k) * (pw x k)))) : Nat) : Int)]) (vs' := [.int .u64 ((dg 0 (zv ((rEv c x k) + ((c k) * (pw x k)))) : Nat) : Int), .int .u64 ((dg 1 (zv ((rEv c x k) + ((c k) * (pw x k)))) : Nat) : Int), .int .u64 ((dg 2 (zv ((rEv c x k) + ((c k) * (pw x k)))) : Nat) : Int), .int .u64 ((dg 3 (zv ((rEv c x k) + ((c k) * (pw x k)))) : Nat) : Int)]) hk hs rfl rfl rfl ty47 rfl rfl rfl rfl rfl rfl fun w hs => ?_
      have hL := okL.cons (hs.mi 4 rfl) (okL.cons (hs.ri 0 rfl) (okL.cons (hs.mi 1 rfl) okL.nil))
      refine c_end (x_t (hK _ _ hL ?_))
      clear hK K
      refine d_end (by kernel_rfl) ?_
      refine (x_t ?_)
      refine wpIn_region_lit ?_
      refine q_val hk (w_ldv (z := pr s) rfl ty47 (.blk (n := 4) (hs.mi 4 rfl) rfl)) rfl rfl rfl fun a hk => ?_
      refine q_val hk (w_ldv (z := zv (pw x k)) rfl ty47 (.blk (n := 4) (hs.mi 1 rfl) rfl)) rfl rfl rfl fun a hk => ?_
      refine q_val hk (w_ldv (z := zv x) rfl ty47 (.blk (n := 4) (hs.mi 3 rfl) rfl)) rfl rfl rfl fun a hk => ?_
      refine q_call (caps := []) hk rfl rfl Tryz.func66 fo66 rfl rfl (rmul_z (x := (pw x k)) (y := x) _ rfl rfl) ?_
      rintro _ w ⟨rfl, hb⟩
      have hs := hs.below hb
      refine ⟨_, rfl, fun a hk => ?_⟩
      have hs := hs.up1
      refine q_sto (o := 0) (cs := [.int .u64 ((dg 0 (zv ((pw x k) * x)) : Nat) : Int), .int .u64 ((dg 1 (zv ((pw x k) * x)) : Nat) : Int), .int .u64 ((dg 2 (zv ((pw x k) * x)) : Nat) : Int), .int .u64 ((dg 3 (zv ((pw x k) * x)) : Nat) : Int)]) (vs' := [.int .u64 ((dg 0 (zv ((pw x k) * x)) : Nat) : Int), .int .u64 ((dg 1 (zv ((pw x k) * x)) : Nat) : Int), .int .u64 ((dg 2 (zv ((pw x k) * x)) : Nat) : Int), .int .u64 ((dg 3 (zv ((pw x k) * x)) : Nat) : Int)]) hk hs rfl rfl rfl ty47 rfl rfl rfl rfl rfl rfl fun w hs => ?_
      refine (c_end (x_b (x_t ?_)))
      refine wpIn_region_lit ?_
      refine q_val hk (w_mv rfl) rfl rfl rfl fun a hk => ?_
      refine q_val hk (w_add rfl rfl (wr64 (by omega) (by omega))) rfl rfl rfl fun a hk => ?_
      refine q_val hk (w_as rfl) rfl rfl rfl fun a hk => ?_
      refine (c_end (x_t ?_))
      exact ⟨k + 1, ⟨(by omega), hk.k rfl (hk.k rfl (hk.k rfl (hk.k rfl (hk.k rfl (hk.k rfl (hk.k rfl hk.nil)))))), hs⟩, by omega⟩
  · skip
    refine q_val hk (w_lt rfl rfl (decide_eq_false hc6)) rfl rfl rfl fun a hk => ?_
    refine (c_end (x_t ?_))
    refine c_F hk rfl ?_
    refine (wpIn_exit (x_te (x_te (x_be ?_))))
    refine (x_t ?_)
    refine wpIn_seq ?_
    refine wpIn_region_lit ?_
    refine q_val hk (w_ldv (z := zv (rEv c x k)) rfl ty47 (.blk (n := 4) (hs.mi 1 rfl) rfl)) rfl rfl rfl fun a hk => ?_
    have hs := hs.up2
    refine q_sto (o := 0) (cs := [.int .u64 ((dg 0 (zv (rEv c x k)) : Nat) : Int), .int .u64 ((dg 1 (zv (rEv c x k)) : Nat) : Int), .int .u64 ((dg 2 (zv (rEv c x k)) : Nat) : Int), .int .u64 ((dg 3 (zv (rEv c x k)) : Nat) : Int)]) (vs' := [.int .u64 ((dg 0 (zv (rEv c x k)) : Nat) : Int), .int .u64 ((dg 1 (zv (rEv c x k)) : Nat) : Int), .int .u64 ((dg 2 (zv (rEv c x k)) : Nat) : Int), .int .u64 ((dg 3 (zv (rEv c x k)) : Nat) : Int)]) hk hs rfl rfl rfl ty47 rfl rfl rfl rfl rfl rfl fun w hs => ?_
    refine (c_end (x_t ?_))
    refine (wpIn_ret ?_)
    refine c_retG (vs := [vec (zv (rEv c x k))]) hk rfl ⟨⟨_, rfl, lv_A ty47 (.blk (n := 4) (hs.mi 0 rfl) rfl) rfl⟩, trivial⟩ rfl ?_
    have hkn : k = n := by omega
    exact ⟨by rw [← hkn]; rfl, hs.toBelow⟩
theorem rmulP_z (s : Bool) (na ca nb cb : Nat) (aa ab : Option Addr) (pa pb : Nat → Zp s) (W : World) (HA : LstAt W 4 (.slice aa na ca) na (en vq (fun i => zv (pa i)) na)) (HB : LstAt W 4 (.slice ab nb cb) nb (en vq (fun i => zv (pb i)) nb)) (h0 : 0 < na) (h1 : 0 < nb) (hn9 : na ≤ 1000000) (hn8 : nb ≤ 1000000) : Calls Tryz.prog 130 [vec (pr s), .slice aa na ca, .slice ab nb cb].toArray W fun e w => ∃ o, e = .returned (.slice (some ⟨o, 0, none⟩) (na + nb - 1) (na + nb - 1)) ∧ Sat no W [blk o (en vq (fun j => zv (mall pa pb nb na j)) (na + nb - 1)) 47] [] w := by
  refine c_enter (args := [vec (pr s), .slice aa na ca, .slice ab nb cb]) Tryz.func130 rfl rfl rfl fun a hk => ?_
  have hs := Sat.start W [lst 4 (.slice aa na ca) na (en vq (fun i => zv (pa i)) na), lst 4 (.slice ab nb cb) nb (en vq (fun i => zv (pb i)) nb)] (okrc HA (okr1 HB))
  refine wpIn_seq ?_
  refine wpIn_region_lit ?_
  refine q_box (vs := [.int .u64 ((dg 0 (pr s) : Nat) : Int), .int .u64 ((dg 1 (pr s) : Nat) : Int), .int .u64 ((dg 2 (pr s) : Nat) : Int), .int .u64 ((dg 3 (pr s) : Nat) : Int)]) hk hs rfl rfl rfl rfl fun b1 w a hk hs => ?_
  refine q_val hk (w_as rfl) rfl rfl rfl fun a hk => ?_
  refine (c_end (x_t ?_))
  refine wpIn_seq ?_
  refine wpIn_seq ?_
  refine wpIn_region_lit ?_
  refine q_val hk (w_mv rfl) rfl rfl rfl fun a hk => ?_
  refine q_val hk (w_len rfl Tryz.underlying72) rfl rfl rfl fun a hk => ?_
  refine q_val hk (w_eq rfl rfl (decide_eq_false (by omega))) rfl rfl rfl fun a hk => ?_
  refine q_val hk (w_mv rfl) rfl rfl rfl fun a hk => ?_
  refine q_val hk (w_mv rfl) rfl rfl rfl fun a hk => ?_
  refine q_val hk (w_len rfl Tryz.underlying72) rfl rfl rfl fun a hk => ?_
  refine q_val hk (w_eq rfl rfl (decide_eq_false (by omega))) rfl rfl rfl fun a hk => ?_
  refine q_val hk (w_pickF rfl rfl) rfl rfl rfl fun a hk => ?_
  refine (c_end (x_t ?_))
  refine c_F hk rfl ?_
  refine (wpIn_skip (x_t ?_))
  refine wpIn_seq ?_
  refine wpIn_region_lit ?_
  refine q_val hk (w_mv rfl) rfl rfl rfl fun a hk => ?_
  refine q_val hk (w_len rfl Tryz.underlying72) rfl rfl rfl fun a hk => ?_
  refine q_val hk (w_mv rfl) rfl rfl rfl fun a hk => ?_
  refine q_val hk (w_len rfl Tryz.underlying72) rfl rfl rfl fun a hk => ?_
  refine q_val hk (w_add rfl rfl (wr64 (by omega) (by omega))) rfl rfl rfl fun a hk => ?_
  refine q_val hk (w_sub (r := ((na + nb - 1 : Nat) : Int)) rfl rfl (by rw [wr64 (by omega) (by omega)]; omega)) rfl rfl rfl fun a hk => ?_
  refine q_mks (k := na + nb - 1) (cs := vq 0) hk hs rfl rfl Tryz.underlying72 ty47 zr47 (by kernel_rfl) rfl rfl rfl rfl (by omega) (by omega) rfl rfl fun b2 w a hk hs => ?_
  have hs := hs.rw0 (show _ = blk b2 (en vq (fun _ => 0) (na + nb - 1)) 47 from rfl)
  refine q_val hk (w_as rfl) rfl rfl rfl fun a hk => ?_
  refine (c_end (x_t ?_))
  refine wpIn_seq ?_
  refine wpIn_seq ?_
  refine wpIn_region_lit ?_
  refine q_val hk (w_as rfl) rfl rfl rfl fun a hk => ?_
  refine (c_end (x_t ?_))
  refine wpIn_block ?_
  have hs := hs.rw0 (congrArg (fun q => blk b2 q 47) (mallv_zero (a := pa) (b := pb) (nb := nb)))
  refine c_loop (α := Nat) (fun u a w => u ≤ na ∧ Kn [] 61 [(8, .int .i64 ((u : Nat) : Int)), (7, .slice (some ⟨b2, 0, none⟩) (na + nb - 1) (na + nb - 1)), (6, .slice none 0 0), (3, .pointer (some ⟨b1, 0, none⟩)), (1, .slice aa na ca), (2, .slice ab nb cb)] a ∧ Sat no W [blk b2 (en vq (fun i => zv (mall pa pb nb u i)) (na + nb - 1)) 47, blk b1 [.int .u64 ((dg 0 (pr s) : Nat) : Int), .int .u64 ((dg 1 (pr s) : Nat) : Int), .int .u64 ((dg 2 (pr s) : Nat) : Int), .int .u64 ((dg 3 (pr s) : Nat) : Int)] 47] [lst 4 (.slice aa na ca) na (en vq (fun i => zv (pa i)) na), lst 4 (.slice ab nb cb) nb (en vq (fun i => zv (pb i)) nb)] w) (fun u => na - u) 0 ?_ ?_
  · exact ⟨(by omega), hk.k rfl (hk.k rfl (hk.k rfl (hk.k rfl (hk.k rfl (hk.k rfl hk.nil))))), hs⟩
  rintro u a w ⟨hf0, hk, hs⟩
  refine wpIn_seq ?_
  refine wpIn_seq ?_
  refine wpIn_region_lit ?_
  refine q_val hk (w_mv rfl) rfl rfl rfl fun a hk => ?_
  refine q_val hk (w_mv rfl) rfl rfl rfl fun a hk => ?_
  refine q_val hk (w_len rfl Tryz.underlying72) rfl rfl rfl fun a hk => ?_
  rcases Classical.em (((u : Nat) : Int) < ((na : Nat) : Int)) with hc3 | hc3
  · skip
    refine q_val hk (w_lt rfl rfl (decide_eq_true hc3)) rfl rfl rfl fun a hk => ?_
    refine (c_end (x_t ?_))
    refine c_T hk rfl ?_
    refine (wpIn_skip (x_t ?_))
    refine wpIn_seq ?_
    refine wpIn_block ?_
    refine wpIn_seq ?_
    refine wpIn_region_lit ?_
    refine q_val hk (w_as rfl) rfl rfl rfl fun a hk => ?_
    refine (c_end (x_t ?_))
    refine wpIn_block ?_
    refine c_loop (α := Nat) (fun k a w => k ≤ nb ∧ Kn [] 61 [(9, .int .i64 ((k : Nat) : Int)), (28, .bool true), (27, .int .i64 ((na : Nat) : Int)), (26, .slice aa na ca), (25, .int .i64 ((u : Nat) : Int)), (8, .int .i64 ((u : Nat) : Int)), (7, .slice (some ⟨b2, 0, none⟩) (na + nb - 1) (na + nb - 1)), (6, .slice none 0 0), (3, .pointer (some ⟨b1, 0, none⟩)), (1, .slice aa na ca), (2, .slice ab nb cb)] a ∧ Sat no W [blk b2 (en vq (fun i => zv (mrow pa pb u (mall pa pb nb u) k i)) (na + nb - 1)) 47, blk b1 [.int .u64 ((dg 0 (pr s) : Nat) : Int), .int .u64 ((dg 1 (pr s) : Nat) : Int), .int .u64 ((dg 2 (pr s) : Nat) : Int), .int .u64 ((dg 3 (pr s) : Nat) : Int)] 47] [lst 4 (.slice aa na ca) na (en vq (fun i => zv (pa i)) na), lst 4 (.slice ab nb cb) nb (en vq (fun i => zv (pb i)) nb)] w) (fun k => nb - k) 0 ?_ ?_
    · exact ⟨(by omega), hk.k rfl (hk.k rfl (hk.k rfl (hk.k rfl (hk.k rfl (hk.k rfl (hk.k rfl (hk.k rfl (hk.k rfl (hk.k rfl (hk.k rfl hk.nil)))))))))), hs⟩
    rintro k a w ⟨hf0, hk, hs⟩
    refine wpIn_seq ?_
    refine wpIn_seq ?_
    refine wpIn_region_lit ?_
    refine q_val hk (w_mv rfl) rfl rfl rfl fun a hk => ?_
    refine q_val hk (w_mv rfl) rfl rfl rfl fun a hk => ?_
    refine q_val hk (w_len rfl Tryz.underlying72) rfl rfl rfl fun a hk => ?_
    rcases Classical.em (((k : Nat) : Int) < ((nb : Nat) : Int)) with hc4 | hc4
    · skip
      refine q_val hk (w_lt rfl rfl (decide_eq_true hc4)) rfl rfl rfl fun a hk => ?_
      refine (c_end (x_t ?_))
      refine c_T hk rfl ?_
      refine (wpIn_skip (x_t ?_))
      refine wpIn_seq ?_
      refine wpIn_block ?_
      have hL := okL.cons (hs.mi 1 rfl) (okL.cons (hs.ri 0 rfl) (okL.cons (hs.ri 1 rfl) okL.nil))
      refine d_begin _ 24 (by kernel_rfl) rfl hs hL fun w hs hL => ?_
      refine d_join (n2 := 3) 2097151 (fun a w => Kn [] 61 [(57, vec (zv ((pa u) * (pb k)))), (47, vec (zv (mrow pa pb u (mall pa pb nb u) k (u + k)))), (46, .pointer (some ((adq (some ⟨b2, 0, none⟩)).add ((u + k) * 4)))), (56, vec (zv (pb k))), (55, .pointer (some ((adq ab).add (k * 4)))), (54, .int .i64 ((k : Nat) : Int)), (53, .slice ab nb cb), (52, vec (zv (pa u))), (51, .pointer (some ((adq aa).add (u * 4)))), (50, .int .i64 ((u : Nat) : Int)), (49, .slice aa na ca), (48, vec (pr s)), (45, .int .i64 ((u + k : Nat) : Int)), (44, .int .i64 ((k : Nat) : Int)), (43, .int .i64 ((u : Nat) : Int)), (42, .slice (some ⟨b2, 0, none⟩) (na + nb - 1) (na + nb - 1)), (41, vec (pr s)), (40, .int .i64 ((u + k : Nat) : Int)), (39, .int .i64 ((k : Nat) : Int)), (38, .int .i64 ((u : Nat) : Int)), (37, .slice (some ⟨b2, 0, none⟩) (na + nb - 1) (na + nb - 1)), (34, .bool true), (33, .int .i64 ((nb : Nat) : Int)), (32, .slice ab nb cb), (31, .int .i64 ((k : Nat) : Int)), (9, .int .i64 ((k : Nat) : Int)), (28, .bool true), (27, .int .i64 ((na : Nat) : Int)), (26, .slice aa na ca), (25, .int .i64 ((u : Nat) : Int)), (8, .int .i64 ((u : Nat) : Int)), (7, .slice (some ⟨b2, 0, none⟩) (na + nb - 1) (na + nb - 1)), (6, .slice none 0 0), (3, .pointer (some ⟨b1, 0, none⟩)), (1, .slice aa na ca), (2, .slice ab nb cb)] a ∧ Sat no W [blk b2 (en vq (fun i => zv (mrow pa pb u (mall pa pb nb u) k i)) (na + nb - 1)) 47, blk b1 [.int .u64 ((dg 0 (pr s) : Nat) : Int), .int .u64 ((dg 1 (pr s) : Nat) : Int), .int .u64 ((dg 2 (pr s) : Nat) : Int), .int .u64 ((dg 3 (pr s) : Nat) : Int)] 47] [lst 4 (.slice aa na ca) na (en vq (fun i => zv (pa i)) na), lst 4 (.slice ab nb cb) nb (en vq (fun i => zv (pb i)) nb)] w ∧ okL [blk b1 [.int .u64 ((dg 0 (pr s) : Nat) : Int), .int .u64 ((dg 1 (pr s) : Nat) : Int), .int .u64 ((dg 2 (pr s) : Nat) : Int), .int .u64 ((dg 3 (pr s) : Nat) : Int)] 47, lst 4 (.slice aa na ca) na (en vq (fun i => zv (pa i)) na), lst 4 (.slice ab nb cb) nb (en vq (fun i => zv (pb i)) nb)] w) ?_ ?_
      · intro hJ2097151
        refine d_join (n2 := 4) 2096127 (fun a w => Kn [] 61 [(57, vec (zv ((pa u) * (pb k)))), (46, .pointer (some ((adq (some ⟨b2, 0, none⟩)).add ((u + k) * 4)))), (56, vec (zv (pb k))), (55, .pointer (some ((adq ab).add (k * 4)))), (54, .int .i64 ((k : Nat) : Int)), (53, .slice ab nb cb), (52, vec (zv (pa u))), (51, .pointer (some ((adq aa).add (u * 4)))), (50, .int .i64 ((u : Nat) : Int)), (49, .slice aa na ca), (48, vec (pr s)), (45, .int .i64 ((u + k : Nat) : Int)), (44, .int .i64 ((k : Nat) : Int)), (43, .int .i64 ((u : Nat) : Int)), (42, .slice (some ⟨b2, 0, none⟩) (na + nb - 1) (na + nb - 1)), (41, vec (pr s)), (40, .int .i64 ((u + k : Nat) : Int)), (39, .int .i64 ((k : Nat) : Int)), (38, .int .i64 ((u : Nat) : Int)), (37, .slice (some ⟨b2, 0, none⟩) (na + nb - 1) (na + nb - 1)), (34, .bool true), (33, .int .i64 ((nb : Nat) : Int)), (32, .slice ab nb cb), (31, .int .i64 ((k : Nat) : Int)), (9, .int .i64 ((k : Nat) : Int)), (28, .bool true), (27, .int .i64 ((na : Nat) : Int)), (26, .slice aa na ca), (25, .int .i64 ((u : Nat) : Int)), (8, .int .i64 ((u : Nat) : Int)), (7, .slice (some ⟨b2, 0, none⟩) (na + nb - 1) (na + nb - 1)), (6, .slice none 0 0), (3, .pointer (some ⟨b1, 0, none⟩)), (1, .slice aa na ca), (2, .slice ab nb cb)] a ∧ Sat no W [blk b2 (en vq (fun i => zv (mrow pa pb u (mall pa pb nb u) k i)) (na + nb - 1)) 47, blk b1 [.int .u64 ((dg 0 (pr s) : Nat) : Int), .int .u64 ((dg 1 (pr s) : Nat) : Int), .int .u64 ((dg 2 (pr s) : Nat) : Int), .int .u64 ((dg 3 (pr s) : Nat) : Int)] 47] [lst 4 (.slice aa na ca) na (en vq (fun i => zv (pa i)) na), lst 4 (.slice ab nb cb) nb (en vq (fun i => zv (pb i)) nb)] w ∧ okL [blk b1 [.int .u64 ((dg 0 (pr s) : Nat) : Int), .int .u64 ((dg 1 (pr s) : Nat) : Int), .int .u64 ((dg 2 (pr s) : Nat) : Int), .int .u64 ((dg 3 (pr s) : Nat) : Int)] 47, lst 4 (.slice aa na ca) na (en vq (fun i => zv (pa i)) na), lst 4 (.slice ab nb cb) nb (en vq (fun i => zv (pb i)) nb)] w) ?_ ?_
        · intro hJ2096127
          refine d_v 0 1 hk hL rfl (by kernel_rfl) rfl rfl (fun w hL => w_mv rfl) fun a hk => ?_
          refine d_v 1 3 hk hL rfl (by kernel_rfl) rfl rfl (fun w hL => w_mv rfl) fun a hk => ?_
          refine d_v 2 7 hk hL rfl (by kernel_rfl) rfl rfl (fun w hL => w_mv rfl) fun a hk => ?_
          refine d_v 3 15 hk hL rfl (by kernel_rfl) rfl rfl (fun w hL => w_add (r := ((u + k : Nat) : Int)) rfl rfl (by rw [wr64 (by omega) (by omega)]; omega)) fun a hk => ?_
          refine d_v 4 31 hk hL rfl (by kernel_rfl) rfl rfl (fun w hL => w_ldv (z := pr s) rfl ty47 (.blk (n := 4) (hL.at 0 rfl) rfl)) fun a hk => ?_
          refine d_v 5 63 hk hL rfl (by kernel_rfl) rfl rfl (fun w hL => w_mv rfl) fun a hk => ?_
          refine d_v 6 127 hk hL rfl (by kernel_rfl) rfl rfl (fun w hL => w_mv rfl) fun a hk => ?_
          refine d_v 7 255 hk hL rfl (by kernel_rfl) rfl rfl (fun w hL => w_mv rfl) fun a hk => ?_
          refine d_v 8 511 hk hL rfl (by kernel_rfl) rfl rfl (fun w hL => w_add (r := ((u + k : Nat) : Int)) rfl rfl (by rw [wr64 (by omega) (by omega)]; omega)) fun a hk => ?_
          refine d_v 11 2559 hk hL rfl (by kernel_rfl) rfl rfl (fun w hL => w_ldv (z := pr s) rfl ty47 (.blk (n := 4) (hL.at 0 rfl) rfl)) fun a hk => ?_
          refine d_v 12 6655 hk hL rfl (by kernel_rfl) rfl rfl (fun w hL => w_mv rfl) fun a hk => ?_
          refine d_v 13 14847 hk hL rfl (by kernel_rfl) rfl rfl (fun w hL => w_mv rfl) fun a hk => ?_
          refine d_v 14 31231 hk hL rfl (by kernel_rfl) rfl rfl (fun w hL => w_iaL (k := u) rfl rfl Tryz.underlying72 ty47 (hL.at 1 rfl) (by omega) (by omega)) fun a hk => ?_
          refine d_v 15 63999 hk hL rfl (by kernel_rfl) rfl rfl (fun w hL => w_ldv (z := zv (pa u)) rfl ty47 (lstq (k := u) (hL.at 1 rfl) (by omega) (en_chunk vq_len (by omega)))) fun a hk => ?_
          refine d_v 16 129535 hk hL rfl (by kernel_rfl) rfl rfl (fun w hL => w_mv rfl) fun a hk => ?_
          refine d_v 17 260607 hk hL rfl (by kernel_rfl) rfl rfl (fun w hL => w_mv rfl) fun a hk => ?_
          refine d_v 18 522751 hk hL rfl (by kernel_rfl) rfl rfl (fun w hL => w_iaL (k := k) rfl rfl Tryz.underlying72 ty47 (hL.at 2 rfl) (by omega) (by omega)) fun a hk => ?_
          refine d_v 19 1047039 hk hL rfl (by kernel_rfl) rfl rfl (fun w hL => w_ldv (z := zv (pb k)) rfl ty47 (lstq (k := k) (hL.at 2 rfl) (by omega) (en_chunk vq_len (by omega)))) fun a hk => ?_
          refine d_2 9 20 1047551 2095615 rfl rfl (by kernel_rfl) (fun K hK => ?_) (fun K hK => ?_)
          · skip
            refine q_val hk (w_iaL (k := u + k) rfl rfl Tryz.underlying72 ty47 (blk_lst (hs.mi 0 rfl) (en_len vq_len) (Nat.le_refl _)) (by omega) (by omega)) rfl rfl rfl fun a hk => ?_
            have hL := okL.cons (hs.mi 1 rfl) (okL.cons (hs.ri 0 rfl) (okL.cons (hs.ri 1 rfl) okL.nil))
            refine c_end (x_t (hK _ _ hL ?_))
            clear hK K
            refine d_2 10 20 1048575 2096127 rfl rfl (by kernel_rfl) (fun K hK => ?_) (fun K hK => ?_)
            · skip
              refine q_val hk (w_ldv (z := zv (mrow pa pb u (mall pa pb nb u) k (u + k))) rfl ty47 (lstq (k := u + k) (blk_lst (hs.mi 0 rfl) (en_len vq_len) (Nat.le_refl _)) (by omega) (en_chunk vq_len (by omega)))) rfl rfl rfl fun a hk => ?_
              have hL := okL.cons (hs.mi 1 rfl) (okL.cons (hs.ri 0 rfl) (okL.cons (hs.ri 1 rfl) okL.nil))
              refine c_end (x_t (hK _ _ hL ?_))
              clear hK K
              refine d_1 20 2097151 rfl (by kernel_rfl) fun K hK => ?_
              refine q_call (caps := []) hk rfl rfl Tryz.func66 fo66 rfl rfl (rmul_z (x := (pa u)) (y := (pb k)) _ rfl rfl) ?_
              rintro _ w ⟨rfl, hb⟩
              have hs := hs.below hb
              refine ⟨_, rfl, fun a hk => ?_⟩
              have hL := okL.cons (hs.mi 1 rfl) (okL.cons (hs.ri 0 rfl) (okL.cons (hs.ri 1 rfl) okL.nil))
              refine c_end (x_t (hK _ _ hL ?_))
              clear hK K
              have hL := okL.cons (hs.mi 1 rfl) (okL.cons (hs.ri 0 rfl) (okL.cons (hs.ri 1 rfl) okL.nil))
              exact hJ2097151 _ _ ⟨hk.k rfl (hk.k rfl (hk.k rfl (hk.k rfl (hk.k rfl (hk.k rfl (hk.k rfl (hk.k rfl (hk.k rfl (hk.k rfl (hk.k rfl (hk.k rfl (hk.k rfl (hk.k rfl (hk.k rfl (hk.k rfl (hk.k rfl (hk.k rfl (hk.k rfl (hk.k rfl (hk.k rfl (hk.k rfl (hk.k rfl (hk.k rfl (hk.k rfl (hk.k rfl (hk.k rfl (hk.k rfl (hk.k rfl (hk.k rfl (hk.k rfl (hk.k rfl (hk.k rfl (hk.k rfl (hk.k rfl (hk.k rfl hk.nil))))))))))))))))))))))))))))))))))), hs, hL⟩
            · skip
              refine q_call (caps := []) hk rfl rfl Tryz.func66 fo66 rfl rfl (rmul_z (x := (pa u)) (y := (pb k)) _ rfl rfl) ?_
              rintro _ w ⟨rfl, hb⟩
              have hs := hs.below hb
              refine ⟨_, rfl, fun a hk => ?_⟩
              have hL := okL.cons (hs.mi 1 rfl) (okL.cons (hs.ri 0 rfl) (okL.cons (hs.ri 1 rfl) okL.nil))
              refine c_end (x_t (hK _ _ hL ?_))
              clear hK K
              have hL := okL.cons (hs.mi 1 rfl) (okL.cons (hs.ri 0 rfl) (okL.cons (hs.ri 1 rfl) okL.nil))
              exact hJ2096127 _ _ ⟨hk.k rfl (hk.k rfl (hk.k rfl (hk.k rfl (hk.k rfl (hk.k rfl (hk.k rfl (hk.k rfl (hk.k rfl (hk.k rfl (hk.k rfl (hk.k rfl (hk.k rfl (hk.k rfl (hk.k rfl (hk.k rfl (hk.k rfl (hk.k rfl (hk.k rfl (hk.k rfl (hk.k rfl (hk.k rfl (hk.k rfl (hk.k rfl (hk.k rfl (hk.k rfl (hk.k rfl (hk.k rfl (hk.k rfl (hk.k rfl (hk.k rfl (hk.k rfl (hk.k rfl (hk.k rfl (hk.k rfl hk.nil)))))))))))))))))))))))))))))))))), hs, hL⟩
          · skip
            refine q_call (caps := []) hk rfl rfl Tryz.func66 fo66 rfl rfl (rmul_z (x := (pa u)) (y := (pb k)) _ rfl rfl) ?_
            rintro _ w ⟨rfl, hb⟩
            have hs := hs.below hb
            refine ⟨_, rfl, fun a hk => ?_⟩
            have hL := okL.cons (hs.mi 1 rfl) (okL.cons (hs.ri 0 rfl) (okL.cons (hs.ri 1 rfl) okL.nil))
            refine c_end (x_t (hK _ _ hL ?_))
            clear hK K
            refine d_1 9 2096127 rfl (by kernel_rfl) fun K hK => ?_
            refine q_val hk (w_iaL (k := u + k) rfl rfl Tryz.underlying72 ty47 (blk_lst (hs.mi 0 rfl) (en_len vq_len) (Nat.le_refl _)) (by omega) (by omega)) rfl rfl rfl fun a hk => ?_
            have hL := okL.cons (hs.mi 1 rfl) (okL.cons (hs.ri 0 rfl) (okL.cons (hs.ri 1 rfl) okL.nil))
            refine c_end (x_t (hK _ _ hL ?_))
            clear hK K
            have hL := okL.cons (hs.mi 1 rfl) (okL.cons (hs.ri 0 rfl) (okL.cons (hs.ri 1 rfl) okL.nil))
            exact hJ2096127 _ _ ⟨hk.k rfl (hk.k rfl (hk.k rfl (hk.k rfl (hk.k rfl (hk.k rfl (hk.k rfl (hk.k rfl (hk.k rfl (hk.k rfl (hk.k rfl (hk.k rfl (hk.k rfl (hk.k rfl (hk.k rfl (hk.k rfl (hk.k rfl (hk.k rfl (hk.k rfl (hk.k rfl (hk.k rfl (hk.k rfl (hk.k rfl (hk.k rfl (hk.k rfl (hk.k rfl (hk.k rfl (hk.k rfl (hk.k rfl (hk.k rfl (hk.k rfl (hk.k rfl (hk.k rfl (hk.k rfl (hk.k rfl hk.nil)))))))))))))))))))))))))))))))))), hs, hL⟩
        · rintro a w ⟨hk, hs, hL⟩
          refine d_1 10 2097151 rfl (by kernel_rfl) fun K hK => ?_
          refine q_val hk (w_ldv (z := zv (mrow pa pb u (mall pa pb nb u) k (u + k))) rfl ty47 (lstq (k := u + k) (blk_lst (hs.mi 0 rfl) (en_len vq_len) (Nat.le_refl _)) (by omega) (en_chunk vq_len (by omega)))) rfl rfl rfl fun a hk => ?_
          have hL := okL.cons (hs.mi 1 rfl) (okL.cons (hs.ri 0 rfl) (okL.cons (hs.ri 1 rfl) okL.nil))
          refine c_end (x_t (hK _ _ hL ?_))
          clear hK K
          have hL := okL.cons (hs.mi 1 rfl) (okL.cons (hs.ri 0 rfl) (okL.cons (hs.ri 1 rfl) okL.nil))
          exact hJ2097151 _ _ ⟨hk.k rfl (hk.k rfl (hk.k rfl (hk.k rfl (hk.k rfl (hk.k rfl (hk.k rfl (hk.k rfl (hk.k rfl (hk.k rfl (hk.k rfl (hk.k rfl (hk.k rfl (hk.k rfl (hk.k rfl (hk.k rfl (hk.k rfl (hk.k rfl (hk.k rfl (hk.k rfl (hk.k rfl (hk.k rfl (hk.k rfl (hk.k rfl (hk.k rfl (hk.k rfl (hk.k rfl (hk.k rfl (hk.k rfl (hk.k rfl (hk.k rfl (hk.k rfl (hk.k rfl (hk.k rfl (hk.k rfl (hk.k rfl hk.nil))))))))))))))))))))))))))))))))))), hs, hL⟩
      · rintro a w ⟨hk, hs, hL⟩
        refine d_1 21 4194303 rfl (by kernel_rfl) fun K hK => ?_
        refine q_call (caps := []) hk rfl rfl Tryz.func30 fo30 rfl rfl (radd_z (x := (mrow pa pb u (mall pa pb nb u) k (u + k))) (y := ((pa u) * (pb k))) _ rfl rfl) ?_
        rintro _ w ⟨rfl, hb⟩
        have hs := hs.below hb
        refine ⟨_, rfl, fun a hk => ?_⟩
        have hL := okL.cons (hs.mi 1 rfl) (okL.cons (hs.ri 0 rfl) (okL.cons (hs.ri 1 rfl) okL.nil))
        refine c_end (x_t (hK _ _ hL ?_))
        clear hK K
        refine d_1 22 8388607 rfl (by kernel_rfl) fun K hK => ?_
        refine q_val hk (w_iaL (k := u + k) rfl rfl Tryz.underlying72 ty47 (blk_lst (hs.mi 0 rfl) (en_len vq_len) (Nat.le_refl _)) (by omega) (by omega)) rfl rfl rfl fun a hk => ?_
        have hL := okL.cons (hs.mi 1 rfl) (okL.cons (hs.ri 0 rfl) (okL.cons (hs.ri 1 rfl) okL.nil))
        refine c_end (x_t (hK _ _ hL ?_))
        clear hK K
        refine d_1 23 16777215 rfl (by kernel_rfl) fun K hK => ?_
        refine q_stoE (c := vq) (xx := (zv ((mrow pa pb u (mall pa pb nb u) k (u + k)) + ((pa u) * (pb k))))) (k := (u + k)) hk hs rfl rfl rfl ty47 rfl vq_len rfl (by omega) rfl fun w hs => ?_
        have hL := okL.cons (hs.mi 1 rfl) (okL.cons (hs.ri 0 rfl) (okL.cons (hs.ri 1 rfl) okL.nil))
        refine c_end (x_t (hK _ _ hL ?_))
        clear hK K
        refine d_end (by kernel_rfl) ?_
        refine (x_b (x_t ?_))
        refine wpIn_region_lit ?_
        refine q_val hk (w_mv rfl) rfl rfl rfl fun a hk => ?_
        refine q_val hk (w_add rfl rfl (wr64 (by omega) (by omega))) rfl rfl rfl fun a hk => ?_
        refine q_val hk (w_as rfl) rfl rfl rfl fun a hk => ?_
        refine (c_end (x_t ?_))
        have hs := hs.rw0 (congrArg (fun q => blk b2 q 47) (mrowv_step))
        exact ⟨k + 1, ⟨(by omega), hk.k rfl (hk.k rfl (hk.k rfl (hk.k rfl (hk.k rfl (hk.k rfl (hk.k rfl (hk.k rfl (hk.k rfl (hk.k rfl (hk.k rfl hk.nil)))))))))), hs⟩, by omega⟩
    · skip
      refine q_val hk (w_lt rfl rfl (decide_eq_false hc4)) rfl rfl rfl fun a hk => ?_
      refine (c_end (x_t ?_))
      refine c_F hk rfl ?_
      refine (wpIn_exit (x_te (x_te (x_be ?_))))
      refine (x_b (x_t ?_))
      refine wpIn_region_lit ?_
      refine q_val hk (w_mv rfl) rfl rfl rfl fun a hk => ?_
      refine q_val hk (w_add rfl rfl (wr64 (by omega) (by omega))) rfl rfl rfl fun a hk => ?_
      refine q_val hk (w_as rfl) rfl rfl rfl fun a hk => ?_
      refine (c_end (x_t ?_))
      have hknb : k = nb := by omega
      rw [hknb] at hs
      exact ⟨u + 1, ⟨(by omega), hk.k rfl (hk.k rfl (hk.k rfl (hk.k rfl (hk.k rfl (hk.k rfl hk.nil))))), hs⟩, by omega⟩
  · skip
    refine q_val hk (w_lt rfl rfl (decide_eq_false hc3)) rfl rfl rfl fun a hk => ?_
    refine (c_end (x_t ?_))
    refine c_F hk rfl ?_
    refine (wpIn_exit (x_te (x_te (x_be ?_))))
    refine (x_t ?_)
    refine wpIn_seq ?_
    refine wpIn_region_lit ?_
    refine q_val hk (w_mv rfl) rfl rfl rfl fun a hk => ?_
    refine q_val hk (w_as rfl) rfl rfl rfl fun a hk => ?_
    refine (c_end (x_t ?_))
    refine (wpIn_ret ?_)
    refine c_ret1 hk rfl rfl ?_
    have hs := hs.up1
    have hs := hs.drop
    have hina : u = na := by omega
    rw [hina] at hs
    exact ⟨_, rfl, hs.fin⟩
theorem raddP_z (s : Bool) (n ca cb : Nat) (aa ab : Option Addr) (px py : Nat → Zp s) (W : World) (HA : LstAt W 4 (.slice aa n ca) n (en vq (fun i => zv (px i)) n)) (HB : LstAt W 4 (.slice ab n cb) n (en vq (fun i => zv (py i)) n)) (hn9 : n ≤ 1000000) : Calls Tryz.prog 132 [vec (pr s), .slice aa n ca, .slice ab n cb].toArray W fun e w => ∃ o, e = .returned (.slice (some ⟨o, 0, none⟩) n n) ∧ Sat no W [blk o (en vq (fun j => zv (px j + py j)) n) 47] [] w := by
  refine c_enter (args := [vec (pr s), .slice aa n ca, .slice ab n cb]) Tryz.func132 rfl rfl rfl fun a hk => ?_
  have hs := Sat.start W [lst 4 (.slice aa n ca) n (en vq (fun i => zv (px i)) n), lst 4 (.slice ab n cb) n (en vq (fun i => zv (py i)) n)] (okrc HA (okr1 HB))
  refine wpIn_seq ?_
  refine wpIn_region_lit ?_
  refine q_box (vs := [.int .u64 ((dg 0 (pr s) : Nat) : Int), .int .u64 ((dg 1 (pr s) : Nat) : Int), .int .u64 ((dg 2 (pr s) : Nat) : Int), .int .u64 ((dg 3 (pr s) : Nat) : Int)]) hk hs rfl rfl rfl rfl fun b1 w a hk hs => ?_
  refine q_val hk (w_as rfl) rfl rfl rfl fun a hk => ?_
  refine (c_end (x_t ?_))
  refine wpIn_seq ?_
  refine wpIn_region_lit ?_
  refine q_val hk (w_mv rfl) rfl rfl rfl fun a hk => ?_
  refine q_val hk (w_len rfl Tryz.underlying72) rfl rfl rfl fun a hk => ?_
  refine q_val hk (w_mv rfl) rfl rfl rfl fun a hk => ?_
  refine q_val hk (w_len rfl Tryz.underlying72) rfl rfl rfl fun a hk => ?_
  refine q_val hk (w_max (r := ((n : Nat) : Int)) rfl rfl (by omega)) rfl rfl rfl fun a hk => ?_
  refine q_mks (k := n) (cs := vq 0) hk hs rfl rfl Tryz.underlying72 ty47 zr47 (by kernel_rfl) rfl rfl rfl rfl (by omega) (by omega) rfl rfl fun b2 w a hk hs => ?_
  have hs := hs.rw0 (show _ = blk b2 (en vq (fun _ => 0) n) 47 from rfl)
  refine q_val hk (w_as rfl) rfl rfl rfl fun a hk => ?_
  refine (c_end (x_t ?_))
  refine wpIn_seq ?_
  refine wpIn_seq ?_
  refine wpIn_region_lit ?_
  refine q_val hk (w_as rfl) rfl rfl rfl fun a hk => ?_
  refine (c_end (x_t ?_))
  refine wpIn_block ?_
  have hs := hs.rw0 (congrArg (fun q => blk b2 q 47) (cpf_zero (x := px)))
  refine c_loop (α := Nat) (fun k a w => k ≤ n ∧ Kn [] 49 [(8, .int .i64 ((k : Nat) : Int)), (7, .slice (some ⟨b2, 0, none⟩) n n), (6, .slice none 0 0), (3, .pointer (some ⟨b1, 0, none⟩)), (1, .slice aa n ca), (2, .slice ab n cb)] a ∧ Sat no W [blk b2 (en vq (fun i => cpf px k i) n) 47, blk b1 [.int .u64 ((dg 0 (pr s) : Nat) : Int), .int .u64 ((dg 1 (pr s) : Nat) : Int), .int .u64 ((dg 2 (pr s) : Nat) : Int), .int .u64 ((dg 3 (pr s) : Nat) : Int)] 47] [lst 4 (.slice aa n ca) n (en vq (fun i => zv (px i)) n), lst 4 (.slice ab n cb) n (en vq (fun i => zv (py i)) n)] w) (fun k => n - k) 0 ?_ ?_
  · exact ⟨(by omega), hk.k rfl (hk.k rfl (hk.k rfl (hk.k rfl (hk.k rfl (hk.k rfl hk.nil))))), hs⟩
  rintro k a w ⟨hf0, hk, hs⟩
  refine wpIn_seq ?_
  refine wpIn_seq ?_
  refine wpIn_region_lit ?_
  refine q_val hk (w_mv rfl) rfl rfl rfl fun a hk => ?_
  refine q_val hk (w_mv rfl) rfl rfl rfl fun a hk => ?_
  refine q_val hk (w_len rfl Tryz.underlying72) rfl rfl rfl fun a hk => ?_
  rcases Classical.em (((k : Nat) : Int) < ((n : Nat) : Int)) with hc3 | hc3
  · skip
    refine q_val hk (w_lt rfl rfl (decide_eq_true hc3)) rfl rfl rfl fun a hk => ?_
    refine (c_end (x_t ?_))
    refine c_T hk rfl ?_
    refine (wpIn_skip (x_t ?_))
    refine wpIn_seq ?_
    refine wpIn_block ?_
    refine wpIn_region_lit ?_
    refine q_val hk (w_mv rfl) rfl rfl rfl fun a hk => ?_
    refine q_val hk (w_mv rfl) rfl rfl rfl fun a hk => ?_
    refine q_val hk (w_mv rfl) rfl rfl rfl fun a hk => ?_
    refine q_val hk (w_mv rfl) rfl rfl rfl fun a hk => ?_
    refine q_val hk (w_iaL (k := k) rfl rfl Tryz.underlying72 ty47 (hs.ri 0 rfl) (by omega) (by omega)) rfl rfl rfl fun a hk => ?_
    refine q_val hk (w_ldv (z := zv (px k)) rfl ty47 (lstq (k := k) (hs.ri 0 rfl) (by omega) (en_chunk vq_len (by omega)))) rfl rfl rfl fun a hk => ?_
    refine q_val hk (w_iaL (k := k) rfl rfl Tryz.underlying72 ty47 (blk_lst (hs.mi 0 rfl) (en_len vq_len) (Nat.le_refl _)) (by omega) (by omega)) rfl rfl rfl fun a hk => ?_
    refine q_stoE (c := vq) (xx := (zv (px k))) (k := k) hk hs rfl rfl rfl ty47 rfl vq_len rfl (by omega) rfl fun w hs => ?_
    refine (c_end (x_b (x_t ?_)))
    refine wpIn_region_lit ?_
    refine q_val hk (w_mv rfl) rfl rfl rfl fun a hk => ?_
    refine q_val hk (w_add rfl rfl (wr64 (by omega) (by omega))) rfl rfl rfl fun a hk => ?_
    refine q_val hk (w_as rfl) rfl rfl rfl fun a hk => ?_
    refine (c_end (x_t ?_))
    have hs := hs.rw0 (congrArg (fun q => blk b2 q 47) (cpf_step (x := px)))
    exact ⟨k + 1, ⟨(by omega), hk.k rfl (hk.k rfl (hk.k rfl (hk.k rfl (hk.k rfl (hk.k rfl hk.nil))))), hs⟩, by omega⟩
  · skip
    refine q_val hk (w_lt rfl rfl (decide_eq_false hc3)) rfl rfl rfl fun a hk => ?_
    refine (c_end (x_t ?_))
    refine c_F hk rfl ?_
    refine (wpIn_exit (x_te (x_te (x_be ?_))))
    refine (x_t ?_)
    refine wpIn_seq ?_
    refine wpIn_seq ?_
    refine wpIn_region_lit ?_
    refine q_val hk (w_as rfl) rfl rfl rfl fun a hk => ?_
    refine (c_end (x_t ?_))
    refine wpIn_block ?_
    have hk1 : k = n := by omega
    rw [hk1] at hs
    have hs := hs.rw0 (congrArg (fun q => blk b2 q 47) (adf_zero (x := px) (y := py)))
    refine c_loop (α := Nat) (fun j a w => j ≤ n ∧ Kn [] 49 [(9, .int .i64 ((j : Nat) : Int)), (7, .slice (some ⟨b2, 0, none⟩) n n), (6, .slice none 0 0), (3, .pointer (some ⟨b1, 0, none⟩)), (2, .slice ab n cb)] a ∧ Sat no W [blk b2 (en vq (fun i => adf px py j i) n) 47, blk b1 [.int .u64 ((dg 0 (pr s) : Nat) : Int), .int .u64 ((dg 1 (pr s) : Nat) : Int), .int .u64 ((dg 2 (pr s) : Nat) : Int), .int .u64 ((dg 3 (pr s) : Nat) : Int)] 47] [lst 4 (.slice aa n ca) n (en vq (fun i => zv (px i)) n), lst 4 (.slice ab n cb) n (en vq (fun i => zv (py i)) n)] w) (fun j => n - j) 0 ?_ ?_
    · exact ⟨(by omega), hk.k rfl (hk.k rfl (hk.k rfl (hk.k rfl (hk.k rfl hk.nil)))), hs⟩
    rintro j a w ⟨hf0, hk, hs⟩
    refine wpIn_seq ?_
    refine wpIn_seq ?_
    refine wpIn_region_lit ?_
    refine q_val hk (w_mv rfl) rfl rfl rfl fun a hk => ?_
    refine q_val hk (w_mv rfl) rfl rfl rfl fun a hk => ?_
    refine q_val hk (w_len rfl Tryz.underlying72) rfl rfl rfl fun a hk => ?_
    rcases Classical.em (((j : Nat) : Int) < ((n : Nat) : Int)) with hc4 | hc4
    · skip
      refine q_val hk (w_lt rfl rfl (decide_eq_true hc4)) rfl rfl rfl fun a hk => ?_
      refine (c_end (x_t ?_))
      refine c_T hk rfl ?_
      refine (wpIn_skip (x_t ?_))
      refine wpIn_seq ?_
      refine wpIn_block ?_
      have hL := okL.cons (hs.mi 1 rfl) (okL.cons (hs.ri 1 rfl) okL.nil)
      refine d_begin _ 14 (by kernel_rfl) rfl hs hL fun w hs hL => ?_
      refine d_v 0 1 hk hL rfl (by kernel_rfl) rfl rfl (fun w hL => w_mv rfl) fun a hk => ?_
      refine d_v 1 3 hk hL rfl (by kernel_rfl) rfl rfl (fun w hL => w_mv rfl) fun a hk => ?_
      refine d_v 2 7 hk hL rfl (by kernel_rfl) rfl rfl (fun w hL => w_ldv (z := pr s) rfl ty47 (.blk (n := 4) (hL.at 0 rfl) rfl)) fun a hk => ?_
      refine d_v 3 15 hk hL rfl (by kernel_rfl) rfl rfl (fun w hL => w_mv rfl) fun a hk => ?_
      refine d_v 4 31 hk hL rfl (by kernel_rfl) rfl rfl (fun w hL => w_mv rfl) fun a hk => ?_
      refine d_v 7 159 hk hL rfl (by kernel_rfl) rfl rfl (fun w hL => w_mv rfl) fun a hk => ?_
      refine d_v 8 415 hk hL rfl (by kernel_rfl) rfl rfl (fun w hL => w_mv rfl) fun a hk => ?_
      refine d_v 9 927 hk hL rfl (by kernel_rfl) rfl rfl (fun w hL => w_iaL (k := j) rfl rfl Tryz.underlying72 ty47 (hL.at 1 rfl) (by omega) (by omega)) fun a hk => ?_
      refine d_v 10 1951 hk hL rfl (by kernel_rfl) rfl rfl (fun w hL => w_ldv (z := zv (py j)) rfl ty47 (lstq (k := j) (hL.at 1 rfl) (by omega) (en_chunk vq_len (by omega)))) fun a hk => ?_
      refine d_1 5 1983 rfl (by kernel_rfl) fun K hK => ?_
      refine q_val hk (w_iaL (k := j) rfl rfl Tryz.underlying72 ty47 (blk_lst (hs.mi 0 rfl) (en_len vq_len) (Nat.le_refl _)) (by omega) (by omega)) rfl rfl rfl fun a hk => ?_
      have hL := okL.cons (hs.mi 1 rfl) (okL.cons (hs.ri 1 rfl) okL.nil)
      refine c_end (x_t (hK _ _ hL ?_))
      clear hK K
      refine d_1 6 2047 rfl (by kernel_rfl) fun K hK => ?_
      refine q_val hk (w_ldv (z := zv (px j)) rfl ty47 (vq_eq adf_at (lstq (k := j) (blk_lst (hs.mi 0 rfl) (en_len vq_len) (Nat.le_refl _)) (by omega) (en_chunk vq_len (by omega))))) rfl rfl rfl fun a hk => ?_
      have hL := okL.cons (hs.mi 1 rfl) (okL.cons (hs.ri 1 rfl) okL.nil)
      refine c_end (x_t (hK _ _ hL ?_))
      clear hK K
      refine d_1 11 4095 rfl (by kernel_rfl) fun K hK => ?_
      refine q_call (caps := []) hk rfl rfl Tryz.func30 fo30 rfl rfl (radd_z (x := (px j)) (y := (py j)) _ rfl rfl) ?_
      rintro _ w ⟨rfl, hb⟩
      have hs := hs.below hb
      refine ⟨_, rfl, fun a hk => ?_⟩
      have hL := okL.cons (hs.mi 1 rfl) (okL.cons (hs.ri 1 rfl) okL.nil)
      refine c_end (x_t (hK _ _ hL ?_))
      clear hK K
      refine d_1 12 8191 rfl (by kernel_rfl) fun K hK => ?_
      refine q_val hk (w_iaL (k := j) rfl rfl Tryz.underlying72 ty47 (blk_lst (hs.mi 0 rfl) (en_len vq_len) (Nat.le_refl _)) (by omega) (by omega)) rfl rfl rfl fun a hk => ?_
      have hL := okL.cons (hs.mi 1 rfl) (okL.cons (hs.ri 1 rfl) okL.nil)
      refine c_end (x_t (hK _ _ hL ?_))
      clear hK K
      refine d_1 13 16383 rfl (by kernel_rfl) fun K hK => ?_
      refine q_stoE (c := vq) (xx := (zv ((px j) + (py j)))) (k := j) hk hs rfl rfl rfl ty47 rfl vq_len rfl (by omega) rfl fun w hs => ?_
      have hL := okL.cons (hs.mi 1 rfl) (okL.cons (hs.ri 1 rfl) okL.nil)
      refine c_end (x_t (hK _ _ hL ?_))
      clear hK K
      refine d_end (by kernel_rfl) ?_
      refine (x_b (x_t ?_))
      refine wpIn_region_lit ?_
      refine q_val hk (w_mv rfl) rfl rfl rfl fun a hk => ?_
      refine q_val hk (w_add rfl rfl (wr64 (by omega) (by omega))) rfl rfl rfl fun a hk => ?_
      refine q_val hk (w_as rfl) rfl rfl rfl fun a hk => ?_
      refine (c_end (x_t ?_))
      have hs := hs.rw0 (congrArg (fun q => blk b2 q 47) (adf_step (x := px) (y := py)))
      exact ⟨j + 1, ⟨(by omega), hk.k rfl (hk.k rfl (hk.k rfl (hk.k rfl (hk.k rfl hk.nil)))), hs⟩, by omega⟩
    · skip
      refine q_val hk (w_lt rfl rfl (decide_eq_false hc4)) rfl rfl rfl fun a hk => ?_
      refine (c_end (x_t ?_))
      refine c_F hk rfl ?_
      refine (wpIn_exit (x_te (x_te (x_be ?_))))
      refine (x_t ?_)
      refine wpIn_seq ?_
      refine wpIn_region_lit ?_
      refine q_val hk (w_mv rfl) rfl rfl rfl fun a hk => ?_
      refine q_val hk (w_as rfl) rfl rfl rfl fun a hk => ?_
      refine (c_end (x_t ?_))
      refine (wpIn_ret ?_)
      refine c_ret1 hk rfl rfl ?_
      have hs := hs.up1
      have hs := hs.drop
      have hj : j = n := by omega
      rw [hj] at hs
      rw [adf_end] at hs
      exact ⟨_, rfl, hs.fin⟩
end Go.Proofs.YtdnkkbmpefhbjaaGreatDoor
namespace Go.Proofs.YtdnkkbmpefhbjaaGreatDoor
set_option linter.all false
open Go Go.RowKit Alg
theorem zn_small {s : Bool} {k : Nat} (h : k ≤ 255) : zv (zn s k) = k := by
  show k % pr s = k
  exact Nat.mod_eq_of_lt (Nat.lt_of_le_of_lt h (by cases s <;> decide))
theorem wr_eq {s : Bool} {x : Nat → Zp s} {u k : Nat} (h : k = u) : wr x u k = wr x u (k + 1) := by show _ = if k = u then _ else _; rw [if_pos h]
theorem wr_ne {s : Bool} {x : Nat → Zp s} {u k : Nat} (h : ¬ k = u) : wr x u k * (x u - x k) = wr x u (k + 1) := by show _ = if k = u then _ else _; rw [if_neg h]
theorem rpoint_c (k : Nat) (W : World) (hk : k ≤ 255) : Calls Tryz.prog 93 [.int .i64 ((k : Nat) : Int)].toArray W fun e w => e = .returned (vec k) ∧ Below W.heap.size W w := by
  refine c_enter (args := [.int .i64 ((k : Nat) : Int)]) Tryz.func93 rfl rfl rfl fun a hk => ?_
  have hs := Sat.start W [] (fun _ h => by cases h)
  refine wpIn_seq ?_
  refine wpIn_region_lit ?_
  refine q_alc (vs := [.int .u64 0, .int .u64 0, .int .u64 0, .int .u64 0]) hk hs zr47 rfl rfl rfl fun b1 w a hk hs => ?_
  refine (c_end (x_t ?_))
  refine wpIn_seq ?_
  refine wpIn_region_lit ?_
  refine q_val hk (w_mv rfl) rfl rfl rfl fun a hk => ?_
  refine q_val hk (w_conv rfl Tryz.underlying3 Tryz.underlying46 (wru64 (by omega) (by omega))) rfl rfl rfl fun a hk => ?_
  refine q_val hk (w_bldv1 (k := k) rfl (by omega) (by unfold Go.Proofs.YtdnkkbmpefhbjaaGreatDoor.W; omega) Tryz.underlying47 ty46 zr47) rfl rfl rfl fun a hk => ?_
  refine q_sto (o := 0) (cs := [.int .u64 ((dg 0 k : Nat) : Int), .int .u64 ((dg 1 k : Nat) : Int), .int .u64 ((dg 2 k : Nat) : Int), .int .u64 ((dg 3 k : Nat) : Int)]) (vs' := [.int .u64 ((dg 0 k : Nat) : Int), .int .u64 ((dg 1 k : Nat) : Int), .int .u64 ((dg 2 k : Nat) : Int), .int .u64 ((dg 3 k : Nat) : Int)]) hk hs rfl rfl rfl ty47 rfl rfl rfl rfl rfl rfl fun w hs => ?_
  refine (c_end (x_t ?_))
  refine (wpIn_ret ?_)
  refine c_retG (vs := [vec k]) hk rfl ⟨⟨_, rfl, lv_A ty47 (.blk (n := 4) (hs.mi 0 rfl) rfl) rfl⟩, trivial⟩ rfl ?_
  exact ⟨rfl, hs.toBelow⟩
theorem rpoint_z (s : Bool) (k : Nat) (w : World) (hk : k ≤ 255) : Calls Tryz.prog 93 #[.int .i64 ((k : Nat) : Int)] w fun e w' => e = .returned (vec (zv (zn s k))) ∧ Below w.heap.size w w' := by
  rw [zn_small hk]
  exact rpoint_c k w hk
theorem rweights_z (s : Bool) (n lc : Nat) (la : Option Addr) (v : Nat → Nat) (W : World) (HX : LstAt W 1 (.slice la n lc) n (en ic (fun i => ((v i : Nat) : Int)) n)) (hn : n ≤ 255) (hv : ∀ i, i < n → 1 ≤ v i ∧ v i ≤ 255) : Calls Tryz.prog 129 [vec (pr s), .slice la n lc].toArray W fun e w => ∃ a c, e = .returned (.slice a n c) ∧ Sat no W [row 47 4 (.slice a n c) n (en vq (fun i => zv (zinv (wr (pt s v) i n))) n)] [] w := by
  refine c_enter (args := [vec (pr s), .slice la n lc]) Tryz.func129 rfl rfl rfl fun a hk => ?_
  have hs := Sat.start W [lst 1 (.slice la n lc) n (en ic (fun i => ((v i : Nat) : Int)) n)] (okr1 HX)
  refine wpIn_seq ?_
  refine wpIn_region_lit ?_
  refine q_box (vs := [.int .u64 ((dg 0 (pr s) : Nat) : Int), .int .u64 ((dg 1 (pr s) : Nat) : Int), .int .u64 ((dg 2 (pr s) : Nat) : Int), .int .u64 ((dg 3 (pr s) : Nat) : Int)]) hk hs rfl rfl rfl rfl fun b1 w a hk hs => ?_
  refine q_val hk (w_as rfl) rfl rfl rfl fun a hk => ?_
  refine (c_end (x_t ?_))
  refine wpIn_seq ?_
  refine wpIn_region_lit ?_
  refine q_val hk (w_as rfl) rfl rfl rfl fun a hk => ?_
  refine (c_end (x_t ?_))
  refine wpIn_seq ?_
  refine wpIn_seq ?_
  refine wpIn_region_lit ?_
  refine q_val hk (w_as rfl) rfl rfl rfl fun a hk => ?_
  refine (c_end (x_t ?_))
  refine wpIn_block ?_
  have hs := hs.row0 47 4
  refine c_loop (α := Nat) (fun u a w => ∃ (ao : Option Addr) (co : Nat), u ≤ n ∧ Kn [] 47 [(6, .int .i64 (u : Int)), (5, .slice ao u co), (4, .slice none 0 0), (2, .pointer (some ⟨b1, 0, none⟩)), (1, .slice la n lc)] a ∧ Sat no W [row 47 4 (.slice ao u co) u (en vq (fun i => zv (zinv (wr (pt s v) i n))) u), blk b1 [.int .u64 ((dg 0 (pr s) : Nat) : Int), .int .u64 ((dg 1 (pr s) : Nat) : Int), .int .u64 ((dg 2 (pr s) : Nat) : Int), .int .u64 ((dg 3 (pr s) : Nat) : Int)] 47] [lst 1 (.slice la n lc) n (en ic (fun i => ((v i : Nat) : Int)) n)] w) (fun u => n - u) 0 ?_ ?_
  · exact ⟨_, _, (by omega), hk.k rfl (hk.k rfl (hk.k rfl (hk.k rfl (hk.k rfl hk.nil)))), hs⟩
  rintro u a w ⟨ao, co, hf0, hk, hs⟩
  refine wpIn_seq ?_
  refine wpIn_seq ?_
  refine wpIn_region_lit ?_
  refine q_val hk (w_mv rfl) rfl rfl rfl fun a hk => ?_
  refine q_val hk (w_mv rfl) rfl rfl rfl fun a hk => ?_
  refine q_val hk (w_len rfl Tryz.underlying34) rfl rfl rfl fun a hk => ?_
  rcases Classical.em ((u : Int) < ((n : Nat) : Int)) with hc2 | hc2
  · skip
    refine q_val hk (w_lt rfl rfl (decide_eq_true hc2)) rfl rfl rfl fun a hk => ?_
    refine (c_end (x_t ?_))
    refine c_T hk rfl ?_
    refine (wpIn_skip (x_t ?_))
    refine wpIn_seq ?_
    refine wpIn_block ?_
    refine wpIn_seq ?_
    refine wpIn_region_lit ?_
    refine q_call (caps := []) hk rfl rfl Tryz.func67 fo67 rfl rfl (rone_z (s := s) _) ?_
    rintro _ w ⟨rfl, hb⟩
    have hs := hs.below hb
    refine ⟨_, rfl, fun a hk => ?_⟩
    refine q_alc (vs := [.int .u64 0, .int .u64 0, .int .u64 0, .int .u64 0]) hk hs zr47 rfl rfl rfl fun b3 w a hk hs => ?_
    refine q_sto (o := 0) (cs := [.int .u64 ((dg 0 (zv (1 : Zp s)) : Nat) : Int), .int .u64 ((dg 1 (zv (1 : Zp s)) : Nat) : Int), .int .u64 ((dg 2 (zv (1 : Zp s)) : Nat) : Int), .int .u64 ((dg 3 (zv (1 : Zp s)) : Nat) : Int)]) (vs' := [.int .u64 ((dg 0 (zv (1 : Zp s)) : Nat) : Int), .int .u64 ((dg 1 (zv (1 : Zp s)) : Nat) : Int), .int .u64 ((dg 2 (zv (1 : Zp s)) : Nat) : Int), .int .u64 ((dg 3 (zv (1 : Zp s)) : Nat) : Int)]) hk hs rfl rfl rfl ty47 rfl rfl rfl rfl rfl rfl fun w hs => ?_
    refine (c_end (x_t ?_))
    refine wpIn_seq ?_
    refine wpIn_seq ?_
    refine wpIn_region_lit ?_
    refine q_val hk (w_as rfl) rfl rfl rfl fun a hk => ?_
    refine (c_end (x_t ?_))
    refine wpIn_block ?_
    have hs : Sat no W [blk b3 [.int .u64 ((dg 0 (zv (wr (pt s v) u 0)) : Nat) : Int), .int .u64 ((dg 1 (zv (wr (pt s v) u 0)) : Nat) : Int), .int .u64 ((dg 2 (zv (wr (pt s v) u 0)) : Nat) : Int), .int .u64 ((dg 3 (zv (wr (pt s v) u 0)) : Nat) : Int)] 47, row 47 4 (.slice ao u co) u (en vq (fun i => zv (zinv (wr (pt s v) i n))) u), blk b1 [.int .u64 ((dg 0 (pr s) : Nat) : Int), .int .u64 ((dg 1 (pr s) : Nat) : Int), .int .u64 ((dg 2 (pr s) : Nat) : Int), .int .u64 ((dg 3 (pr s) : Nat) : Int)] 47] [lst 1 (.slice la n lc) n (en ic (fun i => ((v i : Nat) : Int)) n)] w := hs
    refine c_loop (α := Nat) (fun k a w => k ≤ n ∧ Kn [] 47 [(8, .int .i64 ((k : Nat) : Int)), (7, .pointer (some ⟨b3, 0, none⟩)), (15, vec (zv (1 : Zp s))), (12, .bool true), (11, .int .i64 ((n : Nat) : Int)), (10, .slice la n lc), (9, .int .i64 (u : Int)), (6, .int .i64 (u : Int)), (5, .slice ao u co), (4, .slice none 0 0), (2, .pointer (some ⟨b1, 0, none⟩)), (1, .slice la n lc)] a ∧ Sat no W [blk b3 [.int .u64 ((dg 0 (zv (wr (pt s v) u k)) : Nat) : Int), .int .u64 ((dg 1 (zv (wr (pt s v) u k)) : Nat) : Int), .int .u64 ((dg 2 (zv (wr (pt s v) u k)) : Nat) : Int), .int .u64 ((dg 3 (zv (wr (pt s v) u k)) : Nat) : Int)] 47, row 47 4 (.slice ao u co) u (en vq (fun i => zv (zinv (wr (pt s v) i n))) u), blk b1 [.int .u64 ((dg 0 (pr s) : Nat) : Int), .int .u64 ((dg 1 (pr s) : Nat) : Int), .int .u64 ((dg 2 (pr s) : Nat) : Int), .int .u64 ((dg 3 (pr s) : Nat) : Int)] 47] [lst 1 (.slice la n lc) n (en ic (fun i => ((v i : Nat) : Int)) n)] w) (fun k => n - k) 0 ?_ ?_
    · exact ⟨(by omega), hk.k rfl (hk.k rfl (hk.k rfl (hk.k rfl (hk.k rfl (hk.k rfl (hk.k rfl (hk.k rfl (hk.k rfl (hk.k rfl (hk.k rfl (hk.k rfl hk.nil))))))))))), hs⟩
    rintro k a w ⟨hf0, hk, hs⟩
    refine wpIn_seq ?_
    refine wpIn_seq ?_
    refine wpIn_region_lit ?_
    refine q_val hk (w_mv rfl) rfl rfl rfl fun a hk => ?_
    refine q_val hk (w_mv rfl) rfl rfl rfl fun a hk => ?_
    refine q_val hk (w_len rfl Tryz.underlying34) rfl rfl rfl fun a hk => ?_
    rcases Classical.em (((k : Nat) : Int) < ((n : Nat) : Int)) with hc4 | hc4
    · skip
      refine q_val hk (w_lt rfl rfl (decide_eq_true hc4)) rfl rfl rfl fun a hk => ?_
      refine (c_end (x_t ?_))
      refine c_T hk rfl ?_
      refine (wpIn_skip (x_t ?_))
      refine wpIn_seq ?_
      refine wpIn_block ?_
      refine wpIn_seq ?_
      refine wpIn_region_lit ?_
      refine q_val hk (w_mv rfl) rfl rfl rfl fun a hk => ?_
      refine q_val hk (w_mv rfl) rfl rfl rfl fun a hk => ?_
      rcases Classical.em (((k : Nat) : Int) ≠ (u : Int)) with hc5 | hc5
      · skip
        refine q_val hk (w_ne rfl rfl (decide_eq_true hc5)) rfl rfl rfl fun a hk => ?_
        refine (c_end (x_t ?_))
        refine c_T hk rfl ?_
        have hL := okL.cons (hs.mi 2 rfl) (okL.cons (hs.ri 0 rfl) okL.nil)
        refine d_begin _ 16 (by kernel_rfl) rfl hs hL fun w hs hL => ?_
        refine d_join (n2 := 2) 16383 (fun a w => Kn [] 47 [(38, vec (zv ((pt s v u) - (pt s v k)))), (37, vec (zv (pt s v k))), (32, vec (zv (pt s v u))), (26, vec (zv (wr (pt s v) u k))), (36, .int .i64 ((v k : Nat) : Int)), (35, .pointer (some ((adq la).add (k * 1)))), (34, .int .i64 ((k : Nat) : Int)), (33, .slice la n lc), (31, .int .i64 ((v u : Nat) : Int)), (30, .pointer (some ((adq la).add (u * 1)))), (29, .int .i64 (u : Int)), (28, .slice la n lc), (27, vec (pr s)), (25, vec (pr s)), (24, .bool true), (23, .int .i64 (u : Int)), (22, .int .i64 ((k : Nat) : Int)), (19, .bool true), (18, .int .i64 ((n : Nat) : Int)), (17, .slice la n lc), (16, .int .i64 ((k : Nat) : Int)), (8, .int .i64 ((k : Nat) : Int)), (7, .pointer (some ⟨b3, 0, none⟩)), (15, vec (zv (1 : Zp s))), (12, .bool true), (11, .int .i64 ((n : Nat) : Int)), (10, .slice la n lc), (9, .int .i64 (u : Int)), (6, .int .i64 (u : Int)), (5, .slice ao u co), (4, .slice none 0 0), (2, .pointer (some ⟨b1, 0, none⟩)), (1, .slice la n lc)] a ∧ Sat no W [blk b3 [.int .u64 ((dg 0 (zv (wr (pt s v) u k)) : Nat) : Int), .int .u64 ((dg 1 (zv (wr (pt s v) u k)) : Nat) : Int), .int .u64 ((dg 2 (zv (wr (pt s v) u k)) : Nat) : Int), .int .u64 ((dg 3 (zv (wr (pt s v) u k)) : Nat) : Int)] 47, row 47 4 (.slice ao u co) u (en vq (fun i => zv (zinv (wr (pt s v) i n))) u), blk b1 [.int .u64 ((dg 0 (pr s) : Nat) : Int), .int .u64 ((dg 1 (pr s) : Nat) : Int), .int .u64 ((dg 2 (pr s) : Nat) : Int), .int .u64 ((dg 3 (pr s) : Nat) : Int)] 47] [lst 1 (.slice la n lc) n (en ic (fun i => ((v i : Nat) : Int)) n)] w ∧ okL [blk b1 [.int .u64 ((dg 0 (pr s) : Nat) : Int), .int .u64 ((dg 1 (pr s) : Nat) : Int), .int .u64 ((dg 2 (pr s) : Nat) : Int), .int .u64 ((dg 3 (pr s) : Nat) : Int)] 47, lst 1 (.slice la n lc) n (en ic (fun i => ((v i : Nat) : Int)) n)] w) ?_ ?_
        · intro hJ16383
          refine d_join (n2 := 3) 8191 (fun a w => Kn [] 47 [(37, vec (zv (pt s v k))), (32, vec (zv (pt s v u))), (26, vec (zv (wr (pt s v) u k))), (36, .int .i64 ((v k : Nat) : Int)), (35, .pointer (some ((adq la).add (k * 1)))), (34, .int .i64 ((k : Nat) : Int)), (33, .slice la n lc), (31, .int .i64 ((v u : Nat) : Int)), (30, .pointer (some ((adq la).add (u * 1)))), (29, .int .i64 (u : Int)), (28, .slice la n lc), (27, vec (pr s)), (25, vec (pr s)), (24, .bool true), (23, .int .i64 (u : Int)), (22, .int .i64 ((k : Nat) : Int)), (19, .bool true), (18, .int .i64 ((n : Nat) : Int)), (17, .slice la n lc), (16, .int .i64 ((k : Nat) : Int)), (8, .int .i64 ((k : Nat) : Int)), (7, .pointer (some ⟨b3, 0, none⟩)), (15, vec (zv (1 : Zp s))), (12, .bool true), (11, .int .i64 ((n : Nat) : Int)), (10, .slice la n lc), (9, .int .i64 (u : Int)), (6, .int .i64 (u : Int)), (5, .slice ao u co), (4, .slice none 0 0), (2, .pointer (some ⟨b1, 0, none⟩)), (1, .slice la n lc)] a ∧ Sat no W [blk b3 [.int .u64 ((dg 0 (zv (wr (pt s v) u k)) : Nat) : Int), .int .u64 ((dg 1 (zv (wr (pt s v) u k)) : Nat) : Int), .int .u64 ((dg 2 (zv (wr (pt s v) u k)) : Nat) : Int), .int .u64 ((dg 3 (zv (wr (pt s v) u k)) : Nat) : Int)] 47, row 47 4 (.slice ao u co) u (en vq (fun i => zv (zinv (wr (pt s v) i n))) u), blk b1 [.int .u64 ((dg 0 (pr s) : Nat) : Int), .int .u64 ((dg 1 (pr s) : Nat) : Int), .int .u64 ((dg 2 (pr s) : Nat) : Int), .int .u64 ((dg 3 (pr s) : Nat) : Int)] 47] [lst 1 (.slice la n lc) n (en ic (fun i => ((v i : Nat) : Int)) n)] w ∧ okL [blk b1 [.int .u64 ((dg 0 (pr s) : Nat) : Int), .int .u64 ((dg 1 (pr s) : Nat) : Int), .int .u64 ((dg 2 (pr s) : Nat) : Int), .int .u64 ((dg 3 (pr s) : Nat) : Int)] 47, lst 1 (.slice la n lc) n (en ic (fun i => ((v i : Nat) : Int)) n)] w) ?_ ?_
          · intro hJ8191
            refine d_join (n2 := 4) 4095 (fun a w => Kn [] 47 [(32, vec (zv (pt s v u))), (26, vec (zv (wr (pt s v) u k))), (36, .int .i64 ((v k : Nat) : Int)), (35, .pointer (some ((adq la).add (k * 1)))), (34, .int .i64 ((k : Nat) : Int)), (33, .slice la n lc), (31, .int .i64 ((v u : Nat) : Int)), (30, .pointer (some ((adq la).add (u * 1)))), (29, .int .i64 (u : Int)), (28, .slice la n lc), (27, vec (pr s)), (25, vec (pr s)), (24, .bool true), (23, .int .i64 (u : Int)), (22, .int .i64 ((k : Nat) : Int)), (19, .bool true), (18, .int .i64 ((n : Nat) : Int)), (17, .slice la n lc), (16, .int .i64 ((k : Nat) : Int)), (8, .int .i64 ((k : Nat) : Int)), (7, .pointer (some ⟨b3, 0, none⟩)), (15, vec (zv (1 : Zp s))), (12, .bool true), (11, .int .i64 ((n : Nat) : Int)), (10, .slice la n lc), (9, .int .i64 (u : Int)), (6, .int .i64 (u : Int)), (5, .slice ao u co), (4, .slice none 0 0), (2, .pointer (some ⟨b1, 0, none⟩)), (1, .slice la n lc)] a ∧ Sat no W [blk b3 [.int .u64 ((dg 0 (zv (wr (pt s v) u k)) : Nat) : Int), .int .u64 ((dg 1 (zv (wr (pt s v) u k)) : Nat) : Int), .int .u64 ((dg 2 (zv (wr (pt s v) u k)) : Nat) : Int), .int .u64 ((dg 3 (zv (wr (pt s v) u k)) : Nat) : Int)] 47, row 47 4 (.slice ao u co) u (en vq (fun i => zv (zinv (wr (pt s v) i n))) u), blk b1 [.int .u64 ((dg 0 (pr s) : Nat) : Int), .int .u64 ((dg 1 (pr s) : Nat) : Int), .int .u64 ((dg 2 (pr s) : Nat) : Int), .int .u64 ((dg 3 (pr s) : Nat) : Int)] 47] [lst 1 (.slice la n lc) n (en ic (fun i => ((v i : Nat) : Int)) n)] w ∧ okL [blk b1 [.int .u64 ((dg 0 (pr s) : Nat) : Int), .int .u64 ((dg 1 (pr s) : Nat) : Int), .int .u64 ((dg 2 (pr s) : Nat) : Int), .int .u64 ((dg 3 (pr s) : Nat) : Int)] 47, lst 1 (.slice la n lc) n (en ic (fun i => ((v i : Nat) : Int)) n)] w) ?_ ?_
            · intro hJ4095
              refine d_v 0 1 hk hL rfl (by kernel_rfl) rfl rfl (fun w hL => w_ldv (z := pr s) rfl ty47 (.blk (n := 4) (hL.at 0 rfl) rfl)) fun a hk => ?_
              refine d_v 2 5 hk hL rfl (by kernel_rfl) rfl rfl (fun w hL => w_ldv (z := pr s) rfl ty47 (.blk (n := 4) (hL.at 0 rfl) rfl)) fun a hk => ?_
              refine d_v 3 13 hk hL rfl (by kernel_rfl) rfl rfl (fun w hL => w_mv rfl) fun a hk => ?_
              refine d_v 4 29 hk hL rfl (by kernel_rfl) rfl rfl (fun w hL => w_mv rfl) fun a hk => ?_
              refine d_v 5 61 hk hL rfl (by kernel_rfl) rfl rfl (fun w hL => w_iaL (k := u) rfl rfl Tryz.underlying34 ty3 (hL.at 1 rfl) (by omega) (by omega)) fun a hk => ?_
              refine d_v 6 125 hk hL rfl (by kernel_rfl) rfl rfl (fun w hL => w_ld1 rfl ty3 (lstq (k := u) (hL.at 1 rfl) (by omega) (en_chunk ic_len (by omega)))) fun a hk => ?_
              refine d_v 8 381 hk hL rfl (by kernel_rfl) rfl rfl (fun w hL => w_mv rfl) fun a hk => ?_
              refine d_v 9 893 hk hL rfl (by kernel_rfl) rfl rfl (fun w hL => w_mv rfl) fun a hk => ?_
              refine d_v 10 1917 hk hL rfl (by kernel_rfl) rfl rfl (fun w hL => w_iaL (k := k) rfl rfl Tryz.underlying34 ty3 (hL.at 1 rfl) (by omega) (by omega)) fun a hk => ?_
              refine d_v 11 3965 hk hL rfl (by kernel_rfl) rfl rfl (fun w hL => w_ld1 rfl ty3 (lstq (k := k) (hL.at 1 rfl) (by omega) (en_chunk ic_len (by omega)))) fun a hk => ?_
              refine d_2 1 7 3967 4093 rfl rfl (by kernel_rfl) (fun K hK => ?_) (fun K hK => ?_)
              · skip
                refine q_val hk (w_ldv (z := zv (wr (pt s v) u k)) rfl ty47 (.blk (n := 4) (hs.mi 0 rfl) rfl)) rfl rfl rfl fun a hk => ?_
                have hL := okL.cons (hs.mi 2 rfl) (okL.cons (hs.ri 0 rfl) okL.nil)
                refine c_end (x_t (hK _ _ hL ?_))
                clear hK K
                refine d_1 7 4095 rfl (by kernel_rfl) fun K hK => ?_
                refine q_call (caps := []) hk rfl rfl Tryz.func93 fo93 rfl rfl (rpoint_z s (v u) _ (hv u (by omega)).2) ?_
                rintro _ w ⟨rfl, hb⟩
                have hs := hs.below hb
                refine ⟨_, rfl, fun a hk => ?_⟩
                have hL := okL.cons (hs.mi 2 rfl) (okL.cons (hs.ri 0 rfl) okL.nil)
                refine c_end (x_t (hK _ _ hL ?_))
                clear hK K
                have hL := okL.cons (hs.mi 2 rfl) (okL.cons (hs.ri 0 rfl) okL.nil)
                exact hJ4095 _ _ ⟨hk.k rfl (hk.k rfl (hk.k rfl (hk.k rfl (hk.k rfl (hk.k rfl (hk.k rfl (hk.k rfl (hk.k rfl (hk.k rfl (hk.k rfl (hk.k rfl (hk.k rfl (hk.k rfl (hk.k rfl (hk.k rfl (hk.k rfl (hk.k rfl (hk.k rfl (hk.k rfl (hk.k rfl (hk.k rfl (hk.k rfl (hk.k rfl (hk.k rfl (hk.k rfl (hk.k rfl (hk.k rfl (hk.k rfl (hk.k rfl (hk.k rfl hk.nil)))))))))))))))))))))))))))))), hs, hL⟩
              · skip
                refine q_call (caps := []) hk rfl rfl Tryz.func93 fo93 rfl rfl (rpoint_z s (v u) _ (hv u (by omega)).2) ?_
                rintro _ w ⟨rfl, hb⟩
                have hs := hs.below hb
                refine ⟨_, rfl, fun a hk => ?_⟩
                have hL := okL.cons (hs.mi 2 rfl) (okL.cons (hs.ri 0 rfl) okL.nil)
                refine c_end (x_t (hK _ _ hL ?_))
                clear hK K
                refine d_2 1 12 4095 8189 rfl rfl (by kernel_rfl) (fun K hK => ?_) (fun K hK => ?_)
                · skip
                  refine q_val hk (w_ldv (z := zv (wr (pt s v) u k)) rfl ty47 (.blk (n := 4) (hs.mi 0 rfl) rfl)) rfl rfl rfl fun a hk => ?_
                  have hL := okL.cons (hs.mi 2 rfl) (okL.cons (hs.ri 0 rfl) okL.nil)
                  refine c_end (x_t (hK _ _ hL ?_))
                  clear hK K
                  have hL := okL.cons (hs.mi 2 rfl) (okL.cons (hs.ri 0 rfl) okL.nil)
                  exact hJ4095 _ _ ⟨hk.k rfl (hk.k rfl (hk.k rfl (hk.k rfl (hk.k rfl (hk.k rfl (hk.k rfl (hk.k rfl (hk.k rfl (hk.k rfl (hk.k rfl (hk.k rfl (hk.k rfl (hk.k rfl (hk.k rfl (hk.k rfl (hk.k rfl (hk.k rfl (hk.k rfl (hk.k rfl (hk.k rfl (hk.k rfl (hk.k rfl (hk.k rfl (hk.k rfl (hk.k rfl (hk.k rfl (hk.k rfl (hk.k rfl (hk.k rfl (hk.k rfl hk.nil)))))))))))))))))))))))))))))), hs, hL⟩
                · skip
                  refine q_call (caps := []) hk rfl rfl Tryz.func93 fo93 rfl rfl (rpoint_z s (v k) _ (hv k (by omega)).2) ?_
                  rintro _ w ⟨rfl, hb⟩
                  have hs := hs.below hb
                  refine ⟨_, rfl, fun a hk => ?_⟩
                  have hL := okL.cons (hs.mi 2 rfl) (okL.cons (hs.ri 0 rfl) okL.nil)
                  refine c_end (x_t (hK _ _ hL ?_))
                  clear hK K
                  refine d_2 1 13 8191 16381 rfl rfl (by kernel_rfl) (fun K hK => ?_) (fun K hK => ?_)
                  · skip
                    refine q_val hk (w_ldv (z := zv (wr (pt s v) u k)) rfl ty47 (.blk (n := 4) (hs.mi 0 rfl) rfl)) rfl rfl rfl fun a hk => ?_
                    have hL := okL.cons (hs.mi 2 rfl) (okL.cons (hs.ri 0 rfl) okL.nil)
                    refine c_end (x_t (hK _ _ hL ?_))
                    clear hK K
                    have hL := okL.cons (hs.mi 2 rfl) (okL.cons (hs.ri 0 rfl) okL.nil)
                    exact hJ8191 _ _ ⟨hk.k rfl (hk.k rfl (hk.k rfl (hk.k rfl (hk.k rfl (hk.k rfl (hk.k rfl (hk.k rfl (hk.k rfl (hk.k rfl (hk.k rfl (hk.k rfl (hk.k rfl (hk.k rfl (hk.k rfl (hk.k rfl (hk.k rfl (hk.k rfl (hk.k rfl (hk.k rfl (hk.k rfl (hk.k rfl (hk.k rfl (hk.k rfl (hk.k rfl (hk.k rfl (hk.k rfl (hk.k rfl (hk.k rfl (hk.k rfl (hk.k rfl (hk.k rfl hk.nil))))))))))))))))))))))))))))))), hs, hL⟩
                  · skip
                    refine q_call (caps := []) hk rfl rfl Tryz.func131 fo131 rfl rfl (rsub_z (x := (pt s v u)) (y := (pt s v k)) _ rfl rfl) ?_
                    rintro _ w ⟨rfl, hb⟩
                    have hs := hs.below hb
                    refine ⟨_, rfl, fun a hk => ?_⟩
                    have hL := okL.cons (hs.mi 2 rfl) (okL.cons (hs.ri 0 rfl) okL.nil)
                    refine c_end (x_t (hK _ _ hL ?_))
                    clear hK K
                    refine d_1 1 16383 rfl (by kernel_rfl) fun K hK => ?_
                    refine q_val hk (w_ldv (z := zv (wr (pt s v) u k)) rfl ty47 (.blk (n := 4) (hs.mi 0 rfl) rfl)) rfl rfl rfl fun a hk => ?_
                    have hL := okL.cons (hs.mi 2 rfl) (okL.cons (hs.ri 0 rfl) okL.nil)
                    refine c_end (x_t (hK _ _ hL ?_))
                    clear hK K
                    have hL := okL.cons (hs.mi 2 rfl) (okL.cons (hs.ri 0 rfl) okL.nil)
                    exact hJ16383 _ _ ⟨hk.k rfl (hk.k rfl (hk.k rfl (hk.k rfl (hk.k rfl (hk.k rfl (hk.k rfl (hk.k rfl (hk.k rfl (hk.k rfl (hk.k rfl (hk.k rfl (hk.k rfl (hk.k rfl (hk.k rfl (hk.k rfl (hk.k rfl (hk.k rfl (hk.k rfl (hk.k rfl (hk.k rfl (hk.k rfl (hk.k rfl (hk.k rfl (hk.k rfl (hk.k rfl (hk.k rfl (hk.k rfl (hk.k rfl (hk.k rfl (hk.k rfl (hk.k rfl (hk.k rfl hk.nil)))))))))))))))))))))))))))))))), hs, hL⟩
            · rintro a w ⟨hk, hs, hL⟩
              refine d_1 12 8191 rfl (by kernel_rfl) fun K hK => ?_
              refine q_call (caps := []) hk rfl rfl Tryz.func93 fo93 rfl rfl (rpoint_z s (v k) _ (hv k (by omega)).2) ?_
              rintro _ w ⟨rfl, hb⟩
              have hs := hs.below hb
              refine ⟨_, rfl, fun a hk => ?_⟩
              have hL := okL.cons (hs.mi 2 rfl) (okL.cons (hs.ri 0 rfl) okL.nil)
              refine c_end (x_t (hK _ _ hL ?_))
              clear hK K
              have hL := okL.cons (hs.mi 2 rfl) (okL.cons (hs.ri 0 rfl) okL.nil)
              exact hJ8191 _ _ ⟨hk.k rfl (hk.k rfl (hk.k rfl (hk.k rfl (hk.k rfl (hk.k rfl (hk.k rfl (hk.k rfl (hk.k rfl (hk.k rfl (hk.k rfl (hk.k rfl (hk.k rfl (hk.k rfl (hk.k rfl (hk.k rfl (hk.k rfl (hk.k rfl (hk.k rfl (hk.k rfl (hk.k rfl (hk.k rfl (hk.k rfl (hk.k rfl (hk.k rfl (hk.k rfl (hk.k rfl (hk.k rfl (hk.k rfl (hk.k rfl (hk.k rfl (hk.k rfl hk.nil))))))))))))))))))))))))))))))), hs, hL⟩
          · rintro a w ⟨hk, hs, hL⟩
            refine d_1 13 16383 rfl (by kernel_rfl) fun K hK => ?_
            refine q_call (caps := []) hk rfl rfl Tryz.func131 fo131 rfl rfl (rsub_z (x := (pt s v u)) (y := (pt s v k)) _ rfl rfl) ?_
            rintro _ w ⟨rfl, hb⟩
            have hs := hs.below hb
            refine ⟨_, rfl, fun a hk => ?_⟩
            have hL := okL.cons (hs.mi 2 rfl) (okL.cons (hs.ri 0 rfl) okL.nil)
            refine c_end (x_t (hK _ _ hL ?_))
            clear hK K
            have hL := okL.cons (hs.mi 2 rfl) (okL.cons (hs.ri 0 rfl) okL.nil)
            exact hJ16383 _ _ ⟨hk.k rfl (hk.k rfl (hk.k rfl (hk.k rfl (hk.k rfl (hk.k rfl (hk.k rfl (hk.k rfl (hk.k rfl (hk.k rfl (hk.k rfl (hk.k rfl (hk.k rfl (hk.k rfl (hk.k rfl (hk.k rfl (hk.k rfl (hk.k rfl (hk.k rfl (hk.k rfl (hk.k rfl (hk.k rfl (hk.k rfl (hk.k rfl (hk.k rfl (hk.k rfl (hk.k rfl (hk.k rfl (hk.k rfl (hk.k rfl (hk.k rfl (hk.k rfl (hk.k rfl hk.nil)))))))))))))))))))))))))))))))), hs, hL⟩
        · rintro a w ⟨hk, hs, hL⟩
          refine d_1 14 32767 rfl (by kernel_rfl) fun K hK => ?_
          refine q_call (caps := []) hk rfl rfl Tryz.func66 fo66 rfl rfl (rmul_z (x := (wr (pt s v) u k)) (y := ((pt s v u) - (pt s v k))) _ rfl rfl) ?_
          rintro _ w ⟨rfl, hb⟩
          have hs := hs.below hb
          refine ⟨_, rfl, fun a hk => ?_⟩
          have hL := okL.cons (hs.mi 2 rfl) (okL.cons (hs.ri 0 rfl) okL.nil)
          refine c_end (x_t (hK _ _ hL ?_))
          clear hK K
          refine d_1 15 65535 rfl (by kernel_rfl) fun K hK => ?_
          refine q_sto (o := 0) (cs := [.int .u64 ((dg 0 (zv ((wr (pt s v) u k) * ((pt s v u) - (pt s v k)))) : Nat) : Int), .int .u64 ((dg 1 (zv ((wr (pt s v) u k) * ((pt s v u) - (pt s v k)))) : Nat) : Int), .int .u64 ((dg 2 (zv ((wr (pt s v) u k) * ((pt s v u) - (pt s v k)))) : Nat) : Int), .int .u64 ((dg 3 (zv ((wr (pt s v) u k) * ((pt s v u) - (pt s v k)))) : Nat) : Int)]) (vs' := [.int .u64 ((dg 0 (zv ((wr (pt s v) u k) * ((pt s v u) - (pt s v k)))) : Nat) : Int), .int .u64 ((dg 1 (zv ((wr (pt s v) u k) * ((pt s v u) - (pt s v k)))) : Nat) : Int), .int .u64 ((dg 2 (zv ((wr (pt s v) u k) * ((pt s v u) - (pt s v k)))) : Nat) : Int), .int .u64 ((dg 3 (zv ((wr (pt s v) u k) * ((pt s v u) - (pt s v k)))) : Nat) : Int)]) hk hs rfl rfl rfl ty47 rfl rfl rfl rfl rfl rfl fun w hs => ?_
          have hL := okL.cons (hs.mi 2 rfl) (okL.cons (hs.ri 0 rfl) okL.nil)
          refine c_end (x_t (hK _ _ hL ?_))
          clear hK K
          refine d_end (by kernel_rfl) ?_
          refine (x_b (x_t ?_))
          refine wpIn_region_lit ?_
          refine q_val hk (w_mv rfl) rfl rfl rfl fun a hk => ?_
          refine q_val hk (w_add rfl rfl (wr64 (by omega) (by omega))) rfl rfl rfl fun a hk => ?_
          refine q_val hk (w_as rfl) rfl rfl rfl fun a hk => ?_
          refine (c_end (x_t ?_))
          have hs := hs.rw0 (congrArg (fun q => blk b3 (vq (zv q)) 47) (wr_ne (x := pt s v) (u := u) (k := k) (by omega)))
          exact ⟨k + 1, ⟨(by omega), hk.k rfl (hk.k rfl (hk.k rfl (hk.k rfl (hk.k rfl (hk.k rfl (hk.k rfl (hk.k rfl (hk.k rfl (hk.k rfl (hk.k rfl (hk.k rfl hk.nil))))))))))), hs⟩, by omega⟩
      · skip
        refine q_val hk (w_ne rfl rfl (decide_eq_false hc5)) rfl rfl rfl fun a hk => ?_
        refine (c_end (x_t ?_))
        refine c_F hk rfl ?_
        refine (wpIn_skip (x_b (x_t ?_)))
        refine wpIn_region_lit ?_
        refine q_val hk (w_mv rfl) rfl rfl rfl fun a hk => ?_
        refine q_val hk (w_add rfl rfl (wr64 (by omega) (by omega))) rfl rfl rfl fun a hk => ?_
        refine q_val hk (w_as rfl) rfl rfl rfl fun a hk => ?_
        refine (c_end (x_t ?_))
        have hs := hs.rw0 (congrArg (fun q => blk b3 (vq (zv q)) 47) (wr_eq (x := pt s v) (u := u) (k := k) (by omega)))
        exact ⟨k + 1, ⟨(by omega), hk.k rfl (hk.k rfl (hk.k rfl (hk.k rfl (hk.k rfl (hk.k rfl (hk.k rfl (hk.k rfl (hk.k rfl (hk.k rfl (hk.k rfl (hk.k rfl hk.nil))))))))))), hs⟩, by omega⟩
    · skip
      have hkn : k = n := by omega
      rw [hkn] at hs
      refine q_val hk (w_lt rfl rfl (decide_eq_false hc4)) rfl rfl rfl fun a hk => ?_
      refine (c_end (x_t ?_))
      refine c_F hk rfl ?_
      refine (wpIn_exit (x_te (x_te (x_be ?_))))
      refine (x_t ?_)
      refine wpIn_region_lit ?_
      refine q_val hk (w_mv rfl) rfl rfl rfl fun a hk => ?_
      refine q_val hk (w_ldv (z := pr s) rfl ty47 (.blk (n := 4) (hs.mi 2 rfl) rfl)) rfl rfl rfl fun a hk => ?_
      refine q_val hk (w_ldv (z := zv (wr (pt s v) u n)) rfl ty47 (.blk (n := 4) (hs.mi 0 rfl) rfl)) rfl rfl rfl fun a hk => ?_
      refine q_call (caps := []) hk rfl rfl Tryz.func157 fo157 rfl rfl (rinv_z s (wr (pt s v) u n) _) ?_
      rintro _ w ⟨rfl, hb⟩
      have hs := hs.below hb
      refine ⟨_, rfl, fun a hk => ?_⟩
      refine q_bsl (els := [.tmp 43]) (cs := [.int .u64 ((dg 0 (zv (zinv (wr (pt s v) u n))) : Nat) : Int), .int .u64 ((dg 1 (zv (zinv (wr (pt s v) u n))) : Nat) : Int), .int .u64 ((dg 2 (zv (zinv (wr (pt s v) u n))) : Nat) : Int), .int .u64 ((dg 3 (zv (zinv (wr (pt s v) u n))) : Nat) : Int)]) hk hs rfl Tryz.underlying72 ty47 zr47 rfl rfl rfl rfl rfl rfl rfl fun b6 w a hk hs => ?_
      have hs := hs.up2
      refine q_app (news := [.int .u64 ((dg 0 (zv (zinv (wr (pt s v) u n))) : Nat) : Int), .int .u64 ((dg 1 (zv (zinv (wr (pt s v) u n))) : Nat) : Int), .int .u64 ((dg 2 (zv (zinv (wr (pt s v) u n))) : Nat) : Int), .int .u64 ((dg 3 (zv (zinv (wr (pt s v) u n))) : Nat) : Int)]) (m := 1) hk hs rfl rfl Tryz.underlying72 ty47 zr47 rfl rfl (.blk (n := 4) (hs.mi 1 rfl) rfl) rfl rfl (by omega) (by omega) rfl rfl fun a7 c8 w a hk hs => ?_
      have hs := hs.up1
      have hs := hs.drop
      refine q_val hk (w_as rfl) rfl rfl rfl fun a hk => ?_
      refine (c_end (x_b (x_t ?_)))
      refine wpIn_region_lit ?_
      refine q_val hk (w_mv rfl) rfl rfl rfl fun a hk => ?_
      refine q_val hk (w_add rfl rfl (wr64 (by omega) (by omega))) rfl rfl rfl fun a hk => ?_
      refine q_val hk (w_as rfl) rfl rfl rfl fun a hk => ?_
      refine (c_end (x_t ?_))
      have hs := hs.rw0 (congrArg _ en_succ)
      have hs := hs.up1
      have hs := hs.drop
      exact ⟨u + 1, ⟨_, _, (by omega), hk.k rfl (hk.k rfl (hk.k rfl (hk.k rfl (hk.k rfl hk.nil)))), hs⟩, by omega⟩
  · skip
    refine q_val hk (w_lt rfl rfl (decide_eq_false hc2)) rfl rfl rfl fun a hk => ?_
    refine (c_end (x_t ?_))
    refine c_F hk rfl ?_
    refine (wpIn_exit (x_te (x_te (x_be ?_))))
    refine (x_t ?_)
    refine wpIn_seq ?_
    refine wpIn_region_lit ?_
    refine q_val hk (w_mv rfl) rfl rfl rfl fun a hk => ?_
    refine q_val hk (w_as rfl) rfl rfl rfl fun a hk => ?_
    refine (c_end (x_t ?_))
    refine (wpIn_ret ?_)
    refine c_ret1 hk rfl rfl ?_
    have hs := hs.up1
    have hs := hs.drop
    have hun : u = n := by omega
    rw [hun] at hs ⊢
    exact ⟨_, _, rfl, hs.fin⟩
end Go.Proofs.YtdnkkbmpefhbjaaGreatDoor
namespace Go.Proofs.YtdnkkbmpefhbjaaGreatDoor
set_option linter.all false
open Go Go.RowKit Alg
def rln (u k : Nat) : Nat := if u < k then k else k + 1
/-- The polynomial of one point, after k factors. -/
def rcf {s : Bool} (x y : Nat → Zp s) (n u : Nat) : Nat → Nat → Zp s
  | 0 => fun _ => zinv (wr x u n) * y u
  | k + 1 => if k = u then rcf x y n u k else mall (rcf x y n u k) (lin (x k)) 2 (rln u k)
/-- Their sum. -/
def rip {s : Bool} (x y : Nat → Zp s) (n : Nat) : Nat → Nat → Zp s
  | 0 => fun _ => 0
  | u + 1 => fun i => rip x y n u i + rcf x y n u n i
section
variable {s : Bool} {x y : Nat → Zp s} {n u k : Nat}
theorem rcf_zero : vq (zv (zinv (wr x u n) * y u)) = en vq (fun i => zv (rcf x y n u 0 i)) (rln u 0) := by
  unfold rln
  rw [if_neg (Nat.not_lt_zero u)]
  show _ = vq _ ++ []
  rw [List.append_nil]
  rfl
theorem rln_eq (h : k = u) : rln u k = rln u (k + 1) := by unfold rln; rw [if_neg (by omega), if_pos (by omega)]
theorem rln_ne (h : ¬ k = u) : rln u k + 2 - 1 = rln u (k + 1) := by
  unfold rln
  by_cases l : u < k
  · rw [if_pos l, if_pos (by omega)]; omega
  · rw [if_neg l, if_neg (by omega)]; omega
theorem rcf_eq (h : k = u) : rcf x y n u k = rcf x y n u (k + 1) := by show _ = if k = u then _ else _; rw [if_pos h]
theorem rcf_ne (h : ¬ k = u) : mall (rcf x y n u k) (lin (x k)) 2 (rln u k) = rcf x y n u (k + 1) := by show _ = if k = u then _ else _; rw [if_neg h]
theorem rln_le (hk : k < n) : rln u k ≤ n := by unfold rln; split <;> omega
theorem rln_end (h : u < n) : rln u n = n := if_pos h
theorem rip_zero {m : Nat} : en vq (fun _ => 0) m = en vq (fun j => zv (rip x y n 0 j)) m := en_congr fun i _ => by show 0 = zv (0 : Zp s); rw [zv_zero]
theorem linv_two {y : Zp s} : vq (zv (0 - y)) ++ vq 1 = en vq (fun i => zv (lin y i)) 2 := by
  show _ = vq (zv (0 - y)) ++ (vq (zv (1 : Zp s)) ++ [])
  rw [zv_one, List.append_nil]
end
theorem rinterp_z (s : Bool) (n lc yc : Nat) (la ya : Option Addr) (v : Nat → Nat) (py : Nat → Zp s) (W : World) (HX : LstAt W 1 (.slice la n lc) n (en ic (fun i => ((v i : Nat) : Int)) n)) (HY : LstAt W 4 (.slice ya n yc) n (en vq (fun i => zv (py i)) n)) (hn : n ≤ 255) (hv : ∀ i, i < n → 1 ≤ v i ∧ v i ≤ 255) : Calls Tryz.prog 94 [vec (pr s), .slice la n lc, .slice ya n yc].toArray W fun e w => ∃ o, e = .returned (.slice (some ⟨o, 0, none⟩) n n) ∧ Sat no W [blk o (en vq (fun i => zv (rip (pt s v) py n n i)) n) 47] [] w := by
  refine c_enter (args := [vec (pr s), .slice la n lc, .slice ya n yc]) Tryz.func94 rfl rfl rfl fun a hk => ?_
  have hs := Sat.start W [lst 1 (.slice la n lc) n (en ic (fun i => ((v i : Nat) : Int)) n), lst 4 (.slice ya n yc) n (en vq (fun i => zv (py i)) n)] (okrc HX (okr1 HY))
  refine wpIn_seq ?_
  refine wpIn_region_lit ?_
  refine q_box (vs := [.int .u64 ((dg 0 (pr s) : Nat) : Int), .int .u64 ((dg 1 (pr s) : Nat) : Int), .int .u64 ((dg 2 (pr s) : Nat) : Int), .int .u64 ((dg 3 (pr s) : Nat) : Int)]) hk hs rfl rfl rfl rfl fun b1 w a hk hs => ?_
  refine q_val hk (w_as rfl) rfl rfl rfl fun a hk => ?_
  refine (c_end (x_t ?_))
  refine wpIn_seq ?_
  refine wpIn_region_lit ?_
  refine q_val hk (w_ldv (z := pr s) rfl ty47 (.blk (n := 4) (hs.mi 0 rfl) rfl)) rfl rfl rfl fun a hk => ?_
  refine q_val hk (w_mv rfl) rfl rfl rfl fun a hk => ?_
  refine q_call (caps := []) hk rfl rfl Tryz.func129 fo129 rfl rfl (rweights_z s n lc la v _ (hs.ri 0 rfl) hn hv) ?_
  rintro _ w ⟨a2, c3, rfl, hS⟩
  have hs := hs.call1 hS
  clear hS
  refine ⟨_, rfl, fun a hk => ?_⟩
  refine q_val hk (w_as rfl) rfl rfl rfl fun a hk => ?_
  refine (c_end (x_t ?_))
  refine wpIn_seq ?_
  refine wpIn_region_lit ?_
  refine q_val hk (w_mv rfl) rfl rfl rfl fun a hk => ?_
  refine q_val hk (w_len rfl Tryz.underlying34) rfl rfl rfl fun a hk => ?_
  refine q_mks (k := n) (cs := vq 0) hk hs rfl rfl Tryz.underlying72 ty47 zr47 (by kernel_rfl) rfl rfl rfl rfl (by omega) (by omega) rfl rfl fun b4 w a hk hs => ?_
  have hs := hs.rw0 (show _ = blk b4 (en vq (fun _ => 0) n) 47 from rfl)
  refine q_val hk (w_as rfl) rfl rfl rfl fun a hk => ?_
  refine (c_end (x_t ?_))
  refine wpIn_seq ?_
  refine wpIn_seq ?_
  refine wpIn_region_lit ?_
  refine q_val hk (w_as rfl) rfl rfl rfl fun a hk => ?_
  refine (c_end (x_t ?_))
  refine wpIn_block ?_
  have hs := hs.rw0 (congrArg (fun q => blk b4 q 47) (rip_zero (x := pt s v) (y := py) (n := n)))
  refine c_loop (α := Nat) (fun u a w => ∃ (ob : Nat), u ≤ n ∧ Kn [] 62 [(9, .int .i64 ((u : Nat) : Int)), (8, .slice (some ⟨ob, 0, none⟩) n n), (7, .slice a2 n c3), (6, .slice none 0 0), (3, .pointer (some ⟨b1, 0, none⟩)), (1, .slice la n lc), (2, .slice ya n yc)] a ∧ Sat no W [blk ob (en vq (fun i => zv (rip (pt s v) py n u i)) n) 47, row 47 4 (.slice a2 n c3) n (en vq (fun i => zv (zinv (wr (pt s v) i n))) n), blk b1 [.int .u64 ((dg 0 (pr s) : Nat) : Int), .int .u64 ((dg 1 (pr s) : Nat) : Int), .int .u64 ((dg 2 (pr s) : Nat) : Int), .int .u64 ((dg 3 (pr s) : Nat) : Int)] 47] [lst 1 (.slice la n lc) n (en ic (fun i => ((v i : Nat) : Int)) n), lst 4 (.slice ya n yc) n (en vq (fun i => zv (py i)) n)] w) (fun u => n - u) 0 ?_ ?_
  · exact ⟨_, (by omega), hk.k rfl (hk.k rfl (hk.k rfl (hk.k rfl (hk.k rfl (hk.k rfl (hk.k rfl hk.nil)))))), hs⟩
  rintro u a w ⟨ob, hf0, hk, hs⟩
  refine wpIn_seq ?_
  refine wpIn_seq ?_
  refine wpIn_region_lit ?_
  refine q_val hk (w_mv rfl) rfl rfl rfl fun a hk => ?_
  refine q_val hk (w_mv rfl) rfl rfl rfl fun a hk => ?_
  refine q_val hk (w_len rfl Tryz.underlying34) rfl rfl rfl fun a hk => ?_
  rcases Classical.em (((u : Nat) : Int) < ((n : Nat) : Int)) with hc5 | hc5
  · skip
    have hul : u < n := by omega
    refine q_val hk (w_lt rfl rfl (decide_eq_true hc5)) rfl rfl rfl fun a hk => ?_
    refine (c_end (x_t ?_))
    refine c_T hk rfl ?_
    refine (wpIn_skip (x_t ?_))
    refine wpIn_seq ?_
    refine wpIn_block ?_
    refine wpIn_seq ?_
    have hL := okL.cons (hs.mi 2 rfl) (okL.cons (hs.mi 1 rfl) (okL.cons (hs.ri 1 rfl) okL.nil))
    refine d_begin _ 12 (by kernel_rfl) rfl hs hL fun w hs hL => ?_
    refine d_v 0 1 hk hL rfl (by kernel_rfl) rfl rfl (fun w hL => w_ldv (z := pr s) rfl ty47 (.blk (n := 4) (hL.at 0 rfl) rfl)) fun a hk => ?_
    refine d_v 1 3 hk hL rfl (by kernel_rfl) rfl rfl (fun w hL => w_mv rfl) fun a hk => ?_
    refine d_v 2 7 hk hL rfl (by kernel_rfl) rfl rfl (fun w hL => w_mv rfl) fun a hk => ?_
    refine d_v 3 15 hk hL rfl (by kernel_rfl) rfl rfl (fun w hL => w_iaL (k := u) rfl rfl Tryz.underlying72 ty47 (row_lst (hL.at 1 rfl)) (by omega) (by omega)) fun a hk => ?_
    refine d_v 4 31 hk hL rfl (by kernel_rfl) rfl rfl (fun w hL => w_ldv (z := zv (zinv (wr (pt s v) u n))) rfl ty47 (lstq (k := u) (row_lst (hL.at 1 rfl)) (by omega) (en_chunk vq_len (by omega)))) fun a hk => ?_
    refine d_v 5 63 hk hL rfl (by kernel_rfl) rfl rfl (fun w hL => w_mv rfl) fun a hk => ?_
    refine d_v 6 127 hk hL rfl (by kernel_rfl) rfl rfl (fun w hL => w_mv rfl) fun a hk => ?_
    refine d_v 7 255 hk hL rfl (by kernel_rfl) rfl rfl (fun w hL => w_iaL (k := u) rfl rfl Tryz.underlying72 ty47 (hL.at 2 rfl) (by omega) (by omega)) fun a hk => ?_
    refine d_v 8 511 hk hL rfl (by kernel_rfl) rfl rfl (fun w hL => w_ldv (z := zv (py u)) rfl ty47 (lstq (k := u) (hL.at 2 rfl) (by omega) (en_chunk vq_len (by omega)))) fun a hk => ?_
    refine d_1 9 1023 rfl (by kernel_rfl) fun K hK => ?_
    refine q_call (caps := []) hk rfl rfl Tryz.func66 fo66 rfl rfl (rmul_z (x := (zinv (wr (pt s v) u n))) (y := (py u)) _ rfl rfl) ?_
    rintro _ w ⟨rfl, hb⟩
    have hs := hs.below hb
    refine ⟨_, rfl, fun a hk => ?_⟩
    have hL := okL.cons (hs.mi 2 rfl) (okL.cons (hs.mi 1 rfl) (okL.cons (hs.ri 1 rfl) okL.nil))
    refine c_end (x_t (hK _ _ hL ?_))
    clear hK K
    refine d_1 10 2047 rfl (by kernel_rfl) fun K hK => ?_
    refine q_bsl (els := [.tmp 33]) (cs := [.int .u64 ((dg 0 (zv ((zinv (wr (pt s v) u n)) * (py u))) : Nat) : Int), .int .u64 ((dg 1 (zv ((zinv (wr (pt s v) u n)) * (py u))) : Nat) : Int), .int .u64 ((dg 2 (zv ((zinv (wr (pt s v) u n)) * (py u))) : Nat) : Int), .int .u64 ((dg 3 (zv ((zinv (wr (pt s v) u n)) * (py u))) : Nat) : Int)]) hk hs rfl Tryz.underlying72 ty47 zr47 rfl rfl rfl rfl rfl rfl rfl fun b1_10 w a hk hs => ?_
    have hL := okL.cons (hs.mi 3 rfl) (okL.cons (hs.mi 2 rfl) (okL.cons (hs.ri 1 rfl) okL.nil))
    refine c_end (x_t (hK _ _ hL ?_))
    clear hK K
    refine d_v 11 4095 hk hL rfl (by kernel_rfl) rfl rfl (fun w hL => w_as rfl) fun a hk => ?_
    refine d_end (by kernel_rfl) ?_
    refine (x_t ?_)
    refine wpIn_seq ?_
    refine wpIn_seq ?_
    refine wpIn_region_lit ?_
    refine q_val hk (w_as rfl) rfl rfl rfl fun a hk => ?_
    refine (c_end (x_t ?_))
    refine wpIn_block ?_
    have hs := hs.rw0 (congrArg (fun q => blk b1_10 q 47) (rcf_zero (x := pt s v) (y := py) (n := n) (u := u)))
    refine c_loop (α := Nat) (fun k a w => ∃ (cb : Nat), k ≤ n ∧ Kn [] 62 [(11, .int .i64 ((k : Nat) : Int)), (10, .slice (some ⟨cb, 0, none⟩) (rln u k) (rln u k)), (34, .slice (some ⟨b1_10, 0, none⟩) (rln u 0) (rln u 0)), (33, vec (zv ((zinv (wr (pt s v) u n)) * (py u)))), (32, vec (zv (py u))), (30, .int .i64 ((u : Nat) : Int)), (29, .slice ya n yc), (28, vec (zv (zinv (wr (pt s v) u n)))), (26, .int .i64 ((u : Nat) : Int)), (25, .slice a2 n c3), (24, vec (pr s)), (21, .bool true), (20, .int .i64 ((n : Nat) : Int)), (19, .slice la n lc), (18, .int .i64 ((u : Nat) : Int)), (9, .int .i64 ((u : Nat) : Int)), (8, .slice (some ⟨ob, 0, none⟩) n n), (7, .slice a2 n c3), (6, .slice none 0 0), (3, .pointer (some ⟨b1, 0, none⟩)), (1, .slice la n lc), (2, .slice ya n yc)] a ∧ Sat no W [blk cb (en vq (fun i => zv (rcf (pt s v) py n u k i)) (rln u k)) 47, blk ob (en vq (fun i => zv (rip (pt s v) py n u i)) n) 47, row 47 4 (.slice a2 n c3) n (en vq (fun i => zv (zinv (wr (pt s v) i n))) n), blk b1 [.int .u64 ((dg 0 (pr s) : Nat) : Int), .int .u64 ((dg 1 (pr s) : Nat) : Int), .int .u64 ((dg 2 (pr s) : Nat) : Int), .int .u64 ((dg 3 (pr s) : Nat) : Int)] 47] [lst 1 (.slice la n lc) n (en ic (fun i => ((v i : Nat) : Int)) n), lst 4 (.slice ya n yc) n (en vq (fun i => zv (py i)) n)] w) (fun k => n - k) 0 ?_ ?_
    · exact ⟨_, (by omega), hk.k rfl (hk.k rfl (hk.k rfl (hk.k rfl (hk.k rfl (hk.k rfl (hk.k rfl (hk.k rfl (hk.k rfl (hk.k rfl (hk.k rfl (hk.k rfl (hk.k rfl (hk.k rfl (hk.k rfl (hk.k rfl (hk.k rfl (hk.k rfl (hk.k rfl (hk.k rfl (hk.k rfl (hk.k rfl hk.nil))))))))))))))))))))), hs⟩
    rintro k a w ⟨cb, hf0, hk, hs⟩
    refine wpIn_seq ?_
    refine wpIn_seq ?_
    refine wpIn_region_lit ?_
    refine q_val hk (w_mv rfl) rfl rfl rfl fun a hk => ?_
    refine q_val hk (w_mv rfl) rfl rfl rfl fun a hk => ?_
    refine q_val hk (w_len rfl Tryz.underlying34) rfl rfl rfl fun a hk => ?_
    rcases Classical.em (((k : Nat) : Int) < ((n : Nat) : Int)) with hc6 | hc6
    · skip
      have hrn := rln_le (u := u) (k := k) (n := n) (by omega)
      have hrl : 0 < rln u k := by unfold rln; split <;> omega
      refine q_val hk (w_lt rfl rfl (decide_eq_true hc6)) rfl rfl rfl fun a hk => ?_
      refine (c_end (x_t ?_))
      refine c_T hk rfl ?_
      refine (wpIn_skip (x_t ?_))
      refine wpIn_seq ?_
      refine wpIn_block ?_
      refine wpIn_seq ?_
      refine wpIn_region_lit ?_
      refine q_val hk (w_mv rfl) rfl rfl rfl fun a hk => ?_
      refine q_val hk (w_mv rfl) rfl rfl rfl fun a hk => ?_
      rcases Classical.em (((k : Nat) : Int) ≠ ((u : Nat) : Int)) with hc7 | hc7
      · skip
        refine q_val hk (w_ne rfl rfl (decide_eq_true hc7)) rfl rfl rfl fun a hk => ?_
        refine (c_end (x_t ?_))
        refine c_T hk rfl ?_
        have hL := okL.cons (hs.mi 3 rfl) (okL.cons (hs.ri 0 rfl) okL.nil)
        refine d_begin _ 14 (by kernel_rfl) rfl hs hL fun w hs hL => ?_
        refine d_v 0 1 hk hL rfl (by kernel_rfl) rfl rfl (fun w hL => w_ldv (z := pr s) rfl ty47 (.blk (n := 4) (hL.at 0 rfl) rfl)) fun a hk => ?_
        refine d_v 1 3 hk hL rfl (by kernel_rfl) rfl rfl (fun w hL => w_mv rfl) fun a hk => ?_
        refine d_v 2 7 hk hL rfl (by kernel_rfl) rfl rfl (fun w hL => w_ldv (z := pr s) rfl ty47 (.blk (n := 4) (hL.at 0 rfl) rfl)) fun a hk => ?_
        refine d_v 3 15 hk hL rfl (by kernel_rfl) rfl rfl (fun w hL => w_bldv0 Tryz.underlying47 ty46 zr47) fun a hk => ?_
        refine d_v 4 31 hk hL rfl (by kernel_rfl) rfl rfl (fun w hL => w_mv rfl) fun a hk => ?_
        refine d_v 5 63 hk hL rfl (by kernel_rfl) rfl rfl (fun w hL => w_mv rfl) fun a hk => ?_
        refine d_v 6 127 hk hL rfl (by kernel_rfl) rfl rfl (fun w hL => w_iaL (k := k) rfl rfl Tryz.underlying34 ty3 (hL.at 1 rfl) (by omega) (by omega)) fun a hk => ?_
        refine d_v 7 255 hk hL rfl (by kernel_rfl) rfl rfl (fun w hL => w_ld1 rfl ty3 (lstq (k := k) (hL.at 1 rfl) (by omega) (en_chunk ic_len (by omega)))) fun a hk => ?_
        refine d_v 10 1279 hk hL rfl (by kernel_rfl) rfl rfl (fun w hL => w_bldv1 (k := 1) rfl rfl (by decide) Tryz.underlying47 ty46 zr47) fun a hk => ?_
        refine d_1 8 1535 rfl (by kernel_rfl) fun K hK => ?_
        refine q_call (caps := []) hk rfl rfl Tryz.func93 fo93 rfl rfl (rpoint_z s (v k) _ (hv k (by omega)).2) ?_
        rintro _ w ⟨rfl, hb⟩
        have hs := hs.below hb
        refine ⟨_, rfl, fun a hk => ?_⟩
        have hL := okL.cons (hs.mi 3 rfl) (okL.cons (hs.ri 0 rfl) okL.nil)
        refine c_end (x_t (hK _ _ hL ?_))
        clear hK K
        refine d_1 9 2047 rfl (by kernel_rfl) fun K hK => ?_
        refine q_call (caps := []) hk rfl rfl Tryz.func131 fo131 rfl rfl (rsub_z (x := 0) (y := (pt s v k)) _ zv_zero.symm rfl) ?_
        rintro _ w ⟨rfl, hb⟩
        have hs := hs.below hb
        refine ⟨_, rfl, fun a hk => ?_⟩
        have hL := okL.cons (hs.mi 3 rfl) (okL.cons (hs.ri 0 rfl) okL.nil)
        refine c_end (x_t (hK _ _ hL ?_))
        clear hK K
        refine d_1 11 4095 rfl (by kernel_rfl) fun K hK => ?_
        refine q_bsl (els := [.tmp 53, .tmp 54]) (cs := [.int .u64 ((dg 0 (zv (0 - (pt s v k))) : Nat) : Int), .int .u64 ((dg 1 (zv (0 - (pt s v k))) : Nat) : Int), .int .u64 ((dg 2 (zv (0 - (pt s v k))) : Nat) : Int), .int .u64 ((dg 3 (zv (0 - (pt s v k))) : Nat) : Int), .int .u64 ((dg 0 1 : Nat) : Int), .int .u64 ((dg 1 1 : Nat) : Int), .int .u64 ((dg 2 1 : Nat) : Int), .int .u64 ((dg 3 1 : Nat) : Int)]) hk hs rfl Tryz.underlying72 ty47 zr47 rfl rfl rfl rfl rfl rfl rfl fun b2_11 w a hk hs => ?_
        have hs := hs.rw0 (congrArg (fun q => blk b2_11 q 47) (linv_two (y := pt s v k)))
        have hL := okL.cons (hs.mi 4 rfl) (okL.cons (hs.ri 0 rfl) okL.nil)
        refine c_end (x_t (hK _ _ hL ?_))
        clear hK K
        refine d_1 12 8191 rfl (by kernel_rfl) fun K hK => ?_
        refine q_call (caps := []) hk rfl rfl Tryz.func130 fo130 rfl rfl (rmulP_z s (rln u k) (rln u k) 2 2 _ _ (rcf (pt s v) py n u k) (lin (pt s v k)) _ (blk_lst (hs.mi 1 rfl) (en_len vq_len) (Nat.le_refl _)) (blk_lst (hs.mi 0 rfl) (en_len vq_len) (Nat.le_refl _)) hrl (by omega) (by omega) (by omega)) ?_
        rintro _ w ⟨b2_12, rfl, hS⟩
        have hs := hs.call1 hS
        clear hS
        refine ⟨_, rfl, fun a hk => ?_⟩
        have hL := okL.cons (hs.mi 5 rfl) (okL.cons (hs.ri 0 rfl) okL.nil)
        refine c_end (x_t (hK _ _ hL ?_))
        clear hK K
        refine d_v 13 16383 hk hL rfl (by kernel_rfl) rfl rfl (fun w hL => w_as rfl) fun a hk => ?_
        refine d_end (by kernel_rfl) ?_
        refine (x_b (x_t ?_))
        refine wpIn_region_lit ?_
        refine q_val hk (w_mv rfl) rfl rfl rfl fun a hk => ?_
        refine q_val hk (w_add rfl rfl (wr64 (by omega) (by omega))) rfl rfl rfl fun a hk => ?_
        refine q_val hk (w_as rfl) rfl rfl rfl fun a hk => ?_
        refine (c_end (x_t ?_))
        have hs := hs.up2
        have hs := hs.drop
        rw [rcf_ne (x := pt s v) (y := py) (n := n) (u := u) (k := k) (by omega), rln_ne (u := u) (k := k) (by omega)] at hs
        rw [rln_ne (u := u) (k := k) (by omega)] at hk
        have hs := hs.up1
        have hs := hs.drop
        exact ⟨k + 1, ⟨_, (by omega), hk.k rfl (hk.k rfl (hk.k rfl (hk.k rfl (hk.k rfl (hk.k rfl (hk.k rfl (hk.k rfl (hk.k rfl (hk.k rfl (hk.k rfl (hk.k rfl (hk.k rfl (hk.k rfl (hk.k rfl (hk.k rfl (hk.k rfl (hk.k rfl (hk.k rfl (hk.k rfl (hk.k rfl (hk.k rfl hk.nil))))))))))))))))))))), hs⟩, by omega⟩
      · skip
        refine q_val hk (w_ne rfl rfl (decide_eq_false hc7)) rfl rfl rfl fun a hk => ?_
        refine (c_end (x_t ?_))
        refine c_F hk rfl ?_
        refine (wpIn_skip (x_b (x_t ?_)))
        refine wpIn_region_lit ?_
        refine q_val hk (w_mv rfl) rfl rfl rfl fun a hk => ?_
        refine q_val hk (w_add rfl rfl (wr64 (by omega) (by omega))) rfl rfl rfl fun a hk => ?_
        refine q_val hk (w_as rfl) rfl rfl rfl fun a hk => ?_
        refine (c_end (x_t ?_))
        rw [rcf_eq (x := pt s v) (y := py) (n := n) (u := u) (k := k) (by omega), rln_eq (u := u) (k := k) (by omega)] at hs
        rw [rln_eq (u := u) (k := k) (by omega)] at hk
        exact ⟨k + 1, ⟨_, (by omega), hk.k rfl (hk.k rfl (hk.k rfl (hk.k rfl (hk.k rfl (hk.k rfl (hk.k rfl (hk.k rfl (hk.k rfl (hk.k rfl (hk.k rfl (hk.k rfl (hk.k rfl (hk.k rfl (hk.k rfl (hk.k rfl (hk.k rfl (hk.k rfl (hk.k rfl (hk.k rfl (hk.k rfl (hk.k rfl hk.nil))))))))))))))))))))), hs⟩, by omega⟩
    · skip
      have hkn : k = n := by omega
      have hrk : rln u k = n := by rw [hkn]; exact rln_end hul
      rw [hrk] at hs hk
      rw [hkn] at hs
      refine q_val hk (w_lt rfl rfl (decide_eq_false hc6)) rfl rfl rfl fun a hk => ?_
      refine (c_end (x_t ?_))
      refine c_F hk rfl ?_
      refine (wpIn_exit (x_te (x_te (x_be ?_))))
      refine (x_t ?_)
      refine wpIn_region_lit ?_
      refine q_val hk (w_ldv (z := pr s) rfl ty47 (.blk (n := 4) (hs.mi 3 rfl) rfl)) rfl rfl rfl fun a hk => ?_
      refine q_val hk (w_mv rfl) rfl rfl rfl fun a hk => ?_
      refine q_val hk (w_mv rfl) rfl rfl rfl fun a hk => ?_
      refine q_call (caps := []) hk rfl rfl Tryz.func132 fo132 rfl rfl (raddP_z s n n n _ _ (rip (pt s v) py n u) (rcf (pt s v) py n u n) _ (blk_lst (hs.mi 1 rfl) (en_len vq_len) (Nat.le_refl _)) (blk_lst (hs.mi 0 rfl) (en_len vq_len) (Nat.le_refl _)) (by omega)) ?_
      rintro _ w ⟨b8, rfl, hS⟩
      have hs := hs.call1 hS
      clear hS
      refine ⟨_, rfl, fun a hk => ?_⟩
      refine q_val hk (w_as rfl) rfl rfl rfl fun a hk => ?_
      refine (c_end (x_b (x_t ?_)))
      refine wpIn_region_lit ?_
      refine q_val hk (w_mv rfl) rfl rfl rfl fun a hk => ?_
      refine q_val hk (w_add rfl rfl (wr64 (by omega) (by omega))) rfl rfl rfl fun a hk => ?_
      refine q_val hk (w_as rfl) rfl rfl rfl fun a hk => ?_
      refine (c_end (x_t ?_))
      have hs := hs.up2
      have hs := hs.drop
      have hs := hs.up1
      have hs := hs.drop
      exact ⟨u + 1, ⟨_, (by omega), hk.k rfl (hk.k rfl (hk.k rfl (hk.k rfl (hk.k rfl (hk.k rfl (hk.k rfl hk.nil)))))), hs⟩, by omega⟩
  · skip
    refine q_val hk (w_lt rfl rfl (decide_eq_false hc5)) rfl rfl rfl fun a hk => ?_
    refine (c_end (x_t ?_))
    refine c_F hk rfl ?_
    refine (wpIn_exit (x_te (x_te (x_be ?_))))
    refine (x_t ?_)
    refine wpIn_seq ?_
    refine wpIn_region_lit ?_
    refine q_val hk (w_mv rfl) rfl rfl rfl fun a hk => ?_
    refine q_val hk (w_as rfl) rfl rfl rfl fun a hk => ?_
    refine (c_end (x_t ?_))
    refine (wpIn_ret ?_)
    refine c_ret1 hk rfl rfl ?_
    have hs := hs.up1
    have hs := hs.drop
    have hs := hs.up1
    have hs := hs.drop
    have hun : u = n := by omega
    rw [hun] at hs
    exact ⟨_, rfl, hs.fin⟩
end Go.Proofs.YtdnkkbmpefhbjaaGreatDoor
namespace Go.Proofs.YtdnkkbmpefhbjaaGreatDoor
set_option linter.all false
open Go.RowKit
/-- The number of the first n bytes, the least first. -/
def le (f : Nat → Nat) : Nat → Nat
  | 0 => 0
  | n + 1 => le f n + f n * 256 ^ n
theorem le_succ (f : Nat → Nat) (n : Nat) : le f (n + 1) = le f n + f n * 256 ^ n := rfl
theorem le_zero {f : Nat → Nat} (n m : Nat) (hz : ∀ j, n ≤ j → j < m → f j = 0) (hnm : n ≤ m) : le f m = le f n := by
  obtain ⟨k, rfl⟩ : ∃ k, m = n + k := ⟨m - n, by omega⟩
  induction k with
  | zero => rfl
  | succ k ih =>
    rw [← Nat.add_assoc, le_succ, ih (fun j h1 h2 => hz j h1 (by omega)) (by omega), hz (n + k) (by omega) (by omega)]
    simp
/-- Byte k of a number. -/
def byt (n k : Nat) : Nat := n / 256 ^ k % 256
end Go.Proofs.YtdnkkbmpefhbjaaGreatDoor
namespace Go.Proofs.YtdnkkbmpefhbjaaGreatDoor
set_option linter.all false
open Go.RowKit
end Go.Proofs.YtdnkkbmpefhbjaaGreatDoor
namespace Go.Proofs.YtdnkkbmpefhbjaaGreatDoor
set_option linter.all false
open Go.RowKit
/-- An array of 32 bytes. -/
structure Arr32 (A : Array Value) (f : Nat → Nat) : Prop where
  size : A.size = 32
  get : ∀ j, j < 32 → A[j]? = some (.int .u8 ((f j : Nat) : Int))
  lt : ∀ j, f j < 256
end Go.Proofs.YtdnkkbmpefhbjaaGreatDoor
namespace Go.Proofs.YtdnkkbmpefhbjaaGreatDoor
set_option linter.all false
open Go Go.RowKit
/-- n bytes lie behind ⟨b, off⟩. -/
structure BytesAt (w : World) (b off n : Nat) (f : Nat → Nat) : Prop where
  lt : ∀ j, f j < 256
  blk : b < w.heap.size
  cell : ∀ j, j < n → w.cell? ⟨b, off + j, none⟩ = some (.int .u8 ((f j : Nat) : Int))
theorem BytesAt.below {w w' : World} {b off n : Nat} {f : Nat → Nat} (h : BytesAt w b off n f) (hb : Below w.heap.size w w') : BytesAt w' b off n f :=
  ⟨h.lt, Nat.lt_of_lt_of_le h.blk hb.size, fun j hj => (hb.cell (p := ⟨b, off + j, none⟩) h.blk).trans (h.cell j hj)⟩
theorem BytesAt.part {w : World} {b off n : Nat} {f : Nat → Nat} (h : BytesAt w b off n f) (k m : Nat) (hk : k + m ≤ n) : BytesAt w b (off + k) m (fun j => f (k + j)) :=
  ⟨fun j => h.lt _, h.blk, fun j hj => by rw [Nat.add_assoc]; exact h.cell (k + j) (by omega)⟩
theorem BytesAt.take {w : World} {b off n : Nat} {f : Nat → Nat} (h : BytesAt w b off n f) (m : Nat) (hk : m ≤ n) : BytesAt w b off m f :=
  ⟨h.lt, h.blk, fun j hj => h.cell j (by omega)⟩
end Go.Proofs.YtdnkkbmpefhbjaaGreatDoor
namespace Go.Proofs.YtdnkkbmpefhbjaaGreatDoor
set_option linter.all false
open Go Go.RowKit
/-- The first n bytes of v. -/
def bl (v n : Nat) : List Value := (List.range n).map fun j => Value.int .u8 ((byt v j : Nat) : Int)
end Go.Proofs.YtdnkkbmpefhbjaaGreatDoor
namespace Go.Proofs.YtdnkkbmpefhbjaaGreatDoor
set_option linter.all false
open Go Go.RowKit
end Go.Proofs.YtdnkkbmpefhbjaaGreatDoor
namespace Go.Proofs.YtdnkkbmpefhbjaaGreatDoor
set_option linter.all false
open Go Go.RowKit
end Go.Proofs.YtdnkkbmpefhbjaaGreatDoor
namespace Go.Proofs.YtdnkkbmpefhbjaaGreatDoor
set_option linter.all false
open Go Go.RowKit
end Go.Proofs.YtdnkkbmpefhbjaaGreatDoor
namespace Go.Proofs.YtdnkkbmpefhbjaaGreatDoor
set_option linter.all false
open Go.RowKit
end Go.Proofs.YtdnkkbmpefhbjaaGreatDoor
namespace Go.Proofs.YtdnkkbmpefhbjaaGreatDoor
set_option linter.all false
open Go.RowKit
/-- A power of 256, named. -/
def un (r : Nat) : Nat := 256 ^ r
end Go.Proofs.YtdnkkbmpefhbjaaGreatDoor
namespace Go.Proofs.YtdnkkbmpefhbjaaGreatDoor
set_option linter.all false
open Go.RowKit
end Go.Proofs.YtdnkkbmpefhbjaaGreatDoor
namespace Go.Proofs.YtdnkkbmpefhbjaaGreatDoor
set_option linter.all false
open Go.RowKit
theorem rdc_lt {p v : Nat} (h : v < p) : rdc p v 0 = v := by unfold rdc; rw [if_pos ⟨h, rfl⟩]
theorem rdc_ne {p v : Nat} (hp : 0 < p) (hv : v < R4) (h : ¬ v < p) : rdc p v 0 ≠ v ∧ rdc p v 0 < R4 := by
  have e : rdc p v 0 = v - p := by
    unfold rdc; rw [if_neg (fun hh => h hh.1)]
    unfold subV
    have : (R4 : Nat) = R4 := rfl
    generalize R4 = R at *
    rw [show v + R - p = (v - p) + R by omega, Nat.add_mod_right, Nat.mod_eq_of_lt (by omega)]
  rw [e]
  omega
end Go.Proofs.YtdnkkbmpefhbjaaGreatDoor
namespace Go.Proofs.YtdnkkbmpefhbjaaGreatDoor
set_option linter.all false
open Go Go.RowKit
/-- A slice of n bytes, nil and empty ones let in. -/
structure SliceAt (w : World) (a : Option Addr) (n : Nat) (f : Nat → Nat) : Prop where
  lt : ∀ j, f j < 256
  at_ : n = 0 ∨ ∃ b off, a = some ⟨b, off, none⟩ ∧ BytesAt w b off n f
theorem SliceAt.below {w w' : World} {a : Option Addr} {n : Nat} {f : Nat → Nat} (h : SliceAt w a n f) (hb : Below w.heap.size w w') : SliceAt w' a n f :=
  ⟨h.lt, h.at_.imp id fun ⟨b, off, e, hB⟩ => ⟨b, off, e, hB.below hb⟩⟩
theorem SliceAt.pos {w : World} {a : Option Addr} {n : Nat} {f : Nat → Nat} (h : SliceAt w a n f) (hn : 0 < n) : ∃ b off, a = some ⟨b, off, none⟩ ∧ BytesAt w b off n f := h.at_.resolve_left (by omega)
theorem BytesAt.slice {w : World} {b off n : Nat} {f : Nat → Nat} (h : BytesAt w b off n f) : SliceAt w (some ⟨b, off, none⟩) n f := ⟨h.lt, .inr ⟨b, off, rfl, h⟩⟩
def fl (f : Nat → Nat) (n : Nat) : List Value := (List.range n).map fun j => Value.int .u8 ((f j : Nat) : Int)
end Go.Proofs.YtdnkkbmpefhbjaaGreatDoor
namespace Go.Proofs.YtdnkkbmpefhbjaaGreatDoor
set_option linter.all false
open Go Go.RowKit Go.Shelf
/-- The number of chunks of n bytes. -/
def cn (n : Int) : Nat := if 0 ≤ n ∧ n ≤ 65535 then ((n + 30) / 31).toNat else 0
theorem valid_c (n : Int) (w : World) : Calls Tryz.prog 122 #[.int .i64 n] w fun e w' => e = .returned (.bool (decide (0 ≤ n ∧ n ≤ 65535))) ∧ w = w' := by
  by_cases h0 : 0 ≤ n
  · by_cases h1 : n ≤ 65535
    · skip
      go_enter Tryz.func122, Tryz.ntmps122
      go_wp2
      go_ret
      exact ⟨by simp [h0, h1], rfl⟩
    · skip
      go_enter Tryz.func122, Tryz.ntmps122
      go_wp2
      go_ret
      exact ⟨by simp [h0]; omega, rfl⟩
  · have hd : decide (0 ≤ n ∧ n ≤ 65535) = false := by simp; omega
    go_enter Tryz.func122, Tryz.ntmps122
    go_wp2
    go_ret
    exact ⟨rfl, rfl⟩
theorem count_c (n : Int) (w : World) : Calls Tryz.prog 123 #[.int .i64 n] w fun e w' => e = .returned (.int .i64 (cn n : Int)) ∧ w = w' := by
  by_cases h : 0 ≤ n ∧ n ≤ 65535
  · have hd : decide (0 ≤ n ∧ n ≤ 65535) = true := by simpa using h
    obtain ⟨h0, h1⟩ := h
    go_enter Tryz.func123, Tryz.ntmps123
    go_wp2_with fail
    refine Calls.mono (valid_c n _) ?_
    rintro _ _ ⟨rfl, rfl⟩
    rw [hd]
    go_wp2_with fail
    go_ret
    refine ⟨?_, rfl⟩
    rw [show (cn n : Int) = (n + 30) / 31 by unfold cn; rw [if_pos ⟨h0, h1⟩]; omega]
    rw [show n + 31 - 1 = n + 30 by omega]
    rfl
  · have hd : decide (0 ≤ n ∧ n ≤ 65535) = false := by simpa using h
    have hc : cn n = 0 := by unfold cn; rw [if_neg h]
    go_enter Tryz.func123, Tryz.ntmps123
    go_wp2_with fail
    refine Calls.mono (valid_c n _) ?_
    rintro _ _ ⟨rfl, rfl⟩
    rw [hd]
    go_wp2_with fail
    go_ret
    exact ⟨by rw [hc]; rfl, rfl⟩
theorem cell?_block {w w' : World} {k : Nat} (h : w'.heap[k]? = w.heap[k]?) (j : Nat) : w'.cell? ⟨k, j, none⟩ = w.cell? ⟨k, j, none⟩ := by simp only [World.cell?, h]
end Go.Proofs.YtdnkkbmpefhbjaaGreatDoor
namespace Go.Proofs.YtdnkkbmpefhbjaaGreatDoor
set_option linter.all false
open Go Go.RowKit
/-- Block b holds these cells and nothing else. -/
def Blk (W : World) (b : Nat) (cs : Array Value) (T : TypeId) : Prop := W.heap[b]? = some (.cells cs T (0, 0))
theorem Blk.lt {W : World} {b : Nat} {cs : Array Value} {T : TypeId} (h : Blk W b cs T) : b < W.heap.size := (Array.getElem?_eq_some_iff.1 h).1
theorem Blk.same {W W' : World} {b : Nat} {cs : Array Value} {T : TypeId} (h : Blk W b cs T) (e : W'.heap[b]? = W.heap[b]?) : Blk W' b cs T := Eq.trans e h
theorem Blk.below {W W' : World} {B b : Nat} {cs : Array Value} {T : TypeId} (h : Blk W b cs T) (hb : Below B W W') (hB : b < B) : Blk W' b cs T := h.same (hb.block b hB)
theorem Blk.cell {W : World} {b j : Nat} {cs : Array Value} {T : TypeId} {v : Value} (h : Blk W b cs T) (hv : cs[j]? = some v) : W.cell? ⟨b, j, none⟩ = some v := by rw [cell_of_row W b j _ _ _ h]; exact hv
theorem Blk.new {W : World} {b : Nat} {cs : Array Value} {T : TypeId} (h : b = W.heap.size) : Blk (W.alloc (.cells cs T)) b cs T := by subst h; exact heap_alloc_new W _
theorem Blk.alloc {W : World} {b : Nat} {cs : Array Value} {T : TypeId} (h : Blk W b cs T) (o : Obj) : Blk (W.alloc o) b cs T := h.same (Below.heap_alloc W o b h.lt)
theorem Blk.set {W : World} {b : Nat} {v u : Value} {T : TypeId} (h : Blk W b #[v] T) : Blk (W.setCell ⟨b, 0, none⟩ u) b #[u] T := by
  unfold Blk
  rw [heap_setCell_same W b 0 _ T _ h]
  rfl
/-- Of the old blocks only p and the row r may have been written. -/
structure Wrote (w w' : World) (p : Nat) (r : Option Nat) : Prop where
  os : w'.os = w.os
  tape : w'.tape = w.tape
  output : w'.output = w.output
  size : w.heap.size ≤ w'.heap.size
  block : ∀ k, k < w.heap.size → k ≠ p → some k ≠ r → w'.heap[k]? = w.heap[k]?
theorem Wrote.refl (w : World) (p : Nat) (r : Option Nat) : Wrote w w p r := ⟨rfl, rfl, rfl, Nat.le_refl _, fun _ _ _ _ => rfl⟩
theorem Wrote.step {w a b : World} {p : Nat} {r : Option Nat} (h : Wrote w a p r) (hb : Below a.heap.size a b) : Wrote w b p r :=
  ⟨hb.os.trans h.os, hb.tape.trans h.tape, hb.output.trans h.output, Nat.le_trans h.size hb.size, fun k hk h1 h2 => (hb.block k (Nat.lt_of_lt_of_le hk h.size)).trans (h.block k hk h1 h2)⟩
theorem Wrote.set {w a : World} {p : Nat} {r : Option Nat} (h : Wrote w a p r) (j : Nat) (v : Value) : Wrote w (a.setCell ⟨p, j, none⟩ v) p r :=
  ⟨h.os, h.tape, h.output, by simpa [World.setCell] using h.size, fun k hk h1 h2 => (Below.heap_setCell _ _ _ _ h1).trans (h.block k hk h1 h2)⟩
theorem Wrote.grown {w a b : World} {p : Nat} {r : Option Nat} (h : Wrote w a p r) (hg : a.grownBy b r) : Wrote w b p r :=
  ⟨hg.os.trans h.os, hg.tape.trans h.tape, hg.output.trans h.output, Nat.le_trans h.size hg.size, fun k hk h1 h2 => (hg.block k (Nat.lt_of_lt_of_le hk h.size) h2).trans (h.block k hk h1 h2)⟩
theorem Wrote.below {w w' : World} {p C : Nat} {r : Option Nat} (h : Wrote w w' p r) (hC : C ≤ p) (hw : C ≤ w.heap.size) (hr : ∀ k, r = some k → C ≤ k) : Below C w w' :=
  ⟨h.os, h.tape, h.output, h.size, fun k hk => h.block k (by omega) (by omega) (fun e => by have := hr k e.symm; omega)⟩
end Go.Proofs.YtdnkkbmpefhbjaaGreatDoor
namespace Go.Proofs.YtdnkkbmpefhbjaaGreatDoor
set_option linter.all false
open Go Go.RowKit Go.Shelf
attribute [local go_sem] Oper.semAt_some
/-- The reference counts the same. -/
theorem refCount_c (n : Int) (hn : -9223372036854775808 ≤ n) (w : World) : Calls Tryz.prog 103 #[.int .i64 n] w fun e w' => e = .returned (.int .i64 (cn n : Int)) ∧ w = w' := by
  by_cases h1 : 65535 < n
  · have hc : cn n = 0 := by unfold cn; rw [if_neg (by omega)]
    go_enter Tryz.func103, Tryz.ntmps103
    go_wp2_with fail
    go_ret
    exact ⟨by rw [hc]; rfl, rfl⟩
  · skip
    go_enter Tryz.func103, Tryz.ntmps103
    go_wp2_with fail
    go_loop [0, 3] (fun x k => ∃ j : Nat, k = .int .i64 (j : Int) ∧ x = .int .i64 (n - 31 * (j : Int)) ∧ (j : Int) ≤ 2115 ∧ (0 < j → 0 < n - 31 * ((j : Int) - 1))) (fun x _ => (intOf x).toNat)
    case atStart => exact ⟨0, rfl, by simp, by omega, by omega⟩
    case round =>
      obtain ⟨j, rfl, rfl, hj, hp⟩ := hrel
      by_cases hlt : 0 < n - 31 * (j : Int)
      · go_wp2_with fail
        go_round
        case rel => exact ⟨j + 1, by go_num, by rw [show n - 31 * (j : Int) - 31 = n - 31 * ((j + 1 : Nat) : Int) by omega], by omega, fun _ => by omega⟩
        case measure => simp only [intOf]; omega
      · have hc : cn n = j := by unfold cn; by_cases h0 : 0 ≤ n
                                 · rw [if_pos ⟨h0, by omega⟩]; by_cases hz : j = 0
                                   · subst hz; omega
                                   · have := hp (by omega); omega
                                 · rw [if_neg (fun h => h0 h.1)]; by_cases hz : j = 0
                                   · omega
                                   · have := hp (by omega); omega
        go_wp2_with fail
        go_ret
        exact ⟨rfl, rfl⟩
end Go.Proofs.YtdnkkbmpefhbjaaGreatDoor
namespace Go.Proofs.YtdnkkbmpefhbjaaGreatDoor
set_option linter.all false
open Go Go.RowKit
/-- Half of a number modulo p. -/
def halfm (p a : Nat) : Nat := if a % 2 = 1 then (a + p) / 2 else a / 2
theorem halfm_two {p a : Nat} (hp : p % 2 = 1) : 2 * halfm p a = a ∨ 2 * halfm p a = a + p := by unfold halfm; split <;> omega
theorem halfm_lt {p a : Nat} (hp : p % 2 = 1) (ha : a < p) : halfm p a < p := by unfold halfm; split <;> omega
def halves (p a : Nat) : Nat → Nat | 0 => a | k + 1 => halfm p (halves p a k)
theorem halves_lt {p a : Nat} (hp : p % 2 = 1) (ha : a < p) : ∀ k, halves p a k < p | 0 => ha | k + 1 => halfm_lt hp (halves_lt hp ha k)
theorem halves_mod {p a : Nat} (hp : p % 2 = 1) : ∀ k, halves p a k * 2 ^ k % p = a % p
  | 0 => by simp [halves]
  | k + 1 => by
    have ih := halves_mod (p := p) (a := a) hp k
    have h : halves p a (k + 1) * 2 ^ (k + 1) = 2 * halfm p (halves p a k) * 2 ^ k := by
      show halfm p (halves p a k) * 2 ^ (k + 1) = _
      rw [Nat.pow_succ]; ac_rfl
    rw [h]
    rcases halfm_two (a := halves p a k) hp with e | e
    · rw [e]; exact ih
    · rw [e, Nat.add_mul, Nat.add_mul_mod_self_left]; exact ih
theorem dg_lt64 (k a : Nat) : dg k a < 18446744073709551616 := by have := dg_lt k a; unfold W at this; exact this
theorem dg0_odd (a : Nat) : dg 0 a % 2 = a % 2 := by unfold dg W; simp only [Nat.pow_zero, Nat.div_one]; omega
theorem pr_odd (s : Bool) : pr s % 2 = 1 := by cases s <;> decide
theorem rinv_one (s : Bool) : R4 * rinv s % pr s = 1 := by cases s <;> decide
/-- The value of a Montgomery form. -/
def valm (s : Bool) (x : Nat) : Nat := x * rinv s % pr s
theorem halves_val (s : Bool) {a : Nat} (ha : a < pr s) : halves (pr s) a 256 = valm s a := by
  have h1 := halves_mod (p := pr s) (a := a) (pr_odd s) 256
  have h2 := halves_lt (pr_odd s) ha 256
  have h3 := rinv_one s
  have e : (2 : Nat) ^ 256 = R4 := by decide
  rw [e] at h1
  generalize halves (pr s) a 256 = h at *
  unfold valm
  have : h * R4 * rinv s % pr s = a * rinv s % pr s := by rw [Nat.mul_mod, h1, ← Nat.mul_mod]
  rw [← this, Nat.mul_assoc, Nat.mul_mod, h3, Nat.mul_one, Nat.mod_mod, Nat.mod_eq_of_lt h2]
theorem valm_RR (s : Bool) {v : Nat} (hv : v < pr s) : valm s (RR s v) = v := by
  have h3 := rinv_one s
  unfold valm
  rw [RR_eq, Nat.mod_mul_mod, Nat.mul_assoc, Nat.mul_mod, h3, Nat.mul_one, Nat.mod_mod, Nat.mod_eq_of_lt hv]
/-- The words of half of a number of 257 bits. -/
theorem half_val {d0 d1 d2 d3 t : Nat} : val4 (d0 / 2 + d1 % 2 * 9223372036854775808) (d1 / 2 + d2 % 2 * 9223372036854775808) (d2 / 2 + d3 % 2 * 9223372036854775808) (d3 / 2 + t * 9223372036854775808) = (val4 d0 d1 d2 d3 + t * R4) / 2 := by
  unfold val4 R4 W
  omega
theorem half_vec {a t : Nat} (ha : a < R4) (ht : t ≤ 1) : vec ((a + t * R4) / 2) = .agg #[.int .u64 ((dg 0 a : Int) / 2 + (dg 1 a : Int) % 2 * 9223372036854775808), .int .u64 ((dg 1 a : Int) / 2 + (dg 2 a : Int) % 2 * 9223372036854775808), .int .u64 ((dg 2 a : Int) / 2 + (dg 3 a : Int) % 2 * 9223372036854775808), .int .u64 ((dg 3 a : Int) / 2 + (t : Int) * 9223372036854775808)] := by
  have h0 := dg_lt 0 a
  have h1 := dg_lt 1 a
  have h2 := dg_lt 2 a
  have h3 := dg_lt 3 a
  unfold W at h0 h1 h2 h3
  have h := half_val (d0 := dg 0 a) (d1 := dg 1 a) (d2 := dg 2 a) (d3 := dg 3 a) (t := t)
  rw [val4_dg ha] at h
  rw [← h, vec_val4 (by unfold W; omega) (by unfold W; omega) (by unfold W; omega) (by unfold W; omega)]
  simp
theorem addV_split {a p : Nat} : addV a p + addC a p * R4 = a + p := by
  unfold addV addC
  rw [Nat.mul_comm]
  exact Nat.mod_add_div _ _
theorem addC_le1 {a p : Nat} (ha : a < R4) (hp : p < R4) : addC a p ≤ 1 := by
  unfold addC
  have : (a + p) / R4 < 2 := Nat.div_lt_of_lt_mul (by omega)
  omega
set_option maxRecDepth 100000 in
theorem halve_odd (p a0 : Nat) (W : World) (hp : p < R4) (ha : a0 < R4) (h : a0 % 2 = 1) : Calls Tryz.prog 104 [vec p, vec a0].toArray W fun e w => e = .returned (vec (halfm p a0)) ∧ Below W.heap.size W w := by
  have hm := dg0_odd a0
  have hlt : addV a0 p < R4 := addV_lt _ _
  have hc1 : addC a0 p ≤ 1 := addC_le1 ha hp
  have hd0 := dg_lt64 0 (addV a0 p)
  have hd1 := dg_lt64 1 (addV a0 p)
  have hd2 := dg_lt64 2 (addV a0 p)
  have hd3 := dg_lt64 3 (addV a0 p)
  have hd4 := dg_lt64 0 a0
  refine c_enter (args := [vec p, vec a0]) Tryz.func104 rfl rfl rfl fun a hk => ?_
  have hs := Sat.start W [] (fun _ h => by cases h)
  refine wpIn_seq ?_
  refine wpIn_region_lit ?_
  refine q_box (vs := [.int .u64 ((dg 0 p : Nat) : Int), .int .u64 ((dg 1 p : Nat) : Int), .int .u64 ((dg 2 p : Nat) : Int), .int .u64 ((dg 3 p : Nat) : Int)]) hk hs rfl rfl rfl rfl fun b1 w a hk hs => ?_
  refine q_box (vs := [.int .u64 ((dg 0 a0 : Nat) : Int), .int .u64 ((dg 1 a0 : Nat) : Int), .int .u64 ((dg 2 a0 : Nat) : Int), .int .u64 ((dg 3 a0 : Nat) : Int)]) hk hs rfl rfl rfl rfl fun b2 w a hk hs => ?_
  refine q_alc (vs := [.int .u64 0, .int .u64 0, .int .u64 0, .int .u64 0]) hk hs zr47 rfl rfl rfl fun b3 w a hk hs => ?_
  refine (c_end (x_t ?_))
  refine wpIn_seq ?_
  refine wpIn_region_lit ?_
  refine q_val hk (w_as rfl) rfl rfl rfl fun a hk => ?_
  refine (c_end (x_t ?_))
  refine wpIn_seq ?_
  refine wpIn_seq ?_
  refine wpIn_region_lit ?_
  refine q_val hk (w_iaA (k := 0) rfl rfl Tryz.underlying47 ty46 (by omega) (by omega)) rfl rfl rfl fun a hk => ?_
  refine q_val hk (w_ld1 rfl ty46 (.blk (n := 1) (hs.mi 1 rfl) rfl)) rfl rfl rfl fun a hk => ?_
  refine q_val hk (w_rem rfl rfl (by omega) (wmd (by omega))) rfl rfl rfl fun a hk => ?_
  refine q_val hk (w_eq rfl rfl (decide_eq_true (by omega))) rfl rfl rfl fun a hk => ?_
  refine (c_end (x_t ?_))
  refine c_T hk rfl ?_
  refine wpIn_region_lit ?_
  refine q_val hk (w_ldv (z := a0) rfl ty47 (.blk (n := 4) (hs.mi 1 rfl) rfl)) rfl rfl rfl fun a hk => ?_
  refine q_val hk (w_ldv (z := p) rfl ty47 (.blk (n := 4) (hs.mi 2 rfl) rfl)) rfl rfl rfl fun a hk => ?_
  refine q_call (caps := []) hk rfl rfl Tryz.func68 fo68 rfl rfl (refSum_c a0 p (by assumption) (by assumption) _) ?_
  rintro _ w ⟨rfl, hb⟩
  have hs := hs.below hb
  refine ⟨_, rfl, fun a hk => ?_⟩
  refine q_val hk (w_mv rfl) rfl rfl rfl fun a hk => ?_
  refine q_val hk (w_ext rfl rfl) rfl rfl rfl fun a hk => ?_
  refine q_val hk (w_ext rfl rfl) rfl rfl rfl fun a hk => ?_
  have hs := hs.up1
  refine q_sto (o := 0) (cs := [.int .u64 ((dg 0 (addV a0 p) : Nat) : Int), .int .u64 ((dg 1 (addV a0 p) : Nat) : Int), .int .u64 ((dg 2 (addV a0 p) : Nat) : Int), .int .u64 ((dg 3 (addV a0 p) : Nat) : Int)]) (vs' := [.int .u64 ((dg 0 (addV a0 p) : Nat) : Int), .int .u64 ((dg 1 (addV a0 p) : Nat) : Int), .int .u64 ((dg 2 (addV a0 p) : Nat) : Int), .int .u64 ((dg 3 (addV a0 p) : Nat) : Int)]) hk hs rfl rfl rfl ty47 rfl rfl rfl rfl rfl rfl fun w hs => ?_
  refine q_val hk (w_as rfl) rfl rfl rfl fun a hk => ?_
  refine (c_end (x_t ?_))
  refine wpIn_seq ?_
  refine wpIn_region_lit ?_
  refine q_alc (vs := [.int .u64 0, .int .u64 0, .int .u64 0, .int .u64 0]) hk hs zr47 rfl rfl rfl fun b4 w a hk hs => ?_
  refine (c_end (x_t ?_))
  refine wpIn_seq ?_
  refine wpIn_seq ?_
  refine wpIn_region_lit ?_
  refine q_val hk (w_as rfl) rfl rfl rfl fun a hk => ?_
  refine (c_end (x_t ?_))
  refine wpIn_block ?_
  refine c_rounds 5 ?_
  refine c_rsucc ?_
  refine wpIn_seq ?_
  refine wpIn_seq ?_
  refine wpIn_region_lit ?_
  refine q_val hk (w_mv rfl) rfl rfl rfl fun a hk => ?_
  refine q_val hk (w_lt rfl rfl (decide_eq_true (by decide))) rfl rfl rfl fun a hk => ?_
  refine (c_end (x_t ?_))
  refine c_T hk rfl ?_
  refine (wpIn_skip (x_t ?_))
  refine wpIn_seq ?_
  refine wpIn_block ?_
  refine wpIn_seq ?_
  refine wpIn_region_lit ?_
  refine q_val hk (w_mv rfl) rfl rfl rfl fun a hk => ?_
  refine q_val hk (w_as rfl) rfl rfl rfl fun a hk => ?_
  refine (c_end (x_t ?_))
  refine wpIn_seq ?_
  refine wpIn_seq ?_
  refine wpIn_region_lit ?_
  refine q_val hk (w_mv rfl) rfl rfl rfl fun a hk => ?_
  refine q_val hk (w_lt rfl rfl (decide_eq_true (by decide))) rfl rfl rfl fun a hk => ?_
  refine (c_end (x_t ?_))
  refine c_T hk rfl ?_
  refine wpIn_region_lit ?_
  refine q_val hk (w_mv rfl) rfl rfl rfl fun a hk => ?_
  refine q_val hk (w_add (r := 1) rfl rfl (by decide)) rfl rfl rfl fun a hk => ?_
  refine q_val hk (w_iaA (k := 1) rfl rfl Tryz.underlying47 ty46 (by omega) (by omega)) rfl rfl rfl fun a hk => ?_
  refine q_val hk (w_ld1 rfl ty46 (.blk (n := 1) (hs.mi 1 rfl) rfl)) rfl rfl rfl fun a hk => ?_
  refine q_val hk (w_rem rfl rfl (by omega) (wmd (by omega))) rfl rfl rfl fun a hk => ?_
  refine q_val hk (w_as rfl) rfl rfl rfl fun a hk => ?_
  refine (c_end (x_t ?_))
  refine wpIn_region_lit ?_
  refine q_val hk (w_mv rfl) rfl rfl rfl fun a hk => ?_
  refine q_val hk (w_mv rfl) rfl rfl rfl fun a hk => ?_
  refine q_val hk (w_iaA (k := 0) rfl rfl Tryz.underlying47 ty46 (by omega) (by omega)) rfl rfl rfl fun a hk => ?_
  refine q_val hk (w_ld1 rfl ty46 (.blk (n := 1) (hs.mi 1 rfl) rfl)) rfl rfl rfl fun a hk => ?_
  refine q_val hk (w_quo rfl rfl (by omega) (wdvu64 (by omega) (by omega) (by omega))) rfl rfl rfl fun a hk => ?_
  refine q_val hk (w_mv rfl) rfl rfl rfl fun a hk => ?_
  refine q_val hk (w_mul rfl rfl (wru64 (by omega) (by omega))) rfl rfl rfl fun a hk => ?_
  refine q_val hk (w_add rfl rfl (wru64 (by omega) (by omega))) rfl rfl rfl fun a hk => ?_
  refine q_val hk (w_iaA (k := 0) rfl rfl Tryz.underlying47 ty46 (by omega) (by omega)) rfl rfl rfl fun a hk => ?_
  refine q_sto (o := 0) (cs := [.int .u64 ((((dg 0 (addV a0 p) : Nat) : Int) / 2) + ((((dg 1 (addV a0 p) : Nat) : Int) % 2) * 9223372036854775808))]) (vs' := [.int .u64 ((((dg 0 (addV a0 p) : Nat) : Int) / 2) + ((((dg 1 (addV a0 p) : Nat) : Int) % 2) * 9223372036854775808)), .int .u64 0, .int .u64 0, .int .u64 0]) hk hs rfl rfl rfl ty46 rfl rfl rfl rfl rfl rfl fun w hs => ?_
  refine (c_end (x_b (x_t ?_)))
  refine wpIn_region_lit ?_
  refine q_val hk (w_mv rfl) rfl rfl rfl fun a hk => ?_
  refine q_val hk (w_add (r := 1) rfl rfl (by decide)) rfl rfl rfl fun a hk => ?_
  refine q_val hk (w_as rfl) rfl rfl rfl fun a hk => ?_
  refine (c_end (x_t ?_))
  refine c_rsucc ?_
  refine wpIn_seq ?_
  refine wpIn_seq ?_
  refine wpIn_region_lit ?_
  refine q_val hk (w_mv rfl) rfl rfl rfl fun a hk => ?_
  refine q_val hk (w_lt rfl rfl (decide_eq_true (by decide))) rfl rfl rfl fun a hk => ?_
  refine (c_end (x_t ?_))
  refine c_T hk rfl ?_
  refine (wpIn_skip (x_t ?_))
  refine wpIn_seq ?_
  refine wpIn_block ?_
  refine wpIn_seq ?_
  refine wpIn_region_lit ?_
  refine q_val hk (w_mv rfl) rfl rfl rfl fun a hk => ?_
  refine q_val hk (w_as rfl) rfl rfl rfl fun a hk => ?_
  refine (c_end (x_t ?_))
  refine wpIn_seq ?_
  refine wpIn_seq ?_
  refine wpIn_region_lit ?_
  refine q_val hk (w_mv rfl) rfl rfl rfl fun a hk => ?_
  refine q_val hk (w_lt rfl rfl (decide_eq_true (by decide))) rfl rfl rfl fun a hk => ?_
  refine (c_end (x_t ?_))
  refine c_T hk rfl ?_
  refine wpIn_region_lit ?_
  refine q_val hk (w_mv rfl) rfl rfl rfl fun a hk => ?_
  refine q_val hk (w_add (r := 2) rfl rfl (by decide)) rfl rfl rfl fun a hk => ?_
  refine q_val hk (w_iaA (k := 2) rfl rfl Tryz.underlying47 ty46 (by omega) (by omega)) rfl rfl rfl fun a hk => ?_
  refine q_val hk (w_ld1 rfl ty46 (.blk (n := 1) (hs.mi 1 rfl) rfl)) rfl rfl rfl fun a hk => ?_
  refine q_val hk (w_rem rfl rfl (by omega) (wmd (by omega))) rfl rfl rfl fun a hk => ?_
  refine q_val hk (w_as rfl) rfl rfl rfl fun a hk => ?_
  refine (c_end (x_t ?_))
  refine wpIn_region_lit ?_
  refine q_val hk (w_mv rfl) rfl rfl rfl fun a hk => ?_
  refine q_val hk (w_mv rfl) rfl rfl rfl fun a hk => ?_
  refine q_val hk (w_iaA (k := 1) rfl rfl Tryz.underlying47 ty46 (by omega) (by omega)) rfl rfl rfl fun a hk => ?_
  refine q_val hk (w_ld1 rfl ty46 (.blk (n := 1) (hs.mi 1 rfl) rfl)) rfl rfl rfl fun a hk => ?_
  refine q_val hk (w_quo rfl rfl (by omega) (wdvu64 (by omega) (by omega) (by omega))) rfl rfl rfl fun a hk => ?_
  refine q_val hk (w_mv rfl) rfl rfl rfl fun a hk => ?_
  refine q_val hk (w_mul rfl rfl (wru64 (by omega) (by omega))) rfl rfl rfl fun a hk => ?_
  refine q_val hk (w_add rfl rfl (wru64 (by omega) (by omega))) rfl rfl rfl fun a hk => ?_
  refine q_val hk (w_iaA (k := 1) rfl rfl Tryz.underlying47 ty46 (by omega) (by omega)) rfl rfl rfl fun a hk => ?_
  refine q_sto (o := 1) (cs := [.int .u64 ((((dg 1 (addV a0 p) : Nat) : Int) / 2) + ((((dg 2 (addV a0 p) : Nat) : Int) % 2) * 9223372036854775808))]) (vs' := [.int .u64 ((((dg 0 (addV a0 p) : Nat) : Int) / 2) + ((((dg 1 (addV a0 p) : Nat) : Int) % 2) * 9223372036854775808)), .int .u64 ((((dg 1 (addV a0 p) : Nat) : Int) / 2) + ((((dg 2 (addV a0 p) : Nat) : Int) % 2) * 9223372036854775808)), .int .u64 0, .int .u64 0]) hk hs rfl rfl rfl ty46 rfl rfl rfl rfl rfl rfl fun w hs => ?_
  refine (c_end (x_b (x_t ?_)))
  refine wpIn_region_lit ?_
  refine q_val hk (w_mv rfl) rfl rfl rfl fun a hk => ?_
  refine q_val hk (w_add (r := 2) rfl rfl (by decide)) rfl rfl rfl fun a hk => ?_
  refine q_val hk (w_as rfl) rfl rfl rfl fun a hk => ?_
  refine (c_end (x_t ?_))
  refine c_rsucc ?_
  refine wpIn_seq ?_
  refine wpIn_seq ?_
  refine wpIn_region_lit ?_
  refine q_val hk (w_mv rfl) rfl rfl rfl fun a hk => ?_
  refine q_val hk (w_lt rfl rfl (decide_eq_true (by decide))) rfl rfl rfl fun a hk => ?_
  refine (c_end (x_t ?_))
  refine c_T hk rfl ?_
  refine (wpIn_skip (x_t ?_))
  refine wpIn_seq ?_
  refine wpIn_block ?_
  refine wpIn_seq ?_
  refine wpIn_region_lit ?_
  refine q_val hk (w_mv rfl) rfl rfl rfl fun a hk => ?_
  refine q_val hk (w_as rfl) rfl rfl rfl fun a hk => ?_
  refine (c_end (x_t ?_))
  refine wpIn_seq ?_
  refine wpIn_seq ?_
  refine wpIn_region_lit ?_
  refine q_val hk (w_mv rfl) rfl rfl rfl fun a hk => ?_
  refine q_val hk (w_lt rfl rfl (decide_eq_true (by decide))) rfl rfl rfl fun a hk => ?_
  refine (c_end (x_t ?_))
  refine c_T hk rfl ?_
  refine wpIn_region_lit ?_
  refine q_val hk (w_mv rfl) rfl rfl rfl fun a hk => ?_
  refine q_val hk (w_add (r := 3) rfl rfl (by decide)) rfl rfl rfl fun a hk => ?_
  refine q_val hk (w_iaA (k := 3) rfl rfl Tryz.underlying47 ty46 (by omega) (by omega)) rfl rfl rfl fun a hk => ?_
  refine q_val hk (w_ld1 rfl ty46 (.blk (n := 1) (hs.mi 1 rfl) rfl)) rfl rfl rfl fun a hk => ?_
  refine q_val hk (w_rem rfl rfl (by omega) (wmd (by omega))) rfl rfl rfl fun a hk => ?_
  refine q_val hk (w_as rfl) rfl rfl rfl fun a hk => ?_
  refine (c_end (x_t ?_))
  refine wpIn_region_lit ?_
  refine q_val hk (w_mv rfl) rfl rfl rfl fun a hk => ?_
  refine q_val hk (w_mv rfl) rfl rfl rfl fun a hk => ?_
  refine q_val hk (w_iaA (k := 2) rfl rfl Tryz.underlying47 ty46 (by omega) (by omega)) rfl rfl rfl fun a hk => ?_
  refine q_val hk (w_ld1 rfl ty46 (.blk (n := 1) (hs.mi 1 rfl) rfl)) rfl rfl rfl fun a hk => ?_
  refine q_val hk (w_quo rfl rfl (by omega) (wdvu64 (by omega) (by omega) (by omega))) rfl rfl rfl fun a hk => ?_
  refine q_val hk (w_mv rfl) rfl rfl rfl fun a hk => ?_
  refine q_val hk (w_mul rfl rfl (wru64 (by omega) (by omega))) rfl rfl rfl fun a hk => ?_
  refine q_val hk (w_add rfl rfl (wru64 (by omega) (by omega))) rfl rfl rfl fun a hk => ?_
  refine q_val hk (w_iaA (k := 2) rfl rfl Tryz.underlying47 ty46 (by omega) (by omega)) rfl rfl rfl fun a hk => ?_
  refine q_sto (o := 2) (cs := [.int .u64 ((((dg 2 (addV a0 p) : Nat) : Int) / 2) + ((((dg 3 (addV a0 p) : Nat) : Int) % 2) * 9223372036854775808))]) (vs' := [.int .u64 ((((dg 0 (addV a0 p) : Nat) : Int) / 2) + ((((dg 1 (addV a0 p) : Nat) : Int) % 2) * 9223372036854775808)), .int .u64 ((((dg 1 (addV a0 p) : Nat) : Int) / 2) + ((((dg 2 (addV a0 p) : Nat) : Int) % 2) * 9223372036854775808)), .int .u64 ((((dg 2 (addV a0 p) : Nat) : Int) / 2) + ((((dg 3 (addV a0 p) : Nat) : Int) % 2) * 9223372036854775808)), .int .u64 0]) hk hs rfl rfl rfl ty46 rfl rfl rfl rfl rfl rfl fun w hs => ?_
  refine (c_end (x_b (x_t ?_)))
  refine wpIn_region_lit ?_
  refine q_val hk (w_mv rfl) rfl rfl rfl fun a hk => ?_
  refine q_val hk (w_add (r := 3) rfl rfl (by decide)) rfl rfl rfl fun a hk => ?_
  refine q_val hk (w_as rfl) rfl rfl rfl fun a hk => ?_
  refine (c_end (x_t ?_))
  refine c_rsucc ?_
  refine wpIn_seq ?_
  refine wpIn_seq ?_
  refine wpIn_region_lit ?_
  refine q_val hk (w_mv rfl) rfl rfl rfl fun a hk => ?_
  refine q_val hk (w_lt rfl rfl (decide_eq_true (by decide))) rfl rfl rfl fun a hk => ?_
  refine (c_end (x_t ?_))
  refine c_T hk rfl ?_
  refine (wpIn_skip (x_t ?_))
  refine wpIn_seq ?_
  refine wpIn_block ?_
  refine wpIn_seq ?_
  refine wpIn_region_lit ?_
  refine q_val hk (w_mv rfl) rfl rfl rfl fun a hk => ?_
  refine q_val hk (w_as rfl) rfl rfl rfl fun a hk => ?_
  refine (c_end (x_t ?_))
  refine wpIn_seq ?_
  refine wpIn_seq ?_
  refine wpIn_region_lit ?_
  refine q_val hk (w_mv rfl) rfl rfl rfl fun a hk => ?_
  refine q_val hk (w_lt rfl rfl (decide_eq_false (by decide))) rfl rfl rfl fun a hk => ?_
  refine (c_end (x_t ?_))
  refine c_F hk rfl ?_
  refine (wpIn_skip (x_t ?_))
  refine wpIn_region_lit ?_
  refine q_val hk (w_mv rfl) rfl rfl rfl fun a hk => ?_
  refine q_val hk (w_mv rfl) rfl rfl rfl fun a hk => ?_
  refine q_val hk (w_iaA (k := 3) rfl rfl Tryz.underlying47 ty46 (by omega) (by omega)) rfl rfl rfl fun a hk => ?_
  refine q_val hk (w_ld1 rfl ty46 (.blk (n := 1) (hs.mi 1 rfl) rfl)) rfl rfl rfl fun a hk => ?_
  refine q_val hk (w_quo rfl rfl (by omega) (wdvu64 (by omega) (by omega) (by omega))) rfl rfl rfl fun a hk => ?_
  refine q_val hk (w_mv rfl) rfl rfl rfl fun a hk => ?_
  refine q_val hk (w_mul rfl rfl (wru64 (by omega) (by omega))) rfl rfl rfl fun a hk => ?_
  refine q_val hk (w_add rfl rfl (wru64 (by omega) (by omega))) rfl rfl rfl fun a hk => ?_
  refine q_val hk (w_iaA (k := 3) rfl rfl Tryz.underlying47 ty46 (by omega) (by omega)) rfl rfl rfl fun a hk => ?_
  refine q_sto (o := 3) (cs := [.int .u64 ((((dg 3 (addV a0 p) : Nat) : Int) / 2) + (((addC a0 p : Nat) : Int) * 9223372036854775808))]) (vs' := [.int .u64 ((((dg 0 (addV a0 p) : Nat) : Int) / 2) + ((((dg 1 (addV a0 p) : Nat) : Int) % 2) * 9223372036854775808)), .int .u64 ((((dg 1 (addV a0 p) : Nat) : Int) / 2) + ((((dg 2 (addV a0 p) : Nat) : Int) % 2) * 9223372036854775808)), .int .u64 ((((dg 2 (addV a0 p) : Nat) : Int) / 2) + ((((dg 3 (addV a0 p) : Nat) : Int) % 2) * 9223372036854775808)), .int .u64 ((((dg 3 (addV a0 p) : Nat) : Int) / 2) + (((addC a0 p : Nat) : Int) * 9223372036854775808))]) hk hs rfl rfl rfl ty46 rfl rfl rfl rfl rfl rfl fun w hs => ?_
  refine (c_end (x_b (x_t ?_)))
  refine wpIn_region_lit ?_
  refine q_val hk (w_mv rfl) rfl rfl rfl fun a hk => ?_
  refine q_val hk (w_add (r := 4) rfl rfl (by decide)) rfl rfl rfl fun a hk => ?_
  refine q_val hk (w_as rfl) rfl rfl rfl fun a hk => ?_
  refine (c_end (x_t ?_))
  refine c_rsucc ?_
  refine wpIn_seq ?_
  refine wpIn_seq ?_
  refine wpIn_region_lit ?_
  refine q_val hk (w_mv rfl) rfl rfl rfl fun a hk => ?_
  refine q_val hk (w_lt rfl rfl (decide_eq_false (by decide))) rfl rfl rfl fun a hk => ?_
  refine (c_end (x_t ?_))
  refine c_F hk rfl ?_
  refine (wpIn_exit (x_te (x_te (x_be ?_))))
  refine (x_t ?_)
  refine wpIn_seq ?_
  refine wpIn_region_lit ?_
  refine q_val hk (w_ldA rfl ty47 (.blk (n := 4) (hs.mi 0 rfl) rfl) rfl) rfl rfl rfl fun a hk => ?_
  have hs := hs.up2
  refine q_sto (o := 0) (cs := [.int .u64 ((((dg 0 (addV a0 p) : Nat) : Int) / 2) + ((((dg 1 (addV a0 p) : Nat) : Int) % 2) * 9223372036854775808)), .int .u64 ((((dg 1 (addV a0 p) : Nat) : Int) / 2) + ((((dg 2 (addV a0 p) : Nat) : Int) % 2) * 9223372036854775808)), .int .u64 ((((dg 2 (addV a0 p) : Nat) : Int) / 2) + ((((dg 3 (addV a0 p) : Nat) : Int) % 2) * 9223372036854775808)), .int .u64 ((((dg 3 (addV a0 p) : Nat) : Int) / 2) + (((addC a0 p : Nat) : Int) * 9223372036854775808))]) (vs' := [.int .u64 ((((dg 0 (addV a0 p) : Nat) : Int) / 2) + ((((dg 1 (addV a0 p) : Nat) : Int) % 2) * 9223372036854775808)), .int .u64 ((((dg 1 (addV a0 p) : Nat) : Int) / 2) + ((((dg 2 (addV a0 p) : Nat) : Int) % 2) * 9223372036854775808)), .int .u64 ((((dg 2 (addV a0 p) : Nat) : Int) / 2) + ((((dg 3 (addV a0 p) : Nat) : Int) % 2) * 9223372036854775808)), .int .u64 ((((dg 3 (addV a0 p) : Nat) : Int) / 2) + (((addC a0 p : Nat) : Int) * 9223372036854775808))]) hk hs rfl rfl rfl ty47 rfl rfl rfl rfl rfl rfl fun w hs => ?_
  refine (c_end (x_t ?_))
  refine (wpIn_ret ?_)
  refine c_retG (vs := [.agg #[.int .u64 ((((dg 0 (addV a0 p) : Nat) : Int) / 2) + ((((dg 1 (addV a0 p) : Nat) : Int) % 2) * 9223372036854775808)), .int .u64 ((((dg 1 (addV a0 p) : Nat) : Int) / 2) + ((((dg 2 (addV a0 p) : Nat) : Int) % 2) * 9223372036854775808)), .int .u64 ((((dg 2 (addV a0 p) : Nat) : Int) / 2) + ((((dg 3 (addV a0 p) : Nat) : Int) % 2) * 9223372036854775808)), .int .u64 ((((dg 3 (addV a0 p) : Nat) : Int) / 2) + (((addC a0 p : Nat) : Int) * 9223372036854775808))]]) hk rfl ⟨⟨_, rfl, lv_A ty47 (.blk (n := 4) (hs.mi 0 rfl) rfl) rfl⟩, trivial⟩ rfl ?_
  refine ⟨?_, hs.toBelow⟩
  have hv := half_vec (a := addV a0 p) (t := addC a0 p) hlt (by omega)
  unfold halfm
  rw [if_pos h, ← addV_split, hv]
  simp [valq]
set_option maxRecDepth 100000 in
theorem halve_even (p a0 : Nat) (W : World) (hp : p < R4) (ha : a0 < R4) (h : ¬ a0 % 2 = 1) : Calls Tryz.prog 104 [vec p, vec a0].toArray W fun e w => e = .returned (vec (halfm p a0)) ∧ Below W.heap.size W w := by
  have hm := dg0_odd a0
  have hlt : a0 < R4 := ha
  have hd0 := dg_lt64 0 (a0)
  have hd1 := dg_lt64 1 (a0)
  have hd2 := dg_lt64 2 (a0)
  have hd3 := dg_lt64 3 (a0)
  have hd4 := dg_lt64 0 a0
  refine c_enter (args := [vec p, vec a0]) Tryz.func104 rfl rfl rfl fun a hk => ?_
  have hs := Sat.start W [] (fun _ h => by cases h)
  refine wpIn_seq ?_
  refine wpIn_region_lit ?_
  refine q_box (vs := [.int .u64 ((dg 0 p : Nat) : Int), .int .u64 ((dg 1 p : Nat) : Int), .int .u64 ((dg 2 p : Nat) : Int), .int .u64 ((dg 3 p : Nat) : Int)]) hk hs rfl rfl rfl rfl fun b1 w a hk hs => ?_
  refine q_box (vs := [.int .u64 ((dg 0 a0 : Nat) : Int), .int .u64 ((dg 1 a0 : Nat) : Int), .int .u64 ((dg 2 a0 : Nat) : Int), .int .u64 ((dg 3 a0 : Nat) : Int)]) hk hs rfl rfl rfl rfl fun b2 w a hk hs => ?_
  refine q_alc (vs := [.int .u64 0, .int .u64 0, .int .u64 0, .int .u64 0]) hk hs zr47 rfl rfl rfl fun b3 w a hk hs => ?_
  refine (c_end (x_t ?_))
  refine wpIn_seq ?_
  refine wpIn_region_lit ?_
  refine q_val hk (w_as rfl) rfl rfl rfl fun a hk => ?_
  refine (c_end (x_t ?_))
  refine wpIn_seq ?_
  refine wpIn_seq ?_
  refine wpIn_region_lit ?_
  refine q_val hk (w_iaA (k := 0) rfl rfl Tryz.underlying47 ty46 (by omega) (by omega)) rfl rfl rfl fun a hk => ?_
  refine q_val hk (w_ld1 rfl ty46 (.blk (n := 1) (hs.mi 1 rfl) rfl)) rfl rfl rfl fun a hk => ?_
  refine q_val hk (w_rem rfl rfl (by omega) (wmd (by omega))) rfl rfl rfl fun a hk => ?_
  refine q_val hk (w_eq rfl rfl (decide_eq_false (by omega))) rfl rfl rfl fun a hk => ?_
  refine (c_end (x_t ?_))
  refine c_F hk rfl ?_
  refine (wpIn_skip (x_t ?_))
  refine wpIn_seq ?_
  refine wpIn_region_lit ?_
  refine q_alc (vs := [.int .u64 0, .int .u64 0, .int .u64 0, .int .u64 0]) hk hs zr47 rfl rfl rfl fun b4 w a hk hs => ?_
  refine (c_end (x_t ?_))
  refine wpIn_seq ?_
  refine wpIn_seq ?_
  refine wpIn_region_lit ?_
  refine q_val hk (w_as rfl) rfl rfl rfl fun a hk => ?_
  refine (c_end (x_t ?_))
  refine wpIn_block ?_
  refine c_rounds 5 ?_
  refine c_rsucc ?_
  refine wpIn_seq ?_
  refine wpIn_seq ?_
  refine wpIn_region_lit ?_
  refine q_val hk (w_mv rfl) rfl rfl rfl fun a hk => ?_
  refine q_val hk (w_lt rfl rfl (decide_eq_true (by decide))) rfl rfl rfl fun a hk => ?_
  refine (c_end (x_t ?_))
  refine c_T hk rfl ?_
  refine (wpIn_skip (x_t ?_))
  refine wpIn_seq ?_
  refine wpIn_block ?_
  refine wpIn_seq ?_
  refine wpIn_region_lit ?_
  refine q_val hk (w_mv rfl) rfl rfl rfl fun a hk => ?_
  refine q_val hk (w_as rfl) rfl rfl rfl fun a hk => ?_
  refine (c_end (x_t ?_))
  refine wpIn_seq ?_
  refine wpIn_seq ?_
  refine wpIn_region_lit ?_
  refine q_val hk (w_mv rfl) rfl rfl rfl fun a hk => ?_
  refine q_val hk (w_lt rfl rfl (decide_eq_true (by decide))) rfl rfl rfl fun a hk => ?_
  refine (c_end (x_t ?_))
  refine c_T hk rfl ?_
  refine wpIn_region_lit ?_
  refine q_val hk (w_mv rfl) rfl rfl rfl fun a hk => ?_
  refine q_val hk (w_add (r := 1) rfl rfl (by decide)) rfl rfl rfl fun a hk => ?_
  refine q_val hk (w_iaA (k := 1) rfl rfl Tryz.underlying47 ty46 (by omega) (by omega)) rfl rfl rfl fun a hk => ?_
  refine q_val hk (w_ld1 rfl ty46 (.blk (n := 1) (hs.mi 2 rfl) rfl)) rfl rfl rfl fun a hk => ?_
  refine q_val hk (w_rem rfl rfl (by omega) (wmd (by omega))) rfl rfl rfl fun a hk => ?_
  refine q_val hk (w_as rfl) rfl rfl rfl fun a hk => ?_
  refine (c_end (x_t ?_))
  refine wpIn_region_lit ?_
  refine q_val hk (w_mv rfl) rfl rfl rfl fun a hk => ?_
  refine q_val hk (w_mv rfl) rfl rfl rfl fun a hk => ?_
  refine q_val hk (w_iaA (k := 0) rfl rfl Tryz.underlying47 ty46 (by omega) (by omega)) rfl rfl rfl fun a hk => ?_
  refine q_val hk (w_ld1 rfl ty46 (.blk (n := 1) (hs.mi 2 rfl) rfl)) rfl rfl rfl fun a hk => ?_
  refine q_val hk (w_quo rfl rfl (by omega) (wdvu64 (by omega) (by omega) (by omega))) rfl rfl rfl fun a hk => ?_
  refine q_val hk (w_mv rfl) rfl rfl rfl fun a hk => ?_
  refine q_val hk (w_mul rfl rfl (wru64 (by omega) (by omega))) rfl rfl rfl fun a hk => ?_
  refine q_val hk (w_add rfl rfl (wru64 (by omega) (by omega))) rfl rfl rfl fun a hk => ?_
  refine q_val hk (w_iaA (k := 0) rfl rfl Tryz.underlying47 ty46 (by omega) (by omega)) rfl rfl rfl fun a hk => ?_
  refine q_sto (o := 0) (cs := [.int .u64 ((((dg 0 a0 : Nat) : Int) / 2) + ((((dg 1 a0 : Nat) : Int) % 2) * 9223372036854775808))]) (vs' := [.int .u64 ((((dg 0 a0 : Nat) : Int) / 2) + ((((dg 1 a0 : Nat) : Int) % 2) * 9223372036854775808)), .int .u64 0, .int .u64 0, .int .u64 0]) hk hs rfl rfl rfl ty46 rfl rfl rfl rfl rfl rfl fun w hs => ?_
  refine (c_end (x_b (x_t ?_)))
  refine wpIn_region_lit ?_
  refine q_val hk (w_mv rfl) rfl rfl rfl fun a hk => ?_
  refine q_val hk (w_add (r := 1) rfl rfl (by decide)) rfl rfl rfl fun a hk => ?_
  refine q_val hk (w_as rfl) rfl rfl rfl fun a hk => ?_
  refine (c_end (x_t ?_))
  refine c_rsucc ?_
  refine wpIn_seq ?_
  refine wpIn_seq ?_
  refine wpIn_region_lit ?_
  refine q_val hk (w_mv rfl) rfl rfl rfl fun a hk => ?_
  refine q_val hk (w_lt rfl rfl (decide_eq_true (by decide))) rfl rfl rfl fun a hk => ?_
  refine (c_end (x_t ?_))
  refine c_T hk rfl ?_
  refine (wpIn_skip (x_t ?_))
  refine wpIn_seq ?_
  refine wpIn_block ?_
  refine wpIn_seq ?_
  refine wpIn_region_lit ?_
  refine q_val hk (w_mv rfl) rfl rfl rfl fun a hk => ?_
  refine q_val hk (w_as rfl) rfl rfl rfl fun a hk => ?_
  refine (c_end (x_t ?_))
  refine wpIn_seq ?_
  refine wpIn_seq ?_
  refine wpIn_region_lit ?_
  refine q_val hk (w_mv rfl) rfl rfl rfl fun a hk => ?_
  refine q_val hk (w_lt rfl rfl (decide_eq_true (by decide))) rfl rfl rfl fun a hk => ?_
  refine (c_end (x_t ?_))
  refine c_T hk rfl ?_
  refine wpIn_region_lit ?_
  refine q_val hk (w_mv rfl) rfl rfl rfl fun a hk => ?_
  refine q_val hk (w_add (r := 2) rfl rfl (by decide)) rfl rfl rfl fun a hk => ?_
  refine q_val hk (w_iaA (k := 2) rfl rfl Tryz.underlying47 ty46 (by omega) (by omega)) rfl rfl rfl fun a hk => ?_
  refine q_val hk (w_ld1 rfl ty46 (.blk (n := 1) (hs.mi 2 rfl) rfl)) rfl rfl rfl fun a hk => ?_
  refine q_val hk (w_rem rfl rfl (by omega) (wmd (by omega))) rfl rfl rfl fun a hk => ?_
  refine q_val hk (w_as rfl) rfl rfl rfl fun a hk => ?_
  refine (c_end (x_t ?_))
  refine wpIn_region_lit ?_
  refine q_val hk (w_mv rfl) rfl rfl rfl fun a hk => ?_
  refine q_val hk (w_mv rfl) rfl rfl rfl fun a hk => ?_
  refine q_val hk (w_iaA (k := 1) rfl rfl Tryz.underlying47 ty46 (by omega) (by omega)) rfl rfl rfl fun a hk => ?_
  refine q_val hk (w_ld1 rfl ty46 (.blk (n := 1) (hs.mi 2 rfl) rfl)) rfl rfl rfl fun a hk => ?_
  refine q_val hk (w_quo rfl rfl (by omega) (wdvu64 (by omega) (by omega) (by omega))) rfl rfl rfl fun a hk => ?_
  refine q_val hk (w_mv rfl) rfl rfl rfl fun a hk => ?_
  refine q_val hk (w_mul rfl rfl (wru64 (by omega) (by omega))) rfl rfl rfl fun a hk => ?_
  refine q_val hk (w_add rfl rfl (wru64 (by omega) (by omega))) rfl rfl rfl fun a hk => ?_
  refine q_val hk (w_iaA (k := 1) rfl rfl Tryz.underlying47 ty46 (by omega) (by omega)) rfl rfl rfl fun a hk => ?_
  refine q_sto (o := 1) (cs := [.int .u64 ((((dg 1 a0 : Nat) : Int) / 2) + ((((dg 2 a0 : Nat) : Int) % 2) * 9223372036854775808))]) (vs' := [.int .u64 ((((dg 0 a0 : Nat) : Int) / 2) + ((((dg 1 a0 : Nat) : Int) % 2) * 9223372036854775808)), .int .u64 ((((dg 1 a0 : Nat) : Int) / 2) + ((((dg 2 a0 : Nat) : Int) % 2) * 9223372036854775808)), .int .u64 0, .int .u64 0]) hk hs rfl rfl rfl ty46 rfl rfl rfl rfl rfl rfl fun w hs => ?_
  refine (c_end (x_b (x_t ?_)))
  refine wpIn_region_lit ?_
  refine q_val hk (w_mv rfl) rfl rfl rfl fun a hk => ?_
  refine q_val hk (w_add (r := 2) rfl rfl (by decide)) rfl rfl rfl fun a hk => ?_
  refine q_val hk (w_as rfl) rfl rfl rfl fun a hk => ?_
  refine (c_end (x_t ?_))
  refine c_rsucc ?_
  refine wpIn_seq ?_
  refine wpIn_seq ?_
  refine wpIn_region_lit ?_
  refine q_val hk (w_mv rfl) rfl rfl rfl fun a hk => ?_
  refine q_val hk (w_lt rfl rfl (decide_eq_true (by decide))) rfl rfl rfl fun a hk => ?_
  refine (c_end (x_t ?_))
  refine c_T hk rfl ?_
  refine (wpIn_skip (x_t ?_))
  refine wpIn_seq ?_
  refine wpIn_block ?_
  refine wpIn_seq ?_
  refine wpIn_region_lit ?_
  refine q_val hk (w_mv rfl) rfl rfl rfl fun a hk => ?_
  refine q_val hk (w_as rfl) rfl rfl rfl fun a hk => ?_
  refine (c_end (x_t ?_))
  refine wpIn_seq ?_
  refine wpIn_seq ?_
  refine wpIn_region_lit ?_
  refine q_val hk (w_mv rfl) rfl rfl rfl fun a hk => ?_
  refine q_val hk (w_lt rfl rfl (decide_eq_true (by decide))) rfl rfl rfl fun a hk => ?_
  refine (c_end (x_t ?_))
  refine c_T hk rfl ?_
  refine wpIn_region_lit ?_
  refine q_val hk (w_mv rfl) rfl rfl rfl fun a hk => ?_
  refine q_val hk (w_add (r := 3) rfl rfl (by decide)) rfl rfl rfl fun a hk => ?_
  refine q_val hk (w_iaA (k := 3) rfl rfl Tryz.underlying47 ty46 (by omega) (by omega)) rfl rfl rfl fun a hk => ?_
  refine q_val hk (w_ld1 rfl ty46 (.blk (n := 1) (hs.mi 2 rfl) rfl)) rfl rfl rfl fun a hk => ?_
  refine q_val hk (w_rem rfl rfl (by omega) (wmd (by omega))) rfl rfl rfl fun a hk => ?_
  refine q_val hk (w_as rfl) rfl rfl rfl fun a hk => ?_
  refine (c_end (x_t ?_))
  refine wpIn_region_lit ?_
  refine q_val hk (w_mv rfl) rfl rfl rfl fun a hk => ?_
  refine q_val hk (w_mv rfl) rfl rfl rfl fun a hk => ?_
  refine q_val hk (w_iaA (k := 2) rfl rfl Tryz.underlying47 ty46 (by omega) (by omega)) rfl rfl rfl fun a hk => ?_
  refine q_val hk (w_ld1 rfl ty46 (.blk (n := 1) (hs.mi 2 rfl) rfl)) rfl rfl rfl fun a hk => ?_
  refine q_val hk (w_quo rfl rfl (by omega) (wdvu64 (by omega) (by omega) (by omega))) rfl rfl rfl fun a hk => ?_
  refine q_val hk (w_mv rfl) rfl rfl rfl fun a hk => ?_
  refine q_val hk (w_mul rfl rfl (wru64 (by omega) (by omega))) rfl rfl rfl fun a hk => ?_
  refine q_val hk (w_add rfl rfl (wru64 (by omega) (by omega))) rfl rfl rfl fun a hk => ?_
  refine q_val hk (w_iaA (k := 2) rfl rfl Tryz.underlying47 ty46 (by omega) (by omega)) rfl rfl rfl fun a hk => ?_
  refine q_sto (o := 2) (cs := [.int .u64 ((((dg 2 a0 : Nat) : Int) / 2) + ((((dg 3 a0 : Nat) : Int) % 2) * 9223372036854775808))]) (vs' := [.int .u64 ((((dg 0 a0 : Nat) : Int) / 2) + ((((dg 1 a0 : Nat) : Int) % 2) * 9223372036854775808)), .int .u64 ((((dg 1 a0 : Nat) : Int) / 2) + ((((dg 2 a0 : Nat) : Int) % 2) * 9223372036854775808)), .int .u64 ((((dg 2 a0 : Nat) : Int) / 2) + ((((dg 3 a0 : Nat) : Int) % 2) * 9223372036854775808)), .int .u64 0]) hk hs rfl rfl rfl ty46 rfl rfl rfl rfl rfl rfl fun w hs => ?_
  refine (c_end (x_b (x_t ?_)))
  refine wpIn_region_lit ?_
  refine q_val hk (w_mv rfl) rfl rfl rfl fun a hk => ?_
  refine q_val hk (w_add (r := 3) rfl rfl (by decide)) rfl rfl rfl fun a hk => ?_
  refine q_val hk (w_as rfl) rfl rfl rfl fun a hk => ?_
  refine (c_end (x_t ?_))
  refine c_rsucc ?_
  refine wpIn_seq ?_
  refine wpIn_seq ?_
  refine wpIn_region_lit ?_
  refine q_val hk (w_mv rfl) rfl rfl rfl fun a hk => ?_
  refine q_val hk (w_lt rfl rfl (decide_eq_true (by decide))) rfl rfl rfl fun a hk => ?_
  refine (c_end (x_t ?_))
  refine c_T hk rfl ?_
  refine (wpIn_skip (x_t ?_))
  refine wpIn_seq ?_
  refine wpIn_block ?_
  refine wpIn_seq ?_
  refine wpIn_region_lit ?_
  refine q_val hk (w_mv rfl) rfl rfl rfl fun a hk => ?_
  refine q_val hk (w_as rfl) rfl rfl rfl fun a hk => ?_
  refine (c_end (x_t ?_))
  refine wpIn_seq ?_
  refine wpIn_seq ?_
  refine wpIn_region_lit ?_
  refine q_val hk (w_mv rfl) rfl rfl rfl fun a hk => ?_
  refine q_val hk (w_lt rfl rfl (decide_eq_false (by decide))) rfl rfl rfl fun a hk => ?_
  refine (c_end (x_t ?_))
  refine c_F hk rfl ?_
  refine (wpIn_skip (x_t ?_))
  refine wpIn_region_lit ?_
  refine q_val hk (w_mv rfl) rfl rfl rfl fun a hk => ?_
  refine q_val hk (w_mv rfl) rfl rfl rfl fun a hk => ?_
  refine q_val hk (w_iaA (k := 3) rfl rfl Tryz.underlying47 ty46 (by omega) (by omega)) rfl rfl rfl fun a hk => ?_
  refine q_val hk (w_ld1 rfl ty46 (.blk (n := 1) (hs.mi 2 rfl) rfl)) rfl rfl rfl fun a hk => ?_
  refine q_val hk (w_quo rfl rfl (by omega) (wdvu64 (by omega) (by omega) (by omega))) rfl rfl rfl fun a hk => ?_
  refine q_val hk (w_mv rfl) rfl rfl rfl fun a hk => ?_
  refine q_val hk (w_mul (r := 0) rfl rfl (by decide)) rfl rfl rfl fun a hk => ?_
  refine q_val hk (w_add rfl rfl (wru64 (by omega) (by omega))) rfl rfl rfl fun a hk => ?_
  refine q_val hk (w_iaA (k := 3) rfl rfl Tryz.underlying47 ty46 (by omega) (by omega)) rfl rfl rfl fun a hk => ?_
  refine q_sto (o := 3) (cs := [.int .u64 ((((dg 3 a0 : Nat) : Int) / 2) + 0)]) (vs' := [.int .u64 ((((dg 0 a0 : Nat) : Int) / 2) + ((((dg 1 a0 : Nat) : Int) % 2) * 9223372036854775808)), .int .u64 ((((dg 1 a0 : Nat) : Int) / 2) + ((((dg 2 a0 : Nat) : Int) % 2) * 9223372036854775808)), .int .u64 ((((dg 2 a0 : Nat) : Int) / 2) + ((((dg 3 a0 : Nat) : Int) % 2) * 9223372036854775808)), .int .u64 ((((dg 3 a0 : Nat) : Int) / 2) + 0)]) hk hs rfl rfl rfl ty46 rfl rfl rfl rfl rfl rfl fun w hs => ?_
  refine (c_end (x_b (x_t ?_)))
  refine wpIn_region_lit ?_
  refine q_val hk (w_mv rfl) rfl rfl rfl fun a hk => ?_
  refine q_val hk (w_add (r := 4) rfl rfl (by decide)) rfl rfl rfl fun a hk => ?_
  refine q_val hk (w_as rfl) rfl rfl rfl fun a hk => ?_
  refine (c_end (x_t ?_))
  refine c_rsucc ?_
  refine wpIn_seq ?_
  refine wpIn_seq ?_
  refine wpIn_region_lit ?_
  refine q_val hk (w_mv rfl) rfl rfl rfl fun a hk => ?_
  refine q_val hk (w_lt rfl rfl (decide_eq_false (by decide))) rfl rfl rfl fun a hk => ?_
  refine (c_end (x_t ?_))
  refine c_F hk rfl ?_
  refine (wpIn_exit (x_te (x_te (x_be ?_))))
  refine (x_t ?_)
  refine wpIn_seq ?_
  refine wpIn_region_lit ?_
  refine q_val hk (w_ldA rfl ty47 (.blk (n := 4) (hs.mi 0 rfl) rfl) rfl) rfl rfl rfl fun a hk => ?_
  have hs := hs.up1
  refine q_sto (o := 0) (cs := [.int .u64 ((((dg 0 a0 : Nat) : Int) / 2) + ((((dg 1 a0 : Nat) : Int) % 2) * 9223372036854775808)), .int .u64 ((((dg 1 a0 : Nat) : Int) / 2) + ((((dg 2 a0 : Nat) : Int) % 2) * 9223372036854775808)), .int .u64 ((((dg 2 a0 : Nat) : Int) / 2) + ((((dg 3 a0 : Nat) : Int) % 2) * 9223372036854775808)), .int .u64 ((((dg 3 a0 : Nat) : Int) / 2) + 0)]) (vs' := [.int .u64 ((((dg 0 a0 : Nat) : Int) / 2) + ((((dg 1 a0 : Nat) : Int) % 2) * 9223372036854775808)), .int .u64 ((((dg 1 a0 : Nat) : Int) / 2) + ((((dg 2 a0 : Nat) : Int) % 2) * 9223372036854775808)), .int .u64 ((((dg 2 a0 : Nat) : Int) / 2) + ((((dg 3 a0 : Nat) : Int) % 2) * 9223372036854775808)), .int .u64 ((((dg 3 a0 : Nat) : Int) / 2) + 0)]) hk hs rfl rfl rfl ty47 rfl rfl rfl rfl rfl rfl fun w hs => ?_
  refine (c_end (x_t ?_))
  refine (wpIn_ret ?_)
  refine c_retG (vs := [.agg #[.int .u64 ((((dg 0 a0 : Nat) : Int) / 2) + ((((dg 1 a0 : Nat) : Int) % 2) * 9223372036854775808)), .int .u64 ((((dg 1 a0 : Nat) : Int) / 2) + ((((dg 2 a0 : Nat) : Int) % 2) * 9223372036854775808)), .int .u64 ((((dg 2 a0 : Nat) : Int) / 2) + ((((dg 3 a0 : Nat) : Int) % 2) * 9223372036854775808)), .int .u64 ((((dg 3 a0 : Nat) : Int) / 2) + 0)]]) hk rfl ⟨⟨_, rfl, lv_A ty47 (.blk (n := 4) (hs.mi 0 rfl) rfl) rfl⟩, trivial⟩ rfl ?_
  refine ⟨?_, hs.toBelow⟩
  have hv := half_vec (a := a0) (t := 0) hlt (by omega)
  unfold halfm
  rw [if_neg h, show a0 / 2 = (a0 + 0 * R4) / 2 by rw [Nat.zero_mul, Nat.add_zero], hv]
  simp [valq]
theorem halve_c (p a0 : Nat) (hp : p < R4) (ha : a0 < R4) (W : World) : Calls Tryz.prog 104 #[vec p, vec a0] W fun e w => e = .returned (vec (halfm p a0)) ∧ Below W.heap.size W w := by
  by_cases h : a0 % 2 = 1
  · exact halve_odd p a0 W hp ha h
  · exact halve_even p a0 W hp ha h
set_option maxRecDepth 100000 in
theorem refValue_c (s : Bool) (a0 : Nat) (W : World) (ha : a0 < pr s) : Calls Tryz.prog 58 [vec (pr s), vec a0].toArray W fun e w => e = .returned (vec (valm s a0)) ∧ Below W.heap.size W w := by
  refine c_enter (args := [vec (pr s), vec a0]) Tryz.func58 rfl rfl rfl fun a hk => ?_
  have hs := Sat.start W [] (fun _ h => by cases h)
  refine wpIn_seq ?_
  refine wpIn_region_lit ?_
  refine q_box (vs := [.int .u64 ((dg 0 (pr s) : Nat) : Int), .int .u64 ((dg 1 (pr s) : Nat) : Int), .int .u64 ((dg 2 (pr s) : Nat) : Int), .int .u64 ((dg 3 (pr s) : Nat) : Int)]) hk hs rfl rfl rfl rfl fun b1 w a hk hs => ?_
  refine q_box (vs := [.int .u64 ((dg 0 a0 : Nat) : Int), .int .u64 ((dg 1 a0 : Nat) : Int), .int .u64 ((dg 2 a0 : Nat) : Int), .int .u64 ((dg 3 a0 : Nat) : Int)]) hk hs rfl rfl rfl rfl fun b2 w a hk hs => ?_
  refine q_alc (vs := [.int .u64 0, .int .u64 0, .int .u64 0, .int .u64 0]) hk hs zr47 rfl rfl rfl fun b3 w a hk hs => ?_
  refine (c_end (x_t ?_))
  refine wpIn_seq ?_
  refine wpIn_seq ?_
  refine wpIn_region_lit ?_
  refine q_val hk (w_as rfl) rfl rfl rfl fun a hk => ?_
  refine (c_end (x_t ?_))
  refine wpIn_block ?_
  refine c_loop (α := Nat) (fun k a w => k ≤ 256 ∧ Kn [] 14 [(5, .int .i64 (k : Int)), (4, .pointer (some ⟨b3, 0, none⟩)), (3, .pointer (some ⟨b2, 0, none⟩)), (2, .pointer (some ⟨b1, 0, none⟩))] a ∧ Sat no W [blk b3 [.int .u64 0, .int .u64 0, .int .u64 0, .int .u64 0] 47, blk b2 [.int .u64 ((dg 0 (halves (pr s) a0 k) : Nat) : Int), .int .u64 ((dg 1 (halves (pr s) a0 k) : Nat) : Int), .int .u64 ((dg 2 (halves (pr s) a0 k) : Nat) : Int), .int .u64 ((dg 3 (halves (pr s) a0 k) : Nat) : Int)] 47, blk b1 [.int .u64 ((dg 0 (pr s) : Nat) : Int), .int .u64 ((dg 1 (pr s) : Nat) : Int), .int .u64 ((dg 2 (pr s) : Nat) : Int), .int .u64 ((dg 3 (pr s) : Nat) : Int)] 47] [] w) (fun k => 256 - k) 0 ?_ ?_
  · exact ⟨(by omega), hk.k rfl (hk.k rfl (hk.k rfl (hk.k rfl hk.nil))), hs⟩
  rintro k a w ⟨hf0, hk, hs⟩
  refine wpIn_seq ?_
  refine wpIn_seq ?_
  refine wpIn_region_lit ?_
  refine q_val hk (w_mv rfl) rfl rfl rfl fun a hk => ?_
  rcases Classical.em ((k : Int) < 256) with hc4 | hc4
  · skip
    refine q_val hk (w_lt rfl rfl (decide_eq_true hc4)) rfl rfl rfl fun a hk => ?_
    refine (c_end (x_t ?_))
    refine c_T hk rfl ?_
    refine (wpIn_skip (x_t ?_))
    refine wpIn_seq ?_
    refine wpIn_block ?_
    refine wpIn_region_lit ?_
    refine q_val hk (w_ldv (z := pr s) rfl ty47 (.blk (n := 4) (hs.mi 2 rfl) rfl)) rfl rfl rfl fun a hk => ?_
    refine q_val hk (w_ldv (z := (halves (pr s) a0 k)) rfl ty47 (.blk (n := 4) (hs.mi 1 rfl) rfl)) rfl rfl rfl fun a hk => ?_
    refine q_call (caps := []) hk rfl rfl Tryz.func104 fo104 rfl rfl (halve_c (pr s) (halves (pr s) a0 k) (pr_lt s) (Nat.lt_trans (halves_lt (pr_odd s) ha k) (pr_lt s)) _) ?_
    rintro _ w ⟨rfl, hb⟩
    have hs := hs.below hb
    refine ⟨_, rfl, fun a hk => ?_⟩
    have hs := hs.up1
    refine q_sto (o := 0) (cs := [.int .u64 ((dg 0 (halfm (pr s) (halves (pr s) a0 k)) : Nat) : Int), .int .u64 ((dg 1 (halfm (pr s) (halves (pr s) a0 k)) : Nat) : Int), .int .u64 ((dg 2 (halfm (pr s) (halves (pr s) a0 k)) : Nat) : Int), .int .u64 ((dg 3 (halfm (pr s) (halves (pr s) a0 k)) : Nat) : Int)]) (vs' := [.int .u64 ((dg 0 (halfm (pr s) (halves (pr s) a0 k)) : Nat) : Int), .int .u64 ((dg 1 (halfm (pr s) (halves (pr s) a0 k)) : Nat) : Int), .int .u64 ((dg 2 (halfm (pr s) (halves (pr s) a0 k)) : Nat) : Int), .int .u64 ((dg 3 (halfm (pr s) (halves (pr s) a0 k)) : Nat) : Int)]) hk hs rfl rfl rfl ty47 rfl rfl rfl rfl rfl rfl fun w hs => ?_
    refine (c_end (x_b (x_t ?_)))
    refine wpIn_region_lit ?_
    refine q_val hk (w_mv rfl) rfl rfl rfl fun a hk => ?_
    refine q_val hk (w_add rfl rfl (wr64 (by omega) (by omega))) rfl rfl rfl fun a hk => ?_
    refine q_val hk (w_as rfl) rfl rfl rfl fun a hk => ?_
    refine (c_end (x_t ?_))
    have hs := hs.up2
    have hs := hs.up1
    have hs := hs.up2
    exact ⟨k + 1, ⟨(by omega), hk.k rfl (hk.k rfl (hk.k rfl (hk.k rfl hk.nil))), hs⟩, by omega⟩
  · skip
    obtain rfl : 256 = k := by omega
    refine q_val hk (w_lt rfl rfl (decide_eq_false hc4)) rfl rfl rfl fun a hk => ?_
    refine (c_end (x_t ?_))
    refine c_F hk rfl ?_
    refine (wpIn_exit (x_te (x_te (x_be ?_))))
    refine (x_t ?_)
    refine wpIn_seq ?_
    refine wpIn_region_lit ?_
    refine q_val hk (w_ldv (z := (halves (pr s) a0 256)) rfl ty47 (.blk (n := 4) (hs.mi 1 rfl) rfl)) rfl rfl rfl fun a hk => ?_
    refine q_sto (o := 0) (cs := [.int .u64 ((dg 0 (halves (pr s) a0 256) : Nat) : Int), .int .u64 ((dg 1 (halves (pr s) a0 256) : Nat) : Int), .int .u64 ((dg 2 (halves (pr s) a0 256) : Nat) : Int), .int .u64 ((dg 3 (halves (pr s) a0 256) : Nat) : Int)]) (vs' := [.int .u64 ((dg 0 (halves (pr s) a0 256) : Nat) : Int), .int .u64 ((dg 1 (halves (pr s) a0 256) : Nat) : Int), .int .u64 ((dg 2 (halves (pr s) a0 256) : Nat) : Int), .int .u64 ((dg 3 (halves (pr s) a0 256) : Nat) : Int)]) hk hs rfl rfl rfl ty47 rfl rfl rfl rfl rfl rfl fun w hs => ?_
    refine (c_end (x_t ?_))
    refine (wpIn_ret ?_)
    refine c_retG (vs := [vec (halves (pr s) a0 256)]) hk rfl ⟨⟨_, rfl, lv_A ty47 (.blk (n := 4) (hs.mi 0 rfl) rfl) rfl⟩, trivial⟩ rfl ?_
    exact ⟨by rw [← halves_val s ha]; rfl, hs.toBelow⟩
end Go.Proofs.YtdnkkbmpefhbjaaGreatDoor
namespace Go.Proofs.YtdnkkbmpefhbjaaGreatDoor
set_option linter.all false
open Go Go.RowKit
abbrev fieldZ : Value := .agg #[.int .i64 0, .int .u64 0, .int .u64 0, .int .u64 0, .int .u64 0, .int .u64 0, .int .u64 0, .int .u64 0, .int .u64 0, .int .u64 0, .int .u64 0, .int .u64 0, .int .u64 0, .int .u64 0]
set_option maxRecDepth 100000 in
set_option maxHeartbeats 1000000 in
theorem getBad_c (F : Int) (h1 : F ≠ 1) (h2 : F ≠ 2) (w : World) (hL : Laid w) :
    Calls Tryz.prog 85 #[.int .i64 F] w fun e w' => e = .returned (.tuple #[fieldZ, .int .i64 3]) ∧ Below w.heap.size w w' := by
  have i0 := index0
  have i1 := index1
  have q1 : (fid false == F) = false := by rw [beq_eq_false_iff_ne]; exact h1.symm
  have q2 : (fid true == F) = false := by rw [beq_eq_false_iff_ne]; exact h2.symm
  have hg : ∀ o j v, fieldCells[j]? = some v → (w.alloc o).cell? ⟨0, j, none⟩ = some v := fun o => (hL.step ((Below.refl _ _).alloc (Nat.le_refl _) _))
  have Hg := Lib.hid hg
  clear hg h1 h2
  go_enter Tryz.func85, Tryz.ntmps85
  go_wp2_with (refine wpList_load_cells rfl 168 (.global 0) rfl 0 rfl fieldCells _ (Hg.out _) Tryz.underlying168 rfl (by kernel_rfl) ?_; simp only [Act.put, List.setIfInBounds_toArray, List.set_cons_zero, List.set_cons_succ])
  refine wp_loop_rounds 3 ?_
  rw [rounds_succ]
  go_wp2_with fail
  rw [rounds_succ]
  go_wp2_with fail
  rw [rounds_succ]
  go_wp2_with fail
  refine bodyPost_ret (v := .tuple #[fieldZ, .int .i64 3]) (by simp only [results, Tryz.results85]; go_simp) rfl ⟨rfl, ?_⟩
  repeat first
    | with_reducible exact Below.refl _ _
    | with_reducible refine Below.drew ?_
    | with_reducible refine below_dN ?_
    | with_reducible refine Below.alloc ?_ (by first | omega | (simp; done) | (simp; omega)) _
    | with_reducible refine Below.setCell ?_ (by first | omega | (simp; done) | (simp; omega)) _
    | with_reducible refine Below.trans ?_ (Below.mono (by assumption) (by first | omega | (simp; done) | (simp; omega)))
theorem fid_or (s : Bool) : fid s = 1 ∨ fid s = 2 := by cases s <;> decide
theorem fid_dec (s : Bool) : decide (fid s = 2) = s := by cases s <;> decide
theorem between_t (x lo hi : Int) (w : World) (h : lo ≤ x ∧ x ≤ hi) : Calls Tryz.prog 136 #[.int .i64 x, .int .i64 lo, .int .i64 hi] w fun e w' => e = .returned (.bool true) ∧ w = w' := by
  obtain ⟨h1, h2⟩ := h
  have q1 : decide (lo ≤ x) = true := decide_eq_true h1
  have q2 : decide (x ≤ hi) = true := decide_eq_true h2
  go_enter Tryz.func136, Tryz.ntmps136
  go_wp2
  go_ret
  exact ⟨rfl, rfl⟩
theorem between_f (x lo hi : Int) (w : World) (h : ¬ (lo ≤ x ∧ x ≤ hi)) : Calls Tryz.prog 136 #[.int .i64 x, .int .i64 lo, .int .i64 hi] w fun e w' => e = .returned (.bool false) ∧ w = w' := by
  by_cases h1 : lo ≤ x
  · have h2 : ¬ x ≤ hi := fun h2 => h ⟨h1, h2⟩
    have q1 : decide (lo ≤ x) = true := decide_eq_true h1
    have q2 : decide (x ≤ hi) = false := decide_eq_false h2
    clear h h2
    go_enter Tryz.func136, Tryz.ntmps136
    go_wp2
    go_ret
    exact ⟨rfl, rfl⟩
  · have q1 : decide (lo ≤ x) = false := decide_eq_false h1
    clear h h1
    go_enter Tryz.func136, Tryz.ntmps136
    go_wp2
    go_ret
    exact ⟨rfl, rfl⟩
theorem known_t (x : Int) (w : World) (h : x = 1 ∨ x = 2) : Calls Tryz.prog 102 #[.int .i64 x] w fun e w' => e = .returned (.bool true) ∧ w = w' := by
  rcases h with rfl | rfl
  all_goals
    go_enter Tryz.func102, Tryz.ntmps102
    go_wp2
    go_ret
    exact ⟨rfl, rfl⟩
theorem known_f (x : Int) (w : World) (h : ¬ (x = 1 ∨ x = 2)) : Calls Tryz.prog 102 #[.int .i64 x] w fun e w' => e = .returned (.bool false) ∧ w = w' := by
  have h1 : (x == 1) = false := by rw [beq_eq_false_iff_ne]; exact fun e => h (.inl e)
  have h2 : (x == 2) = false := by rw [beq_eq_false_iff_ne]; exact fun e => h (.inr e)
  clear h
  go_enter Tryz.func102, Tryz.ntmps102
  go_wp2
  go_ret
  exact ⟨rfl, rfl⟩
end Go.Proofs.YtdnkkbmpefhbjaaGreatDoor
namespace Go.Proofs.YtdnkkbmpefhbjaaGreatDoor
set_option linter.all false
open Go Go.RowKit
/-- Are the first n numbers less than the modulus? -/
def okB (s : Bool) (X : Nat → Nat) (n : Nat) : Bool := (List.range n).all fun i => decide (X i < pr s)
theorem okB_succ (s : Bool) (X : Nat → Nat) (k : Nat) : okB s X (k + 1) = (okB s X k && decide (X k < pr s)) := by simp [okB, List.range_succ]
theorem okB_at {s : Bool} {X : Nat → Nat} {n : Nat} (h : okB s X n = true) {i : Nat} (hi : i < n) : X i < pr s := by
  have := List.all_eq_true.1 h i (List.mem_range.2 hi)
  simpa using this
theorem okB_of {s : Bool} {X : Nat → Nat} {n : Nat} (h : ∀ i, i < n → X i < pr s) : okB s X n = true := List.all_eq_true.2 fun i hi => by simpa using h i (List.mem_range.1 hi)
theorem contAm (s : Bool) (x : Nat) (hx : x < R4) (w : World) : Calls Tryz.prog 137 #[fieldV s, vec x] w fun e w' => e = .returned (.int .u64 (am (decide (x < pr s)))) ∧ Below w.heap.size w w' := by
  by_cases h : x < pr s
  · rw [decide_eq_true h]; exact containsT_c s x h w
  · rw [decide_eq_false h]; exact containsF_c s x hx h w
/-- The error of a share. -/
def shErr (F T I L : Int) (n : Nat) (X : Nat → Nat) : Int :=
  if F = 1 ∨ F = 2 then if 1 ≤ T ∧ T ≤ 255 then if 1 ≤ I ∧ I ≤ 255 then if 0 ≤ L ∧ L ≤ 65535 then if n = cn L then if okB (decide (F = 2)) X n = true then 0 else 9 else 8 else 6 else 12 else 4 else 3
theorem am_zero (b : Bool) : am b = 0 ↔ b = false := by cases b <;> simp [am]
theorem okB_am {s : Bool} {X : Nat → Nat} {n : Nat} (h : ¬ am (okB s X n) = 0) : okB s X n = true := by
  rcases hq : okB s X n with _ | _
  · exact absurd ((am_zero _).2 hq) h
  · rfl
theorem ckShare_bad (F T I L : Int) (la : Option Addr) (n lc : Nat) (X : Nat → Nat) (W : World) (HX : LstAt W 4 (.slice la n lc) n (en vq X n)) (hn : n ≤ 100000000) (H4 : ∀ i, i < n → X i < R4) (HL : Laid W) (h1 : F ≠ 1) (h2 : F ≠ 2) : Calls Tryz.prog 105 [.agg #[.int .i64 F, .int .i64 T, .int .i64 I, .int .i64 L, .slice la n lc]].toArray W fun e w => e = .returned (.int .i64 (shErr F T I L n X)) ∧ Below W.heap.size W w := by
  refine c_enter (args := [.agg #[.int .i64 F, .int .i64 T, .int .i64 I, .int .i64 L, .slice la n lc]]) Tryz.func105 rfl rfl rfl fun a hk => ?_
  have hs := Sat.start W [lst 4 (.slice la n lc) n (en vq X n)] (fun r hr => by rcases List.mem_singleton.1 hr with rfl; exact HX)
  refine wpIn_seq ?_
  refine wpIn_region_lit ?_
  refine q_box (vs := [.int .i64 F, .int .i64 T, .int .i64 I, .int .i64 L, .slice la n lc]) hk hs rfl rfl rfl rfl fun b1 w a hk hs => ?_
  refine q_val hk (w_as rfl) rfl rfl rfl fun a hk => ?_
  refine (c_end (x_t ?_))
  refine wpIn_seq ?_
  refine wpIn_region_lit ?_
  refine q_val hk (w_fa rfl fq53_0 ty3) rfl rfl rfl fun a hk => ?_
  refine q_val hk (w_ld1 rfl ty3 (.blk (n := 1) (hs.mi 0 rfl) rfl)) rfl rfl rfl fun a hk => ?_
  refine q_call (caps := []) hk rfl rfl Tryz.func85 fo85 rfl rfl (getBad_c F h1 h2 _ (HL.step hs.toBelow)) ?_
  rintro _ w ⟨rfl, hb⟩
  have hs := hs.below hb
  refine ⟨_, rfl, fun a hk => ?_⟩
  refine q_val hk (w_mv rfl) rfl rfl rfl fun a hk => ?_
  refine q_val hk (w_ext rfl rfl) rfl rfl rfl fun a hk => ?_
  refine q_val hk (w_ext rfl rfl) rfl rfl rfl fun a hk => ?_
  refine q_alc (vs := [.int .i64 0, .int .u64 0, .int .u64 0, .int .u64 0, .int .u64 0, .int .u64 0, .int .u64 0, .int .u64 0, .int .u64 0, .int .u64 0, .int .u64 0, .int .u64 0, .int .u64 0, .int .u64 0]) hk hs zr120 rfl rfl rfl fun b2 w a hk hs => ?_
  refine q_sto (o := 0) (cs := [.int .i64 0, .int .u64 0, .int .u64 0, .int .u64 0, .int .u64 0, .int .u64 0, .int .u64 0, .int .u64 0, .int .u64 0, .int .u64 0, .int .u64 0, .int .u64 0, .int .u64 0, .int .u64 0]) (vs' := [.int .i64 0, .int .u64 0, .int .u64 0, .int .u64 0, .int .u64 0, .int .u64 0, .int .u64 0, .int .u64 0, .int .u64 0, .int .u64 0, .int .u64 0, .int .u64 0, .int .u64 0, .int .u64 0]) hk hs rfl rfl rfl ty120 rfl rfl rfl rfl rfl rfl fun w hs => ?_
  refine q_val hk (w_as rfl) rfl rfl rfl fun a hk => ?_
  refine (c_end (x_t ?_))
  refine wpIn_seq ?_
  refine wpIn_block ?_
  refine wpIn_seq ?_
  refine wpIn_region_lit ?_
  refine q_val hk (w_mv rfl) rfl rfl rfl fun a hk => ?_
  refine q_val hk (w_ne rfl rfl (decide_eq_true (by decide))) rfl rfl rfl fun a hk => ?_
  refine q_val hk (w_as rfl) rfl rfl rfl fun a hk => ?_
  refine (c_end (x_t ?_))
  refine c_T hk rfl ?_
  refine wpIn_seq ?_
  refine wpIn_region_lit ?_
  refine q_val hk (w_mv rfl) rfl rfl rfl fun a hk => ?_
  refine q_val hk (w_as rfl) rfl rfl rfl fun a hk => ?_
  refine (c_end (x_t ?_))
  refine (wpIn_ret (x_br (x_tr ?_)))
  refine c_ret1 hk rfl rfl ?_
  exact ⟨by unfold shErr; rw [if_neg (by omega)], hs.toBelow⟩
theorem ckShare_s (s : Bool) (T I L : Int) (la : Option Addr) (n lc : Nat) (X : Nat → Nat) (W : World) (HX : LstAt W 4 (.slice la n lc) n (en vq X n)) (hn : n ≤ 100000000) (H4 : ∀ i, i < n → X i < R4) (HL : Laid W) : Calls Tryz.prog 105 [.agg #[.int .i64 (fid s), .int .i64 T, .int .i64 I, .int .i64 L, .slice la n lc]].toArray W fun e w => e = .returned (.int .i64 (shErr (fid s) T I L n X)) ∧ Below W.heap.size W w := by
  refine c_enter (args := [.agg #[.int .i64 (fid s), .int .i64 T, .int .i64 I, .int .i64 L, .slice la n lc]]) Tryz.func105 rfl rfl rfl fun a hk => ?_
  have hs := Sat.start W [lst 4 (.slice la n lc) n (en vq X n)] (fun r hr => by rcases List.mem_singleton.1 hr with rfl; exact HX)
  refine wpIn_seq ?_
  refine wpIn_region_lit ?_
  refine q_box (vs := [.int .i64 (fid s), .int .i64 T, .int .i64 I, .int .i64 L, .slice la n lc]) hk hs rfl rfl rfl rfl fun b1 w a hk hs => ?_
  refine q_val hk (w_as rfl) rfl rfl rfl fun a hk => ?_
  refine (c_end (x_t ?_))
  refine wpIn_seq ?_
  refine wpIn_region_lit ?_
  refine q_val hk (w_fa rfl fq53_0 ty3) rfl rfl rfl fun a hk => ?_
  refine q_val hk (w_ld1 rfl ty3 (.blk (n := 1) (hs.mi 0 rfl) rfl)) rfl rfl rfl fun a hk => ?_
  refine q_call (caps := []) hk rfl rfl Tryz.func85 fo85 rfl rfl (get_c s _ (HL.step hs.toBelow)) ?_
  rintro _ w ⟨rfl, hb⟩
  have hs := hs.below hb
  refine ⟨_, rfl, fun a hk => ?_⟩
  refine q_val hk (w_mv rfl) rfl rfl rfl fun a hk => ?_
  refine q_val hk (w_ext rfl rfl) rfl rfl rfl fun a hk => ?_
  refine q_val hk (w_ext rfl rfl) rfl rfl rfl fun a hk => ?_
  refine q_alc (vs := [.int .i64 0, .int .u64 0, .int .u64 0, .int .u64 0, .int .u64 0, .int .u64 0, .int .u64 0, .int .u64 0, .int .u64 0, .int .u64 0, .int .u64 0, .int .u64 0, .int .u64 0, .int .u64 0]) hk hs zr120 rfl rfl rfl fun b2 w a hk hs => ?_
  refine q_sto (o := 0) (cs := fieldL s) (vs' := fieldL s) hk hs rfl rfl rfl ty120 rfl rfl rfl rfl rfl rfl fun w hs => ?_
  refine q_val hk (w_as rfl) rfl rfl rfl fun a hk => ?_
  refine (c_end (x_t ?_))
  refine wpIn_seq ?_
  refine wpIn_block ?_
  refine wpIn_seq ?_
  refine wpIn_region_lit ?_
  refine q_val hk (w_mv rfl) rfl rfl rfl fun a hk => ?_
  refine q_val hk (w_ne rfl rfl (decide_eq_false (by decide))) rfl rfl rfl fun a hk => ?_
  refine q_val hk (w_as rfl) rfl rfl rfl fun a hk => ?_
  refine (c_end (x_t ?_))
  refine c_F hk rfl ?_
  refine wpIn_seq ?_
  refine wpIn_region_lit ?_
  refine q_val hk (w_fa rfl fq53_1 ty3) rfl rfl rfl fun a hk => ?_
  refine q_val hk (w_ld1 rfl ty3 (.blk (n := 1) (hs.mi 1 rfl) rfl)) rfl rfl rfl fun a hk => ?_
  rcases Classical.em (1 ≤ T ∧ T ≤ 255) with hc3 | hc3
  · skip
    refine q_call (caps := []) hk rfl rfl Tryz.func136 fo136 rfl rfl (between_t _ _ _ _ hc3) ?_
    rintro _ _ ⟨rfl, rfl⟩
    refine ⟨_, rfl, fun a hk => ?_⟩
    refine q_val hk (w_not rfl) rfl rfl rfl fun a hk => ?_
    refine q_val hk (w_as rfl) rfl rfl rfl fun a hk => ?_
    refine (c_end (x_t ?_))
    refine c_F hk rfl ?_
    refine wpIn_seq ?_
    refine wpIn_region_lit ?_
    refine q_val hk (w_fa rfl fq53_2 ty3) rfl rfl rfl fun a hk => ?_
    refine q_val hk (w_ld1 rfl ty3 (.blk (n := 1) (hs.mi 1 rfl) rfl)) rfl rfl rfl fun a hk => ?_
    rcases Classical.em (1 ≤ I ∧ I ≤ 255) with hc4 | hc4
    · skip
      refine q_call (caps := []) hk rfl rfl Tryz.func136 fo136 rfl rfl (between_t _ _ _ _ hc4) ?_
      rintro _ _ ⟨rfl, rfl⟩
      refine ⟨_, rfl, fun a hk => ?_⟩
      refine q_val hk (w_not rfl) rfl rfl rfl fun a hk => ?_
      refine q_val hk (w_as rfl) rfl rfl rfl fun a hk => ?_
      refine (c_end (x_t ?_))
      refine c_F hk rfl ?_
      refine wpIn_seq ?_
      refine wpIn_region_lit ?_
      refine q_val hk (w_fa rfl fq53_3 ty3) rfl rfl rfl fun a hk => ?_
      refine q_val hk (w_ld1 rfl ty3 (.blk (n := 1) (hs.mi 1 rfl) rfl)) rfl rfl rfl fun a hk => ?_
      rcases Classical.em (0 ≤ L ∧ L ≤ 65535) with hc5 | hc5
      · skip
        refine q_call (caps := []) hk rfl rfl Tryz.func136 fo136 rfl rfl (between_t _ _ _ _ hc5) ?_
        rintro _ _ ⟨rfl, rfl⟩
        refine ⟨_, rfl, fun a hk => ?_⟩
        refine q_val hk (w_not rfl) rfl rfl rfl fun a hk => ?_
        refine q_val hk (w_as rfl) rfl rfl rfl fun a hk => ?_
        refine (c_end (x_t ?_))
        refine c_F hk rfl ?_
        refine wpIn_seq ?_
        rcases Classical.em (((n : Nat) : Int) ≠ ((cn L : Nat) : Int)) with hc6 | hc6
        · skip
          have hL := okL.cons (hs.mi 1 rfl) okL.nil
          refine d_begin _ 8 (by kernel_rfl) rfl hs hL fun w hs hL => ?_
          refine d_v 0 1 hk hL rfl (by kernel_rfl) rfl rfl (fun w hL => w_fa rfl fq53_4 ty51) fun a hk => ?_
          refine d_v 1 3 hk hL rfl (by kernel_rfl) rfl rfl (fun w hL => w_ld1 rfl ty51 (.blk (n := 1) (hL.at 0 rfl) rfl)) fun a hk => ?_
          refine d_v 2 7 hk hL rfl (by kernel_rfl) rfl rfl (fun w hL => w_len rfl Tryz.underlying51) fun a hk => ?_
          refine d_v 3 15 hk hL rfl (by kernel_rfl) rfl rfl (fun w hL => w_fa rfl fq53_3 ty3) fun a hk => ?_
          refine d_v 4 31 hk hL rfl (by kernel_rfl) rfl rfl (fun w hL => w_ld1 rfl ty3 (.blk (n := 1) (hL.at 0 rfl) rfl)) fun a hk => ?_
          refine d_1 5 63 rfl (by kernel_rfl) fun K hK => ?_
          refine q_call (caps := []) hk rfl rfl Tryz.func123 fo123 rfl rfl (count_c L _) ?_
          rintro _ _ ⟨rfl, rfl⟩
          refine ⟨_, rfl, fun a hk => ?_⟩
          have hL := okL.cons (hs.mi 1 rfl) okL.nil
          refine c_end (x_t (hK _ _ hL ?_))
          clear hK K
          refine d_v 6 127 hk hL rfl (by kernel_rfl) rfl rfl (fun w hL => w_ne rfl rfl (decide_eq_true hc6)) fun a hk => ?_
          refine d_v 7 255 hk hL rfl (by kernel_rfl) rfl rfl (fun w hL => w_as rfl) fun a hk => ?_
          refine d_end (by kernel_rfl) ?_
          refine (x_t ?_)
          refine c_T hk rfl ?_
          refine wpIn_seq ?_
          refine wpIn_region_lit ?_
          refine q_val hk (w_as rfl) rfl rfl rfl fun a hk => ?_
          refine (c_end (x_t ?_))
          refine (wpIn_ret (x_br (x_tr ?_)))
          refine c_ret1 hk rfl rfl ?_
          refine ⟨?_, hs.toBelow⟩
          have ho := fid_or s
          unfold shErr
          rw [fid_dec, if_pos ho]
          (repeat' split) <;> first | rfl | omega | contradiction | exact absurd (hob.symm.trans (by assumption)) Bool.false_ne_true
        · skip
          have hL := okL.cons (hs.mi 1 rfl) okL.nil
          refine d_begin _ 8 (by kernel_rfl) rfl hs hL fun w hs hL => ?_
          refine d_v 0 1 hk hL rfl (by kernel_rfl) rfl rfl (fun w hL => w_fa rfl fq53_4 ty51) fun a hk => ?_
          refine d_v 1 3 hk hL rfl (by kernel_rfl) rfl rfl (fun w hL => w_ld1 rfl ty51 (.blk (n := 1) (hL.at 0 rfl) rfl)) fun a hk => ?_
          refine d_v 2 7 hk hL rfl (by kernel_rfl) rfl rfl (fun w hL => w_len rfl Tryz.underlying51) fun a hk => ?_
          refine d_v 3 15 hk hL rfl (by kernel_rfl) rfl rfl (fun w hL => w_fa rfl fq53_3 ty3) fun a hk => ?_
          refine d_v 4 31 hk hL rfl (by kernel_rfl) rfl rfl (fun w hL => w_ld1 rfl ty3 (.blk (n := 1) (hL.at 0 rfl) rfl)) fun a hk => ?_
          refine d_1 5 63 rfl (by kernel_rfl) fun K hK => ?_
          refine q_call (caps := []) hk rfl rfl Tryz.func123 fo123 rfl rfl (count_c L _) ?_
          rintro _ _ ⟨rfl, rfl⟩
          refine ⟨_, rfl, fun a hk => ?_⟩
          have hL := okL.cons (hs.mi 1 rfl) okL.nil
          refine c_end (x_t (hK _ _ hL ?_))
          clear hK K
          refine d_v 6 127 hk hL rfl (by kernel_rfl) rfl rfl (fun w hL => w_ne rfl rfl (decide_eq_false hc6)) fun a hk => ?_
          refine d_v 7 255 hk hL rfl (by kernel_rfl) rfl rfl (fun w hL => w_as rfl) fun a hk => ?_
          refine d_end (by kernel_rfl) ?_
          refine (x_t ?_)
          refine c_F hk rfl ?_
          refine (wpIn_skip (x_b (x_t ?_)))
          refine wpIn_seq ?_
          refine wpIn_region_lit ?_
          refine q_val hk (w_ldA rfl ty120 (.blk (n := 14) (hs.mi 0 rfl) rfl) rfl) rfl rfl rfl fun a hk => ?_
          refine q_val hk (w_bldv0 Tryz.underlying47 ty46 zr47) rfl rfl rfl fun a hk => ?_
          refine q_call (caps := []) hk rfl rfl Tryz.func137 fo137 rfl rfl (contAm s 0 (by decide) _) ?_
          rintro _ w ⟨rfl, hb⟩
          have hs := hs.below hb
          refine ⟨_, rfl, fun a hk => ?_⟩
          refine q_val hk (w_as rfl) rfl rfl rfl fun a hk => ?_
          refine (c_end (x_t ?_))
          refine wpIn_seq ?_
          refine wpIn_seq ?_
          refine wpIn_region_lit ?_
          refine q_val hk (w_fa rfl fq53_4 ty51) rfl rfl rfl fun a hk => ?_
          refine q_val hk (w_ld1 rfl ty51 (.blk (n := 1) (hs.mi 1 rfl) rfl)) rfl rfl rfl fun a hk => ?_
          refine q_val hk (w_len rfl Tryz.underlying51) rfl rfl rfl fun a hk => ?_
          refine q_val hk (w_mv rfl) rfl rfl rfl fun a hk => ?_
          refine (c_end (x_t ?_))
          refine wpIn_block ?_
          rw [show decide (0 < pr s) = okB s X 0 from decide_eq_true (pr_pos s)] at hk
          refine c_loop (α := Nat) (fun k a w => k ≤ n ∧ Kn [] 59 [(47, .int .i64 (k : Int)), (5, .int .u64 (am (okB s X k))), (46, .int .i64 ((n : Nat) : Int)), (45, .slice la n lc), (3, .pointer (some ⟨b2, 0, none⟩)), (2, .int .i64 0)] a ∧ Sat no W [blk b2 (fieldL s) 120, blk b1 [.int .i64 (fid s), .int .i64 T, .int .i64 I, .int .i64 L, .slice la n lc] 53] [lst 4 (.slice la n lc) n (en vq X n)] w) (fun k => n - k) 0 ?_ ?_
          · exact ⟨(by omega), hk.k rfl (hk.k rfl (hk.k rfl (hk.k rfl (hk.k rfl (hk.k rfl hk.nil))))), hs⟩
          rintro k a w ⟨hf0, hk, hs⟩
          refine wpIn_seq ?_
          refine wpIn_region_lit ?_
          rcases Classical.em ((k : Int) < ((n : Nat) : Int)) with hc7 | hc7
          · skip
            have hlt : k < n := by omega
            refine q_val hk (w_lt rfl rfl (decide_eq_true hc7)) rfl rfl rfl fun a hk => ?_
            refine (c_end (x_t ?_))
            refine wpIn_seq ?_
            refine c_T hk rfl ?_
            refine (wpIn_skip (x_t ?_))
            refine wpIn_seq ?_
            refine wpIn_block ?_
            refine wpIn_seq ?_
            refine wpIn_region_lit ?_
            refine q_val hk (w_iaL (k := k) rfl rfl Tryz.underlying51 ty56 (hs.ri 0 rfl) (by omega) (by omega)) rfl rfl rfl fun a hk => ?_
            refine q_val hk (w_ldv (z := X k) rfl ty56 (lstq (k := k) (hs.ri 0 rfl) (by omega) (en_chunk vq_len (by omega)))) rfl rfl rfl fun a hk => ?_
            refine q_alc (vs := [.int .u64 0, .int .u64 0, .int .u64 0, .int .u64 0]) hk hs zr56 rfl rfl rfl fun b8 w a hk hs => ?_
            refine q_sto (o := 0) (cs := [.int .u64 ((dg 0 (X k) : Nat) : Int), .int .u64 ((dg 1 (X k) : Nat) : Int), .int .u64 ((dg 2 (X k) : Nat) : Int), .int .u64 ((dg 3 (X k) : Nat) : Int)]) (vs' := [.int .u64 ((dg 0 (X k) : Nat) : Int), .int .u64 ((dg 1 (X k) : Nat) : Int), .int .u64 ((dg 2 (X k) : Nat) : Int), .int .u64 ((dg 3 (X k) : Nat) : Int)]) hk hs rfl rfl rfl ty56 rfl rfl rfl rfl rfl rfl fun w hs => ?_
            refine (c_end (x_t ?_))
            refine wpIn_region_lit ?_
            refine q_val hk (w_mv rfl) rfl rfl rfl fun a hk => ?_
            refine q_val hk (w_ldA rfl ty120 (.blk (n := 14) (hs.mi 1 rfl) rfl) rfl) rfl rfl rfl fun a hk => ?_
            refine q_val hk (w_ldv (z := X k) rfl ty56 (.blk (n := 4) (hs.mi 0 rfl) rfl)) rfl rfl rfl fun a hk => ?_
            refine q_call (caps := []) hk rfl rfl Tryz.func137 fo137 rfl rfl (contAm s (X k) (H4 k hlt) _) ?_
            rintro _ w ⟨rfl, hb⟩
            have hs := hs.below hb
            refine ⟨_, rfl, fun a hk => ?_⟩
            refine q_val hk (w_andam rfl rfl) rfl rfl rfl fun a hk => ?_
            refine q_val hk (w_as rfl) rfl rfl rfl fun a hk => ?_
            refine (c_end (x_b (x_t ?_)))
            refine wpIn_region_lit ?_
            refine q_val hk (w_add rfl rfl (wr64 (by omega) (by omega))) rfl rfl rfl fun a hk => ?_
            refine q_val hk (w_mv rfl) rfl rfl rfl fun a hk => ?_
            refine (c_end (x_t ?_))
            rw [← okB_succ] at hk
            have hs := hs.drop
            exact ⟨k + 1, ⟨(by omega), hk.k rfl (hk.k rfl (hk.k rfl (hk.k rfl (hk.k rfl (hk.k rfl hk.nil))))), hs⟩, by omega⟩
          · skip
            obtain rfl : n = k := by omega
            refine q_val hk (w_lt rfl rfl (decide_eq_false hc7)) rfl rfl rfl fun a hk => ?_
            refine (c_end (x_t ?_))
            refine wpIn_seq ?_
            refine c_F hk rfl ?_
            refine (wpIn_exit (x_te (x_te (x_be ?_))))
            refine (x_t ?_)
            refine wpIn_seq ?_
            refine wpIn_seq ?_
            refine wpIn_region_lit ?_
            refine q_val hk (w_mv rfl) rfl rfl rfl fun a hk => ?_
            rcases Classical.em ((am (okB s X n)) = 0) with hc9 | hc9
            · skip
              have hob : okB s X n = false := (am_zero _).1 hc9
              refine q_val hk (w_eq rfl rfl (decide_eq_true hc9)) rfl rfl rfl fun a hk => ?_
              refine (c_end (x_t ?_))
              refine c_T hk rfl ?_
              refine wpIn_seq ?_
              refine wpIn_region_lit ?_
              refine q_val hk (w_as rfl) rfl rfl rfl fun a hk => ?_
              refine (c_end (x_t ?_))
              refine (wpIn_ret (x_tr ?_))
              refine c_ret1 hk rfl rfl ?_
              refine ⟨?_, hs.toBelow⟩
              have ho := fid_or s
              unfold shErr
              rw [fid_dec, if_pos ho]
              (repeat' split) <;> first | rfl | omega | contradiction | exact absurd (hob.symm.trans (by assumption)) Bool.false_ne_true
            · skip
              have hob : okB s X n = true := okB_am hc9
              refine q_val hk (w_eq rfl rfl (decide_eq_false hc9)) rfl rfl rfl fun a hk => ?_
              refine (c_end (x_t ?_))
              refine c_F hk rfl ?_
              refine (wpIn_skip (x_t ?_))
              refine wpIn_seq ?_
              refine wpIn_region_lit ?_
              refine q_val hk (w_as rfl) rfl rfl rfl fun a hk => ?_
              refine (c_end (x_t ?_))
              refine (wpIn_ret ?_)
              refine c_ret1 hk rfl rfl ?_
              refine ⟨?_, hs.toBelow⟩
              have ho := fid_or s
              unfold shErr
              rw [fid_dec, if_pos ho]
              (repeat' split) <;> first | rfl | omega | contradiction | exact absurd (hob.symm.trans (by assumption)) Bool.false_ne_true
      · skip
        refine q_call (caps := []) hk rfl rfl Tryz.func136 fo136 rfl rfl (between_f _ _ _ _ hc5) ?_
        rintro _ _ ⟨rfl, rfl⟩
        refine ⟨_, rfl, fun a hk => ?_⟩
        refine q_val hk (w_not rfl) rfl rfl rfl fun a hk => ?_
        refine q_val hk (w_as rfl) rfl rfl rfl fun a hk => ?_
        refine (c_end (x_t ?_))
        refine c_T hk rfl ?_
        refine wpIn_seq ?_
        refine wpIn_region_lit ?_
        refine q_val hk (w_as rfl) rfl rfl rfl fun a hk => ?_
        refine (c_end (x_t ?_))
        refine (wpIn_ret (x_br (x_tr ?_)))
        refine c_ret1 hk rfl rfl ?_
        refine ⟨?_, hs.toBelow⟩
        have ho := fid_or s
        unfold shErr
        rw [fid_dec, if_pos ho]
        (repeat' split) <;> first | rfl | omega | contradiction | exact absurd (hob.symm.trans (by assumption)) Bool.false_ne_true
    · skip
      refine q_call (caps := []) hk rfl rfl Tryz.func136 fo136 rfl rfl (between_f _ _ _ _ hc4) ?_
      rintro _ _ ⟨rfl, rfl⟩
      refine ⟨_, rfl, fun a hk => ?_⟩
      refine q_val hk (w_not rfl) rfl rfl rfl fun a hk => ?_
      refine q_val hk (w_as rfl) rfl rfl rfl fun a hk => ?_
      refine (c_end (x_t ?_))
      refine c_T hk rfl ?_
      refine wpIn_seq ?_
      refine wpIn_region_lit ?_
      refine q_val hk (w_as rfl) rfl rfl rfl fun a hk => ?_
      refine (c_end (x_t ?_))
      refine (wpIn_ret (x_br (x_tr ?_)))
      refine c_ret1 hk rfl rfl ?_
      refine ⟨?_, hs.toBelow⟩
      have ho := fid_or s
      unfold shErr
      rw [fid_dec, if_pos ho]
      (repeat' split) <;> first | rfl | omega | contradiction | exact absurd (hob.symm.trans (by assumption)) Bool.false_ne_true
  · skip
    refine q_call (caps := []) hk rfl rfl Tryz.func136 fo136 rfl rfl (between_f _ _ _ _ hc3) ?_
    rintro _ _ ⟨rfl, rfl⟩
    refine ⟨_, rfl, fun a hk => ?_⟩
    refine q_val hk (w_not rfl) rfl rfl rfl fun a hk => ?_
    refine q_val hk (w_as rfl) rfl rfl rfl fun a hk => ?_
    refine (c_end (x_t ?_))
    refine c_T hk rfl ?_
    refine wpIn_seq ?_
    refine wpIn_region_lit ?_
    refine q_val hk (w_as rfl) rfl rfl rfl fun a hk => ?_
    refine (c_end (x_t ?_))
    refine (wpIn_ret (x_br (x_tr ?_)))
    refine c_ret1 hk rfl rfl ?_
    refine ⟨?_, hs.toBelow⟩
    have ho := fid_or s
    unfold shErr
    rw [fid_dec, if_pos ho]
    (repeat' split) <;> first | rfl | omega | contradiction | exact absurd (hob.symm.trans (by assumption)) Bool.false_ne_true
theorem rdc_R4 {p v : Nat} (hp : 0 < p) (hv : v < R4) : rdc p v 0 < R4 := by
  by_cases h : v < p
  · rw [rdc_lt h]; exact hv
  · exact (rdc_ne hp hv h).2
theorem okB_bad {s : Bool} {X : Nat → Nat} {n k : Nat} (hk : k < n) (h : rdc (pr s) (X k) 0 ≠ X k) : okB s X n = false := by
  rw [Bool.eq_false_iff]
  intro ho
  exact h (rdc_lt (okB_at ho hk))
theorem okB_next {s : Bool} {X : Nat → Nat} {k : Nat} (ho : okB s X k = true) (h4 : X k < R4) (h : ¬ rdc (pr s) (X k) 0 ≠ X k) : okB s X (k + 1) = true := by
  rw [okB_succ, ho]
  by_cases hp : X k < pr s
  · simpa using hp
  · exact absurd (rdc_ne (pr_pos s) h4 hp).1 h
theorem refCkShare_bad (F T I L : Int) (la : Option Addr) (n lc : Nat) (X : Nat → Nat) (W : World) (HX : LstAt W 4 (.slice la n lc) n (en vq X n)) (hn : n ≤ 100000000) (H4 : ∀ i, i < n → X i < R4) (h1 : F ≠ 1) (h2 : F ≠ 2) : Calls Tryz.prog 56 [.agg #[.int .i64 F, .int .i64 T, .int .i64 I, .int .i64 L, .slice la n lc]].toArray W fun e w => e = .returned (.int .i64 (shErr F T I L n X)) ∧ Below W.heap.size W w := by
  refine c_enter (args := [.agg #[.int .i64 F, .int .i64 T, .int .i64 I, .int .i64 L, .slice la n lc]]) Tryz.func56 rfl rfl rfl fun a hk => ?_
  have hs := Sat.start W [lst 4 (.slice la n lc) n (en vq X n)] (fun r hr => by rcases List.mem_singleton.1 hr with rfl; exact HX)
  refine wpIn_seq ?_
  refine wpIn_region_lit ?_
  refine q_box (vs := [.int .i64 F, .int .i64 T, .int .i64 I, .int .i64 L, .slice la n lc]) hk hs rfl rfl rfl rfl fun b1 w a hk hs => ?_
  refine q_val hk (w_as rfl) rfl rfl rfl fun a hk => ?_
  refine (c_end (x_t ?_))
  refine wpIn_seq ?_
  refine wpIn_block ?_
  refine wpIn_seq ?_
  refine wpIn_region_lit ?_
  refine q_val hk (w_fa rfl fq53_0 ty3) rfl rfl rfl fun a hk => ?_
  refine q_val hk (w_ld1 rfl ty3 (.blk (n := 1) (hs.mi 0 rfl) rfl)) rfl rfl rfl fun a hk => ?_
  refine q_call (caps := []) hk rfl rfl Tryz.func102 fo102 rfl rfl (known_f _ _ (fun h => h.elim h1 h2)) ?_
  rintro _ _ ⟨rfl, rfl⟩
  refine ⟨_, rfl, fun a hk => ?_⟩
  refine q_val hk (w_not rfl) rfl rfl rfl fun a hk => ?_
  refine q_val hk (w_as rfl) rfl rfl rfl fun a hk => ?_
  refine (c_end (x_t ?_))
  refine c_T hk rfl ?_
  refine wpIn_seq ?_
  refine wpIn_region_lit ?_
  refine q_val hk (w_as rfl) rfl rfl rfl fun a hk => ?_
  refine (c_end (x_t ?_))
  refine (wpIn_ret (x_br (x_tr ?_)))
  refine c_ret1 hk rfl rfl ?_
  exact ⟨by unfold shErr; rw [if_neg (by omega)], hs.toBelow⟩
theorem refCkShare_s (s : Bool) (T I L : Int) (la : Option Addr) (n lc : Nat) (X : Nat → Nat) (W : World) (HX : LstAt W 4 (.slice la n lc) n (en vq X n)) (hn : n ≤ 100000000) (H4 : ∀ i, i < n → X i < R4) : Calls Tryz.prog 56 [.agg #[.int .i64 (fid s), .int .i64 T, .int .i64 I, .int .i64 L, .slice la n lc]].toArray W fun e w => e = .returned (.int .i64 (shErr (fid s) T I L n X)) ∧ Below W.heap.size W w := by
  refine c_enter (args := [.agg #[.int .i64 (fid s), .int .i64 T, .int .i64 I, .int .i64 L, .slice la n lc]]) Tryz.func56 rfl rfl rfl fun a hk => ?_
  have hs := Sat.start W [lst 4 (.slice la n lc) n (en vq X n)] (fun r hr => by rcases List.mem_singleton.1 hr with rfl; exact HX)
  refine wpIn_seq ?_
  refine wpIn_region_lit ?_
  refine q_box (vs := [.int .i64 (fid s), .int .i64 T, .int .i64 I, .int .i64 L, .slice la n lc]) hk hs rfl rfl rfl rfl fun b1 w a hk hs => ?_
  refine q_val hk (w_as rfl) rfl rfl rfl fun a hk => ?_
  refine (c_end (x_t ?_))
  refine wpIn_seq ?_
  refine wpIn_block ?_
  refine wpIn_seq ?_
  refine wpIn_region_lit ?_
  refine q_val hk (w_fa rfl fq53_0 ty3) rfl rfl rfl fun a hk => ?_
  refine q_val hk (w_ld1 rfl ty3 (.blk (n := 1) (hs.mi 0 rfl) rfl)) rfl rfl rfl fun a hk => ?_
  refine q_call (caps := []) hk rfl rfl Tryz.func102 fo102 rfl rfl (known_t _ _ (fid_or s)) ?_
  rintro _ _ ⟨rfl, rfl⟩
  refine ⟨_, rfl, fun a hk => ?_⟩
  refine q_val hk (w_not rfl) rfl rfl rfl fun a hk => ?_
  refine q_val hk (w_as rfl) rfl rfl rfl fun a hk => ?_
  refine (c_end (x_t ?_))
  refine c_F hk rfl ?_
  refine wpIn_seq ?_
  refine wpIn_region_lit ?_
  refine q_val hk (w_fa rfl fq53_1 ty3) rfl rfl rfl fun a hk => ?_
  refine q_val hk (w_ld1 rfl ty3 (.blk (n := 1) (hs.mi 0 rfl) rfl)) rfl rfl rfl fun a hk => ?_
  rcases Classical.em (T < 1) with hc2 | hc2
  · skip
    refine q_val hk (w_lt rfl rfl (decide_eq_true hc2)) rfl rfl rfl fun a hk => ?_
    refine q_val hk (w_mv rfl) rfl rfl rfl fun a hk => ?_
    refine q_skip hk rfl rfl fun a hk => ?_
    refine q_skip hk rfl rfl fun a hk => ?_
    refine q_skip hk rfl rfl fun a hk => ?_
    refine q_val hk (w_pickT rfl rfl) rfl rfl rfl fun a hk => ?_
    refine q_val hk (w_as rfl) rfl rfl rfl fun a hk => ?_
    refine (c_end (x_t ?_))
    refine c_T hk rfl ?_
    refine wpIn_seq ?_
    refine wpIn_region_lit ?_
    refine q_val hk (w_as rfl) rfl rfl rfl fun a hk => ?_
    refine (c_end (x_t ?_))
    refine (wpIn_ret (x_br (x_tr ?_)))
    refine c_ret1 hk rfl rfl ?_
    refine ⟨?_, hs.toBelow⟩
    have ho := fid_or s
    unfold shErr
    rw [fid_dec, if_pos ho]
    (repeat' split) <;> first | rfl | omega | contradiction | exact absurd (hob.symm.trans (by assumption)) Bool.false_ne_true
  · skip
    refine q_val hk (w_lt rfl rfl (decide_eq_false hc2)) rfl rfl rfl fun a hk => ?_
    refine q_val hk (w_mv rfl) rfl rfl rfl fun a hk => ?_
    refine q_val hk (w_fa rfl fq53_1 ty3) rfl rfl rfl fun a hk => ?_
    refine q_val hk (w_ld1 rfl ty3 (.blk (n := 1) (hs.mi 0 rfl) rfl)) rfl rfl rfl fun a hk => ?_
    rcases Classical.em (255 < T) with hc3 | hc3
    · skip
      refine q_val hk (w_gt rfl rfl (decide_eq_true hc3)) rfl rfl rfl fun a hk => ?_
      refine q_val hk (w_pickF rfl rfl) rfl rfl rfl fun a hk => ?_
      refine q_val hk (w_as rfl) rfl rfl rfl fun a hk => ?_
      refine (c_end (x_t ?_))
      refine c_T hk rfl ?_
      refine wpIn_seq ?_
      refine wpIn_region_lit ?_
      refine q_val hk (w_as rfl) rfl rfl rfl fun a hk => ?_
      refine (c_end (x_t ?_))
      refine (wpIn_ret (x_br (x_tr ?_)))
      refine c_ret1 hk rfl rfl ?_
      refine ⟨?_, hs.toBelow⟩
      have ho := fid_or s
      unfold shErr
      rw [fid_dec, if_pos ho]
      (repeat' split) <;> first | rfl | omega | contradiction | exact absurd (hob.symm.trans (by assumption)) Bool.false_ne_true
    · skip
      refine q_val hk (w_gt rfl rfl (decide_eq_false hc3)) rfl rfl rfl fun a hk => ?_
      refine q_val hk (w_pickF rfl rfl) rfl rfl rfl fun a hk => ?_
      refine q_val hk (w_as rfl) rfl rfl rfl fun a hk => ?_
      refine (c_end (x_t ?_))
      refine c_F hk rfl ?_
      refine wpIn_seq ?_
      refine wpIn_region_lit ?_
      refine q_val hk (w_fa rfl fq53_2 ty3) rfl rfl rfl fun a hk => ?_
      refine q_val hk (w_ld1 rfl ty3 (.blk (n := 1) (hs.mi 0 rfl) rfl)) rfl rfl rfl fun a hk => ?_
      rcases Classical.em (I < 1) with hc4 | hc4
      · skip
        refine q_val hk (w_lt rfl rfl (decide_eq_true hc4)) rfl rfl rfl fun a hk => ?_
        refine q_val hk (w_mv rfl) rfl rfl rfl fun a hk => ?_
        refine q_skip hk rfl rfl fun a hk => ?_
        refine q_skip hk rfl rfl fun a hk => ?_
        refine q_skip hk rfl rfl fun a hk => ?_
        refine q_val hk (w_pickT rfl rfl) rfl rfl rfl fun a hk => ?_
        refine q_val hk (w_as rfl) rfl rfl rfl fun a hk => ?_
        refine (c_end (x_t ?_))
        refine c_T hk rfl ?_
        refine wpIn_seq ?_
        refine wpIn_region_lit ?_
        refine q_val hk (w_as rfl) rfl rfl rfl fun a hk => ?_
        refine (c_end (x_t ?_))
        refine (wpIn_ret (x_br (x_tr ?_)))
        refine c_ret1 hk rfl rfl ?_
        refine ⟨?_, hs.toBelow⟩
        have ho := fid_or s
        unfold shErr
        rw [fid_dec, if_pos ho]
        (repeat' split) <;> first | rfl | omega | contradiction | exact absurd (hob.symm.trans (by assumption)) Bool.false_ne_true
      · skip
        refine q_val hk (w_lt rfl rfl (decide_eq_false hc4)) rfl rfl rfl fun a hk => ?_
        refine q_val hk (w_mv rfl) rfl rfl rfl fun a hk => ?_
        refine q_val hk (w_fa rfl fq53_2 ty3) rfl rfl rfl fun a hk => ?_
        refine q_val hk (w_ld1 rfl ty3 (.blk (n := 1) (hs.mi 0 rfl) rfl)) rfl rfl rfl fun a hk => ?_
        rcases Classical.em (255 < I) with hc5 | hc5
        · skip
          refine q_val hk (w_gt rfl rfl (decide_eq_true hc5)) rfl rfl rfl fun a hk => ?_
          refine q_val hk (w_pickF rfl rfl) rfl rfl rfl fun a hk => ?_
          refine q_val hk (w_as rfl) rfl rfl rfl fun a hk => ?_
          refine (c_end (x_t ?_))
          refine c_T hk rfl ?_
          refine wpIn_seq ?_
          refine wpIn_region_lit ?_
          refine q_val hk (w_as rfl) rfl rfl rfl fun a hk => ?_
          refine (c_end (x_t ?_))
          refine (wpIn_ret (x_br (x_tr ?_)))
          refine c_ret1 hk rfl rfl ?_
          refine ⟨?_, hs.toBelow⟩
          have ho := fid_or s
          unfold shErr
          rw [fid_dec, if_pos ho]
          (repeat' split) <;> first | rfl | omega | contradiction | exact absurd (hob.symm.trans (by assumption)) Bool.false_ne_true
        · skip
          refine q_val hk (w_gt rfl rfl (decide_eq_false hc5)) rfl rfl rfl fun a hk => ?_
          refine q_val hk (w_pickF rfl rfl) rfl rfl rfl fun a hk => ?_
          refine q_val hk (w_as rfl) rfl rfl rfl fun a hk => ?_
          refine (c_end (x_t ?_))
          refine c_F hk rfl ?_
          refine wpIn_seq ?_
          refine wpIn_region_lit ?_
          refine q_val hk (w_fa rfl fq53_3 ty3) rfl rfl rfl fun a hk => ?_
          refine q_val hk (w_ld1 rfl ty3 (.blk (n := 1) (hs.mi 0 rfl) rfl)) rfl rfl rfl fun a hk => ?_
          rcases Classical.em (L < 0) with hc6 | hc6
          · skip
            refine q_val hk (w_lt rfl rfl (decide_eq_true hc6)) rfl rfl rfl fun a hk => ?_
            refine q_val hk (w_mv rfl) rfl rfl rfl fun a hk => ?_
            refine q_skip hk rfl rfl fun a hk => ?_
            refine q_skip hk rfl rfl fun a hk => ?_
            refine q_skip hk rfl rfl fun a hk => ?_
            refine q_val hk (w_pickT rfl rfl) rfl rfl rfl fun a hk => ?_
            refine q_val hk (w_as rfl) rfl rfl rfl fun a hk => ?_
            refine (c_end (x_t ?_))
            refine c_T hk rfl ?_
            refine wpIn_seq ?_
            refine wpIn_region_lit ?_
            refine q_val hk (w_as rfl) rfl rfl rfl fun a hk => ?_
            refine (c_end (x_t ?_))
            refine (wpIn_ret (x_br (x_tr ?_)))
            refine c_ret1 hk rfl rfl ?_
            refine ⟨?_, hs.toBelow⟩
            have ho := fid_or s
            unfold shErr
            rw [fid_dec, if_pos ho]
            (repeat' split) <;> first | rfl | omega | contradiction | exact absurd (hob.symm.trans (by assumption)) Bool.false_ne_true
          · skip
            refine q_val hk (w_lt rfl rfl (decide_eq_false hc6)) rfl rfl rfl fun a hk => ?_
            refine q_val hk (w_mv rfl) rfl rfl rfl fun a hk => ?_
            refine q_val hk (w_fa rfl fq53_3 ty3) rfl rfl rfl fun a hk => ?_
            refine q_val hk (w_ld1 rfl ty3 (.blk (n := 1) (hs.mi 0 rfl) rfl)) rfl rfl rfl fun a hk => ?_
            rcases Classical.em (65535 < L) with hc7 | hc7
            · skip
              refine q_val hk (w_gt rfl rfl (decide_eq_true hc7)) rfl rfl rfl fun a hk => ?_
              refine q_val hk (w_pickF rfl rfl) rfl rfl rfl fun a hk => ?_
              refine q_val hk (w_as rfl) rfl rfl rfl fun a hk => ?_
              refine (c_end (x_t ?_))
              refine c_T hk rfl ?_
              refine wpIn_seq ?_
              refine wpIn_region_lit ?_
              refine q_val hk (w_as rfl) rfl rfl rfl fun a hk => ?_
              refine (c_end (x_t ?_))
              refine (wpIn_ret (x_br (x_tr ?_)))
              refine c_ret1 hk rfl rfl ?_
              refine ⟨?_, hs.toBelow⟩
              have ho := fid_or s
              unfold shErr
              rw [fid_dec, if_pos ho]
              (repeat' split) <;> first | rfl | omega | contradiction | exact absurd (hob.symm.trans (by assumption)) Bool.false_ne_true
            · skip
              refine q_val hk (w_gt rfl rfl (decide_eq_false hc7)) rfl rfl rfl fun a hk => ?_
              refine q_val hk (w_pickF rfl rfl) rfl rfl rfl fun a hk => ?_
              refine q_val hk (w_as rfl) rfl rfl rfl fun a hk => ?_
              refine (c_end (x_t ?_))
              refine c_F hk rfl ?_
              refine wpIn_seq ?_
              rcases Classical.em (((n : Nat) : Int) ≠ ((cn L : Nat) : Int)) with hc8 | hc8
              · skip
                have hL := okL.cons (hs.mi 0 rfl) okL.nil
                refine d_begin _ 8 (by kernel_rfl) rfl hs hL fun w hs hL => ?_
                refine d_v 0 1 hk hL rfl (by kernel_rfl) rfl rfl (fun w hL => w_fa rfl fq53_4 ty51) fun a hk => ?_
                refine d_v 1 3 hk hL rfl (by kernel_rfl) rfl rfl (fun w hL => w_ld1 rfl ty51 (.blk (n := 1) (hL.at 0 rfl) rfl)) fun a hk => ?_
                refine d_v 2 7 hk hL rfl (by kernel_rfl) rfl rfl (fun w hL => w_len rfl Tryz.underlying51) fun a hk => ?_
                refine d_v 3 15 hk hL rfl (by kernel_rfl) rfl rfl (fun w hL => w_fa rfl fq53_3 ty3) fun a hk => ?_
                refine d_v 4 31 hk hL rfl (by kernel_rfl) rfl rfl (fun w hL => w_ld1 rfl ty3 (.blk (n := 1) (hL.at 0 rfl) rfl)) fun a hk => ?_
                refine d_1 5 63 rfl (by kernel_rfl) fun K hK => ?_
                refine q_call (caps := []) hk rfl rfl Tryz.func103 fo103 rfl rfl (refCount_c L (by omega) _) ?_
                rintro _ _ ⟨rfl, rfl⟩
                refine ⟨_, rfl, fun a hk => ?_⟩
                have hL := okL.cons (hs.mi 0 rfl) okL.nil
                refine c_end (x_t (hK _ _ hL ?_))
                clear hK K
                refine d_v 6 127 hk hL rfl (by kernel_rfl) rfl rfl (fun w hL => w_ne rfl rfl (decide_eq_true hc8)) fun a hk => ?_
                refine d_v 7 255 hk hL rfl (by kernel_rfl) rfl rfl (fun w hL => w_as rfl) fun a hk => ?_
                refine d_end (by kernel_rfl) ?_
                refine (x_t ?_)
                refine c_T hk rfl ?_
                refine wpIn_seq ?_
                refine wpIn_region_lit ?_
                refine q_val hk (w_as rfl) rfl rfl rfl fun a hk => ?_
                refine (c_end (x_t ?_))
                refine (wpIn_ret (x_br (x_tr ?_)))
                refine c_ret1 hk rfl rfl ?_
                refine ⟨?_, hs.toBelow⟩
                have ho := fid_or s
                unfold shErr
                rw [fid_dec, if_pos ho]
                (repeat' split) <;> first | rfl | omega | contradiction | exact absurd (hob.symm.trans (by assumption)) Bool.false_ne_true
              · skip
                have hL := okL.cons (hs.mi 0 rfl) okL.nil
                refine d_begin _ 8 (by kernel_rfl) rfl hs hL fun w hs hL => ?_
                refine d_v 0 1 hk hL rfl (by kernel_rfl) rfl rfl (fun w hL => w_fa rfl fq53_4 ty51) fun a hk => ?_
                refine d_v 1 3 hk hL rfl (by kernel_rfl) rfl rfl (fun w hL => w_ld1 rfl ty51 (.blk (n := 1) (hL.at 0 rfl) rfl)) fun a hk => ?_
                refine d_v 2 7 hk hL rfl (by kernel_rfl) rfl rfl (fun w hL => w_len rfl Tryz.underlying51) fun a hk => ?_
                refine d_v 3 15 hk hL rfl (by kernel_rfl) rfl rfl (fun w hL => w_fa rfl fq53_3 ty3) fun a hk => ?_
                refine d_v 4 31 hk hL rfl (by kernel_rfl) rfl rfl (fun w hL => w_ld1 rfl ty3 (.blk (n := 1) (hL.at 0 rfl) rfl)) fun a hk => ?_
                refine d_1 5 63 rfl (by kernel_rfl) fun K hK => ?_
                refine q_call (caps := []) hk rfl rfl Tryz.func103 fo103 rfl rfl (refCount_c L (by omega) _) ?_
                rintro _ _ ⟨rfl, rfl⟩
                refine ⟨_, rfl, fun a hk => ?_⟩
                have hL := okL.cons (hs.mi 0 rfl) okL.nil
                refine c_end (x_t (hK _ _ hL ?_))
                clear hK K
                refine d_v 6 127 hk hL rfl (by kernel_rfl) rfl rfl (fun w hL => w_ne rfl rfl (decide_eq_false hc8)) fun a hk => ?_
                refine d_v 7 255 hk hL rfl (by kernel_rfl) rfl rfl (fun w hL => w_as rfl) fun a hk => ?_
                refine d_end (by kernel_rfl) ?_
                refine (x_t ?_)
                refine c_F hk rfl ?_
                refine (wpIn_skip (x_b (x_t ?_)))
                refine wpIn_seq ?_
                refine wpIn_region_lit ?_
                refine q_val hk (w_fa rfl fq53_0 ty3) rfl rfl rfl fun a hk => ?_
                refine q_val hk (w_ld1 rfl ty3 (.blk (n := 1) (hs.mi 0 rfl) rfl)) rfl rfl rfl fun a hk => ?_
                refine q_call (caps := []) hk rfl rfl Tryz.func28 fo28 rfl rfl (refModulus_c s _) ?_
                rintro _ w ⟨rfl, hb⟩
                have hs := hs.below hb
                refine ⟨_, rfl, fun a hk => ?_⟩
                refine q_alc (vs := [.int .u64 0, .int .u64 0, .int .u64 0, .int .u64 0]) hk hs zr47 rfl rfl rfl fun b9 w a hk hs => ?_
                refine q_sto (o := 0) (cs := [.int .u64 ((dg 0 (pr s) : Nat) : Int), .int .u64 ((dg 1 (pr s) : Nat) : Int), .int .u64 ((dg 2 (pr s) : Nat) : Int), .int .u64 ((dg 3 (pr s) : Nat) : Int)]) (vs' := [.int .u64 ((dg 0 (pr s) : Nat) : Int), .int .u64 ((dg 1 (pr s) : Nat) : Int), .int .u64 ((dg 2 (pr s) : Nat) : Int), .int .u64 ((dg 3 (pr s) : Nat) : Int)]) hk hs rfl rfl rfl ty47 rfl rfl rfl rfl rfl rfl fun w hs => ?_
                refine (c_end (x_t ?_))
                refine wpIn_seq ?_
                refine wpIn_seq ?_
                refine wpIn_region_lit ?_
                refine q_val hk (w_as rfl) rfl rfl rfl fun a hk => ?_
                refine (c_end (x_t ?_))
                refine wpIn_block ?_
                refine c_loop (α := Nat) (fun k a w => k ≤ n ∧ okB s X k = true ∧ Kn [] 68 [(4, .int .i64 (k : Int)), (3, .pointer (some ⟨b9, 0, none⟩)), (1, .pointer (some ⟨b1, 0, none⟩))] a ∧ Sat no W [blk b9 [.int .u64 ((dg 0 (pr s) : Nat) : Int), .int .u64 ((dg 1 (pr s) : Nat) : Int), .int .u64 ((dg 2 (pr s) : Nat) : Int), .int .u64 ((dg 3 (pr s) : Nat) : Int)] 47, blk b1 [.int .i64 (fid s), .int .i64 T, .int .i64 I, .int .i64 L, .slice la n lc] 53] [lst 4 (.slice la n lc) n (en vq X n)] w) (fun k => n - k) 0 ?_ ?_
                · exact ⟨(by omega), rfl, hk.k rfl (hk.k rfl (hk.k rfl hk.nil)), hs⟩
                rintro k a w ⟨hf0, hf1, hk, hs⟩
                refine wpIn_seq ?_
                refine wpIn_seq ?_
                refine wpIn_region_lit ?_
                refine q_val hk (w_mv rfl) rfl rfl rfl fun a hk => ?_
                refine q_val hk (w_fa rfl fq53_4 ty51) rfl rfl rfl fun a hk => ?_
                refine q_val hk (w_ld1 rfl ty51 (.blk (n := 1) (hs.mi 1 rfl) rfl)) rfl rfl rfl fun a hk => ?_
                refine q_val hk (w_len rfl Tryz.underlying51) rfl rfl rfl fun a hk => ?_
                rcases Classical.em ((k : Int) < ((n : Nat) : Int)) with hc10 | hc10
                · skip
                  have hlt : k < n := by omega
                  refine q_val hk (w_lt rfl rfl (decide_eq_true hc10)) rfl rfl rfl fun a hk => ?_
                  refine (c_end (x_t ?_))
                  refine c_T hk rfl ?_
                  refine (wpIn_skip (x_t ?_))
                  refine wpIn_seq ?_
                  refine wpIn_block ?_
                  refine wpIn_seq ?_
                  rcases Classical.em (rdc (pr s) (X k) 0 ≠ X k) with hc11 | hc11
                  · skip
                    have hob := okB_bad hlt hc11
                    have hL := okL.cons (hs.mi 0 rfl) (okL.cons (hs.mi 1 rfl) (okL.cons (hs.ri 0 rfl) okL.nil))
                    refine d_begin _ 13 (by kernel_rfl) rfl hs hL fun w hs hL => ?_
                    refine d_v 0 1 hk hL rfl (by kernel_rfl) rfl rfl (fun w hL => w_ldv (z := pr s) rfl ty47 (.blk (n := 4) (hL.at 0 rfl) rfl)) fun a hk => ?_
                    refine d_v 1 3 hk hL rfl (by kernel_rfl) rfl rfl (fun w hL => w_fa rfl fq53_4 ty51) fun a hk => ?_
                    refine d_v 2 7 hk hL rfl (by kernel_rfl) rfl rfl (fun w hL => w_ld1 rfl ty51 (.blk (n := 1) (hL.at 1 rfl) rfl)) fun a hk => ?_
                    refine d_v 3 15 hk hL rfl (by kernel_rfl) rfl rfl (fun w hL => w_mv rfl) fun a hk => ?_
                    refine d_v 4 31 hk hL rfl (by kernel_rfl) rfl rfl (fun w hL => w_iaL (k := k) rfl rfl Tryz.underlying51 ty56 (hL.at 2 rfl) (by omega) (by omega)) fun a hk => ?_
                    refine d_v 5 63 hk hL rfl (by kernel_rfl) rfl rfl (fun w hL => w_ldv (z := X k) rfl ty56 (lstq (k := k) (hL.at 2 rfl) (by omega) (en_chunk vq_len (by omega)))) fun a hk => ?_
                    refine d_v 7 191 hk hL rfl (by kernel_rfl) rfl rfl (fun w hL => w_fa rfl fq53_4 ty51) fun a hk => ?_
                    refine d_v 8 447 hk hL rfl (by kernel_rfl) rfl rfl (fun w hL => w_ld1 rfl ty51 (.blk (n := 1) (hL.at 1 rfl) rfl)) fun a hk => ?_
                    refine d_v 9 959 hk hL rfl (by kernel_rfl) rfl rfl (fun w hL => w_mv rfl) fun a hk => ?_
                    refine d_v 10 1983 hk hL rfl (by kernel_rfl) rfl rfl (fun w hL => w_iaL (k := k) rfl rfl Tryz.underlying51 ty56 (hL.at 2 rfl) (by omega) (by omega)) fun a hk => ?_
                    refine d_v 11 4031 hk hL rfl (by kernel_rfl) rfl rfl (fun w hL => w_ldv (z := X k) rfl ty56 (lstq (k := k) (hL.at 2 rfl) (by omega) (en_chunk vq_len (by omega)))) fun a hk => ?_
                    refine d_1 6 4095 rfl (by kernel_rfl) fun K hK => ?_
                    refine q_call (caps := []) hk rfl rfl Tryz.func69 fo69 rfl rfl (refSubtract_c (pr s) (X k) 0 (pr_lt s) (H4 k hlt) _) ?_
                    rintro _ w ⟨rfl, hb⟩
                    have hs := hs.below hb
                    refine ⟨_, rfl, fun a hk => ?_⟩
                    have hL := okL.cons (hs.mi 0 rfl) (okL.cons (hs.mi 1 rfl) (okL.cons (hs.ri 0 rfl) okL.nil))
                    refine c_end (x_t (hK _ _ hL ?_))
                    clear hK K
                    refine d_v 12 8191 hk hL rfl (by kernel_rfl) rfl rfl (fun w hL => w_vne rfl rfl (rdc_R4 (pr_pos s) (H4 k hlt)) (H4 k hlt) Tryz.underlying47 Tryz.underlying46 ty46 eg47 (decide_eq_true hc11)) fun a hk => ?_
                    refine d_end (by kernel_rfl) ?_
                    refine (x_t ?_)
                    refine c_T hk rfl ?_
                    refine wpIn_seq ?_
                    refine wpIn_region_lit ?_
                    refine q_val hk (w_as rfl) rfl rfl rfl fun a hk => ?_
                    refine (c_end (x_t ?_))
                    refine (wpIn_ret (x_br (x_tr (x_tr (x_br (x_tr ?_))))))
                    refine c_ret1 hk rfl rfl ?_
                    refine ⟨?_, hs.toBelow⟩
                    have ho := fid_or s
                    unfold shErr
                    rw [fid_dec, if_pos ho]
                    (repeat' split) <;> first | rfl | omega | contradiction | exact absurd (hob.symm.trans (by assumption)) Bool.false_ne_true
                  · skip
                    have hob := okB_next hf1 (H4 k hlt) hc11
                    have hL := okL.cons (hs.mi 0 rfl) (okL.cons (hs.mi 1 rfl) (okL.cons (hs.ri 0 rfl) okL.nil))
                    refine d_begin _ 13 (by kernel_rfl) rfl hs hL fun w hs hL => ?_
                    refine d_v 0 1 hk hL rfl (by kernel_rfl) rfl rfl (fun w hL => w_ldv (z := pr s) rfl ty47 (.blk (n := 4) (hL.at 0 rfl) rfl)) fun a hk => ?_
                    refine d_v 1 3 hk hL rfl (by kernel_rfl) rfl rfl (fun w hL => w_fa rfl fq53_4 ty51) fun a hk => ?_
                    refine d_v 2 7 hk hL rfl (by kernel_rfl) rfl rfl (fun w hL => w_ld1 rfl ty51 (.blk (n := 1) (hL.at 1 rfl) rfl)) fun a hk => ?_
                    refine d_v 3 15 hk hL rfl (by kernel_rfl) rfl rfl (fun w hL => w_mv rfl) fun a hk => ?_
                    refine d_v 4 31 hk hL rfl (by kernel_rfl) rfl rfl (fun w hL => w_iaL (k := k) rfl rfl Tryz.underlying51 ty56 (hL.at 2 rfl) (by omega) (by omega)) fun a hk => ?_
                    refine d_v 5 63 hk hL rfl (by kernel_rfl) rfl rfl (fun w hL => w_ldv (z := X k) rfl ty56 (lstq (k := k) (hL.at 2 rfl) (by omega) (en_chunk vq_len (by omega)))) fun a hk => ?_
                    refine d_v 7 191 hk hL rfl (by kernel_rfl) rfl rfl (fun w hL => w_fa rfl fq53_4 ty51) fun a hk => ?_
                    refine d_v 8 447 hk hL rfl (by kernel_rfl) rfl rfl (fun w hL => w_ld1 rfl ty51 (.blk (n := 1) (hL.at 1 rfl) rfl)) fun a hk => ?_
                    refine d_v 9 959 hk hL rfl (by kernel_rfl) rfl rfl (fun w hL => w_mv rfl) fun a hk => ?_
                    refine d_v 10 1983 hk hL rfl (by kernel_rfl) rfl rfl (fun w hL => w_iaL (k := k) rfl rfl Tryz.underlying51 ty56 (hL.at 2 rfl) (by omega) (by omega)) fun a hk => ?_
                    refine d_v 11 4031 hk hL rfl (by kernel_rfl) rfl rfl (fun w hL => w_ldv (z := X k) rfl ty56 (lstq (k := k) (hL.at 2 rfl) (by omega) (en_chunk vq_len (by omega)))) fun a hk => ?_
                    refine d_1 6 4095 rfl (by kernel_rfl) fun K hK => ?_
                    refine q_call (caps := []) hk rfl rfl Tryz.func69 fo69 rfl rfl (refSubtract_c (pr s) (X k) 0 (pr_lt s) (H4 k hlt) _) ?_
                    rintro _ w ⟨rfl, hb⟩
                    have hs := hs.below hb
                    refine ⟨_, rfl, fun a hk => ?_⟩
                    have hL := okL.cons (hs.mi 0 rfl) (okL.cons (hs.mi 1 rfl) (okL.cons (hs.ri 0 rfl) okL.nil))
                    refine c_end (x_t (hK _ _ hL ?_))
                    clear hK K
                    refine d_v 12 8191 hk hL rfl (by kernel_rfl) rfl rfl (fun w hL => w_vne rfl rfl (rdc_R4 (pr_pos s) (H4 k hlt)) (H4 k hlt) Tryz.underlying47 Tryz.underlying46 ty46 eg47 (decide_eq_false hc11)) fun a hk => ?_
                    refine d_end (by kernel_rfl) ?_
                    refine (x_t ?_)
                    refine c_F hk rfl ?_
                    refine (wpIn_skip (x_b (x_t ?_)))
                    refine wpIn_region_lit ?_
                    refine q_val hk (w_mv rfl) rfl rfl rfl fun a hk => ?_
                    refine q_val hk (w_add rfl rfl (wr64 (by omega) (by omega))) rfl rfl rfl fun a hk => ?_
                    refine q_val hk (w_as rfl) rfl rfl rfl fun a hk => ?_
                    refine (c_end (x_t ?_))
                    exact ⟨k + 1, ⟨(by omega), hob, hk.k rfl (hk.k rfl (hk.k rfl hk.nil)), hs⟩, by omega⟩
                · skip
                  obtain rfl : n = k := by omega
                  refine q_val hk (w_lt rfl rfl (decide_eq_false hc10)) rfl rfl rfl fun a hk => ?_
                  refine (c_end (x_t ?_))
                  refine c_F hk rfl ?_
                  refine (wpIn_exit (x_te (x_te (x_be ?_))))
                  refine (x_t ?_)
                  refine wpIn_seq ?_
                  refine wpIn_region_lit ?_
                  refine q_val hk (w_as rfl) rfl rfl rfl fun a hk => ?_
                  refine (c_end (x_t ?_))
                  refine (wpIn_ret ?_)
                  refine c_ret1 hk rfl rfl ?_
                  refine ⟨?_, hs.toBelow⟩
                  have ho := fid_or s
                  unfold shErr
                  rw [fid_dec, if_pos ho]
                  (repeat' split) <;> first | rfl | omega | contradiction | exact absurd (hob.symm.trans (by assumption)) Bool.false_ne_true
theorem ckShare_c (F T I L : Int) (la : Option Addr) (n lc : Nat) (X : Nat → Nat) (W : World) (HX : LstAt W 4 (.slice la n lc) n (en vq X n)) (hn : n ≤ 100000000) (H4 : ∀ i, i < n → X i < R4) (HL : Laid W) :
    Calls Tryz.prog 105 #[.agg #[.int .i64 F, .int .i64 T, .int .i64 I, .int .i64 L, .slice la n lc]] W fun e w => e = .returned (.int .i64 (shErr F T I L n X)) ∧ Below W.heap.size W w := by
  by_cases h1 : F = 1
  · subst h1; exact ckShare_s false T I L la n lc X W HX hn H4 HL
  by_cases h2 : F = 2
  · subst h2; exact ckShare_s true T I L la n lc X W HX hn H4 HL
  exact ckShare_bad F T I L la n lc X W HX hn H4 HL h1 h2
theorem refCkShare_c (F T I L : Int) (la : Option Addr) (n lc : Nat) (X : Nat → Nat) (W : World) (HX : LstAt W 4 (.slice la n lc) n (en vq X n)) (hn : n ≤ 100000000) (H4 : ∀ i, i < n → X i < R4) :
    Calls Tryz.prog 56 #[.agg #[.int .i64 F, .int .i64 T, .int .i64 I, .int .i64 L, .slice la n lc]] W fun e w => e = .returned (.int .i64 (shErr F T I L n X)) ∧ Below W.heap.size W w := by
  by_cases h1 : F = 1
  · subst h1; exact refCkShare_s false T I L la n lc X W HX hn H4
  by_cases h2 : F = 2
  · subst h2; exact refCkShare_s true T I L la n lc X W HX hn H4
  exact refCkShare_bad F T I L la n lc X W HX hn H4 h1 h2
end Go.Proofs.YtdnkkbmpefhbjaaGreatDoor
