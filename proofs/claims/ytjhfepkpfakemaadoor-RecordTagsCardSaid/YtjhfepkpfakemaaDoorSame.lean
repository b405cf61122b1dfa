/- Same of two equal shares. -/
import Derived.Test.YtjhfepkpfakemaaDoorTag
namespace Go.Proofs.YtjhfepkpfakemaaDoor
set_option linter.all false
open Go Go.RowKit

theorem same1_c (b0 b9 : Nat) (F T I L : Int) (la lb : Option Addr) (n lc ld : Nat) (X : Nat → Nat) (W : World) (HB : (blk b0 [.int .i64 F, .int .i64 T, .int .i64 I, .int .i64 L, .slice la n lc] 27).ok W) (HC : (blk b9 [.int .i64 F, .int .i64 T, .int .i64 I, .int .i64 L, .slice lb n ld] 27).ok W) (HX : LstAt W 4 (.slice la n lc) n (en vq X n)) (HY : LstAt W 4 (.slice lb n ld) n (en vq X n)) (H4 : ∀ i, i < n → X i < R4) (hn : n ≤ 100000000) : Calls Tryd.prog 18 [.slice (some ⟨b0, 0, none⟩) 1 1, .slice (some ⟨b9, 0, none⟩) 1 1].toArray W fun e w => e = .returned (.bool true) ∧ Below W.heap.size W w := by
  refine c_enter (args := [.slice (some ⟨b0, 0, none⟩) 1 1, .slice (some ⟨b9, 0, none⟩) 1 1]) Tryd.func18 rfl rfl rfl fun a hk => ?_
  have hs := Sat.start W [blk b0 [.int .i64 F, .int .i64 T, .int .i64 I, .int .i64 L, .slice la n lc] 27, blk b9 [.int .i64 F, .int .i64 T, .int .i64 I, .int .i64 L, .slice lb n ld] 27, lst 4 (.slice la n lc) n (en vq X n), lst 4 (.slice lb n ld) n (en vq X n)] (okrc HB (okrc HC (okrc HX (okr1 HY))))
  refine wpIn_seq ?_
  refine wpIn_region_lit ?_
  refine q_val hk (w_as rfl) rfl rfl rfl fun a hk => ?_
  refine (c_end (x_t ?_))
  refine wpIn_seq ?_
  refine wpIn_seq ?_
  refine wpIn_region_lit ?_
  refine q_val hk (w_mv rfl) rfl rfl rfl fun a hk => ?_
  refine q_val hk (w_len rfl Tryd.underlying41) rfl rfl rfl fun a hk => ?_
  refine q_val hk (w_mv rfl) rfl rfl rfl fun a hk => ?_
  refine q_val hk (w_len rfl Tryd.underlying41) rfl rfl rfl fun a hk => ?_
  refine q_val hk (w_ne rfl rfl (decide_eq_false (by decide))) rfl rfl rfl fun a hk => ?_
  refine (c_end (x_t ?_))
  refine c_F hk rfl ?_
  refine (wpIn_skip (x_t ?_))
  refine wpIn_seq ?_
  refine wpIn_seq ?_
  refine wpIn_region_lit ?_
  refine q_val hk (w_as rfl) rfl rfl rfl fun a hk => ?_
  refine (c_end (x_t ?_))
  refine wpIn_block ?_
  refine c_rounds 2 ?_
  refine c_rsucc ?_
  refine wpIn_seq ?_
  refine wpIn_seq ?_
  refine wpIn_region_lit ?_
  refine q_val hk (w_mv rfl) rfl rfl rfl fun a hk => ?_
  refine q_val hk (w_mv rfl) rfl rfl rfl fun a hk => ?_
  refine q_val hk (w_len rfl Tryd.underlying41) rfl rfl rfl fun a hk => ?_
  refine q_val hk (w_lt rfl rfl (decide_eq_true (by decide))) rfl rfl rfl fun a hk => ?_
  refine (c_end (x_t ?_))
  refine c_T hk rfl ?_
  refine (wpIn_skip (x_t ?_))
  refine wpIn_seq ?_
  refine wpIn_block ?_
  refine wpIn_seq ?_
  refine wpIn_region_lit ?_
  refine q_val hk (w_mv rfl) rfl rfl rfl fun a hk => ?_
  refine q_val hk (w_mv rfl) rfl rfl rfl fun a hk => ?_
  refine q_val hk (w_iaL (k := 0) rfl rfl Tryd.underlying41 ty27 (blk_lst (hs.ri 0 rfl) rfl (Nat.le_refl _)) (by omega) (by omega)) rfl rfl rfl fun a hk => ?_
  refine q_val hk (w_ldA rfl ty27 (.blk (n := 5) (hs.ri 0 rfl) rfl) rfl) rfl rfl rfl fun a hk => ?_
  refine q_alc (vs := [.int .i64 0, .int .i64 0, .int .i64 0, .int .i64 0, .slice none 0 0]) hk hs zr27 rfl rfl rfl fun b1 w a hk hs => ?_
  refine q_sto (o := 0) (cs := [.int .i64 F, .int .i64 T, .int .i64 I, .int .i64 L, .slice la n lc]) (vs' := [.int .i64 F, .int .i64 T, .int .i64 I, .int .i64 L, .slice la n lc]) hk hs rfl rfl rfl ty27 rfl rfl rfl rfl rfl rfl fun w hs => ?_
  refine (c_end (x_t ?_))
  refine wpIn_seq ?_
  refine wpIn_region_lit ?_
  refine q_val hk (w_mv rfl) rfl rfl rfl fun a hk => ?_
  refine q_val hk (w_mv rfl) rfl rfl rfl fun a hk => ?_
  refine q_val hk (w_iaL (k := 0) rfl rfl Tryd.underlying41 ty27 (blk_lst (hs.ri 1 rfl) rfl (Nat.le_refl _)) (by omega) (by omega)) rfl rfl rfl fun a hk => ?_
  refine q_val hk (w_ldA rfl ty27 (.blk (n := 5) (hs.ri 1 rfl) rfl) rfl) rfl rfl rfl fun a hk => ?_
  refine q_alc (vs := [.int .i64 0, .int .i64 0, .int .i64 0, .int .i64 0, .slice none 0 0]) hk hs zr27 rfl rfl rfl fun b2 w a hk hs => ?_
  refine q_sto (o := 0) (cs := [.int .i64 F, .int .i64 T, .int .i64 I, .int .i64 L, .slice lb n ld]) (vs' := [.int .i64 F, .int .i64 T, .int .i64 I, .int .i64 L, .slice lb n ld]) hk hs rfl rfl rfl ty27 rfl rfl rfl rfl rfl rfl fun w hs => ?_
  refine (c_end (x_t ?_))
  refine wpIn_seq ?_
  refine wpIn_seq ?_
  refine wpIn_region_lit ?_
  refine q_val hk (w_fa rfl fq27_0 ty3) rfl rfl rfl fun a hk => ?_
  refine q_val hk (w_ld1 rfl ty3 (.blk (n := 1) (hs.mi 1 rfl) rfl)) rfl rfl rfl fun a hk => ?_
  refine q_val hk (w_fa rfl fq27_0 ty3) rfl rfl rfl fun a hk => ?_
  refine q_val hk (w_ld1 rfl ty3 (.blk (n := 1) (hs.mi 0 rfl) rfl)) rfl rfl rfl fun a hk => ?_
  refine q_val hk (w_ne rfl rfl (decide_eq_false (fun h => h rfl))) rfl rfl rfl fun a hk => ?_
  refine q_val hk (w_mv rfl) rfl rfl rfl fun a hk => ?_
  refine q_val hk (w_fa rfl fq27_1 ty3) rfl rfl rfl fun a hk => ?_
  refine q_val hk (w_ld1 rfl ty3 (.blk (n := 1) (hs.mi 1 rfl) rfl)) rfl rfl rfl fun a hk => ?_
  refine q_val hk (w_fa rfl fq27_1 ty3) rfl rfl rfl fun a hk => ?_
  refine q_val hk (w_ld1 rfl ty3 (.blk (n := 1) (hs.mi 0 rfl) rfl)) rfl rfl rfl fun a hk => ?_
  refine q_val hk (w_ne rfl rfl (decide_eq_false (fun h => h rfl))) rfl rfl rfl fun a hk => ?_
  refine q_val hk (w_pickF rfl rfl) rfl rfl rfl fun a hk => ?_
  refine q_val hk (w_mv rfl) rfl rfl rfl fun a hk => ?_
  refine q_val hk (w_fa rfl fq27_2 ty3) rfl rfl rfl fun a hk => ?_
  refine q_val hk (w_ld1 rfl ty3 (.blk (n := 1) (hs.mi 1 rfl) rfl)) rfl rfl rfl fun a hk => ?_
  refine q_val hk (w_fa rfl fq27_2 ty3) rfl rfl rfl fun a hk => ?_
  refine q_val hk (w_ld1 rfl ty3 (.blk (n := 1) (hs.mi 0 rfl) rfl)) rfl rfl rfl fun a hk => ?_
  refine q_val hk (w_ne rfl rfl (decide_eq_false (fun h => h rfl))) rfl rfl rfl fun a hk => ?_
  refine q_val hk (w_pickF rfl rfl) rfl rfl rfl fun a hk => ?_
  refine q_val hk (w_mv rfl) rfl rfl rfl fun a hk => ?_
  refine q_val hk (w_fa rfl fq27_3 ty3) rfl rfl rfl fun a hk => ?_
  refine q_val hk (w_ld1 rfl ty3 (.blk (n := 1) (hs.mi 1 rfl) rfl)) rfl rfl rfl fun a hk => ?_
  refine q_val hk (w_fa rfl fq27_3 ty3) rfl rfl rfl fun a hk => ?_
  refine q_val hk (w_ld1 rfl ty3 (.blk (n := 1) (hs.mi 0 rfl) rfl)) rfl rfl rfl fun a hk => ?_
  refine q_val hk (w_ne rfl rfl (decide_eq_false (fun h => h rfl))) rfl rfl rfl fun a hk => ?_
  refine q_val hk (w_pickF rfl rfl) rfl rfl rfl fun a hk => ?_
  refine q_val hk (w_mv rfl) rfl rfl rfl fun a hk => ?_
  refine q_val hk (w_fa rfl fq27_4 ty25) rfl rfl rfl fun a hk => ?_
  refine q_val hk (w_ld1 rfl ty25 (.blk (n := 1) (hs.mi 1 rfl) rfl)) rfl rfl rfl fun a hk => ?_
  refine q_val hk (w_len rfl Tryd.underlying25) rfl rfl rfl fun a hk => ?_
  refine q_val hk (w_fa rfl fq27_4 ty25) rfl rfl rfl fun a hk => ?_
  refine q_val hk (w_ld1 rfl ty25 (.blk (n := 1) (hs.mi 0 rfl) rfl)) rfl rfl rfl fun a hk => ?_
  refine q_val hk (w_len rfl Tryd.underlying25) rfl rfl rfl fun a hk => ?_
  refine q_val hk (w_ne rfl rfl (decide_eq_false (fun h => h rfl))) rfl rfl rfl fun a hk => ?_
  refine q_val hk (w_pickF rfl rfl) rfl rfl rfl fun a hk => ?_
  refine (c_end (x_t ?_))
  refine c_F hk rfl ?_
  refine (wpIn_skip (x_t ?_))
  refine wpIn_seq ?_
  refine wpIn_region_lit ?_
  refine q_val hk (w_as rfl) rfl rfl rfl fun a hk => ?_
  refine (c_end (x_t ?_))
  refine wpIn_block ?_
  refine c_loop (α := Nat) (fun k a w => k ≤ n ∧ Kn 81 [(8, .int .i64 (k : Int)), (62, .bool false), (61, .bool false), (60, .int .i64 ((n : Nat) : Int)), (59, .slice lb n ld), (58, .pointer (some ⟨b2, 4, none⟩)), (57, .int .i64 ((n : Nat) : Int)), (56, .slice la n lc), (55, .pointer (some ⟨b1, 4, none⟩)), (54, .bool false), (53, .bool false), (52, .bool false), (51, .int .i64 L), (50, .pointer (some ⟨b2, 3, none⟩)), (49, .int .i64 L), (48, .pointer (some ⟨b1, 3, none⟩)), (47, .bool false), (46, .bool false), (45, .bool false), (44, .int .i64 I), (43, .pointer (some ⟨b2, 2, none⟩)), (42, .int .i64 I), (41, .pointer (some ⟨b1, 2, none⟩)), (40, .bool false), (39, .bool false), (38, .bool false), (37, .int .i64 T), (36, .pointer (some ⟨b2, 1, none⟩)), (35, .int .i64 T), (34, .pointer (some ⟨b1, 1, none⟩)), (33, .bool false), (32, .bool false), (31, .int .i64 F), (30, .pointer (some ⟨b2, 0, none⟩)), (29, .int .i64 F), (28, .pointer (some ⟨b1, 0, none⟩)), (7, .pointer (some ⟨b2, 0, none⟩)), (27, .agg #[.int .i64 F, .int .i64 T, .int .i64 I, .int .i64 L, .slice lb n ld]), (26, .pointer (some ⟨b9, 0, none⟩)), (25, .int .i64 0), (24, .slice (some ⟨b9, 0, none⟩) 1 1), (6, .pointer (some ⟨b1, 0, none⟩)), (23, .agg #[.int .i64 F, .int .i64 T, .int .i64 I, .int .i64 L, .slice la n lc]), (22, .pointer (some ⟨b0, 0, none⟩)), (21, .int .i64 0), (20, .slice (some ⟨b0, 0, none⟩) 1 1), (17, .bool true), (16, .int .i64 1), (15, .slice (some ⟨b0, 0, none⟩) 1 1), (14, .int .i64 0), (5, .int .i64 0), (0, .slice (some ⟨b0, 0, none⟩) 1 1), (1, .slice (some ⟨b9, 0, none⟩) 1 1)] a ∧ Sat no W [blk b2 [.int .i64 F, .int .i64 T, .int .i64 I, .int .i64 L, .slice lb n ld] 27, blk b1 [.int .i64 F, .int .i64 T, .int .i64 I, .int .i64 L, .slice la n lc] 27] [blk b0 [.int .i64 F, .int .i64 T, .int .i64 I, .int .i64 L, .slice la n lc] 27, blk b9 [.int .i64 F, .int .i64 T, .int .i64 I, .int .i64 L, .slice lb n ld] 27, lst 4 (.slice la n lc) n (en vq X n), lst 4 (.slice lb n ld) n (en vq X n)] w) (fun k => n - k) 0 ?_ ?_
  · exact ⟨(by omega), hk.k rfl (hk.k rfl (hk.k rfl (hk.k rfl (hk.k rfl (hk.k rfl (hk.k rfl (hk.k rfl (hk.k rfl (hk.k rfl (hk.k rfl (hk.k rfl (hk.k rfl (hk.k rfl (hk.k rfl (hk.k rfl (hk.k rfl (hk.k rfl (hk.k rfl (hk.k rfl (hk.k rfl (hk.k rfl (hk.k rfl (hk.k rfl (hk.k rfl (hk.k rfl (hk.k rfl (hk.k rfl (hk.k rfl (hk.k rfl (hk.k rfl (hk.k rfl (hk.k rfl (hk.k rfl (hk.k rfl (hk.k rfl (hk.k rfl (hk.k rfl (hk.k rfl (hk.k rfl (hk.k rfl (hk.k rfl (hk.k rfl (hk.k rfl (hk.k rfl (hk.k rfl (hk.k rfl (hk.k rfl (hk.k rfl (hk.k rfl (hk.k rfl (hk.k rfl (hk.k rfl hk.nil)))))))))))))))))))))))))))))))))))))))))))))))))))), hs⟩
  rintro k a w ⟨hf0, hk, hs⟩
  refine wpIn_seq ?_
  refine wpIn_seq ?_
  refine wpIn_region_lit ?_
  refine q_val hk (w_mv rfl) rfl rfl rfl fun a hk => ?_
  refine q_val hk (w_fa rfl fq27_4 ty25) rfl rfl rfl fun a hk => ?_
  refine q_val hk (w_ld1 rfl ty25 (.blk (n := 1) (hs.mi 1 rfl) rfl)) rfl rfl rfl fun a hk => ?_
  refine q_val hk (w_len rfl Tryd.underlying25) rfl rfl rfl fun a hk => ?_
  rcases Classical.em ((k : Int) < ((n : Nat) : Int)) with hc3 | hc3
  · skip
    have hlt : k < n := by omega
    refine q_val hk (w_lt rfl rfl (decide_eq_true hc3)) rfl rfl rfl fun a hk => ?_
    refine (c_end (x_t ?_))
    refine c_T hk rfl ?_
    refine (wpIn_skip (x_t ?_))
    refine wpIn_seq ?_
    refine wpIn_block ?_
    refine wpIn_seq ?_
    have hL := okL.cons (hs.mi 1 rfl) (okL.cons (hs.ri 2 rfl) (okL.cons (hs.mi 0 rfl) (okL.cons (hs.ri 3 rfl) okL.nil)))
    refine d_begin _ 11 (by kernel_rfl) rfl hs hL fun w hs hL => ?_
    refine d_v 0 1 hk hL rfl (by kernel_rfl) rfl rfl (fun w hL => w_fa rfl fq27_4 ty25) fun a hk => ?_
    refine d_v 1 3 hk hL rfl (by kernel_rfl) rfl rfl (fun w hL => w_ld1 rfl ty25 (.blk (n := 1) (hL.at 0 rfl) rfl)) fun a hk => ?_
    refine d_v 2 7 hk hL rfl (by kernel_rfl) rfl rfl (fun w hL => w_mv rfl) fun a hk => ?_
    refine d_v 3 15 hk hL rfl (by kernel_rfl) rfl rfl (fun w hL => w_iaL (k := k) rfl rfl Tryd.underlying25 ty51 (hL.at 1 rfl) (by omega) (by omega)) fun a hk => ?_
    refine d_v 4 31 hk hL rfl (by kernel_rfl) rfl rfl (fun w hL => w_ldv (z := X k) rfl ty51 (lstq (k := k) (hL.at 1 rfl) (by omega) (en_chunk vq_len (by omega)))) fun a hk => ?_
    refine d_v 5 63 hk hL rfl (by kernel_rfl) rfl rfl (fun w hL => w_fa rfl fq27_4 ty25) fun a hk => ?_
    refine d_v 6 127 hk hL rfl (by kernel_rfl) rfl rfl (fun w hL => w_ld1 rfl ty25 (.blk (n := 1) (hL.at 2 rfl) rfl)) fun a hk => ?_
    refine d_v 7 255 hk hL rfl (by kernel_rfl) rfl rfl (fun w hL => w_mv rfl) fun a hk => ?_
    refine d_v 8 511 hk hL rfl (by kernel_rfl) rfl rfl (fun w hL => w_iaL (k := k) rfl rfl Tryd.underlying25 ty51 (hL.at 3 rfl) (by omega) (by omega)) fun a hk => ?_
    refine d_v 9 1023 hk hL rfl (by kernel_rfl) rfl rfl (fun w hL => w_ldv (z := X k) rfl ty51 (lstq (k := k) (hL.at 3 rfl) (by omega) (en_chunk vq_len (by omega)))) fun a hk => ?_
    refine d_v 10 2047 hk hL rfl (by kernel_rfl) rfl rfl (fun w hL => w_vne rfl rfl (H4 k hlt) (H4 k hlt) Tryd.underlying51 Tryd.underlying49 ty49 eg51 (decide_eq_false (fun h => h rfl))) fun a hk => ?_
    refine d_end (by kernel_rfl) ?_
    refine (x_t ?_)
    refine c_F hk rfl ?_
    refine (wpIn_skip (x_b (x_t ?_)))
    refine wpIn_region_lit ?_
    refine q_val hk (w_mv rfl) rfl rfl rfl fun a hk => ?_
    refine q_val hk (w_add rfl rfl (wr64 (by omega) (by omega))) rfl rfl rfl fun a hk => ?_
    refine q_val hk (w_as rfl) rfl rfl rfl fun a hk => ?_
    refine (c_end (x_t ?_))
    exact ⟨k + 1, ⟨(by omega), hk.k rfl (hk.k rfl (hk.k rfl (hk.k rfl (hk.k rfl (hk.k rfl (hk.k rfl (hk.k rfl (hk.k rfl (hk.k rfl (hk.k rfl (hk.k rfl (hk.k rfl (hk.k rfl (hk.k rfl (hk.k rfl (hk.k rfl (hk.k rfl (hk.k rfl (hk.k rfl (hk.k rfl (hk.k rfl (hk.k rfl (hk.k rfl (hk.k rfl (hk.k rfl (hk.k rfl (hk.k rfl (hk.k rfl (hk.k rfl (hk.k rfl (hk.k rfl (hk.k rfl (hk.k rfl (hk.k rfl (hk.k rfl (hk.k rfl (hk.k rfl (hk.k rfl (hk.k rfl (hk.k rfl (hk.k rfl (hk.k rfl (hk.k rfl (hk.k rfl (hk.k rfl (hk.k rfl (hk.k rfl (hk.k rfl (hk.k rfl (hk.k rfl (hk.k rfl (hk.k rfl hk.nil)))))))))))))))))))))))))))))))))))))))))))))))))))), hs⟩, by omega⟩
  · skip
    obtain rfl : n = k := by omega
    refine q_val hk (w_lt rfl rfl (decide_eq_false hc3)) rfl rfl rfl fun a hk => ?_
    refine (c_end (x_t ?_))
    refine c_F hk rfl ?_
    refine (wpIn_exit (x_te (x_te (x_be ?_))))
    refine (x_b (x_t ?_))
    refine wpIn_region_lit ?_
    refine q_val hk (w_mv rfl) rfl rfl rfl fun a hk => ?_
    refine q_val hk (w_add (r := 1) rfl rfl (by decide)) rfl rfl rfl fun a hk => ?_
    refine q_val hk (w_as rfl) rfl rfl rfl fun a hk => ?_
    refine (c_end (x_t ?_))
    refine c_rsucc ?_
    refine wpIn_seq ?_
    refine wpIn_seq ?_
    refine wpIn_region_lit ?_
    refine q_val hk (w_mv rfl) rfl rfl rfl fun a hk => ?_
    refine q_val hk (w_mv rfl) rfl rfl rfl fun a hk => ?_
    refine q_val hk (w_len rfl Tryd.underlying41) rfl rfl rfl fun a hk => ?_
    refine q_val hk (w_lt rfl rfl (decide_eq_false (by decide))) rfl rfl rfl fun a hk => ?_
    refine (c_end (x_t ?_))
    refine c_F hk rfl ?_
    refine (wpIn_exit (x_te (x_te (x_be ?_))))
    refine (x_t ?_)
    refine wpIn_seq ?_
    refine wpIn_region_lit ?_
    refine q_val hk (w_as rfl) rfl rfl rfl fun a hk => ?_
    refine (c_end (x_t ?_))
    refine (wpIn_ret ?_)
    refine c_ret1 hk rfl rfl ?_
    exact ⟨rfl, hs.toBelow⟩
end Go.Proofs.YtjhfepkpfakemaaDoor
