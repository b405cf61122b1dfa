/- The walks of package tape. -/
import Derived.Test.YtpggmebgndkpjaaDoorTape
namespace Go.Proofs.YtpggmebgndkpjaaDoor
set_option linter.all false
open Go Go.RowKit
theorem add_m {F0 : Nat → Prop} {W : World} {M R : List Res} (b : Nat) (ev : Ev) (evs : List Ev) (la : Option Addr) (lc : Nat) (ps : List Nat) (w0 : World) (hs : Sat F0 W ((blk b [.slice la ps.length lc, .int .i64 ((evs.length : Nat) : Int)] 78) :: (row 111 1 (.slice la ps.length lc) ps.length (el pvc ps)) :: (tblks evs ps) :: M) R w0) (hps : ps.length = (evs.length + 63) / 64) (hn : evs.length ≤ 1000000000000) : Calls Tryd.prog 52 [.pointer (some ⟨b, 0, none⟩), .agg #[.int .i64 ev.1, .int .i64 ev.2.1, .int .i64 ev.2.2]].toArray w0 fun e w => ∃ v r, e = .returned v ∧ TapeIs (some b) (evs ++ [ev]) r ∧ Sat F0 W (r :: M) R w := by
  refine c_enter (args := [.pointer (some ⟨b, 0, none⟩), .agg #[.int .i64 ev.1, .int .i64 ev.2.1, .int .i64 ev.2.2]]) Tryd.func52 rfl rfl rfl fun a hk => ?_
  refine wpIn_seq ?_
  refine wpIn_region_lit ?_
  refine q_box (vs := [.int .i64 ev.1, .int .i64 ev.2.1, .int .i64 ev.2.2]) hk hs rfl rfl rfl rfl fun b1 w a hk hs => ?_
  refine (c_end (x_t ?_))
  refine wpIn_seq ?_
  refine wpIn_seq ?_
  refine wpIn_region_lit ?_
  refine q_val hk (w_mv rfl) rfl rfl rfl fun a hk => ?_
  refine q_val hk (w_nilC rfl) rfl rfl rfl fun a hk => ?_
  refine q_val hk (w_fa rfl fq78_1 ty3) rfl rfl rfl fun a hk => ?_
  refine q_val hk (w_ld1 rfl ty3 (.blk (n := 1) (hs.mi 1 rfl) rfl)) rfl rfl rfl fun a hk => ?_
  refine q_val hk (w_rem rfl rfl (by omega) (wmd (by omega))) rfl rfl rfl fun a hk => ?_
  rcases Classical.em ((((evs.length : Nat) : Int) % 64) = 0) with hc2 | hc2
  · skip
    refine q_val hk (w_eq rfl rfl (decide_eq_true hc2)) rfl rfl rfl fun a hk => ?_
    refine (c_end (x_t ?_))
    refine c_T hk rfl ?_
    refine wpIn_region_lit ?_
    refine q_val hk (w_mv rfl) rfl rfl rfl fun a hk => ?_
    refine q_val hk (w_mv rfl) rfl rfl rfl fun a hk => ?_
    refine q_val hk (w_nilC rfl) rfl rfl rfl fun a hk => ?_
    refine q_val hk (w_fa rfl fq78_0 ty76) rfl rfl rfl fun a hk => ?_
    refine q_val hk (w_ld1 rfl ty76 (.blk (n := 1) (hs.mi 1 rfl) rfl)) rfl rfl rfl fun a hk => ?_
    refine q_alc (vs := en ec (fun _ => evz) 64) hk hs zr112 (by kernel_rfl) rfl rfl fun b3 w a hk hs => ?_
    refine q_bsl (els := [.tmp 15]) (cs := [.pointer (some ⟨b3, 0, none⟩)]) hk hs rfl Tryd.underlying76 ty111 zr111 rfl rfl rfl rfl rfl rfl rfl fun b4 w a hk hs => ?_
    have hs := hs.up4
    refine q_app (news := [.pointer (some ⟨b3, 0, none⟩)]) (m := 1) hk hs rfl rfl Tryd.underlying76 ty111 zr111 rfl rfl (.blk (n := 1) (hs.mi 1 rfl) rfl) rfl rfl (by omega) (by omega) rfl rfl fun a5 c6 w a hk hs => ?_
    have hs := hs.up1
    have hs := hs.drop
    have hs := hs.rw0 (congrArg _ (el_snoc (c := pvc) (l := ps) (x := b3)))
    refine q_val hk (w_nilC rfl) rfl rfl rfl fun a hk => ?_
    refine q_val hk (w_fa rfl fq78_0 ty76) rfl rfl rfl fun a hk => ?_
    have hs := hs.up3
    refine q_sto (o := 0) (cs := [.slice a5 (ps.length + 1) c6]) (vs' := [.slice a5 (ps.length + 1) c6, .int .i64 ((evs.length : Nat) : Int)]) hk hs rfl rfl rfl ty76 rfl rfl rfl rfl rfl rfl fun w hs => ?_
    have hq : (ps ++ [b3]).length = evs.length / 64 + 1 := by rw [List.length_append, List.length_singleton]; omega
    have hs := hs.up3
    have hs := hs.up2
    have hs := hs.up2
    have hs := hs.up4
    have hs := hs.up4
    have hs := Sat.pickL (f := tblk evs ps) (g := tblk evs (ps ++ [b3])) (hs.rw0 (tblk_zero (evs := evs) (by omega))) (fun j hj => tblk_app hj)
    rw [show ps.length + 1 = (ps ++ [b3]).length by rw [List.length_append, List.length_singleton]] at hs
    have hk := hk
    refine (c_end (x_t ?_))
    refine wpIn_seq ?_
    have hs := Sat.pick (i := evs.length / 64) hs (by omega)
    have hs : Sat F0 W ((blk ((ps ++ [b3]).getD (evs.length / 64) 0) (en ec (fun i => evs.getD (64 * (evs.length / 64) + i) evz) 64) 112) :: (bun (((List.range (ps ++ [b3]).length).erase (evs.length / 64)).map (tblk evs (ps ++ [b3])))) :: (blk b [.slice a5 ((ps ++ [b3]).length) c6, .int .i64 ((evs.length : Nat) : Int)] 78) :: (row 111 1 (.slice a5 ((ps ++ [b3]).length) c6) ((ps ++ [b3]).length) (el pvc (ps ++ [b3]))) :: (blk b1 [.int .i64 ev.1, .int .i64 ev.2.1, .int .i64 ev.2.2] 36) :: M) R w := hs
    have hL := okL.cons (hs.mi 2 rfl) (okL.cons (hs.mi 3 rfl) (okL.cons (hs.mi 4 rfl) okL.nil))
    refine d_begin _ 20 (by kernel_rfl) rfl hs hL fun w hs hL => ?_
    refine d_v 0 1 hk hL rfl (by kernel_rfl) rfl rfl (fun w hL => w_mv rfl) fun a hk => ?_
    refine d_v 1 3 hk hL rfl (by kernel_rfl) rfl rfl (fun w hL => w_nilC rfl) fun a hk => ?_
    refine d_v 2 7 hk hL rfl (by kernel_rfl) rfl rfl (fun w hL => w_fa rfl fq78_0 ty76) fun a hk => ?_
    refine d_v 3 15 hk hL rfl (by kernel_rfl) rfl rfl (fun w hL => w_ld1 rfl ty76 (.blk (n := 1) (hL.at 0 rfl) rfl)) fun a hk => ?_
    refine d_v 4 31 hk hL rfl (by kernel_rfl) rfl rfl (fun w hL => w_mv rfl) fun a hk => ?_
    refine d_v 5 63 hk hL rfl (by kernel_rfl) rfl rfl (fun w hL => w_nilC rfl) fun a hk => ?_
    refine d_v 6 127 hk hL rfl (by kernel_rfl) rfl rfl (fun w hL => w_fa rfl fq78_1 ty3) fun a hk => ?_
    refine d_v 7 255 hk hL rfl (by kernel_rfl) rfl rfl (fun w hL => w_ld1 rfl ty3 (.blk (n := 1) (hL.at 0 rfl) rfl)) fun a hk => ?_
    refine d_v 8 511 hk hL rfl (by kernel_rfl) rfl rfl (fun w hL => w_quo rfl rfl (by omega) (wdv64 (by omega) (by omega) (by omega))) fun a hk => ?_
    refine d_v 9 1023 hk hL rfl (by kernel_rfl) rfl rfl (fun w hL => w_iaL (k := (evs.length / 64)) rfl rfl Tryd.underlying76 ty111 (row_lst (hL.at 1 rfl)) (by omega) (by omega)) fun a hk => ?_
    refine d_v 10 2047 hk hL rfl (by kernel_rfl) rfl rfl (fun w hL => w_ld1 rfl ty111 (lstq (k := (evs.length / 64)) (row_lst (hL.at 1 rfl)) (by omega) (el_chunk pvc_len (by omega) 0))) fun a hk => ?_
    refine d_v 11 4095 hk hL rfl (by kernel_rfl) rfl rfl (fun w hL => w_mv rfl) fun a hk => ?_
    refine d_v 12 8191 hk hL rfl (by kernel_rfl) rfl rfl (fun w hL => w_nilC rfl) fun a hk => ?_
    refine d_v 13 16383 hk hL rfl (by kernel_rfl) rfl rfl (fun w hL => w_fa rfl fq78_1 ty3) fun a hk => ?_
    refine d_v 14 32767 hk hL rfl (by kernel_rfl) rfl rfl (fun w hL => w_ld1 rfl ty3 (.blk (n := 1) (hL.at 0 rfl) rfl)) fun a hk => ?_
    refine d_v 15 65535 hk hL rfl (by kernel_rfl) rfl rfl (fun w hL => w_rem rfl rfl (by omega) (wmd (by omega))) fun a hk => ?_
    refine d_v 16 131071 hk hL rfl (by kernel_rfl) rfl rfl (fun w hL => w_ldA rfl ty36 (.blk (n := 3) (hL.at 2 rfl) rfl) rfl) fun a hk => ?_
    refine d_v 17 262143 hk hL rfl (by kernel_rfl) rfl rfl (fun w hL => w_nilC rfl) fun a hk => ?_
    refine d_v 18 524287 hk hL rfl (by kernel_rfl) rfl rfl (fun w hL => w_iaA (k := (evs.length % 64)) rfl rfl Tryd.underlying112 ty36 (by omega) (by omega)) fun a hk => ?_
    refine d_1 19 1048575 rfl (by kernel_rfl) fun K hK => ?_
    refine q_stoE (c := ec) (xx := ev) (k := (evs.length % 64)) hk hs rfl rfl rfl ty36 rfl ec_len rfl (by omega) rfl fun w hs => ?_
    have hL := okL.cons (hs.mi 2 rfl) (okL.cons (hs.mi 3 rfl) (okL.cons (hs.mi 4 rfl) okL.nil))
    refine c_end (x_t (hK _ _ hL ?_))
    clear hK K
    refine d_end (by kernel_rfl) ?_
    refine (x_t ?_)
    refine wpIn_region_lit ?_
    refine q_val hk (w_mv rfl) rfl rfl rfl fun a hk => ?_
    refine q_val hk (w_nilC rfl) rfl rfl rfl fun a hk => ?_
    refine q_val hk (w_fa rfl fq78_1 ty3) rfl rfl rfl fun a hk => ?_
    refine q_val hk (w_ld1 rfl ty3 (.blk (n := 1) (hs.mi 2 rfl) rfl)) rfl rfl rfl fun a hk => ?_
    refine q_val hk (w_add rfl rfl (wr64 (by omega) (by omega))) rfl rfl rfl fun a hk => ?_
    refine q_val hk (w_nilC rfl) rfl rfl rfl fun a hk => ?_
    refine q_val hk (w_fa rfl fq78_1 ty3) rfl rfl rfl fun a hk => ?_
    have hs := hs.up2
    refine q_sto (o := 1) (cs := [.int .i64 (((evs.length : Nat) : Int) + 1)]) (vs' := [.slice a5 ((ps ++ [b3]).length) c6, .int .i64 (((evs.length : Nat) : Int) + 1)]) hk hs rfl rfl rfl ty3 rfl rfl rfl rfl rfl rfl fun w hs => ?_
    refine (c_end ?_)
    refine c_end0 hk rfl ?_
    have hs := hs.up4
    have hs := hs.drop
    have hs := hs.up3
    have hs := hs.up1
    have hs := hs.up3
    have hs := hs.up3
    have hs := hs.rw0 (tblk_new (evs := evs) (e := ev) (ps := (ps ++ [b3]))).symm
    have hs := (Sat.unpick (g := tblk (evs ++ [ev]) (ps ++ [b3])) (f := tblk evs (ps ++ [b3])) hs (by omega) (fun j _ hj => tblk_same hj rfl)).up2.up2
    rw [show (((evs.length : Nat) : Int) + 1) = (((evs ++ [ev]).length : Nat) : Int) by rw [List.length_append]; rfl] at hs
    exact ⟨_, _, rfl, ⟨_, _, (ps ++ [b3]), by have e1 : (evs ++ [ev]).length = evs.length + 1 := (by rw [List.length_append, List.length_singleton]); omega, rfl⟩, Sat.pack (l := [_, _, _]) hs⟩
  · skip
    refine q_val hk (w_eq rfl rfl (decide_eq_false hc2)) rfl rfl rfl fun a hk => ?_
    refine (c_end (x_t ?_))
    refine c_F hk rfl ?_
    refine (wpIn_skip (x_t ?_))
    refine wpIn_seq ?_
    have hq : ps.length = evs.length / 64 + 1 := by omega
    have hs := hs.up3
    have hs := Sat.pick (i := evs.length / 64) hs (by omega)
    have hs : Sat F0 W ((blk (ps.getD (evs.length / 64) 0) (en ec (fun i => evs.getD (64 * (evs.length / 64) + i) evz) 64) 112) :: (bun (((List.range ps.length).erase (evs.length / 64)).map (tblk evs ps))) :: (blk b1 [.int .i64 ev.1, .int .i64 ev.2.1, .int .i64 ev.2.2] 36) :: (blk b [.slice la ps.length lc, .int .i64 ((evs.length : Nat) : Int)] 78) :: (row 111 1 (.slice la ps.length lc) ps.length (el pvc ps)) :: M) R w := hs
    have hL := okL.cons (hs.mi 3 rfl) (okL.cons (hs.mi 4 rfl) (okL.cons (hs.mi 2 rfl) okL.nil))
    refine d_begin _ 20 (by kernel_rfl) rfl hs hL fun w hs hL => ?_
    refine d_v 0 1 hk hL rfl (by kernel_rfl) rfl rfl (fun w hL => w_mv rfl) fun a hk => ?_
    refine d_v 1 3 hk hL rfl (by kernel_rfl) rfl rfl (fun w hL => w_nilC rfl) fun a hk => ?_
    refine d_v 2 7 hk hL rfl (by kernel_rfl) rfl rfl (fun w hL => w_fa rfl fq78_0 ty76) fun a hk => ?_
    refine d_v 3 15 hk hL rfl (by kernel_rfl) rfl rfl (fun w hL => w_ld1 rfl ty76 (.blk (n := 1) (hL.at 0 rfl) rfl)) fun a hk => ?_
    refine d_v 4 31 hk hL rfl (by kernel_rfl) rfl rfl (fun w hL => w_mv rfl) fun a hk => ?_
    refine d_v 5 63 hk hL rfl (by kernel_rfl) rfl rfl (fun w hL => w_nilC rfl) fun a hk => ?_
    refine d_v 6 127 hk hL rfl (by kernel_rfl) rfl rfl (fun w hL => w_fa rfl fq78_1 ty3) fun a hk => ?_
    refine d_v 7 255 hk hL rfl (by kernel_rfl) rfl rfl (fun w hL => w_ld1 rfl ty3 (.blk (n := 1) (hL.at 0 rfl) rfl)) fun a hk => ?_
    refine d_v 8 511 hk hL rfl (by kernel_rfl) rfl rfl (fun w hL => w_quo rfl rfl (by omega) (wdv64 (by omega) (by omega) (by omega))) fun a hk => ?_
    refine d_v 9 1023 hk hL rfl (by kernel_rfl) rfl rfl (fun w hL => w_iaL (k := (evs.length / 64)) rfl rfl Tryd.underlying76 ty111 (row_lst (hL.at 1 rfl)) (by omega) (by omega)) fun a hk => ?_
    refine d_v 10 2047 hk hL rfl (by kernel_rfl) rfl rfl (fun w hL => w_ld1 rfl ty111 (lstq (k := (evs.length / 64)) (row_lst (hL.at 1 rfl)) (by omega) (el_chunk pvc_len (by omega) 0))) fun a hk => ?_
    refine d_v 11 4095 hk hL rfl (by kernel_rfl) rfl rfl (fun w hL => w_mv rfl) fun a hk => ?_
    refine d_v 12 8191 hk hL rfl (by kernel_rfl) rfl rfl (fun w hL => w_nilC rfl) fun a hk => ?_
    refine d_v 13 16383 hk hL rfl (by kernel_rfl) rfl rfl (fun w hL => w_fa rfl fq78_1 ty3) fun a hk => ?_
    refine d_v 14 32767 hk hL rfl (by kernel_rfl) rfl rfl (fun w hL => w_ld1 rfl ty3 (.blk (n := 1) (hL.at 0 rfl) rfl)) fun a hk => ?_
    refine d_v 15 65535 hk hL rfl (by kernel_rfl) rfl rfl (fun w hL => w_rem rfl rfl (by omega) (wmd (by omega))) fun a hk => ?_
    refine d_v 16 131071 hk hL rfl (by kernel_rfl) rfl rfl (fun w hL => w_ldA rfl ty36 (.blk (n := 3) (hL.at 2 rfl) rfl) rfl) fun a hk => ?_
    refine d_v 17 262143 hk hL rfl (by kernel_rfl) rfl rfl (fun w hL => w_nilC rfl) fun a hk => ?_
    refine d_v 18 524287 hk hL rfl (by kernel_rfl) rfl rfl (fun w hL => w_iaA (k := (evs.length % 64)) rfl rfl Tryd.underlying112 ty36 (by omega) (by omega)) fun a hk => ?_
    refine d_1 19 1048575 rfl (by kernel_rfl) fun K hK => ?_
    refine q_stoE (c := ec) (xx := ev) (k := (evs.length % 64)) hk hs rfl rfl rfl ty36 rfl ec_len rfl (by omega) rfl fun w hs => ?_
    have hL := okL.cons (hs.mi 3 rfl) (okL.cons (hs.mi 4 rfl) (okL.cons (hs.mi 2 rfl) okL.nil))
    refine c_end (x_t (hK _ _ hL ?_))
    clear hK K
    refine d_end (by kernel_rfl) ?_
    refine (x_t ?_)
    refine wpIn_region_lit ?_
    refine q_val hk (w_mv rfl) rfl rfl rfl fun a hk => ?_
    refine q_val hk (w_nilC rfl) rfl rfl rfl fun a hk => ?_
    refine q_val hk (w_fa rfl fq78_1 ty3) rfl rfl rfl fun a hk => ?_
    refine q_val hk (w_ld1 rfl ty3 (.blk (n := 1) (hs.mi 3 rfl) rfl)) rfl rfl rfl fun a hk => ?_
    refine q_val hk (w_add rfl rfl (wr64 (by omega) (by omega))) rfl rfl rfl fun a hk => ?_
    refine q_val hk (w_nilC rfl) rfl rfl rfl fun a hk => ?_
    refine q_val hk (w_fa rfl fq78_1 ty3) rfl rfl rfl fun a hk => ?_
    have hs := hs.up3
    refine q_sto (o := 1) (cs := [.int .i64 (((evs.length : Nat) : Int) + 1)]) (vs' := [.slice la ps.length lc, .int .i64 (((evs.length : Nat) : Int) + 1)]) hk hs rfl rfl rfl ty3 rfl rfl rfl rfl rfl rfl fun w hs => ?_
    refine (c_end ?_)
    refine c_end0 hk rfl ?_
    have hs := hs.up3
    have hs := hs.drop
    have hs := hs.up3
    have hs := hs.up1
    have hs := hs.up3
    have hs := hs.up3
    have hs := hs.rw0 (tblk_new (evs := evs) (e := ev) (ps := ps)).symm
    have hs := (Sat.unpick (g := tblk (evs ++ [ev]) ps) (f := tblk evs ps) hs (by omega) (fun j _ hj => tblk_same hj rfl)).up2.up2
    rw [show (((evs.length : Nat) : Int) + 1) = (((evs ++ [ev]).length : Nat) : Int) by rw [List.length_append]; rfl] at hs
    exact ⟨_, _, rfl, ⟨_, _, ps, by have e1 : (evs ++ [ev]).length = evs.length + 1 := (by rw [List.length_append, List.length_singleton]); omega, rfl⟩, Sat.pack (l := [_, _, _]) hs⟩
theorem note_s {F0 : Nat → Prop} {W : World} {M R : List Res} (b : Nat) (kd la lb : Int) (evs : List Ev) (tla : Option Addr) (tlc : Nat) (ps : List Nat) (w0 : World) (hs : Sat F0 W ((tapeR b tla tlc ps evs) :: M) R w0) (hps : ps.length = (evs.length + 63) / 64) (hn : evs.length ≤ 1000000000000) : Calls Tryd.prog 26 [.pointer (some ⟨b, 0, none⟩), .int .i64 kd, .int .i64 la, .int .i64 lb].toArray w0 fun e w => ∃ v r, e = .returned v ∧ TapeIs (some b) (evs ++ [(kd, la, lb)]) r ∧ Sat F0 W (r :: M) R w := by
  refine c_enter (args := [.pointer (some ⟨b, 0, none⟩), .int .i64 kd, .int .i64 la, .int .i64 lb]) Tryd.func26 rfl rfl rfl fun a hk => ?_
  refine wpIn_seq ?_
  refine wpIn_region_lit ?_
  refine q_val hk (w_mv rfl) rfl rfl rfl fun a hk => ?_
  refine q_val hk (w_pne (t := true) rfl rfl Tryd.underlying33 rfl) rfl rfl rfl fun a hk => ?_
  refine (c_end (x_t ?_))
  refine c_T hk rfl ?_
  refine wpIn_region_lit ?_
  refine q_val hk (w_mv rfl) rfl rfl rfl fun a hk => ?_
  refine q_val hk (w_mv rfl) rfl rfl rfl fun a hk => ?_
  refine q_val hk (w_mv rfl) rfl rfl rfl fun a hk => ?_
  refine q_val hk (w_mv rfl) rfl rfl rfl fun a hk => ?_
  refine q_val hk (w_bld rfl fl36 zr36 rfl rfl) rfl rfl rfl fun a hk => ?_
  refine q_call (caps := []) hk rfl rfl Tryd.func52 fo52 rfl rfl (add_m b (kd, la, lb) evs tla tlc ps _ (Sat.unpack (l := [_, _, _]) hs) hps hn) ?_
  rintro _ w ⟨v1, r2, rfl, ht3, hs⟩
  refine ⟨_, rfl, fun a hk => ?_⟩
  refine (c_end ?_)
  refine c_end0 hk rfl ?_
  exact ⟨_, _, rfl, ht3, hs⟩
theorem note_n {F0 : Nat → Prop} {W : World} {M R : List Res} (kd la lb : Int) (w0 : World) (hs : Sat F0 W M R w0)  : Calls Tryd.prog 26 [.pointer none, .int .i64 kd, .int .i64 la, .int .i64 lb].toArray w0 fun e w => ∃ v, e = .returned v ∧ Sat F0 W M R w := by
  refine c_enter (args := [.pointer none, .int .i64 kd, .int .i64 la, .int .i64 lb]) Tryd.func26 rfl rfl rfl fun a hk => ?_
  refine wpIn_seq ?_
  refine wpIn_region_lit ?_
  refine q_val hk (w_mv rfl) rfl rfl rfl fun a hk => ?_
  refine q_val hk (w_pne (t := false) rfl rfl Tryd.underlying33 rfl) rfl rfl rfl fun a hk => ?_
  refine (c_end (x_t ?_))
  refine c_F hk rfl ?_
  refine (wpIn_skip ?_)
  refine c_end0 hk rfl ?_
  exact ⟨_, rfl, hs⟩
theorem note_m {F0 : Nat → Prop} {W : World} {M R : List Res} (t : Option Nat) (kd la lb : Int) (evs : List Ev) (r : Res) (w0 : World) (hT : TapeIs t evs r) (hs : Sat F0 W (r :: M) R w0) (hn : evs.length ≤ 1000000000000) :
    Calls Tryd.prog 26 [tval t, .int .i64 kd, .int .i64 la, .int .i64 lb].toArray w0 fun e w => ∃ v r, e = .returned v ∧ TapeIs t (evs ++ [(kd, la, lb)]) r ∧ Sat F0 W (r :: M) R w := by
  cases t with
  | none =>
    obtain rfl := hT
    refine (note_n kd la lb w0 hs).mono ?_
    rintro e w ⟨v, rfl, hs⟩
    exact ⟨_, _, rfl, rfl, hs⟩
  | some b =>
    obtain ⟨tla, tlc, ps, hps, rfl⟩ := hT
    exact note_s b kd la lb evs tla tlc ps w0 hs hps hn
theorem newTape_m {F0 : Nat → Prop} {W : World} {M R : List Res}  (w0 : World) (hs : Sat F0 W M R w0)  : Calls Tryd.prog 25 [.slice none 0 0].toArray w0 fun e w => ∃ b r, e = .returned (.pointer (some ⟨b, 0, none⟩)) ∧ TapeIs (some b) [] r ∧ Sat F0 W (r :: M) R w := by
  refine c_enter (args := [.slice none 0 0]) Tryd.func25 rfl rfl rfl fun a hk => ?_
  refine wpIn_seq ?_
  refine wpIn_region_lit ?_
  refine q_val hk (w_as rfl) rfl rfl rfl fun a hk => ?_
  refine (c_end (x_t ?_))
  refine wpIn_seq ?_
  refine wpIn_region_lit ?_
  refine q_val hk (w_bld rfl fl78 zr78 rfl rfl) rfl rfl rfl fun a hk => ?_
  refine q_box (vs := [.slice none 0 0, .int .i64 0]) hk hs rfl rfl rfl rfl fun b1 w a hk hs => ?_
  refine q_val hk (w_as rfl) rfl rfl rfl fun a hk => ?_
  refine (c_end (x_t ?_))
  refine wpIn_seq ?_
  refine wpIn_seq ?_
  refine wpIn_region_lit ?_
  refine q_val hk (w_mv rfl) rfl rfl rfl fun a hk => ?_
  refine q_val hk (w_len rfl Tryd.underlying26) rfl rfl rfl fun a hk => ?_
  refine q_val hk (w_mv rfl) rfl rfl rfl fun a hk => ?_
  refine (c_end (x_t ?_))
  refine wpIn_block ?_
  refine c_rounds 1 ?_
  refine c_rsucc ?_
  refine wpIn_seq ?_
  refine wpIn_region_lit ?_
  refine q_val hk (w_lt rfl rfl (decide_eq_false (by decide))) rfl rfl rfl fun a hk => ?_
  refine (c_end (x_t ?_))
  refine wpIn_seq ?_
  refine c_F hk rfl ?_
  refine (wpIn_exit (x_te (x_te (x_be ?_))))
  refine (x_t ?_)
  refine wpIn_seq ?_
  refine wpIn_region_lit ?_
  refine q_val hk (w_mv rfl) rfl rfl rfl fun a hk => ?_
  refine q_val hk (w_as rfl) rfl rfl rfl fun a hk => ?_
  refine (c_end (x_t ?_))
  refine (wpIn_ret ?_)
  refine c_ret1 hk rfl rfl ?_
  have hs := ((Sat.pack (l := []) hs).row0 111 1).up2
  exact ⟨b1, _, rfl, ⟨none, 0, [], rfl, rfl⟩, Sat.pack (l := [_, _, _]) hs⟩
theorem tlen_s (b nb lc : Nat) (la : Option Addr) (evs : List Ev) (W : World) (HB : (blk b [.slice la nb lc, .int .i64 ((evs.length : Nat) : Int)] 78).ok W) : Calls Tryd.prog 84 [.pointer (some ⟨b, 0, none⟩)].toArray W fun e w => e = .returned (.int .i64 ((evs.length : Nat) : Int)) ∧ Below W.heap.size W w := by
  refine c_enter (args := [.pointer (some ⟨b, 0, none⟩)]) Tryd.func84 rfl rfl rfl fun a hk => ?_
  have hs := Sat.start W [blk b [.slice la nb lc, .int .i64 ((evs.length : Nat) : Int)] 78] (okr1 HB)
  refine wpIn_seq ?_
  refine wpIn_region_lit ?_
  refine q_val hk (w_as rfl) rfl rfl rfl fun a hk => ?_
  refine (c_end (x_t ?_))
  refine wpIn_seq ?_
  refine wpIn_seq ?_
  refine wpIn_region_lit ?_
  refine q_val hk (w_mv rfl) rfl rfl rfl fun a hk => ?_
  refine q_val hk (w_peq rfl rfl Tryd.underlying33 rfl) rfl rfl rfl fun a hk => ?_
  refine (c_end (x_t ?_))
  refine c_F hk rfl ?_
  refine (wpIn_skip (x_t ?_))
  refine wpIn_seq ?_
  refine wpIn_region_lit ?_
  refine q_val hk (w_mv rfl) rfl rfl rfl fun a hk => ?_
  refine q_val hk (w_nilC rfl) rfl rfl rfl fun a hk => ?_
  refine q_val hk (w_fa rfl fq78_1 ty3) rfl rfl rfl fun a hk => ?_
  refine q_val hk (w_ld1 rfl ty3 (.blk (n := 1) (hs.ri 0 rfl) rfl)) rfl rfl rfl fun a hk => ?_
  refine q_val hk (w_as rfl) rfl rfl rfl fun a hk => ?_
  refine (c_end (x_t ?_))
  refine (wpIn_ret ?_)
  refine c_ret1 hk rfl rfl ?_
  exact ⟨rfl, hs.toBelow⟩
theorem from_it (bf bt b lc : Nat) (la : Option Addr) (ps : List Nat) (evs : List Ev) (hps : ps.length = (evs.length + 63) / 64) (hn : evs.length ≤ 1000000000000) : IterQ Tryd.prog 109 [.pointer (some ⟨bf, 0, none⟩), .pointer (some ⟨bt, 0, none⟩)] evE evs (fun _ r => r = nores) (rall [rall [blk bf [.int .i64 0] 3, blk bt [.pointer (some ⟨b, 0, none⟩)] 33], tapeR b la lc ps evs]) := by
  intro l J Jx F0 W R hR hY FR j k w0 hj hK hs
  obtain rfl := hK
  refine c_enter (args := [.func (.yield l) #[] #[], .pointer (some ⟨bf, 0, none⟩), .pointer (some ⟨bt, 0, none⟩)]) Tryd.func109 rfl rfl rfl fun a hk => ?_
  refine wpIn_seq ?_
  have hL := okL.cons (((hR.pi 0 rfl).pi 0 rfl).at_ hs) (okL.cons (((hR.pi 0 rfl).pi 1 rfl).at_ hs) okL.nil)
  refine d_begin _ 6 (by kernel_rfl) rfl hs hL fun w hs hL => ?_
  refine d_v 0 1 hk hL rfl (by kernel_rfl) rfl rfl (fun w hL => w_ld1 rfl ty3 (.blk (n := 1) (hL.at 0 rfl) rfl)) fun a hk => ?_
  refine d_v 1 3 hk hL rfl (by kernel_rfl) rfl rfl (fun w hL => w_max (r := 0) rfl rfl rfl) fun a hk => ?_
  refine d_v 2 7 hk hL rfl (by kernel_rfl) rfl rfl (fun w hL => w_ld1 rfl ty33 (.blk (n := 1) (hL.at 1 rfl) rfl)) fun a hk => ?_
  refine d_1 3 15 rfl (by kernel_rfl) fun K hK => ?_
  refine q_call (caps := []) hk rfl rfl Tryd.func84 fo84 rfl rfl (tlen_s b _ _ _ evs _ (tape_parts ((hR.pi 1 rfl).at_ hs)).1) ?_
  rintro _ w ⟨rfl, hb⟩
  have hs := hs.below hb
  refine ⟨_, rfl, fun a hk => ?_⟩
  have hL := okL.cons (((hR.pi 0 rfl).pi 0 rfl).at_ hs) (okL.cons (((hR.pi 0 rfl).pi 1 rfl).at_ hs) okL.nil)
  refine c_end (x_t (hK _ _ hL ?_))
  clear hK K
  refine d_v 4 31 hk hL rfl (by kernel_rfl) rfl rfl (fun w hL => w_as rfl) fun a hk => ?_
  refine d_v 5 63 hk hL rfl (by kernel_rfl) rfl rfl (fun w hL => w_as rfl) fun a hk => ?_
  refine d_end (by kernel_rfl) ?_
  refine (x_t ?_)
  refine wpIn_block ?_
  refine c_loop (α := Nat) (fun i a w => ∃ (j : Res), i ≤ evs.length ∧ J i j ∧ Kn [] 32 [(4, .int .i64 (i : Int)), (5, .int .i64 ((evs.length : Nat) : Int)), (0, .func (.yield l) #[] #[]), (2, .pointer (some ⟨bt, 0, none⟩))] a ∧ Sat F0 W [j, nores, FR] R w) (fun i => evs.length - i) 0 ?_ ?_
  · exact ⟨_, (by omega), hj, hk.k rfl (hk.k rfl (hk.k rfl (hk.k rfl hk.nil))), hs⟩
  rintro i a w ⟨j, hf0, hf1, hk, hs⟩
  have hj := hf1
  refine wpIn_seq ?_
  refine wpIn_seq ?_
  refine wpIn_region_lit ?_
  refine q_val hk (w_mv rfl) rfl rfl rfl fun a hk => ?_
  refine q_val hk (w_mv rfl) rfl rfl rfl fun a hk => ?_
  rcases Classical.em ((i : Int) < ((evs.length : Nat) : Int)) with hc1 | hc1
  · skip
    have hlt : i < evs.length := by omega
    refine q_val hk (w_lt rfl rfl (decide_eq_true hc1)) rfl rfl rfl fun a hk => ?_
    refine q_val hk (w_mv rfl) rfl rfl rfl fun a hk => ?_
    refine q_val hk (w_mv rfl) rfl rfl rfl fun a hk => ?_
    refine q_val hk (w_ld1 rfl ty33 (.blk (n := 1) (((hR.pi 0 rfl).pi 1 rfl).at_ hs) rfl)) rfl rfl rfl fun a hk => ?_
    refine q_val hk (w_nilC rfl) rfl rfl rfl fun a hk => ?_
    refine q_val hk (w_fa rfl fq78_0 ty76) rfl rfl rfl fun a hk => ?_
    refine q_val hk (w_ld1 rfl ty76 (.blk (n := 1) ((tape_parts ((hR.pi 1 rfl).at_ hs)).1) rfl)) rfl rfl rfl fun a hk => ?_
    refine q_val hk (w_mv rfl) rfl rfl rfl fun a hk => ?_
    refine q_val hk (w_quo rfl rfl (by omega) (wdv64 (by omega) (by omega) (by omega))) rfl rfl rfl fun a hk => ?_
    refine q_val hk (w_iaL (k := (i / 64)) rfl rfl Tryd.underlying76 ty111 ((tape_parts ((hR.pi 1 rfl).at_ hs)).2.1) (by omega) (by omega)) rfl rfl rfl fun a hk => ?_
    refine q_val hk (w_ld1 rfl ty111 (lstq (k := (i / 64)) ((tape_parts ((hR.pi 1 rfl).at_ hs)).2.1) (by omega) (el_chunk pvc_len (by omega) 0))) rfl rfl rfl fun a hk => ?_
    refine q_val hk (w_mv rfl) rfl rfl rfl fun a hk => ?_
    refine q_val hk (w_rem rfl rfl (by omega) (wmd (by omega))) rfl rfl rfl fun a hk => ?_
    refine q_val hk (w_nilC rfl) rfl rfl rfl fun a hk => ?_
    refine q_val hk (w_iaA (k := i % 64) rfl rfl Tryd.underlying112 ty36 (by omega) (by omega)) rfl rfl rfl fun a hk => ?_
    refine q_val hk (w_ldA rfl ty36 (tape_cell ((hR.pi 1 rfl).at_ hs) hps hlt) rfl) rfl rfl rfl fun a hk => ?_
    refine q_yield hk hs i (evs.getD i evz) rfl rfl hY (getD_some hlt) rfl hj rfl rfl fun y2 j w a hj hk hs => ?_
    refine q_val hk (w_pickT rfl rfl) rfl rfl rfl fun a hk => ?_
    refine (c_end (x_t ?_))
    rcases y2 with _ | _
    · skip
      have hj : Jx (i + 1) j := hj
      refine c_F hk rfl ?_
      refine (wpIn_exit (x_te (x_te (x_be ?_))))
      refine c_end0 hk rfl ?_
      exact ⟨⟨_, rfl⟩, _, _, hs, .inr ⟨i, hlt, hj, rfl⟩⟩
    · skip
      have hj : J (i + 1) j := hj
      refine c_T hk rfl ?_
      refine (wpIn_skip (x_t ?_))
      refine wpIn_seq ?_
      refine wpIn_block ?_
      refine (wpIn_skip (x_b (x_t ?_)))
      refine wpIn_region_lit ?_
      refine q_val hk (w_mv rfl) rfl rfl rfl fun a hk => ?_
      refine q_val hk (w_add rfl rfl (wr64 (by omega) (by omega))) rfl rfl rfl fun a hk => ?_
      refine q_val hk (w_as rfl) rfl rfl rfl fun a hk => ?_
      refine (c_end (x_t ?_))
      exact ⟨i + 1, ⟨_, (by omega), hj, hk.k rfl (hk.k rfl (hk.k rfl (hk.k rfl hk.nil))), hs⟩, by omega⟩
  · skip
    refine q_val hk (w_lt rfl rfl (decide_eq_false hc1)) rfl rfl rfl fun a hk => ?_
    refine q_val hk (w_mv rfl) rfl rfl rfl fun a hk => ?_
    refine q_skip hk rfl rfl fun a hk => ?_
    refine q_skip hk rfl rfl fun a hk => ?_
    refine q_skip hk rfl rfl fun a hk => ?_
    refine q_skip hk rfl rfl fun a hk => ?_
    refine q_skip hk rfl rfl fun a hk => ?_
    refine q_skip hk rfl rfl fun a hk => ?_
    refine q_skip hk rfl rfl fun a hk => ?_
    refine q_skip hk rfl rfl fun a hk => ?_
    refine q_skip hk rfl rfl fun a hk => ?_
    refine q_skip hk rfl rfl fun a hk => ?_
    refine q_skip hk rfl rfl fun a hk => ?_
    refine q_skip hk rfl rfl fun a hk => ?_
    refine q_skip hk rfl rfl fun a hk => ?_
    refine q_skip hk rfl rfl fun a hk => ?_
    refine q_skip hk rfl rfl fun a hk => ?_
    refine q_val hk (w_pickF rfl rfl) rfl rfl rfl fun a hk => ?_
    refine (c_end (x_t ?_))
    refine c_F hk rfl ?_
    refine (wpIn_exit (x_te (x_te (x_be ?_))))
    refine c_end0 hk rfl ?_
    exact ⟨⟨_, rfl⟩, _, _, hs, .inl ⟨(by have e : i = evs.length := (by omega); rw [e] at hj; exact hj), rfl⟩⟩
theorem from_c (b : Nat) (W : World)  : Calls Tryd.prog 85 [.pointer (some ⟨b, 0, none⟩), .int .i64 0].toArray W fun e w => ∃ bf bt, e = .returned (.func (.func 109) #[] #[.pointer (some ⟨bf, 0, none⟩), .pointer (some ⟨bt, 0, none⟩)]) ∧ Sat no W [blk bf [.int .i64 0] 3, blk bt [.pointer (some ⟨b, 0, none⟩)] 33] [] w := by
  refine c_enter (args := [.pointer (some ⟨b, 0, none⟩), .int .i64 0]) Tryd.func85 rfl rfl rfl fun a hk => ?_
  have hs := Sat.start W [] (fun _ h => by cases h)
  refine wpIn_seq ?_
  refine wpIn_region_lit ?_
  refine q_box (vs := [.pointer (some ⟨b, 0, none⟩)]) hk hs rfl rfl rfl rfl fun b1 w a hk hs => ?_
  refine q_box (vs := [.int .i64 0]) hk hs rfl rfl rfl rfl fun b2 w a hk hs => ?_
  refine q_val hk (w_as rfl) rfl rfl rfl fun a hk => ?_
  refine (c_end (x_t ?_))
  refine wpIn_seq ?_
  refine wpIn_region_lit ?_
  refine q_val hk (w_mkf (frees := [.tmp 3, .tmp 2]) rfl) rfl rfl rfl fun a hk => ?_
  refine q_val hk (w_as rfl) rfl rfl rfl fun a hk => ?_
  refine (c_end (x_t ?_))
  refine (wpIn_ret ?_)
  refine c_ret1 hk rfl rfl ?_
  exact ⟨_, _, rfl, hs.fin⟩
theorem tfirst_c (bx by' lc1 lc2 : Nat) (la1 la2 : Option Addr) (ps1 ps2 : List Nat) (evs1 evs2 : List Ev) (W : World) (H1 : (tapeR bx la1 lc1 ps1 evs1).ok W) (H2 : (tapeR by' la2 lc2 ps2 evs2).ok W) (h1 : ps1.length = (evs1.length + 63) / 64) (h2 : ps2.length = (evs2.length + 63) / 64) (hn1 : evs1.length ≤ 1000000000000) (hn2 : evs2.length ≤ 1000000000000) : Calls Tryd.prog 53 [.pointer (some ⟨bx, 0, none⟩), .pointer (some ⟨by', 0, none⟩)].toArray W fun e w => e = .returned (.int .i64 (firstE evs1 evs2)) ∧ Below W.heap.size W w := by
  refine c_enterM (args := [.pointer (some ⟨bx, 0, none⟩), .pointer (some ⟨by', 0, none⟩)]) Tryd.func53 rfl rfl rfl fun a hk => ?_
  have hs := Sat.start W [tapeR bx la1 lc1 ps1 evs1, tapeR by' la2 lc2 ps2 evs2] (okrc H1 (okr1 H2))
  refine wpIn_seq ?_
  refine wpIn_region_lit ?_
  refine q_box (vs := [.pointer (some ⟨by', 0, none⟩)]) hk hs rfl rfl rfl rfl fun b1 w a hk hs => ?_
  refine q_alc (vs := [.int .i64 0]) hk hs zr3 rfl rfl rfl fun b2 w a hk hs => ?_
  refine (c_end (x_t ?_))
  refine wpIn_seq ?_
  have hL := okL.cons (hs.mi 1 rfl) okL.nil
  refine d_begin _ 9 (by kernel_rfl) rfl hs hL fun w hs hL => ?_
  refine d_join (n2 := 2) 127 (fun a w => ∃ (b1_6 : Nat) (b1_5 : Nat), Kn [] 45 [(6, .pointer (some ⟨b1_6, 0, none⟩)), (5, .pointer (some ⟨b1_5, 0, none⟩)), (12, .int .i64 (min ((evs1.length : Nat) : Int) ((evs2.length : Nat) : Int))), (11, .int .i64 ((evs2.length : Nat) : Int)), (9, .int .i64 ((evs1.length : Nat) : Int)), (10, .pointer (some ⟨by', 0, none⟩)), (8, .pointer (some ⟨bx, 0, none⟩)), (4, .pointer (some ⟨b2, 0, none⟩)), (3, .pointer (some ⟨b1, 0, none⟩)), (0, .pointer (some ⟨bx, 0, none⟩)), (1, .pointer (some ⟨by', 0, none⟩))] a ∧ Sat no W [blk b1_6 [.int .i64 0] 3, blk b1_5 [.int .i64 0] 3, blk b2 [.int .i64 0] 3, blk b1 [.pointer (some ⟨by', 0, none⟩)] 33] [tapeR bx la1 lc1 ps1 evs1, tapeR by' la2 lc2 ps2 evs2] w ∧ okL [blk b1 [.pointer (some ⟨by', 0, none⟩)] 33] w) ?_ ?_
  · intro hJ127
    refine d_join (n2 := 3) 63 (fun a w => ∃ (b1_5 : Nat), Kn [] 45 [(5, .pointer (some ⟨b1_5, 0, none⟩)), (12, .int .i64 (min ((evs1.length : Nat) : Int) ((evs2.length : Nat) : Int))), (11, .int .i64 ((evs2.length : Nat) : Int)), (9, .int .i64 ((evs1.length : Nat) : Int)), (10, .pointer (some ⟨by', 0, none⟩)), (8, .pointer (some ⟨bx, 0, none⟩)), (4, .pointer (some ⟨b2, 0, none⟩)), (3, .pointer (some ⟨b1, 0, none⟩)), (0, .pointer (some ⟨bx, 0, none⟩)), (1, .pointer (some ⟨by', 0, none⟩))] a ∧ Sat no W [blk b1_5 [.int .i64 0] 3, blk b2 [.int .i64 0] 3, blk b1 [.pointer (some ⟨by', 0, none⟩)] 33] [tapeR bx la1 lc1 ps1 evs1, tapeR by' la2 lc2 ps2 evs2] w ∧ okL [blk b1 [.pointer (some ⟨by', 0, none⟩)] 33] w) ?_ ?_
    · intro hJ63
      refine d_join (n2 := 3) 95 (fun a w => ∃ (b1_6 : Nat), Kn [] 45 [(6, .pointer (some ⟨b1_6, 0, none⟩)), (12, .int .i64 (min ((evs1.length : Nat) : Int) ((evs2.length : Nat) : Int))), (11, .int .i64 ((evs2.length : Nat) : Int)), (9, .int .i64 ((evs1.length : Nat) : Int)), (10, .pointer (some ⟨by', 0, none⟩)), (8, .pointer (some ⟨bx, 0, none⟩)), (4, .pointer (some ⟨b2, 0, none⟩)), (3, .pointer (some ⟨b1, 0, none⟩)), (0, .pointer (some ⟨bx, 0, none⟩)), (1, .pointer (some ⟨by', 0, none⟩))] a ∧ Sat no W [blk b1_6 [.int .i64 0] 3, blk b2 [.int .i64 0] 3, blk b1 [.pointer (some ⟨by', 0, none⟩)] 33] [tapeR bx la1 lc1 ps1 evs1, tapeR by' la2 lc2 ps2 evs2] w ∧ okL [blk b1 [.pointer (some ⟨by', 0, none⟩)] 33] w) ?_ ?_
      · intro hJ95
        refine d_join (n2 := 4) 103 (fun a w => ∃ (b1_6 : Nat) (b1_5 : Nat), Kn [] 45 [(6, .pointer (some ⟨b1_6, 0, none⟩)), (5, .pointer (some ⟨b1_5, 0, none⟩)), (9, .int .i64 ((evs1.length : Nat) : Int)), (10, .pointer (some ⟨by', 0, none⟩)), (8, .pointer (some ⟨bx, 0, none⟩)), (4, .pointer (some ⟨b2, 0, none⟩)), (3, .pointer (some ⟨b1, 0, none⟩)), (0, .pointer (some ⟨bx, 0, none⟩)), (1, .pointer (some ⟨by', 0, none⟩))] a ∧ Sat no W [blk b1_6 [.int .i64 0] 3, blk b1_5 [.int .i64 0] 3, blk b2 [.int .i64 0] 3, blk b1 [.pointer (some ⟨by', 0, none⟩)] 33] [tapeR bx la1 lc1 ps1 evs1, tapeR by' la2 lc2 ps2 evs2] w ∧ okL [blk b1 [.pointer (some ⟨by', 0, none⟩)] 33] w) ?_ ?_
        · intro hJ103
          refine d_join (n2 := 5) 39 (fun a w => ∃ (b1_5 : Nat), Kn [] 45 [(5, .pointer (some ⟨b1_5, 0, none⟩)), (9, .int .i64 ((evs1.length : Nat) : Int)), (10, .pointer (some ⟨by', 0, none⟩)), (8, .pointer (some ⟨bx, 0, none⟩)), (4, .pointer (some ⟨b2, 0, none⟩)), (3, .pointer (some ⟨b1, 0, none⟩)), (0, .pointer (some ⟨bx, 0, none⟩)), (1, .pointer (some ⟨by', 0, none⟩))] a ∧ Sat no W [blk b1_5 [.int .i64 0] 3, blk b2 [.int .i64 0] 3, blk b1 [.pointer (some ⟨by', 0, none⟩)] 33] [tapeR bx la1 lc1 ps1 evs1, tapeR by' la2 lc2 ps2 evs2] w ∧ okL [blk b1 [.pointer (some ⟨by', 0, none⟩)] 33] w) ?_ ?_
          · intro hJ39
            refine d_join (n2 := 5) 71 (fun a w => ∃ (b1_6 : Nat), Kn [] 45 [(6, .pointer (some ⟨b1_6, 0, none⟩)), (9, .int .i64 ((evs1.length : Nat) : Int)), (10, .pointer (some ⟨by', 0, none⟩)), (8, .pointer (some ⟨bx, 0, none⟩)), (4, .pointer (some ⟨b2, 0, none⟩)), (3, .pointer (some ⟨b1, 0, none⟩)), (0, .pointer (some ⟨bx, 0, none⟩)), (1, .pointer (some ⟨by', 0, none⟩))] a ∧ Sat no W [blk b1_6 [.int .i64 0] 3, blk b2 [.int .i64 0] 3, blk b1 [.pointer (some ⟨by', 0, none⟩)] 33] [tapeR bx la1 lc1 ps1 evs1, tapeR by' la2 lc2 ps2 evs2] w ∧ okL [blk b1 [.pointer (some ⟨by', 0, none⟩)] 33] w) ?_ ?_
            · intro hJ71
              refine d_join (n2 := 5) 101 (fun a w => ∃ (b1_6 : Nat) (b1_5 : Nat), Kn [] 45 [(6, .pointer (some ⟨b1_6, 0, none⟩)), (5, .pointer (some ⟨b1_5, 0, none⟩)), (10, .pointer (some ⟨by', 0, none⟩)), (8, .pointer (some ⟨bx, 0, none⟩)), (4, .pointer (some ⟨b2, 0, none⟩)), (3, .pointer (some ⟨b1, 0, none⟩)), (0, .pointer (some ⟨bx, 0, none⟩)), (1, .pointer (some ⟨by', 0, none⟩))] a ∧ Sat no W [blk b1_6 [.int .i64 0] 3, blk b1_5 [.int .i64 0] 3, blk b2 [.int .i64 0] 3, blk b1 [.pointer (some ⟨by', 0, none⟩)] 33] [tapeR bx la1 lc1 ps1 evs1, tapeR by' la2 lc2 ps2 evs2] w ∧ okL [blk b1 [.pointer (some ⟨by', 0, none⟩)] 33] w) ?_ ?_
              · intro hJ101
                refine d_v 0 1 hk hL rfl (by kernel_rfl) rfl rfl (fun w hL => w_mv rfl) fun a hk => ?_
                refine d_v 2 5 hk hL rfl (by kernel_rfl) rfl rfl (fun w hL => w_ld1 rfl ty33 (.blk (n := 1) (hL.at 0 rfl) rfl)) fun a hk => ?_
                refine d_3 1 5 6 7 37 69 rfl rfl rfl (by kernel_rfl) (fun K hK => ?_) (fun K hK => ?_) (fun K hK => ?_)
                · skip
                  refine q_call (caps := []) hk rfl rfl Tryd.func84 fo84 rfl rfl (tlen_s bx _ _ _ evs1 _ (tape_parts (hs.ri 0 rfl)).1) ?_
                  rintro _ w ⟨rfl, hb⟩
                  have hs := hs.below hb
                  refine ⟨_, rfl, fun a hk => ?_⟩
                  have hL := okL.cons (hs.mi 1 rfl) okL.nil
                  refine c_end (x_t (hK _ _ hL ?_))
                  clear hK K
                  refine d_3 3 5 6 15 39 71 rfl rfl rfl (by kernel_rfl) (fun K hK => ?_) (fun K hK => ?_) (fun K hK => ?_)
                  · skip
                    refine q_call (caps := []) hk rfl rfl Tryd.func84 fo84 rfl rfl (tlen_s by' _ _ _ evs2 _ (tape_parts (hs.ri 1 rfl)).1) ?_
                    rintro _ w ⟨rfl, hb⟩
                    have hs := hs.below hb
                    refine ⟨_, rfl, fun a hk => ?_⟩
                    have hL := okL.cons (hs.mi 1 rfl) okL.nil
                    refine c_end (x_t (hK _ _ hL ?_))
                    clear hK K
                    refine d_v 4 31 hk hL rfl (by kernel_rfl) rfl rfl (fun w hL => w_min (r := (min ((evs1.length : Nat) : Int) ((evs2.length : Nat) : Int))) rfl rfl rfl) fun a hk => ?_
                    refine d_2 5 6 63 95 rfl rfl (by kernel_rfl) (fun K hK => ?_) (fun K hK => ?_)
                    · skip
                      refine q_alc (vs := [.int .i64 0]) hk hs zr3 rfl rfl rfl fun b1_5 w a hk hs => ?_
                      have hL := okL.cons (hs.mi 2 rfl) okL.nil
                      refine c_end (x_t (hK _ _ hL ?_))
                      clear hK K
                      have hL := okL.cons (hs.mi 2 rfl) okL.nil
                      exact hJ63 _ _ ⟨_, hk.k rfl (hk.k rfl (hk.k rfl (hk.k rfl (hk.k rfl (hk.k rfl (hk.k rfl (hk.k rfl (hk.k rfl (hk.k rfl hk.nil))))))))), hs, hL⟩
                    · skip
                      refine q_alc (vs := [.int .i64 0]) hk hs zr3 rfl rfl rfl fun b1_6 w a hk hs => ?_
                      have hL := okL.cons (hs.mi 2 rfl) okL.nil
                      refine c_end (x_t (hK _ _ hL ?_))
                      clear hK K
                      have hL := okL.cons (hs.mi 2 rfl) okL.nil
                      exact hJ95 _ _ ⟨_, hk.k rfl (hk.k rfl (hk.k rfl (hk.k rfl (hk.k rfl (hk.k rfl (hk.k rfl (hk.k rfl (hk.k rfl (hk.k rfl hk.nil))))))))), hs, hL⟩
                  · skip
                    refine q_alc (vs := [.int .i64 0]) hk hs zr3 rfl rfl rfl fun b1_5 w a hk hs => ?_
                    have hL := okL.cons (hs.mi 2 rfl) okL.nil
                    refine c_end (x_t (hK _ _ hL ?_))
                    clear hK K
                    have hL := okL.cons (hs.mi 2 rfl) okL.nil
                    exact hJ39 _ _ ⟨_, hk.k rfl (hk.k rfl (hk.k rfl (hk.k rfl (hk.k rfl (hk.k rfl (hk.k rfl (hk.k rfl hk.nil))))))), hs, hL⟩
                  · skip
                    refine q_alc (vs := [.int .i64 0]) hk hs zr3 rfl rfl rfl fun b1_6 w a hk hs => ?_
                    have hL := okL.cons (hs.mi 2 rfl) okL.nil
                    refine c_end (x_t (hK _ _ hL ?_))
                    clear hK K
                    have hL := okL.cons (hs.mi 2 rfl) okL.nil
                    exact hJ71 _ _ ⟨_, hk.k rfl (hk.k rfl (hk.k rfl (hk.k rfl (hk.k rfl (hk.k rfl (hk.k rfl (hk.k rfl hk.nil))))))), hs, hL⟩
                · skip
                  refine q_alc (vs := [.int .i64 0]) hk hs zr3 rfl rfl rfl fun b1_5 w a hk hs => ?_
                  have hL := okL.cons (hs.mi 2 rfl) okL.nil
                  refine c_end (x_t (hK _ _ hL ?_))
                  clear hK K
                  refine d_2 1 6 39 101 rfl rfl (by kernel_rfl) (fun K hK => ?_) (fun K hK => ?_)
                  · skip
                    refine q_call (caps := []) hk rfl rfl Tryd.func84 fo84 rfl rfl (tlen_s bx _ _ _ evs1 _ (tape_parts (hs.ri 0 rfl)).1) ?_
                    rintro _ w ⟨rfl, hb⟩
                    have hs := hs.below hb
                    refine ⟨_, rfl, fun a hk => ?_⟩
                    have hL := okL.cons (hs.mi 2 rfl) okL.nil
                    refine c_end (x_t (hK _ _ hL ?_))
                    clear hK K
                    have hL := okL.cons (hs.mi 2 rfl) okL.nil
                    exact hJ39 _ _ ⟨_, hk.k rfl (hk.k rfl (hk.k rfl (hk.k rfl (hk.k rfl (hk.k rfl (hk.k rfl (hk.k rfl hk.nil))))))), hs, hL⟩
                  · skip
                    refine q_alc (vs := [.int .i64 0]) hk hs zr3 rfl rfl rfl fun b1_6 w a hk hs => ?_
                    have hL := okL.cons (hs.mi 3 rfl) okL.nil
                    refine c_end (x_t (hK _ _ hL ?_))
                    clear hK K
                    have hL := okL.cons (hs.mi 3 rfl) okL.nil
                    exact hJ101 _ _ ⟨_, _, hk.k rfl (hk.k rfl (hk.k rfl (hk.k rfl (hk.k rfl (hk.k rfl (hk.k rfl (hk.k rfl hk.nil))))))), hs, hL⟩
                · skip
                  refine q_alc (vs := [.int .i64 0]) hk hs zr3 rfl rfl rfl fun b1_6 w a hk hs => ?_
                  have hL := okL.cons (hs.mi 2 rfl) okL.nil
                  refine c_end (x_t (hK _ _ hL ?_))
                  clear hK K
                  refine d_2 1 5 71 101 rfl rfl (by kernel_rfl) (fun K hK => ?_) (fun K hK => ?_)
                  · skip
                    refine q_call (caps := []) hk rfl rfl Tryd.func84 fo84 rfl rfl (tlen_s bx _ _ _ evs1 _ (tape_parts (hs.ri 0 rfl)).1) ?_
                    rintro _ w ⟨rfl, hb⟩
                    have hs := hs.below hb
                    refine ⟨_, rfl, fun a hk => ?_⟩
                    have hL := okL.cons (hs.mi 2 rfl) okL.nil
                    refine c_end (x_t (hK _ _ hL ?_))
                    clear hK K
                    have hL := okL.cons (hs.mi 2 rfl) okL.nil
                    exact hJ71 _ _ ⟨_, hk.k rfl (hk.k rfl (hk.k rfl (hk.k rfl (hk.k rfl (hk.k rfl (hk.k rfl (hk.k rfl hk.nil))))))), hs, hL⟩
                  · skip
                    refine q_alc (vs := [.int .i64 0]) hk hs zr3 rfl rfl rfl fun b1_5 w a hk hs => ?_
                    have hL := okL.cons (hs.mi 3 rfl) okL.nil
                    refine c_end (x_t (hK _ _ hL ?_))
                    clear hK K
                    have hs := hs.up3
                    have hs := hs.up3
                    have hs := hs.up2
                    have hs := hs.up3
                    have hL := okL.cons (hs.mi 3 rfl) okL.nil
                    exact hJ101 _ _ ⟨_, _, hk.k rfl (hk.k rfl (hk.k rfl (hk.k rfl (hk.k rfl (hk.k rfl (hk.k rfl (hk.k rfl hk.nil))))))), hs, hL⟩
              · rintro a w ⟨b1_6, b1_5, hk, hs, hL⟩
                refine d_1 1 103 rfl (by kernel_rfl) fun K hK => ?_
                refine q_call (caps := []) hk rfl rfl Tryd.func84 fo84 rfl rfl (tlen_s bx _ _ _ evs1 _ (tape_parts (hs.ri 0 rfl)).1) ?_
                rintro _ w ⟨rfl, hb⟩
                have hs := hs.below hb
                refine ⟨_, rfl, fun a hk => ?_⟩
                have hL := okL.cons (hs.mi 3 rfl) okL.nil
                refine c_end (x_t (hK _ _ hL ?_))
                clear hK K
                have hL := okL.cons (hs.mi 3 rfl) okL.nil
                exact hJ103 _ _ ⟨_, _, hk.k rfl (hk.k rfl (hk.k rfl (hk.k rfl (hk.k rfl (hk.k rfl (hk.k rfl (hk.k rfl (hk.k rfl hk.nil)))))))), hs, hL⟩
            · rintro a w ⟨b1_6, hk, hs, hL⟩
              refine d_2 3 5 79 103 rfl rfl (by kernel_rfl) (fun K hK => ?_) (fun K hK => ?_)
              · skip
                refine q_call (caps := []) hk rfl rfl Tryd.func84 fo84 rfl rfl (tlen_s by' _ _ _ evs2 _ (tape_parts (hs.ri 1 rfl)).1) ?_
                rintro _ w ⟨rfl, hb⟩
                have hs := hs.below hb
                refine ⟨_, rfl, fun a hk => ?_⟩
                have hL := okL.cons (hs.mi 2 rfl) okL.nil
                refine c_end (x_t (hK _ _ hL ?_))
                clear hK K
                refine d_v 4 95 hk hL rfl (by kernel_rfl) rfl rfl (fun w hL => w_min (r := (min ((evs1.length : Nat) : Int) ((evs2.length : Nat) : Int))) rfl rfl rfl) fun a hk => ?_
                have hL := okL.cons (hs.mi 2 rfl) okL.nil
                exact hJ95 _ _ ⟨_, hk.k rfl (hk.k rfl (hk.k rfl (hk.k rfl (hk.k rfl (hk.k rfl (hk.k rfl (hk.k rfl (hk.k rfl (hk.k rfl hk.nil))))))))), hs, hL⟩
              · skip
                refine q_alc (vs := [.int .i64 0]) hk hs zr3 rfl rfl rfl fun b1_5 w a hk hs => ?_
                have hL := okL.cons (hs.mi 3 rfl) okL.nil
                refine c_end (x_t (hK _ _ hL ?_))
                clear hK K
                have hs := hs.up3
                have hs := hs.up3
                have hs := hs.up2
                have hs := hs.up3
                have hL := okL.cons (hs.mi 3 rfl) okL.nil
                exact hJ103 _ _ ⟨_, _, hk.k rfl (hk.k rfl (hk.k rfl (hk.k rfl (hk.k rfl (hk.k rfl (hk.k rfl (hk.k rfl (hk.k rfl hk.nil)))))))), hs, hL⟩
          · rintro a w ⟨b1_5, hk, hs, hL⟩
            refine d_2 3 6 47 103 rfl rfl (by kernel_rfl) (fun K hK => ?_) (fun K hK => ?_)
            · skip
              refine q_call (caps := []) hk rfl rfl Tryd.func84 fo84 rfl rfl (tlen_s by' _ _ _ evs2 _ (tape_parts (hs.ri 1 rfl)).1) ?_
              rintro _ w ⟨rfl, hb⟩
              have hs := hs.below hb
              refine ⟨_, rfl, fun a hk => ?_⟩
              have hL := okL.cons (hs.mi 2 rfl) okL.nil
              refine c_end (x_t (hK _ _ hL ?_))
              clear hK K
              refine d_v 4 63 hk hL rfl (by kernel_rfl) rfl rfl (fun w hL => w_min (r := (min ((evs1.length : Nat) : Int) ((evs2.length : Nat) : Int))) rfl rfl rfl) fun a hk => ?_
              have hL := okL.cons (hs.mi 2 rfl) okL.nil
              exact hJ63 _ _ ⟨_, hk.k rfl (hk.k rfl (hk.k rfl (hk.k rfl (hk.k rfl (hk.k rfl (hk.k rfl (hk.k rfl (hk.k rfl (hk.k rfl hk.nil))))))))), hs, hL⟩
            · skip
              refine q_alc (vs := [.int .i64 0]) hk hs zr3 rfl rfl rfl fun b1_6 w a hk hs => ?_
              have hL := okL.cons (hs.mi 3 rfl) okL.nil
              refine c_end (x_t (hK _ _ hL ?_))
              clear hK K
              have hL := okL.cons (hs.mi 3 rfl) okL.nil
              exact hJ103 _ _ ⟨_, _, hk.k rfl (hk.k rfl (hk.k rfl (hk.k rfl (hk.k rfl (hk.k rfl (hk.k rfl (hk.k rfl (hk.k rfl hk.nil)))))))), hs, hL⟩
        · rintro a w ⟨b1_6, b1_5, hk, hs, hL⟩
          refine d_1 3 111 rfl (by kernel_rfl) fun K hK => ?_
          refine q_call (caps := []) hk rfl rfl Tryd.func84 fo84 rfl rfl (tlen_s by' _ _ _ evs2 _ (tape_parts (hs.ri 1 rfl)).1) ?_
          rintro _ w ⟨rfl, hb⟩
          have hs := hs.below hb
          refine ⟨_, rfl, fun a hk => ?_⟩
          have hL := okL.cons (hs.mi 3 rfl) okL.nil
          refine c_end (x_t (hK _ _ hL ?_))
          clear hK K
          refine d_v 4 127 hk hL rfl (by kernel_rfl) rfl rfl (fun w hL => w_min (r := (min ((evs1.length : Nat) : Int) ((evs2.length : Nat) : Int))) rfl rfl rfl) fun a hk => ?_
          have hL := okL.cons (hs.mi 3 rfl) okL.nil
          exact hJ127 _ _ ⟨_, _, hk.k rfl (hk.k rfl (hk.k rfl (hk.k rfl (hk.k rfl (hk.k rfl (hk.k rfl (hk.k rfl (hk.k rfl (hk.k rfl (hk.k rfl hk.nil)))))))))), hs, hL⟩
      · rintro a w ⟨b1_6, hk, hs, hL⟩
        refine d_1 5 127 rfl (by kernel_rfl) fun K hK => ?_
        refine q_alc (vs := [.int .i64 0]) hk hs zr3 rfl rfl rfl fun b1_5 w a hk hs => ?_
        have hL := okL.cons (hs.mi 3 rfl) okL.nil
        refine c_end (x_t (hK _ _ hL ?_))
        clear hK K
        have hs := hs.up3
        have hs := hs.up3
        have hs := hs.up2
        have hs := hs.up3
        have hL := okL.cons (hs.mi 3 rfl) okL.nil
        exact hJ127 _ _ ⟨_, _, hk.k rfl (hk.k rfl (hk.k rfl (hk.k rfl (hk.k rfl (hk.k rfl (hk.k rfl (hk.k rfl (hk.k rfl (hk.k rfl (hk.k rfl hk.nil)))))))))), hs, hL⟩
    · rintro a w ⟨b1_5, hk, hs, hL⟩
      refine d_1 6 127 rfl (by kernel_rfl) fun K hK => ?_
      refine q_alc (vs := [.int .i64 0]) hk hs zr3 rfl rfl rfl fun b1_6 w a hk hs => ?_
      have hL := okL.cons (hs.mi 3 rfl) okL.nil
      refine c_end (x_t (hK _ _ hL ?_))
      clear hK K
      have hL := okL.cons (hs.mi 3 rfl) okL.nil
      exact hJ127 _ _ ⟨_, _, hk.k rfl (hk.k rfl (hk.k rfl (hk.k rfl (hk.k rfl (hk.k rfl (hk.k rfl (hk.k rfl (hk.k rfl (hk.k rfl (hk.k rfl hk.nil)))))))))), hs, hL⟩
  · rintro a w ⟨b1_6, b1_5, hk, hs, hL⟩
    refine d_1 7 255 rfl (by kernel_rfl) fun K hK => ?_
    have hs := hs.up1
    refine q_sto (o := 0) (cs := [.int .i64 0]) (vs' := [.int .i64 0]) hk hs rfl rfl rfl ty3 rfl rfl rfl rfl rfl rfl fun w hs => ?_
    have hL := okL.cons (hs.mi 3 rfl) okL.nil
    refine c_end (x_t (hK _ _ hL ?_))
    clear hK K
    refine d_1 8 511 rfl (by kernel_rfl) fun K hK => ?_
    have hs := hs.up1
    refine q_sto (o := 0) (cs := [.int .i64 (min ((evs1.length : Nat) : Int) ((evs2.length : Nat) : Int))]) (vs' := [.int .i64 (min ((evs1.length : Nat) : Int) ((evs2.length : Nat) : Int))]) hk hs rfl rfl rfl ty3 rfl rfl rfl rfl rfl rfl fun w hs => ?_
    have hL := okL.cons (hs.mi 3 rfl) okL.nil
    refine c_end (x_t (hK _ _ hL ?_))
    clear hK K
    refine d_end (by kernel_rfl) ?_
    refine (x_t ?_)
    refine wpIn_seq ?_
    refine wpIn_seq ?_
    refine wpIn_region_lit ?_
    refine q_val hk (w_mv rfl) rfl rfl rfl fun a hk => ?_
    refine q_call (caps := []) hk rfl rfl Tryd.func85 fo85 rfl rfl (from_c bx _) ?_
    rintro _ w ⟨b3, b4, rfl, hS⟩
    have hs := hs.call2 hS
    clear hS
    refine ⟨_, rfl, fun a hk => ?_⟩
    refine (c_end (x_t ?_))
    refine wpIn_block ?_
    have hs := hs.up1
    have hs := hs.up1
    have hs := Sat.frzL (l := [blk b3 [.int .i64 0] 3, blk b4 [.pointer (some ⟨bx, 0, none⟩)] 33]) hs
    have hk : Kn [] 45 [(14, .func (.func 109) #[] #[.pointer (some ⟨b3, 0, none⟩), .pointer (some ⟨b4, 0, none⟩)]), (6, .pointer (some ⟨b1_6, 0, none⟩)), (5, .pointer (some ⟨b1_5, 0, none⟩)), (4, .pointer (some ⟨b2, 0, none⟩)), (3, .pointer (some ⟨b1, 0, none⟩)), (0, .pointer (some ⟨bx, 0, none⟩))] a := hk.k rfl (hk.k rfl (hk.k rfl (hk.k rfl (hk.k rfl (hk.k rfl hk.nil)))))
    have hs := hs.up3
    have hs := hs.up1
    have hs := hs.up2
    have hs := hs.up3
    have hs := Sat.pack (l := [blk b2 [.int .i64 0] 3, blk b1_5 [.int .i64 0] 3, blk b1_6 [.int .i64 (min ((evs1.length : Nat) : Int) ((evs2.length : Nat) : Int))] 3, blk b1 [.pointer (some ⟨by', 0, none⟩)] 33]) hs
    have hs := hs.none.up1
    refine c_range0 hk hs rfl (⟨_, _, _, rfl, Tryd.func109, fo109, from_it b3 b4 bx lc1 la1 ps1 evs1 h1 hn1⟩) (HasR.two (HasR.nth 0 rfl) (HasR.nth 1 rfl)) (fun _ => rfl) rfl (fun k r => k ≤ evs2.length ∧ evs1.take k = evs2.take k ∧ r = bun [blk b2 [.int .i64 0] 3, blk b1_5 [.int .i64 ((k : Nat) : Int)] 3, blk b1_6 [.int .i64 (min ((evs1.length : Nat) : Int) ((evs2.length : Nat) : Int))] 3, blk b1 [.pointer (some ⟨by', 0, none⟩)] 33]) (fun c k r => (c = .ret ∧ ∃ (z : Int) (z2 : Int), z = firstE evs1 evs2 ∧ r = bun [blk b2 [.int .i64 z] 3, blk b1_5 [.int .i64 z2] 3, blk b1_6 [.int .i64 (min ((evs1.length : Nat) : Int) ((evs2.length : Nat) : Int))] 3, blk b1 [.pointer (some ⟨by', 0, none⟩)] 33])) ⟨(Nat.zero_le _), (by simp), rfl⟩ rfl ?_ ?_ ?_
    · rintro l5 k5 x5 hx5 LR5 LB5 FR5 hL5 r a w ⟨hf0, hf1, rfl⟩ hk hs
      have hlt : k5 < evs1.length := (List.getElem?_eq_some_iff.1 hx5).1
      have hk : Kn [] 45 [(15, .agg #[.int .i64 x5.1, .int .i64 x5.2.1, .int .i64 x5.2.2]), (14, .func (.func 109) #[] #[.pointer (some ⟨b3, 0, none⟩), .pointer (some ⟨b4, 0, none⟩)]), (6, .pointer (some ⟨b1_6, 0, none⟩)), (5, .pointer (some ⟨b1_5, 0, none⟩)), (4, .pointer (some ⟨b2, 0, none⟩)), (3, .pointer (some ⟨b1, 0, none⟩)), (0, .pointer (some ⟨bx, 0, none⟩))] a := hk
      have hs : Sat no W [blk b2 [.int .i64 0] 3, blk b1_5 [.int .i64 ((k5 : Nat) : Int)] 3, blk b1_6 [.int .i64 (min ((evs1.length : Nat) : Int) ((evs2.length : Nat) : Int))] 3, blk b1 [.pointer (some ⟨by', 0, none⟩)] 33, LR5, FR5] [rall [blk b3 [.int .i64 0] 3, blk b4 [.pointer (some ⟨bx, 0, none⟩)] 33], tapeR bx la1 lc1 ps1 evs1, tapeR by' la2 lc2 ps2 evs2] w := hs.unpack
      refine wpIn_region_lit ?_
      refine q_alc (vs := [.int .i64 0, .int .i64 0, .int .i64 0]) hk hs zr36 rfl rfl rfl fun b6 w a hk hs => ?_
      refine q_sto (o := 0) (cs := [.int .i64 x5.1, .int .i64 x5.2.1, .int .i64 x5.2.2]) (vs' := [.int .i64 x5.1, .int .i64 x5.2.1, .int .i64 x5.2.2]) hk hs rfl rfl rfl ty36 rfl rfl rfl rfl rfl rfl fun w hs => ?_
      refine (c_end (x_t ?_))
      have hs := hs.up5
      refine hL5.begin_ hs fun w hs => ?_
      refine wpIn_block ?_
      refine wpIn_seq ?_
      refine wpIn_seq ?_
      rcases Classical.em (((k5 : Nat) : Int) = (min ((evs1.length : Nat) : Int) ((evs2.length : Nat) : Int))) with hc7 | hc7
      · skip
        have hL := okL.cons (hs.mi 3 rfl) (okL.cons (hs.mi 4 rfl) okL.nil)
        refine d_begin _ 20 (by kernel_rfl) rfl hs hL fun w hs hL => ?_
        refine d_v 0 1 hk hL rfl (by kernel_rfl) rfl rfl (fun w hL => w_ld1 rfl ty3 (.blk (n := 1) (hL.at 0 rfl) rfl)) fun a hk => ?_
        refine d_v 1 3 hk hL rfl (by kernel_rfl) rfl rfl (fun w hL => w_ld1 rfl ty3 (.blk (n := 1) (hL.at 1 rfl) rfl)) fun a hk => ?_
        refine d_v 2 7 hk hL rfl (by kernel_rfl) rfl rfl (fun w hL => w_eq rfl rfl (decide_eq_true hc7)) fun a hk => ?_
        refine d_v 3 15 hk hL rfl (by kernel_rfl) rfl rfl (fun w hL => w_mv rfl) fun a hk => ?_
        refine d_s 4 31 hk hL rfl (by kernel_rfl) rfl rfl fun a hk => ?_
        refine d_s 5 63 hk hL rfl (by kernel_rfl) rfl rfl fun a hk => ?_
        refine d_s 6 127 hk hL rfl (by kernel_rfl) rfl rfl fun a hk => ?_
        refine d_s 7 255 hk hL rfl (by kernel_rfl) rfl rfl fun a hk => ?_
        refine d_s 8 511 hk hL rfl (by kernel_rfl) rfl rfl fun a hk => ?_
        refine d_s 9 1023 hk hL rfl (by kernel_rfl) rfl rfl fun a hk => ?_
        refine d_s 10 2047 hk hL rfl (by kernel_rfl) rfl rfl fun a hk => ?_
        refine d_s 11 4095 hk hL rfl (by kernel_rfl) rfl rfl fun a hk => ?_
        refine d_s 12 8191 hk hL rfl (by kernel_rfl) rfl rfl fun a hk => ?_
        refine d_s 13 16383 hk hL rfl (by kernel_rfl) rfl rfl fun a hk => ?_
        refine d_s 14 32767 hk hL rfl (by kernel_rfl) rfl rfl fun a hk => ?_
        refine d_s 15 65535 hk hL rfl (by kernel_rfl) rfl rfl fun a hk => ?_
        refine d_s 16 131071 hk hL rfl (by kernel_rfl) rfl rfl fun a hk => ?_
        refine d_s 17 262143 hk hL rfl (by kernel_rfl) rfl rfl fun a hk => ?_
        refine d_s 18 524287 hk hL rfl (by kernel_rfl) rfl rfl fun a hk => ?_
        refine d_v 19 1048575 hk hL rfl (by kernel_rfl) rfl rfl (fun w hL => w_pickT rfl rfl) fun a hk => ?_
        refine d_end (by kernel_rfl) ?_
        refine (x_t ?_)
        refine c_T hk rfl ?_
        refine wpIn_seq ?_
        refine wpIn_region_lit ?_
        refine q_val hk (w_ld1 rfl ty3 (.blk (n := 1) (hs.mi 3 rfl) rfl)) rfl rfl rfl fun a hk => ?_
        have hs := hs.up2
        refine q_sto (o := 0) (cs := [.int .i64 ((k5 : Nat) : Int)]) (vs' := [.int .i64 ((k5 : Nat) : Int)]) hk hs rfl rfl rfl ty3 rfl rfl rfl rfl rfl rfl fun w hs => ?_
        refine (c_end (x_t ?_))
        refine (wpIn_ret (x_tr (x_br ?_)))
        have hz : firstE evs1 evs2 = ((k5 : Nat) : Int) := firstE_ne (by omega) (by omega) hf1 (fun e => by have := congrArg List.length e; omega) (.inr (.inl (by omega)))
        have hs := hs.up2
        have hs := hs.drop
        have hs := hs.up5
        have hs := hs.up2
        have hs := hs.up5
        have hs := hs.up5
        have hs := hs.up5
        have hs := hs.up5
        exact ⟨_, ⟨rfl, ⟨_, _, hz.symm, rfl⟩⟩, Sat.pack (l := [_, _, _, _]) hs⟩
      · skip
        have hlt2 : k5 < evs2.length := by omega
        rcases Classical.em (evs2.getD k5 evz ≠ x5) with hc8 | hc8
        · skip
          have hL := okL.cons (hs.mi 3 rfl) (okL.cons (hs.mi 4 rfl) (okL.cons (hs.mi 5 rfl) (okL.cons ((tape_parts ((HasR.of (by simp) : HasR (tapeR by' la2 lc2 ps2 evs2) _).at_ hs)).1) (okL.cons ((tape_parts ((HasR.of (by simp) : HasR (tapeR by' la2 lc2 ps2 evs2) _).at_ hs)).2.1) (okL.cons (hs.ri 2 rfl) (okL.cons (hs.mi 1 rfl) okL.nil))))))
          refine d_begin _ 20 (by kernel_rfl) rfl hs hL fun w hs hL => ?_
          refine d_v 0 1 hk hL rfl (by kernel_rfl) rfl rfl (fun w hL => w_ld1 rfl ty3 (.blk (n := 1) (hL.at 0 rfl) rfl)) fun a hk => ?_
          refine d_v 1 3 hk hL rfl (by kernel_rfl) rfl rfl (fun w hL => w_ld1 rfl ty3 (.blk (n := 1) (hL.at 1 rfl) rfl)) fun a hk => ?_
          refine d_v 2 7 hk hL rfl (by kernel_rfl) rfl rfl (fun w hL => w_eq rfl rfl (decide_eq_false hc7)) fun a hk => ?_
          refine d_v 3 15 hk hL rfl (by kernel_rfl) rfl rfl (fun w hL => w_mv rfl) fun a hk => ?_
          refine d_v 4 31 hk hL rfl (by kernel_rfl) rfl rfl (fun w hL => w_ld1 rfl ty33 (.blk (n := 1) (hL.at 2 rfl) rfl)) fun a hk => ?_
          refine d_v 5 63 hk hL rfl (by kernel_rfl) rfl rfl (fun w hL => w_nilC rfl) fun a hk => ?_
          refine d_v 6 127 hk hL rfl (by kernel_rfl) rfl rfl (fun w hL => w_fa rfl fq78_0 ty76) fun a hk => ?_
          refine d_v 7 255 hk hL rfl (by kernel_rfl) rfl rfl (fun w hL => w_ld1 rfl ty76 (.blk (n := 1) (hL.at 3 rfl) rfl)) fun a hk => ?_
          refine d_v 8 511 hk hL rfl (by kernel_rfl) rfl rfl (fun w hL => w_ld1 rfl ty3 (.blk (n := 1) (hL.at 0 rfl) rfl)) fun a hk => ?_
          refine d_v 9 1023 hk hL rfl (by kernel_rfl) rfl rfl (fun w hL => w_quo rfl rfl (by omega) (wdv64 (by omega) (by omega) (by omega))) fun a hk => ?_
          refine d_v 10 2047 hk hL rfl (by kernel_rfl) rfl rfl (fun w hL => w_iaL (k := (k5 / 64)) rfl rfl Tryd.underlying76 ty111 (hL.at 4 rfl) (by omega) (by omega)) fun a hk => ?_
          refine d_v 11 4095 hk hL rfl (by kernel_rfl) rfl rfl (fun w hL => w_ld1 rfl ty111 (lstq (k := (k5 / 64)) (hL.at 4 rfl) (by omega) (el_chunk pvc_len (by omega) 0))) fun a hk => ?_
          refine d_v 12 8191 hk hL rfl (by kernel_rfl) rfl rfl (fun w hL => w_ld1 rfl ty3 (.blk (n := 1) (hL.at 0 rfl) rfl)) fun a hk => ?_
          refine d_v 13 16383 hk hL rfl (by kernel_rfl) rfl rfl (fun w hL => w_rem rfl rfl (by omega) (wmd (by omega))) fun a hk => ?_
          refine d_v 14 32767 hk hL rfl (by kernel_rfl) rfl rfl (fun w hL => w_nilC rfl) fun a hk => ?_
          refine d_v 15 65535 hk hL rfl (by kernel_rfl) rfl rfl (fun w hL => w_iaA (k := k5 % 64) rfl rfl Tryd.underlying112 ty36 (by omega) (by omega)) fun a hk => ?_
          refine d_v 16 131071 hk hL rfl (by kernel_rfl) rfl rfl (fun w hL => w_ldA rfl ty36 (tape_cell (hL.at 5 rfl) h2 hlt2) rfl) fun a hk => ?_
          refine d_v 17 262143 hk hL rfl (by kernel_rfl) rfl rfl (fun w hL => w_ldA rfl ty36 (.blk (n := 3) (hL.at 6 rfl) rfl) rfl) fun a hk => ?_
          refine d_v 18 524287 hk hL rfl (by kernel_rfl) rfl rfl (fun w hL => w_ene (nb := 8) rfl rfl (by kernel_rfl) (by kernel_rfl) Tryd.underlying3 ty3 (by kernel_rfl) (decide_eq_true hc8)) fun a hk => ?_
          refine d_v 19 1048575 hk hL rfl (by kernel_rfl) rfl rfl (fun w hL => w_pickF rfl rfl) fun a hk => ?_
          refine d_end (by kernel_rfl) ?_
          refine (x_t ?_)
          refine c_T hk rfl ?_
          refine wpIn_seq ?_
          refine wpIn_region_lit ?_
          refine q_val hk (w_ld1 rfl ty3 (.blk (n := 1) (hs.mi 3 rfl) rfl)) rfl rfl rfl fun a hk => ?_
          have hs := hs.up2
          refine q_sto (o := 0) (cs := [.int .i64 ((k5 : Nat) : Int)]) (vs' := [.int .i64 ((k5 : Nat) : Int)]) hk hs rfl rfl rfl ty3 rfl rfl rfl rfl rfl rfl fun w hs => ?_
          refine (c_end (x_t ?_))
          refine (wpIn_ret (x_tr (x_br ?_)))
          have hz : firstE evs1 evs2 = ((k5 : Nat) : Int) := firstE_ne (by omega) (by omega) hf1 (fun e => hc8 (by rw [e] at hx5; rw [getD_some (d := evz) hlt2] at hx5; exact Option.some.inj hx5)) (.inr (.inr (by rw [hx5, getD_some (d := evz) hlt2]; exact fun e => hc8 (Option.some.inj e).symm)))
          have hs := hs.up2
          have hs := hs.drop
          have hs := hs.up5
          have hs := hs.up2
          have hs := hs.up5
          have hs := hs.up5
          have hs := hs.up5
          have hs := hs.up5
          exact ⟨_, ⟨rfl, ⟨_, _, hz.symm, rfl⟩⟩, Sat.pack (l := [_, _, _, _]) hs⟩
        · skip
          have hL := okL.cons (hs.mi 3 rfl) (okL.cons (hs.mi 4 rfl) (okL.cons (hs.mi 5 rfl) (okL.cons ((tape_parts ((HasR.of (by simp) : HasR (tapeR by' la2 lc2 ps2 evs2) _).at_ hs)).1) (okL.cons ((tape_parts ((HasR.of (by simp) : HasR (tapeR by' la2 lc2 ps2 evs2) _).at_ hs)).2.1) (okL.cons (hs.ri 2 rfl) (okL.cons (hs.mi 1 rfl) okL.nil))))))
          refine d_begin _ 20 (by kernel_rfl) rfl hs hL fun w hs hL => ?_
          refine d_v 0 1 hk hL rfl (by kernel_rfl) rfl rfl (fun w hL => w_ld1 rfl ty3 (.blk (n := 1) (hL.at 0 rfl) rfl)) fun a hk => ?_
          refine d_v 1 3 hk hL rfl (by kernel_rfl) rfl rfl (fun w hL => w_ld1 rfl ty3 (.blk (n := 1) (hL.at 1 rfl) rfl)) fun a hk => ?_
          refine d_v 2 7 hk hL rfl (by kernel_rfl) rfl rfl (fun w hL => w_eq rfl rfl (decide_eq_false hc7)) fun a hk => ?_
          refine d_v 3 15 hk hL rfl (by kernel_rfl) rfl rfl (fun w hL => w_mv rfl) fun a hk => ?_
          refine d_v 4 31 hk hL rfl (by kernel_rfl) rfl rfl (fun w hL => w_ld1 rfl ty33 (.blk (n := 1) (hL.at 2 rfl) rfl)) fun a hk => ?_
          refine d_v 5 63 hk hL rfl (by kernel_rfl) rfl rfl (fun w hL => w_nilC rfl) fun a hk => ?_
          refine d_v 6 127 hk hL rfl (by kernel_rfl) rfl rfl (fun w hL => w_fa rfl fq78_0 ty76) fun a hk => ?_
          refine d_v 7 255 hk hL rfl (by kernel_rfl) rfl rfl (fun w hL => w_ld1 rfl ty76 (.blk (n := 1) (hL.at 3 rfl) rfl)) fun a hk => ?_
          refine d_v 8 511 hk hL rfl (by kernel_rfl) rfl rfl (fun w hL => w_ld1 rfl ty3 (.blk (n := 1) (hL.at 0 rfl) rfl)) fun a hk => ?_
          refine d_v 9 1023 hk hL rfl (by kernel_rfl) rfl rfl (fun w hL => w_quo rfl rfl (by omega) (wdv64 (by omega) (by omega) (by omega))) fun a hk => ?_
          refine d_v 10 2047 hk hL rfl (by kernel_rfl) rfl rfl (fun w hL => w_iaL (k := (k5 / 64)) rfl rfl Tryd.underlying76 ty111 (hL.at 4 rfl) (by omega) (by omega)) fun a hk => ?_
          refine d_v 11 4095 hk hL rfl (by kernel_rfl) rfl rfl (fun w hL => w_ld1 rfl ty111 (lstq (k := (k5 / 64)) (hL.at 4 rfl) (by omega) (el_chunk pvc_len (by omega) 0))) fun a hk => ?_
          refine d_v 12 8191 hk hL rfl (by kernel_rfl) rfl rfl (fun w hL => w_ld1 rfl ty3 (.blk (n := 1) (hL.at 0 rfl) rfl)) fun a hk => ?_
          refine d_v 13 16383 hk hL rfl (by kernel_rfl) rfl rfl (fun w hL => w_rem rfl rfl (by omega) (wmd (by omega))) fun a hk => ?_
          refine d_v 14 32767 hk hL rfl (by kernel_rfl) rfl rfl (fun w hL => w_nilC rfl) fun a hk => ?_
          refine d_v 15 65535 hk hL rfl (by kernel_rfl) rfl rfl (fun w hL => w_iaA (k := k5 % 64) rfl rfl Tryd.underlying112 ty36 (by omega) (by omega)) fun a hk => ?_
          refine d_v 16 131071 hk hL rfl (by kernel_rfl) rfl rfl (fun w hL => w_ldA rfl ty36 (tape_cell (hL.at 5 rfl) h2 hlt2) rfl) fun a hk => ?_
          refine d_v 17 262143 hk hL rfl (by kernel_rfl) rfl rfl (fun w hL => w_ldA rfl ty36 (.blk (n := 3) (hL.at 6 rfl) rfl) rfl) fun a hk => ?_
          refine d_v 18 524287 hk hL rfl (by kernel_rfl) rfl rfl (fun w hL => w_ene (nb := 8) rfl rfl (by kernel_rfl) (by kernel_rfl) Tryd.underlying3 ty3 (by kernel_rfl) (decide_eq_false hc8)) fun a hk => ?_
          refine d_v 19 1048575 hk hL rfl (by kernel_rfl) rfl rfl (fun w hL => w_pickF rfl rfl) fun a hk => ?_
          refine d_end (by kernel_rfl) ?_
          refine (x_t ?_)
          refine c_F hk rfl ?_
          refine (wpIn_skip (x_t ?_))
          refine wpIn_region_lit ?_
          refine q_val hk (w_ld1 rfl ty3 (.blk (n := 1) (hs.mi 3 rfl) rfl)) rfl rfl rfl fun a hk => ?_
          refine q_val hk (w_add rfl rfl (wr64 (by omega) (by omega))) rfl rfl rfl fun a hk => ?_
          have hs := hs.up3
          refine q_sto (o := 0) (cs := [.int .i64 (((k5 : Nat) : Int) + 1)]) (vs' := [.int .i64 (((k5 : Nat) : Int) + 1)]) hk hs rfl rfl rfl ty3 rfl rfl rfl rfl rfl rfl fun w hs => ?_
          refine (c_end (x_b ?_))
          have hn1 : evs1.take (k5 + 1) = evs2.take (k5 + 1) := take_next hx5 (by rw [getD_some (d := evz) hlt2]; exact congrArg some (Classical.not_not.1 hc8)) hf1
          have hs := hs.up2
          have hs := hs.drop
          have hs := hs.up5
          have hs := hs.up2
          have hs := hs.up5
          have hs := hs.up5
          have hs := hs.up4
          have hs := hs.up5
          exact ⟨_, ⟨(by omega), hn1, rfl⟩, Sat.pack (l := [_, _, _, _]) hs⟩
    · intro D5 r r5 a w hJ hK hk hs
      obtain ⟨hf0, hf1, rfl⟩ := hJ
      obtain rfl := hK
      have hs := Sat.unpack (l := [blk b2 [.int .i64 0] 3, blk b1_5 [.int .i64 ((evs1.length : Nat) : Int)] 3, blk b1_6 [.int .i64 (min ((evs1.length : Nat) : Int) ((evs2.length : Nat) : Int))] 3, blk b1 [.pointer (some ⟨by', 0, none⟩)] 33]) hs.up2.drop.up1
      have hs : Sat no W [blk b2 [.int .i64 0] 3, blk b1_5 [.int .i64 ((evs1.length : Nat) : Int)] 3, blk b1_6 [.int .i64 (min ((evs1.length : Nat) : Int) ((evs2.length : Nat) : Int))] 3, blk b1 [.pointer (some ⟨by', 0, none⟩)] 33, dres D5] [rall [blk b3 [.int .i64 0] 3, blk b4 [.pointer (some ⟨bx, 0, none⟩)] 33], tapeR bx la1 lc1 ps1 evs1, tapeR by' la2 lc2 ps2 evs2] w := hs
      refine (x_b (x_t ?_))
      refine wpIn_seq ?_
      refine wpIn_seq ?_
      rcases Classical.em (((evs1.length : Nat) : Int) = ((evs2.length : Nat) : Int)) with hc9 | hc9
      · skip
        have hL := okL.cons (hs.mi 3 rfl) okL.nil
        refine d_begin _ 5 (by kernel_rfl) rfl hs hL fun w hs hL => ?_
        refine d_v 0 1 hk hL rfl (by kernel_rfl) rfl rfl (fun w hL => w_mv rfl) fun a hk => ?_
        refine d_v 2 5 hk hL rfl (by kernel_rfl) rfl rfl (fun w hL => w_ld1 rfl ty33 (.blk (n := 1) (hL.at 0 rfl) rfl)) fun a hk => ?_
        refine d_1 1 7 rfl (by kernel_rfl) fun K hK => ?_
        refine q_call (caps := []) hk rfl rfl Tryd.func84 fo84 rfl rfl (tlen_s bx _ _ _ evs1 _ (tape_parts (hs.ri 1 rfl)).1) ?_
        rintro _ w ⟨rfl, hb⟩
        have hs := hs.below hb
        refine ⟨_, rfl, fun a hk => ?_⟩
        have hL := okL.cons (hs.mi 3 rfl) okL.nil
        refine c_end (x_t (hK _ _ hL ?_))
        clear hK K
        refine d_1 3 15 rfl (by kernel_rfl) fun K hK => ?_
        refine q_call (caps := []) hk rfl rfl Tryd.func84 fo84 rfl rfl (tlen_s by' _ _ _ evs2 _ (tape_parts (hs.ri 2 rfl)).1) ?_
        rintro _ w ⟨rfl, hb⟩
        have hs := hs.below hb
        refine ⟨_, rfl, fun a hk => ?_⟩
        have hL := okL.cons (hs.mi 3 rfl) okL.nil
        refine c_end (x_t (hK _ _ hL ?_))
        clear hK K
        refine d_v 4 31 hk hL rfl (by kernel_rfl) rfl rfl (fun w hL => w_eq rfl rfl (decide_eq_true hc9)) fun a hk => ?_
        refine d_end (by kernel_rfl) ?_
        refine (x_t ?_)
        refine c_T hk rfl ?_
        refine wpIn_seq ?_
        refine wpIn_region_lit ?_
        refine q_sto (o := 0) (cs := [.int .i64 (-1)]) (vs' := [.int .i64 (-1)]) hk hs rfl rfl rfl ty3 rfl rfl rfl rfl rfl rfl fun w hs => ?_
        refine (c_end (x_t ?_))
        refine (wpIn_ret (x_tr ?_))
        have hs := hs.up3
        have hs := hs.up3
        have hs := hs.up3
        have hs := hs.up3
        have hs := hs.up4
        refine c_retM (M := [blk b2 [.int .i64 (-1)] 3, blk b1_5 [.int .i64 ((evs1.length : Nat) : Int)] 3, blk b1_6 [.int .i64 (min ((evs1.length : Nat) : Int) ((evs2.length : Nat) : Int))] 3, blk b1 [.pointer (some ⟨by', 0, none⟩)] 33]) hk hs fun w hs => ⟨_, res_ok (rs := [.cell 4 3]) (vs := [.int .i64 (-1)]) hk rfl ⟨⟨_, rfl, lv_1 ty3 (.blk (n := 1) (hs.mi 0 rfl) rfl)⟩, trivial⟩, ?_⟩
        have e : evs1 = evs2 := by have h := hf1; rw [List.take_length, show evs1.length = evs2.length by omega, List.take_length] at h; exact h
        exact ⟨by rw [e, firstE_eq]; rfl, hs.toBelow⟩
      · skip
        have hL := okL.cons (hs.mi 3 rfl) okL.nil
        refine d_begin _ 5 (by kernel_rfl) rfl hs hL fun w hs hL => ?_
        refine d_v 0 1 hk hL rfl (by kernel_rfl) rfl rfl (fun w hL => w_mv rfl) fun a hk => ?_
        refine d_v 2 5 hk hL rfl (by kernel_rfl) rfl rfl (fun w hL => w_ld1 rfl ty33 (.blk (n := 1) (hL.at 0 rfl) rfl)) fun a hk => ?_
        refine d_1 1 7 rfl (by kernel_rfl) fun K hK => ?_
        refine q_call (caps := []) hk rfl rfl Tryd.func84 fo84 rfl rfl (tlen_s bx _ _ _ evs1 _ (tape_parts (hs.ri 1 rfl)).1) ?_
        rintro _ w ⟨rfl, hb⟩
        have hs := hs.below hb
        refine ⟨_, rfl, fun a hk => ?_⟩
        have hL := okL.cons (hs.mi 3 rfl) okL.nil
        refine c_end (x_t (hK _ _ hL ?_))
        clear hK K
        refine d_1 3 15 rfl (by kernel_rfl) fun K hK => ?_
        refine q_call (caps := []) hk rfl rfl Tryd.func84 fo84 rfl rfl (tlen_s by' _ _ _ evs2 _ (tape_parts (hs.ri 2 rfl)).1) ?_
        rintro _ w ⟨rfl, hb⟩
        have hs := hs.below hb
        refine ⟨_, rfl, fun a hk => ?_⟩
        have hL := okL.cons (hs.mi 3 rfl) okL.nil
        refine c_end (x_t (hK _ _ hL ?_))
        clear hK K
        refine d_v 4 31 hk hL rfl (by kernel_rfl) rfl rfl (fun w hL => w_eq rfl rfl (decide_eq_false hc9)) fun a hk => ?_
        refine d_end (by kernel_rfl) ?_
        refine (x_t ?_)
        refine c_F hk rfl ?_
        refine (wpIn_skip (x_t ?_))
        refine wpIn_seq ?_
        refine wpIn_region_lit ?_
        refine q_val hk (w_ld1 rfl ty3 (.blk (n := 1) (hs.mi 1 rfl) rfl)) rfl rfl rfl fun a hk => ?_
        refine q_sto (o := 0) (cs := [.int .i64 ((evs1.length : Nat) : Int)]) (vs' := [.int .i64 ((evs1.length : Nat) : Int)]) hk hs rfl rfl rfl ty3 rfl rfl rfl rfl rfl rfl fun w hs => ?_
        refine (c_end (x_t ?_))
        refine (wpIn_ret ?_)
        have hs := hs.up3
        have hs := hs.up3
        have hs := hs.up3
        have hs := hs.up3
        have hs := hs.up4
        refine c_retM (M := [blk b2 [.int .i64 ((evs1.length : Nat) : Int)] 3, blk b1_5 [.int .i64 ((evs1.length : Nat) : Int)] 3, blk b1_6 [.int .i64 (min ((evs1.length : Nat) : Int) ((evs2.length : Nat) : Int))] 3, blk b1 [.pointer (some ⟨by', 0, none⟩)] 33]) hk hs fun w hs => ⟨_, res_ok (rs := [.cell 4 3]) (vs := [.int .i64 ((evs1.length : Nat) : Int)]) hk rfl ⟨⟨_, rfl, lv_1 ty3 (.blk (n := 1) (hs.mi 0 rfl) rfl)⟩, trivial⟩, ?_⟩
        have hz : firstE evs1 evs2 = ((evs1.length : Nat) : Int) := firstE_ne (Nat.le_refl _) hf0 hf1 (fun e => by have := congrArg List.length e; omega) (.inl rfl)
        exact ⟨by rw [hz]; rfl, hs.toBelow⟩
    · rintro c D5 i5 r r5 a w hi5 ⟨rfl, z, z2, hz, rfl⟩ hK hk hs
      obtain rfl := hK
      have hs := Sat.unpack (l := [blk b2 [.int .i64 z] 3, blk b1_5 [.int .i64 z2] 3, blk b1_6 [.int .i64 (min ((evs1.length : Nat) : Int) ((evs2.length : Nat) : Int))] 3, blk b1 [.pointer (some ⟨by', 0, none⟩)] 33]) hs.up2.drop.up1
      have hs : Sat no W [blk b2 [.int .i64 z] 3, blk b1_5 [.int .i64 z2] 3, blk b1_6 [.int .i64 (min ((evs1.length : Nat) : Int) ((evs2.length : Nat) : Int))] 3, blk b1 [.pointer (some ⟨by', 0, none⟩)] 33, dres D5] [rall [blk b3 [.int .i64 0] 3, blk b4 [.pointer (some ⟨bx, 0, none⟩)] 33], tapeR bx la1 lc1 ps1 evs1, tapeR by' la2 lc2 ps2 evs2] w := hs
      refine (wpIn_ret (x_br (x_tr ?_)))
      have hs := hs.up3
      have hs := hs.up3
      have hs := hs.up3
      have hs := hs.up3
      have hs := hs.up4
      refine c_retM (M := [blk b2 [.int .i64 z] 3, blk b1_5 [.int .i64 z2] 3, blk b1_6 [.int .i64 (min ((evs1.length : Nat) : Int) ((evs2.length : Nat) : Int))] 3, blk b1 [.pointer (some ⟨by', 0, none⟩)] 33]) hk hs fun w hs => ⟨_, res_ok (rs := [.cell 4 3]) (vs := [.int .i64 z]) hk rfl ⟨⟨_, rfl, lv_1 ty3 (.blk (n := 1) (hs.mi 0 rfl) rfl)⟩, trivial⟩, ?_⟩
      exact ⟨by rw [hz]; rfl, hs.toBelow⟩
end Go.Proofs.YtpggmebgndkpjaaDoor
