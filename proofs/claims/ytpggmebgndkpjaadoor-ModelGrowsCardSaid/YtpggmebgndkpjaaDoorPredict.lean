/- What package model says, and the reference: Split, Combine, Check, Extend. -/
import Derived.Test.YtpggmebgndkpjaaDoorEvList
import Derived.Test.YtpggmebgndkpjaaDoorCollect
namespace Go.Proofs.YtpggmebgndkpjaaDoor
set_option linter.all false
open Go Go.RowKit
theorem predict_m (F T N L : Int) (kf : Nat) (E : List Ev) (W : World) (HL : Laid W) (hlen : prErr F T N L = 0 → E.length ≤ 1000000000000) (hf : ∃ fn, Tryd.prog.funcs[kf]? = some fn ∧ (fn.name != "runtime.NumGoroutine" && fn.body.isSome) = true ∧ (prErr F T N L = 0 → ∀ (F0 : Nat → Prop) (W : World) (M R : List Res) (w0 : World), Sat F0 W M R w0 → Calls Tryd.prog kf #[.agg #[.int .i64 T, .int .i64 N, .int .i64 ((cn L : Nat) : Int)]] w0 fun e w => ∃ x r, e = .returned (fval x) ∧ DenE x E r ∧ Sat F0 W M (r :: R) w)) : Calls Tryd.prog 42 [.agg #[.int .i64 F, .int .i64 T, .int .i64 N, .int .i64 L], .func (.func kf) #[] (List.toArray [])].toArray W fun e w => ∃ la nn c, e = .returned (.tuple #[.slice la nn c, .int .i64 (prErr F T N L)]) ∧ Sat no W [row 36 3 (.slice la nn c) nn (el ec (if prErr F T N L = 0 then E else []))] [] w := by
  obtain ⟨fn, hf1, hf2, hf3⟩ := hf
  refine c_enter (args := [.agg #[.int .i64 F, .int .i64 T, .int .i64 N, .int .i64 L], .func (.func kf) #[] (List.toArray [])]) Tryd.func42 rfl rfl rfl fun a hk => ?_
  have hs := Sat.start W [] (fun _ h => by cases h)
  refine wpIn_seq ?_
  refine wpIn_region_lit ?_
  refine q_box (vs := [.int .i64 F, .int .i64 T, .int .i64 N, .int .i64 L]) hk hs rfl rfl rfl rfl fun b1 w a hk hs => ?_
  refine q_val hk (w_as rfl) rfl rfl rfl fun a hk => ?_
  refine q_val hk (w_as rfl) rfl rfl rfl fun a hk => ?_
  refine (c_end (x_t ?_))
  refine wpIn_seq ?_
  refine wpIn_seq ?_
  refine wpIn_region_lit ?_
  refine q_val hk (w_ldA rfl ty23 (.blk (n := 4) (hs.mi 0 rfl) rfl) rfl) rfl rfl rfl fun a hk => ?_
  refine q_call (caps := []) hk rfl rfl Tryd.func68 fo68 rfl rfl (ckPar_c F T N L _ (HL.step hs.toBelow)) ?_
  rintro _ w ⟨rfl, hb⟩
  have hs := hs.below hb
  refine ⟨_, rfl, fun a hk => ?_⟩
  refine q_val hk (w_as rfl) rfl rfl rfl fun a hk => ?_
  refine (c_end (x_t ?_))
  refine wpIn_seq ?_
  refine wpIn_region_lit ?_
  refine q_val hk (w_mv rfl) rfl rfl rfl fun a hk => ?_
  rcases Classical.em ((prErr F T N L) ≠ 0) with hc2 | hc2
  · skip
    refine q_val hk (w_ne rfl rfl (decide_eq_true hc2)) rfl rfl rfl fun a hk => ?_
    refine (c_end (x_t ?_))
    refine c_T hk rfl ?_
    refine wpIn_seq ?_
    refine wpIn_region_lit ?_
    refine q_val hk (w_mv rfl) rfl rfl rfl fun a hk => ?_
    refine q_val hk (w_as rfl) rfl rfl rfl fun a hk => ?_
    refine q_val hk (w_as rfl) rfl rfl rfl fun a hk => ?_
    refine (c_end (x_t ?_))
    refine (wpIn_ret (x_tr ?_))
    refine c_ret2 hk rfl rfl rfl ?_
    rw [if_neg (by omega)]
    have hs := hs.drop
    exact ⟨_, _, _, rfl, (hs.row0 36 3).fin⟩
  · skip
    have h0 : prErr F T N L = 0 := by omega
    refine q_val hk (w_ne rfl rfl (decide_eq_false hc2)) rfl rfl rfl fun a hk => ?_
    refine (c_end (x_t ?_))
    refine c_F hk rfl ?_
    refine (wpIn_skip (x_t ?_))
    refine wpIn_seq ?_
    have hL := okL.cons (hs.mi 0 rfl) okL.nil
    refine d_begin _ 13 (by kernel_rfl) rfl hs hL fun w hs hL => ?_
    refine d_v 0 1 hk hL rfl (by kernel_rfl) rfl rfl (fun w hL => w_mv rfl) fun a hk => ?_
    refine d_v 1 3 hk hL rfl (by kernel_rfl) rfl rfl (fun w hL => w_fa rfl fq23_1 ty3) fun a hk => ?_
    refine d_v 2 7 hk hL rfl (by kernel_rfl) rfl rfl (fun w hL => w_ld1 rfl ty3 (.blk (n := 1) (hL.at 0 rfl) rfl)) fun a hk => ?_
    refine d_v 3 15 hk hL rfl (by kernel_rfl) rfl rfl (fun w hL => w_fa rfl fq23_2 ty3) fun a hk => ?_
    refine d_v 4 31 hk hL rfl (by kernel_rfl) rfl rfl (fun w hL => w_ld1 rfl ty3 (.blk (n := 1) (hL.at 0 rfl) rfl)) fun a hk => ?_
    refine d_v 5 63 hk hL rfl (by kernel_rfl) rfl rfl (fun w hL => w_fa rfl fq23_3 ty3) fun a hk => ?_
    refine d_v 6 127 hk hL rfl (by kernel_rfl) rfl rfl (fun w hL => w_ld1 rfl ty3 (.blk (n := 1) (hL.at 0 rfl) rfl)) fun a hk => ?_
    refine d_1 7 255 rfl (by kernel_rfl) fun K hK => ?_
    refine q_call (caps := []) hk rfl rfl Tryd.func30 fo30 rfl rfl (count_c L _) ?_
    rintro _ _ ⟨rfl, rfl⟩
    refine ⟨_, rfl, fun a hk => ?_⟩
    have hL := okL.cons (hs.mi 0 rfl) okL.nil
    refine c_end (x_t (hK _ _ hL ?_))
    clear hK K
    refine d_v 8 511 hk hL rfl (by kernel_rfl) rfl rfl (fun w hL => w_bld rfl fl73 zr73 rfl rfl) fun a hk => ?_
    refine d_1 9 1023 rfl (by kernel_rfl) fun K hK => ?_
    refine q_call (caps := []) hk rfl rfl hf1 hf2 rfl rfl (hf3 h0 _ _ _ _ _ hs) ?_
    rintro _ w ⟨f1_9, r1_9b, rfl, hd1_9c, hs⟩
    refine ⟨_, rfl, fun a hk => ?_⟩
    have hL := okL.cons (hs.mi 0 rfl) okL.nil
    refine c_end (x_t (hK _ _ hL ?_))
    clear hK K
    refine d_1 10 2047 rfl (by kernel_rfl) fun K hK => ?_
    refine q_call (caps := []) hk rfl rfl Tryd.func69 fo69 rfl rfl (collect_m f1_9 E r1_9b _ hs hd1_9c HasR.head (hlen h0)) ?_
    rintro _ w ⟨a1_10, c1_10b, rfl, hs⟩
    refine ⟨_, rfl, fun a hk => ?_⟩
    have hL := okL.cons (hs.mi 1 rfl) okL.nil
    refine c_end (x_t (hK _ _ hL ?_))
    clear hK K
    refine d_v 11 4095 hk hL rfl (by kernel_rfl) rfl rfl (fun w hL => w_as rfl) fun a hk => ?_
    refine d_v 12 8191 hk hL rfl (by kernel_rfl) rfl rfl (fun w hL => w_as rfl) fun a hk => ?_
    refine d_end (by kernel_rfl) ?_
    refine (x_t ?_)
    refine (wpIn_ret ?_)
    refine c_ret2 hk rfl rfl rfl ?_
    rw [if_pos h0]
    have hs := hs.up1
    have hs := hs.drop
    exact ⟨_, _, _, by rw [h0], hs.fin⟩
end Go.Proofs.YtpggmebgndkpjaaDoor
