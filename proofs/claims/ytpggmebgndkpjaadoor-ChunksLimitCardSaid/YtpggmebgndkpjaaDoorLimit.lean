/- ChunksLimit. -/
import Derived.Test.YtpggmebgndkpjaaDoorCanon
import Derived.Test.YtpggmebgndkpjaaDoorRepeat
namespace Go.Proofs.YtpggmebgndkpjaaDoor
set_option linter.all false
open Go Go.RowKit

theorem cn_law {n : Nat} (h : ¬ 65535 < ((n : Nat) : Int)) : ((cn ((n : Nat) : Int) : Nat) : Int) = (((n : Nat) : Int) + 30) / 31 := by
  unfold cn
  rw [if_pos (by omega)]
  omega
theorem cn_none {n : Nat} (h : 65535 < ((n : Nat) : Int)) : ((cn ((n : Nat) : Int) : Nat) : Int) = 0 := by
  unfold cn
  rw [if_neg (by omega)]
  rfl
theorem lawLimit_c (s : Bool) (x y : Nat) (W : World) (hx : x < 256) (hy : y < 256) (HL : Laid W) : Calls Tryd.prog 12 [.bool s, .int .u8 ((x : Nat) : Int), .int .u8 ((y : Nat) : Int)].toArray W fun e w => e = .returned (.bool true) ∧ Below W.heap.size W w := by
  refine c_enter (args := [.bool s, .int .u8 ((x : Nat) : Int), .int .u8 ((y : Nat) : Int)]) Tryd.func12 rfl rfl rfl fun a hk => ?_
  have hs := Sat.start W [] (fun _ h => by cases h)
  refine wpIn_seq ?_
  refine wpIn_region_lit ?_
  refine q_val hk (w_as rfl) rfl rfl rfl fun a hk => ?_
  refine (c_end (x_t ?_))
  refine wpIn_seq ?_
  refine wpIn_region_lit ?_
  refine q_val hk (w_mv rfl) rfl rfl rfl fun a hk => ?_
  refine q_call (caps := []) hk rfl rfl Tryd.func32 fo32 rfl rfl (get13_c s _ (HL.step hs.toBelow)) ?_
  rintro _ w ⟨rfl, hb⟩
  have hs := hs.below hb
  refine ⟨_, rfl, fun a hk => ?_⟩
  refine q_val hk (w_mv rfl) rfl rfl rfl fun a hk => ?_
  refine q_val hk (w_ext rfl rfl) rfl rfl rfl fun a hk => ?_
  refine q_val hk (w_ext rfl rfl) rfl rfl rfl fun a hk => ?_
  refine q_alc (vs := [.int .i64 0, .int .u64 0, .int .u64 0, .int .u64 0, .int .u64 0, .int .u64 0, .int .u64 0, .int .u64 0, .int .u64 0, .int .u64 0, .int .u64 0, .int .u64 0, .int .u64 0, .int .u64 0]) hk hs zr47 rfl rfl rfl fun b1 w a hk hs => ?_
  refine q_alc (vs := [.int .u64 0, .int .u64 0, .int .u64 0, .int .u64 0]) hk hs zr44 rfl rfl rfl fun b2 w a hk hs => ?_
  have hs := hs.up1
  refine q_sto (o := 0) (cs := fieldL s) (vs' := fieldL s) hk hs rfl rfl rfl ty47 rfl rfl rfl rfl rfl rfl fun w hs => ?_
  have hs := hs.up1
  refine q_sto (o := 0) (cs := [.int .u64 ((dg 0 (pr s) : Nat) : Int), .int .u64 ((dg 1 (pr s) : Nat) : Int), .int .u64 ((dg 2 (pr s) : Nat) : Int), .int .u64 ((dg 3 (pr s) : Nat) : Int)]) (vs' := [.int .u64 ((dg 0 (pr s) : Nat) : Int), .int .u64 ((dg 1 (pr s) : Nat) : Int), .int .u64 ((dg 2 (pr s) : Nat) : Int), .int .u64 ((dg 3 (pr s) : Nat) : Int)]) hk hs rfl rfl rfl ty44 rfl rfl rfl rfl rfl rfl fun w hs => ?_
  refine (c_end (x_t ?_))
  refine wpIn_seq ?_
  refine wpIn_region_lit ?_
  refine q_val hk (w_mv rfl) rfl rfl rfl fun a hk => ?_
  refine q_val hk (w_rem rfl rfl (by omega) (wmd (by omega))) rfl rfl rfl fun a hk => ?_
  refine q_val hk (w_conv rfl Tryd.underlying5 Tryd.underlying3 (wr64 (by omega) (by omega))) rfl rfl rfl fun a hk => ?_
  refine q_val hk (w_add rfl rfl (wr64 (by omega) (by omega))) rfl rfl rfl fun a hk => ?_
  refine q_val hk (w_as rfl) rfl rfl rfl fun a hk => ?_
  obtain ⟨n, hn⟩ : ∃ n : Nat, (65530 + (((x : Nat) : Int) % 10)) = ((n : Nat) : Int) := ⟨65530 + x % 10, by omega⟩
  rw [hn] at hk
  have hn1 : 65530 ≤ n ∧ n ≤ 65539 := by omega
  refine (c_end (x_t ?_))
  refine wpIn_seq ?_
  rcases Classical.em (65535 < ((n : Nat) : Int)) with hc3 | hc3
  · skip
    have hL := okL.cons (hs.mi 1 rfl) okL.nil
    refine d_begin _ 11 (by kernel_rfl) rfl hs hL fun w hs hL => ?_
    refine d_v 0 1 hk hL rfl (by kernel_rfl) rfl rfl (fun w hL => w_ldA rfl ty47 (.blk (n := 14) (hL.at 0 rfl) rfl) rfl) fun a hk => ?_
    refine d_v 1 3 hk hL rfl (by kernel_rfl) rfl rfl (fun w hL => w_mv rfl) fun a hk => ?_
    refine d_v 3 11 hk hL rfl (by kernel_rfl) rfl rfl (fun w hL => w_mv rfl) fun a hk => ?_
    refine d_1 2 15 rfl (by kernel_rfl) fun K hK => ?_
    refine q_bsl (els := [.tmp 23]) (cs := [.int .u8 ((y : Nat) : Int)]) hk hs rfl Tryd.underlying53 ty5 zr5 rfl rfl rfl rfl rfl rfl rfl fun b1_2 w a hk hs => ?_
    have hL := okL.cons (hs.mi 2 rfl) okL.nil
    refine c_end (x_t (hK _ _ hL ?_))
    clear hK K
    refine d_1 4 31 rfl (by kernel_rfl) fun K hK => ?_
    refine q_call (caps := []) hk rfl rfl Tryd.func41 fo41 rfl rfl (repeat_c _ _ y n _ (blk_lst (hs.mi 0 rfl) rfl (Nat.le_refl _)) hy (by omega) (by omega)) ?_
    rintro _ w ⟨b1_4, l1_4b, c1_4c, rfl, hS, h1_4d, h1_4e, h1_4f⟩
    have hs := hs.call1 hS
    clear hS
    refine ⟨_, rfl, fun a hk => ?_⟩
    have hL := okL.cons (hs.mi 3 rfl) okL.nil
    refine c_end (x_t (hK _ _ hL ?_))
    clear hK K
    refine d_1 5 63 rfl (by kernel_rfl) fun K hK => ?_
    refine q_call (caps := []) hk rfl rfl Tryd.func35 fo35 rfl rfl (split_big s _ n _ (by omega) _) ?_
    rintro _ w ⟨rfl, hb⟩
    have hs := hs.below hb
    refine ⟨_, rfl, fun a hk => ?_⟩
    have hL := okL.cons (hs.mi 3 rfl) okL.nil
    refine c_end (x_t (hK _ _ hL ?_))
    clear hK K
    refine d_v 6 127 hk hL rfl (by kernel_rfl) rfl rfl (fun w hL => w_mv rfl) fun a hk => ?_
    refine d_v 7 255 hk hL rfl (by kernel_rfl) rfl rfl (fun w hL => w_ext rfl rfl) fun a hk => ?_
    refine d_v 8 511 hk hL rfl (by kernel_rfl) rfl rfl (fun w hL => w_ext rfl rfl) fun a hk => ?_
    refine d_v 9 1023 hk hL rfl (by kernel_rfl) rfl rfl (fun w hL => w_as rfl) fun a hk => ?_
    refine d_v 10 2047 hk hL rfl (by kernel_rfl) rfl rfl (fun w hL => w_as rfl) fun a hk => ?_
    refine d_end (by kernel_rfl) ?_
    refine (x_t ?_)
    refine wpIn_seq ?_
    refine wpIn_seq ?_
    refine wpIn_region_lit ?_
    refine q_val hk (w_mv rfl) rfl rfl rfl fun a hk => ?_
    refine q_val hk (w_gt rfl rfl (decide_eq_true hc3)) rfl rfl rfl fun a hk => ?_
    refine (c_end (x_t ?_))
    refine c_T hk rfl ?_
    refine wpIn_seq ?_
    refine wpIn_region_lit ?_
    refine q_call (caps := []) hk rfl rfl Tryd.func29 fo29 rfl rfl (alive13_c _ (HL.step hs.toBelow)) ?_
    rintro _ w ⟨rfl, hb⟩
    have hs := hs.below hb
    refine ⟨_, rfl, fun a hk => ?_⟩
    refine q_val hk (w_mv rfl) rfl rfl rfl fun a hk => ?_
    refine q_val hk (w_mv rfl) rfl rfl rfl fun a hk => ?_
    refine q_val hk (w_len rfl Tryd.underlying50) rfl rfl rfl fun a hk => ?_
    refine q_val hk (w_eq rfl rfl (decide_eq_true (by decide))) rfl rfl rfl fun a hk => ?_
    refine q_val hk (w_pickT rfl rfl) rfl rfl rfl fun a hk => ?_
    refine q_val hk (w_mv rfl) rfl rfl rfl fun a hk => ?_
    refine q_val hk (w_mv rfl) rfl rfl rfl fun a hk => ?_
    refine q_val hk (w_eq rfl rfl (decide_eq_true (by decide))) rfl rfl rfl fun a hk => ?_
    refine q_val hk (w_pickT rfl rfl) rfl rfl rfl fun a hk => ?_
    refine q_val hk (w_mv rfl) rfl rfl rfl fun a hk => ?_
    refine q_val hk (w_mv rfl) rfl rfl rfl fun a hk => ?_
    refine q_call (caps := []) hk rfl rfl Tryd.func30 fo30 rfl rfl (count_c ((n : Nat) : Int) _) ?_
    rintro _ _ ⟨rfl, rfl⟩
    refine ⟨_, rfl, fun a hk => ?_⟩
    refine q_val hk (w_eq rfl rfl (decide_eq_true (cn_none (by assumption)))) rfl rfl rfl fun a hk => ?_
    refine q_val hk (w_pickT rfl rfl) rfl rfl rfl fun a hk => ?_
    refine q_val hk (w_as rfl) rfl rfl rfl fun a hk => ?_
    refine (c_end (x_t ?_))
    refine (wpIn_ret (x_tr ?_))
    refine c_ret1 hk rfl rfl ?_
    exact ⟨rfl, hs.toBelow⟩
  · skip
    have hL := okL.cons (hs.mi 1 rfl) okL.nil
    refine d_begin _ 11 (by kernel_rfl) rfl hs hL fun w hs hL => ?_
    refine d_v 0 1 hk hL rfl (by kernel_rfl) rfl rfl (fun w hL => w_ldA rfl ty47 (.blk (n := 14) (hL.at 0 rfl) rfl) rfl) fun a hk => ?_
    refine d_v 1 3 hk hL rfl (by kernel_rfl) rfl rfl (fun w hL => w_mv rfl) fun a hk => ?_
    refine d_v 3 11 hk hL rfl (by kernel_rfl) rfl rfl (fun w hL => w_mv rfl) fun a hk => ?_
    refine d_1 2 15 rfl (by kernel_rfl) fun K hK => ?_
    refine q_bsl (els := [.tmp 23]) (cs := [.int .u8 ((y : Nat) : Int)]) hk hs rfl Tryd.underlying53 ty5 zr5 rfl rfl rfl rfl rfl rfl rfl fun b2_2 w a hk hs => ?_
    have hL := okL.cons (hs.mi 2 rfl) okL.nil
    refine c_end (x_t (hK _ _ hL ?_))
    clear hK K
    refine d_1 4 31 rfl (by kernel_rfl) fun K hK => ?_
    refine q_call (caps := []) hk rfl rfl Tryd.func41 fo41 rfl rfl (repeat_c _ _ y n _ (blk_lst (hs.mi 0 rfl) rfl (Nat.le_refl _)) hy (by omega) (by omega)) ?_
    rintro _ w ⟨b2_4, l2_4b, c2_4c, rfl, hS, h2_4d, h2_4e, h2_4f⟩
    have hs := hs.call1 hS
    clear hS
    refine ⟨_, rfl, fun a hk => ?_⟩
    have hL := okL.cons (hs.mi 3 rfl) okL.nil
    refine c_end (x_t (hK _ _ hL ?_))
    clear hK K
    refine d_1 5 63 rfl (by kernel_rfl) fun K hK => ?_
    refine q_call (caps := []) hk rfl rfl Tryd.func35 fo35 rfl rfl (splitQ s _ n n (l2_4b.take n) _ (fun y hy => h2_4f y (List.mem_of_mem_take hy)) (by omega) (blkB_lst (n := n) (cc := n) (hs.mi 0 rfl) (by omega) (Nat.le_refl _))) ?_
    rintro _ w ⟨a2_5, c2_5b, rfl, hS⟩
    have hs := hs.call1 hS
    clear hS
    refine ⟨_, rfl, fun a hk => ?_⟩
    have hL := okL.cons (hs.mi 4 rfl) okL.nil
    refine c_end (x_t (hK _ _ hL ?_))
    clear hK K
    refine d_v 6 127 hk hL rfl (by kernel_rfl) rfl rfl (fun w hL => w_mv rfl) fun a hk => ?_
    refine d_v 7 255 hk hL rfl (by kernel_rfl) rfl rfl (fun w hL => w_ext rfl rfl) fun a hk => ?_
    refine d_v 8 511 hk hL rfl (by kernel_rfl) rfl rfl (fun w hL => w_ext rfl rfl) fun a hk => ?_
    refine d_v 9 1023 hk hL rfl (by kernel_rfl) rfl rfl (fun w hL => w_as rfl) fun a hk => ?_
    refine d_v 10 2047 hk hL rfl (by kernel_rfl) rfl rfl (fun w hL => w_as rfl) fun a hk => ?_
    refine d_end (by kernel_rfl) ?_
    refine (x_t ?_)
    refine wpIn_seq ?_
    refine wpIn_seq ?_
    refine wpIn_region_lit ?_
    refine q_val hk (w_mv rfl) rfl rfl rfl fun a hk => ?_
    refine q_val hk (w_gt rfl rfl (decide_eq_false hc3)) rfl rfl rfl fun a hk => ?_
    refine (c_end (x_t ?_))
    refine c_F hk rfl ?_
    refine (wpIn_skip (x_t ?_))
    refine wpIn_seq ?_
    refine wpIn_region_lit ?_
    refine q_call (caps := []) hk rfl rfl Tryd.func29 fo29 rfl rfl (alive13_c _ (HL.step hs.toBelow)) ?_
    rintro _ w ⟨rfl, hb⟩
    have hs := hs.below hb
    refine ⟨_, rfl, fun a hk => ?_⟩
    refine q_val hk (w_mv rfl) rfl rfl rfl fun a hk => ?_
    refine q_val hk (w_mv rfl) rfl rfl rfl fun a hk => ?_
    refine q_val hk (w_len rfl Tryd.underlying50) rfl rfl rfl fun a hk => ?_
    refine q_val hk (w_mv rfl) rfl rfl rfl fun a hk => ?_
    refine q_val hk (w_add rfl rfl (wr64 (by omega) (by omega))) rfl rfl rfl fun a hk => ?_
    refine q_val hk (w_quo rfl rfl (by omega) (wdv64 (by omega) (by omega) (by omega))) rfl rfl rfl fun a hk => ?_
    refine q_val hk (w_eq rfl rfl (decide_eq_true (cn_law (by assumption)))) rfl rfl rfl fun a hk => ?_
    refine q_val hk (w_pickT rfl rfl) rfl rfl rfl fun a hk => ?_
    refine q_val hk (w_mv rfl) rfl rfl rfl fun a hk => ?_
    refine q_val hk (w_mv rfl) rfl rfl rfl fun a hk => ?_
    refine q_val hk (w_eq rfl rfl (decide_eq_true (by decide))) rfl rfl rfl fun a hk => ?_
    refine q_val hk (w_pickT rfl rfl) rfl rfl rfl fun a hk => ?_
    refine q_val hk (w_mv rfl) rfl rfl rfl fun a hk => ?_
    refine q_val hk (w_mv rfl) rfl rfl rfl fun a hk => ?_
    refine q_call (caps := []) hk rfl rfl Tryd.func30 fo30 rfl rfl (count_c ((n : Nat) : Int) _) ?_
    rintro _ _ ⟨rfl, rfl⟩
    refine ⟨_, rfl, fun a hk => ?_⟩
    refine q_val hk (w_mv rfl) rfl rfl rfl fun a hk => ?_
    refine q_val hk (w_len rfl Tryd.underlying50) rfl rfl rfl fun a hk => ?_
    refine q_val hk (w_eq rfl rfl (decide_eq_true rfl)) rfl rfl rfl fun a hk => ?_
    refine q_val hk (w_pickT rfl rfl) rfl rfl rfl fun a hk => ?_
    refine q_val hk (w_as rfl) rfl rfl rfl fun a hk => ?_
    refine (c_end (x_t ?_))
    refine (wpIn_ret ?_)
    refine c_ret1 hk rfl rfl ?_
    exact ⟨rfl, hs.toBelow⟩
end Go.Proofs.YtpggmebgndkpjaaDoor
