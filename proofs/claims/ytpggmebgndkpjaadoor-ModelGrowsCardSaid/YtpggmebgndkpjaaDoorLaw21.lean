/- The laws of chapter 21: predictions, and tapes against lists. -/
import Derived.Test.YtpggmebgndkpjaaDoorPredict
import Derived.Test.YtpggmebgndkpjaaDoorEvCmp
namespace Go.Proofs.YtpggmebgndkpjaaDoor
set_option linter.all false
open Go Go.RowKit
theorem prErr_zero {F T N L : Int} (h : prErr F T N L = 0) : (F = 1 ∨ F = 2) ∧ 1 ≤ N ∧ N ≤ 255 ∧ 1 ≤ T ∧ T ≤ N ∧ 0 ≤ L ∧ L ≤ 65535 := by
  unfold prErr at h
  split at h
  · split at h
    · split at h
      · split at h
        · exact ⟨by assumption, by omega, by omega, by omega, by omega, by omega, by omega⟩
        · omega
      · omega
    · omega
  · omega
theorem cn_2115 {L : Int} (h : L ≤ 65535) : cn L ≤ 2115 := by unfold cn; split <;> omega
theorem splitE_len {t n c : Int} (ht : t ≤ 255) (hn : n ≤ 255) (hc : c ≤ 2115) : (splitE t n c).length ≤ 1000000000 := by
  have h := upE_len (fr := 1) (to := n + 1) (F := fun i => [(5, i, 0)] ++ eachE c (downE t coefE)) (B := 1000001) (fun i => by have := chunk_len (c := c) ht hc; rw [List.length_append, List.length_singleton]; omega)
  have e : (n + 1 - 1).toNat ≤ 255 := by omega
  have h2 : (n + 1 - 1).toNat * 1000001 ≤ 255 * 1000001 := Nat.mul_le_mul_right _ e
  unfold splitE
  omega
theorem combineE_len {t n c : Int} (ht : t ≤ 255) (hc : c ≤ 2115) : (combineE t n c).length ≤ 1000000000 := by
  have h1 := weights_len ht
  have h2 := up255 (fr := 0) (to := t) coef_len (by omega) ht
  have h3 := each_len (c := c) (B := 255) (by omega : (upE 0 t coefE).length ≤ 255) hc
  unfold combineE
  simp only [List.length_append]
  omega
theorem checkE_len {t n c : Int} (ht : 0 ≤ t) (hn : n ≤ 255) (hc : c ≤ 2115) : (checkE t n c).length ≤ 1000000000 := by
  have h3 := each_len (c := c) (fits_len (k := t) hn ht) hc
  unfold checkE
  omega
theorem extendE_len {t n c : Int} (ht : t ≤ 255) (hc : c ≤ 2115) : (extendE t n c).length ≤ 1000000000 := by
  have h3 := each_len (c := c) (at_len ht) hc
  unfold extendE
  omega
theorem modelSplit_c (F T N L : Int) (W : World) (HL : Laid W) : Calls Tryd.prog 15 [.agg #[.int .i64 F, .int .i64 T, .int .i64 N, .int .i64 L]].toArray W fun e w => ∃ la nn c, e = .returned (.tuple #[.slice la nn c, .int .i64 (prErr F T N L)]) ∧ Sat no W [row 36 3 (.slice la nn c) nn (el ec (if prErr F T N L = 0 then splitE T N ((cn L : Nat) : Int) else []))] [] w := by
  have hz : prErr F T N L = 0 → (1 ≤ N ∧ N ≤ 255 ∧ 1 ≤ T ∧ T ≤ N ∧ (cn L : Int) ≤ 2115) := fun h => by obtain ⟨_, h1, h2, h3, h4, h5, h6⟩ := prErr_zero h; have := cn_2115 h6; omega
  refine c_enter (args := [.agg #[.int .i64 F, .int .i64 T, .int .i64 N, .int .i64 L]]) Tryd.func15 rfl rfl rfl fun a hk => ?_
  have hs := Sat.start W [] (fun _ h => by cases h)
  refine wpIn_seq ?_
  refine wpIn_region_lit ?_
  refine q_box (vs := [.int .i64 F, .int .i64 T, .int .i64 N, .int .i64 L]) hk hs rfl rfl rfl rfl fun b1 w a hk hs => ?_
  refine q_val hk (w_as rfl) rfl rfl rfl fun a hk => ?_
  refine q_val hk (w_as rfl) rfl rfl rfl fun a hk => ?_
  refine (c_end (x_t ?_))
  refine wpIn_seq ?_
  refine wpIn_region_lit ?_
  refine q_val hk (w_ldA rfl ty23 (.blk (n := 4) (hs.mi 0 rfl) rfl) rfl) rfl rfl rfl fun a hk => ?_
  refine q_call (caps := []) hk rfl rfl Tryd.func42 fo42 rfl rfl (predict_m F T N L 43 (splitE T N ((cn L : Nat) : Int)) _ (HL.step hs.toBelow) (fun h => by have := hz h; exact Nat.le_trans (splitE_len (by omega) (by omega) (by omega)) (by omega)) ⟨_, Tryd.func43, fo43, fun h F0 W M R w0 hs => by have := hz h; exact split_m T N ((cn L : Nat) : Int) w0 hs (by omega) (by omega) (by omega) (by omega)⟩) ?_
  rintro _ w ⟨a2, k3, c4, rfl, hS⟩
  have hs := hs.call1 hS
  clear hS
  refine ⟨_, rfl, fun a hk => ?_⟩
  refine q_val hk (w_ext rfl rfl) rfl rfl rfl fun a hk => ?_
  refine q_val hk (w_ext rfl rfl) rfl rfl rfl fun a hk => ?_
  refine q_val hk (w_as rfl) rfl rfl rfl fun a hk => ?_
  refine q_val hk (w_as rfl) rfl rfl rfl fun a hk => ?_
  refine (c_end (x_t ?_))
  refine (wpIn_ret ?_)
  refine c_ret2 hk rfl rfl rfl ?_
  have hs := hs.up1
  have hs := hs.drop
  exact ⟨_, _, _, rfl, hs.fin⟩
theorem modelCombine_c (F T N L : Int) (W : World) (HL : Laid W) : Calls Tryd.prog 16 [.agg #[.int .i64 F, .int .i64 T, .int .i64 N, .int .i64 L]].toArray W fun e w => ∃ la nn c, e = .returned (.tuple #[.slice la nn c, .int .i64 (prErr F T N L)]) ∧ Sat no W [row 36 3 (.slice la nn c) nn (el ec (if prErr F T N L = 0 then combineE T N ((cn L : Nat) : Int) else []))] [] w := by
  have hz : prErr F T N L = 0 → (1 ≤ N ∧ N ≤ 255 ∧ 1 ≤ T ∧ T ≤ N ∧ (cn L : Int) ≤ 2115) := fun h => by obtain ⟨_, h1, h2, h3, h4, h5, h6⟩ := prErr_zero h; have := cn_2115 h6; omega
  refine c_enter (args := [.agg #[.int .i64 F, .int .i64 T, .int .i64 N, .int .i64 L]]) Tryd.func16 rfl rfl rfl fun a hk => ?_
  have hs := Sat.start W [] (fun _ h => by cases h)
  refine wpIn_seq ?_
  refine wpIn_region_lit ?_
  refine q_box (vs := [.int .i64 F, .int .i64 T, .int .i64 N, .int .i64 L]) hk hs rfl rfl rfl rfl fun b1 w a hk hs => ?_
  refine q_val hk (w_as rfl) rfl rfl rfl fun a hk => ?_
  refine q_val hk (w_as rfl) rfl rfl rfl fun a hk => ?_
  refine (c_end (x_t ?_))
  refine wpIn_seq ?_
  refine wpIn_region_lit ?_
  refine q_val hk (w_ldA rfl ty23 (.blk (n := 4) (hs.mi 0 rfl) rfl) rfl) rfl rfl rfl fun a hk => ?_
  refine q_call (caps := []) hk rfl rfl Tryd.func42 fo42 rfl rfl (predict_m F T N L 44 (combineE T N ((cn L : Nat) : Int)) _ (HL.step hs.toBelow) (fun h => by have := hz h; exact Nat.le_trans (combineE_len (by omega) (by omega)) (by omega)) ⟨_, Tryd.func44, fo44, fun h F0 W M R w0 hs => by have := hz h; exact combine_m T N ((cn L : Nat) : Int) w0 hs (by omega) (by omega) (by omega)⟩) ?_
  rintro _ w ⟨a2, k3, c4, rfl, hS⟩
  have hs := hs.call1 hS
  clear hS
  refine ⟨_, rfl, fun a hk => ?_⟩
  refine q_val hk (w_ext rfl rfl) rfl rfl rfl fun a hk => ?_
  refine q_val hk (w_ext rfl rfl) rfl rfl rfl fun a hk => ?_
  refine q_val hk (w_as rfl) rfl rfl rfl fun a hk => ?_
  refine q_val hk (w_as rfl) rfl rfl rfl fun a hk => ?_
  refine (c_end (x_t ?_))
  refine (wpIn_ret ?_)
  refine c_ret2 hk rfl rfl rfl ?_
  have hs := hs.up1
  have hs := hs.drop
  exact ⟨_, _, _, rfl, hs.fin⟩
theorem modelCheck_c (F T N L : Int) (W : World) (HL : Laid W) : Calls Tryd.prog 17 [.agg #[.int .i64 F, .int .i64 T, .int .i64 N, .int .i64 L]].toArray W fun e w => ∃ la nn c, e = .returned (.tuple #[.slice la nn c, .int .i64 (prErr F T N L)]) ∧ Sat no W [row 36 3 (.slice la nn c) nn (el ec (if prErr F T N L = 0 then checkE T N ((cn L : Nat) : Int) else []))] [] w := by
  have hz : prErr F T N L = 0 → (1 ≤ N ∧ N ≤ 255 ∧ 1 ≤ T ∧ T ≤ N ∧ (cn L : Int) ≤ 2115) := fun h => by obtain ⟨_, h1, h2, h3, h4, h5, h6⟩ := prErr_zero h; have := cn_2115 h6; omega
  refine c_enter (args := [.agg #[.int .i64 F, .int .i64 T, .int .i64 N, .int .i64 L]]) Tryd.func17 rfl rfl rfl fun a hk => ?_
  have hs := Sat.start W [] (fun _ h => by cases h)
  refine wpIn_seq ?_
  refine wpIn_region_lit ?_
  refine q_box (vs := [.int .i64 F, .int .i64 T, .int .i64 N, .int .i64 L]) hk hs rfl rfl rfl rfl fun b1 w a hk hs => ?_
  refine q_val hk (w_as rfl) rfl rfl rfl fun a hk => ?_
  refine q_val hk (w_as rfl) rfl rfl rfl fun a hk => ?_
  refine (c_end (x_t ?_))
  refine wpIn_seq ?_
  refine wpIn_region_lit ?_
  refine q_val hk (w_ldA rfl ty23 (.blk (n := 4) (hs.mi 0 rfl) rfl) rfl) rfl rfl rfl fun a hk => ?_
  refine q_call (caps := []) hk rfl rfl Tryd.func42 fo42 rfl rfl (predict_m F T N L 45 (checkE T N ((cn L : Nat) : Int)) _ (HL.step hs.toBelow) (fun h => by have := hz h; exact Nat.le_trans (checkE_len (by omega) (by omega) (by omega)) (by omega)) ⟨_, Tryd.func45, fo45, fun h F0 W M R w0 hs => by have := hz h; exact check_m T N ((cn L : Nat) : Int) w0 hs (by omega) (by omega) (by omega) (by omega)⟩) ?_
  rintro _ w ⟨a2, k3, c4, rfl, hS⟩
  have hs := hs.call1 hS
  clear hS
  refine ⟨_, rfl, fun a hk => ?_⟩
  refine q_val hk (w_ext rfl rfl) rfl rfl rfl fun a hk => ?_
  refine q_val hk (w_ext rfl rfl) rfl rfl rfl fun a hk => ?_
  refine q_val hk (w_as rfl) rfl rfl rfl fun a hk => ?_
  refine q_val hk (w_as rfl) rfl rfl rfl fun a hk => ?_
  refine (c_end (x_t ?_))
  refine (wpIn_ret ?_)
  refine c_ret2 hk rfl rfl rfl ?_
  have hs := hs.up1
  have hs := hs.drop
  exact ⟨_, _, _, rfl, hs.fin⟩
theorem modelExtend_c (F T N L : Int) (W : World) (HL : Laid W) : Calls Tryd.prog 18 [.agg #[.int .i64 F, .int .i64 T, .int .i64 N, .int .i64 L]].toArray W fun e w => ∃ la nn c, e = .returned (.tuple #[.slice la nn c, .int .i64 (prErr F T N L)]) ∧ Sat no W [row 36 3 (.slice la nn c) nn (el ec (if prErr F T N L = 0 then extendE T N ((cn L : Nat) : Int) else []))] [] w := by
  have hz : prErr F T N L = 0 → (1 ≤ N ∧ N ≤ 255 ∧ 1 ≤ T ∧ T ≤ N ∧ (cn L : Int) ≤ 2115) := fun h => by obtain ⟨_, h1, h2, h3, h4, h5, h6⟩ := prErr_zero h; have := cn_2115 h6; omega
  refine c_enter (args := [.agg #[.int .i64 F, .int .i64 T, .int .i64 N, .int .i64 L]]) Tryd.func18 rfl rfl rfl fun a hk => ?_
  have hs := Sat.start W [] (fun _ h => by cases h)
  refine wpIn_seq ?_
  refine wpIn_region_lit ?_
  refine q_box (vs := [.int .i64 F, .int .i64 T, .int .i64 N, .int .i64 L]) hk hs rfl rfl rfl rfl fun b1 w a hk hs => ?_
  refine q_val hk (w_as rfl) rfl rfl rfl fun a hk => ?_
  refine q_val hk (w_as rfl) rfl rfl rfl fun a hk => ?_
  refine (c_end (x_t ?_))
  refine wpIn_seq ?_
  refine wpIn_region_lit ?_
  refine q_val hk (w_ldA rfl ty23 (.blk (n := 4) (hs.mi 0 rfl) rfl) rfl) rfl rfl rfl fun a hk => ?_
  refine q_call (caps := []) hk rfl rfl Tryd.func42 fo42 rfl rfl (predict_m F T N L 46 (extendE T N ((cn L : Nat) : Int)) _ (HL.step hs.toBelow) (fun h => by have := hz h; exact Nat.le_trans (extendE_len (by omega) (by omega)) (by omega)) ⟨_, Tryd.func46, fo46, fun h F0 W M R w0 hs => by have := hz h; exact extend_m T N ((cn L : Nat) : Int) w0 hs (by omega) (by omega) (by omega)⟩) ?_
  rintro _ w ⟨a2, k3, c4, rfl, hS⟩
  have hs := hs.call1 hS
  clear hS
  refine ⟨_, rfl, fun a hk => ?_⟩
  refine q_val hk (w_ext rfl rfl) rfl rfl rfl fun a hk => ?_
  refine q_val hk (w_ext rfl rfl) rfl rfl rfl fun a hk => ?_
  refine q_val hk (w_as rfl) rfl rfl rfl fun a hk => ?_
  refine q_val hk (w_as rfl) rfl rfl rfl fun a hk => ?_
  refine (c_end (x_t ?_))
  refine (wpIn_ret ?_)
  refine c_ret2 hk rfl rfl rfl ?_
  have hs := hs.up1
  have hs := hs.drop
  exact ⟨_, _, _, rfl, hs.fin⟩
theorem refSplit21_c (F T N L : Int) (W : World) (h0 : prErr F T N L = 0) : Calls Tryd.prog 21 [.agg #[.int .i64 F, .int .i64 T, .int .i64 N, .int .i64 L]].toArray W fun e w => ∃ la nn c, e = .returned (.slice la nn c) ∧ Sat no W [row 36 3 (.slice la nn c) nn (el ec (splitE T N ((cn L : Nat) : Int)))] [] w := by
  obtain ⟨_, h1, h2, h3, h4, h5, h6⟩ := prErr_zero h0
  have hcn := cn_2115 h6
  refine c_enter (args := [.agg #[.int .i64 F, .int .i64 T, .int .i64 N, .int .i64 L]]) Tryd.func21 rfl rfl rfl fun a hk => ?_
  have hs := Sat.start W [] (fun _ h => by cases h)
  refine wpIn_seq ?_
  refine wpIn_region_lit ?_
  refine q_box (vs := [.int .i64 F, .int .i64 T, .int .i64 N, .int .i64 L]) hk hs rfl rfl rfl rfl fun b1 w a hk hs => ?_
  refine q_val hk (w_as rfl) rfl rfl rfl fun a hk => ?_
  refine (c_end (x_t ?_))
  refine wpIn_seq ?_
  refine wpIn_region_lit ?_
  refine q_val hk (w_ldA rfl ty23 (.blk (n := 4) (hs.mi 0 rfl) rfl) rfl) rfl rfl rfl fun a hk => ?_
  refine q_call (caps := []) hk rfl rfl Tryd.func48 fo48 rfl rfl (refSplit_e F T N L ((cn L : Nat) : Int) _ (by omega) (by omega) (by omega) (by omega) rfl (by omega)) ?_
  rintro _ w ⟨a2, k3, c4, rfl, hS⟩
  have hs := hs.call1 hS
  clear hS
  refine ⟨_, rfl, fun a hk => ?_⟩
  refine q_val hk (w_as rfl) rfl rfl rfl fun a hk => ?_
  refine (c_end (x_t ?_))
  refine (wpIn_ret ?_)
  refine c_ret1 hk rfl rfl ?_
  have hs := hs.up1
  have hs := hs.drop
  exact ⟨_, _, _, rfl, hs.fin⟩
theorem refCombine21_c (F T N L : Int) (W : World) (h0 : prErr F T N L = 0) : Calls Tryd.prog 22 [.agg #[.int .i64 F, .int .i64 T, .int .i64 N, .int .i64 L]].toArray W fun e w => ∃ la nn c, e = .returned (.slice la nn c) ∧ Sat no W [row 36 3 (.slice la nn c) nn (el ec (combineE T 0 ((cn L : Nat) : Int)))] [] w := by
  obtain ⟨_, h1, h2, h3, h4, h5, h6⟩ := prErr_zero h0
  have hcn := cn_2115 h6
  refine c_enter (args := [.agg #[.int .i64 F, .int .i64 T, .int .i64 N, .int .i64 L]]) Tryd.func22 rfl rfl rfl fun a hk => ?_
  have hs := Sat.start W [] (fun _ h => by cases h)
  refine wpIn_seq ?_
  refine wpIn_region_lit ?_
  refine q_box (vs := [.int .i64 F, .int .i64 T, .int .i64 N, .int .i64 L]) hk hs rfl rfl rfl rfl fun b1 w a hk hs => ?_
  refine q_val hk (w_as rfl) rfl rfl rfl fun a hk => ?_
  refine (c_end (x_t ?_))
  refine wpIn_seq ?_
  have hL := okL.cons (hs.mi 0 rfl) okL.nil
  refine d_begin _ 7 (by kernel_rfl) rfl hs hL fun w hs hL => ?_
  refine d_v 0 1 hk hL rfl (by kernel_rfl) rfl rfl (fun w hL => w_fa rfl fq23_1 ty3) fun a hk => ?_
  refine d_v 1 3 hk hL rfl (by kernel_rfl) rfl rfl (fun w hL => w_ld1 rfl ty3 (.blk (n := 1) (hL.at 0 rfl) rfl)) fun a hk => ?_
  refine d_v 2 7 hk hL rfl (by kernel_rfl) rfl rfl (fun w hL => w_fa rfl fq23_3 ty3) fun a hk => ?_
  refine d_v 3 15 hk hL rfl (by kernel_rfl) rfl rfl (fun w hL => w_ld1 rfl ty3 (.blk (n := 1) (hL.at 0 rfl) rfl)) fun a hk => ?_
  refine d_1 4 31 rfl (by kernel_rfl) fun K hK => ?_
  refine q_call (caps := []) hk rfl rfl Tryd.func31 fo31 rfl rfl (refCount_c L (by omega) _) ?_
  rintro _ _ ⟨rfl, rfl⟩
  refine ⟨_, rfl, fun a hk => ?_⟩
  have hL := okL.cons (hs.mi 0 rfl) okL.nil
  refine c_end (x_t (hK _ _ hL ?_))
  clear hK K
  refine d_1 5 63 rfl (by kernel_rfl) fun K hK => ?_
  refine q_call (caps := []) hk rfl rfl Tryd.func49 fo49 rfl rfl (refEvents_e T ((cn L : Nat) : Int) _ (by omega) (by omega) (by omega)) ?_
  rintro _ w ⟨a1_5, k1_5b, c1_5c, rfl, hS⟩
  have hs := hs.call1 hS
  clear hS
  refine ⟨_, rfl, fun a hk => ?_⟩
  have hL := okL.cons (hs.mi 1 rfl) okL.nil
  refine c_end (x_t (hK _ _ hL ?_))
  clear hK K
  refine d_v 6 127 hk hL rfl (by kernel_rfl) rfl rfl (fun w hL => w_as rfl) fun a hk => ?_
  refine d_end (by kernel_rfl) ?_
  refine (x_t ?_)
  refine (wpIn_ret ?_)
  refine c_ret1 hk rfl rfl ?_
  have hs := hs.up1
  have hs := hs.drop
  exact ⟨_, _, _, rfl, hs.fin⟩
theorem refCheck21_c (F T N L : Int) (W : World) (h0 : prErr F T N L = 0) : Calls Tryd.prog 23 [.agg #[.int .i64 F, .int .i64 T, .int .i64 N, .int .i64 L]].toArray W fun e w => ∃ la nn c, e = .returned (.slice la nn c) ∧ Sat no W [row 36 3 (.slice la nn c) nn (el ec (checkE T N ((cn L : Nat) : Int)))] [] w := by
  obtain ⟨_, h1, h2, h3, h4, h5, h6⟩ := prErr_zero h0
  have hcn := cn_2115 h6
  refine c_enter (args := [.agg #[.int .i64 F, .int .i64 T, .int .i64 N, .int .i64 L]]) Tryd.func23 rfl rfl rfl fun a hk => ?_
  have hs := Sat.start W [] (fun _ h => by cases h)
  refine wpIn_seq ?_
  refine wpIn_region_lit ?_
  refine q_box (vs := [.int .i64 F, .int .i64 T, .int .i64 N, .int .i64 L]) hk hs rfl rfl rfl rfl fun b1 w a hk hs => ?_
  refine q_val hk (w_as rfl) rfl rfl rfl fun a hk => ?_
  refine (c_end (x_t ?_))
  refine wpIn_seq ?_
  have hL := okL.cons (hs.mi 0 rfl) okL.nil
  refine d_begin _ 9 (by kernel_rfl) rfl hs hL fun w hs hL => ?_
  refine d_v 0 1 hk hL rfl (by kernel_rfl) rfl rfl (fun w hL => w_fa rfl fq23_2 ty3) fun a hk => ?_
  refine d_v 1 3 hk hL rfl (by kernel_rfl) rfl rfl (fun w hL => w_ld1 rfl ty3 (.blk (n := 1) (hL.at 0 rfl) rfl)) fun a hk => ?_
  refine d_v 2 7 hk hL rfl (by kernel_rfl) rfl rfl (fun w hL => w_fa rfl fq23_1 ty3) fun a hk => ?_
  refine d_v 3 15 hk hL rfl (by kernel_rfl) rfl rfl (fun w hL => w_ld1 rfl ty3 (.blk (n := 1) (hL.at 0 rfl) rfl)) fun a hk => ?_
  refine d_v 4 31 hk hL rfl (by kernel_rfl) rfl rfl (fun w hL => w_fa rfl fq23_3 ty3) fun a hk => ?_
  refine d_v 5 63 hk hL rfl (by kernel_rfl) rfl rfl (fun w hL => w_ld1 rfl ty3 (.blk (n := 1) (hL.at 0 rfl) rfl)) fun a hk => ?_
  refine d_1 6 127 rfl (by kernel_rfl) fun K hK => ?_
  refine q_call (caps := []) hk rfl rfl Tryd.func31 fo31 rfl rfl (refCount_c L (by omega) _) ?_
  rintro _ _ ⟨rfl, rfl⟩
  refine ⟨_, rfl, fun a hk => ?_⟩
  have hL := okL.cons (hs.mi 0 rfl) okL.nil
  refine c_end (x_t (hK _ _ hL ?_))
  clear hK K
  refine d_1 7 255 rfl (by kernel_rfl) fun K hK => ?_
  refine q_call (caps := []) hk rfl rfl Tryd.func50 fo50 rfl rfl (refAll_e N T ((cn L : Nat) : Int) _ (by omega) (by omega) (by omega) (by omega)) ?_
  rintro _ w ⟨a1_7, k1_7b, c1_7c, rfl, hS⟩
  have hs := hs.call1 hS
  clear hS
  refine ⟨_, rfl, fun a hk => ?_⟩
  have hL := okL.cons (hs.mi 1 rfl) okL.nil
  refine c_end (x_t (hK _ _ hL ?_))
  clear hK K
  refine d_v 8 511 hk hL rfl (by kernel_rfl) rfl rfl (fun w hL => w_as rfl) fun a hk => ?_
  refine d_end (by kernel_rfl) ?_
  refine (x_t ?_)
  refine (wpIn_ret ?_)
  refine c_ret1 hk rfl rfl ?_
  have hs := hs.up1
  have hs := hs.drop
  exact ⟨_, _, _, rfl, hs.fin⟩
theorem refExtend21_c (F T N L : Int) (W : World) (h0 : prErr F T N L = 0) : Calls Tryd.prog 24 [.agg #[.int .i64 F, .int .i64 T, .int .i64 N, .int .i64 L]].toArray W fun e w => ∃ la nn c, e = .returned (.slice la nn c) ∧ Sat no W [row 36 3 (.slice la nn c) nn (el ec (extendE T 0 ((cn L : Nat) : Int)))] [] w := by
  obtain ⟨_, h1, h2, h3, h4, h5, h6⟩ := prErr_zero h0
  have hcn := cn_2115 h6
  refine c_enter (args := [.agg #[.int .i64 F, .int .i64 T, .int .i64 N, .int .i64 L]]) Tryd.func24 rfl rfl rfl fun a hk => ?_
  have hs := Sat.start W [] (fun _ h => by cases h)
  refine wpIn_seq ?_
  refine wpIn_region_lit ?_
  refine q_box (vs := [.int .i64 F, .int .i64 T, .int .i64 N, .int .i64 L]) hk hs rfl rfl rfl rfl fun b1 w a hk hs => ?_
  refine q_val hk (w_as rfl) rfl rfl rfl fun a hk => ?_
  refine (c_end (x_t ?_))
  refine wpIn_seq ?_
  have hL := okL.cons (hs.mi 0 rfl) okL.nil
  refine d_begin _ 7 (by kernel_rfl) rfl hs hL fun w hs hL => ?_
  refine d_v 0 1 hk hL rfl (by kernel_rfl) rfl rfl (fun w hL => w_fa rfl fq23_1 ty3) fun a hk => ?_
  refine d_v 1 3 hk hL rfl (by kernel_rfl) rfl rfl (fun w hL => w_ld1 rfl ty3 (.blk (n := 1) (hL.at 0 rfl) rfl)) fun a hk => ?_
  refine d_v 2 7 hk hL rfl (by kernel_rfl) rfl rfl (fun w hL => w_fa rfl fq23_3 ty3) fun a hk => ?_
  refine d_v 3 15 hk hL rfl (by kernel_rfl) rfl rfl (fun w hL => w_ld1 rfl ty3 (.blk (n := 1) (hL.at 0 rfl) rfl)) fun a hk => ?_
  refine d_1 4 31 rfl (by kernel_rfl) fun K hK => ?_
  refine q_call (caps := []) hk rfl rfl Tryd.func31 fo31 rfl rfl (refCount_c L (by omega) _) ?_
  rintro _ _ ⟨rfl, rfl⟩
  refine ⟨_, rfl, fun a hk => ?_⟩
  have hL := okL.cons (hs.mi 0 rfl) okL.nil
  refine c_end (x_t (hK _ _ hL ?_))
  clear hK K
  refine d_1 5 63 rfl (by kernel_rfl) fun K hK => ?_
  refine q_call (caps := []) hk rfl rfl Tryd.func51 fo51 rfl rfl (refAt_e T ((cn L : Nat) : Int) _ (by omega) (by omega) (by omega)) ?_
  rintro _ w ⟨a1_5, k1_5b, c1_5c, rfl, hS⟩
  have hs := hs.call1 hS
  clear hS
  refine ⟨_, rfl, fun a hk => ?_⟩
  have hL := okL.cons (hs.mi 1 rfl) okL.nil
  refine c_end (x_t (hK _ _ hL ?_))
  clear hK K
  refine d_v 6 127 hk hL rfl (by kernel_rfl) rfl rfl (fun w hL => w_as rfl) fun a hk => ?_
  refine d_end (by kernel_rfl) ?_
  refine (x_t ?_)
  refine (wpIn_ret ?_)
  refine c_ret1 hk rfl rfl ?_
  have hs := hs.up1
  have hs := hs.drop
  exact ⟨_, _, _, rfl, hs.fin⟩
theorem small_c (F T N L : Int) (W : World)  : Calls Tryd.prog 13 [.agg #[.int .i64 F, .int .i64 T, .int .i64 N, .int .i64 L]].toArray W fun e w => ∃ y : Bool, e = .returned (.bool y) ∧ Below W.heap.size W w := by
  refine c_enter (args := [.agg #[.int .i64 F, .int .i64 T, .int .i64 N, .int .i64 L]]) Tryd.func13 rfl rfl rfl fun a hk => ?_
  have hs := Sat.start W [] (fun _ h => by cases h)
  refine wpIn_seq ?_
  refine wpIn_region_lit ?_
  refine q_box (vs := [.int .i64 F, .int .i64 T, .int .i64 N, .int .i64 L]) hk hs rfl rfl rfl rfl fun b1 w a hk hs => ?_
  refine q_val hk (w_as rfl) rfl rfl rfl fun a hk => ?_
  refine (c_end (x_t ?_))
  refine wpIn_seq ?_
  refine wpIn_region_lit ?_
  refine q_val hk (w_fa rfl fq23_2 ty3) rfl rfl rfl fun a hk => ?_
  refine q_val hk (w_ld1 rfl ty3 (.blk (n := 1) (hs.mi 0 rfl) rfl)) rfl rfl rfl fun a hk => ?_
  rcases Classical.em (N ≤ 20) with hc2 | hc2
  · skip
    refine q_val hk (w_le rfl rfl (decide_eq_true hc2)) rfl rfl rfl fun a hk => ?_
    refine q_val hk (w_mv rfl) rfl rfl rfl fun a hk => ?_
    refine q_val hk (w_fa rfl fq23_3 ty3) rfl rfl rfl fun a hk => ?_
    refine q_val hk (w_ld1 rfl ty3 (.blk (n := 1) (hs.mi 0 rfl) rfl)) rfl rfl rfl fun a hk => ?_
    rcases Classical.em (L ≤ 200) with hc3 | hc3
    · skip
      refine q_val hk (w_le rfl rfl (decide_eq_true hc3)) rfl rfl rfl fun a hk => ?_
      refine q_val hk (w_pickT rfl rfl) rfl rfl rfl fun a hk => ?_
      refine q_val hk (w_mv rfl) rfl rfl rfl fun a hk => ?_
      refine q_skip hk rfl rfl fun a hk => ?_
      refine q_skip hk rfl rfl fun a hk => ?_
      refine q_skip hk rfl rfl fun a hk => ?_
      refine q_skip hk rfl rfl fun a hk => ?_
      refine q_skip hk rfl rfl fun a hk => ?_
      refine q_skip hk rfl rfl fun a hk => ?_
      refine q_skip hk rfl rfl fun a hk => ?_
      refine q_skip hk rfl rfl fun a hk => ?_
      refine q_val hk (w_pickT rfl rfl) rfl rfl rfl fun a hk => ?_
      refine q_val hk (w_as rfl) rfl rfl rfl fun a hk => ?_
      refine (c_end (x_t ?_))
      refine (wpIn_ret ?_)
      refine c_ret1 hk rfl rfl ?_
      exact ⟨_, rfl, hs.toBelow⟩
    · skip
      refine q_val hk (w_le rfl rfl (decide_eq_false hc3)) rfl rfl rfl fun a hk => ?_
      refine q_val hk (w_pickT rfl rfl) rfl rfl rfl fun a hk => ?_
      refine q_val hk (w_mv rfl) rfl rfl rfl fun a hk => ?_
      refine q_val hk (w_fa rfl fq23_2 ty3) rfl rfl rfl fun a hk => ?_
      refine q_val hk (w_ld1 rfl ty3 (.blk (n := 1) (hs.mi 0 rfl) rfl)) rfl rfl rfl fun a hk => ?_
      rcases Classical.em (N ≤ 40) with hc4 | hc4
      · skip
        refine q_val hk (w_le rfl rfl (decide_eq_true hc4)) rfl rfl rfl fun a hk => ?_
        refine q_val hk (w_mv rfl) rfl rfl rfl fun a hk => ?_
        refine q_val hk (w_fa rfl fq23_3 ty3) rfl rfl rfl fun a hk => ?_
        refine q_val hk (w_ld1 rfl ty3 (.blk (n := 1) (hs.mi 0 rfl) rfl)) rfl rfl rfl fun a hk => ?_
        rcases Classical.em (L ≤ 31) with hc5 | hc5
        · skip
          refine q_val hk (w_le rfl rfl (decide_eq_true hc5)) rfl rfl rfl fun a hk => ?_
          refine q_val hk (w_pickT rfl rfl) rfl rfl rfl fun a hk => ?_
          refine q_val hk (w_pickF rfl rfl) rfl rfl rfl fun a hk => ?_
          refine q_val hk (w_as rfl) rfl rfl rfl fun a hk => ?_
          refine (c_end (x_t ?_))
          refine (wpIn_ret ?_)
          refine c_ret1 hk rfl rfl ?_
          exact ⟨_, rfl, hs.toBelow⟩
        · skip
          refine q_val hk (w_le rfl rfl (decide_eq_false hc5)) rfl rfl rfl fun a hk => ?_
          refine q_val hk (w_pickT rfl rfl) rfl rfl rfl fun a hk => ?_
          refine q_val hk (w_pickF rfl rfl) rfl rfl rfl fun a hk => ?_
          refine q_val hk (w_as rfl) rfl rfl rfl fun a hk => ?_
          refine (c_end (x_t ?_))
          refine (wpIn_ret ?_)
          refine c_ret1 hk rfl rfl ?_
          exact ⟨_, rfl, hs.toBelow⟩
      · skip
        refine q_val hk (w_le rfl rfl (decide_eq_false hc4)) rfl rfl rfl fun a hk => ?_
        refine q_val hk (w_mv rfl) rfl rfl rfl fun a hk => ?_
        refine q_skip hk rfl rfl fun a hk => ?_
        refine q_skip hk rfl rfl fun a hk => ?_
        refine q_skip hk rfl rfl fun a hk => ?_
        refine q_val hk (w_pickF rfl rfl) rfl rfl rfl fun a hk => ?_
        refine q_val hk (w_pickF rfl rfl) rfl rfl rfl fun a hk => ?_
        refine q_val hk (w_as rfl) rfl rfl rfl fun a hk => ?_
        refine (c_end (x_t ?_))
        refine (wpIn_ret ?_)
        refine c_ret1 hk rfl rfl ?_
        exact ⟨_, rfl, hs.toBelow⟩
  · skip
    refine q_val hk (w_le rfl rfl (decide_eq_false hc2)) rfl rfl rfl fun a hk => ?_
    refine q_val hk (w_mv rfl) rfl rfl rfl fun a hk => ?_
    refine q_skip hk rfl rfl fun a hk => ?_
    refine q_skip hk rfl rfl fun a hk => ?_
    refine q_skip hk rfl rfl fun a hk => ?_
    refine q_val hk (w_pickF rfl rfl) rfl rfl rfl fun a hk => ?_
    refine q_val hk (w_mv rfl) rfl rfl rfl fun a hk => ?_
    refine q_val hk (w_fa rfl fq23_2 ty3) rfl rfl rfl fun a hk => ?_
    refine q_val hk (w_ld1 rfl ty3 (.blk (n := 1) (hs.mi 0 rfl) rfl)) rfl rfl rfl fun a hk => ?_
    rcases Classical.em (N ≤ 40) with hc6 | hc6
    · skip
      refine q_val hk (w_le rfl rfl (decide_eq_true hc6)) rfl rfl rfl fun a hk => ?_
      refine q_val hk (w_mv rfl) rfl rfl rfl fun a hk => ?_
      refine q_val hk (w_fa rfl fq23_3 ty3) rfl rfl rfl fun a hk => ?_
      refine q_val hk (w_ld1 rfl ty3 (.blk (n := 1) (hs.mi 0 rfl) rfl)) rfl rfl rfl fun a hk => ?_
      rcases Classical.em (L ≤ 31) with hc7 | hc7
      · skip
        refine q_val hk (w_le rfl rfl (decide_eq_true hc7)) rfl rfl rfl fun a hk => ?_
        refine q_val hk (w_pickT rfl rfl) rfl rfl rfl fun a hk => ?_
        refine q_val hk (w_pickF rfl rfl) rfl rfl rfl fun a hk => ?_
        refine q_val hk (w_as rfl) rfl rfl rfl fun a hk => ?_
        refine (c_end (x_t ?_))
        refine (wpIn_ret ?_)
        refine c_ret1 hk rfl rfl ?_
        exact ⟨_, rfl, hs.toBelow⟩
      · skip
        refine q_val hk (w_le rfl rfl (decide_eq_false hc7)) rfl rfl rfl fun a hk => ?_
        refine q_val hk (w_pickT rfl rfl) rfl rfl rfl fun a hk => ?_
        refine q_val hk (w_pickF rfl rfl) rfl rfl rfl fun a hk => ?_
        refine q_val hk (w_as rfl) rfl rfl rfl fun a hk => ?_
        refine (c_end (x_t ?_))
        refine (wpIn_ret ?_)
        refine c_ret1 hk rfl rfl ?_
        exact ⟨_, rfl, hs.toBelow⟩
    · skip
      refine q_val hk (w_le rfl rfl (decide_eq_false hc6)) rfl rfl rfl fun a hk => ?_
      refine q_val hk (w_mv rfl) rfl rfl rfl fun a hk => ?_
      refine q_skip hk rfl rfl fun a hk => ?_
      refine q_skip hk rfl rfl fun a hk => ?_
      refine q_skip hk rfl rfl fun a hk => ?_
      refine q_val hk (w_pickF rfl rfl) rfl rfl rfl fun a hk => ?_
      refine q_val hk (w_pickF rfl rfl) rfl rfl rfl fun a hk => ?_
      refine q_val hk (w_as rfl) rfl rfl rfl fun a hk => ?_
      refine (c_end (x_t ?_))
      refine (wpIn_ret ?_)
      refine c_ret1 hk rfl rfl ?_
      exact ⟨_, rfl, hs.toBelow⟩
theorem compare_s {F0 : Nat → Prop} {W : World} {M R : List Res} (b tlc n lc : Nat) (tla la : Option Addr) (ps : List Nat) (evs l : List Ev) (w0 : World) (hs : Sat F0 W ((tapeR b tla tlc ps evs) :: M) R w0) (hps : ps.length = (evs.length + 63) / 64) (hn : evs.length ≤ 1000000000000) (hl : HasR (lst 3 (.slice la n lc) n (el ec l)) R) (he : l.length ≤ 1000000000) : Calls Tryd.prog 27 [.pointer (some ⟨b, 0, none⟩), .slice la n lc].toArray w0 fun e w => e = .returned (.int .i64 (firstE evs l)) ∧ Sat F0 W (tapeR b tla tlc ps evs :: M) R w := by
  have e1 : n = l.length := by have h := (hl.at_ hs).len; rw [el_len ec_len] at h; omega
  refine c_enter (args := [.pointer (some ⟨b, 0, none⟩), .slice la n lc]) Tryd.func27 rfl rfl rfl fun a hk => ?_
  refine wpIn_seq ?_
  refine wpIn_region_lit ?_
  refine q_val hk (w_as rfl) rfl rfl rfl fun a hk => ?_
  refine (c_end (x_t ?_))
  refine wpIn_seq ?_
  refine wpIn_region_lit ?_
  refine q_call (caps := []) hk rfl rfl Tryd.func25 fo25 rfl rfl (newTape_m _ hs) ?_
  rintro _ w ⟨b1, r2, rfl, ht3, hs⟩
  have hu : TapeIs (some b1) (l.take 0) r2 := ht3
  refine ⟨_, rfl, fun a hk => ?_⟩
  refine q_val hk (w_as rfl) rfl rfl rfl fun a hk => ?_
  refine (c_end (x_t ?_))
  refine wpIn_seq ?_
  refine wpIn_seq ?_
  refine wpIn_region_lit ?_
  refine q_val hk (w_mv rfl) rfl rfl rfl fun a hk => ?_
  refine q_val hk (w_len rfl Tryd.underlying26) rfl rfl rfl fun a hk => ?_
  refine q_val hk (w_mv rfl) rfl rfl rfl fun a hk => ?_
  refine (c_end (x_t ?_))
  refine wpIn_block ?_
  refine c_loop (α := Nat) (fun k a w => ∃ (r : Res), k ≤ n ∧ TapeIs (some b1) (l.take k) r ∧ Kn [] 27 [(11, .int .i64 (k : Int)), (10, .int .i64 ((n : Nat) : Int)), (9, .slice la n lc), (5, .pointer (some ⟨b1, 0, none⟩)), (4, .int .i64 0), (0, .pointer (some ⟨b, 0, none⟩))] a ∧ Sat F0 W (r :: (tapeR b tla tlc ps evs) :: M) R w) (fun k => n - k) 0 ?_ ?_
  · exact ⟨_, (by omega), hu, hk.k rfl (hk.k rfl (hk.k rfl (hk.k rfl (hk.k rfl (hk.k rfl hk.nil))))), hs⟩
  rintro k a w ⟨r, hf0, hf1, hk, hs⟩
  have hu := hf1
  refine wpIn_seq ?_
  refine wpIn_region_lit ?_
  rcases Classical.em ((k : Int) < ((n : Nat) : Int)) with hc4 | hc4
  · skip
    refine q_val hk (w_lt rfl rfl (decide_eq_true hc4)) rfl rfl rfl fun a hk => ?_
    refine (c_end (x_t ?_))
    refine wpIn_seq ?_
    refine c_T hk rfl ?_
    refine (wpIn_skip (x_t ?_))
    refine wpIn_seq ?_
    refine wpIn_block ?_
    refine wpIn_seq ?_
    refine wpIn_region_lit ?_
    refine q_val hk (w_iaL (k := k) rfl rfl Tryd.underlying26 ty36 (hl.at_ hs) (by omega) (by omega)) rfl rfl rfl fun a hk => ?_
    refine q_val hk (w_ldA rfl ty36 (lstq (k := k) (hl.at_ hs) (by omega) (el_chunk ec_len (by omega) (0, 0, 0))) rfl) rfl rfl rfl fun a hk => ?_
    refine q_alc (vs := [.int .i64 0, .int .i64 0, .int .i64 0]) hk hs zr36 rfl rfl rfl fun b5 w a hk hs => ?_
    refine q_sto (o := 0) (cs := [.int .i64 (((l.getD k (0, 0, 0))).1), .int .i64 (((l.getD k (0, 0, 0))).2.1), .int .i64 (((l.getD k (0, 0, 0))).2.2)]) (vs' := [.int .i64 (((l.getD k (0, 0, 0))).1), .int .i64 (((l.getD k (0, 0, 0))).2.1), .int .i64 (((l.getD k (0, 0, 0))).2.2)]) hk hs rfl rfl rfl ty36 rfl rfl rfl rfl rfl rfl fun w hs => ?_
    refine (c_end (x_t ?_))
    refine wpIn_region_lit ?_
    refine q_val hk (w_mv rfl) rfl rfl rfl fun a hk => ?_
    refine q_val hk (w_fa rfl fq36_0 ty3) rfl rfl rfl fun a hk => ?_
    refine q_val hk (w_ld1 rfl ty3 (.blk (n := 1) (hs.mi 0 rfl) rfl)) rfl rfl rfl fun a hk => ?_
    refine q_val hk (w_fa rfl fq36_1 ty3) rfl rfl rfl fun a hk => ?_
    refine q_val hk (w_ld1 rfl ty3 (.blk (n := 1) (hs.mi 0 rfl) rfl)) rfl rfl rfl fun a hk => ?_
    refine q_val hk (w_fa rfl fq36_2 ty3) rfl rfl rfl fun a hk => ?_
    refine q_val hk (w_ld1 rfl ty3 (.blk (n := 1) (hs.mi 0 rfl) rfl)) rfl rfl rfl fun a hk => ?_
    have hs := hs.up1
    refine q_call (caps := []) hk rfl rfl Tryd.func26 fo26 rfl rfl (note_m (some b1) (((l.getD k (0, 0, 0))).1) (((l.getD k (0, 0, 0))).2.1) (((l.getD k (0, 0, 0))).2.2) (l.take k) _ _ hu hs (by rw [List.length_take]; omega)) ?_
    rintro _ w ⟨v6, r7, rfl, ht8, hs⟩
    have hu := ht8
    refine ⟨_, rfl, fun a hk => ?_⟩
    refine (c_end (x_b (x_t ?_)))
    refine wpIn_region_lit ?_
    refine q_val hk (w_add rfl rfl (wr64 (by omega) (by omega))) rfl rfl rfl fun a hk => ?_
    refine q_val hk (w_mv rfl) rfl rfl rfl fun a hk => ?_
    refine (c_end (x_t ?_))
    have hs := hs.up1
    have hs := hs.drop
    exact ⟨k + 1, ⟨_, (by omega), (by rw [← take_snoc (getD_some (d := evz) (by omega))]; exact hu), hk.k rfl (hk.k rfl (hk.k rfl (hk.k rfl (hk.k rfl (hk.k rfl hk.nil))))), hs⟩, by omega⟩
  · skip
    rw [List.take_of_length_le (by omega)] at hu
    obtain ⟨ula, ulc, ups, hups, rfl⟩ := hu
    have hs := hs.up1
    refine q_val hk (w_lt rfl rfl (decide_eq_false hc4)) rfl rfl rfl fun a hk => ?_
    refine (c_end (x_t ?_))
    refine wpIn_seq ?_
    refine c_F hk rfl ?_
    refine (wpIn_exit (x_te (x_te (x_be ?_))))
    refine (x_t ?_)
    refine wpIn_seq ?_
    refine wpIn_region_lit ?_
    refine q_val hk (w_mv rfl) rfl rfl rfl fun a hk => ?_
    refine q_val hk (w_mv rfl) rfl rfl rfl fun a hk => ?_
    refine q_call (caps := []) hk rfl rfl Tryd.func53 fo53 rfl rfl (tfirst_c b b1 tlc ulc tla ula ps ups evs l _ (hs.mi 0 rfl) (hs.mi 1 rfl) hps hups hn (Nat.le_trans he (by omega))) ?_
    rintro _ w ⟨rfl, hb⟩
    have hs := hs.below hb
    refine ⟨_, rfl, fun a hk => ?_⟩
    refine q_val hk (w_as rfl) rfl rfl rfl fun a hk => ?_
    refine (c_end (x_t ?_))
    refine (wpIn_ret ?_)
    refine c_ret1 hk rfl rfl ?_
    have hs := hs.up1
    have hs := hs.drop
    exact ⟨rfl, hs⟩
theorem al_split : (if prErr 1 1 1 1 = 0 then splitE 1 1 ((cn 1 : Nat) : Int) else []) = [(5, 1, 0), (4, 0, 0), (2, 0, 0)] := by decide +kernel
theorem al_combine : 0 < (if prErr 1 1 1 1 = 0 then combineE 1 1 ((cn 1 : Nat) : Int) else []).length := by decide +kernel
theorem al_check : 0 < (if prErr 1 1 1 1 = 0 then checkE 1 1 ((cn 1 : Nat) : Int) else []).length := by decide +kernel
theorem al_extend : 0 < (if prErr 1 1 1 1 = 0 then extendE 1 1 ((cn 1 : Nat) : Int) else []).length := by decide +kernel
theorem alive21_c  (W : World) (HL : Laid W) : Calls Tryd.prog 14 [].toArray W fun e w => e = .returned (.bool true) ∧ Below W.heap.size W w := by
  refine c_enter (args := []) Tryd.func14 rfl rfl rfl fun a hk => ?_
  have hs := Sat.start W [] (fun _ h => by cases h)
  refine wpIn_seq ?_
  refine wpIn_region_lit ?_
  refine q_val hk (w_as rfl) rfl rfl rfl fun a hk => ?_
  refine (c_end (x_t ?_))
  refine wpIn_seq ?_
  refine wpIn_region_lit ?_
  refine q_val hk (w_bld rfl fl23 zr23 rfl rfl) rfl rfl rfl fun a hk => ?_
  refine q_alc (vs := [.int .i64 0, .int .i64 0, .int .i64 0, .int .i64 0]) hk hs zr23 rfl rfl rfl fun b1 w a hk hs => ?_
  refine q_sto (o := 0) (cs := [.int .i64 1, .int .i64 1, .int .i64 1, .int .i64 1]) (vs' := [.int .i64 1, .int .i64 1, .int .i64 1, .int .i64 1]) hk hs rfl rfl rfl ty23 rfl rfl rfl rfl rfl rfl fun w hs => ?_
  refine (c_end (x_t ?_))
  refine wpIn_seq ?_
  refine wpIn_region_lit ?_
  refine q_val hk (w_ldA rfl ty23 (.blk (n := 4) (hs.mi 0 rfl) rfl) rfl) rfl rfl rfl fun a hk => ?_
  refine q_call (caps := []) hk rfl rfl Tryd.func15 fo15 rfl rfl (modelSplit_c 1 1 1 1 _ (HL.step hs.toBelow)) ?_
  rintro _ w ⟨a2, k3, c4, rfl, hS⟩
  have hs := hs.call1 hS
  clear hS
  refine ⟨_, rfl, fun a hk => ?_⟩
  refine q_val hk (w_mv rfl) rfl rfl rfl fun a hk => ?_
  refine q_val hk (w_ext rfl rfl) rfl rfl rfl fun a hk => ?_
  refine q_val hk (w_ext rfl rfl) rfl rfl rfl fun a hk => ?_
  refine q_val hk (w_as rfl) rfl rfl rfl fun a hk => ?_
  refine q_val hk (w_as rfl) rfl rfl rfl fun a hk => ?_
  refine (c_end (x_t ?_))
  refine wpIn_seq ?_
  refine wpIn_region_lit ?_
  refine q_val hk (w_ldA rfl ty23 (.blk (n := 4) (hs.mi 1 rfl) rfl) rfl) rfl rfl rfl fun a hk => ?_
  refine q_call (caps := []) hk rfl rfl Tryd.func16 fo16 rfl rfl (modelCombine_c 1 1 1 1 _ (HL.step hs.toBelow)) ?_
  rintro _ w ⟨a5, k6, c7, rfl, hS⟩
  have hs := hs.call1 hS
  clear hS
  refine ⟨_, rfl, fun a hk => ?_⟩
  refine q_val hk (w_mv rfl) rfl rfl rfl fun a hk => ?_
  refine q_val hk (w_ext rfl rfl) rfl rfl rfl fun a hk => ?_
  refine q_val hk (w_ext rfl rfl) rfl rfl rfl fun a hk => ?_
  refine q_val hk (w_as rfl) rfl rfl rfl fun a hk => ?_
  refine q_val hk (w_as rfl) rfl rfl rfl fun a hk => ?_
  refine (c_end (x_t ?_))
  refine wpIn_seq ?_
  refine wpIn_region_lit ?_
  refine q_val hk (w_ldA rfl ty23 (.blk (n := 4) (hs.mi 2 rfl) rfl) rfl) rfl rfl rfl fun a hk => ?_
  refine q_call (caps := []) hk rfl rfl Tryd.func17 fo17 rfl rfl (modelCheck_c 1 1 1 1 _ (HL.step hs.toBelow)) ?_
  rintro _ w ⟨a8, k9, c10, rfl, hS⟩
  have hs := hs.call1 hS
  clear hS
  refine ⟨_, rfl, fun a hk => ?_⟩
  refine q_val hk (w_mv rfl) rfl rfl rfl fun a hk => ?_
  refine q_val hk (w_ext rfl rfl) rfl rfl rfl fun a hk => ?_
  refine q_val hk (w_ext rfl rfl) rfl rfl rfl fun a hk => ?_
  refine q_val hk (w_as rfl) rfl rfl rfl fun a hk => ?_
  refine q_val hk (w_as rfl) rfl rfl rfl fun a hk => ?_
  refine (c_end (x_t ?_))
  refine wpIn_seq ?_
  refine wpIn_region_lit ?_
  refine q_val hk (w_ldA rfl ty23 (.blk (n := 4) (hs.mi 3 rfl) rfl) rfl) rfl rfl rfl fun a hk => ?_
  refine q_call (caps := []) hk rfl rfl Tryd.func18 fo18 rfl rfl (modelExtend_c 1 1 1 1 _ (HL.step hs.toBelow)) ?_
  rintro _ w ⟨a11, k12, c13, rfl, hS⟩
  have hs := hs.call1 hS
  clear hS
  refine ⟨_, rfl, fun a hk => ?_⟩
  refine q_val hk (w_mv rfl) rfl rfl rfl fun a hk => ?_
  refine q_val hk (w_ext rfl rfl) rfl rfl rfl fun a hk => ?_
  refine q_val hk (w_ext rfl rfl) rfl rfl rfl fun a hk => ?_
  refine q_val hk (w_as rfl) rfl rfl rfl fun a hk => ?_
  refine q_val hk (w_as rfl) rfl rfl rfl fun a hk => ?_
  refine (c_end (x_t ?_))
  refine wpIn_seq ?_
  refine wpIn_region_lit ?_
  refine q_val hk (w_bld rfl fl23 zr23 rfl rfl) rfl rfl rfl fun a hk => ?_
  refine q_call (caps := []) hk rfl rfl Tryd.func15 fo15 rfl rfl (modelSplit_c 0 0 0 0 _ (HL.step hs.toBelow)) ?_
  rintro _ w ⟨a14, k15, c16, rfl, hS⟩
  have hs := hs.call1 hS
  clear hS
  refine ⟨_, rfl, fun a hk => ?_⟩
  refine q_val hk (w_mv rfl) rfl rfl rfl fun a hk => ?_
  refine q_val hk (w_ext rfl rfl) rfl rfl rfl fun a hk => ?_
  refine q_val hk (w_ext rfl rfl) rfl rfl rfl fun a hk => ?_
  refine q_val hk (w_as rfl) rfl rfl rfl fun a hk => ?_
  refine q_val hk (w_as rfl) rfl rfl rfl fun a hk => ?_
  refine (c_end (x_t ?_))
  refine wpIn_seq ?_
  have hnlk15 := row_cnt (hs.mi 0 rfl)
  have hnlk12 := row_cnt (hs.mi 1 rfl)
  have hnlk9 := row_cnt (hs.mi 2 rfl)
  have hnlk6 := row_cnt (hs.mi 3 rfl)
  have hnlk3 := row_cnt (hs.mi 4 rfl)
  have q0 : (if prErr 1 1 1 1 = 0 then splitE 1 1 ((cn 1 : Nat) : Int) else []).length = 3 := by rw [al_split]; rfl
  have qcombine := al_combine
  have qcheck := al_check
  have qextend := al_extend
  refine wpIn_region_lit ?_
  refine q_val hk (w_mv rfl) rfl rfl rfl fun a hk => ?_
  refine q_val hk (w_eq rfl rfl (decide_eq_true (by decide))) rfl rfl rfl fun a hk => ?_
  refine q_val hk (w_mv rfl) rfl rfl rfl fun a hk => ?_
  refine q_val hk (w_mv rfl) rfl rfl rfl fun a hk => ?_
  refine q_val hk (w_bld rfl fl36 zr36 rfl rfl) rfl rfl rfl fun a hk => ?_
  refine q_val hk (w_bld rfl fl36 zr36 rfl rfl) rfl rfl rfl fun a hk => ?_
  refine q_val hk (w_bld rfl fl36 zr36 rfl rfl) rfl rfl rfl fun a hk => ?_
  refine q_bsl (els := [.tmp 42, .tmp 43, .tmp 44]) (cs := [.int .i64 5, .int .i64 1, .int .i64 0, .int .i64 4, .int .i64 0, .int .i64 0, .int .i64 2, .int .i64 0, .int .i64 0]) hk hs rfl Tryd.underlying26 ty36 zr36 rfl rfl rfl rfl rfl rfl rfl fun b17 w a hk hs => ?_
  refine q_call (caps := []) hk rfl rfl Tryd.func20 fo20 rfl rfl (refSame_c _ _ _ _ _ _ (if prErr 1 1 1 1 = 0 then splitE 1 1 ((cn 1 : Nat) : Int) else []) ([(5, 1, 0), (4, 0, 0), (2, 0, 0)]) _ (row_lst (hs.mi 5 rfl)) (blk_lst (hs.mi 0 rfl) rfl (Nat.le_refl _)) (by omega) (by decide)) ?_
  rintro _ w ⟨he, hb⟩
  rw [show decide ((if prErr 1 1 1 1 = 0 then splitE 1 1 ((cn 1 : Nat) : Int) else []) = ([(5, 1, 0), (4, 0, 0), (2, 0, 0)])) = true from decide_eq_true (al_split)] at he
  subst he
  have hs := hs.below hb
  refine ⟨_, rfl, fun a hk => ?_⟩
  refine q_val hk (w_pickT rfl rfl) rfl rfl rfl fun a hk => ?_
  refine q_val hk (w_mv rfl) rfl rfl rfl fun a hk => ?_
  refine q_val hk (w_mv rfl) rfl rfl rfl fun a hk => ?_
  refine q_val hk (w_eq rfl rfl (decide_eq_true (by decide))) rfl rfl rfl fun a hk => ?_
  refine q_val hk (w_pickT rfl rfl) rfl rfl rfl fun a hk => ?_
  refine q_val hk (w_mv rfl) rfl rfl rfl fun a hk => ?_
  refine q_val hk (w_mv rfl) rfl rfl rfl fun a hk => ?_
  refine q_val hk (w_len rfl Tryd.underlying26) rfl rfl rfl fun a hk => ?_
  refine q_val hk (w_gt rfl rfl (decide_eq_true (by omega))) rfl rfl rfl fun a hk => ?_
  refine q_val hk (w_pickT rfl rfl) rfl rfl rfl fun a hk => ?_
  refine q_val hk (w_mv rfl) rfl rfl rfl fun a hk => ?_
  refine q_val hk (w_mv rfl) rfl rfl rfl fun a hk => ?_
  refine q_val hk (w_eq rfl rfl (decide_eq_true (by decide))) rfl rfl rfl fun a hk => ?_
  refine q_val hk (w_pickT rfl rfl) rfl rfl rfl fun a hk => ?_
  refine q_val hk (w_mv rfl) rfl rfl rfl fun a hk => ?_
  refine q_val hk (w_mv rfl) rfl rfl rfl fun a hk => ?_
  refine q_val hk (w_len rfl Tryd.underlying26) rfl rfl rfl fun a hk => ?_
  refine q_val hk (w_gt rfl rfl (decide_eq_true (by omega))) rfl rfl rfl fun a hk => ?_
  refine q_val hk (w_pickT rfl rfl) rfl rfl rfl fun a hk => ?_
  refine q_val hk (w_mv rfl) rfl rfl rfl fun a hk => ?_
  refine q_val hk (w_mv rfl) rfl rfl rfl fun a hk => ?_
  refine q_val hk (w_eq rfl rfl (decide_eq_true (by decide))) rfl rfl rfl fun a hk => ?_
  refine q_val hk (w_pickT rfl rfl) rfl rfl rfl fun a hk => ?_
  refine q_val hk (w_mv rfl) rfl rfl rfl fun a hk => ?_
  refine q_val hk (w_mv rfl) rfl rfl rfl fun a hk => ?_
  refine q_val hk (w_len rfl Tryd.underlying26) rfl rfl rfl fun a hk => ?_
  refine q_val hk (w_gt rfl rfl (decide_eq_true (by omega))) rfl rfl rfl fun a hk => ?_
  refine q_val hk (w_pickT rfl rfl) rfl rfl rfl fun a hk => ?_
  refine q_val hk (w_mv rfl) rfl rfl rfl fun a hk => ?_
  refine q_val hk (w_mv rfl) rfl rfl rfl fun a hk => ?_
  refine q_val hk (w_eq rfl rfl (decide_eq_true (by decide))) rfl rfl rfl fun a hk => ?_
  refine q_val hk (w_pickT rfl rfl) rfl rfl rfl fun a hk => ?_
  refine q_val hk (w_mv rfl) rfl rfl rfl fun a hk => ?_
  refine q_call (caps := []) hk rfl rfl Tryd.func25 fo25 rfl rfl (newTape_m _ hs) ?_
  rintro _ w ⟨b18, r19, rfl, ht20, hs⟩
  have hu := ht20
  refine ⟨_, rfl, fun a hk => ?_⟩
  refine q_val hk (w_mv rfl) rfl rfl rfl fun a hk => ?_
  obtain ⟨ula, ulc, ups, hups, rfl⟩ := hu
  have hs := hs.up6
  have hs := hs.frz (r := lst 3 (.slice a2 k3 c4) k3 (el ec (if prErr 1 1 1 1 = 0 then splitE 1 1 ((cn 1 : Nat) : Int) else []))) (row_lst (hs.mi 0 rfl)) (fun _ h => h.2)
  refine q_call (caps := []) hk rfl rfl Tryd.func27 fo27 rfl rfl (compare_s b18 ulc k3 _ ula _ ups [] (if prErr 1 1 1 1 = 0 then splitE 1 1 ((cn 1 : Nat) : Int) else []) _ hs hups (by simp) HasR.head (by rw [al_split]; decide)) ?_
  rintro _ w ⟨rfl, hs⟩
  refine ⟨_, rfl, fun a hk => ?_⟩
  refine q_val hk (w_eq rfl rfl (decide_eq_true (by rw [al_split]; decide))) rfl rfl rfl fun a hk => ?_
  refine q_val hk (w_pickT rfl rfl) rfl rfl rfl fun a hk => ?_
  refine q_val hk (w_as rfl) rfl rfl rfl fun a hk => ?_
  refine (c_end (x_t ?_))
  refine (wpIn_ret ?_)
  refine c_ret1 hk rfl rfl ?_
  exact ⟨rfl, hs.toBelow⟩
theorem lawPredicts_c (F T N L : Int) (W : World) (HL : Laid W) : Calls Tryd.prog 3 [.agg #[.int .i64 F, .int .i64 T, .int .i64 N, .int .i64 L]].toArray W fun e w => e = .returned (.bool true) ∧ Below W.heap.size W w := by
  refine c_enter (args := [.agg #[.int .i64 F, .int .i64 T, .int .i64 N, .int .i64 L]]) Tryd.func3 rfl rfl rfl fun a hk => ?_
  have hs := Sat.start W [] (fun _ h => by cases h)
  refine wpIn_seq ?_
  refine wpIn_region_lit ?_
  refine q_box (vs := [.int .i64 F, .int .i64 T, .int .i64 N, .int .i64 L]) hk hs rfl rfl rfl rfl fun b1 w a hk hs => ?_
  refine q_val hk (w_as rfl) rfl rfl rfl fun a hk => ?_
  refine (c_end (x_t ?_))
  refine wpIn_seq ?_
  refine wpIn_seq ?_
  refine wpIn_region_lit ?_
  refine q_val hk (w_ldA rfl ty23 (.blk (n := 4) (hs.mi 0 rfl) rfl) rfl) rfl rfl rfl fun a hk => ?_
  refine q_call (caps := []) hk rfl rfl Tryd.func13 fo13 rfl rfl (small_c F T N L _) ?_
  rintro _ w ⟨y2, rfl, hb⟩
  have hs := hs.below hb
  refine ⟨_, rfl, fun a hk => ?_⟩
  refine q_val hk (w_not rfl) rfl rfl rfl fun a hk => ?_
  refine (c_end (x_t ?_))
  rcases y2 with _ | _
  · skip
    refine c_T hk rfl ?_
    refine wpIn_seq ?_
    refine wpIn_region_lit ?_
    refine q_call (caps := []) hk rfl rfl Tryd.func14 fo14 rfl rfl (alive21_c _ (HL.step hs.toBelow)) ?_
    rintro _ w ⟨rfl, hb⟩
    have hs := hs.below hb
    refine ⟨_, rfl, fun a hk => ?_⟩
    refine q_val hk (w_as rfl) rfl rfl rfl fun a hk => ?_
    refine (c_end (x_t ?_))
    refine (wpIn_ret (x_tr ?_))
    refine c_ret1 hk rfl rfl ?_
    exact ⟨rfl, hs.toBelow⟩
  · skip
    refine c_F hk rfl ?_
    refine (wpIn_skip (x_t ?_))
    refine wpIn_seq ?_
    refine wpIn_region_lit ?_
    refine q_val hk (w_ldA rfl ty23 (.blk (n := 4) (hs.mi 0 rfl) rfl) rfl) rfl rfl rfl fun a hk => ?_
    refine q_call (caps := []) hk rfl rfl Tryd.func15 fo15 rfl rfl (modelSplit_c F T N L _ (HL.step hs.toBelow)) ?_
    rintro _ w ⟨a3, k4, c5, rfl, hS⟩
    have hs := hs.call1 hS
    clear hS
    refine ⟨_, rfl, fun a hk => ?_⟩
    refine q_val hk (w_mv rfl) rfl rfl rfl fun a hk => ?_
    refine q_val hk (w_ext rfl rfl) rfl rfl rfl fun a hk => ?_
    refine q_val hk (w_ext rfl rfl) rfl rfl rfl fun a hk => ?_
    refine q_val hk (w_as rfl) rfl rfl rfl fun a hk => ?_
    refine q_val hk (w_as rfl) rfl rfl rfl fun a hk => ?_
    refine (c_end (x_t ?_))
    refine wpIn_seq ?_
    refine wpIn_region_lit ?_
    refine q_val hk (w_ldA rfl ty23 (.blk (n := 4) (hs.mi 1 rfl) rfl) rfl) rfl rfl rfl fun a hk => ?_
    refine q_call (caps := []) hk rfl rfl Tryd.func16 fo16 rfl rfl (modelCombine_c F T N L _ (HL.step hs.toBelow)) ?_
    rintro _ w ⟨a6, k7, c8, rfl, hS⟩
    have hs := hs.call1 hS
    clear hS
    refine ⟨_, rfl, fun a hk => ?_⟩
    refine q_val hk (w_mv rfl) rfl rfl rfl fun a hk => ?_
    refine q_val hk (w_ext rfl rfl) rfl rfl rfl fun a hk => ?_
    refine q_val hk (w_ext rfl rfl) rfl rfl rfl fun a hk => ?_
    refine q_val hk (w_as rfl) rfl rfl rfl fun a hk => ?_
    refine q_val hk (w_as rfl) rfl rfl rfl fun a hk => ?_
    refine (c_end (x_t ?_))
    refine wpIn_seq ?_
    refine wpIn_region_lit ?_
    refine q_val hk (w_ldA rfl ty23 (.blk (n := 4) (hs.mi 2 rfl) rfl) rfl) rfl rfl rfl fun a hk => ?_
    refine q_call (caps := []) hk rfl rfl Tryd.func17 fo17 rfl rfl (modelCheck_c F T N L _ (HL.step hs.toBelow)) ?_
    rintro _ w ⟨a9, k10, c11, rfl, hS⟩
    have hs := hs.call1 hS
    clear hS
    refine ⟨_, rfl, fun a hk => ?_⟩
    refine q_val hk (w_mv rfl) rfl rfl rfl fun a hk => ?_
    refine q_val hk (w_ext rfl rfl) rfl rfl rfl fun a hk => ?_
    refine q_val hk (w_ext rfl rfl) rfl rfl rfl fun a hk => ?_
    refine q_val hk (w_as rfl) rfl rfl rfl fun a hk => ?_
    refine q_val hk (w_as rfl) rfl rfl rfl fun a hk => ?_
    refine (c_end (x_t ?_))
    refine wpIn_seq ?_
    refine wpIn_region_lit ?_
    refine q_val hk (w_ldA rfl ty23 (.blk (n := 4) (hs.mi 3 rfl) rfl) rfl) rfl rfl rfl fun a hk => ?_
    refine q_call (caps := []) hk rfl rfl Tryd.func18 fo18 rfl rfl (modelExtend_c F T N L _ (HL.step hs.toBelow)) ?_
    rintro _ w ⟨a12, k13, c14, rfl, hS⟩
    have hs := hs.call1 hS
    clear hS
    refine ⟨_, rfl, fun a hk => ?_⟩
    refine q_val hk (w_mv rfl) rfl rfl rfl fun a hk => ?_
    refine q_val hk (w_ext rfl rfl) rfl rfl rfl fun a hk => ?_
    refine q_val hk (w_ext rfl rfl) rfl rfl rfl fun a hk => ?_
    refine q_val hk (w_as rfl) rfl rfl rfl fun a hk => ?_
    refine q_val hk (w_as rfl) rfl rfl rfl fun a hk => ?_
    refine (c_end (x_t ?_))
    refine wpIn_seq ?_
    refine wpIn_seq ?_
    refine wpIn_region_lit ?_
    refine q_val hk (w_ldA rfl ty23 (.blk (n := 4) (hs.mi 4 rfl) rfl) rfl) rfl rfl rfl fun a hk => ?_
    refine q_call (caps := []) hk rfl rfl Tryd.func19 fo19 rfl rfl (refCkPar_c F T N L _) ?_
    rintro _ w ⟨rfl, hb⟩
    have hs := hs.below hb
    refine ⟨_, rfl, fun a hk => ?_⟩
    refine q_val hk (w_as rfl) rfl rfl rfl fun a hk => ?_
    refine (c_end (x_t ?_))
    refine wpIn_seq ?_
    refine wpIn_region_lit ?_
    refine q_val hk (w_mv rfl) rfl rfl rfl fun a hk => ?_
    rcases Classical.em ((prErr F T N L) ≠ 0) with hc15 | hc15
    · skip
      have hnlk13 := row_cnt (hs.mi 0 rfl)
      rw [if_neg hc15] at hnlk13
      simp only [List.length_nil] at hnlk13
      have hnlk10 := row_cnt (hs.mi 1 rfl)
      rw [if_neg hc15] at hnlk10
      simp only [List.length_nil] at hnlk10
      have hnlk7 := row_cnt (hs.mi 2 rfl)
      rw [if_neg hc15] at hnlk7
      simp only [List.length_nil] at hnlk7
      have hnlk4 := row_cnt (hs.mi 3 rfl)
      rw [if_neg hc15] at hnlk4
      simp only [List.length_nil] at hnlk4
      refine q_val hk (w_ne rfl rfl (decide_eq_true hc15)) rfl rfl rfl fun a hk => ?_
      refine (c_end (x_t ?_))
      refine c_T hk rfl ?_
      refine wpIn_seq ?_
      refine wpIn_region_lit ?_
      refine q_call (caps := []) hk rfl rfl Tryd.func14 fo14 rfl rfl (alive21_c _ (HL.step hs.toBelow)) ?_
      rintro _ w ⟨rfl, hb⟩
      have hs := hs.below hb
      refine ⟨_, rfl, fun a hk => ?_⟩
      refine q_val hk (w_mv rfl) rfl rfl rfl fun a hk => ?_
      refine q_val hk (w_mv rfl) rfl rfl rfl fun a hk => ?_
      refine q_val hk (w_mv rfl) rfl rfl rfl fun a hk => ?_
      refine q_val hk (w_eq rfl rfl (decide_eq_true rfl)) rfl rfl rfl fun a hk => ?_
      refine q_val hk (w_pickT rfl rfl) rfl rfl rfl fun a hk => ?_
      refine q_val hk (w_mv rfl) rfl rfl rfl fun a hk => ?_
      refine q_val hk (w_mv rfl) rfl rfl rfl fun a hk => ?_
      refine q_val hk (w_mv rfl) rfl rfl rfl fun a hk => ?_
      refine q_val hk (w_eq rfl rfl (decide_eq_true rfl)) rfl rfl rfl fun a hk => ?_
      refine q_val hk (w_pickT rfl rfl) rfl rfl rfl fun a hk => ?_
      refine q_val hk (w_mv rfl) rfl rfl rfl fun a hk => ?_
      refine q_val hk (w_mv rfl) rfl rfl rfl fun a hk => ?_
      refine q_val hk (w_mv rfl) rfl rfl rfl fun a hk => ?_
      refine q_val hk (w_eq rfl rfl (decide_eq_true rfl)) rfl rfl rfl fun a hk => ?_
      refine q_val hk (w_pickT rfl rfl) rfl rfl rfl fun a hk => ?_
      refine q_val hk (w_mv rfl) rfl rfl rfl fun a hk => ?_
      refine q_val hk (w_mv rfl) rfl rfl rfl fun a hk => ?_
      refine q_val hk (w_mv rfl) rfl rfl rfl fun a hk => ?_
      refine q_val hk (w_eq rfl rfl (decide_eq_true rfl)) rfl rfl rfl fun a hk => ?_
      refine q_val hk (w_pickT rfl rfl) rfl rfl rfl fun a hk => ?_
      refine q_val hk (w_mv rfl) rfl rfl rfl fun a hk => ?_
      refine q_val hk (w_mv rfl) rfl rfl rfl fun a hk => ?_
      refine q_val hk (w_len rfl Tryd.underlying26) rfl rfl rfl fun a hk => ?_
      refine q_val hk (w_mv rfl) rfl rfl rfl fun a hk => ?_
      refine q_val hk (w_len rfl Tryd.underlying26) rfl rfl rfl fun a hk => ?_
      refine q_val hk (w_add rfl rfl (wr64 (by omega) (by omega))) rfl rfl rfl fun a hk => ?_
      refine q_val hk (w_mv rfl) rfl rfl rfl fun a hk => ?_
      refine q_val hk (w_len rfl Tryd.underlying26) rfl rfl rfl fun a hk => ?_
      refine q_val hk (w_add rfl rfl (wr64 (by omega) (by omega))) rfl rfl rfl fun a hk => ?_
      refine q_val hk (w_mv rfl) rfl rfl rfl fun a hk => ?_
      refine q_val hk (w_len rfl Tryd.underlying26) rfl rfl rfl fun a hk => ?_
      refine q_val hk (w_add rfl rfl (wr64 (by omega) (by omega))) rfl rfl rfl fun a hk => ?_
      refine q_val hk (w_eq rfl rfl (decide_eq_true (by omega))) rfl rfl rfl fun a hk => ?_
      refine q_val hk (w_pickT rfl rfl) rfl rfl rfl fun a hk => ?_
      refine q_val hk (w_as rfl) rfl rfl rfl fun a hk => ?_
      refine (c_end (x_t ?_))
      refine (wpIn_ret (x_tr ?_))
      refine c_ret1 hk rfl rfl ?_
      exact ⟨rfl, hs.toBelow⟩
    · skip
      have h0 : prErr F T N L = 0 := Classical.not_not.1 hc15
      obtain ⟨_, g1, g2, g3, g4, g5, g6⟩ := prErr_zero h0
      have gc := cn_2115 g6
      refine q_val hk (w_ne rfl rfl (decide_eq_false hc15)) rfl rfl rfl fun a hk => ?_
      refine (c_end (x_t ?_))
      refine c_F hk rfl ?_
      refine (wpIn_skip (x_t ?_))
      refine wpIn_seq ?_
      refine wpIn_region_lit ?_
      refine q_call (caps := []) hk rfl rfl Tryd.func14 fo14 rfl rfl (alive21_c _ (HL.step hs.toBelow)) ?_
      rintro _ w ⟨rfl, hb⟩
      have hs := hs.below hb
      refine ⟨_, rfl, fun a hk => ?_⟩
      refine q_val hk (w_mv rfl) rfl rfl rfl fun a hk => ?_
      refine q_val hk (w_mv rfl) rfl rfl rfl fun a hk => ?_
      refine q_val hk (w_eq rfl rfl (decide_eq_true (by omega))) rfl rfl rfl fun a hk => ?_
      refine q_val hk (w_pickT rfl rfl) rfl rfl rfl fun a hk => ?_
      refine q_val hk (w_mv rfl) rfl rfl rfl fun a hk => ?_
      refine q_val hk (w_mv rfl) rfl rfl rfl fun a hk => ?_
      refine q_val hk (w_eq rfl rfl (decide_eq_true (by omega))) rfl rfl rfl fun a hk => ?_
      refine q_val hk (w_pickT rfl rfl) rfl rfl rfl fun a hk => ?_
      refine q_val hk (w_mv rfl) rfl rfl rfl fun a hk => ?_
      refine q_val hk (w_mv rfl) rfl rfl rfl fun a hk => ?_
      refine q_val hk (w_eq rfl rfl (decide_eq_true (by omega))) rfl rfl rfl fun a hk => ?_
      refine q_val hk (w_pickT rfl rfl) rfl rfl rfl fun a hk => ?_
      refine q_val hk (w_mv rfl) rfl rfl rfl fun a hk => ?_
      refine q_val hk (w_mv rfl) rfl rfl rfl fun a hk => ?_
      refine q_val hk (w_eq rfl rfl (decide_eq_true (by omega))) rfl rfl rfl fun a hk => ?_
      refine q_val hk (w_pickT rfl rfl) rfl rfl rfl fun a hk => ?_
      refine q_val hk (w_mv rfl) rfl rfl rfl fun a hk => ?_
      refine q_val hk (w_mv rfl) rfl rfl rfl fun a hk => ?_
      refine q_val hk (w_ldA rfl ty23 (.blk (n := 4) (hs.mi 4 rfl) rfl) rfl) rfl rfl rfl fun a hk => ?_
      refine q_call (caps := []) hk rfl rfl Tryd.func21 fo21 rfl rfl (refSplit21_c F T N L _ h0) ?_
      rintro _ w ⟨a16, k17, c18, rfl, hS⟩
      have hs := hs.call1 hS
      clear hS
      refine ⟨_, rfl, fun a hk => ?_⟩
      refine q_call (caps := []) hk rfl rfl Tryd.func20 fo20 rfl rfl (refSame_c _ _ _ _ _ _ (if prErr F T N L = 0 then splitE T N ((cn L : Nat) : Int) else []) (splitE T N ((cn L : Nat) : Int)) _ (row_lst (hs.mi 4 rfl)) (row_lst (hs.mi 0 rfl)) (by have h := row_cnt (hs.mi 4 rfl); rw [if_pos h0] at h; have := splitE_len (t := T) (n := N) (c := ((cn L : Nat) : Int)) (by omega) (by omega) (by omega); omega) (by have h := row_cnt (hs.mi 0 rfl); have := splitE_len (t := T) (n := N) (c := ((cn L : Nat) : Int)) (by omega) (by omega) (by omega); omega)) ?_
      rintro _ w ⟨he, hb⟩
      rw [show decide ((if prErr F T N L = 0 then splitE T N ((cn L : Nat) : Int) else []) = (splitE T N ((cn L : Nat) : Int))) = true from decide_eq_true ((if_pos h0).trans rfl)] at he
      subst he
      have hs := hs.below hb
      refine ⟨_, rfl, fun a hk => ?_⟩
      refine q_val hk (w_pickT rfl rfl) rfl rfl rfl fun a hk => ?_
      refine q_val hk (w_mv rfl) rfl rfl rfl fun a hk => ?_
      refine q_val hk (w_mv rfl) rfl rfl rfl fun a hk => ?_
      refine q_val hk (w_ldA rfl ty23 (.blk (n := 4) (hs.mi 5 rfl) rfl) rfl) rfl rfl rfl fun a hk => ?_
      refine q_call (caps := []) hk rfl rfl Tryd.func22 fo22 rfl rfl (refCombine21_c F T N L _ h0) ?_
      rintro _ w ⟨a19, k20, c21, rfl, hS⟩
      have hs := hs.call1 hS
      clear hS
      refine ⟨_, rfl, fun a hk => ?_⟩
      refine q_call (caps := []) hk rfl rfl Tryd.func20 fo20 rfl rfl (refSame_c _ _ _ _ _ _ (if prErr F T N L = 0 then combineE T N ((cn L : Nat) : Int) else []) (combineE T 0 ((cn L : Nat) : Int)) _ (row_lst (hs.mi 4 rfl)) (row_lst (hs.mi 0 rfl)) (by have h := row_cnt (hs.mi 4 rfl); rw [if_pos h0] at h; have := combineE_len (t := T) (n := N) (c := ((cn L : Nat) : Int)) (by omega) (by omega); omega) (by have h := row_cnt (hs.mi 0 rfl); have := combineE_len (t := T) (n := 0) (c := ((cn L : Nat) : Int)) (by omega) (by omega); omega)) ?_
      rintro _ w ⟨he, hb⟩
      rw [show decide ((if prErr F T N L = 0 then combineE T N ((cn L : Nat) : Int) else []) = (combineE T 0 ((cn L : Nat) : Int))) = true from decide_eq_true ((if_pos h0).trans rfl)] at he
      subst he
      have hs := hs.below hb
      refine ⟨_, rfl, fun a hk => ?_⟩
      refine q_val hk (w_pickT rfl rfl) rfl rfl rfl fun a hk => ?_
      refine q_val hk (w_mv rfl) rfl rfl rfl fun a hk => ?_
      refine q_val hk (w_mv rfl) rfl rfl rfl fun a hk => ?_
      refine q_val hk (w_ldA rfl ty23 (.blk (n := 4) (hs.mi 6 rfl) rfl) rfl) rfl rfl rfl fun a hk => ?_
      refine q_call (caps := []) hk rfl rfl Tryd.func23 fo23 rfl rfl (refCheck21_c F T N L _ h0) ?_
      rintro _ w ⟨a22, k23, c24, rfl, hS⟩
      have hs := hs.call1 hS
      clear hS
      refine ⟨_, rfl, fun a hk => ?_⟩
      refine q_call (caps := []) hk rfl rfl Tryd.func20 fo20 rfl rfl (refSame_c _ _ _ _ _ _ (if prErr F T N L = 0 then checkE T N ((cn L : Nat) : Int) else []) (checkE T N ((cn L : Nat) : Int)) _ (row_lst (hs.mi 4 rfl)) (row_lst (hs.mi 0 rfl)) (by have h := row_cnt (hs.mi 4 rfl); rw [if_pos h0] at h; have := checkE_len (t := T) (n := N) (c := ((cn L : Nat) : Int)) (by omega) (by omega) (by omega); omega) (by have h := row_cnt (hs.mi 0 rfl); have := checkE_len (t := T) (n := N) (c := ((cn L : Nat) : Int)) (by omega) (by omega) (by omega); omega)) ?_
      rintro _ w ⟨he, hb⟩
      rw [show decide ((if prErr F T N L = 0 then checkE T N ((cn L : Nat) : Int) else []) = (checkE T N ((cn L : Nat) : Int))) = true from decide_eq_true ((if_pos h0).trans rfl)] at he
      subst he
      have hs := hs.below hb
      refine ⟨_, rfl, fun a hk => ?_⟩
      refine q_val hk (w_pickT rfl rfl) rfl rfl rfl fun a hk => ?_
      refine q_val hk (w_mv rfl) rfl rfl rfl fun a hk => ?_
      refine q_val hk (w_mv rfl) rfl rfl rfl fun a hk => ?_
      refine q_val hk (w_ldA rfl ty23 (.blk (n := 4) (hs.mi 7 rfl) rfl) rfl) rfl rfl rfl fun a hk => ?_
      refine q_call (caps := []) hk rfl rfl Tryd.func24 fo24 rfl rfl (refExtend21_c F T N L _ h0) ?_
      rintro _ w ⟨a25, k26, c27, rfl, hS⟩
      have hs := hs.call1 hS
      clear hS
      refine ⟨_, rfl, fun a hk => ?_⟩
      refine q_call (caps := []) hk rfl rfl Tryd.func20 fo20 rfl rfl (refSame_c _ _ _ _ _ _ (if prErr F T N L = 0 then extendE T N ((cn L : Nat) : Int) else []) (extendE T 0 ((cn L : Nat) : Int)) _ (row_lst (hs.mi 4 rfl)) (row_lst (hs.mi 0 rfl)) (by have h := row_cnt (hs.mi 4 rfl); rw [if_pos h0] at h; have := extendE_len (t := T) (n := N) (c := ((cn L : Nat) : Int)) (by omega) (by omega); omega) (by have h := row_cnt (hs.mi 0 rfl); have := extendE_len (t := T) (n := 0) (c := ((cn L : Nat) : Int)) (by omega) (by omega); omega)) ?_
      rintro _ w ⟨he, hb⟩
      rw [show decide ((if prErr F T N L = 0 then extendE T N ((cn L : Nat) : Int) else []) = (extendE T 0 ((cn L : Nat) : Int))) = true from decide_eq_true ((if_pos h0).trans rfl)] at he
      subst he
      have hs := hs.below hb
      refine ⟨_, rfl, fun a hk => ?_⟩
      refine q_val hk (w_pickT rfl rfl) rfl rfl rfl fun a hk => ?_
      refine q_val hk (w_as rfl) rfl rfl rfl fun a hk => ?_
      refine (c_end (x_t ?_))
      refine (wpIn_ret ?_)
      refine c_ret1 hk rfl rfl ?_
      exact ⟨rfl, hs.toBelow⟩
theorem pr12 (T N L : Int) : prErr 1 T N L = prErr 2 T N L := by unfold prErr; simp
theorem lenF_s {F T N L : Int} {k : Nat} (h : k = (if prErr F T N L = 0 then splitE T N ((cn L : Nat) : Int) else []).length) : k ≤ 1000000000000 := by
  split at h
  · rename_i h0
    obtain ⟨_, g1, g2, g3, g4, g5, g6⟩ := prErr_zero h0
    have gc := cn_2115 g6
    have := splitE_len (t := T) (n := N) (c := ((cn L : Nat) : Int)) (by omega) (by omega) (by omega)
    omega
  · simp only [List.length_nil] at h; omega
theorem lenF_c {F T N L : Int} {k : Nat} (h : k = (if prErr F T N L = 0 then checkE T N ((cn L : Nat) : Int) else []).length) : k ≤ 1000000000000 := by
  split at h
  · rename_i h0
    obtain ⟨_, g1, g2, g3, g4, g5, g6⟩ := prErr_zero h0
    have gc := cn_2115 g6
    have := checkE_len (t := T) (n := N) (c := ((cn L : Nat) : Int)) (by omega) (by omega) (by omega)
    omega
  · simp only [List.length_nil] at h; omega
theorem lawForgets_c (F T N L : Int) (W : World) (HL : Laid W) : Calls Tryd.prog 5 [.agg #[.int .i64 F, .int .i64 T, .int .i64 N, .int .i64 L]].toArray W fun e w => e = .returned (.bool true) ∧ Below W.heap.size W w := by
  refine c_enter (args := [.agg #[.int .i64 F, .int .i64 T, .int .i64 N, .int .i64 L]]) Tryd.func5 rfl rfl rfl fun a hk => ?_
  have hs := Sat.start W [] (fun _ h => by cases h)
  refine wpIn_seq ?_
  refine wpIn_region_lit ?_
  refine q_box (vs := [.int .i64 F, .int .i64 T, .int .i64 N, .int .i64 L]) hk hs rfl rfl rfl rfl fun b1 w a hk hs => ?_
  refine q_val hk (w_as rfl) rfl rfl rfl fun a hk => ?_
  refine (c_end (x_t ?_))
  refine wpIn_seq ?_
  refine wpIn_seq ?_
  refine wpIn_region_lit ?_
  refine q_val hk (w_ldA rfl ty23 (.blk (n := 4) (hs.mi 0 rfl) rfl) rfl) rfl rfl rfl fun a hk => ?_
  refine q_call (caps := []) hk rfl rfl Tryd.func13 fo13 rfl rfl (small_c F T N L _) ?_
  rintro _ w ⟨y2, rfl, hb⟩
  have hs := hs.below hb
  refine ⟨_, rfl, fun a hk => ?_⟩
  refine q_val hk (w_not rfl) rfl rfl rfl fun a hk => ?_
  refine (c_end (x_t ?_))
  rcases y2 with _ | _
  · skip
    refine c_T hk rfl ?_
    refine wpIn_seq ?_
    refine wpIn_region_lit ?_
    refine q_call (caps := []) hk rfl rfl Tryd.func14 fo14 rfl rfl (alive21_c _ (HL.step hs.toBelow)) ?_
    rintro _ w ⟨rfl, hb⟩
    have hs := hs.below hb
    refine ⟨_, rfl, fun a hk => ?_⟩
    refine q_val hk (w_as rfl) rfl rfl rfl fun a hk => ?_
    refine (c_end (x_t ?_))
    refine (wpIn_ret (x_tr ?_))
    refine c_ret1 hk rfl rfl ?_
    exact ⟨rfl, hs.toBelow⟩
  · skip
    refine c_F hk rfl ?_
    refine (wpIn_skip (x_t ?_))
    refine wpIn_seq ?_
    refine wpIn_region_lit ?_
    refine q_val hk (w_fa rfl fq23_0 ty3) rfl rfl rfl fun a hk => ?_
    refine q_sto (o := 0) (cs := [.int .i64 1]) (vs' := [.int .i64 1, .int .i64 T, .int .i64 N, .int .i64 L]) hk hs rfl rfl rfl ty3 rfl rfl rfl rfl rfl rfl fun w hs => ?_
    refine (c_end (x_t ?_))
    refine wpIn_seq ?_
    refine wpIn_region_lit ?_
    refine q_val hk (w_ldA rfl ty23 (.blk (n := 4) (hs.mi 0 rfl) rfl) rfl) rfl rfl rfl fun a hk => ?_
    refine q_alc (vs := [.int .i64 0, .int .i64 0, .int .i64 0, .int .i64 0]) hk hs zr23 rfl rfl rfl fun b3 w a hk hs => ?_
    refine q_sto (o := 0) (cs := [.int .i64 1, .int .i64 T, .int .i64 N, .int .i64 L]) (vs' := [.int .i64 1, .int .i64 T, .int .i64 N, .int .i64 L]) hk hs rfl rfl rfl ty23 rfl rfl rfl rfl rfl rfl fun w hs => ?_
    refine (c_end (x_t ?_))
    refine wpIn_seq ?_
    refine wpIn_region_lit ?_
    refine q_val hk (w_fa rfl fq23_0 ty3) rfl rfl rfl fun a hk => ?_
    refine q_sto (o := 0) (cs := [.int .i64 2]) (vs' := [.int .i64 2, .int .i64 T, .int .i64 N, .int .i64 L]) hk hs rfl rfl rfl ty3 rfl rfl rfl rfl rfl rfl fun w hs => ?_
    refine (c_end (x_t ?_))
    refine wpIn_seq ?_
    refine wpIn_region_lit ?_
    refine q_val hk (w_ldA rfl ty23 (.blk (n := 4) (hs.mi 1 rfl) rfl) rfl) rfl rfl rfl fun a hk => ?_
    refine q_call (caps := []) hk rfl rfl Tryd.func15 fo15 rfl rfl (modelSplit_c 1 T N L _ (HL.step hs.toBelow)) ?_
    rintro _ w ⟨a4, k5, c6, rfl, hS⟩
    have hs := hs.call1 hS
    clear hS
    refine ⟨_, rfl, fun a hk => ?_⟩
    refine q_val hk (w_mv rfl) rfl rfl rfl fun a hk => ?_
    refine q_val hk (w_ext rfl rfl) rfl rfl rfl fun a hk => ?_
    refine q_val hk (w_ext rfl rfl) rfl rfl rfl fun a hk => ?_
    refine q_val hk (w_as rfl) rfl rfl rfl fun a hk => ?_
    refine q_val hk (w_as rfl) rfl rfl rfl fun a hk => ?_
    refine (c_end (x_t ?_))
    refine wpIn_seq ?_
    refine wpIn_region_lit ?_
    refine q_val hk (w_ldA rfl ty23 (.blk (n := 4) (hs.mi 1 rfl) rfl) rfl) rfl rfl rfl fun a hk => ?_
    refine q_call (caps := []) hk rfl rfl Tryd.func15 fo15 rfl rfl (modelSplit_c 2 T N L _ (HL.step hs.toBelow)) ?_
    rintro _ w ⟨a7, k8, c9, rfl, hS⟩
    have hs := hs.call1 hS
    clear hS
    refine ⟨_, rfl, fun a hk => ?_⟩
    refine q_val hk (w_mv rfl) rfl rfl rfl fun a hk => ?_
    refine q_val hk (w_ext rfl rfl) rfl rfl rfl fun a hk => ?_
    refine q_val hk (w_ext rfl rfl) rfl rfl rfl fun a hk => ?_
    refine q_val hk (w_as rfl) rfl rfl rfl fun a hk => ?_
    refine q_val hk (w_as rfl) rfl rfl rfl fun a hk => ?_
    refine (c_end (x_t ?_))
    refine wpIn_seq ?_
    refine wpIn_region_lit ?_
    refine q_val hk (w_ldA rfl ty23 (.blk (n := 4) (hs.mi 3 rfl) rfl) rfl) rfl rfl rfl fun a hk => ?_
    refine q_call (caps := []) hk rfl rfl Tryd.func17 fo17 rfl rfl (modelCheck_c 1 T N L _ (HL.step hs.toBelow)) ?_
    rintro _ w ⟨a10, k11, c12, rfl, hS⟩
    have hs := hs.call1 hS
    clear hS
    refine ⟨_, rfl, fun a hk => ?_⟩
    refine q_val hk (w_mv rfl) rfl rfl rfl fun a hk => ?_
    refine q_val hk (w_ext rfl rfl) rfl rfl rfl fun a hk => ?_
    refine q_val hk (w_ext rfl rfl) rfl rfl rfl fun a hk => ?_
    refine q_val hk (w_as rfl) rfl rfl rfl fun a hk => ?_
    refine q_val hk (w_as rfl) rfl rfl rfl fun a hk => ?_
    refine (c_end (x_t ?_))
    refine wpIn_seq ?_
    refine wpIn_region_lit ?_
    refine q_val hk (w_ldA rfl ty23 (.blk (n := 4) (hs.mi 3 rfl) rfl) rfl) rfl rfl rfl fun a hk => ?_
    refine q_call (caps := []) hk rfl rfl Tryd.func17 fo17 rfl rfl (modelCheck_c 2 T N L _ (HL.step hs.toBelow)) ?_
    rintro _ w ⟨a13, k14, c15, rfl, hS⟩
    have hs := hs.call1 hS
    clear hS
    refine ⟨_, rfl, fun a hk => ?_⟩
    refine q_val hk (w_mv rfl) rfl rfl rfl fun a hk => ?_
    refine q_val hk (w_ext rfl rfl) rfl rfl rfl fun a hk => ?_
    refine q_val hk (w_ext rfl rfl) rfl rfl rfl fun a hk => ?_
    refine q_val hk (w_as rfl) rfl rfl rfl fun a hk => ?_
    refine q_val hk (w_as rfl) rfl rfl rfl fun a hk => ?_
    refine (c_end (x_t ?_))
    refine wpIn_seq ?_
    refine wpIn_region_lit ?_
    refine q_call (caps := []) hk rfl rfl Tryd.func14 fo14 rfl rfl (alive21_c _ (HL.step hs.toBelow)) ?_
    rintro _ w ⟨rfl, hb⟩
    have hs := hs.below hb
    refine ⟨_, rfl, fun a hk => ?_⟩
    refine q_val hk (w_mv rfl) rfl rfl rfl fun a hk => ?_
    refine q_val hk (w_mv rfl) rfl rfl rfl fun a hk => ?_
    refine q_val hk (w_mv rfl) rfl rfl rfl fun a hk => ?_
    refine q_val hk (w_eq rfl rfl (decide_eq_true (pr12 T N L))) rfl rfl rfl fun a hk => ?_
    refine q_val hk (w_pickT rfl rfl) rfl rfl rfl fun a hk => ?_
    refine q_val hk (w_mv rfl) rfl rfl rfl fun a hk => ?_
    refine q_val hk (w_mv rfl) rfl rfl rfl fun a hk => ?_
    refine q_val hk (w_mv rfl) rfl rfl rfl fun a hk => ?_
    refine q_val hk (w_eq rfl rfl (decide_eq_true (pr12 T N L))) rfl rfl rfl fun a hk => ?_
    refine q_val hk (w_pickT rfl rfl) rfl rfl rfl fun a hk => ?_
    refine q_val hk (w_mv rfl) rfl rfl rfl fun a hk => ?_
    refine q_val hk (w_mv rfl) rfl rfl rfl fun a hk => ?_
    refine q_val hk (w_mv rfl) rfl rfl rfl fun a hk => ?_
    refine q_val hk (w_eq rfl rfl (decide_eq_true rfl)) rfl rfl rfl fun a hk => ?_
    refine q_val hk (w_pickT rfl rfl) rfl rfl rfl fun a hk => ?_
    refine q_val hk (w_mv rfl) rfl rfl rfl fun a hk => ?_
    refine q_val hk (w_mv rfl) rfl rfl rfl fun a hk => ?_
    refine q_val hk (w_mv rfl) rfl rfl rfl fun a hk => ?_
    refine q_call (caps := []) hk rfl rfl Tryd.func20 fo20 rfl rfl (refSame_c _ _ _ _ _ _ (if prErr 1 T N L = 0 then splitE T N ((cn L : Nat) : Int) else []) (if prErr 2 T N L = 0 then splitE T N ((cn L : Nat) : Int) else []) _ (row_lst (hs.mi 3 rfl)) (row_lst (hs.mi 2 rfl)) (by have h := row_cnt (hs.mi 3 rfl); exact lenF_s h) (by have h := row_cnt (hs.mi 2 rfl); exact lenF_s h)) ?_
    rintro _ w ⟨he, hb⟩
    rw [show decide ((if prErr 1 T N L = 0 then splitE T N ((cn L : Nat) : Int) else []) = (if prErr 2 T N L = 0 then splitE T N ((cn L : Nat) : Int) else [])) = true from decide_eq_true (by rw [pr12])] at he
    subst he
    have hs := hs.below hb
    refine ⟨_, rfl, fun a hk => ?_⟩
    refine q_val hk (w_pickT rfl rfl) rfl rfl rfl fun a hk => ?_
    refine q_val hk (w_mv rfl) rfl rfl rfl fun a hk => ?_
    refine q_val hk (w_mv rfl) rfl rfl rfl fun a hk => ?_
    refine q_val hk (w_mv rfl) rfl rfl rfl fun a hk => ?_
    refine q_call (caps := []) hk rfl rfl Tryd.func20 fo20 rfl rfl (refSame_c _ _ _ _ _ _ (if prErr 1 T N L = 0 then checkE T N ((cn L : Nat) : Int) else []) (if prErr 2 T N L = 0 then checkE T N ((cn L : Nat) : Int) else []) _ (row_lst (hs.mi 1 rfl)) (row_lst (hs.mi 0 rfl)) (by have h := row_cnt (hs.mi 1 rfl); exact lenF_c h) (by have h := row_cnt (hs.mi 0 rfl); exact lenF_c h)) ?_
    rintro _ w ⟨he, hb⟩
    rw [show decide ((if prErr 1 T N L = 0 then checkE T N ((cn L : Nat) : Int) else []) = (if prErr 2 T N L = 0 then checkE T N ((cn L : Nat) : Int) else [])) = true from decide_eq_true (by rw [pr12])] at he
    subst he
    have hs := hs.below hb
    refine ⟨_, rfl, fun a hk => ?_⟩
    refine q_val hk (w_pickT rfl rfl) rfl rfl rfl fun a hk => ?_
    refine q_val hk (w_as rfl) rfl rfl rfl fun a hk => ?_
    refine (c_end (x_t ?_))
    refine (wpIn_ret ?_)
    refine c_ret1 hk rfl rfl ?_
    exact ⟨rfl, hs.toBelow⟩
theorem upE_const {fr to : Int} {F : Int → List Ev} {B : Nat} (h : ∀ i, (F i).length = B) : (upE fr to F).length = (to - fr).toNat * B := by
  unfold upE
  generalize (to - fr).toNat = n
  induction n with
  | zero => simp
  | succ n ih =>
    rw [List.range_succ, List.map_append, List.flatten_append, List.length_append, ih, Nat.succ_mul]
    simp [h]
theorem splitE_exact {t n c : Int} : (splitE t n c).length = n.toNat * (1 + c.toNat * (1 + t.toNat)) := by
  have h1 : (downE t coefE).length = t.toNat * 1 := by
    have := upE_const (fr := 0) (to := t) (F := fun i => coefE (t - 1 - i)) (B := 1) (fun _ => rfl)
    rw [show (t - 0).toNat = t.toNat by omega] at this
    exact this
  have h2 : (eachE c (downE t coefE)).length = c.toNat * (1 + t.toNat) := by
    have := upE_const (fr := 0) (to := c) (F := fun k => [(4, k, 0)] ++ downE t coefE) (B := 1 + t.toNat) (fun k => by rw [List.length_append, h1, List.length_singleton]; omega)
    rw [show (c - 0).toNat = c.toNat by omega] at this
    exact this
  have := upE_const (fr := 1) (to := n + 1) (F := fun i => [(5, i, 0)] ++ eachE c (downE t coefE)) (B := 1 + c.toNat * (1 + t.toNat)) (fun i => by rw [List.length_append, h2, List.length_singleton])
  rw [show (n + 1 - 1).toNat = n.toNat by omega] at this
  exact this
theorem prErr_L {F T N : Int} {L L' : Int} (h : prErr F T N L = 0) (h0 : 0 ≤ L') (h1 : L' ≤ 65535) : prErr F T N L' = 0 := by
  obtain ⟨hF, g1, g2, g3, g4, _, _⟩ := prErr_zero h
  unfold prErr
  rw [if_pos hF, if_pos ⟨g1, g2⟩, if_pos ⟨g3, g4⟩, if_pos ⟨h0, h1⟩]
theorem lawGrows_c (F T N L : Int) (W : World) (HL : Laid W) : Calls Tryd.prog 6 [.agg #[.int .i64 F, .int .i64 T, .int .i64 N, .int .i64 L]].toArray W fun e w => e = .returned (.bool true) ∧ Below W.heap.size W w := by
  refine c_enter (args := [.agg #[.int .i64 F, .int .i64 T, .int .i64 N, .int .i64 L]]) Tryd.func6 rfl rfl rfl fun a hk => ?_
  have hs := Sat.start W [] (fun _ h => by cases h)
  refine wpIn_seq ?_
  refine wpIn_region_lit ?_
  refine q_box (vs := [.int .i64 F, .int .i64 T, .int .i64 N, .int .i64 L]) hk hs rfl rfl rfl rfl fun b1 w a hk hs => ?_
  refine q_val hk (w_as rfl) rfl rfl rfl fun a hk => ?_
  refine (c_end (x_t ?_))
  refine wpIn_seq ?_
  refine wpIn_region_lit ?_
  refine q_val hk (w_fa rfl fq23_3 ty3) rfl rfl rfl fun a hk => ?_
  refine q_sto (o := 3) (cs := [.int .i64 31]) (vs' := [.int .i64 F, .int .i64 T, .int .i64 N, .int .i64 31]) hk hs rfl rfl rfl ty3 rfl rfl rfl rfl rfl rfl fun w hs => ?_
  refine (c_end (x_t ?_))
  refine wpIn_seq ?_
  refine wpIn_seq ?_
  refine wpIn_region_lit ?_
  refine q_val hk (w_ldA rfl ty23 (.blk (n := 4) (hs.mi 0 rfl) rfl) rfl) rfl rfl rfl fun a hk => ?_
  refine q_call (caps := []) hk rfl rfl Tryd.func13 fo13 rfl rfl (small_c F T N 31 _) ?_
  rintro _ w ⟨y2, rfl, hb⟩
  have hs := hs.below hb
  refine ⟨_, rfl, fun a hk => ?_⟩
  refine q_val hk (w_not rfl) rfl rfl rfl fun a hk => ?_
  refine q_val hk (w_mv rfl) rfl rfl rfl fun a hk => ?_
  rcases y2 with _ | _
  · skip
    refine q_skip hk rfl rfl fun a hk => ?_
    refine q_skip hk rfl rfl fun a hk => ?_
    refine q_skip hk rfl rfl fun a hk => ?_
    refine q_val hk (w_pickT rfl rfl) rfl rfl rfl fun a hk => ?_
    refine (c_end (x_t ?_))
    refine c_T hk rfl ?_
    refine wpIn_seq ?_
    refine wpIn_region_lit ?_
    refine q_call (caps := []) hk rfl rfl Tryd.func14 fo14 rfl rfl (alive21_c _ (HL.step hs.toBelow)) ?_
    rintro _ w ⟨rfl, hb⟩
    have hs := hs.below hb
    refine ⟨_, rfl, fun a hk => ?_⟩
    refine q_val hk (w_as rfl) rfl rfl rfl fun a hk => ?_
    refine (c_end (x_t ?_))
    refine (wpIn_ret (x_tr ?_))
    refine c_ret1 hk rfl rfl ?_
    exact ⟨rfl, hs.toBelow⟩
  · skip
    refine q_val hk (w_ldA rfl ty23 (.blk (n := 4) (hs.mi 0 rfl) rfl) rfl) rfl rfl rfl fun a hk => ?_
    refine q_call (caps := []) hk rfl rfl Tryd.func19 fo19 rfl rfl (refCkPar_c F T N 31 _) ?_
    rintro _ w ⟨rfl, hb⟩
    have hs := hs.below hb
    refine ⟨_, rfl, fun a hk => ?_⟩
    rcases Classical.em ((prErr F T N 31) ≠ 0) with hc3 | hc3
    · skip
      refine q_val hk (w_ne rfl rfl (decide_eq_true hc3)) rfl rfl rfl fun a hk => ?_
      refine q_val hk (w_pickF rfl rfl) rfl rfl rfl fun a hk => ?_
      refine (c_end (x_t ?_))
      refine c_T hk rfl ?_
      refine wpIn_seq ?_
      refine wpIn_region_lit ?_
      refine q_call (caps := []) hk rfl rfl Tryd.func14 fo14 rfl rfl (alive21_c _ (HL.step hs.toBelow)) ?_
      rintro _ w ⟨rfl, hb⟩
      have hs := hs.below hb
      refine ⟨_, rfl, fun a hk => ?_⟩
      refine q_val hk (w_as rfl) rfl rfl rfl fun a hk => ?_
      refine (c_end (x_t ?_))
      refine (wpIn_ret (x_tr ?_))
      refine c_ret1 hk rfl rfl ?_
      exact ⟨rfl, hs.toBelow⟩
    · skip
      have h0 : prErr F T N 31 = 0 := Classical.not_not.1 hc3
      obtain ⟨_, g1, g2, g3, g4, _, _⟩ := prErr_zero h0
      have h00 := prErr_L (L' := 0) h0 (by omega) (by omega)
      have h062 := prErr_L (L' := 62) h0 (by omega) (by omega)
      refine q_val hk (w_ne rfl rfl (decide_eq_false hc3)) rfl rfl rfl fun a hk => ?_
      refine q_val hk (w_pickF rfl rfl) rfl rfl rfl fun a hk => ?_
      refine (c_end (x_t ?_))
      refine c_F hk rfl ?_
      refine (wpIn_skip (x_t ?_))
      refine wpIn_seq ?_
      have hL := okL.cons (hs.mi 0 rfl) okL.nil
      refine d_begin _ 6 (by kernel_rfl) rfl hs hL fun w hs hL => ?_
      refine d_join (n2 := 2) 15 (fun a w => ∃ (b1_3 : Nat) (b1_2 : Nat), Kn [] 80 [(4, .pointer (some ⟨b1_3, 0, none⟩)), (3, .pointer (some ⟨b1_2, 0, none⟩)), (22, .agg #[.int .i64 F, .int .i64 T, .int .i64 N, .int .i64 31]), (21, .agg #[.int .i64 F, .int .i64 T, .int .i64 N, .int .i64 31]), (19, .bool false), (18, .bool false), (17, .int .i64 (prErr F T N 31)), (16, .agg #[.int .i64 F, .int .i64 T, .int .i64 N, .int .i64 31]), (15, .bool false), (14, .bool false), (13, .bool true), (12, .agg #[.int .i64 F, .int .i64 T, .int .i64 N, .int .i64 31]), (11, .pointer (some ⟨b1, 3, none⟩)), (2, .bool false), (1, .pointer (some ⟨b1, 0, none⟩)), (0, .agg #[.int .i64 F, .int .i64 T, .int .i64 N, .int .i64 L])] a ∧ Sat no W [blk b1_3 [.int .i64 0, .int .i64 0, .int .i64 0, .int .i64 0] 23, blk b1_2 [.int .i64 0, .int .i64 0, .int .i64 0, .int .i64 0] 23, blk b1 [.int .i64 F, .int .i64 T, .int .i64 N, .int .i64 31] 23] [] w ∧ okL [blk b1 [.int .i64 F, .int .i64 T, .int .i64 N, .int .i64 31] 23] w) ?_ ?_
      · intro hJ15
        refine d_v 0 1 hk hL rfl (by kernel_rfl) rfl rfl (fun w hL => w_ldA rfl ty23 (.blk (n := 4) (hL.at 0 rfl) rfl) rfl) fun a hk => ?_
        refine d_v 1 3 hk hL rfl (by kernel_rfl) rfl rfl (fun w hL => w_ldA rfl ty23 (.blk (n := 4) (hL.at 0 rfl) rfl) rfl) fun a hk => ?_
        refine d_2 2 3 7 11 rfl rfl (by kernel_rfl) (fun K hK => ?_) (fun K hK => ?_)
        · skip
          refine q_alc (vs := [.int .i64 0, .int .i64 0, .int .i64 0, .int .i64 0]) hk hs zr23 rfl rfl rfl fun b1_2 w a hk hs => ?_
          have hL := okL.cons (hs.mi 1 rfl) okL.nil
          refine c_end (x_t (hK _ _ hL ?_))
          clear hK K
          refine d_1 3 15 rfl (by kernel_rfl) fun K hK => ?_
          refine q_alc (vs := [.int .i64 0, .int .i64 0, .int .i64 0, .int .i64 0]) hk hs zr23 rfl rfl rfl fun b1_3 w a hk hs => ?_
          have hL := okL.cons (hs.mi 2 rfl) okL.nil
          refine c_end (x_t (hK _ _ hL ?_))
          clear hK K
          have hL := okL.cons (hs.mi 2 rfl) okL.nil
          exact hJ15 _ _ ⟨_, _, hk.k rfl (hk.k rfl (hk.k rfl (hk.k rfl (hk.k rfl (hk.k rfl (hk.k rfl (hk.k rfl (hk.k rfl (hk.k rfl (hk.k rfl (hk.k rfl (hk.k rfl (hk.k rfl (hk.k rfl (hk.k rfl hk.nil))))))))))))))), hs, hL⟩
        · skip
          refine q_alc (vs := [.int .i64 0, .int .i64 0, .int .i64 0, .int .i64 0]) hk hs zr23 rfl rfl rfl fun b1_3 w a hk hs => ?_
          have hL := okL.cons (hs.mi 1 rfl) okL.nil
          refine c_end (x_t (hK _ _ hL ?_))
          clear hK K
          refine d_1 2 15 rfl (by kernel_rfl) fun K hK => ?_
          refine q_alc (vs := [.int .i64 0, .int .i64 0, .int .i64 0, .int .i64 0]) hk hs zr23 rfl rfl rfl fun b1_2 w a hk hs => ?_
          have hL := okL.cons (hs.mi 2 rfl) okL.nil
          refine c_end (x_t (hK _ _ hL ?_))
          clear hK K
          have hs := hs.up2
          have hs := hs.up1
          have hs := hs.up2
          have hL := okL.cons (hs.mi 2 rfl) okL.nil
          exact hJ15 _ _ ⟨_, _, hk.k rfl (hk.k rfl (hk.k rfl (hk.k rfl (hk.k rfl (hk.k rfl (hk.k rfl (hk.k rfl (hk.k rfl (hk.k rfl (hk.k rfl (hk.k rfl (hk.k rfl (hk.k rfl (hk.k rfl (hk.k rfl hk.nil))))))))))))))), hs, hL⟩
      · rintro a w ⟨b1_3, b1_2, hk, hs, hL⟩
        refine d_1 4 31 rfl (by kernel_rfl) fun K hK => ?_
        have hs := hs.up1
        refine q_sto (o := 0) (cs := [.int .i64 F, .int .i64 T, .int .i64 N, .int .i64 31]) (vs' := [.int .i64 F, .int .i64 T, .int .i64 N, .int .i64 31]) hk hs rfl rfl rfl ty23 rfl rfl rfl rfl rfl rfl fun w hs => ?_
        have hL := okL.cons (hs.mi 2 rfl) okL.nil
        refine c_end (x_t (hK _ _ hL ?_))
        clear hK K
        refine d_1 5 63 rfl (by kernel_rfl) fun K hK => ?_
        have hs := hs.up1
        refine q_sto (o := 0) (cs := [.int .i64 F, .int .i64 T, .int .i64 N, .int .i64 31]) (vs' := [.int .i64 F, .int .i64 T, .int .i64 N, .int .i64 31]) hk hs rfl rfl rfl ty23 rfl rfl rfl rfl rfl rfl fun w hs => ?_
        have hL := okL.cons (hs.mi 2 rfl) okL.nil
        refine c_end (x_t (hK _ _ hL ?_))
        clear hK K
        refine d_end (by kernel_rfl) ?_
        refine (x_t ?_)
        refine wpIn_seq ?_
        refine wpIn_region_lit ?_
        refine q_val hk (w_fa rfl fq23_3 ty3) rfl rfl rfl fun a hk => ?_
        have hs := hs.up1
        refine q_sto (o := 3) (cs := [.int .i64 0]) (vs' := [.int .i64 F, .int .i64 T, .int .i64 N, .int .i64 0]) hk hs rfl rfl rfl ty3 rfl rfl rfl rfl rfl rfl fun w hs => ?_
        refine q_val hk (w_fa rfl fq23_3 ty3) rfl rfl rfl fun a hk => ?_
        have hs := hs.up1
        refine q_sto (o := 3) (cs := [.int .i64 62]) (vs' := [.int .i64 F, .int .i64 T, .int .i64 N, .int .i64 62]) hk hs rfl rfl rfl ty3 rfl rfl rfl rfl rfl rfl fun w hs => ?_
        refine (c_end (x_t ?_))
        refine wpIn_seq ?_
        refine wpIn_region_lit ?_
        refine q_val hk (w_ldA rfl ty23 (.blk (n := 4) (hs.mi 2 rfl) rfl) rfl) rfl rfl rfl fun a hk => ?_
        refine q_call (caps := []) hk rfl rfl Tryd.func15 fo15 rfl rfl (modelSplit_c F T N 31 _ (HL.step hs.toBelow)) ?_
        rintro _ w ⟨a4, k5, c6, rfl, hS⟩
        have hs := hs.call1 hS
        clear hS
        refine ⟨_, rfl, fun a hk => ?_⟩
        refine q_val hk (w_mv rfl) rfl rfl rfl fun a hk => ?_
        refine q_val hk (w_ext rfl rfl) rfl rfl rfl fun a hk => ?_
        refine q_val hk (w_ext rfl rfl) rfl rfl rfl fun a hk => ?_
        refine q_val hk (w_as rfl) rfl rfl rfl fun a hk => ?_
        refine q_val hk (w_as rfl) rfl rfl rfl fun a hk => ?_
        refine (c_end (x_t ?_))
        refine wpIn_seq ?_
        refine wpIn_region_lit ?_
        refine q_val hk (w_ldA rfl ty23 (.blk (n := 4) (hs.mi 2 rfl) rfl) rfl) rfl rfl rfl fun a hk => ?_
        refine q_call (caps := []) hk rfl rfl Tryd.func15 fo15 rfl rfl (modelSplit_c F T N 0 _ (HL.step hs.toBelow)) ?_
        rintro _ w ⟨a7, k8, c9, rfl, hS⟩
        have hs := hs.call1 hS
        clear hS
        refine ⟨_, rfl, fun a hk => ?_⟩
        refine q_val hk (w_mv rfl) rfl rfl rfl fun a hk => ?_
        refine q_val hk (w_ext rfl rfl) rfl rfl rfl fun a hk => ?_
        refine q_val hk (w_ext rfl rfl) rfl rfl rfl fun a hk => ?_
        refine q_val hk (w_as rfl) rfl rfl rfl fun a hk => ?_
        refine q_val hk (w_as rfl) rfl rfl rfl fun a hk => ?_
        refine (c_end (x_t ?_))
        refine wpIn_seq ?_
        refine wpIn_region_lit ?_
        refine q_val hk (w_ldA rfl ty23 (.blk (n := 4) (hs.mi 2 rfl) rfl) rfl) rfl rfl rfl fun a hk => ?_
        refine q_call (caps := []) hk rfl rfl Tryd.func15 fo15 rfl rfl (modelSplit_c F T N 62 _ (HL.step hs.toBelow)) ?_
        rintro _ w ⟨a10, k11, c12, rfl, hS⟩
        have hs := hs.call1 hS
        clear hS
        refine ⟨_, rfl, fun a hk => ?_⟩
        refine q_val hk (w_mv rfl) rfl rfl rfl fun a hk => ?_
        refine q_val hk (w_ext rfl rfl) rfl rfl rfl fun a hk => ?_
        refine q_val hk (w_ext rfl rfl) rfl rfl rfl fun a hk => ?_
        refine q_val hk (w_as rfl) rfl rfl rfl fun a hk => ?_
        refine q_val hk (w_as rfl) rfl rfl rfl fun a hk => ?_
        refine (c_end (x_t ?_))
        refine wpIn_seq ?_
        have hnlk11 := row_cnt (hs.mi 0 rfl)
        rw [if_pos h062, splitE_exact, show (((cn 62 : Nat) : Int)).toNat = 2 by decide +kernel] at hnlk11
        have hnlk8 := row_cnt (hs.mi 1 rfl)
        rw [if_pos h00, splitE_exact, show (((cn 0 : Nat) : Int)).toNat = 0 by decide +kernel] at hnlk8
        have hnlk5 := row_cnt (hs.mi 2 rfl)
        rw [if_pos h0, splitE_exact, show (((cn 31 : Nat) : Int)).toNat = 1 by decide +kernel] at hnlk5
        have hm : N.toNat * (1 + 1 * (1 + T.toNat)) = N.toNat + N.toNat * (1 + T.toNat) := by rw [Nat.mul_add, Nat.mul_one, Nat.one_mul]
        have hm2 : N.toNat * (1 + 2 * (1 + T.toNat)) = N.toNat + 2 * (N.toNat * (1 + T.toNat)) := by rw [Nat.mul_add, Nat.mul_one, Nat.mul_left_comm]
        have hm3 : ((N.toNat * (1 + T.toNat) : Nat) : Int) = N * (1 + T) := by rw [Int.natCast_mul, Int.natCast_add, Int.toNat_of_nonneg (by omega), Int.toNat_of_nonneg (by omega)]; rfl
        have hb1 : N.toNat * (1 + T.toNat) ≤ 255 * 256 := Nat.mul_le_mul (by omega) (by omega)
        rw [hm] at hnlk5
        rw [hm2] at hnlk11
        rw [Nat.zero_mul, Nat.add_zero, Nat.mul_one] at hnlk8
        generalize N.toNat * (1 + T.toNat) = pq at *
        refine wpIn_region_lit ?_
        refine q_call (caps := []) hk rfl rfl Tryd.func14 fo14 rfl rfl (alive21_c _ (HL.step hs.toBelow)) ?_
        rintro _ w ⟨rfl, hb⟩
        have hs := hs.below hb
        refine ⟨_, rfl, fun a hk => ?_⟩
        refine q_val hk (w_mv rfl) rfl rfl rfl fun a hk => ?_
        refine q_val hk (w_mv rfl) rfl rfl rfl fun a hk => ?_
        refine q_val hk (w_eq rfl rfl (decide_eq_true (by omega))) rfl rfl rfl fun a hk => ?_
        refine q_val hk (w_pickT rfl rfl) rfl rfl rfl fun a hk => ?_
        refine q_val hk (w_mv rfl) rfl rfl rfl fun a hk => ?_
        refine q_val hk (w_mv rfl) rfl rfl rfl fun a hk => ?_
        refine q_val hk (w_eq rfl rfl (decide_eq_true (by omega))) rfl rfl rfl fun a hk => ?_
        refine q_val hk (w_pickT rfl rfl) rfl rfl rfl fun a hk => ?_
        refine q_val hk (w_mv rfl) rfl rfl rfl fun a hk => ?_
        refine q_val hk (w_mv rfl) rfl rfl rfl fun a hk => ?_
        refine q_val hk (w_eq rfl rfl (decide_eq_true (by omega))) rfl rfl rfl fun a hk => ?_
        refine q_val hk (w_pickT rfl rfl) rfl rfl rfl fun a hk => ?_
        refine q_val hk (w_mv rfl) rfl rfl rfl fun a hk => ?_
        refine q_val hk (w_mv rfl) rfl rfl rfl fun a hk => ?_
        refine q_val hk (w_len rfl Tryd.underlying26) rfl rfl rfl fun a hk => ?_
        refine q_val hk (w_mv rfl) rfl rfl rfl fun a hk => ?_
        refine q_val hk (w_len rfl Tryd.underlying26) rfl rfl rfl fun a hk => ?_
        refine q_val hk (w_sub rfl rfl (wr64 (by omega) (by omega))) rfl rfl rfl fun a hk => ?_
        refine q_val hk (w_fa rfl fq23_2 ty3) rfl rfl rfl fun a hk => ?_
        refine q_val hk (w_ld1 rfl ty3 (.blk (n := 1) (hs.mi 5 rfl) rfl)) rfl rfl rfl fun a hk => ?_
        refine q_val hk (w_fa rfl fq23_1 ty3) rfl rfl rfl fun a hk => ?_
        refine q_val hk (w_ld1 rfl ty3 (.blk (n := 1) (hs.mi 5 rfl) rfl)) rfl rfl rfl fun a hk => ?_
        refine q_val hk (w_add rfl rfl (wr64 (by omega) (by omega))) rfl rfl rfl fun a hk => ?_
        refine q_val hk (w_mul rfl rfl (wr64 (by omega) (by omega))) rfl rfl rfl fun a hk => ?_
        refine q_val hk (w_eq rfl rfl (decide_eq_true (by omega))) rfl rfl rfl fun a hk => ?_
        refine q_val hk (w_pickT rfl rfl) rfl rfl rfl fun a hk => ?_
        refine q_val hk (w_mv rfl) rfl rfl rfl fun a hk => ?_
        refine q_val hk (w_mv rfl) rfl rfl rfl fun a hk => ?_
        refine q_val hk (w_len rfl Tryd.underlying26) rfl rfl rfl fun a hk => ?_
        refine q_val hk (w_mv rfl) rfl rfl rfl fun a hk => ?_
        refine q_val hk (w_len rfl Tryd.underlying26) rfl rfl rfl fun a hk => ?_
        refine q_val hk (w_sub rfl rfl (wr64 (by omega) (by omega))) rfl rfl rfl fun a hk => ?_
        refine q_val hk (w_mv rfl) rfl rfl rfl fun a hk => ?_
        refine q_val hk (w_len rfl Tryd.underlying26) rfl rfl rfl fun a hk => ?_
        refine q_val hk (w_mv rfl) rfl rfl rfl fun a hk => ?_
        refine q_val hk (w_len rfl Tryd.underlying26) rfl rfl rfl fun a hk => ?_
        refine q_val hk (w_sub rfl rfl (wr64 (by omega) (by omega))) rfl rfl rfl fun a hk => ?_
        refine q_val hk (w_eq rfl rfl (decide_eq_true (by omega))) rfl rfl rfl fun a hk => ?_
        refine q_val hk (w_pickT rfl rfl) rfl rfl rfl fun a hk => ?_
        refine q_val hk (w_as rfl) rfl rfl rfl fun a hk => ?_
        refine (c_end (x_t ?_))
        refine (wpIn_ret ?_)
        refine c_ret1 hk rfl rfl ?_
        exact ⟨rfl, hs.toBelow⟩
theorem lawCompares_c (la ma : Option Addr) (n lc nm mc : Nat) (l m : List Ev) (W : World) (H1 : LstAt W 3 (.slice la n lc) n (el ec l)) (H2 : LstAt W 3 (.slice ma nm mc) nm (el ec m)) (HL : Laid W) : Calls Tryd.prog 4 [.slice la n lc, .slice ma nm mc].toArray W fun e w => e = .returned (.bool true) ∧ Below W.heap.size W w := by
  have e1 : n = l.length := by have h := H1.len; rw [el_len ec_len] at h; omega
  have e2 : nm = m.length := by have h := H2.len; rw [el_len ec_len] at h; omega
  refine c_enter (args := [.slice la n lc, .slice ma nm mc]) Tryd.func4 rfl rfl rfl fun a hk => ?_
  have hs := Sat.start W [lst 3 (.slice la n lc) n (el ec l), lst 3 (.slice ma nm mc) nm (el ec m)] (okrc H1 (okr1 H2))
  refine wpIn_seq ?_
  refine wpIn_region_lit ?_
  refine q_val hk (w_as rfl) rfl rfl rfl fun a hk => ?_
  refine (c_end (x_t ?_))
  refine wpIn_seq ?_
  refine wpIn_seq ?_
  refine wpIn_region_lit ?_
  refine q_val hk (w_mv rfl) rfl rfl rfl fun a hk => ?_
  refine q_val hk (w_len rfl Tryd.underlying26) rfl rfl rfl fun a hk => ?_
  rcases Classical.em (1000 < ((n : Nat) : Int)) with hc1 | hc1
  · skip
    refine q_val hk (w_gt rfl rfl (decide_eq_true hc1)) rfl rfl rfl fun a hk => ?_
    refine q_val hk (w_mv rfl) rfl rfl rfl fun a hk => ?_
    refine q_skip hk rfl rfl fun a hk => ?_
    refine q_skip hk rfl rfl fun a hk => ?_
    refine q_skip hk rfl rfl fun a hk => ?_
    refine q_val hk (w_pickT rfl rfl) rfl rfl rfl fun a hk => ?_
    refine (c_end (x_t ?_))
    refine c_T hk rfl ?_
    refine wpIn_seq ?_
    refine wpIn_region_lit ?_
    refine q_call (caps := []) hk rfl rfl Tryd.func14 fo14 rfl rfl (alive21_c _ (HL.step hs.toBelow)) ?_
    rintro _ w ⟨rfl, hb⟩
    have hs := hs.below hb
    refine ⟨_, rfl, fun a hk => ?_⟩
    refine q_val hk (w_as rfl) rfl rfl rfl fun a hk => ?_
    refine (c_end (x_t ?_))
    refine (wpIn_ret (x_tr ?_))
    refine c_ret1 hk rfl rfl ?_
    exact ⟨rfl, hs.toBelow⟩
  · skip
    refine q_val hk (w_gt rfl rfl (decide_eq_false hc1)) rfl rfl rfl fun a hk => ?_
    refine q_val hk (w_mv rfl) rfl rfl rfl fun a hk => ?_
    refine q_val hk (w_mv rfl) rfl rfl rfl fun a hk => ?_
    refine q_val hk (w_len rfl Tryd.underlying26) rfl rfl rfl fun a hk => ?_
    rcases Classical.em (1000 < ((nm : Nat) : Int)) with hc2 | hc2
    · skip
      refine q_val hk (w_gt rfl rfl (decide_eq_true hc2)) rfl rfl rfl fun a hk => ?_
      refine q_val hk (w_pickF rfl rfl) rfl rfl rfl fun a hk => ?_
      refine (c_end (x_t ?_))
      refine c_T hk rfl ?_
      refine wpIn_seq ?_
      refine wpIn_region_lit ?_
      refine q_call (caps := []) hk rfl rfl Tryd.func14 fo14 rfl rfl (alive21_c _ (HL.step hs.toBelow)) ?_
      rintro _ w ⟨rfl, hb⟩
      have hs := hs.below hb
      refine ⟨_, rfl, fun a hk => ?_⟩
      refine q_val hk (w_as rfl) rfl rfl rfl fun a hk => ?_
      refine (c_end (x_t ?_))
      refine (wpIn_ret (x_tr ?_))
      refine c_ret1 hk rfl rfl ?_
      exact ⟨rfl, hs.toBelow⟩
    · skip
      refine q_val hk (w_gt rfl rfl (decide_eq_false hc2)) rfl rfl rfl fun a hk => ?_
      refine q_val hk (w_pickF rfl rfl) rfl rfl rfl fun a hk => ?_
      refine (c_end (x_t ?_))
      refine c_F hk rfl ?_
      refine (wpIn_skip (x_t ?_))
      refine wpIn_seq ?_
      refine wpIn_region_lit ?_
      refine q_call (caps := []) hk rfl rfl Tryd.func25 fo25 rfl rfl (newTape_m _ hs) ?_
      rintro _ w ⟨b3, r4, rfl, ht5, hs⟩
      have hu : TapeIs (some b3) (l.take 0) r4 := ht5
      refine ⟨_, rfl, fun a hk => ?_⟩
      refine q_val hk (w_as rfl) rfl rfl rfl fun a hk => ?_
      refine (c_end (x_t ?_))
      refine wpIn_seq ?_
      refine wpIn_seq ?_
      refine wpIn_region_lit ?_
      refine q_val hk (w_mv rfl) rfl rfl rfl fun a hk => ?_
      refine q_val hk (w_len rfl Tryd.underlying26) rfl rfl rfl fun a hk => ?_
      refine q_val hk (w_mv rfl) rfl rfl rfl fun a hk => ?_
      refine (c_end (x_t ?_))
      refine wpIn_block ?_
      refine c_loop (α := Nat) (fun k a w => ∃ (r : Res), k ≤ n ∧ TapeIs (some b3) (l.take k) r ∧ Kn [] 49 [(20, .int .i64 (k : Int)), (19, .int .i64 ((n : Nat) : Int)), (18, .slice la n lc), (5, .pointer (some ⟨b3, 0, none⟩)), (4, .bool false), (0, .slice la n lc), (1, .slice ma nm mc)] a ∧ Sat no W [r] [lst 3 (.slice la n lc) n (el ec l), lst 3 (.slice ma nm mc) nm (el ec m)] w) (fun k => n - k) 0 ?_ ?_
      · exact ⟨_, (by omega), hu, hk.k rfl (hk.k rfl (hk.k rfl (hk.k rfl (hk.k rfl (hk.k rfl (hk.k rfl hk.nil)))))), hs⟩
      rintro k a w ⟨r, hf0, hf1, hk, hs⟩
      have hu := hf1
      refine wpIn_seq ?_
      refine wpIn_region_lit ?_
      rcases Classical.em ((k : Int) < ((n : Nat) : Int)) with hc6 | hc6
      · skip
        refine q_val hk (w_lt rfl rfl (decide_eq_true hc6)) rfl rfl rfl fun a hk => ?_
        refine (c_end (x_t ?_))
        refine wpIn_seq ?_
        refine c_T hk rfl ?_
        refine (wpIn_skip (x_t ?_))
        refine wpIn_seq ?_
        refine wpIn_block ?_
        refine wpIn_seq ?_
        refine wpIn_region_lit ?_
        refine q_val hk (w_iaL (k := k) rfl rfl Tryd.underlying26 ty36 (hs.ri 0 rfl) (by omega) (by omega)) rfl rfl rfl fun a hk => ?_
        refine q_val hk (w_ldA rfl ty36 (lstq (k := k) (hs.ri 0 rfl) (by omega) (el_chunk ec_len (by omega) (0, 0, 0))) rfl) rfl rfl rfl fun a hk => ?_
        refine q_alc (vs := [.int .i64 0, .int .i64 0, .int .i64 0]) hk hs zr36 rfl rfl rfl fun b7 w a hk hs => ?_
        refine q_sto (o := 0) (cs := [.int .i64 (((l.getD k (0, 0, 0))).1), .int .i64 (((l.getD k (0, 0, 0))).2.1), .int .i64 (((l.getD k (0, 0, 0))).2.2)]) (vs' := [.int .i64 (((l.getD k (0, 0, 0))).1), .int .i64 (((l.getD k (0, 0, 0))).2.1), .int .i64 (((l.getD k (0, 0, 0))).2.2)]) hk hs rfl rfl rfl ty36 rfl rfl rfl rfl rfl rfl fun w hs => ?_
        refine (c_end (x_t ?_))
        refine wpIn_region_lit ?_
        refine q_val hk (w_mv rfl) rfl rfl rfl fun a hk => ?_
        refine q_val hk (w_fa rfl fq36_0 ty3) rfl rfl rfl fun a hk => ?_
        refine q_val hk (w_ld1 rfl ty3 (.blk (n := 1) (hs.mi 0 rfl) rfl)) rfl rfl rfl fun a hk => ?_
        refine q_val hk (w_fa rfl fq36_1 ty3) rfl rfl rfl fun a hk => ?_
        refine q_val hk (w_ld1 rfl ty3 (.blk (n := 1) (hs.mi 0 rfl) rfl)) rfl rfl rfl fun a hk => ?_
        refine q_val hk (w_fa rfl fq36_2 ty3) rfl rfl rfl fun a hk => ?_
        refine q_val hk (w_ld1 rfl ty3 (.blk (n := 1) (hs.mi 0 rfl) rfl)) rfl rfl rfl fun a hk => ?_
        have hs := hs.up1
        refine q_call (caps := []) hk rfl rfl Tryd.func26 fo26 rfl rfl (note_m (some b3) (((l.getD k (0, 0, 0))).1) (((l.getD k (0, 0, 0))).2.1) (((l.getD k (0, 0, 0))).2.2) (l.take k) _ _ hu hs (by rw [List.length_take]; omega)) ?_
        rintro _ w ⟨v8, r9, rfl, ht10, hs⟩
        have hu := ht10
        refine ⟨_, rfl, fun a hk => ?_⟩
        refine (c_end (x_b (x_t ?_)))
        refine wpIn_region_lit ?_
        refine q_val hk (w_add rfl rfl (wr64 (by omega) (by omega))) rfl rfl rfl fun a hk => ?_
        refine q_val hk (w_mv rfl) rfl rfl rfl fun a hk => ?_
        refine (c_end (x_t ?_))
        have hs := hs.up1
        have hs := hs.drop
        exact ⟨k + 1, ⟨_, (by omega), (by rw [← take_snoc (getD_some (d := evz) (by omega))]; exact hu), hk.k rfl (hk.k rfl (hk.k rfl (hk.k rfl (hk.k rfl (hk.k rfl (hk.k rfl hk.nil)))))), hs⟩, by omega⟩
      · skip
        rw [List.take_of_length_le (by omega)] at hu
        obtain ⟨ula, ulc, ups, hups, rfl⟩ := hu
        refine q_val hk (w_lt rfl rfl (decide_eq_false hc6)) rfl rfl rfl fun a hk => ?_
        refine (c_end (x_t ?_))
        refine wpIn_seq ?_
        refine c_F hk rfl ?_
        refine (wpIn_exit (x_te (x_te (x_be ?_))))
        refine (x_t ?_)
        refine wpIn_seq ?_
        refine wpIn_region_lit ?_
        refine q_call (caps := []) hk rfl rfl Tryd.func14 fo14 rfl rfl (alive21_c _ (HL.step hs.toBelow)) ?_
        rintro _ w ⟨rfl, hb⟩
        have hs := hs.below hb
        refine ⟨_, rfl, fun a hk => ?_⟩
        refine q_val hk (w_mv rfl) rfl rfl rfl fun a hk => ?_
        refine q_val hk (w_mv rfl) rfl rfl rfl fun a hk => ?_
        refine q_val hk (w_mv rfl) rfl rfl rfl fun a hk => ?_
        refine q_call (caps := []) hk rfl rfl Tryd.func27 fo27 rfl rfl (compare_s b3 ulc nm _ ula _ ups l m _ hs hups (by omega) (by exact HasR.nth 1 rfl) (by omega)) ?_
        rintro _ w ⟨rfl, hs⟩
        refine ⟨_, rfl, fun a hk => ?_⟩
        refine q_val hk (w_mv rfl) rfl rfl rfl fun a hk => ?_
        refine q_val hk (w_mv rfl) rfl rfl rfl fun a hk => ?_
        refine q_call (caps := []) hk rfl rfl Tryd.func28 fo28 rfl rfl (refFirst_c _ _ _ _ _ _ l m _ (hs.ri 0 rfl) (hs.ri 1 rfl) (by omega) (by omega)) ?_
        rintro _ w ⟨rfl, hb⟩
        have hs := hs.below hb
        refine ⟨_, rfl, fun a hk => ?_⟩
        refine q_val hk (w_eq rfl rfl (decide_eq_true rfl)) rfl rfl rfl fun a hk => ?_
        refine q_val hk (w_pickT rfl rfl) rfl rfl rfl fun a hk => ?_
        refine q_val hk (w_mv rfl) rfl rfl rfl fun a hk => ?_
        refine q_val hk (w_mv rfl) rfl rfl rfl fun a hk => ?_
        refine q_val hk (w_mv rfl) rfl rfl rfl fun a hk => ?_
        refine q_call (caps := []) hk rfl rfl Tryd.func27 fo27 rfl rfl (compare_s b3 ulc n _ ula _ ups l l _ hs hups (by omega) (by exact HasR.nth 0 rfl) (by omega)) ?_
        rintro _ w ⟨rfl, hs⟩
        refine ⟨_, rfl, fun a hk => ?_⟩
        refine q_val hk (w_eq rfl rfl (decide_eq_true (firstE_eq l))) rfl rfl rfl fun a hk => ?_
        refine q_val hk (w_pickT rfl rfl) rfl rfl rfl fun a hk => ?_
        refine q_val hk (w_as rfl) rfl rfl rfl fun a hk => ?_
        refine (c_end (x_t ?_))
        refine (wpIn_ret ?_)
        refine c_ret1 hk rfl rfl ?_
        exact ⟨rfl, hs.toBelow⟩
end Go.Proofs.YtpggmebgndkpjaaDoor
