/- Records: sizes, and how a share is written. -/
import Derived.Test.YtjhfepkpfakemaaDoorTag
namespace Go.Proofs.YtjhfepkpfakemaaDoor
set_option linter.all false
open Go Go.RowKit

/-- What Size says. -/
def rsz (L : Int) : Int := if 0 ≤ L ∧ L ≤ 65535 then 38 + 32 * (cn L : Int) else 0
theorem cn_small (L : Int) : cn L ≤ 2115 := by unfold cn; split <;> omega
theorem size_c (L : Int) (W : World)  : Calls Tryd.prog 10 [.int .i64 L].toArray W fun e w => e = .returned (.int .i64 (rsz L)) ∧ Below W.heap.size W w := by
  have hcn := cn_small L
  refine c_enter (args := [.int .i64 L]) Tryd.func10 rfl rfl rfl fun a hk => ?_
  have hs := Sat.start W [] (fun _ h => by cases h)
  refine wpIn_seq ?_
  refine wpIn_region_lit ?_
  refine q_val hk (w_as rfl) rfl rfl rfl fun a hk => ?_
  refine (c_end (x_t ?_))
  refine wpIn_seq ?_
  refine wpIn_seq ?_
  refine wpIn_region_lit ?_
  refine q_val hk (w_mv rfl) rfl rfl rfl fun a hk => ?_
  rcases Classical.em (L < 0) with hc1 | hc1
  · skip
    refine q_val hk (w_lt rfl rfl (decide_eq_true hc1)) rfl rfl rfl fun a hk => ?_
    refine q_val hk (w_mv rfl) rfl rfl rfl fun a hk => ?_
    refine q_skip hk rfl rfl fun a hk => ?_
    refine q_skip hk rfl rfl fun a hk => ?_
    refine q_val hk (w_pickT rfl rfl) rfl rfl rfl fun a hk => ?_
    refine (c_end (x_t ?_))
    refine c_T hk rfl ?_
    refine wpIn_seq ?_
    refine wpIn_region_lit ?_
    refine q_val hk (w_as rfl) rfl rfl rfl fun a hk => ?_
    refine (c_end (x_t ?_))
    refine (wpIn_ret (x_tr ?_))
    refine c_ret1 hk rfl rfl ?_
    refine ⟨?_, hs.toBelow⟩
    unfold rsz
    first | rw [if_neg (by omega)] | (rw [if_pos (by omega), show (38 : Int) + 32 * ((cn L : Nat) : Int) = 0 by omega])
  · skip
    refine q_val hk (w_lt rfl rfl (decide_eq_false hc1)) rfl rfl rfl fun a hk => ?_
    refine q_val hk (w_mv rfl) rfl rfl rfl fun a hk => ?_
    refine q_val hk (w_mv rfl) rfl rfl rfl fun a hk => ?_
    rcases Classical.em (65535 < L) with hc2 | hc2
    · skip
      refine q_val hk (w_gt rfl rfl (decide_eq_true hc2)) rfl rfl rfl fun a hk => ?_
      refine q_val hk (w_pickF rfl rfl) rfl rfl rfl fun a hk => ?_
      refine (c_end (x_t ?_))
      refine c_T hk rfl ?_
      refine wpIn_seq ?_
      refine wpIn_region_lit ?_
      refine q_val hk (w_as rfl) rfl rfl rfl fun a hk => ?_
      refine (c_end (x_t ?_))
      refine (wpIn_ret (x_tr ?_))
      refine c_ret1 hk rfl rfl ?_
      refine ⟨?_, hs.toBelow⟩
      unfold rsz
      first | rw [if_neg (by omega)] | (rw [if_pos (by omega), show (38 : Int) + 32 * ((cn L : Nat) : Int) = 0 by omega])
    · skip
      refine q_val hk (w_gt rfl rfl (decide_eq_false hc2)) rfl rfl rfl fun a hk => ?_
      refine q_val hk (w_pickF rfl rfl) rfl rfl rfl fun a hk => ?_
      refine (c_end (x_t ?_))
      refine c_F hk rfl ?_
      refine (wpIn_skip (x_t ?_))
      refine wpIn_seq ?_
      refine wpIn_region_lit ?_
      refine q_val hk (w_mv rfl) rfl rfl rfl fun a hk => ?_
      refine q_call (caps := []) hk rfl rfl Tryd.func24 fo24 rfl rfl (count_c L _) ?_
      rintro _ _ ⟨rfl, rfl⟩
      refine ⟨_, rfl, fun a hk => ?_⟩
      refine q_val hk (w_mul rfl rfl (wr64 (by omega) (by omega))) rfl rfl rfl fun a hk => ?_
      refine q_val hk (w_add rfl rfl (wr64 (by omega) (by omega))) rfl rfl rfl fun a hk => ?_
      refine q_val hk (w_add rfl rfl (wr64 (by omega) (by omega))) rfl rfl rfl fun a hk => ?_
      refine q_val hk (w_as rfl) rfl rfl rfl fun a hk => ?_
      refine (c_end (x_t ?_))
      refine (wpIn_ret ?_)
      refine c_ret1 hk rfl rfl ?_
      refine ⟨?_, hs.toBelow⟩
      unfold rsz
      first | rw [if_neg (by omega)] | (rw [if_pos (by omega), show (38 : Int) + 32 * ((cn L : Nat) : Int) = ((6 + (((cn L : Nat) : Int) * 32)) + 32) by omega])
theorem refSize_c (L : Int) (W : World)  : Calls Tryd.prog 11 [.int .i64 L].toArray W fun e w => e = .returned (.int .i64 (rsz L)) ∧ Below W.heap.size W w := by
  have hcn := cn_small L
  refine c_enter (args := [.int .i64 L]) Tryd.func11 rfl rfl rfl fun a hk => ?_
  have hs := Sat.start W [] (fun _ h => by cases h)
  refine wpIn_seq ?_
  refine wpIn_region_lit ?_
  refine q_val hk (w_as rfl) rfl rfl rfl fun a hk => ?_
  refine (c_end (x_t ?_))
  refine wpIn_seq ?_
  refine wpIn_seq ?_
  refine wpIn_region_lit ?_
  refine q_val hk (w_mv rfl) rfl rfl rfl fun a hk => ?_
  rcases Classical.em (L < 0) with hc1 | hc1
  · skip
    refine q_val hk (w_lt rfl rfl (decide_eq_true hc1)) rfl rfl rfl fun a hk => ?_
    refine q_val hk (w_mv rfl) rfl rfl rfl fun a hk => ?_
    refine q_skip hk rfl rfl fun a hk => ?_
    refine q_skip hk rfl rfl fun a hk => ?_
    refine q_val hk (w_pickT rfl rfl) rfl rfl rfl fun a hk => ?_
    refine (c_end (x_t ?_))
    refine c_T hk rfl ?_
    refine wpIn_seq ?_
    refine wpIn_region_lit ?_
    refine q_val hk (w_as rfl) rfl rfl rfl fun a hk => ?_
    refine (c_end (x_t ?_))
    refine (wpIn_ret (x_tr ?_))
    refine c_ret1 hk rfl rfl ?_
    refine ⟨?_, hs.toBelow⟩
    unfold rsz
    first | rw [if_neg (by omega)] | (rw [if_pos (by omega), show (38 : Int) + 32 * ((cn L : Nat) : Int) = 0 by omega])
  · skip
    refine q_val hk (w_lt rfl rfl (decide_eq_false hc1)) rfl rfl rfl fun a hk => ?_
    refine q_val hk (w_mv rfl) rfl rfl rfl fun a hk => ?_
    refine q_val hk (w_mv rfl) rfl rfl rfl fun a hk => ?_
    rcases Classical.em (65535 < L) with hc2 | hc2
    · skip
      refine q_val hk (w_gt rfl rfl (decide_eq_true hc2)) rfl rfl rfl fun a hk => ?_
      refine q_val hk (w_pickF rfl rfl) rfl rfl rfl fun a hk => ?_
      refine (c_end (x_t ?_))
      refine c_T hk rfl ?_
      refine wpIn_seq ?_
      refine wpIn_region_lit ?_
      refine q_val hk (w_as rfl) rfl rfl rfl fun a hk => ?_
      refine (c_end (x_t ?_))
      refine (wpIn_ret (x_tr ?_))
      refine c_ret1 hk rfl rfl ?_
      refine ⟨?_, hs.toBelow⟩
      unfold rsz
      first | rw [if_neg (by omega)] | (rw [if_pos (by omega), show (38 : Int) + 32 * ((cn L : Nat) : Int) = 0 by omega])
    · skip
      refine q_val hk (w_gt rfl rfl (decide_eq_false hc2)) rfl rfl rfl fun a hk => ?_
      refine q_val hk (w_pickF rfl rfl) rfl rfl rfl fun a hk => ?_
      refine (c_end (x_t ?_))
      refine c_F hk rfl ?_
      refine (wpIn_skip (x_t ?_))
      refine wpIn_seq ?_
      refine wpIn_region_lit ?_
      refine q_val hk (w_mv rfl) rfl rfl rfl fun a hk => ?_
      refine q_call (caps := []) hk rfl rfl Tryd.func25 fo25 rfl rfl (refCount_c L (by omega) _) ?_
      rintro _ _ ⟨rfl, rfl⟩
      refine ⟨_, rfl, fun a hk => ?_⟩
      refine q_val hk (w_mul rfl rfl (wr64 (by omega) (by omega))) rfl rfl rfl fun a hk => ?_
      refine q_val hk (w_add rfl rfl (wr64 (by omega) (by omega))) rfl rfl rfl fun a hk => ?_
      refine q_val hk (w_as rfl) rfl rfl rfl fun a hk => ?_
      refine (c_end (x_t ?_))
      refine (wpIn_ret ?_)
      refine c_ret1 hk rfl rfl ?_
      refine ⟨?_, hs.toBelow⟩
      unfold rsz
      first | rw [if_neg (by omega)] | (rw [if_pos (by omega), show (38 : Int) + 32 * ((cn L : Nat) : Int) = (38 + (32 * ((cn L : Nat) : Int))) by omega])
/-- What Large says of one share of n elements. -/
def lgE (n : Nat) : Int := if 5000 ≤ n then 1 else 0
theorem large15_c (b0 : Nat) (F T I L : Int) (la : Option Addr) (n lc : Nat) (W : World) (HB : (blk b0 [.int .i64 F, .int .i64 T, .int .i64 I, .int .i64 L, .slice la n lc] 27).ok W) : Calls Tryd.prog 26 [.slice (some ⟨b0, 0, none⟩) 1 1].toArray W fun e w => e = .returned (.int .i64 (lgE n)) ∧ Below W.heap.size W w := by
  refine c_enter (args := [.slice (some ⟨b0, 0, none⟩) 1 1]) Tryd.func26 rfl rfl rfl fun a hk => ?_
  have hs := Sat.start W [blk b0 [.int .i64 F, .int .i64 T, .int .i64 I, .int .i64 L, .slice la n lc] 27] (okr1 HB)
  refine wpIn_seq ?_
  refine wpIn_region_lit ?_
  refine q_val hk (w_as rfl) rfl rfl rfl fun a hk => ?_
  refine (c_end (x_t ?_))
  refine wpIn_seq ?_
  refine wpIn_region_lit ?_
  refine q_val hk (w_as rfl) rfl rfl rfl fun a hk => ?_
  refine (c_end (x_t ?_))
  refine wpIn_seq ?_
  refine wpIn_seq ?_
  refine wpIn_region_lit ?_
  refine q_val hk (w_mv rfl) rfl rfl rfl fun a hk => ?_
  refine q_val hk (w_len rfl Tryd.underlying41) rfl rfl rfl fun a hk => ?_
  refine q_val hk (w_mv rfl) rfl rfl rfl fun a hk => ?_
  refine (c_end (x_t ?_))
  refine wpIn_block ?_
  refine c_rounds 2 ?_
  refine c_rsucc ?_
  refine wpIn_seq ?_
  refine wpIn_region_lit ?_
  refine q_val hk (w_lt rfl rfl (decide_eq_true (by decide))) rfl rfl rfl fun a hk => ?_
  refine (c_end (x_t ?_))
  refine wpIn_seq ?_
  refine c_T hk rfl ?_
  refine (wpIn_skip (x_t ?_))
  refine wpIn_seq ?_
  refine wpIn_block ?_
  refine wpIn_seq ?_
  refine wpIn_region_lit ?_
  refine q_val hk (w_iaL (k := 0) rfl rfl Tryd.underlying41 ty27 (blk_lst (hs.ri 0 rfl) rfl (Nat.le_refl _)) (by omega) (by omega)) rfl rfl rfl fun a hk => ?_
  refine q_val hk (w_ldA rfl ty27 (.blk (n := 5) (hs.ri 0 rfl) rfl) rfl) rfl rfl rfl fun a hk => ?_
  refine q_alc (vs := [.int .i64 0, .int .i64 0, .int .i64 0, .int .i64 0, .slice none 0 0]) hk hs zr27 rfl rfl rfl fun b1 w a hk hs => ?_
  refine q_sto (o := 0) (cs := [.int .i64 F, .int .i64 T, .int .i64 I, .int .i64 L, .slice la n lc]) (vs' := [.int .i64 F, .int .i64 T, .int .i64 I, .int .i64 L, .slice la n lc]) hk hs rfl rfl rfl ty27 rfl rfl rfl rfl rfl rfl fun w hs => ?_
  refine (c_end (x_t ?_))
  refine wpIn_seq ?_
  refine wpIn_region_lit ?_
  refine q_val hk (w_mv rfl) rfl rfl rfl fun a hk => ?_
  refine q_val hk (w_fa rfl fq27_4 ty25) rfl rfl rfl fun a hk => ?_
  refine q_val hk (w_ld1 rfl ty25 (.blk (n := 1) (hs.mi 0 rfl) rfl)) rfl rfl rfl fun a hk => ?_
  refine q_val hk (w_len rfl Tryd.underlying25) rfl rfl rfl fun a hk => ?_
  refine q_val hk (w_min rfl rfl rfl) rfl rfl rfl fun a hk => ?_
  refine q_val hk (w_add rfl rfl (wr64 (by omega) (by omega))) rfl rfl rfl fun a hk => ?_
  refine q_val hk (w_add rfl rfl (wr64 (by omega) (by omega))) rfl rfl rfl fun a hk => ?_
  refine q_val hk (w_as rfl) rfl rfl rfl fun a hk => ?_
  refine (c_end (x_t ?_))
  refine wpIn_seq ?_
  refine wpIn_region_lit ?_
  refine q_val hk (w_mv rfl) rfl rfl rfl fun a hk => ?_
  rcases Classical.em (5000 < (0 + (1 + (min ((n : Nat) : Int) 5000)))) with hc2 | hc2
  · skip
    refine q_val hk (w_gt rfl rfl (decide_eq_true hc2)) rfl rfl rfl fun a hk => ?_
    refine q_val hk (w_mv rfl) rfl rfl rfl fun a hk => ?_
    refine q_skip hk rfl rfl fun a hk => ?_
    refine q_skip hk rfl rfl fun a hk => ?_
    refine q_skip hk rfl rfl fun a hk => ?_
    refine q_val hk (w_pickT rfl rfl) rfl rfl rfl fun a hk => ?_
    refine (c_end (x_t ?_))
    refine c_T hk rfl ?_
    refine wpIn_seq ?_
    refine wpIn_region_lit ?_
    refine q_val hk (w_as rfl) rfl rfl rfl fun a hk => ?_
    refine (c_end (x_t ?_))
    refine (wpIn_ret (x_br (x_tr (x_tr (x_br (x_tr ?_))))))
    refine c_ret1 hk rfl rfl ?_
    refine ⟨?_, hs.toBelow⟩
    unfold lgE
    first | rw [if_neg (by omega)] | rw [if_pos (by omega)]
  · skip
    refine q_val hk (w_gt rfl rfl (decide_eq_false hc2)) rfl rfl rfl fun a hk => ?_
    refine q_val hk (w_mv rfl) rfl rfl rfl fun a hk => ?_
    refine q_val hk (w_mv rfl) rfl rfl rfl fun a hk => ?_
    refine q_val hk (w_len rfl Tryd.underlying41) rfl rfl rfl fun a hk => ?_
    refine q_val hk (w_gt rfl rfl (decide_eq_false (by decide))) rfl rfl rfl fun a hk => ?_
    refine q_val hk (w_pickF rfl rfl) rfl rfl rfl fun a hk => ?_
    refine (c_end (x_t ?_))
    refine c_F hk rfl ?_
    refine (wpIn_skip (x_b (x_t ?_)))
    refine wpIn_region_lit ?_
    refine q_val hk (w_add (r := 1) rfl rfl (by decide)) rfl rfl rfl fun a hk => ?_
    refine q_val hk (w_mv rfl) rfl rfl rfl fun a hk => ?_
    refine (c_end (x_t ?_))
    refine c_rsucc ?_
    refine wpIn_seq ?_
    refine wpIn_region_lit ?_
    refine q_val hk (w_lt rfl rfl (decide_eq_false (by decide))) rfl rfl rfl fun a hk => ?_
    refine (c_end (x_t ?_))
    refine wpIn_seq ?_
    refine c_F hk rfl ?_
    refine (wpIn_exit (x_te (x_te (x_be ?_))))
    refine (x_t ?_)
    refine wpIn_seq ?_
    refine wpIn_region_lit ?_
    refine q_val hk (w_as rfl) rfl rfl rfl fun a hk => ?_
    refine (c_end (x_t ?_))
    refine (wpIn_ret ?_)
    refine c_ret1 hk rfl rfl ?_
    refine ⟨?_, hs.toBelow⟩
    unfold lgE
    first | rw [if_neg (by omega)] | rw [if_pos (by omega)]
theorem large_c (F T I L : Int) (la : Option Addr) (n lc : Nat) (W : World)  : Calls Tryd.prog 12 [.agg #[.int .i64 F, .int .i64 T, .int .i64 I, .int .i64 L, .slice la n lc]].toArray W fun e w => e = .returned (.bool (decide (40 < n))) ∧ Below W.heap.size W w := by
  refine c_enter (args := [.agg #[.int .i64 F, .int .i64 T, .int .i64 I, .int .i64 L, .slice la n lc]]) Tryd.func12 rfl rfl rfl fun a hk => ?_
  have hs := Sat.start W [] (fun _ h => by cases h)
  refine wpIn_seq ?_
  refine wpIn_region_lit ?_
  refine q_box (vs := [.int .i64 F, .int .i64 T, .int .i64 I, .int .i64 L, .slice la n lc]) hk hs rfl rfl rfl rfl fun b1 w a hk hs => ?_
  refine q_val hk (w_as rfl) rfl rfl rfl fun a hk => ?_
  refine (c_end (x_t ?_))
  refine wpIn_seq ?_
  refine wpIn_region_lit ?_
  refine q_val hk (w_ldA rfl ty27 (.blk (n := 5) (hs.mi 0 rfl) rfl) rfl) rfl rfl rfl fun a hk => ?_
  refine q_bsl (els := [.tmp 3]) (cs := [.int .i64 F, .int .i64 T, .int .i64 I, .int .i64 L, .slice la n lc]) hk hs rfl Tryd.underlying41 ty27 zr27 rfl rfl rfl rfl rfl rfl rfl fun b2 w a hk hs => ?_
  refine q_call (caps := []) hk rfl rfl Tryd.func26 fo26 rfl rfl (large15_c b2 _ _ _ _ _ _ _ _ (hs.mi 0 rfl)) ?_
  rintro _ w ⟨rfl, hb⟩
  have hs := hs.below hb
  refine ⟨_, rfl, fun a hk => ?_⟩
  rcases Classical.em (0 < (lgE n)) with hc3 | hc3
  · skip
    refine q_val hk (w_gt rfl rfl (decide_eq_true hc3)) rfl rfl rfl fun a hk => ?_
    refine q_val hk (w_mv rfl) rfl rfl rfl fun a hk => ?_
    refine q_skip hk rfl rfl fun a hk => ?_
    refine q_skip hk rfl rfl fun a hk => ?_
    refine q_skip hk rfl rfl fun a hk => ?_
    refine q_skip hk rfl rfl fun a hk => ?_
    refine q_val hk (w_pickT rfl rfl) rfl rfl rfl fun a hk => ?_
    refine q_val hk (w_as rfl) rfl rfl rfl fun a hk => ?_
    refine (c_end (x_t ?_))
    refine (wpIn_ret ?_)
    refine c_ret1 hk rfl rfl ?_
    refine ⟨?_, hs.toBelow⟩
    have hq : (0 < lgE n) ↔ 5000 ≤ n := by unfold lgE; split <;> omega
    first | rw [decide_eq_true (show 40 < n by omega)] | rw [decide_eq_false (show ¬ 40 < n by omega)]
  · skip
    refine q_val hk (w_gt rfl rfl (decide_eq_false hc3)) rfl rfl rfl fun a hk => ?_
    refine q_val hk (w_mv rfl) rfl rfl rfl fun a hk => ?_
    refine q_val hk (w_fa rfl fq27_4 ty25) rfl rfl rfl fun a hk => ?_
    refine q_val hk (w_ld1 rfl ty25 (.blk (n := 1) (hs.mi 1 rfl) rfl)) rfl rfl rfl fun a hk => ?_
    refine q_val hk (w_len rfl Tryd.underlying25) rfl rfl rfl fun a hk => ?_
    rcases Classical.em (40 < ((n : Nat) : Int)) with hc4 | hc4
    · skip
      refine q_val hk (w_gt rfl rfl (decide_eq_true hc4)) rfl rfl rfl fun a hk => ?_
      refine q_val hk (w_pickF rfl rfl) rfl rfl rfl fun a hk => ?_
      refine q_val hk (w_as rfl) rfl rfl rfl fun a hk => ?_
      refine (c_end (x_t ?_))
      refine (wpIn_ret ?_)
      refine c_ret1 hk rfl rfl ?_
      refine ⟨?_, hs.toBelow⟩
      have hq : (0 < lgE n) ↔ 5000 ≤ n := by unfold lgE; split <;> omega
      first | rw [decide_eq_true (show 40 < n by omega)] | rw [decide_eq_false (show ¬ 40 < n by omega)]
    · skip
      refine q_val hk (w_gt rfl rfl (decide_eq_false hc4)) rfl rfl rfl fun a hk => ?_
      refine q_val hk (w_pickF rfl rfl) rfl rfl rfl fun a hk => ?_
      refine q_val hk (w_as rfl) rfl rfl rfl fun a hk => ?_
      refine (c_end (x_t ?_))
      refine (wpIn_ret ?_)
      refine c_ret1 hk rfl rfl ?_
      refine ⟨?_, hs.toBelow⟩
      have hq : (0 < lgE n) ↔ 5000 ≤ n := by unfold lgE; split <;> omega
      first | rw [decide_eq_true (show 40 < n by omega)] | rw [decide_eq_false (show ¬ 40 < n by omega)]
/-- The header of a record. -/
def hdB (F T I L : Int) : List Nat := [1, F.toNat, T.toNat, I.toNat, (L % 256).toNat, (L / 256).toNat]
theorem hd_cells {F T I L : Int} (h1 : 0 ≤ F) (h2 : 0 ≤ T) (h3 : 0 ≤ I) (h4 : 0 ≤ L) : [.int .u8 1, .int .u8 F, .int .u8 T, .int .u8 I, .int .u8 (L % 256), .int .u8 (L / 256)] = el bc (hdB F T I L) := by
  have e1 : ((F.toNat : Nat) : Int) = F := Int.toNat_of_nonneg h1
  have e2 : ((T.toNat : Nat) : Int) = T := Int.toNat_of_nonneg h2
  have e3 : ((I.toNat : Nat) : Int) = I := Int.toNat_of_nonneg h3
  have e4 : (((L % 256).toNat : Nat) : Int) = L % 256 := Int.toNat_of_nonneg (by omega)
  have e5 : (((L / 256).toNat : Nat) : Int) = L / 256 := Int.toNat_of_nonneg (by omega)
  simp only [el, bc, hdB, List.flatMap_cons, List.flatMap_nil, List.cons_append, List.nil_append, e1, e2, e3, e4, e5]
  rfl
theorem hdB_lt {F T I L : Int} (h1 : F ≤ 255) (h2 : T ≤ 255) (h3 : I ≤ 255) (h4 : L ≤ 65535) : ∀ x ∈ hdB F T I L, x < 256 := by
  intro x hx
  simp only [hdB, List.mem_cons, List.not_mem_nil, or_false] at hx
  omega
/-- The bytes of k elements. -/
def els (s : Bool) (X : Nat → Nat) (k : Nat) : List Nat := (List.range k).flatMap fun i => eb (valm s (X i))
theorem els_succ (s : Bool) (X : Nat → Nat) (k : Nat) : els s X (k + 1) = els s X k ++ eb (valm s (X k)) := by simp [els, List.range_succ]
theorem els_len (s : Bool) (X : Nat → Nat) (k : Nat) : (els s X k).length = 32 * k := by
  induction k with
  | zero => rfl
  | succ k ih => rw [els_succ, List.length_append, ih, eb_len]; omega
theorem els_lt (s : Bool) (X : Nat → Nat) (k : Nat) : ∀ x ∈ els s X k, x < 256 := by
  intro x hx
  unfold els at hx
  rw [List.mem_flatMap] at hx
  obtain ⟨i, _, hx⟩ := hx
  exact eb_lt _ x hx
theorem els_fold (A : List Nat) (s : Bool) (X : Nat → Nat) (k : Nat) : el bc (A ++ els s X k) ++ el bc (eb (valm s (X k))) = el bc (A ++ els s X (k + 1)) := by rw [el_app, List.append_assoc, ← els_succ]
/-- A record ahead of its sum. -/
def bodyB (s : Bool) (T I L : Int) (n : Nat) (X : Nat → Nat) : List Nat := hdB (fid s) T I L ++ els s X n
theorem bodyB_lt {s : Bool} {T I L : Int} (h2 : T ≤ 255) (h3 : I ≤ 255) (h4 : L ≤ 65535) (n : Nat) (X : Nat → Nat) : ∀ x ∈ bodyB s T I L n X, x < 256 := by
  intro x hx
  rcases List.mem_append.1 hx with hx | hx
  · exact hdB_lt (by cases s <;> decide) h2 h3 h4 x hx
  · exact els_lt s X n x hx
theorem bodyB_len (s : Bool) (T I L : Int) (n : Nat) (X : Nat → Nat) : (bodyB s T I L n X).length = 6 + 32 * n := by unfold bodyB; rw [List.length_append, els_len]; rfl
/-- What Encode says. -/
def rB (F T I L : Int) (n : Nat) (X : Nat → Nat) : List Nat := if shErr F T I L n X = 0 then bodyB (decide (F = 2)) T I L n X ++ shaL (bodyB (decide (F = 2)) T I L n X) else []
theorem shErr_zero {F T I L : Int} {n : Nat} {X : Nat → Nat} (h : shErr F T I L n X = 0) : (F = 1 ∨ F = 2) ∧ (1 ≤ T ∧ T ≤ 255) ∧ (1 ≤ I ∧ I ≤ 255) ∧ (0 ≤ L ∧ L ≤ 65535) ∧ n = cn L ∧ okB (decide (F = 2)) X n = true := by
  unfold shErr at h
  (repeat' split at h) <;> first | omega | exact ⟨by assumption, by assumption, by assumption, by assumption, by assumption, by assumption⟩
theorem recEnc_bad (F T I L : Int) (la : Option Addr) (n lc : Nat) (X : Nat → Nat) (W : World) (HX : LstAt W 4 (.slice la n lc) n (en vq X n)) (hn : n ≤ 100000000) (H4 : ∀ i, i < n → X i < R4) (HL : Laid W) (HS : Sh.Laid W) (he : shErr F T I L n X ≠ 0) : Calls Tryd.prog 13 [.agg #[.int .i64 F, .int .i64 T, .int .i64 I, .int .i64 L, .slice la n lc]].toArray W fun e w => ∃ a k c, e = .returned (.tuple #[.slice a k c, .int .i64 (shErr F T I L n X)]) ∧ Sat no W [row 5 1 (.slice a k c) k (el bc (rB F T I L n X))] [] w := by
  refine c_enter (args := [.agg #[.int .i64 F, .int .i64 T, .int .i64 I, .int .i64 L, .slice la n lc]]) Tryd.func13 rfl rfl rfl fun a hk => ?_
  have hs := Sat.start W [lst 4 (.slice la n lc) n (en vq X n)] (okr1 HX)
  refine wpIn_seq ?_
  refine wpIn_region_lit ?_
  refine q_box (vs := [.int .i64 F, .int .i64 T, .int .i64 I, .int .i64 L, .slice la n lc]) hk hs rfl rfl rfl rfl fun b1 w a hk hs => ?_
  refine q_val hk (w_as rfl) rfl rfl rfl fun a hk => ?_
  refine q_val hk (w_as rfl) rfl rfl rfl fun a hk => ?_
  refine (c_end (x_t ?_))
  refine wpIn_seq ?_
  refine wpIn_seq ?_
  refine wpIn_region_lit ?_
  refine q_val hk (w_ldA rfl ty27 (.blk (n := 5) (hs.mi 0 rfl) rfl) rfl) rfl rfl rfl fun a hk => ?_
  refine q_call (caps := []) hk rfl rfl Tryd.func27 fo27 rfl rfl (ckShare_c F T I L _ _ _ X _ (hs.ri 0 rfl) hn H4 (HL.step hs.toBelow)) ?_
  rintro _ w ⟨rfl, hb⟩
  have hs := hs.below hb
  refine ⟨_, rfl, fun a hk => ?_⟩
  refine q_val hk (w_as rfl) rfl rfl rfl fun a hk => ?_
  refine (c_end (x_t ?_))
  refine wpIn_seq ?_
  refine wpIn_region_lit ?_
  refine q_val hk (w_mv rfl) rfl rfl rfl fun a hk => ?_
  refine q_val hk (w_ne rfl rfl (decide_eq_true he)) rfl rfl rfl fun a hk => ?_
  refine (c_end (x_t ?_))
  refine c_T hk rfl ?_
  refine wpIn_seq ?_
  refine wpIn_region_lit ?_
  refine q_val hk (w_mv rfl) rfl rfl rfl fun a hk => ?_
  refine q_val hk (w_as rfl) rfl rfl rfl fun a hk => ?_
  refine q_val hk (w_as rfl) rfl rfl rfl fun a hk => ?_
  refine (c_end (x_t ?_))
  refine (wpIn_ret (x_tr ?_))
  refine c_ret2 hk rfl rfl rfl ?_
  have hs := hs.drop
  refine ⟨none, 0, 0, rfl, ?_⟩
  unfold rB
  rw [if_neg he]
  exact (hs.row0 _ _).fin
theorem recEnc_ok (s : Bool) (T I L : Int) (la : Option Addr) (n lc : Nat) (X : Nat → Nat) (W : World) (HX : LstAt W 4 (.slice la n lc) n (en vq X n)) (hn : n ≤ 100000000) (H4 : ∀ i, i < n → X i < R4) (HL : Laid W) (HS : Sh.Laid W) (he : shErr (fid s) T I L n X = 0) : Calls Tryd.prog 13 [.agg #[.int .i64 (fid s), .int .i64 T, .int .i64 I, .int .i64 L, .slice la n lc]].toArray W fun e w => ∃ a k c, e = .returned (.tuple #[.slice a k c, .int .i64 (shErr (fid s) T I L n X)]) ∧ Sat no W [row 5 1 (.slice a k c) k (el bc (rB (fid s) T I L n X))] [] w := by
  have hfb : 0 ≤ fid s ∧ fid s ≤ 2 := by cases s <;> decide
  have hcn := cn_small L
  obtain ⟨_, hT, hI, hL, hnc, hob⟩ := shErr_zero he
  rw [fid_dec] at hob
  refine c_enter (args := [.agg #[.int .i64 (fid s), .int .i64 T, .int .i64 I, .int .i64 L, .slice la n lc]]) Tryd.func13 rfl rfl rfl fun a hk => ?_
  have hs := Sat.start W [lst 4 (.slice la n lc) n (en vq X n)] (okr1 HX)
  refine wpIn_seq ?_
  refine wpIn_region_lit ?_
  refine q_box (vs := [.int .i64 (fid s), .int .i64 T, .int .i64 I, .int .i64 L, .slice la n lc]) hk hs rfl rfl rfl rfl fun b1 w a hk hs => ?_
  refine q_val hk (w_as rfl) rfl rfl rfl fun a hk => ?_
  refine q_val hk (w_as rfl) rfl rfl rfl fun a hk => ?_
  refine (c_end (x_t ?_))
  refine wpIn_seq ?_
  refine wpIn_seq ?_
  refine wpIn_region_lit ?_
  refine q_val hk (w_ldA rfl ty27 (.blk (n := 5) (hs.mi 0 rfl) rfl) rfl) rfl rfl rfl fun a hk => ?_
  refine q_call (caps := []) hk rfl rfl Tryd.func27 fo27 rfl rfl (ckShare_c (fid s) T I L _ _ _ X _ (hs.ri 0 rfl) hn H4 (HL.step hs.toBelow)) ?_
  rintro _ w ⟨rfl, hb⟩
  have hs := hs.below hb
  refine ⟨_, rfl, fun a hk => ?_⟩
  refine q_val hk (w_as rfl) rfl rfl rfl fun a hk => ?_
  refine (c_end (x_t ?_))
  refine wpIn_seq ?_
  refine wpIn_region_lit ?_
  refine q_val hk (w_mv rfl) rfl rfl rfl fun a hk => ?_
  refine q_val hk (w_ne rfl rfl (decide_eq_false (fun h => h he))) rfl rfl rfl fun a hk => ?_
  refine (c_end (x_t ?_))
  refine c_F hk rfl ?_
  refine (wpIn_skip (x_t ?_))
  refine wpIn_seq ?_
  refine wpIn_region_lit ?_
  refine q_val hk (w_fa rfl fq27_0 ty3) rfl rfl rfl fun a hk => ?_
  refine q_val hk (w_ld1 rfl ty3 (.blk (n := 1) (hs.mi 0 rfl) rfl)) rfl rfl rfl fun a hk => ?_
  refine q_call (caps := []) hk rfl rfl Tryd.func28 fo28 rfl rfl (get_c s _ (HL.step hs.toBelow)) ?_
  rintro _ w ⟨rfl, hb⟩
  have hs := hs.below hb
  refine ⟨_, rfl, fun a hk => ?_⟩
  refine q_val hk (w_mv rfl) rfl rfl rfl fun a hk => ?_
  refine q_val hk (w_ext rfl rfl) rfl rfl rfl fun a hk => ?_
  refine q_val hk (w_ext rfl rfl) rfl rfl rfl fun a hk => ?_
  refine q_alc (vs := [.int .i64 0, .int .u64 0, .int .u64 0, .int .u64 0, .int .u64 0, .int .u64 0, .int .u64 0, .int .u64 0, .int .u64 0, .int .u64 0, .int .u64 0, .int .u64 0, .int .u64 0, .int .u64 0]) hk hs zr53 rfl rfl rfl fun b2 w a hk hs => ?_
  refine q_sto (o := 0) (cs := fieldL s) (vs' := fieldL s) hk hs rfl rfl rfl ty53 rfl rfl rfl rfl rfl rfl fun w hs => ?_
  refine q_val hk (w_as rfl) rfl rfl rfl fun a hk => ?_
  refine (c_end (x_t ?_))
  refine wpIn_seq ?_
  refine wpIn_region_lit ?_
  refine q_val hk (w_fa rfl fq27_0 ty3) rfl rfl rfl fun a hk => ?_
  refine q_val hk (w_ld1 rfl ty3 (.blk (n := 1) (hs.mi 1 rfl) rfl)) rfl rfl rfl fun a hk => ?_
  refine q_val hk (w_conv rfl Tryd.underlying3 Tryd.underlying5 (wru8 (by omega) (by omega))) rfl rfl rfl fun a hk => ?_
  refine q_val hk (w_fa rfl fq27_1 ty3) rfl rfl rfl fun a hk => ?_
  refine q_val hk (w_ld1 rfl ty3 (.blk (n := 1) (hs.mi 1 rfl) rfl)) rfl rfl rfl fun a hk => ?_
  refine q_val hk (w_conv rfl Tryd.underlying3 Tryd.underlying5 (wru8 (by omega) (by omega))) rfl rfl rfl fun a hk => ?_
  refine q_val hk (w_fa rfl fq27_2 ty3) rfl rfl rfl fun a hk => ?_
  refine q_val hk (w_ld1 rfl ty3 (.blk (n := 1) (hs.mi 1 rfl) rfl)) rfl rfl rfl fun a hk => ?_
  refine q_val hk (w_conv rfl Tryd.underlying3 Tryd.underlying5 (wru8 (by omega) (by omega))) rfl rfl rfl fun a hk => ?_
  refine q_val hk (w_fa rfl fq27_3 ty3) rfl rfl rfl fun a hk => ?_
  refine q_val hk (w_ld1 rfl ty3 (.blk (n := 1) (hs.mi 1 rfl) rfl)) rfl rfl rfl fun a hk => ?_
  refine q_val hk (w_conv rfl Tryd.underlying3 Tryd.underlying5 (wru8m L)) rfl rfl rfl fun a hk => ?_
  refine q_val hk (w_fa rfl fq27_3 ty3) rfl rfl rfl fun a hk => ?_
  refine q_val hk (w_ld1 rfl ty3 (.blk (n := 1) (hs.mi 1 rfl) rfl)) rfl rfl rfl fun a hk => ?_
  refine q_val hk (w_shr (r := L / 256) rfl rfl (by decide) rfl) rfl rfl rfl fun a hk => ?_
  refine q_val hk (w_conv rfl Tryd.underlying3 Tryd.underlying5 (wru8 (by omega) (by omega))) rfl rfl rfl fun a hk => ?_
  refine q_bsl (els := [.const (.int .u8 1), .tmp 23, .tmp 26, .tmp 29, .tmp 32, .tmp 36]) (cs := [.int .u8 1, .int .u8 (fid s), .int .u8 T, .int .u8 I, .int .u8 (L % 256), .int .u8 (L / 256)]) hk hs rfl Tryd.underlying29 ty5 zr5 rfl rfl rfl rfl rfl rfl rfl fun b3 w a hk hs => ?_
  have hs := hs.toRow (xs := el bc (hdB (fid s) T I L)) (n := 6) (sz := 1) (hd_cells hfb.1 (by omega) (by omega) (by omega)) (by rw [el_len bc_len]; rfl) (by omega)
  refine q_val hk (w_as rfl) rfl rfl rfl fun a hk => ?_
  refine (c_end (x_t ?_))
  refine wpIn_seq ?_
  refine wpIn_seq ?_
  refine wpIn_region_lit ?_
  refine q_val hk (w_fa rfl fq27_4 ty25) rfl rfl rfl fun a hk => ?_
  refine q_val hk (w_ld1 rfl ty25 (.blk (n := 1) (hs.mi 2 rfl) rfl)) rfl rfl rfl fun a hk => ?_
  refine q_val hk (w_len rfl Tryd.underlying25) rfl rfl rfl fun a hk => ?_
  refine q_val hk (w_mv rfl) rfl rfl rfl fun a hk => ?_
  refine (c_end (x_t ?_))
  refine wpIn_block ?_
  refine c_loop (α := Nat) (fun k a w => ∃ (ao : Option Addr) (mo : Nat) (co : Nat), k ≤ n ∧ mo = 6 + 32 * k ∧ Kn 53 [(41, .int .i64 (k : Int)), (7, .slice ao mo co), (40, .int .i64 ((n : Nat) : Int)), (39, .slice la n lc), (5, .pointer (some ⟨b2, 0, none⟩)), (3, .int .i64 0), (2, .slice none 0 0)] a ∧ Sat no W [row 5 1 (.slice ao mo co) mo (el bc (hdB (fid s) T I L ++ els s X k)), blk b2 (fieldL s) 53, blk b1 [.int .i64 (fid s), .int .i64 T, .int .i64 I, .int .i64 L, .slice la n lc] 27] [lst 4 (.slice la n lc) n (en vq X n)] w) (fun k => n - k) 0 ?_ ?_
  · exact ⟨_, _, _, (by omega), (by omega), hk.k rfl (hk.k rfl (hk.k rfl (hk.k rfl (hk.k rfl (hk.k rfl (hk.k rfl hk.nil)))))), hs⟩
  rintro k a w ⟨ao, mo, co, hf0, hf1, hk, hs⟩
  refine wpIn_seq ?_
  refine wpIn_region_lit ?_
  rcases Classical.em ((k : Int) < ((n : Nat) : Int)) with hc4 | hc4
  · skip
    have hlt : k < n := by omega
    refine q_val hk (w_lt rfl rfl (decide_eq_true hc4)) rfl rfl rfl fun a hk => ?_
    refine (c_end (x_t ?_))
    refine wpIn_seq ?_
    refine c_T hk rfl ?_
    refine (wpIn_skip (x_t ?_))
    refine wpIn_seq ?_
    refine wpIn_block ?_
    refine wpIn_seq ?_
    refine wpIn_region_lit ?_
    refine q_val hk (w_iaL (k := k) rfl rfl Tryd.underlying25 ty51 (hs.ri 0 rfl) (by omega) (by omega)) rfl rfl rfl fun a hk => ?_
    refine q_val hk (w_ldv (z := X k) rfl ty51 (lstq (k := k) (hs.ri 0 rfl) (by omega) (en_chunk vq_len (by omega)))) rfl rfl rfl fun a hk => ?_
    refine q_alc (vs := [.int .u64 0, .int .u64 0, .int .u64 0, .int .u64 0]) hk hs zr51 rfl rfl rfl fun b5 w a hk hs => ?_
    refine q_sto (o := 0) (cs := [.int .u64 ((dg 0 (X k) : Nat) : Int), .int .u64 ((dg 1 (X k) : Nat) : Int), .int .u64 ((dg 2 (X k) : Nat) : Int), .int .u64 ((dg 3 (X k) : Nat) : Int)]) (vs' := [.int .u64 ((dg 0 (X k) : Nat) : Int), .int .u64 ((dg 1 (X k) : Nat) : Int), .int .u64 ((dg 2 (X k) : Nat) : Int), .int .u64 ((dg 3 (X k) : Nat) : Int)]) hk hs rfl rfl rfl ty51 rfl rfl rfl rfl rfl rfl fun w hs => ?_
    refine (c_end (x_t ?_))
    refine wpIn_region_lit ?_
    refine q_val hk (w_mv rfl) rfl rfl rfl fun a hk => ?_
    refine q_val hk (w_ldA rfl ty53 (.blk (n := 14) (hs.mi 2 rfl) rfl) rfl) rfl rfl rfl fun a hk => ?_
    refine q_val hk (w_ldv (z := X k) rfl ty51 (.blk (n := 4) (hs.mi 0 rfl) rfl)) rfl rfl rfl fun a hk => ?_
    refine q_call (caps := []) hk rfl rfl Tryd.func29 fo29 rfl rfl (encodeQ s (X k) (okB_at hob hlt) _) ?_
    rintro _ w ⟨a6, c7, rfl, hS⟩
    have hs := hs.call1 hS
    clear hS
    refine ⟨_, rfl, fun a hk => ?_⟩
    have hs := hs.up2
    refine q_appL (news := (el bc (eb (valm s (X k))))) (mm := 32) hk hs rfl rfl Tryd.underlying29 ty5 zr5 rfl rfl (row_lst (hs.mi 1 rfl))  (el_ones bc_ones) (by omega) (by omega) rfl rfl fun a8 c9 w a hk hs => ?_
    have hs := hs.rw0 (congrArg _ (els_fold _ _ _ _))
    refine q_val hk (w_as rfl) rfl rfl rfl fun a hk => ?_
    refine (c_end (x_b (x_t ?_)))
    refine wpIn_region_lit ?_
    refine q_val hk (w_add rfl rfl (wr64 (by omega) (by omega))) rfl rfl rfl fun a hk => ?_
    refine q_val hk (w_mv rfl) rfl rfl rfl fun a hk => ?_
    refine (c_end (x_t ?_))
    have hs := hs.up1
    have hs := hs.drop
    have hs := hs.up1
    have hs := hs.drop
    exact ⟨k + 1, ⟨_, _, _, (by omega), (by omega), hk.k rfl (hk.k rfl (hk.k rfl (hk.k rfl (hk.k rfl (hk.k rfl (hk.k rfl hk.nil)))))), hs⟩, by omega⟩
  · skip
    obtain rfl : n = k := by omega
    refine q_val hk (w_lt rfl rfl (decide_eq_false hc4)) rfl rfl rfl fun a hk => ?_
    refine (c_end (x_t ?_))
    refine wpIn_seq ?_
    refine c_F hk rfl ?_
    refine (wpIn_exit (x_te (x_te (x_be ?_))))
    refine (x_t ?_)
    refine wpIn_seq ?_
    refine wpIn_region_lit ?_
    refine q_val hk (w_mv rfl) rfl rfl rfl fun a hk => ?_
    refine q_call (caps := []) hk rfl rfl Tryd.func30 fo30 rfl rfl (tagged_c _ _ _ (bodyB s T I L n X) _ (row_lst (hs.mi 0 rfl)) (bodyB_lt (by omega) (by omega) (by omega) _ _) (by omega) (HS.step hs.toBelow)) ?_
    rintro _ w ⟨a10, c11, rfl, hS⟩
    have hs := hs.call1 hS
    clear hS
    refine ⟨_, rfl, fun a hk => ?_⟩
    refine q_val hk (w_as rfl) rfl rfl rfl fun a hk => ?_
    refine q_val hk (w_as rfl) rfl rfl rfl fun a hk => ?_
    refine (c_end (x_t ?_))
    refine (wpIn_ret ?_)
    refine c_ret2 hk rfl rfl rfl ?_
    have hs := hs.up1
    have hs := hs.drop
    have hs := hs.up1
    have hs := hs.drop
    have hs := hs.up1
    have hs := hs.drop
    refine ⟨a10, (mo + 32), c11, by rw [he], ?_⟩
    unfold rB
    rw [if_pos he, fid_dec]
    exact hs.fin
theorem recEnc_c (F T I L : Int) (la : Option Addr) (n lc : Nat) (X : Nat → Nat) (W : World) (HX : LstAt W 4 (.slice la n lc) n (en vq X n)) (hn : n ≤ 100000000) (H4 : ∀ i, i < n → X i < R4) (HL : Laid W) (HS : Sh.Laid W) : Calls Tryd.prog 13 #[.agg #[.int .i64 F, .int .i64 T, .int .i64 I, .int .i64 L, .slice la n lc]] W fun e w => ∃ a k c, e = .returned (.tuple #[.slice a k c, .int .i64 (shErr F T I L n X)]) ∧ Sat no W [row 5 1 (.slice a k c) k (el bc (rB F T I L n X))] [] w := by
  by_cases he : shErr F T I L n X = 0
  · obtain ⟨hF | hF, _⟩ := shErr_zero he
    · subst hF; exact recEnc_ok false T I L la n lc X W HX hn H4 HL HS he
    · subst hF; exact recEnc_ok true T I L la n lc X W HX hn H4 HL HS he
  · exact recEnc_bad F T I L la n lc X W HX hn H4 HL HS he
theorem refRecEnc_bad (F T I L : Int) (la : Option Addr) (n lc : Nat) (X : Nat → Nat) (W : World) (HX : LstAt W 4 (.slice la n lc) n (en vq X n)) (hn : n ≤ 100000000) (H4 : ∀ i, i < n → X i < R4) (he : shErr F T I L n X ≠ 0) : Calls Tryd.prog 14 [.agg #[.int .i64 F, .int .i64 T, .int .i64 I, .int .i64 L, .slice la n lc]].toArray W fun e w => ∃ a k c, e = .returned (.tuple #[.slice a k c, .int .i64 (shErr F T I L n X)]) ∧ Sat no W [row 5 1 (.slice a k c) k (el bc (rB F T I L n X))] [] w := by
  refine c_enter (args := [.agg #[.int .i64 F, .int .i64 T, .int .i64 I, .int .i64 L, .slice la n lc]]) Tryd.func14 rfl rfl rfl fun a hk => ?_
  have hs := Sat.start W [lst 4 (.slice la n lc) n (en vq X n)] (okr1 HX)
  refine wpIn_seq ?_
  refine wpIn_region_lit ?_
  refine q_box (vs := [.int .i64 F, .int .i64 T, .int .i64 I, .int .i64 L, .slice la n lc]) hk hs rfl rfl rfl rfl fun b1 w a hk hs => ?_
  refine q_val hk (w_as rfl) rfl rfl rfl fun a hk => ?_
  refine q_val hk (w_as rfl) rfl rfl rfl fun a hk => ?_
  refine (c_end (x_t ?_))
  refine wpIn_seq ?_
  refine wpIn_region_lit ?_
  refine q_val hk (w_ldA rfl ty27 (.blk (n := 5) (hs.mi 0 rfl) rfl) rfl) rfl rfl rfl fun a hk => ?_
  refine q_call (caps := []) hk rfl rfl Tryd.func19 fo19 rfl rfl (refCkShare_c F T I L _ _ _ X _ (hs.ri 0 rfl) hn H4) ?_
  rintro _ w ⟨rfl, hb⟩
  have hs := hs.below hb
  refine ⟨_, rfl, fun a hk => ?_⟩
  refine q_val hk (w_as rfl) rfl rfl rfl fun a hk => ?_
  refine (c_end (x_t ?_))
  refine wpIn_seq ?_
  refine wpIn_seq ?_
  refine wpIn_region_lit ?_
  refine q_val hk (w_mv rfl) rfl rfl rfl fun a hk => ?_
  refine q_val hk (w_ne rfl rfl (decide_eq_true he)) rfl rfl rfl fun a hk => ?_
  refine (c_end (x_t ?_))
  refine c_T hk rfl ?_
  refine wpIn_seq ?_
  refine wpIn_region_lit ?_
  refine q_val hk (w_mv rfl) rfl rfl rfl fun a hk => ?_
  refine q_val hk (w_as rfl) rfl rfl rfl fun a hk => ?_
  refine q_val hk (w_as rfl) rfl rfl rfl fun a hk => ?_
  refine (c_end (x_t ?_))
  refine (wpIn_ret (x_tr ?_))
  refine c_ret2 hk rfl rfl rfl ?_
  have hs := hs.drop
  refine ⟨none, 0, 0, rfl, ?_⟩
  unfold rB
  rw [if_neg he]
  exact (hs.row0 _ _).fin
theorem refRecEnc_ok (s : Bool) (T I L : Int) (la : Option Addr) (n lc : Nat) (X : Nat → Nat) (W : World) (HX : LstAt W 4 (.slice la n lc) n (en vq X n)) (hn : n ≤ 100000000) (H4 : ∀ i, i < n → X i < R4) (he : shErr (fid s) T I L n X = 0) : Calls Tryd.prog 14 [.agg #[.int .i64 (fid s), .int .i64 T, .int .i64 I, .int .i64 L, .slice la n lc]].toArray W fun e w => ∃ a k c, e = .returned (.tuple #[.slice a k c, .int .i64 (shErr (fid s) T I L n X)]) ∧ Sat no W [row 5 1 (.slice a k c) k (el bc (rB (fid s) T I L n X))] [] w := by
  have hfb : 0 ≤ fid s ∧ fid s ≤ 2 := by cases s <;> decide
  have hcn := cn_small L
  obtain ⟨_, hT, hI, hL, hnc, hob⟩ := shErr_zero he
  rw [fid_dec] at hob
  refine c_enter (args := [.agg #[.int .i64 (fid s), .int .i64 T, .int .i64 I, .int .i64 L, .slice la n lc]]) Tryd.func14 rfl rfl rfl fun a hk => ?_
  have hs := Sat.start W [lst 4 (.slice la n lc) n (en vq X n)] (okr1 HX)
  refine wpIn_seq ?_
  refine wpIn_region_lit ?_
  refine q_box (vs := [.int .i64 (fid s), .int .i64 T, .int .i64 I, .int .i64 L, .slice la n lc]) hk hs rfl rfl rfl rfl fun b1 w a hk hs => ?_
  refine q_val hk (w_as rfl) rfl rfl rfl fun a hk => ?_
  refine q_val hk (w_as rfl) rfl rfl rfl fun a hk => ?_
  refine (c_end (x_t ?_))
  refine wpIn_seq ?_
  refine wpIn_region_lit ?_
  refine q_val hk (w_ldA rfl ty27 (.blk (n := 5) (hs.mi 0 rfl) rfl) rfl) rfl rfl rfl fun a hk => ?_
  refine q_call (caps := []) hk rfl rfl Tryd.func19 fo19 rfl rfl (refCkShare_c (fid s) T I L _ _ _ X _ (hs.ri 0 rfl) hn H4) ?_
  rintro _ w ⟨rfl, hb⟩
  have hs := hs.below hb
  refine ⟨_, rfl, fun a hk => ?_⟩
  refine q_val hk (w_as rfl) rfl rfl rfl fun a hk => ?_
  refine (c_end (x_t ?_))
  refine wpIn_seq ?_
  refine wpIn_seq ?_
  refine wpIn_region_lit ?_
  refine q_val hk (w_mv rfl) rfl rfl rfl fun a hk => ?_
  refine q_val hk (w_ne rfl rfl (decide_eq_false (fun h => h he))) rfl rfl rfl fun a hk => ?_
  refine (c_end (x_t ?_))
  refine c_F hk rfl ?_
  refine (wpIn_skip (x_t ?_))
  refine wpIn_seq ?_
  refine wpIn_region_lit ?_
  refine q_val hk (w_fa rfl fq27_0 ty3) rfl rfl rfl fun a hk => ?_
  refine q_val hk (w_ld1 rfl ty3 (.blk (n := 1) (hs.mi 0 rfl) rfl)) rfl rfl rfl fun a hk => ?_
  refine q_val hk (w_conv rfl Tryd.underlying3 Tryd.underlying5 (wru8 (by omega) (by omega))) rfl rfl rfl fun a hk => ?_
  refine q_val hk (w_fa rfl fq27_1 ty3) rfl rfl rfl fun a hk => ?_
  refine q_val hk (w_ld1 rfl ty3 (.blk (n := 1) (hs.mi 0 rfl) rfl)) rfl rfl rfl fun a hk => ?_
  refine q_val hk (w_conv rfl Tryd.underlying3 Tryd.underlying5 (wru8 (by omega) (by omega))) rfl rfl rfl fun a hk => ?_
  refine q_val hk (w_fa rfl fq27_2 ty3) rfl rfl rfl fun a hk => ?_
  refine q_val hk (w_ld1 rfl ty3 (.blk (n := 1) (hs.mi 0 rfl) rfl)) rfl rfl rfl fun a hk => ?_
  refine q_val hk (w_conv rfl Tryd.underlying3 Tryd.underlying5 (wru8 (by omega) (by omega))) rfl rfl rfl fun a hk => ?_
  refine q_val hk (w_fa rfl fq27_3 ty3) rfl rfl rfl fun a hk => ?_
  refine q_val hk (w_ld1 rfl ty3 (.blk (n := 1) (hs.mi 0 rfl) rfl)) rfl rfl rfl fun a hk => ?_
  refine q_val hk (w_rem rfl rfl (by omega) (wmd (by omega))) rfl rfl rfl fun a hk => ?_
  refine q_val hk (w_conv rfl Tryd.underlying3 Tryd.underlying5 (wru8 (by omega) (by omega))) rfl rfl rfl fun a hk => ?_
  refine q_val hk (w_fa rfl fq27_3 ty3) rfl rfl rfl fun a hk => ?_
  refine q_val hk (w_ld1 rfl ty3 (.blk (n := 1) (hs.mi 0 rfl) rfl)) rfl rfl rfl fun a hk => ?_
  refine q_val hk (w_quo rfl rfl (by omega) (wdv64 (by omega) (by omega) (by omega))) rfl rfl rfl fun a hk => ?_
  refine q_val hk (w_conv rfl Tryd.underlying3 Tryd.underlying5 (wru8 (by omega) (by omega))) rfl rfl rfl fun a hk => ?_
  refine q_bsl (els := [.const (.int .u8 1), .tmp 15, .tmp 18, .tmp 21, .tmp 25, .tmp 29]) (cs := [.int .u8 1, .int .u8 (fid s), .int .u8 T, .int .u8 I, .int .u8 (L % 256), .int .u8 (L / 256)]) hk hs rfl Tryd.underlying29 ty5 zr5 rfl rfl rfl rfl rfl rfl rfl fun b2 w a hk hs => ?_
  have hs := hs.toRow (xs := el bc (hdB (fid s) T I L)) (n := 6) (sz := 1) (hd_cells hfb.1 (by omega) (by omega) (by omega)) (by rw [el_len bc_len]; rfl) (by omega)
  refine q_val hk (w_as rfl) rfl rfl rfl fun a hk => ?_
  refine (c_end (x_t ?_))
  refine wpIn_seq ?_
  refine wpIn_region_lit ?_
  refine q_val hk (w_fa rfl fq27_0 ty3) rfl rfl rfl fun a hk => ?_
  refine q_val hk (w_ld1 rfl ty3 (.blk (n := 1) (hs.mi 1 rfl) rfl)) rfl rfl rfl fun a hk => ?_
  refine q_call (caps := []) hk rfl rfl Tryd.func31 fo31 rfl rfl (refModulus_c s _) ?_
  rintro _ w ⟨rfl, hb⟩
  have hs := hs.below hb
  refine ⟨_, rfl, fun a hk => ?_⟩
  refine q_alc (vs := [.int .u64 0, .int .u64 0, .int .u64 0, .int .u64 0]) hk hs zr50 rfl rfl rfl fun b3 w a hk hs => ?_
  refine q_sto (o := 0) (cs := [.int .u64 ((dg 0 (pr s) : Nat) : Int), .int .u64 ((dg 1 (pr s) : Nat) : Int), .int .u64 ((dg 2 (pr s) : Nat) : Int), .int .u64 ((dg 3 (pr s) : Nat) : Int)]) (vs' := [.int .u64 ((dg 0 (pr s) : Nat) : Int), .int .u64 ((dg 1 (pr s) : Nat) : Int), .int .u64 ((dg 2 (pr s) : Nat) : Int), .int .u64 ((dg 3 (pr s) : Nat) : Int)]) hk hs rfl rfl rfl ty50 rfl rfl rfl rfl rfl rfl fun w hs => ?_
  refine (c_end (x_t ?_))
  refine wpIn_seq ?_
  refine wpIn_seq ?_
  refine wpIn_region_lit ?_
  refine q_val hk (w_as rfl) rfl rfl rfl fun a hk => ?_
  refine (c_end (x_t ?_))
  refine wpIn_block ?_
  refine c_loop (α := Nat) (fun k a w => ∃ (ao : Option Addr) (mo : Nat) (co : Nat), k ≤ n ∧ mo = 6 + 32 * k ∧ Kn 53 [(7, .int .i64 (k : Int)), (5, .slice ao mo co), (6, .pointer (some ⟨b3, 0, none⟩)), (3, .int .i64 0), (2, .slice none 0 0), (1, .pointer (some ⟨b1, 0, none⟩))] a ∧ Sat no W [blk b3 [.int .u64 ((dg 0 (pr s) : Nat) : Int), .int .u64 ((dg 1 (pr s) : Nat) : Int), .int .u64 ((dg 2 (pr s) : Nat) : Int), .int .u64 ((dg 3 (pr s) : Nat) : Int)] 50, row 5 1 (.slice ao mo co) mo (el bc (hdB (fid s) T I L ++ els s X k)), blk b1 [.int .i64 (fid s), .int .i64 T, .int .i64 I, .int .i64 L, .slice la n lc] 27] [lst 4 (.slice la n lc) n (en vq X n)] w) (fun k => n - k) 0 ?_ ?_
  · exact ⟨_, _, _, (by omega), (by omega), hk.k rfl (hk.k rfl (hk.k rfl (hk.k rfl (hk.k rfl (hk.k rfl hk.nil))))), hs⟩
  rintro k a w ⟨ao, mo, co, hf0, hf1, hk, hs⟩
  refine wpIn_seq ?_
  refine wpIn_seq ?_
  refine wpIn_region_lit ?_
  refine q_val hk (w_mv rfl) rfl rfl rfl fun a hk => ?_
  refine q_val hk (w_fa rfl fq27_4 ty25) rfl rfl rfl fun a hk => ?_
  refine q_val hk (w_ld1 rfl ty25 (.blk (n := 1) (hs.mi 2 rfl) rfl)) rfl rfl rfl fun a hk => ?_
  refine q_val hk (w_len rfl Tryd.underlying25) rfl rfl rfl fun a hk => ?_
  rcases Classical.em ((k : Int) < ((n : Nat) : Int)) with hc4 | hc4
  · skip
    have hlt : k < n := by omega
    refine q_val hk (w_lt rfl rfl (decide_eq_true hc4)) rfl rfl rfl fun a hk => ?_
    refine (c_end (x_t ?_))
    refine c_T hk rfl ?_
    refine (wpIn_skip (x_t ?_))
    refine wpIn_seq ?_
    refine wpIn_block ?_
    have hL := okL.cons (hs.mi 0 rfl) (okL.cons (hs.mi 2 rfl) (okL.cons (hs.ri 0 rfl) okL.nil))
    refine d_begin _ 11 (by kernel_rfl) rfl hs hL fun w hs hL => ?_
    refine d_v 0 1 hk hL rfl (by kernel_rfl) rfl rfl (fun w hL => w_mv rfl) fun a hk => ?_
    refine d_v 1 3 hk hL rfl (by kernel_rfl) rfl rfl (fun w hL => w_ldv (z := pr s) rfl ty50 (.blk (n := 4) (hL.at 0 rfl) rfl)) fun a hk => ?_
    refine d_v 2 7 hk hL rfl (by kernel_rfl) rfl rfl (fun w hL => w_fa rfl fq27_4 ty25) fun a hk => ?_
    refine d_v 3 15 hk hL rfl (by kernel_rfl) rfl rfl (fun w hL => w_ld1 rfl ty25 (.blk (n := 1) (hL.at 1 rfl) rfl)) fun a hk => ?_
    refine d_v 4 31 hk hL rfl (by kernel_rfl) rfl rfl (fun w hL => w_mv rfl) fun a hk => ?_
    refine d_v 5 63 hk hL rfl (by kernel_rfl) rfl rfl (fun w hL => w_iaL (k := k) rfl rfl Tryd.underlying25 ty51 (hL.at 2 rfl) (by omega) (by omega)) fun a hk => ?_
    refine d_v 6 127 hk hL rfl (by kernel_rfl) rfl rfl (fun w hL => w_ldv (z := X k) rfl ty51 (lstq (k := k) (hL.at 2 rfl) (by omega) (en_chunk vq_len (by omega)))) fun a hk => ?_
    refine d_1 7 255 rfl (by kernel_rfl) fun K hK => ?_
    refine q_call (caps := []) hk rfl rfl Tryd.func33 fo33 rfl rfl (refValue_c s (X k) _ (okB_at hob hlt)) ?_
    rintro _ w ⟨rfl, hb⟩
    have hs := hs.below hb
    refine ⟨_, rfl, fun a hk => ?_⟩
    have hL := okL.cons (hs.mi 0 rfl) (okL.cons (hs.mi 2 rfl) (okL.cons (hs.ri 0 rfl) okL.nil))
    refine c_end (x_t (hK _ _ hL ?_))
    clear hK K
    refine d_1 8 511 rfl (by kernel_rfl) fun K hK => ?_
    refine q_call (caps := []) hk rfl rfl Tryd.func32 fo32 rfl rfl (refEncodeQ (valm s (X k)) _) ?_
    rintro _ w ⟨a1_8, c1_8b, rfl, hS⟩
    have hs := hs.call1 hS
    clear hS
    refine ⟨_, rfl, fun a hk => ?_⟩
    have hL := okL.cons (hs.mi 1 rfl) (okL.cons (hs.mi 3 rfl) (okL.cons (hs.ri 0 rfl) okL.nil))
    refine c_end (x_t (hK _ _ hL ?_))
    clear hK K
    refine d_1 9 1023 rfl (by kernel_rfl) fun K hK => ?_
    have hs := hs.up2
    refine q_appL (news := (el bc (eb (valm s (X k))))) (mm := 32) hk hs rfl rfl Tryd.underlying29 ty5 zr5 rfl rfl (row_lst (hs.mi 1 rfl))  (el_ones bc_ones) (by omega) (by omega) rfl rfl fun a1_9 c1_9b w a hk hs => ?_
    have hs := hs.rw0 (congrArg _ (els_fold _ _ _ _))
    have hL := okL.cons (hs.mi 2 rfl) (okL.cons (hs.mi 3 rfl) (okL.cons (hs.ri 0 rfl) okL.nil))
    refine c_end (x_t (hK _ _ hL ?_))
    clear hK K
    refine d_v 10 2047 hk hL rfl (by kernel_rfl) rfl rfl (fun w hL => w_as rfl) fun a hk => ?_
    refine d_end (by kernel_rfl) ?_
    refine (x_b (x_t ?_))
    refine wpIn_region_lit ?_
    refine q_val hk (w_mv rfl) rfl rfl rfl fun a hk => ?_
    refine q_val hk (w_add rfl rfl (wr64 (by omega) (by omega))) rfl rfl rfl fun a hk => ?_
    refine q_val hk (w_as rfl) rfl rfl rfl fun a hk => ?_
    refine (c_end (x_t ?_))
    have hs := hs.up1
    have hs := hs.drop
    have hs := hs.up2
    have hs := hs.up1
    have hs := hs.up2
    exact ⟨k + 1, ⟨_, _, _, (by omega), (by omega), hk.k rfl (hk.k rfl (hk.k rfl (hk.k rfl (hk.k rfl (hk.k rfl hk.nil))))), hs⟩, by omega⟩
  · skip
    obtain rfl : n = k := by omega
    refine q_val hk (w_lt rfl rfl (decide_eq_false hc4)) rfl rfl rfl fun a hk => ?_
    refine (c_end (x_t ?_))
    refine c_F hk rfl ?_
    refine (wpIn_exit (x_te (x_te (x_be ?_))))
    refine (x_t ?_)
    refine wpIn_seq ?_
    refine wpIn_region_lit ?_
    refine q_val hk (w_mv rfl) rfl rfl rfl fun a hk => ?_
    refine q_call (caps := []) hk rfl rfl Tryd.func34 fo34 rfl rfl (refTagged_c _ _ _ (bodyB s T I L n X) _ (row_lst (hs.mi 1 rfl)) (bodyB_lt (by omega) (by omega) (by omega) _ _) (by omega)) ?_
    rintro _ w ⟨a5, c6, rfl, hS⟩
    have hs := hs.call1 hS
    clear hS
    refine ⟨_, rfl, fun a hk => ?_⟩
    refine q_val hk (w_as rfl) rfl rfl rfl fun a hk => ?_
    refine q_val hk (w_as rfl) rfl rfl rfl fun a hk => ?_
    refine (c_end (x_t ?_))
    refine (wpIn_ret ?_)
    refine c_ret2 hk rfl rfl rfl ?_
    have hs := hs.up1
    have hs := hs.drop
    have hs := hs.up1
    have hs := hs.drop
    have hs := hs.up1
    have hs := hs.drop
    refine ⟨a5, (mo + 32), c6, by rw [he], ?_⟩
    unfold rB
    rw [if_pos he, fid_dec]
    exact hs.fin
theorem refRecEnc_c (F T I L : Int) (la : Option Addr) (n lc : Nat) (X : Nat → Nat) (W : World) (HX : LstAt W 4 (.slice la n lc) n (en vq X n)) (hn : n ≤ 100000000) (H4 : ∀ i, i < n → X i < R4) : Calls Tryd.prog 14 #[.agg #[.int .i64 F, .int .i64 T, .int .i64 I, .int .i64 L, .slice la n lc]] W fun e w => ∃ a k c, e = .returned (.tuple #[.slice a k c, .int .i64 (shErr F T I L n X)]) ∧ Sat no W [row 5 1 (.slice a k c) k (el bc (rB F T I L n X))] [] w := by
  by_cases he : shErr F T I L n X = 0
  · obtain ⟨hF | hF, _⟩ := shErr_zero he
    · subst hF; exact refRecEnc_ok false T I L la n lc X W HX hn H4 he
    · subst hF; exact refRecEnc_ok true T I L la n lc X W HX hn H4 he
  · exact refRecEnc_bad F T I L la n lc X W HX hn H4 he
end Go.Proofs.YtjhfepkpfakemaaDoor
