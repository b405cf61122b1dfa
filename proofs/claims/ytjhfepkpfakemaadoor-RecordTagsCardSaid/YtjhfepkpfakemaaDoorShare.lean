/- Parameters and shares: what CheckShare says, in the program and in the reference. -/
import Derived.Test.YtjhfepkpfakemaaDoorChunkSplit
import Derived.Test.YtjhfepkpfakemaaDoorValue
import Derived.Test.YtjhfepkpfakemaaDoorSevenB
namespace Go.Proofs.YtjhfepkpfakemaaDoor
set_option linter.all false
open Go Go.RowKit

abbrev fieldZ : Value := .agg #[.int .i64 0, .int .u64 0, .int .u64 0, .int .u64 0, .int .u64 0, .int .u64 0, .int .u64 0, .int .u64 0, .int .u64 0, .int .u64 0, .int .u64 0, .int .u64 0, .int .u64 0, .int .u64 0]
set_option maxRecDepth 100000 in
set_option maxHeartbeats 1000000 in
theorem getBad_c (F : Int) (h1 : F ≠ 1) (h2 : F ≠ 2) (w : World) (hL : Laid w) :
    Calls Tryd.prog 28 #[.int .i64 F] w fun e w' => e = .returned (.tuple #[fieldZ, .int .i64 3]) ∧ Below w.heap.size w w' := by
  have i0 := index0
  have i1 := index1
  have q1 : (fid false == F) = false := by rw [beq_eq_false_iff_ne]; exact h1.symm
  have q2 : (fid true == F) = false := by rw [beq_eq_false_iff_ne]; exact h2.symm
  have hg : ∀ o j v, fieldCells[j]? = some v → (w.alloc o).cell? ⟨0, j, none⟩ = some v := fun o => (hL.step ((Below.refl _ _).alloc (Nat.le_refl _) _))
  have Hg := Lib.hid hg
  clear hg h1 h2
  go_enter Tryd.func28, Tryd.ntmps28
  go_wp2_with (refine wpList_load_cells rfl 69 (.global 0) rfl 0 rfl fieldCells _ (Hg.out _) Tryd.underlying69 rfl (by kernel_rfl) ?_; simp only [Act.put, List.setIfInBounds_toArray, List.set_cons_zero, List.set_cons_succ])
  refine wp_loop_rounds 3 ?_
  rw [rounds_succ]
  go_wp2_with fail
  rw [rounds_succ]
  go_wp2_with fail
  rw [rounds_succ]
  go_wp2_with fail
  refine bodyPost_ret (v := .tuple #[fieldZ, .int .i64 3]) (by simp only [results, Tryd.results28]; go_simp) rfl ⟨rfl, ?_⟩
  repeat first
    | with_reducible exact Below.refl _ _
    | with_reducible refine Below.drew ?_
    | with_reducible refine below_dN ?_
    | with_reducible refine Below.alloc ?_ (by first | omega | (simp; done) | (simp; omega)) _
    | with_reducible refine Below.setCell ?_ (by first | omega | (simp; done) | (simp; omega)) _
    | with_reducible refine Below.trans ?_ (Below.mono (by assumption) (by first | omega | (simp; done) | (simp; omega)))
/-- Are the first n numbers less than the modulus? -/
def okB (s : Bool) (X : Nat → Nat) (n : Nat) : Bool := (List.range n).all fun i => decide (X i < pr s)
theorem okB_succ (s : Bool) (X : Nat → Nat) (k : Nat) : okB s X (k + 1) = (okB s X k && decide (X k < pr s)) := by simp [okB, List.range_succ]
theorem okB_at {s : Bool} {X : Nat → Nat} {n : Nat} (h : okB s X n = true) {i : Nat} (hi : i < n) : X i < pr s := by
  have := List.all_eq_true.1 h i (List.mem_range.2 hi)
  simpa using this
theorem okB_of {s : Bool} {X : Nat → Nat} {n : Nat} (h : ∀ i, i < n → X i < pr s) : okB s X n = true := List.all_eq_true.2 fun i hi => by simpa using h i (List.mem_range.1 hi)
theorem contAm (s : Bool) (x : Nat) (hx : x < R4) (w : World) : Calls Tryd.prog 44 #[fieldV s, vec x] w fun e w' => e = .returned (.int .u64 (am (decide (x < pr s)))) ∧ Below w.heap.size w w' := by
  by_cases h : x < pr s
  · rw [decide_eq_true h]; exact containsT_c s x h w
  · rw [decide_eq_false h]; exact containsF_c s x hx h w
/-- The error of a share. -/
def shErr (F T I L : Int) (n : Nat) (X : Nat → Nat) : Int :=
  if F = 1 ∨ F = 2 then if 1 ≤ T ∧ T ≤ 255 then if 1 ≤ I ∧ I ≤ 255 then if 0 ≤ L ∧ L ≤ 65535 then if n = cn L then if okB (decide (F = 2)) X n = true then 0 else 9 else 8 else 6 else 12 else 4 else 3
theorem fid_or (s : Bool) : fid s = 1 ∨ fid s = 2 := by cases s <;> decide
theorem fid_dec (s : Bool) : decide (fid s = 2) = s := by cases s <;> decide
theorem am_zero (b : Bool) : am b = 0 ↔ b = false := by cases b <;> simp [am]
theorem okB_am {s : Bool} {X : Nat → Nat} {n : Nat} (h : ¬ am (okB s X n) = 0) : okB s X n = true := by
  rcases hq : okB s X n with _ | _
  · exact absurd ((am_zero _).2 hq) h
  · rfl
theorem between_t (x lo hi : Int) (w : World) (h : lo ≤ x ∧ x ≤ hi) : Calls Tryd.prog 43 #[.int .i64 x, .int .i64 lo, .int .i64 hi] w fun e w' => e = .returned (.bool true) ∧ w = w' := by
  obtain ⟨h1, h2⟩ := h
  have q1 : decide (lo ≤ x) = true := decide_eq_true h1
  have q2 : decide (x ≤ hi) = true := decide_eq_true h2
  go_enter Tryd.func43, Tryd.ntmps43
  go_wp2
  go_ret
  exact ⟨rfl, rfl⟩
theorem between_f (x lo hi : Int) (w : World) (h : ¬ (lo ≤ x ∧ x ≤ hi)) : Calls Tryd.prog 43 #[.int .i64 x, .int .i64 lo, .int .i64 hi] w fun e w' => e = .returned (.bool false) ∧ w = w' := by
  by_cases h1 : lo ≤ x
  · have h2 : ¬ x ≤ hi := fun h2 => h ⟨h1, h2⟩
    have q1 : decide (lo ≤ x) = true := decide_eq_true h1
    have q2 : decide (x ≤ hi) = false := decide_eq_false h2
    clear h h2
    go_enter Tryd.func43, Tryd.ntmps43
    go_wp2
    go_ret
    exact ⟨rfl, rfl⟩
  · have q1 : decide (lo ≤ x) = false := decide_eq_false h1
    clear h h1
    go_enter Tryd.func43, Tryd.ntmps43
    go_wp2
    go_ret
    exact ⟨rfl, rfl⟩
theorem known_t (x : Int) (w : World) (h : x = 1 ∨ x = 2) : Calls Tryd.prog 40 #[.int .i64 x] w fun e w' => e = .returned (.bool true) ∧ w = w' := by
  rcases h with rfl | rfl
  all_goals
    go_enter Tryd.func40, Tryd.ntmps40
    go_wp2
    go_ret
    exact ⟨rfl, rfl⟩
theorem known_f (x : Int) (w : World) (h : ¬ (x = 1 ∨ x = 2)) : Calls Tryd.prog 40 #[.int .i64 x] w fun e w' => e = .returned (.bool false) ∧ w = w' := by
  have h1 : (x == 1) = false := by rw [beq_eq_false_iff_ne]; exact fun e => h (.inl e)
  have h2 : (x == 2) = false := by rw [beq_eq_false_iff_ne]; exact fun e => h (.inr e)
  clear h
  go_enter Tryd.func40, Tryd.ntmps40
  go_wp2
  go_ret
  exact ⟨rfl, rfl⟩
theorem ckShare_bad (F T I L : Int) (la : Option Addr) (n lc : Nat) (X : Nat → Nat) (W : World) (HX : LstAt W 4 (.slice la n lc) n (en vq X n)) (hn : n ≤ 100000000) (H4 : ∀ i, i < n → X i < R4) (HL : Laid W) (h1 : F ≠ 1) (h2 : F ≠ 2) : Calls Tryd.prog 27 [.agg #[.int .i64 F, .int .i64 T, .int .i64 I, .int .i64 L, .slice la n lc]].toArray W fun e w => e = .returned (.int .i64 (shErr F T I L n X)) ∧ Below W.heap.size W w := by
  refine c_enter (args := [.agg #[.int .i64 F, .int .i64 T, .int .i64 I, .int .i64 L, .slice la n lc]]) Tryd.func27 rfl rfl rfl fun a hk => ?_
  have hs := Sat.start W [lst 4 (.slice la n lc) n (en vq X n)] (fun r hr => by rcases List.mem_singleton.1 hr with rfl; exact HX)
  refine wpIn_seq ?_
  refine wpIn_region_lit ?_
  refine q_box (vs := [.int .i64 F, .int .i64 T, .int .i64 I, .int .i64 L, .slice la n lc]) hk hs rfl rfl rfl rfl fun b1 w a hk hs => ?_
  refine q_val hk (w_as rfl) rfl rfl rfl fun a hk => ?_
  refine (c_end (x_t ?_))
  refine wpIn_seq ?_
  refine wpIn_region_lit ?_
  refine q_val hk (w_fa rfl fq27_0 ty3) rfl rfl rfl fun a hk => ?_
  refine q_val hk (w_ld1 rfl ty3 (.blk (n := 1) (hs.mi 0 rfl) rfl)) rfl rfl rfl fun a hk => ?_
  refine q_call (caps := []) hk rfl rfl Tryd.func28 fo28 rfl rfl (getBad_c F h1 h2 _ (HL.step hs.toBelow)) ?_
  rintro _ w ⟨rfl, hb⟩
  have hs := hs.below hb
  refine ⟨_, rfl, fun a hk => ?_⟩
  refine q_val hk (w_mv rfl) rfl rfl rfl fun a hk => ?_
  refine q_val hk (w_ext rfl rfl) rfl rfl rfl fun a hk => ?_
  refine q_val hk (w_ext rfl rfl) rfl rfl rfl fun a hk => ?_
  refine q_alc (vs := [.int .i64 0, .int .u64 0, .int .u64 0, .int .u64 0, .int .u64 0, .int .u64 0, .int .u64 0, .int .u64 0, .int .u64 0, .int .u64 0, .int .u64 0, .int .u64 0, .int .u64 0, .int .u64 0]) hk hs zr53 rfl rfl rfl fun b2 w a hk hs => ?_
  refine q_sto (o := 0) (cs := [.int .i64 0, .int .u64 0, .int .u64 0, .int .u64 0, .int .u64 0, .int .u64 0, .int .u64 0, .int .u64 0, .int .u64 0, .int .u64 0, .int .u64 0, .int .u64 0, .int .u64 0, .int .u64 0]) (vs' := [.int .i64 0, .int .u64 0, .int .u64 0, .int .u64 0, .int .u64 0, .int .u64 0, .int .u64 0, .int .u64 0, .int .u64 0, .int .u64 0, .int .u64 0, .int .u64 0, .int .u64 0, .int .u64 0]) hk hs rfl rfl rfl ty53 rfl rfl rfl rfl rfl rfl fun w hs => ?_
  refine q_val hk (w_as rfl) rfl rfl rfl fun a hk => ?_
  refine (c_end (x_t ?_))
  refine wpIn_seq ?_
  refine wpIn_block ?_
  refine wpIn_seq ?_
  refine wpIn_region_lit ?_
  refine q_val hk (w_mv rfl) rfl rfl rfl fun a hk => ?_
  refine q_val hk (w_ne rfl rfl (decide_eq_true (by decide))) rfl rfl rfl fun a hk => ?_
  refine q_val hk (w_as rfl) rfl rfl rfl fun a hk => ?_
  refine (c_end (x_t ?_))
  refine c_T hk rfl ?_
  refine wpIn_seq ?_
  refine wpIn_region_lit ?_
  refine q_val hk (w_mv rfl) rfl rfl rfl fun a hk => ?_
  refine q_val hk (w_as rfl) rfl rfl rfl fun a hk => ?_
  refine (c_end (x_t ?_))
  refine (wpIn_ret (x_br (x_tr ?_)))
  refine c_ret1 hk rfl rfl ?_
  exact ⟨by unfold shErr; rw [if_neg (by omega)], hs.toBelow⟩
theorem ckShare_s (s : Bool) (T I L : Int) (la : Option Addr) (n lc : Nat) (X : Nat → Nat) (W : World) (HX : LstAt W 4 (.slice la n lc) n (en vq X n)) (hn : n ≤ 100000000) (H4 : ∀ i, i < n → X i < R4) (HL : Laid W) : Calls Tryd.prog 27 [.agg #[.int .i64 (fid s), .int .i64 T, .int .i64 I, .int .i64 L, .slice la n lc]].toArray W fun e w => e = .returned (.int .i64 (shErr (fid s) T I L n X)) ∧ Below W.heap.size W w := by
  refine c_enter (args := [.agg #[.int .i64 (fid s), .int .i64 T, .int .i64 I, .int .i64 L, .slice la n lc]]) Tryd.func27 rfl rfl rfl fun a hk => ?_
  have hs := Sat.start W [lst 4 (.slice la n lc) n (en vq X n)] (fun r hr => by rcases List.mem_singleton.1 hr with rfl; exact HX)
  refine wpIn_seq ?_
  refine wpIn_region_lit ?_
  refine q_box (vs := [.int .i64 (fid s), .int .i64 T, .int .i64 I, .int .i64 L, .slice la n lc]) hk hs rfl rfl rfl rfl fun b1 w a hk hs => ?_
  refine q_val hk (w_as rfl) rfl rfl rfl fun a hk => ?_
  refine (c_end (x_t ?_))
  refine wpIn_seq ?_
  refine wpIn_region_lit ?_
  refine q_val hk (w_fa rfl fq27_0 ty3) rfl rfl rfl fun a hk => ?_
  refine q_val hk (w_ld1 rfl ty3 (.blk (n := 1) (hs.mi 0 rfl) rfl)) rfl rfl rfl fun a hk => ?_
  refine q_call (caps := []) hk rfl rfl Tryd.func28 fo28 rfl rfl (get_c s _ (HL.step hs.toBelow)) ?_
  rintro _ w ⟨rfl, hb⟩
  have hs := hs.below hb
  refine ⟨_, rfl, fun a hk => ?_⟩
  refine q_val hk (w_mv rfl) rfl rfl rfl fun a hk => ?_
  refine q_val hk (w_ext rfl rfl) rfl rfl rfl fun a hk => ?_
  refine q_val hk (w_ext rfl rfl) rfl rfl rfl fun a hk => ?_
  refine q_alc (vs := [.int .i64 0, .int .u64 0, .int .u64 0, .int .u64 0, .int .u64 0, .int .u64 0, .int .u64 0, .int .u64 0, .int .u64 0, .int .u64 0, .int .u64 0, .int .u64 0, .int .u64 0, .int .u64 0]) hk hs zr53 rfl rfl rfl fun b2 w a hk hs => ?_
  refine q_sto (o := 0) (cs := fieldL s) (vs' := fieldL s) hk hs rfl rfl rfl ty53 rfl rfl rfl rfl rfl rfl fun w hs => ?_
  refine q_val hk (w_as rfl) rfl rfl rfl fun a hk => ?_
  refine (c_end (x_t ?_))
  refine wpIn_seq ?_
  refine wpIn_block ?_
  refine wpIn_seq ?_
  refine wpIn_region_lit ?_
  refine q_val hk (w_mv rfl) rfl rfl rfl fun a hk => ?_
  refine q_val hk (w_ne rfl rfl (decide_eq_false (by decide))) rfl rfl rfl fun a hk => ?_
  refine q_val hk (w_as rfl) rfl rfl rfl fun a hk => ?_
  refine (c_end (x_t ?_))
  refine c_F hk rfl ?_
  refine wpIn_seq ?_
  refine wpIn_region_lit ?_
  refine q_val hk (w_fa rfl fq27_1 ty3) rfl rfl rfl fun a hk => ?_
  refine q_val hk (w_ld1 rfl ty3 (.blk (n := 1) (hs.mi 1 rfl) rfl)) rfl rfl rfl fun a hk => ?_
  rcases Classical.em (1 ≤ T ∧ T ≤ 255) with hc3 | hc3
  · skip
    refine q_call (caps := []) hk rfl rfl Tryd.func43 fo43 rfl rfl (between_t _ _ _ _ hc3) ?_
    rintro _ _ ⟨rfl, rfl⟩
    refine ⟨_, rfl, fun a hk => ?_⟩
    refine q_val hk (w_not rfl) rfl rfl rfl fun a hk => ?_
    refine q_val hk (w_as rfl) rfl rfl rfl fun a hk => ?_
    refine (c_end (x_t ?_))
    refine c_F hk rfl ?_
    refine wpIn_seq ?_
    refine wpIn_region_lit ?_
    refine q_val hk (w_fa rfl fq27_2 ty3) rfl rfl rfl fun a hk => ?_
    refine q_val hk (w_ld1 rfl ty3 (.blk (n := 1) (hs.mi 1 rfl) rfl)) rfl rfl rfl fun a hk => ?_
    rcases Classical.em (1 ≤ I ∧ I ≤ 255) with hc4 | hc4
    · skip
      refine q_call (caps := []) hk rfl rfl Tryd.func43 fo43 rfl rfl (between_t _ _ _ _ hc4) ?_
      rintro _ _ ⟨rfl, rfl⟩
      refine ⟨_, rfl, fun a hk => ?_⟩
      refine q_val hk (w_not rfl) rfl rfl rfl fun a hk => ?_
      refine q_val hk (w_as rfl) rfl rfl rfl fun a hk => ?_
      refine (c_end (x_t ?_))
      refine c_F hk rfl ?_
      refine wpIn_seq ?_
      refine wpIn_region_lit ?_
      refine q_val hk (w_fa rfl fq27_3 ty3) rfl rfl rfl fun a hk => ?_
      refine q_val hk (w_ld1 rfl ty3 (.blk (n := 1) (hs.mi 1 rfl) rfl)) rfl rfl rfl fun a hk => ?_
      rcases Classical.em (0 ≤ L ∧ L ≤ 65535) with hc5 | hc5
      · skip
        refine q_call (caps := []) hk rfl rfl Tryd.func43 fo43 rfl rfl (between_t _ _ _ _ hc5) ?_
        rintro _ _ ⟨rfl, rfl⟩
        refine ⟨_, rfl, fun a hk => ?_⟩
        refine q_val hk (w_not rfl) rfl rfl rfl fun a hk => ?_
        refine q_val hk (w_as rfl) rfl rfl rfl fun a hk => ?_
        refine (c_end (x_t ?_))
        refine c_F hk rfl ?_
        refine wpIn_seq ?_
        rcases Classical.em (((n : Nat) : Int) ≠ ((cn L : Nat) : Int)) with hc6 | hc6
        · skip
          have hL := okL.cons (hs.mi 1 rfl) okL.nil
          refine d_begin _ 8 (by kernel_rfl) rfl hs hL fun w hs hL => ?_
          refine d_v 0 1 hk hL rfl (by kernel_rfl) rfl rfl (fun w hL => w_fa rfl fq27_4 ty25) fun a hk => ?_
          refine d_v 1 3 hk hL rfl (by kernel_rfl) rfl rfl (fun w hL => w_ld1 rfl ty25 (.blk (n := 1) (hL.at 0 rfl) rfl)) fun a hk => ?_
          refine d_v 2 7 hk hL rfl (by kernel_rfl) rfl rfl (fun w hL => w_len rfl Tryd.underlying25) fun a hk => ?_
          refine d_v 3 15 hk hL rfl (by kernel_rfl) rfl rfl (fun w hL => w_fa rfl fq27_3 ty3) fun a hk => ?_
          refine d_v 4 31 hk hL rfl (by kernel_rfl) rfl rfl (fun w hL => w_ld1 rfl ty3 (.blk (n := 1) (hL.at 0 rfl) rfl)) fun a hk => ?_
          refine d_1 5 63 rfl (by kernel_rfl) fun K hK => ?_
          refine q_call (caps := []) hk rfl rfl Tryd.func24 fo24 rfl rfl (count_c L _) ?_
          rintro _ _ ⟨rfl, rfl⟩
          refine ⟨_, rfl, fun a hk => ?_⟩
          have hL := okL.cons (hs.mi 1 rfl) okL.nil
          refine c_end (x_t (hK _ _ hL ?_))
          clear hK K
          refine d_v 6 127 hk hL rfl (by kernel_rfl) rfl rfl (fun w hL => w_ne rfl rfl (decide_eq_true hc6)) fun a hk => ?_
          refine d_v 7 255 hk hL rfl (by kernel_rfl) rfl rfl (fun w hL => w_as rfl) fun a hk => ?_
          refine d_end (by kernel_rfl) ?_
          refine (x_t ?_)
          refine c_T hk rfl ?_
          refine wpIn_seq ?_
          refine wpIn_region_lit ?_
          refine q_val hk (w_as rfl) rfl rfl rfl fun a hk => ?_
          refine (c_end (x_t ?_))
          refine (wpIn_ret (x_br (x_tr ?_)))
          refine c_ret1 hk rfl rfl ?_
          refine ⟨?_, hs.toBelow⟩
          have ho := fid_or s
          unfold shErr
          rw [fid_dec, if_pos ho]
          (repeat' split) <;> first | rfl | omega | contradiction | exact absurd (hob.symm.trans (by assumption)) Bool.false_ne_true
        · skip
          have hL := okL.cons (hs.mi 1 rfl) okL.nil
          refine d_begin _ 8 (by kernel_rfl) rfl hs hL fun w hs hL => ?_
          refine d_v 0 1 hk hL rfl (by kernel_rfl) rfl rfl (fun w hL => w_fa rfl fq27_4 ty25) fun a hk => ?_
          refine d_v 1 3 hk hL rfl (by kernel_rfl) rfl rfl (fun w hL => w_ld1 rfl ty25 (.blk (n := 1) (hL.at 0 rfl) rfl)) fun a hk => ?_
          refine d_v 2 7 hk hL rfl (by kernel_rfl) rfl rfl (fun w hL => w_len rfl Tryd.underlying25) fun a hk => ?_
          refine d_v 3 15 hk hL rfl (by kernel_rfl) rfl rfl (fun w hL => w_fa rfl fq27_3 ty3) fun a hk => ?_
          refine d_v 4 31 hk hL rfl (by kernel_rfl) rfl rfl (fun w hL => w_ld1 rfl ty3 (.blk (n := 1) (hL.at 0 rfl) rfl)) fun a hk => ?_
          refine d_1 5 63 rfl (by kernel_rfl) fun K hK => ?_
          refine q_call (caps := []) hk rfl rfl Tryd.func24 fo24 rfl rfl (count_c L _) ?_
          rintro _ _ ⟨rfl, rfl⟩
          refine ⟨_, rfl, fun a hk => ?_⟩
          have hL := okL.cons (hs.mi 1 rfl) okL.nil
          refine c_end (x_t (hK _ _ hL ?_))
          clear hK K
          refine d_v 6 127 hk hL rfl (by kernel_rfl) rfl rfl (fun w hL => w_ne rfl rfl (decide_eq_false hc6)) fun a hk => ?_
          refine d_v 7 255 hk hL rfl (by kernel_rfl) rfl rfl (fun w hL => w_as rfl) fun a hk => ?_
          refine d_end (by kernel_rfl) ?_
          refine (x_t ?_)
          refine c_F hk rfl ?_
          refine (wpIn_skip (x_b (x_t ?_)))
          refine wpIn_seq ?_
          refine wpIn_region_lit ?_
          refine q_val hk (w_ldA rfl ty53 (.blk (n := 14) (hs.mi 0 rfl) rfl) rfl) rfl rfl rfl fun a hk => ?_
          refine q_val hk (w_bldv0 Tryd.underlying50 ty49 zr50) rfl rfl rfl fun a hk => ?_
          refine q_call (caps := []) hk rfl rfl Tryd.func44 fo44 rfl rfl (contAm s 0 (by decide) _) ?_
          rintro _ w ⟨rfl, hb⟩
          have hs := hs.below hb
          refine ⟨_, rfl, fun a hk => ?_⟩
          refine q_val hk (w_as rfl) rfl rfl rfl fun a hk => ?_
          refine (c_end (x_t ?_))
          refine wpIn_seq ?_
          refine wpIn_seq ?_
          refine wpIn_region_lit ?_
          refine q_val hk (w_fa rfl fq27_4 ty25) rfl rfl rfl fun a hk => ?_
          refine q_val hk (w_ld1 rfl ty25 (.blk (n := 1) (hs.mi 1 rfl) rfl)) rfl rfl rfl fun a hk => ?_
          refine q_val hk (w_len rfl Tryd.underlying25) rfl rfl rfl fun a hk => ?_
          refine q_val hk (w_mv rfl) rfl rfl rfl fun a hk => ?_
          refine (c_end (x_t ?_))
          refine wpIn_block ?_
          rw [show decide (0 < pr s) = okB s X 0 from decide_eq_true (pr_pos s)] at hk
          refine c_loop (α := Nat) (fun k a w => k ≤ n ∧ Kn 59 [(47, .int .i64 (k : Int)), (5, .int .u64 (am (okB s X k))), (46, .int .i64 ((n : Nat) : Int)), (45, .slice la n lc), (3, .pointer (some ⟨b2, 0, none⟩)), (2, .int .i64 0)] a ∧ Sat no W [blk b2 (fieldL s) 53, blk b1 [.int .i64 (fid s), .int .i64 T, .int .i64 I, .int .i64 L, .slice la n lc] 27] [lst 4 (.slice la n lc) n (en vq X n)] w) (fun k => n - k) 0 ?_ ?_
          · exact ⟨(by omega), hk.k rfl (hk.k rfl (hk.k rfl (hk.k rfl (hk.k rfl (hk.k rfl hk.nil))))), hs⟩
          rintro k a w ⟨hf0, hk, hs⟩
          refine wpIn_seq ?_
          refine wpIn_region_lit ?_
          rcases Classical.em ((k : Int) < ((n : Nat) : Int)) with hc7 | hc7
          · skip
            have hlt : k < n := by omega
            refine q_val hk (w_lt rfl rfl (decide_eq_true hc7)) rfl rfl rfl fun a hk => ?_
            refine (c_end (x_t ?_))
            refine wpIn_seq ?_
            refine c_T hk rfl ?_
            refine (wpIn_skip (x_t ?_))
            refine wpIn_seq ?_
            refine wpIn_block ?_
            refine wpIn_seq ?_
            refine wpIn_region_lit ?_
            refine q_val hk (w_iaL (k := k) rfl rfl Tryd.underlying25 ty51 (hs.ri 0 rfl) (by omega) (by omega)) rfl rfl rfl fun a hk => ?_
            refine q_val hk (w_ldv (z := X k) rfl ty51 (lstq (k := k) (hs.ri 0 rfl) (by omega) (en_chunk vq_len (by omega)))) rfl rfl rfl fun a hk => ?_
            refine q_alc (vs := [.int .u64 0, .int .u64 0, .int .u64 0, .int .u64 0]) hk hs zr51 rfl rfl rfl fun b8 w a hk hs => ?_
            refine q_sto (o := 0) (cs := [.int .u64 ((dg 0 (X k) : Nat) : Int), .int .u64 ((dg 1 (X k) : Nat) : Int), .int .u64 ((dg 2 (X k) : Nat) : Int), .int .u64 ((dg 3 (X k) : Nat) : Int)]) (vs' := [.int .u64 ((dg 0 (X k) : Nat) : Int), .int .u64 ((dg 1 (X k) : Nat) : Int), .int .u64 ((dg 2 (X k) : Nat) : Int), .int .u64 ((dg 3 (X k) : Nat) : Int)]) hk hs rfl rfl rfl ty51 rfl rfl rfl rfl rfl rfl fun w hs => ?_
            refine (c_end (x_t ?_))
            refine wpIn_region_lit ?_
            refine q_val hk (w_mv rfl) rfl rfl rfl fun a hk => ?_
            refine q_val hk (w_ldA rfl ty53 (.blk (n := 14) (hs.mi 1 rfl) rfl) rfl) rfl rfl rfl fun a hk => ?_
            refine q_val hk (w_ldv (z := X k) rfl ty51 (.blk (n := 4) (hs.mi 0 rfl) rfl)) rfl rfl rfl fun a hk => ?_
            refine q_call (caps := []) hk rfl rfl Tryd.func44 fo44 rfl rfl (contAm s (X k) (H4 k hlt) _) ?_
            rintro _ w ⟨rfl, hb⟩
            have hs := hs.below hb
            refine ⟨_, rfl, fun a hk => ?_⟩
            refine q_val hk (w_andam rfl rfl) rfl rfl rfl fun a hk => ?_
            refine q_val hk (w_as rfl) rfl rfl rfl fun a hk => ?_
            refine (c_end (x_b (x_t ?_)))
            refine wpIn_region_lit ?_
            refine q_val hk (w_add rfl rfl (wr64 (by omega) (by omega))) rfl rfl rfl fun a hk => ?_
            refine q_val hk (w_mv rfl) rfl rfl rfl fun a hk => ?_
            refine (c_end (x_t ?_))
            rw [← okB_succ] at hk
            have hs := hs.drop
            exact ⟨k + 1, ⟨(by omega), hk.k rfl (hk.k rfl (hk.k rfl (hk.k rfl (hk.k rfl (hk.k rfl hk.nil))))), hs⟩, by omega⟩
          · skip
            obtain rfl : n = k := by omega
            refine q_val hk (w_lt rfl rfl (decide_eq_false hc7)) rfl rfl rfl fun a hk => ?_
            refine (c_end (x_t ?_))
            refine wpIn_seq ?_
            refine c_F hk rfl ?_
            refine (wpIn_exit (x_te (x_te (x_be ?_))))
            refine (x_t ?_)
            refine wpIn_seq ?_
            refine wpIn_seq ?_
            refine wpIn_region_lit ?_
            refine q_val hk (w_mv rfl) rfl rfl rfl fun a hk => ?_
            rcases Classical.em ((am (okB s X n)) = 0) with hc9 | hc9
            · skip
              have hob : okB s X n = false := (am_zero _).1 hc9
              refine q_val hk (w_eq rfl rfl (decide_eq_true hc9)) rfl rfl rfl fun a hk => ?_
              refine (c_end (x_t ?_))
              refine c_T hk rfl ?_
              refine wpIn_seq ?_
              refine wpIn_region_lit ?_
              refine q_val hk (w_as rfl) rfl rfl rfl fun a hk => ?_
              refine (c_end (x_t ?_))
              refine (wpIn_ret (x_tr ?_))
              refine c_ret1 hk rfl rfl ?_
              refine ⟨?_, hs.toBelow⟩
              have ho := fid_or s
              unfold shErr
              rw [fid_dec, if_pos ho]
              (repeat' split) <;> first | rfl | omega | contradiction | exact absurd (hob.symm.trans (by assumption)) Bool.false_ne_true
            · skip
              have hob : okB s X n = true := okB_am hc9
              refine q_val hk (w_eq rfl rfl (decide_eq_false hc9)) rfl rfl rfl fun a hk => ?_
              refine (c_end (x_t ?_))
              refine c_F hk rfl ?_
              refine (wpIn_skip (x_t ?_))
              refine wpIn_seq ?_
              refine wpIn_region_lit ?_
              refine q_val hk (w_as rfl) rfl rfl rfl fun a hk => ?_
              refine (c_end (x_t ?_))
              refine (wpIn_ret ?_)
              refine c_ret1 hk rfl rfl ?_
              refine ⟨?_, hs.toBelow⟩
              have ho := fid_or s
              unfold shErr
              rw [fid_dec, if_pos ho]
              (repeat' split) <;> first | rfl | omega | contradiction | exact absurd (hob.symm.trans (by assumption)) Bool.false_ne_true
      · skip
        refine q_call (caps := []) hk rfl rfl Tryd.func43 fo43 rfl rfl (between_f _ _ _ _ hc5) ?_
        rintro _ _ ⟨rfl, rfl⟩
        refine ⟨_, rfl, fun a hk => ?_⟩
        refine q_val hk (w_not rfl) rfl rfl rfl fun a hk => ?_
        refine q_val hk (w_as rfl) rfl rfl rfl fun a hk => ?_
        refine (c_end (x_t ?_))
        refine c_T hk rfl ?_
        refine wpIn_seq ?_
        refine wpIn_region_lit ?_
        refine q_val hk (w_as rfl) rfl rfl rfl fun a hk => ?_
        refine (c_end (x_t ?_))
        refine (wpIn_ret (x_br (x_tr ?_)))
        refine c_ret1 hk rfl rfl ?_
        refine ⟨?_, hs.toBelow⟩
        have ho := fid_or s
        unfold shErr
        rw [fid_dec, if_pos ho]
        (repeat' split) <;> first | rfl | omega | contradiction | exact absurd (hob.symm.trans (by assumption)) Bool.false_ne_true
    · skip
      refine q_call (caps := []) hk rfl rfl Tryd.func43 fo43 rfl rfl (between_f _ _ _ _ hc4) ?_
      rintro _ _ ⟨rfl, rfl⟩
      refine ⟨_, rfl, fun a hk => ?_⟩
      refine q_val hk (w_not rfl) rfl rfl rfl fun a hk => ?_
      refine q_val hk (w_as rfl) rfl rfl rfl fun a hk => ?_
      refine (c_end (x_t ?_))
      refine c_T hk rfl ?_
      refine wpIn_seq ?_
      refine wpIn_region_lit ?_
      refine q_val hk (w_as rfl) rfl rfl rfl fun a hk => ?_
      refine (c_end (x_t ?_))
      refine (wpIn_ret (x_br (x_tr ?_)))
      refine c_ret1 hk rfl rfl ?_
      refine ⟨?_, hs.toBelow⟩
      have ho := fid_or s
      unfold shErr
      rw [fid_dec, if_pos ho]
      (repeat' split) <;> first | rfl | omega | contradiction | exact absurd (hob.symm.trans (by assumption)) Bool.false_ne_true
  · skip
    refine q_call (caps := []) hk rfl rfl Tryd.func43 fo43 rfl rfl (between_f _ _ _ _ hc3) ?_
    rintro _ _ ⟨rfl, rfl⟩
    refine ⟨_, rfl, fun a hk => ?_⟩
    refine q_val hk (w_not rfl) rfl rfl rfl fun a hk => ?_
    refine q_val hk (w_as rfl) rfl rfl rfl fun a hk => ?_
    refine (c_end (x_t ?_))
    refine c_T hk rfl ?_
    refine wpIn_seq ?_
    refine wpIn_region_lit ?_
    refine q_val hk (w_as rfl) rfl rfl rfl fun a hk => ?_
    refine (c_end (x_t ?_))
    refine (wpIn_ret (x_br (x_tr ?_)))
    refine c_ret1 hk rfl rfl ?_
    refine ⟨?_, hs.toBelow⟩
    have ho := fid_or s
    unfold shErr
    rw [fid_dec, if_pos ho]
    (repeat' split) <;> first | rfl | omega | contradiction | exact absurd (hob.symm.trans (by assumption)) Bool.false_ne_true
theorem rdc_R4 {p v : Nat} (hp : 0 < p) (hv : v < R4) : rdc p v 0 < R4 := by
  by_cases h : v < p
  · rw [rdc_lt h]; exact hv
  · exact (rdc_ne hp hv h).2
theorem okB_bad {s : Bool} {X : Nat → Nat} {n k : Nat} (hk : k < n) (h : rdc (pr s) (X k) 0 ≠ X k) : okB s X n = false := by
  rw [Bool.eq_false_iff]
  intro ho
  exact h (rdc_lt (okB_at ho hk))
theorem okB_next {s : Bool} {X : Nat → Nat} {k : Nat} (ho : okB s X k = true) (h4 : X k < R4) (h : ¬ rdc (pr s) (X k) 0 ≠ X k) : okB s X (k + 1) = true := by
  rw [okB_succ, ho]
  by_cases hp : X k < pr s
  · simpa using hp
  · exact absurd (rdc_ne (pr_pos s) h4 hp).1 h
theorem refCkShare_bad (F T I L : Int) (la : Option Addr) (n lc : Nat) (X : Nat → Nat) (W : World) (HX : LstAt W 4 (.slice la n lc) n (en vq X n)) (hn : n ≤ 100000000) (H4 : ∀ i, i < n → X i < R4) (h1 : F ≠ 1) (h2 : F ≠ 2) : Calls Tryd.prog 19 [.agg #[.int .i64 F, .int .i64 T, .int .i64 I, .int .i64 L, .slice la n lc]].toArray W fun e w => e = .returned (.int .i64 (shErr F T I L n X)) ∧ Below W.heap.size W w := by
  refine c_enter (args := [.agg #[.int .i64 F, .int .i64 T, .int .i64 I, .int .i64 L, .slice la n lc]]) Tryd.func19 rfl rfl rfl fun a hk => ?_
  have hs := Sat.start W [lst 4 (.slice la n lc) n (en vq X n)] (fun r hr => by rcases List.mem_singleton.1 hr with rfl; exact HX)
  refine wpIn_seq ?_
  refine wpIn_region_lit ?_
  refine q_box (vs := [.int .i64 F, .int .i64 T, .int .i64 I, .int .i64 L, .slice la n lc]) hk hs rfl rfl rfl rfl fun b1 w a hk hs => ?_
  refine q_val hk (w_as rfl) rfl rfl rfl fun a hk => ?_
  refine (c_end (x_t ?_))
  refine wpIn_seq ?_
  refine wpIn_block ?_
  refine wpIn_seq ?_
  refine wpIn_region_lit ?_
  refine q_val hk (w_fa rfl fq27_0 ty3) rfl rfl rfl fun a hk => ?_
  refine q_val hk (w_ld1 rfl ty3 (.blk (n := 1) (hs.mi 0 rfl) rfl)) rfl rfl rfl fun a hk => ?_
  refine q_call (caps := []) hk rfl rfl Tryd.func40 fo40 rfl rfl (known_f _ _ (fun h => h.elim h1 h2)) ?_
  rintro _ _ ⟨rfl, rfl⟩
  refine ⟨_, rfl, fun a hk => ?_⟩
  refine q_val hk (w_not rfl) rfl rfl rfl fun a hk => ?_
  refine q_val hk (w_as rfl) rfl rfl rfl fun a hk => ?_
  refine (c_end (x_t ?_))
  refine c_T hk rfl ?_
  refine wpIn_seq ?_
  refine wpIn_region_lit ?_
  refine q_val hk (w_as rfl) rfl rfl rfl fun a hk => ?_
  refine (c_end (x_t ?_))
  refine (wpIn_ret (x_br (x_tr ?_)))
  refine c_ret1 hk rfl rfl ?_
  exact ⟨by unfold shErr; rw [if_neg (by omega)], hs.toBelow⟩
theorem refCkShare_s (s : Bool) (T I L : Int) (la : Option Addr) (n lc : Nat) (X : Nat → Nat) (W : World) (HX : LstAt W 4 (.slice la n lc) n (en vq X n)) (hn : n ≤ 100000000) (H4 : ∀ i, i < n → X i < R4) : Calls Tryd.prog 19 [.agg #[.int .i64 (fid s), .int .i64 T, .int .i64 I, .int .i64 L, .slice la n lc]].toArray W fun e w => e = .returned (.int .i64 (shErr (fid s) T I L n X)) ∧ Below W.heap.size W w := by
  refine c_enter (args := [.agg #[.int .i64 (fid s), .int .i64 T, .int .i64 I, .int .i64 L, .slice la n lc]]) Tryd.func19 rfl rfl rfl fun a hk => ?_
  have hs := Sat.start W [lst 4 (.slice la n lc) n (en vq X n)] (fun r hr => by rcases List.mem_singleton.1 hr with rfl; exact HX)
  refine wpIn_seq ?_
  refine wpIn_region_lit ?_
  refine q_box (vs := [.int .i64 (fid s), .int .i64 T, .int .i64 I, .int .i64 L, .slice la n lc]) hk hs rfl rfl rfl rfl fun b1 w a hk hs => ?_
  refine q_val hk (w_as rfl) rfl rfl rfl fun a hk => ?_
  refine (c_end (x_t ?_))
  refine wpIn_seq ?_
  refine wpIn_block ?_
  refine wpIn_seq ?_
  refine wpIn_region_lit ?_
  refine q_val hk (w_fa rfl fq27_0 ty3) rfl rfl rfl fun a hk => ?_
  refine q_val hk (w_ld1 rfl ty3 (.blk (n := 1) (hs.mi 0 rfl) rfl)) rfl rfl rfl fun a hk => ?_
  refine q_call (caps := []) hk rfl rfl Tryd.func40 fo40 rfl rfl (known_t _ _ (fid_or s)) ?_
  rintro _ _ ⟨rfl, rfl⟩
  refine ⟨_, rfl, fun a hk => ?_⟩
  refine q_val hk (w_not rfl) rfl rfl rfl fun a hk => ?_
  refine q_val hk (w_as rfl) rfl rfl rfl fun a hk => ?_
  refine (c_end (x_t ?_))
  refine c_F hk rfl ?_
  refine wpIn_seq ?_
  refine wpIn_region_lit ?_
  refine q_val hk (w_fa rfl fq27_1 ty3) rfl rfl rfl fun a hk => ?_
  refine q_val hk (w_ld1 rfl ty3 (.blk (n := 1) (hs.mi 0 rfl) rfl)) rfl rfl rfl fun a hk => ?_
  rcases Classical.em (T < 1) with hc2 | hc2
  · skip
    refine q_val hk (w_lt rfl rfl (decide_eq_true hc2)) rfl rfl rfl fun a hk => ?_
    refine q_val hk (w_mv rfl) rfl rfl rfl fun a hk => ?_
    refine q_skip hk rfl rfl fun a hk => ?_
    refine q_skip hk rfl rfl fun a hk => ?_
    refine q_skip hk rfl rfl fun a hk => ?_
    refine q_val hk (w_pickT rfl rfl) rfl rfl rfl fun a hk => ?_
    refine q_val hk (w_as rfl) rfl rfl rfl fun a hk => ?_
    refine (c_end (x_t ?_))
    refine c_T hk rfl ?_
    refine wpIn_seq ?_
    refine wpIn_region_lit ?_
    refine q_val hk (w_as rfl) rfl rfl rfl fun a hk => ?_
    refine (c_end (x_t ?_))
    refine (wpIn_ret (x_br (x_tr ?_)))
    refine c_ret1 hk rfl rfl ?_
    refine ⟨?_, hs.toBelow⟩
    have ho := fid_or s
    unfold shErr
    rw [fid_dec, if_pos ho]
    (repeat' split) <;> first | rfl | omega | contradiction | exact absurd (hob.symm.trans (by assumption)) Bool.false_ne_true
  · skip
    refine q_val hk (w_lt rfl rfl (decide_eq_false hc2)) rfl rfl rfl fun a hk => ?_
    refine q_val hk (w_mv rfl) rfl rfl rfl fun a hk => ?_
    refine q_val hk (w_fa rfl fq27_1 ty3) rfl rfl rfl fun a hk => ?_
    refine q_val hk (w_ld1 rfl ty3 (.blk (n := 1) (hs.mi 0 rfl) rfl)) rfl rfl rfl fun a hk => ?_
    rcases Classical.em (255 < T) with hc3 | hc3
    · skip
      refine q_val hk (w_gt rfl rfl (decide_eq_true hc3)) rfl rfl rfl fun a hk => ?_
      refine q_val hk (w_pickF rfl rfl) rfl rfl rfl fun a hk => ?_
      refine q_val hk (w_as rfl) rfl rfl rfl fun a hk => ?_
      refine (c_end (x_t ?_))
      refine c_T hk rfl ?_
      refine wpIn_seq ?_
      refine wpIn_region_lit ?_
      refine q_val hk (w_as rfl) rfl rfl rfl fun a hk => ?_
      refine (c_end (x_t ?_))
      refine (wpIn_ret (x_br (x_tr ?_)))
      refine c_ret1 hk rfl rfl ?_
      refine ⟨?_, hs.toBelow⟩
      have ho := fid_or s
      unfold shErr
      rw [fid_dec, if_pos ho]
      (repeat' split) <;> first | rfl | omega | contradiction | exact absurd (hob.symm.trans (by assumption)) Bool.false_ne_true
    · skip
      refine q_val hk (w_gt rfl rfl (decide_eq_false hc3)) rfl rfl rfl fun a hk => ?_
      refine q_val hk (w_pickF rfl rfl) rfl rfl rfl fun a hk => ?_
      refine q_val hk (w_as rfl) rfl rfl rfl fun a hk => ?_
      refine (c_end (x_t ?_))
      refine c_F hk rfl ?_
      refine wpIn_seq ?_
      refine wpIn_region_lit ?_
      refine q_val hk (w_fa rfl fq27_2 ty3) rfl rfl rfl fun a hk => ?_
      refine q_val hk (w_ld1 rfl ty3 (.blk (n := 1) (hs.mi 0 rfl) rfl)) rfl rfl rfl fun a hk => ?_
      rcases Classical.em (I < 1) with hc4 | hc4
      · skip
        refine q_val hk (w_lt rfl rfl (decide_eq_true hc4)) rfl rfl rfl fun a hk => ?_
        refine q_val hk (w_mv rfl) rfl rfl rfl fun a hk => ?_
        refine q_skip hk rfl rfl fun a hk => ?_
        refine q_skip hk rfl rfl fun a hk => ?_
        refine q_skip hk rfl rfl fun a hk => ?_
        refine q_val hk (w_pickT rfl rfl) rfl rfl rfl fun a hk => ?_
        refine q_val hk (w_as rfl) rfl rfl rfl fun a hk => ?_
        refine (c_end (x_t ?_))
        refine c_T hk rfl ?_
        refine wpIn_seq ?_
        refine wpIn_region_lit ?_
        refine q_val hk (w_as rfl) rfl rfl rfl fun a hk => ?_
        refine (c_end (x_t ?_))
        refine (wpIn_ret (x_br (x_tr ?_)))
        refine c_ret1 hk rfl rfl ?_
        refine ⟨?_, hs.toBelow⟩
        have ho := fid_or s
        unfold shErr
        rw [fid_dec, if_pos ho]
        (repeat' split) <;> first | rfl | omega | contradiction | exact absurd (hob.symm.trans (by assumption)) Bool.false_ne_true
      · skip
        refine q_val hk (w_lt rfl rfl (decide_eq_false hc4)) rfl rfl rfl fun a hk => ?_
        refine q_val hk (w_mv rfl) rfl rfl rfl fun a hk => ?_
        refine q_val hk (w_fa rfl fq27_2 ty3) rfl rfl rfl fun a hk => ?_
        refine q_val hk (w_ld1 rfl ty3 (.blk (n := 1) (hs.mi 0 rfl) rfl)) rfl rfl rfl fun a hk => ?_
        rcases Classical.em (255 < I) with hc5 | hc5
        · skip
          refine q_val hk (w_gt rfl rfl (decide_eq_true hc5)) rfl rfl rfl fun a hk => ?_
          refine q_val hk (w_pickF rfl rfl) rfl rfl rfl fun a hk => ?_
          refine q_val hk (w_as rfl) rfl rfl rfl fun a hk => ?_
          refine (c_end (x_t ?_))
          refine c_T hk rfl ?_
          refine wpIn_seq ?_
          refine wpIn_region_lit ?_
          refine q_val hk (w_as rfl) rfl rfl rfl fun a hk => ?_
          refine (c_end (x_t ?_))
          refine (wpIn_ret (x_br (x_tr ?_)))
          refine c_ret1 hk rfl rfl ?_
          refine ⟨?_, hs.toBelow⟩
          have ho := fid_or s
          unfold shErr
          rw [fid_dec, if_pos ho]
          (repeat' split) <;> first | rfl | omega | contradiction | exact absurd (hob.symm.trans (by assumption)) Bool.false_ne_true
        · skip
          refine q_val hk (w_gt rfl rfl (decide_eq_false hc5)) rfl rfl rfl fun a hk => ?_
          refine q_val hk (w_pickF rfl rfl) rfl rfl rfl fun a hk => ?_
          refine q_val hk (w_as rfl) rfl rfl rfl fun a hk => ?_
          refine (c_end (x_t ?_))
          refine c_F hk rfl ?_
          refine wpIn_seq ?_
          refine wpIn_region_lit ?_
          refine q_val hk (w_fa rfl fq27_3 ty3) rfl rfl rfl fun a hk => ?_
          refine q_val hk (w_ld1 rfl ty3 (.blk (n := 1) (hs.mi 0 rfl) rfl)) rfl rfl rfl fun a hk => ?_
          rcases Classical.em (L < 0) with hc6 | hc6
          · skip
            refine q_val hk (w_lt rfl rfl (decide_eq_true hc6)) rfl rfl rfl fun a hk => ?_
            refine q_val hk (w_mv rfl) rfl rfl rfl fun a hk => ?_
            refine q_skip hk rfl rfl fun a hk => ?_
            refine q_skip hk rfl rfl fun a hk => ?_
            refine q_skip hk rfl rfl fun a hk => ?_
            refine q_val hk (w_pickT rfl rfl) rfl rfl rfl fun a hk => ?_
            refine q_val hk (w_as rfl) rfl rfl rfl fun a hk => ?_
            refine (c_end (x_t ?_))
            refine c_T hk rfl ?_
            refine wpIn_seq ?_
            refine wpIn_region_lit ?_
            refine q_val hk (w_as rfl) rfl rfl rfl fun a hk => ?_
            refine (c_end (x_t ?_))
            refine (wpIn_ret (x_br (x_tr ?_)))
            refine c_ret1 hk rfl rfl ?_
            refine ⟨?_, hs.toBelow⟩
            have ho := fid_or s
            unfold shErr
            rw [fid_dec, if_pos ho]
            (repeat' split) <;> first | rfl | omega | contradiction | exact absurd (hob.symm.trans (by assumption)) Bool.false_ne_true
          · skip
            refine q_val hk (w_lt rfl rfl (decide_eq_false hc6)) rfl rfl rfl fun a hk => ?_
            refine q_val hk (w_mv rfl) rfl rfl rfl fun a hk => ?_
            refine q_val hk (w_fa rfl fq27_3 ty3) rfl rfl rfl fun a hk => ?_
            refine q_val hk (w_ld1 rfl ty3 (.blk (n := 1) (hs.mi 0 rfl) rfl)) rfl rfl rfl fun a hk => ?_
            rcases Classical.em (65535 < L) with hc7 | hc7
            · skip
              refine q_val hk (w_gt rfl rfl (decide_eq_true hc7)) rfl rfl rfl fun a hk => ?_
              refine q_val hk (w_pickF rfl rfl) rfl rfl rfl fun a hk => ?_
              refine q_val hk (w_as rfl) rfl rfl rfl fun a hk => ?_
              refine (c_end (x_t ?_))
              refine c_T hk rfl ?_
              refine wpIn_seq ?_
              refine wpIn_region_lit ?_
              refine q_val hk (w_as rfl) rfl rfl rfl fun a hk => ?_
              refine (c_end (x_t ?_))
              refine (wpIn_ret (x_br (x_tr ?_)))
              refine c_ret1 hk rfl rfl ?_
              refine ⟨?_, hs.toBelow⟩
              have ho := fid_or s
              unfold shErr
              rw [fid_dec, if_pos ho]
              (repeat' split) <;> first | rfl | omega | contradiction | exact absurd (hob.symm.trans (by assumption)) Bool.false_ne_true
            · skip
              refine q_val hk (w_gt rfl rfl (decide_eq_false hc7)) rfl rfl rfl fun a hk => ?_
              refine q_val hk (w_pickF rfl rfl) rfl rfl rfl fun a hk => ?_
              refine q_val hk (w_as rfl) rfl rfl rfl fun a hk => ?_
              refine (c_end (x_t ?_))
              refine c_F hk rfl ?_
              refine wpIn_seq ?_
              rcases Classical.em (((n : Nat) : Int) ≠ ((cn L : Nat) : Int)) with hc8 | hc8
              · skip
                have hL := okL.cons (hs.mi 0 rfl) okL.nil
                refine d_begin _ 8 (by kernel_rfl) rfl hs hL fun w hs hL => ?_
                refine d_v 0 1 hk hL rfl (by kernel_rfl) rfl rfl (fun w hL => w_fa rfl fq27_4 ty25) fun a hk => ?_
                refine d_v 1 3 hk hL rfl (by kernel_rfl) rfl rfl (fun w hL => w_ld1 rfl ty25 (.blk (n := 1) (hL.at 0 rfl) rfl)) fun a hk => ?_
                refine d_v 2 7 hk hL rfl (by kernel_rfl) rfl rfl (fun w hL => w_len rfl Tryd.underlying25) fun a hk => ?_
                refine d_v 3 15 hk hL rfl (by kernel_rfl) rfl rfl (fun w hL => w_fa rfl fq27_3 ty3) fun a hk => ?_
                refine d_v 4 31 hk hL rfl (by kernel_rfl) rfl rfl (fun w hL => w_ld1 rfl ty3 (.blk (n := 1) (hL.at 0 rfl) rfl)) fun a hk => ?_
                refine d_1 5 63 rfl (by kernel_rfl) fun K hK => ?_
                refine q_call (caps := []) hk rfl rfl Tryd.func25 fo25 rfl rfl (refCount_c L (by omega) _) ?_
                rintro _ _ ⟨rfl, rfl⟩
                refine ⟨_, rfl, fun a hk => ?_⟩
                have hL := okL.cons (hs.mi 0 rfl) okL.nil
                refine c_end (x_t (hK _ _ hL ?_))
                clear hK K
                refine d_v 6 127 hk hL rfl (by kernel_rfl) rfl rfl (fun w hL => w_ne rfl rfl (decide_eq_true hc8)) fun a hk => ?_
                refine d_v 7 255 hk hL rfl (by kernel_rfl) rfl rfl (fun w hL => w_as rfl) fun a hk => ?_
                refine d_end (by kernel_rfl) ?_
                refine (x_t ?_)
                refine c_T hk rfl ?_
                refine wpIn_seq ?_
                refine wpIn_region_lit ?_
                refine q_val hk (w_as rfl) rfl rfl rfl fun a hk => ?_
                refine (c_end (x_t ?_))
                refine (wpIn_ret (x_br (x_tr ?_)))
                refine c_ret1 hk rfl rfl ?_
                refine ⟨?_, hs.toBelow⟩
                have ho := fid_or s
                unfold shErr
                rw [fid_dec, if_pos ho]
                (repeat' split) <;> first | rfl | omega | contradiction | exact absurd (hob.symm.trans (by assumption)) Bool.false_ne_true
              · skip
                have hL := okL.cons (hs.mi 0 rfl) okL.nil
                refine d_begin _ 8 (by kernel_rfl) rfl hs hL fun w hs hL => ?_
                refine d_v 0 1 hk hL rfl (by kernel_rfl) rfl rfl (fun w hL => w_fa rfl fq27_4 ty25) fun a hk => ?_
                refine d_v 1 3 hk hL rfl (by kernel_rfl) rfl rfl (fun w hL => w_ld1 rfl ty25 (.blk (n := 1) (hL.at 0 rfl) rfl)) fun a hk => ?_
                refine d_v 2 7 hk hL rfl (by kernel_rfl) rfl rfl (fun w hL => w_len rfl Tryd.underlying25) fun a hk => ?_
                refine d_v 3 15 hk hL rfl (by kernel_rfl) rfl rfl (fun w hL => w_fa rfl fq27_3 ty3) fun a hk => ?_
                refine d_v 4 31 hk hL rfl (by kernel_rfl) rfl rfl (fun w hL => w_ld1 rfl ty3 (.blk (n := 1) (hL.at 0 rfl) rfl)) fun a hk => ?_
                refine d_1 5 63 rfl (by kernel_rfl) fun K hK => ?_
                refine q_call (caps := []) hk rfl rfl Tryd.func25 fo25 rfl rfl (refCount_c L (by omega) _) ?_
                rintro _ _ ⟨rfl, rfl⟩
                refine ⟨_, rfl, fun a hk => ?_⟩
                have hL := okL.cons (hs.mi 0 rfl) okL.nil
                refine c_end (x_t (hK _ _ hL ?_))
                clear hK K
                refine d_v 6 127 hk hL rfl (by kernel_rfl) rfl rfl (fun w hL => w_ne rfl rfl (decide_eq_false hc8)) fun a hk => ?_
                refine d_v 7 255 hk hL rfl (by kernel_rfl) rfl rfl (fun w hL => w_as rfl) fun a hk => ?_
                refine d_end (by kernel_rfl) ?_
                refine (x_t ?_)
                refine c_F hk rfl ?_
                refine (wpIn_skip (x_b (x_t ?_)))
                refine wpIn_seq ?_
                refine wpIn_region_lit ?_
                refine q_val hk (w_fa rfl fq27_0 ty3) rfl rfl rfl fun a hk => ?_
                refine q_val hk (w_ld1 rfl ty3 (.blk (n := 1) (hs.mi 0 rfl) rfl)) rfl rfl rfl fun a hk => ?_
                refine q_call (caps := []) hk rfl rfl Tryd.func31 fo31 rfl rfl (refModulus_c s _) ?_
                rintro _ w ⟨rfl, hb⟩
                have hs := hs.below hb
                refine ⟨_, rfl, fun a hk => ?_⟩
                refine q_alc (vs := [.int .u64 0, .int .u64 0, .int .u64 0, .int .u64 0]) hk hs zr50 rfl rfl rfl fun b9 w a hk hs => ?_
                refine q_sto (o := 0) (cs := [.int .u64 ((dg 0 (pr s) : Nat) : Int), .int .u64 ((dg 1 (pr s) : Nat) : Int), .int .u64 ((dg 2 (pr s) : Nat) : Int), .int .u64 ((dg 3 (pr s) : Nat) : Int)]) (vs' := [.int .u64 ((dg 0 (pr s) : Nat) : Int), .int .u64 ((dg 1 (pr s) : Nat) : Int), .int .u64 ((dg 2 (pr s) : Nat) : Int), .int .u64 ((dg 3 (pr s) : Nat) : Int)]) hk hs rfl rfl rfl ty50 rfl rfl rfl rfl rfl rfl fun w hs => ?_
                refine (c_end (x_t ?_))
                refine wpIn_seq ?_
                refine wpIn_seq ?_
                refine wpIn_region_lit ?_
                refine q_val hk (w_as rfl) rfl rfl rfl fun a hk => ?_
                refine (c_end (x_t ?_))
                refine wpIn_block ?_
                refine c_loop (α := Nat) (fun k a w => k ≤ n ∧ okB s X k = true ∧ Kn 68 [(4, .int .i64 (k : Int)), (3, .pointer (some ⟨b9, 0, none⟩)), (1, .pointer (some ⟨b1, 0, none⟩))] a ∧ Sat no W [blk b9 [.int .u64 ((dg 0 (pr s) : Nat) : Int), .int .u64 ((dg 1 (pr s) : Nat) : Int), .int .u64 ((dg 2 (pr s) : Nat) : Int), .int .u64 ((dg 3 (pr s) : Nat) : Int)] 50, blk b1 [.int .i64 (fid s), .int .i64 T, .int .i64 I, .int .i64 L, .slice la n lc] 27] [lst 4 (.slice la n lc) n (en vq X n)] w) (fun k => n - k) 0 ?_ ?_
                · exact ⟨(by omega), rfl, hk.k rfl (hk.k rfl (hk.k rfl hk.nil)), hs⟩
                rintro k a w ⟨hf0, hf1, hk, hs⟩
                refine wpIn_seq ?_
                refine wpIn_seq ?_
                refine wpIn_region_lit ?_
                refine q_val hk (w_mv rfl) rfl rfl rfl fun a hk => ?_
                refine q_val hk (w_fa rfl fq27_4 ty25) rfl rfl rfl fun a hk => ?_
                refine q_val hk (w_ld1 rfl ty25 (.blk (n := 1) (hs.mi 1 rfl) rfl)) rfl rfl rfl fun a hk => ?_
                refine q_val hk (w_len rfl Tryd.underlying25) rfl rfl rfl fun a hk => ?_
                rcases Classical.em ((k : Int) < ((n : Nat) : Int)) with hc10 | hc10
                · skip
                  have hlt : k < n := by omega
                  refine q_val hk (w_lt rfl rfl (decide_eq_true hc10)) rfl rfl rfl fun a hk => ?_
                  refine (c_end (x_t ?_))
                  refine c_T hk rfl ?_
                  refine (wpIn_skip (x_t ?_))
                  refine wpIn_seq ?_
                  refine wpIn_block ?_
                  refine wpIn_seq ?_
                  rcases Classical.em (rdc (pr s) (X k) 0 ≠ X k) with hc11 | hc11
                  · skip
                    have hob := okB_bad hlt hc11
                    have hL := okL.cons (hs.mi 0 rfl) (okL.cons (hs.mi 1 rfl) (okL.cons (hs.ri 0 rfl) okL.nil))
                    refine d_begin _ 13 (by kernel_rfl) rfl hs hL fun w hs hL => ?_
                    refine d_v 0 1 hk hL rfl (by kernel_rfl) rfl rfl (fun w hL => w_ldv (z := pr s) rfl ty50 (.blk (n := 4) (hL.at 0 rfl) rfl)) fun a hk => ?_
                    refine d_v 1 3 hk hL rfl (by kernel_rfl) rfl rfl (fun w hL => w_fa rfl fq27_4 ty25) fun a hk => ?_
                    refine d_v 2 7 hk hL rfl (by kernel_rfl) rfl rfl (fun w hL => w_ld1 rfl ty25 (.blk (n := 1) (hL.at 1 rfl) rfl)) fun a hk => ?_
                    refine d_v 3 15 hk hL rfl (by kernel_rfl) rfl rfl (fun w hL => w_mv rfl) fun a hk => ?_
                    refine d_v 4 31 hk hL rfl (by kernel_rfl) rfl rfl (fun w hL => w_iaL (k := k) rfl rfl Tryd.underlying25 ty51 (hL.at 2 rfl) (by omega) (by omega)) fun a hk => ?_
                    refine d_v 5 63 hk hL rfl (by kernel_rfl) rfl rfl (fun w hL => w_ldv (z := X k) rfl ty51 (lstq (k := k) (hL.at 2 rfl) (by omega) (en_chunk vq_len (by omega)))) fun a hk => ?_
                    refine d_v 7 191 hk hL rfl (by kernel_rfl) rfl rfl (fun w hL => w_fa rfl fq27_4 ty25) fun a hk => ?_
                    refine d_v 8 447 hk hL rfl (by kernel_rfl) rfl rfl (fun w hL => w_ld1 rfl ty25 (.blk (n := 1) (hL.at 1 rfl) rfl)) fun a hk => ?_
                    refine d_v 9 959 hk hL rfl (by kernel_rfl) rfl rfl (fun w hL => w_mv rfl) fun a hk => ?_
                    refine d_v 10 1983 hk hL rfl (by kernel_rfl) rfl rfl (fun w hL => w_iaL (k := k) rfl rfl Tryd.underlying25 ty51 (hL.at 2 rfl) (by omega) (by omega)) fun a hk => ?_
                    refine d_v 11 4031 hk hL rfl (by kernel_rfl) rfl rfl (fun w hL => w_ldv (z := X k) rfl ty51 (lstq (k := k) (hL.at 2 rfl) (by omega) (en_chunk vq_len (by omega)))) fun a hk => ?_
                    refine d_1 6 4095 rfl (by kernel_rfl) fun K hK => ?_
                    refine q_call (caps := []) hk rfl rfl Tryd.func41 fo41 rfl rfl (refSubtract_c (pr s) (X k) 0 (pr_lt s) (H4 k hlt) _) ?_
                    rintro _ w ⟨rfl, hb⟩
                    have hs := hs.below hb
                    refine ⟨_, rfl, fun a hk => ?_⟩
                    have hL := okL.cons (hs.mi 0 rfl) (okL.cons (hs.mi 1 rfl) (okL.cons (hs.ri 0 rfl) okL.nil))
                    refine c_end (x_t (hK _ _ hL ?_))
                    clear hK K
                    refine d_v 12 8191 hk hL rfl (by kernel_rfl) rfl rfl (fun w hL => w_vne rfl rfl (rdc_R4 (pr_pos s) (H4 k hlt)) (H4 k hlt) Tryd.underlying50 Tryd.underlying49 ty49 eg50 (decide_eq_true hc11)) fun a hk => ?_
                    refine d_end (by kernel_rfl) ?_
                    refine (x_t ?_)
                    refine c_T hk rfl ?_
                    refine wpIn_seq ?_
                    refine wpIn_region_lit ?_
                    refine q_val hk (w_as rfl) rfl rfl rfl fun a hk => ?_
                    refine (c_end (x_t ?_))
                    refine (wpIn_ret (x_br (x_tr (x_tr (x_br (x_tr ?_))))))
                    refine c_ret1 hk rfl rfl ?_
                    refine ⟨?_, hs.toBelow⟩
                    have ho := fid_or s
                    unfold shErr
                    rw [fid_dec, if_pos ho]
                    (repeat' split) <;> first | rfl | omega | contradiction | exact absurd (hob.symm.trans (by assumption)) Bool.false_ne_true
                  · skip
                    have hob := okB_next hf1 (H4 k hlt) hc11
                    have hL := okL.cons (hs.mi 0 rfl) (okL.cons (hs.mi 1 rfl) (okL.cons (hs.ri 0 rfl) okL.nil))
                    refine d_begin _ 13 (by kernel_rfl) rfl hs hL fun w hs hL => ?_
                    refine d_v 0 1 hk hL rfl (by kernel_rfl) rfl rfl (fun w hL => w_ldv (z := pr s) rfl ty50 (.blk (n := 4) (hL.at 0 rfl) rfl)) fun a hk => ?_
                    refine d_v 1 3 hk hL rfl (by kernel_rfl) rfl rfl (fun w hL => w_fa rfl fq27_4 ty25) fun a hk => ?_
                    refine d_v 2 7 hk hL rfl (by kernel_rfl) rfl rfl (fun w hL => w_ld1 rfl ty25 (.blk (n := 1) (hL.at 1 rfl) rfl)) fun a hk => ?_
                    refine d_v 3 15 hk hL rfl (by kernel_rfl) rfl rfl (fun w hL => w_mv rfl) fun a hk => ?_
                    refine d_v 4 31 hk hL rfl (by kernel_rfl) rfl rfl (fun w hL => w_iaL (k := k) rfl rfl Tryd.underlying25 ty51 (hL.at 2 rfl) (by omega) (by omega)) fun a hk => ?_
                    refine d_v 5 63 hk hL rfl (by kernel_rfl) rfl rfl (fun w hL => w_ldv (z := X k) rfl ty51 (lstq (k := k) (hL.at 2 rfl) (by omega) (en_chunk vq_len (by omega)))) fun a hk => ?_
                    refine d_v 7 191 hk hL rfl (by kernel_rfl) rfl rfl (fun w hL => w_fa rfl fq27_4 ty25) fun a hk => ?_
                    refine d_v 8 447 hk hL rfl (by kernel_rfl) rfl rfl (fun w hL => w_ld1 rfl ty25 (.blk (n := 1) (hL.at 1 rfl) rfl)) fun a hk => ?_
                    refine d_v 9 959 hk hL rfl (by kernel_rfl) rfl rfl (fun w hL => w_mv rfl) fun a hk => ?_
                    refine d_v 10 1983 hk hL rfl (by kernel_rfl) rfl rfl (fun w hL => w_iaL (k := k) rfl rfl Tryd.underlying25 ty51 (hL.at 2 rfl) (by omega) (by omega)) fun a hk => ?_
                    refine d_v 11 4031 hk hL rfl (by kernel_rfl) rfl rfl (fun w hL => w_ldv (z := X k) rfl ty51 (lstq (k := k) (hL.at 2 rfl) (by omega) (en_chunk vq_len (by omega)))) fun a hk => ?_
                    refine d_1 6 4095 rfl (by kernel_rfl) fun K hK => ?_
                    refine q_call (caps := []) hk rfl rfl Tryd.func41 fo41 rfl rfl (refSubtract_c (pr s) (X k) 0 (pr_lt s) (H4 k hlt) _) ?_
                    rintro _ w ⟨rfl, hb⟩
                    have hs := hs.below hb
                    refine ⟨_, rfl, fun a hk => ?_⟩
                    have hL := okL.cons (hs.mi 0 rfl) (okL.cons (hs.mi 1 rfl) (okL.cons (hs.ri 0 rfl) okL.nil))
                    refine c_end (x_t (hK _ _ hL ?_))
                    clear hK K
                    refine d_v 12 8191 hk hL rfl (by kernel_rfl) rfl rfl (fun w hL => w_vne rfl rfl (rdc_R4 (pr_pos s) (H4 k hlt)) (H4 k hlt) Tryd.underlying50 Tryd.underlying49 ty49 eg50 (decide_eq_false hc11)) fun a hk => ?_
                    refine d_end (by kernel_rfl) ?_
                    refine (x_t ?_)
                    refine c_F hk rfl ?_
                    refine (wpIn_skip (x_b (x_t ?_)))
                    refine wpIn_region_lit ?_
                    refine q_val hk (w_mv rfl) rfl rfl rfl fun a hk => ?_
                    refine q_val hk (w_add rfl rfl (wr64 (by omega) (by omega))) rfl rfl rfl fun a hk => ?_
                    refine q_val hk (w_as rfl) rfl rfl rfl fun a hk => ?_
                    refine (c_end (x_t ?_))
                    exact ⟨k + 1, ⟨(by omega), hob, hk.k rfl (hk.k rfl (hk.k rfl hk.nil)), hs⟩, by omega⟩
                · skip
                  obtain rfl : n = k := by omega
                  refine q_val hk (w_lt rfl rfl (decide_eq_false hc10)) rfl rfl rfl fun a hk => ?_
                  refine (c_end (x_t ?_))
                  refine c_F hk rfl ?_
                  refine (wpIn_exit (x_te (x_te (x_be ?_))))
                  refine (x_t ?_)
                  refine wpIn_seq ?_
                  refine wpIn_region_lit ?_
                  refine q_val hk (w_as rfl) rfl rfl rfl fun a hk => ?_
                  refine (c_end (x_t ?_))
                  refine (wpIn_ret ?_)
                  refine c_ret1 hk rfl rfl ?_
                  refine ⟨?_, hs.toBelow⟩
                  have ho := fid_or s
                  unfold shErr
                  rw [fid_dec, if_pos ho]
                  (repeat' split) <;> first | rfl | omega | contradiction | exact absurd (hob.symm.trans (by assumption)) Bool.false_ne_true
theorem ckShare_c (F T I L : Int) (la : Option Addr) (n lc : Nat) (X : Nat → Nat) (W : World) (HX : LstAt W 4 (.slice la n lc) n (en vq X n)) (hn : n ≤ 100000000) (H4 : ∀ i, i < n → X i < R4) (HL : Laid W) :
    Calls Tryd.prog 27 #[.agg #[.int .i64 F, .int .i64 T, .int .i64 I, .int .i64 L, .slice la n lc]] W fun e w => e = .returned (.int .i64 (shErr F T I L n X)) ∧ Below W.heap.size W w := by
  by_cases h1 : F = 1
  · subst h1; exact ckShare_s false T I L la n lc X W HX hn H4 HL
  by_cases h2 : F = 2
  · subst h2; exact ckShare_s true T I L la n lc X W HX hn H4 HL
  exact ckShare_bad F T I L la n lc X W HX hn H4 HL h1 h2
theorem refCkShare_c (F T I L : Int) (la : Option Addr) (n lc : Nat) (X : Nat → Nat) (W : World) (HX : LstAt W 4 (.slice la n lc) n (en vq X n)) (hn : n ≤ 100000000) (H4 : ∀ i, i < n → X i < R4) :
    Calls Tryd.prog 19 #[.agg #[.int .i64 F, .int .i64 T, .int .i64 I, .int .i64 L, .slice la n lc]] W fun e w => e = .returned (.int .i64 (shErr F T I L n X)) ∧ Below W.heap.size W w := by
  by_cases h1 : F = 1
  · subst h1; exact refCkShare_s false T I L la n lc X W HX hn H4
  by_cases h2 : F = 2
  · subst h2; exact refCkShare_s true T I L la n lc X W HX hn H4
  exact refCkShare_bad F T I L la n lc X W HX hn H4 h1 h2
end Go.Proofs.YtjhfepkpfakemaaDoor
