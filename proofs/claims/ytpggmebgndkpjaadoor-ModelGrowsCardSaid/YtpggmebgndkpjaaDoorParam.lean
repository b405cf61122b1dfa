/- The field of a number, bounds; what Check says of parameters, in the program and in the reference. -/
import Derived.Test.YtpggmebgndkpjaaDoorChunkSplit
import Derived.Test.YtpggmebgndkpjaaDoorSyn
import Derived.Test.YtpggmebgndkpjaaDoorTy
namespace Go.Proofs.YtpggmebgndkpjaaDoor
set_option linter.all false
open Go Go.RowKit

abbrev fieldZ : Value := .agg #[.int .i64 0, .int .u64 0, .int .u64 0, .int .u64 0, .int .u64 0, .int .u64 0, .int .u64 0, .int .u64 0, .int .u64 0, .int .u64 0, .int .u64 0, .int .u64 0, .int .u64 0, .int .u64 0]
set_option maxRecDepth 100000 in
set_option maxHeartbeats 1000000 in
theorem getBad_c (F : Int) (h1 : F ≠ 1) (h2 : F ≠ 2) (w : World) (hL : Laid w) :
    Calls Tryd.prog 55 #[.int .i64 F] w fun e w' => e = .returned (.tuple #[fieldZ, .int .i64 3]) ∧ Below w.heap.size w w' := by
  have i0 := index0
  have i1 := index1
  have q1 : (fid false == F) = false := by rw [beq_eq_false_iff_ne]; exact h1.symm
  have q2 : (fid true == F) = false := by rw [beq_eq_false_iff_ne]; exact h2.symm
  have hg : ∀ o j v, fieldCells[j]? = some v → (w.alloc o).cell? ⟨0, j, none⟩ = some v := fun o => (hL.step ((Below.refl _ _).alloc (Nat.le_refl _) _))
  have Hg := Lib.hid hg
  clear hg h1 h2
  go_enter Tryd.func55, Tryd.ntmps55
  go_wp2_with (refine wpList_load_cells rfl 114 (.global 0) rfl 0 rfl fieldCells _ (Hg.out _) Tryd.underlying114 rfl (by kernel_rfl) ?_; simp only [Act.put, List.setIfInBounds_toArray, List.set_cons_zero, List.set_cons_succ])
  refine wp_loop_rounds 3 ?_
  rw [rounds_succ]
  go_wp2_with fail
  rw [rounds_succ]
  go_wp2_with fail
  rw [rounds_succ]
  go_wp2_with fail
  refine bodyPost_ret (v := .tuple #[fieldZ, .int .i64 3]) (by simp only [results, Tryd.results55]; go_simp) rfl ⟨rfl, ?_⟩
  repeat first
    | with_reducible exact Below.refl _ _
    | with_reducible refine Below.drew ?_
    | with_reducible refine below_dN ?_
    | with_reducible refine Below.alloc ?_ (by first | omega | (simp; done) | (simp; omega)) _
    | with_reducible refine Below.setCell ?_ (by first | omega | (simp; done) | (simp; omega)) _
    | with_reducible refine Below.trans ?_ (Below.mono (by assumption) (by first | omega | (simp; done) | (simp; omega)))
theorem fid_or (s : Bool) : fid s = 1 ∨ fid s = 2 := by cases s <;> decide
theorem fid_dec (s : Bool) : decide (fid s = 2) = s := by cases s <;> decide
theorem between_t (x lo hi : Int) (w : World) (h : lo ≤ x ∧ x ≤ hi) : Calls Tryd.prog 97 #[.int .i64 x, .int .i64 lo, .int .i64 hi] w fun e w' => e = .returned (.bool true) ∧ w = w' := by
  obtain ⟨h1, h2⟩ := h
  have q1 : decide (lo ≤ x) = true := decide_eq_true h1
  have q2 : decide (x ≤ hi) = true := decide_eq_true h2
  go_enter Tryd.func97, Tryd.ntmps97
  go_wp2
  go_ret
  exact ⟨rfl, rfl⟩
theorem between_f (x lo hi : Int) (w : World) (h : ¬ (lo ≤ x ∧ x ≤ hi)) : Calls Tryd.prog 97 #[.int .i64 x, .int .i64 lo, .int .i64 hi] w fun e w' => e = .returned (.bool false) ∧ w = w' := by
  by_cases h1 : lo ≤ x
  · have h2 : ¬ x ≤ hi := fun h2 => h ⟨h1, h2⟩
    have q1 : decide (lo ≤ x) = true := decide_eq_true h1
    have q2 : decide (x ≤ hi) = false := decide_eq_false h2
    clear h h2
    go_enter Tryd.func97, Tryd.ntmps97
    go_wp2
    go_ret
    exact ⟨rfl, rfl⟩
  · have q1 : decide (lo ≤ x) = false := decide_eq_false h1
    clear h h1
    go_enter Tryd.func97, Tryd.ntmps97
    go_wp2
    go_ret
    exact ⟨rfl, rfl⟩
theorem known_t (x : Int) (w : World) (h : x = 1 ∨ x = 2) : Calls Tryd.prog 47 #[.int .i64 x] w fun e w' => e = .returned (.bool true) ∧ w = w' := by
  rcases h with rfl | rfl
  all_goals
    go_enter Tryd.func47, Tryd.ntmps47
    go_wp2
    go_ret
    exact ⟨rfl, rfl⟩
theorem known_f (x : Int) (w : World) (h : ¬ (x = 1 ∨ x = 2)) : Calls Tryd.prog 47 #[.int .i64 x] w fun e w' => e = .returned (.bool false) ∧ w = w' := by
  have h1 : (x == 1) = false := by rw [beq_eq_false_iff_ne]; exact fun e => h (.inl e)
  have h2 : (x == 2) = false := by rw [beq_eq_false_iff_ne]; exact fun e => h (.inr e)
  clear h
  go_enter Tryd.func47, Tryd.ntmps47
  go_wp2
  go_ret
  exact ⟨rfl, rfl⟩
/-- The error of parameters. -/
def prErr (F T N L : Int) : Int := if F = 1 ∨ F = 2 then if 1 ≤ N ∧ N ≤ 255 then if 1 ≤ T ∧ T ≤ N then if 0 ≤ L ∧ L ≤ 65535 then 0 else 6 else 4 else 5 else 3
theorem ckPar_bad (F T N L : Int) (W : World) (HL : Laid W) (h1 : F ≠ 1) (h2 : F ≠ 2) : Calls Tryd.prog 68 [.agg #[.int .i64 F, .int .i64 T, .int .i64 N, .int .i64 L]].toArray W fun e w => e = .returned (.int .i64 (prErr F T N L)) ∧ Below W.heap.size W w := by
  refine c_enter (args := [.agg #[.int .i64 F, .int .i64 T, .int .i64 N, .int .i64 L]]) Tryd.func68 rfl rfl rfl fun a hk => ?_
  have hs := Sat.start W [] (fun _ h => by cases h)
  refine wpIn_seq ?_
  refine wpIn_region_lit ?_
  refine q_box (vs := [.int .i64 F, .int .i64 T, .int .i64 N, .int .i64 L]) hk hs rfl rfl rfl rfl fun b1 w a hk hs => ?_
  refine q_val hk (w_as rfl) rfl rfl rfl fun a hk => ?_
  refine (c_end (x_t ?_))
  refine wpIn_seq ?_
  refine wpIn_region_lit ?_
  refine q_val hk (w_fa rfl fq23_0 ty3) rfl rfl rfl fun a hk => ?_
  refine q_val hk (w_ld1 rfl ty3 (.blk (n := 1) (hs.mi 0 rfl) rfl)) rfl rfl rfl fun a hk => ?_
  refine q_call (caps := []) hk rfl rfl Tryd.func55 fo55 rfl rfl (getBad_c F h1 h2 _ (HL.step hs.toBelow)) ?_
  rintro _ w ⟨rfl, hb⟩
  have hs := hs.below hb
  refine ⟨_, rfl, fun a hk => ?_⟩
  refine q_val hk (w_mv rfl) rfl rfl rfl fun a hk => ?_
  refine q_val hk (w_ext rfl rfl) rfl rfl rfl fun a hk => ?_
  refine q_val hk (w_ext rfl rfl) rfl rfl rfl fun a hk => ?_
  refine q_alc (vs := [.int .i64 0, .int .u64 0, .int .u64 0, .int .u64 0, .int .u64 0, .int .u64 0, .int .u64 0, .int .u64 0, .int .u64 0, .int .u64 0, .int .u64 0, .int .u64 0, .int .u64 0, .int .u64 0]) hk hs zr47 rfl rfl rfl fun b2 w a hk hs => ?_
  refine q_sto (o := 0) (cs := [.int .i64 0, .int .u64 0, .int .u64 0, .int .u64 0, .int .u64 0, .int .u64 0, .int .u64 0, .int .u64 0, .int .u64 0, .int .u64 0, .int .u64 0, .int .u64 0, .int .u64 0, .int .u64 0]) (vs' := [.int .i64 0, .int .u64 0, .int .u64 0, .int .u64 0, .int .u64 0, .int .u64 0, .int .u64 0, .int .u64 0, .int .u64 0, .int .u64 0, .int .u64 0, .int .u64 0, .int .u64 0, .int .u64 0]) hk hs rfl rfl rfl ty47 rfl rfl rfl rfl rfl rfl fun w hs => ?_
  refine q_val hk (w_as rfl) rfl rfl rfl fun a hk => ?_
  refine (c_end (x_t ?_))
  refine wpIn_seq ?_
  refine wpIn_block ?_
  refine wpIn_seq ?_
  refine wpIn_region_lit ?_
  refine q_val hk (w_mv rfl) rfl rfl rfl fun a hk => ?_
  refine q_val hk (w_ne rfl rfl (decide_eq_true (by decide))) rfl rfl rfl fun a hk => ?_
  refine q_val hk (w_as rfl) rfl rfl rfl fun a hk => ?_
  refine (c_end (x_t ?_))
  refine c_T hk rfl ?_
  refine wpIn_seq ?_
  refine wpIn_region_lit ?_
  refine q_val hk (w_mv rfl) rfl rfl rfl fun a hk => ?_
  refine q_val hk (w_as rfl) rfl rfl rfl fun a hk => ?_
  refine (c_end (x_t ?_))
  refine (wpIn_ret (x_br (x_tr ?_)))
  refine c_ret1 hk rfl rfl ?_
  exact ⟨by unfold prErr; rw [if_neg (by omega)], hs.toBelow⟩
theorem ckPar_s (s : Bool) (T N L : Int) (W : World) (HL : Laid W) : Calls Tryd.prog 68 [.agg #[.int .i64 (fid s), .int .i64 T, .int .i64 N, .int .i64 L]].toArray W fun e w => e = .returned (.int .i64 (prErr (fid s) T N L)) ∧ Below W.heap.size W w := by
  refine c_enter (args := [.agg #[.int .i64 (fid s), .int .i64 T, .int .i64 N, .int .i64 L]]) Tryd.func68 rfl rfl rfl fun a hk => ?_
  have hs := Sat.start W [] (fun _ h => by cases h)
  refine wpIn_seq ?_
  refine wpIn_region_lit ?_
  refine q_box (vs := [.int .i64 (fid s), .int .i64 T, .int .i64 N, .int .i64 L]) hk hs rfl rfl rfl rfl fun b1 w a hk hs => ?_
  refine q_val hk (w_as rfl) rfl rfl rfl fun a hk => ?_
  refine (c_end (x_t ?_))
  refine wpIn_seq ?_
  refine wpIn_region_lit ?_
  refine q_val hk (w_fa rfl fq23_0 ty3) rfl rfl rfl fun a hk => ?_
  refine q_val hk (w_ld1 rfl ty3 (.blk (n := 1) (hs.mi 0 rfl) rfl)) rfl rfl rfl fun a hk => ?_
  refine q_call (caps := []) hk rfl rfl Tryd.func55 fo55 rfl rfl (get_c s _ (HL.step hs.toBelow)) ?_
  rintro _ w ⟨rfl, hb⟩
  have hs := hs.below hb
  refine ⟨_, rfl, fun a hk => ?_⟩
  refine q_val hk (w_mv rfl) rfl rfl rfl fun a hk => ?_
  refine q_val hk (w_ext rfl rfl) rfl rfl rfl fun a hk => ?_
  refine q_val hk (w_ext rfl rfl) rfl rfl rfl fun a hk => ?_
  refine q_alc (vs := [.int .i64 0, .int .u64 0, .int .u64 0, .int .u64 0, .int .u64 0, .int .u64 0, .int .u64 0, .int .u64 0, .int .u64 0, .int .u64 0, .int .u64 0, .int .u64 0, .int .u64 0, .int .u64 0]) hk hs zr47 rfl rfl rfl fun b2 w a hk hs => ?_
  refine q_sto (o := 0) (cs := fieldL s) (vs' := fieldL s) hk hs rfl rfl rfl ty47 rfl rfl rfl rfl rfl rfl fun w hs => ?_
  refine q_val hk (w_as rfl) rfl rfl rfl fun a hk => ?_
  refine (c_end (x_t ?_))
  refine wpIn_seq ?_
  refine wpIn_block ?_
  refine wpIn_seq ?_
  refine wpIn_region_lit ?_
  refine q_val hk (w_mv rfl) rfl rfl rfl fun a hk => ?_
  refine q_val hk (w_ne rfl rfl (decide_eq_false (by decide))) rfl rfl rfl fun a hk => ?_
  refine q_val hk (w_as rfl) rfl rfl rfl fun a hk => ?_
  refine (c_end (x_t ?_))
  refine c_F hk rfl ?_
  refine wpIn_seq ?_
  refine wpIn_region_lit ?_
  refine q_val hk (w_fa rfl fq23_2 ty3) rfl rfl rfl fun a hk => ?_
  refine q_val hk (w_ld1 rfl ty3 (.blk (n := 1) (hs.mi 1 rfl) rfl)) rfl rfl rfl fun a hk => ?_
  rcases Classical.em (1 ≤ N ∧ N ≤ 255) with hc3 | hc3
  · skip
    refine q_call (caps := []) hk rfl rfl Tryd.func97 fo97 rfl rfl (between_t _ _ _ _ hc3) ?_
    rintro _ _ ⟨rfl, rfl⟩
    refine ⟨_, rfl, fun a hk => ?_⟩
    refine q_val hk (w_not rfl) rfl rfl rfl fun a hk => ?_
    refine q_val hk (w_as rfl) rfl rfl rfl fun a hk => ?_
    refine (c_end (x_t ?_))
    refine c_F hk rfl ?_
    refine wpIn_seq ?_
    refine wpIn_region_lit ?_
    refine q_val hk (w_fa rfl fq23_1 ty3) rfl rfl rfl fun a hk => ?_
    refine q_val hk (w_ld1 rfl ty3 (.blk (n := 1) (hs.mi 1 rfl) rfl)) rfl rfl rfl fun a hk => ?_
    refine q_val hk (w_fa rfl fq23_2 ty3) rfl rfl rfl fun a hk => ?_
    refine q_val hk (w_ld1 rfl ty3 (.blk (n := 1) (hs.mi 1 rfl) rfl)) rfl rfl rfl fun a hk => ?_
    rcases Classical.em (1 ≤ T ∧ T ≤ N) with hc4 | hc4
    · skip
      refine q_call (caps := []) hk rfl rfl Tryd.func97 fo97 rfl rfl (between_t _ _ _ _ hc4) ?_
      rintro _ _ ⟨rfl, rfl⟩
      refine ⟨_, rfl, fun a hk => ?_⟩
      refine q_val hk (w_not rfl) rfl rfl rfl fun a hk => ?_
      refine q_val hk (w_as rfl) rfl rfl rfl fun a hk => ?_
      refine (c_end (x_t ?_))
      refine c_F hk rfl ?_
      refine wpIn_seq ?_
      refine wpIn_region_lit ?_
      refine q_val hk (w_fa rfl fq23_3 ty3) rfl rfl rfl fun a hk => ?_
      refine q_val hk (w_ld1 rfl ty3 (.blk (n := 1) (hs.mi 1 rfl) rfl)) rfl rfl rfl fun a hk => ?_
      rcases Classical.em (0 ≤ L ∧ L ≤ 65535) with hc5 | hc5
      · skip
        refine q_call (caps := []) hk rfl rfl Tryd.func97 fo97 rfl rfl (between_t _ _ _ _ hc5) ?_
        rintro _ _ ⟨rfl, rfl⟩
        refine ⟨_, rfl, fun a hk => ?_⟩
        refine q_val hk (w_not rfl) rfl rfl rfl fun a hk => ?_
        refine q_val hk (w_as rfl) rfl rfl rfl fun a hk => ?_
        refine (c_end (x_t ?_))
        refine c_F hk rfl ?_
        refine (wpIn_skip (x_b (x_t ?_)))
        refine wpIn_seq ?_
        refine wpIn_region_lit ?_
        refine q_val hk (w_as rfl) rfl rfl rfl fun a hk => ?_
        refine (c_end (x_t ?_))
        refine (wpIn_ret ?_)
        refine c_ret1 hk rfl rfl ?_
        refine ⟨?_, hs.toBelow⟩
        have ho := fid_or s
        unfold prErr
        rw [if_pos ho]
        (repeat' split) <;> first | rfl | omega | contradiction
      · skip
        refine q_call (caps := []) hk rfl rfl Tryd.func97 fo97 rfl rfl (between_f _ _ _ _ hc5) ?_
        rintro _ _ ⟨rfl, rfl⟩
        refine ⟨_, rfl, fun a hk => ?_⟩
        refine q_val hk (w_not rfl) rfl rfl rfl fun a hk => ?_
        refine q_val hk (w_as rfl) rfl rfl rfl fun a hk => ?_
        refine (c_end (x_t ?_))
        refine c_T hk rfl ?_
        refine wpIn_seq ?_
        refine wpIn_region_lit ?_
        refine q_val hk (w_as rfl) rfl rfl rfl fun a hk => ?_
        refine (c_end (x_t ?_))
        refine (wpIn_ret (x_br (x_tr ?_)))
        refine c_ret1 hk rfl rfl ?_
        refine ⟨?_, hs.toBelow⟩
        have ho := fid_or s
        unfold prErr
        rw [if_pos ho]
        (repeat' split) <;> first | rfl | omega | contradiction
    · skip
      refine q_call (caps := []) hk rfl rfl Tryd.func97 fo97 rfl rfl (between_f _ _ _ _ hc4) ?_
      rintro _ _ ⟨rfl, rfl⟩
      refine ⟨_, rfl, fun a hk => ?_⟩
      refine q_val hk (w_not rfl) rfl rfl rfl fun a hk => ?_
      refine q_val hk (w_as rfl) rfl rfl rfl fun a hk => ?_
      refine (c_end (x_t ?_))
      refine c_T hk rfl ?_
      refine wpIn_seq ?_
      refine wpIn_region_lit ?_
      refine q_val hk (w_as rfl) rfl rfl rfl fun a hk => ?_
      refine (c_end (x_t ?_))
      refine (wpIn_ret (x_br (x_tr ?_)))
      refine c_ret1 hk rfl rfl ?_
      refine ⟨?_, hs.toBelow⟩
      have ho := fid_or s
      unfold prErr
      rw [if_pos ho]
      (repeat' split) <;> first | rfl | omega | contradiction
  · skip
    refine q_call (caps := []) hk rfl rfl Tryd.func97 fo97 rfl rfl (between_f _ _ _ _ hc3) ?_
    rintro _ _ ⟨rfl, rfl⟩
    refine ⟨_, rfl, fun a hk => ?_⟩
    refine q_val hk (w_not rfl) rfl rfl rfl fun a hk => ?_
    refine q_val hk (w_as rfl) rfl rfl rfl fun a hk => ?_
    refine (c_end (x_t ?_))
    refine c_T hk rfl ?_
    refine wpIn_seq ?_
    refine wpIn_region_lit ?_
    refine q_val hk (w_as rfl) rfl rfl rfl fun a hk => ?_
    refine (c_end (x_t ?_))
    refine (wpIn_ret (x_br (x_tr ?_)))
    refine c_ret1 hk rfl rfl ?_
    refine ⟨?_, hs.toBelow⟩
    have ho := fid_or s
    unfold prErr
    rw [if_pos ho]
    (repeat' split) <;> first | rfl | omega | contradiction
theorem ckPar_c (F T N L : Int) (W : World) (HL : Laid W) : Calls Tryd.prog 68 #[.agg #[.int .i64 F, .int .i64 T, .int .i64 N, .int .i64 L]] W fun e w => e = .returned (.int .i64 (prErr F T N L)) ∧ Below W.heap.size W w := by
  by_cases h1 : F = 1
  · subst h1; exact ckPar_s false T N L W HL
  by_cases h2 : F = 2
  · subst h2; exact ckPar_s true T N L W HL
  exact ckPar_bad F T N L W HL h1 h2
theorem refCkPar_c (F T N L : Int) (W : World)  : Calls Tryd.prog 19 [.agg #[.int .i64 F, .int .i64 T, .int .i64 N, .int .i64 L]].toArray W fun e w => e = .returned (.int .i64 (prErr F T N L)) ∧ Below W.heap.size W w := by
  refine c_enter (args := [.agg #[.int .i64 F, .int .i64 T, .int .i64 N, .int .i64 L]]) Tryd.func19 rfl rfl rfl fun a hk => ?_
  have hs := Sat.start W [] (fun _ h => by cases h)
  refine wpIn_seq ?_
  refine wpIn_region_lit ?_
  refine q_box (vs := [.int .i64 F, .int .i64 T, .int .i64 N, .int .i64 L]) hk hs rfl rfl rfl rfl fun b1 w a hk hs => ?_
  refine q_val hk (w_as rfl) rfl rfl rfl fun a hk => ?_
  refine (c_end (x_t ?_))
  refine wpIn_seq ?_
  refine wpIn_block ?_
  refine wpIn_seq ?_
  refine wpIn_region_lit ?_
  refine q_val hk (w_fa rfl fq23_0 ty3) rfl rfl rfl fun a hk => ?_
  refine q_val hk (w_ld1 rfl ty3 (.blk (n := 1) (hs.mi 0 rfl) rfl)) rfl rfl rfl fun a hk => ?_
  rcases Classical.em (F = 1 ∨ F = 2) with hc2 | hc2
  · skip
    refine q_call (caps := []) hk rfl rfl Tryd.func47 fo47 rfl rfl (known_t _ _ hc2) ?_
    rintro _ _ ⟨rfl, rfl⟩
    refine ⟨_, rfl, fun a hk => ?_⟩
    refine q_val hk (w_not rfl) rfl rfl rfl fun a hk => ?_
    refine q_val hk (w_as rfl) rfl rfl rfl fun a hk => ?_
    refine (c_end (x_t ?_))
    refine c_F hk rfl ?_
    refine wpIn_seq ?_
    refine wpIn_region_lit ?_
    refine q_val hk (w_fa rfl fq23_2 ty3) rfl rfl rfl fun a hk => ?_
    refine q_val hk (w_ld1 rfl ty3 (.blk (n := 1) (hs.mi 0 rfl) rfl)) rfl rfl rfl fun a hk => ?_
    rcases Classical.em (N < 1) with hc3 | hc3
    · skip
      refine q_val hk (w_lt rfl rfl (decide_eq_true hc3)) rfl rfl rfl fun a hk => ?_
      refine q_val hk (w_mv rfl) rfl rfl rfl fun a hk => ?_
      refine q_skip hk rfl rfl fun a hk => ?_
      refine q_skip hk rfl rfl fun a hk => ?_
      refine q_skip hk rfl rfl fun a hk => ?_
      refine q_val hk (w_pickT rfl rfl) rfl rfl rfl fun a hk => ?_
      refine q_val hk (w_as rfl) rfl rfl rfl fun a hk => ?_
      refine (c_end (x_t ?_))
      refine c_T hk rfl ?_
      refine wpIn_seq ?_
      refine wpIn_region_lit ?_
      refine q_val hk (w_as rfl) rfl rfl rfl fun a hk => ?_
      refine (c_end (x_t ?_))
      refine (wpIn_ret (x_br (x_tr ?_)))
      refine c_ret1 hk rfl rfl ?_
      refine ⟨?_, hs.toBelow⟩
      unfold prErr
      (repeat' split) <;> first | rfl | omega | contradiction
    · skip
      refine q_val hk (w_lt rfl rfl (decide_eq_false hc3)) rfl rfl rfl fun a hk => ?_
      refine q_val hk (w_mv rfl) rfl rfl rfl fun a hk => ?_
      refine q_val hk (w_fa rfl fq23_2 ty3) rfl rfl rfl fun a hk => ?_
      refine q_val hk (w_ld1 rfl ty3 (.blk (n := 1) (hs.mi 0 rfl) rfl)) rfl rfl rfl fun a hk => ?_
      rcases Classical.em (255 < N) with hc4 | hc4
      · skip
        refine q_val hk (w_gt rfl rfl (decide_eq_true hc4)) rfl rfl rfl fun a hk => ?_
        refine q_val hk (w_pickF rfl rfl) rfl rfl rfl fun a hk => ?_
        refine q_val hk (w_as rfl) rfl rfl rfl fun a hk => ?_
        refine (c_end (x_t ?_))
        refine c_T hk rfl ?_
        refine wpIn_seq ?_
        refine wpIn_region_lit ?_
        refine q_val hk (w_as rfl) rfl rfl rfl fun a hk => ?_
        refine (c_end (x_t ?_))
        refine (wpIn_ret (x_br (x_tr ?_)))
        refine c_ret1 hk rfl rfl ?_
        refine ⟨?_, hs.toBelow⟩
        unfold prErr
        (repeat' split) <;> first | rfl | omega | contradiction
      · skip
        refine q_val hk (w_gt rfl rfl (decide_eq_false hc4)) rfl rfl rfl fun a hk => ?_
        refine q_val hk (w_pickF rfl rfl) rfl rfl rfl fun a hk => ?_
        refine q_val hk (w_as rfl) rfl rfl rfl fun a hk => ?_
        refine (c_end (x_t ?_))
        refine c_F hk rfl ?_
        refine wpIn_seq ?_
        refine wpIn_region_lit ?_
        refine q_val hk (w_fa rfl fq23_1 ty3) rfl rfl rfl fun a hk => ?_
        refine q_val hk (w_ld1 rfl ty3 (.blk (n := 1) (hs.mi 0 rfl) rfl)) rfl rfl rfl fun a hk => ?_
        rcases Classical.em (T < 1) with hc5 | hc5
        · skip
          refine q_val hk (w_lt rfl rfl (decide_eq_true hc5)) rfl rfl rfl fun a hk => ?_
          refine q_val hk (w_mv rfl) rfl rfl rfl fun a hk => ?_
          refine q_skip hk rfl rfl fun a hk => ?_
          refine q_skip hk rfl rfl fun a hk => ?_
          refine q_skip hk rfl rfl fun a hk => ?_
          refine q_skip hk rfl rfl fun a hk => ?_
          refine q_skip hk rfl rfl fun a hk => ?_
          refine q_val hk (w_pickT rfl rfl) rfl rfl rfl fun a hk => ?_
          refine q_val hk (w_as rfl) rfl rfl rfl fun a hk => ?_
          refine (c_end (x_t ?_))
          refine c_T hk rfl ?_
          refine wpIn_seq ?_
          refine wpIn_region_lit ?_
          refine q_val hk (w_as rfl) rfl rfl rfl fun a hk => ?_
          refine (c_end (x_t ?_))
          refine (wpIn_ret (x_br (x_tr ?_)))
          refine c_ret1 hk rfl rfl ?_
          refine ⟨?_, hs.toBelow⟩
          unfold prErr
          (repeat' split) <;> first | rfl | omega | contradiction
        · skip
          refine q_val hk (w_lt rfl rfl (decide_eq_false hc5)) rfl rfl rfl fun a hk => ?_
          refine q_val hk (w_mv rfl) rfl rfl rfl fun a hk => ?_
          refine q_val hk (w_fa rfl fq23_1 ty3) rfl rfl rfl fun a hk => ?_
          refine q_val hk (w_ld1 rfl ty3 (.blk (n := 1) (hs.mi 0 rfl) rfl)) rfl rfl rfl fun a hk => ?_
          refine q_val hk (w_fa rfl fq23_2 ty3) rfl rfl rfl fun a hk => ?_
          refine q_val hk (w_ld1 rfl ty3 (.blk (n := 1) (hs.mi 0 rfl) rfl)) rfl rfl rfl fun a hk => ?_
          rcases Classical.em (N < T) with hc6 | hc6
          · skip
            refine q_val hk (w_gt rfl rfl (decide_eq_true hc6)) rfl rfl rfl fun a hk => ?_
            refine q_val hk (w_pickF rfl rfl) rfl rfl rfl fun a hk => ?_
            refine q_val hk (w_as rfl) rfl rfl rfl fun a hk => ?_
            refine (c_end (x_t ?_))
            refine c_T hk rfl ?_
            refine wpIn_seq ?_
            refine wpIn_region_lit ?_
            refine q_val hk (w_as rfl) rfl rfl rfl fun a hk => ?_
            refine (c_end (x_t ?_))
            refine (wpIn_ret (x_br (x_tr ?_)))
            refine c_ret1 hk rfl rfl ?_
            refine ⟨?_, hs.toBelow⟩
            unfold prErr
            (repeat' split) <;> first | rfl | omega | contradiction
          · skip
            refine q_val hk (w_gt rfl rfl (decide_eq_false hc6)) rfl rfl rfl fun a hk => ?_
            refine q_val hk (w_pickF rfl rfl) rfl rfl rfl fun a hk => ?_
            refine q_val hk (w_as rfl) rfl rfl rfl fun a hk => ?_
            refine (c_end (x_t ?_))
            refine c_F hk rfl ?_
            refine wpIn_seq ?_
            refine wpIn_region_lit ?_
            refine q_val hk (w_fa rfl fq23_3 ty3) rfl rfl rfl fun a hk => ?_
            refine q_val hk (w_ld1 rfl ty3 (.blk (n := 1) (hs.mi 0 rfl) rfl)) rfl rfl rfl fun a hk => ?_
            rcases Classical.em (L < 0) with hc7 | hc7
            · skip
              refine q_val hk (w_lt rfl rfl (decide_eq_true hc7)) rfl rfl rfl fun a hk => ?_
              refine q_val hk (w_mv rfl) rfl rfl rfl fun a hk => ?_
              refine q_skip hk rfl rfl fun a hk => ?_
              refine q_skip hk rfl rfl fun a hk => ?_
              refine q_skip hk rfl rfl fun a hk => ?_
              refine q_val hk (w_pickT rfl rfl) rfl rfl rfl fun a hk => ?_
              refine q_val hk (w_as rfl) rfl rfl rfl fun a hk => ?_
              refine (c_end (x_t ?_))
              refine c_T hk rfl ?_
              refine wpIn_seq ?_
              refine wpIn_region_lit ?_
              refine q_val hk (w_as rfl) rfl rfl rfl fun a hk => ?_
              refine (c_end (x_t ?_))
              refine (wpIn_ret (x_br (x_tr ?_)))
              refine c_ret1 hk rfl rfl ?_
              refine ⟨?_, hs.toBelow⟩
              unfold prErr
              (repeat' split) <;> first | rfl | omega | contradiction
            · skip
              refine q_val hk (w_lt rfl rfl (decide_eq_false hc7)) rfl rfl rfl fun a hk => ?_
              refine q_val hk (w_mv rfl) rfl rfl rfl fun a hk => ?_
              refine q_val hk (w_fa rfl fq23_3 ty3) rfl rfl rfl fun a hk => ?_
              refine q_val hk (w_ld1 rfl ty3 (.blk (n := 1) (hs.mi 0 rfl) rfl)) rfl rfl rfl fun a hk => ?_
              rcases Classical.em (65535 < L) with hc8 | hc8
              · skip
                refine q_val hk (w_gt rfl rfl (decide_eq_true hc8)) rfl rfl rfl fun a hk => ?_
                refine q_val hk (w_pickF rfl rfl) rfl rfl rfl fun a hk => ?_
                refine q_val hk (w_as rfl) rfl rfl rfl fun a hk => ?_
                refine (c_end (x_t ?_))
                refine c_T hk rfl ?_
                refine wpIn_seq ?_
                refine wpIn_region_lit ?_
                refine q_val hk (w_as rfl) rfl rfl rfl fun a hk => ?_
                refine (c_end (x_t ?_))
                refine (wpIn_ret (x_br (x_tr ?_)))
                refine c_ret1 hk rfl rfl ?_
                refine ⟨?_, hs.toBelow⟩
                unfold prErr
                (repeat' split) <;> first | rfl | omega | contradiction
              · skip
                refine q_val hk (w_gt rfl rfl (decide_eq_false hc8)) rfl rfl rfl fun a hk => ?_
                refine q_val hk (w_pickF rfl rfl) rfl rfl rfl fun a hk => ?_
                refine q_val hk (w_as rfl) rfl rfl rfl fun a hk => ?_
                refine (c_end (x_t ?_))
                refine c_F hk rfl ?_
                refine (wpIn_skip (x_b (x_t ?_)))
                refine wpIn_seq ?_
                refine wpIn_region_lit ?_
                refine q_val hk (w_as rfl) rfl rfl rfl fun a hk => ?_
                refine (c_end (x_t ?_))
                refine (wpIn_ret ?_)
                refine c_ret1 hk rfl rfl ?_
                refine ⟨?_, hs.toBelow⟩
                unfold prErr
                (repeat' split) <;> first | rfl | omega | contradiction
  · skip
    refine q_call (caps := []) hk rfl rfl Tryd.func47 fo47 rfl rfl (known_f _ _ hc2) ?_
    rintro _ _ ⟨rfl, rfl⟩
    refine ⟨_, rfl, fun a hk => ?_⟩
    refine q_val hk (w_not rfl) rfl rfl rfl fun a hk => ?_
    refine q_val hk (w_as rfl) rfl rfl rfl fun a hk => ?_
    refine (c_end (x_t ?_))
    refine c_T hk rfl ?_
    refine wpIn_seq ?_
    refine wpIn_region_lit ?_
    refine q_val hk (w_as rfl) rfl rfl rfl fun a hk => ?_
    refine (c_end (x_t ?_))
    refine (wpIn_ret (x_br (x_tr ?_)))
    refine c_ret1 hk rfl rfl ?_
    refine ⟨?_, hs.toBelow⟩
    unfold prErr
    (repeat' split) <;> first | rfl | omega | contradiction
end Go.Proofs.YtpggmebgndkpjaaDoor
