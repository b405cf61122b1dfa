/- Part 5 of what the proof of AuditRejects needs: joined out of the texts of this seat, only what is used. -/
import Derived.Test.YtdnkkbmpefhbjaaGreatDoorPhD
import Derived.Lib.AppendZerosOnto
import Derived.Laws.Cover3
import Derived.Test.YtdnkkbmpefhbjaaGreatDoorRows
import Derived.WalkKit
import Derived.ProofKit
import Derived.LaidMore
import Derived.OpenShut
import Derived.ShutString
import Derived.ChangeOld
import Derived.Below
namespace Go.Proofs.YtdnkkbmpefhbjaaGreatDoor
set_option linter.all false
open Go Go.RowKit Alg
theorem prErr_0 {F T N L : Int} (h : prErr F T N L = 0) : (F = 1 ∨ F = 2) ∧ 1 ≤ N ∧ N ≤ 255 ∧ 1 ≤ T ∧ T ≤ N ∧ 0 ≤ L ∧ L ≤ 65535 := by
  unfold prErr at h
  split at h
  · split at h
    · split at h
      · split at h
        · omega
        · omega
      · omega
    · omega
  · omega
theorem cn_bound (n : Nat) : cn (n : Int) ≤ 2115 := by unfold cn; split <;> omega
theorem upg_all {α : Type} {f : Nat → α} {k : Nat} {x : α} {p : Nat → α → Prop} (h : ∀ i, i < k → p i (f i)) (hx : p k x) : ∀ i, i < k + 1 → p i (upg f k x i) := fun i hi => by
  by_cases e : i = k
  · subst e; rw [upg_eq]; exact hx
  · rw [upg_ne e]; exact h i (by omega)
theorem updz_upg {s : Bool} {F : Nat → Nat → Zp s} {k : Nat} {E : Nat → Zp s} {T n m : Nat} {pa : Nat → Option Addr} {pc : Nat → Nat} : rowB T n pa pc (upg (fun k j => zv (F k j)) k (fun j => zv (E j))) m = rowB T n pa pc (fun i j => zv (upg F k E i j)) m := by
  have e : upg (fun k j => zv (F k j)) k (fun j => zv (E j)) = fun i j => zv (upg F k E i j) := by
    funext i j
    unfold upg
    split <;> rfl
  rw [e]
theorem refCkPar_c (F T N L : Int) (W : World)  : Calls Tryz.prog 107 [.agg #[.int .i64 F, .int .i64 T, .int .i64 N, .int .i64 L]].toArray W fun e w => e = .returned (.int .i64 (prErr F T N L)) ∧ Below W.heap.size W w := by
 refine c_enter (args := [.agg #[.int .i64 F, .int .i64 T, .int .i64 N, .int .i64 L]]) Tryz.func107 rfl rfl rfl fun a hk => ?_
 have hs := Sat.start W [] (fun _ h => by cases h)
 refine wS (wR ?_)
 refine q_box (vs := [.int .i64 F, .int .i64 T, .int .i64 N, .int .i64 L]) hk hs rfl rfl rfl rfl fun b1 w a hk hs => ?_
 refine q_v hk (w_as rfl) fun a hk => ?_
 refine c_end (x_t (wS ?_))
 refine wpIn_block ?_
 refine wS (wR ?_)
 refine q_v hk (w_fa rfl fq41_0 ty3) fun a hk => ?_
 refine q_v hk (w_ld1 rfl ty3 (.blk (n := 1) (hs.mi 0 rfl) rfl)) fun a hk => ?_
 rcases Classical.em (F = 1 ∨ F = 2) with hc2 | hc2
 ·
  refine q_call (caps := []) hk rfl rfl Tryz.func102 fo102 rfl rfl (known_t _ _ hc2) ?_
  rintro _ _ ⟨rfl, rfl⟩
  refine ⟨_, rfl, fun a hk => ?_⟩
  refine q_v hk (w_not rfl) fun a hk => ?_
  refine q_v hk (w_as rfl) fun a hk => ?_
  refine c_end (x_t ?_)
  refine c_F hk rfl ?_
  refine wS (wR ?_)
  refine q_v hk (w_fa rfl fq41_2 ty3) fun a hk => ?_
  refine q_v hk (w_ld1 rfl ty3 (.blk (n := 1) (hs.mi 0 rfl) rfl)) fun a hk => ?_
  rcases Classical.em (N < 1) with hc3 | hc3
  ·
   refine q_v hk (w_lt rfl rfl (decide_eq_true hc3)) fun a hk => ?_
   refine q_v hk (w_mv rfl) fun a hk => ?_
   refine q_skip hk rfl rfl fun a hk => ?_
   refine q_skip hk rfl rfl fun a hk => ?_
   refine q_skip hk rfl rfl fun a hk => ?_
   refine q_v hk (w_pickT rfl rfl) fun a hk => ?_
   refine q_v hk (w_as rfl) fun a hk => ?_
   refine c_end (x_t ?_)
   refine c_T hk rfl ?_
   refine wS (wR ?_)
   refine q_v hk (w_as rfl) fun a hk => ?_
   refine c_end (x_t ?_)
   refine (wpIn_ret (x_br (x_tr ?_)))
   refine c_ret1 hk rfl rfl ?_
   refine ⟨?_, hs.toBelow⟩
   unfold prErr
   (repeat' split) <;> first | rfl | omega | contradiction
  ·
   refine q_v hk (w_lt rfl rfl (decide_eq_false hc3)) fun a hk => ?_
   refine q_v hk (w_mv rfl) fun a hk => ?_
   refine q_v hk (w_fa rfl fq41_2 ty3) fun a hk => ?_
   refine q_v hk (w_ld1 rfl ty3 (.blk (n := 1) (hs.mi 0 rfl) rfl)) fun a hk => ?_
   rcases Classical.em (255 < N) with hc4 | hc4
   ·
    refine q_v hk (w_gt rfl rfl (decide_eq_true hc4)) fun a hk => ?_
    refine q_v hk (w_pickF rfl rfl) fun a hk => ?_
    refine q_v hk (w_as rfl) fun a hk => ?_
    refine c_end (x_t ?_)
    refine c_T hk rfl ?_
    refine wS (wR ?_)
    refine q_v hk (w_as rfl) fun a hk => ?_
    refine c_end (x_t ?_)
    refine (wpIn_ret (x_br (x_tr ?_)))
    refine c_ret1 hk rfl rfl ?_
    refine ⟨?_, hs.toBelow⟩
    unfold prErr
    (repeat' split) <;> first | rfl | omega | contradiction
   ·
    refine q_v hk (w_gt rfl rfl (decide_eq_false hc4)) fun a hk => ?_
    refine q_v hk (w_pickF rfl rfl) fun a hk => ?_
    refine q_v hk (w_as rfl) fun a hk => ?_
    refine c_end (x_t ?_)
    refine c_F hk rfl ?_
    refine wS (wR ?_)
    refine q_v hk (w_fa rfl fq41_1 ty3) fun a hk => ?_
    refine q_v hk (w_ld1 rfl ty3 (.blk (n := 1) (hs.mi 0 rfl) rfl)) fun a hk => ?_
    rcases Classical.em (T < 1) with hc5 | hc5
    ·
     refine q_v hk (w_lt rfl rfl (decide_eq_true hc5)) fun a hk => ?_
     refine q_v hk (w_mv rfl) fun a hk => ?_
     refine q_skip hk rfl rfl fun a hk => ?_
     refine q_skip hk rfl rfl fun a hk => ?_
     refine q_skip hk rfl rfl fun a hk => ?_
     refine q_skip hk rfl rfl fun a hk => ?_
     refine q_skip hk rfl rfl fun a hk => ?_
     refine q_v hk (w_pickT rfl rfl) fun a hk => ?_
     refine q_v hk (w_as rfl) fun a hk => ?_
     refine c_end (x_t ?_)
     refine c_T hk rfl ?_
     refine wS (wR ?_)
     refine q_v hk (w_as rfl) fun a hk => ?_
     refine c_end (x_t ?_)
     refine (wpIn_ret (x_br (x_tr ?_)))
     refine c_ret1 hk rfl rfl ?_
     refine ⟨?_, hs.toBelow⟩
     unfold prErr
     (repeat' split) <;> first | rfl | omega | contradiction
    ·
     refine q_v hk (w_lt rfl rfl (decide_eq_false hc5)) fun a hk => ?_
     refine q_v hk (w_mv rfl) fun a hk => ?_
     refine q_v hk (w_fa rfl fq41_1 ty3) fun a hk => ?_
     refine q_v hk (w_ld1 rfl ty3 (.blk (n := 1) (hs.mi 0 rfl) rfl)) fun a hk => ?_
     refine q_v hk (w_fa rfl fq41_2 ty3) fun a hk => ?_
     refine q_v hk (w_ld1 rfl ty3 (.blk (n := 1) (hs.mi 0 rfl) rfl)) fun a hk => ?_
     rcases Classical.em (N < T) with hc6 | hc6
     ·
      refine q_v hk (w_gt rfl rfl (decide_eq_true hc6)) fun a hk => ?_
      refine q_v hk (w_pickF rfl rfl) fun a hk => ?_
      refine q_v hk (w_as rfl) fun a hk => ?_
      refine c_end (x_t ?_)
      refine c_T hk rfl ?_
      refine wS (wR ?_)
      refine q_v hk (w_as rfl) fun a hk => ?_
      refine c_end (x_t ?_)
      refine (wpIn_ret (x_br (x_tr ?_)))
      refine c_ret1 hk rfl rfl ?_
      refine ⟨?_, hs.toBelow⟩
      unfold prErr
      (repeat' split) <;> first | rfl | omega | contradiction
     ·
      refine q_v hk (w_gt rfl rfl (decide_eq_false hc6)) fun a hk => ?_
      refine q_v hk (w_pickF rfl rfl) fun a hk => ?_
      refine q_v hk (w_as rfl) fun a hk => ?_
      refine c_end (x_t ?_)
      refine c_F hk rfl ?_
      refine wS (wR ?_)
      refine q_v hk (w_fa rfl fq41_3 ty3) fun a hk => ?_
      refine q_v hk (w_ld1 rfl ty3 (.blk (n := 1) (hs.mi 0 rfl) rfl)) fun a hk => ?_
      rcases Classical.em (L < 0) with hc7 | hc7
      ·
       refine q_v hk (w_lt rfl rfl (decide_eq_true hc7)) fun a hk => ?_
       refine q_v hk (w_mv rfl) fun a hk => ?_
       refine q_skip hk rfl rfl fun a hk => ?_
       refine q_skip hk rfl rfl fun a hk => ?_
       refine q_skip hk rfl rfl fun a hk => ?_
       refine q_v hk (w_pickT rfl rfl) fun a hk => ?_
       refine q_v hk (w_as rfl) fun a hk => ?_
       refine c_end (x_t ?_)
       refine c_T hk rfl ?_
       refine wS (wR ?_)
       refine q_v hk (w_as rfl) fun a hk => ?_
       refine c_end (x_t ?_)
       refine (wpIn_ret (x_br (x_tr ?_)))
       refine c_ret1 hk rfl rfl ?_
       refine ⟨?_, hs.toBelow⟩
       unfold prErr
       (repeat' split) <;> first | rfl | omega | contradiction
      ·
       refine q_v hk (w_lt rfl rfl (decide_eq_false hc7)) fun a hk => ?_
       refine q_v hk (w_mv rfl) fun a hk => ?_
       refine q_v hk (w_fa rfl fq41_3 ty3) fun a hk => ?_
       refine q_v hk (w_ld1 rfl ty3 (.blk (n := 1) (hs.mi 0 rfl) rfl)) fun a hk => ?_
       rcases Classical.em (65535 < L) with hc8 | hc8
       ·
        refine q_v hk (w_gt rfl rfl (decide_eq_true hc8)) fun a hk => ?_
        refine q_v hk (w_pickF rfl rfl) fun a hk => ?_
        refine q_v hk (w_as rfl) fun a hk => ?_
        refine c_end (x_t ?_)
        refine c_T hk rfl ?_
        refine wS (wR ?_)
        refine q_v hk (w_as rfl) fun a hk => ?_
        refine c_end (x_t ?_)
        refine (wpIn_ret (x_br (x_tr ?_)))
        refine c_ret1 hk rfl rfl ?_
        refine ⟨?_, hs.toBelow⟩
        unfold prErr
        (repeat' split) <;> first | rfl | omega | contradiction
       ·
        refine q_v hk (w_gt rfl rfl (decide_eq_false hc8)) fun a hk => ?_
        refine q_v hk (w_pickF rfl rfl) fun a hk => ?_
        refine q_v hk (w_as rfl) fun a hk => ?_
        refine c_end (x_t ?_)
        refine c_F hk rfl ?_
        refine (wpIn_skip (x_b (x_t ?_)))
        refine wS (wR ?_)
        refine q_v hk (w_as rfl) fun a hk => ?_
        refine c_end (x_t ?_)
        refine (wpIn_ret ?_)
        refine c_ret1 hk rfl rfl ?_
        refine ⟨?_, hs.toBelow⟩
        unfold prErr
        (repeat' split) <;> first | rfl | omega | contradiction
 ·
  refine q_call (caps := []) hk rfl rfl Tryz.func102 fo102 rfl rfl (known_f _ _ hc2) ?_
  rintro _ _ ⟨rfl, rfl⟩
  refine ⟨_, rfl, fun a hk => ?_⟩
  refine q_v hk (w_not rfl) fun a hk => ?_
  refine q_v hk (w_as rfl) fun a hk => ?_
  refine c_end (x_t ?_)
  refine c_T hk rfl ?_
  refine wS (wR ?_)
  refine q_v hk (w_as rfl) fun a hk => ?_
  refine c_end (x_t ?_)
  refine (wpIn_ret (x_br (x_tr ?_)))
  refine c_ret1 hk rfl rfl ?_
  refine ⟨?_, hs.toBelow⟩
  unfold prErr
  (repeat' split) <;> first | rfl | omega | contradiction
theorem rrnd_c (s : Bool) (th ln : Nat) (N : Int) (W : World) (h0 : prErr (fid s) ((th : Nat) : Int) N ((ln : Nat) : Int) = 0) : Calls Tryz.prog 108 [.agg #[.int .i64 (fid s), .int .i64 ((th : Nat) : Int), .int .i64 N, .int .i64 ((ln : Nat) : Int)]].toArray W fun e w => e = .returned (.int .i64 ((64 * (th - 1) * (cn ((ln : Nat) : Int)) : Nat) : Int)) ∧ Below W.heap.size W w := by
 obtain ⟨_, h1, h2, h3, h4, h5, h6⟩ := prErr_0 h0
 have hcn := cn_bound ln
 obtain ⟨tm, htm⟩ : ∃ tm, th = tm + 1 := ⟨th - 1, by omega⟩
 rw [show th - 1 = tm by omega]
 obtain ⟨qq, hqq⟩ : ∃ qq, 64 * tm * (cn ((ln : Nat) : Int)) = qq := ⟨_, rfl⟩
 have hq9 : qq ≤ 64 * 255 * 2115 := by rw [← hqq]; exact Nat.mul_le_mul (Nat.mul_le_mul_left _ (by omega)) hcn
 refine c_enter (args := [.agg #[.int .i64 (fid s), .int .i64 ((th : Nat) : Int), .int .i64 N, .int .i64 ((ln : Nat) : Int)]]) Tryz.func108 rfl rfl rfl fun a hk => ?_
 have hs := Sat.start W [] (fun _ h => by cases h)
 refine wS (wR ?_)
 refine q_box (vs := [.int .i64 (fid s), .int .i64 ((th : Nat) : Int), .int .i64 N, .int .i64 ((ln : Nat) : Int)]) hk hs rfl rfl rfl rfl fun b1 w a hk hs => ?_
 refine q_v hk (w_as rfl) fun a hk => ?_
 refine c_end (x_t (wS (wS (wR ?_))))
 refine q_v hk (w_ldA rfl ty41 (.blk (n := 4) (hs.mi 0 rfl) rfl) rfl) fun a hk => ?_
 refine q_call (caps := []) hk rfl rfl Tryz.func107 fo107 rfl rfl (refCkPar_c (fid s) ((th : Nat) : Int) N ((ln : Nat) : Int) _) ?_
 rintro _ w ⟨rfl, hb⟩
 have hs := hs.below hb
 refine ⟨_, rfl, fun a hk => ?_⟩
 refine q_v hk (w_ne rfl rfl (decide_eq_false (fun h => h h0))) fun a hk => ?_
 refine c_end (x_t ?_)
 refine c_F hk rfl ?_
 refine (wpIn_skip (x_t ?_))
 refine wS ?_
 have hL := okL.cons (hs.mi 0 rfl) okL.nil
 refine d_begin _ 9 (by kernel_rfl) rfl hs hL fun w hs hL => ?_
 refine d_w 0 1 hk hL rfl (fun w hL => w_fa rfl fq41_1 ty3) fun a hk => ?_
 refine d_w 1 3 hk hL rfl (fun w hL => w_ld1 rfl ty3 (.blk (n := 1) (hL.at 0 rfl) rfl)) fun a hk => ?_
 refine d_w 2 7 hk hL rfl (fun w hL => w_sub (r := ((tm : Nat) : Int)) rfl rfl (by rw [wr64 (by omega) (by omega)]; omega)) fun a hk => ?_
 refine d_w 3 15 hk hL rfl (fun w hL => w_mul (r := ((64 * tm : Nat) : Int)) rfl rfl (by rw [wr64 (by omega) (by omega)]; omega)) fun a hk => ?_
 refine d_w 4 31 hk hL rfl (fun w hL => w_fa rfl fq41_3 ty3) fun a hk => ?_
 refine d_w 5 63 hk hL rfl (fun w hL => w_ld1 rfl ty3 (.blk (n := 1) (hL.at 0 rfl) rfl)) fun a hk => ?_
 refine d_1 6 127 rfl (by kernel_rfl) fun K hK => ?_
 refine q_call (caps := []) hk rfl rfl Tryz.func103 fo103 rfl rfl (refCount_c ((ln : Nat) : Int) (by omega) _) ?_
 rintro _ _ ⟨rfl, rfl⟩
 refine ⟨_, rfl, fun a hk => ?_⟩
 have hL := okL.cons (hs.mi 0 rfl) okL.nil
 refine c_end (x_t (hK _ _ hL ?_))
 clear hK K
 refine d_w 7 255 hk hL rfl (fun w hL => w_mul (r := ((qq : Nat) : Int)) rfl rfl (by rw [← Int.natCast_mul, hqq]; exact wr64 (by omega) (by omega))) fun a hk => ?_
 refine d_w 8 511 hk hL rfl (fun w hL => w_as rfl) fun a hk => ?_
 refine d_end (by kernel_rfl) ?_
 refine (x_t ?_)
 refine (wpIn_ret ?_)
 refine c_ret1 hk rfl rfl ?_
 rw [hqq]; exact ⟨rfl, hs.toBelow⟩
theorem poly16_c (s : Bool) (th ln rn sc rc : Nat) (N : Int) (sa ra : Option Addr) (f fr : Nat → Nat) (W : World) (h0 : prErr (fid s) ((th : Nat) : Int) N ((ln : Nat) : Int) = 0) (HS : LstAt W 1 (.slice sa ln sc) ln (en bc f ln)) (hf : ∀ j, f j < 256) (HR : LstAt W 1 (.slice ra rn rc) rn (en bc fr rn)) (hfr : ∀ j, fr j < 256) (hr : 64 * (th - 1) * (cn ((ln : Nat) : Int)) ≤ rn) (hr9 : rn ≤ 100000000) : Calls Tryz.prog 64 [.agg #[.int .i64 (fid s), .int .i64 ((th : Nat) : Int), .int .i64 N, .int .i64 ((ln : Nat) : Int)], .slice sa ln sc, .slice ra rn rc].toArray W fun e w => ∃ pa pc, ∃ F : Nat → Nat → Zp s, ∃ a c, (∀ i, i < (cn ((ln : Nat) : Int)) → F i 0 = zn s (cv ln f i)) ∧ e = .returned (.tuple #[.slice a (cn ((ln : Nat) : Int)) c, .int .i64 0]) ∧ Sat no W [row 72 1 (.slice a (cn ((ln : Nat) : Int)) c) (cn ((ln : Nat) : Int)) (en plx (fun i => (pa i, th, pc i)) (cn ((ln : Nat) : Int))), rowB 47 th pa pc (fun k j => zv (F k j)) (cn ((ln : Nat) : Int))] [] w := by
 obtain ⟨_, h1, h2, h3, h4, h5, h6⟩ := prErr_0 h0
 have hcn := cn_bound ln
 have hrn : 64 * ((th - 1) * ((cn ((ln : Nat) : Int)) - 0)) ≤ rn := by rw [Nat.sub_zero, ← Nat.mul_assoc]; exact hr
 refine c_enter (args := [.agg #[.int .i64 (fid s), .int .i64 ((th : Nat) : Int), .int .i64 N, .int .i64 ((ln : Nat) : Int)], .slice sa ln sc, .slice ra rn rc]) Tryz.func64 rfl rfl rfl fun a hk => ?_
 have hs := Sat.start W [lst 1 (.slice sa ln sc) ln (en bc (fun i => f i) ln), lst 1 (.slice ra rn rc) rn (en bc (fun i => fr i) rn)] (okrc HS (okr1 HR))
 refine wS (wR ?_)
 refine q_box (vs := [.int .i64 (fid s), .int .i64 ((th : Nat) : Int), .int .i64 N, .int .i64 ((ln : Nat) : Int)]) hk hs rfl rfl rfl rfl fun b1 w a hk hs => ?_
 refine q_v hk (w_as rfl) fun a hk => ?_
 refine q_v hk (w_as rfl) fun a hk => ?_
 refine c_end (x_t (wS (wR ?_)))
 refine q_v hk (w_ldA rfl ty41 (.blk (n := 4) (hs.mi 0 rfl) rfl) rfl) fun a hk => ?_
 refine q_call (caps := []) hk rfl rfl Tryz.func107 fo107 rfl rfl (refCkPar_c (fid s) ((th : Nat) : Int) N ((ln : Nat) : Int) _) ?_
 rintro _ w ⟨rfl, hb⟩
 have hs := hs.below hb
 refine ⟨_, rfl, fun a hk => ?_⟩
 refine q_v hk (w_as rfl) fun a hk => ?_
 refine c_end (x_t (wS (wS (wR ?_))))
 refine q_v hk (w_mv rfl) fun a hk => ?_
 refine q_v hk (w_ne rfl rfl (decide_eq_false (fun h => h h0))) fun a hk => ?_
 refine c_end (x_t ?_)
 refine c_F hk rfl ?_
 refine (wpIn_skip (x_t ?_))
 refine wS (wS (wR ?_))
 refine q_v hk (w_mv rfl) fun a hk => ?_
 refine q_v hk (w_len rfl Tryz.underlying42) fun a hk => ?_
 refine q_v hk (w_fa rfl fq41_3 ty3) fun a hk => ?_
 refine q_v hk (w_ld1 rfl ty3 (.blk (n := 1) (hs.mi 0 rfl) rfl)) fun a hk => ?_
 refine q_v hk (w_ne rfl rfl (decide_eq_false (by omega))) fun a hk => ?_
 refine c_end (x_t ?_)
 refine c_F hk rfl ?_
 refine (wpIn_skip (x_t ?_))
 refine wS (wS (wR ?_))
 refine q_v hk (w_mv rfl) fun a hk => ?_
 refine q_v hk (w_len rfl Tryz.underlying42) fun a hk => ?_
 refine q_v hk (w_ldA rfl ty41 (.blk (n := 4) (hs.mi 0 rfl) rfl) rfl) fun a hk => ?_
 refine q_call (caps := []) hk rfl rfl Tryz.func108 fo108 rfl rfl (rrnd_c s th ln N _ h0) ?_
 rintro _ w ⟨rfl, hb⟩
 have hs := hs.below hb
 refine ⟨_, rfl, fun a hk => ?_⟩
 refine q_v hk (w_lt rfl rfl (decide_eq_false (by omega))) fun a hk => ?_
 refine c_end (x_t ?_)
 refine c_F hk rfl ?_
 refine (wpIn_skip (x_t ?_))
 refine wS (wR ?_)
 refine q_v hk (w_mv rfl) fun a hk => ?_
 refine q_call (caps := []) hk rfl rfl Tryz.func109 fo109 rfl rfl (rsplit_e (hs.ri 0 rfl) hf (by omega)) ?_
 rintro _ w ⟨a2, c3, rfl, hS⟩
 have hs := hs.call1 hS
 clear hS
 refine ⟨_, rfl, fun a hk => ?_⟩
 refine q_v hk (w_mv rfl) fun a hk => ?_
 refine q_v hk (w_ext rfl rfl) fun a hk => ?_
 refine q_v hk (w_ext rfl rfl) fun a hk => ?_
 refine q_v hk (w_as rfl) fun a hk => ?_
 refine q_v hk (w_as rfl) fun a hk => ?_
 refine c_end (x_t (wS (wR ?_)))
 refine q_v hk (w_mv rfl) fun a hk => ?_
 refine q_v hk (w_bld rfl fl154 zr154 rfl rfl) fun a hk => ?_
 refine q_box (vs := [.slice ra rn rc]) hk hs rfl rfl rfl rfl fun b4 w a hk hs => ?_
 refine q_v hk (w_as rfl) fun a hk => ?_
 refine c_end (x_t (wS (wR ?_)))
 refine q_v hk (w_as rfl) fun a hk => ?_
 refine c_end (x_t (wS (wS (wR ?_))))
 refine q_v hk (w_as rfl) fun a hk => ?_
 refine c_end (x_t ?_)
 refine wpIn_block ?_
 have hs := rowB_none (T := 47) (n := th) (pa := fun _ => none) (pc := fun _ => 0) (X := fun k j => zv ((fun _ _ => 0 : Nat → Nat → Zp s) k j)) hs
 have hs := hs.row0 72 1
 have hs : Sat no W [row 72 1 (.slice none 0 0) 0 (en plx (fun i => ((fun _ => none : Nat → Option Addr) i, th, (fun _ => 0 : Nat → Nat) i)) 0), rowB 47 th (fun _ => none) (fun _ => 0) (fun k j => zv ((fun _ _ => 0 : Nat → Nat → Zp s) k j)) 0, blk b4 [.slice ra rn rc] 154, row 47 4 (.slice a2 (cn ((ln : Nat) : Int)) c3) (cn ((ln : Nat) : Int)) (en vq (fun i => cv ln f i) (cn ((ln : Nat) : Int))), blk b1 [.int .i64 (fid s), .int .i64 ((th : Nat) : Int), .int .i64 N, .int .i64 ((ln : Nat) : Int)] 41] [lst 1 (.slice sa ln sc) ln (en bc (fun i => f i) ln), lst 1 (.slice ra rn rc) rn (en bc (fun i => fr i) rn)] w := hs
 refine c_loop (α := Nat) (fun k a w => ∃ (pa : Nat → Option Addr) (pc : Nat → Nat) (F : Nat → Nat → Zp s) (ap : Option Addr) (cp : Nat) (qa : Option Addr) (qn : Nat) (qc : Nat) (qf : Nat → Nat), k ≤ (cn ((ln : Nat) : Int)) ∧ HasR (lst 1 (.slice qa qn qc) qn (en bc qf qn)) [lst 1 (.slice sa ln sc) ln (en bc f ln), lst 1 (.slice ra rn rc) rn (en bc fr rn)] ∧ (∀ j, qf j < 256) ∧ 64 * ((th - 1) * ((cn ((ln : Nat) : Int)) - k)) ≤ qn ∧ qn ≤ rn ∧ (∀ i, i < k → F i 0 = zn s (cv ln f i)) ∧ Kn [] 67 [(13, .int .i64 ((k : Nat) : Int)), (12, .slice ap k cp), (11, .pointer (some ⟨b4, 0, none⟩)), (9, .slice a2 (cn ((ln : Nat) : Int)) c3), (7, .int .i64 0), (6, .slice none 0 0), (3, .pointer (some ⟨b1, 0, none⟩))] a ∧ Sat no W [row 72 1 (.slice ap k cp) k (en plx (fun i => (pa i, th, pc i)) k), rowB 47 th pa pc (fun k j => zv (F k j)) k, blk b4 [.slice qa qn qc] 154, row 47 4 (.slice a2 (cn ((ln : Nat) : Int)) c3) (cn ((ln : Nat) : Int)) (en vq (fun i => cv ln f i) (cn ((ln : Nat) : Int))), blk b1 [.int .i64 (fid s), .int .i64 ((th : Nat) : Int), .int .i64 N, .int .i64 ((ln : Nat) : Int)] 41] [lst 1 (.slice sa ln sc) ln (en bc (fun i => f i) ln), lst 1 (.slice ra rn rc) rn (en bc (fun i => fr i) rn)] w) (fun k => (cn ((ln : Nat) : Int)) - k) 0 ?_ ?_
 · exact ⟨_, _, _, _, _, _, _, _, _, (by omega), (HasR.nth 1 rfl), hfr, hrn, (Nat.le_refl _), (fun i hi => absurd hi (Nat.not_lt_zero i)), hk.k rfl (hk.k rfl (hk.k rfl (hk.k rfl (hk.k rfl (hk.k rfl (hk.k rfl hk.nil)))))), hs⟩
 rintro k a w ⟨pa, pc, F, ap, cp, qa, qn, qc, qf, hf0, hf1, hf2, hf3, hf4, hf5, hk, hs⟩
 refine wS (wS (wR ?_))
 refine q_v hk (w_mv rfl) fun a hk => ?_
 refine q_v hk (w_mv rfl) fun a hk => ?_
 refine q_v hk (w_len rfl Tryz.underlying72) fun a hk => ?_
 rcases Classical.em (((k : Nat) : Int) < (((cn ((ln : Nat) : Int)) : Nat) : Int)) with hc5 | hc5
 ·
  have hlt : k < (cn ((ln : Nat) : Int)) := by omega
  refine q_v hk (w_lt rfl rfl (decide_eq_true hc5)) fun a hk => ?_
  refine c_end (x_t ?_)
  refine c_T hk rfl ?_
  refine (wpIn_skip (x_t ?_))
  refine wS ?_
  refine wpIn_block ?_
  refine wS ?_
  have hL := okL.cons (hs.mi 4 rfl) okL.nil
  refine d_begin _ 13 (by kernel_rfl) rfl hs hL fun w hs hL => ?_
  refine d_w 0 1 hk hL rfl (fun w hL => w_mv rfl) fun a hk => ?_
  refine d_w 1 3 hk hL rfl (fun w hL => w_fa rfl fq41_0 ty3) fun a hk => ?_
  refine d_w 2 7 hk hL rfl (fun w hL => w_ld1 rfl ty3 (.blk (n := 1) (hL.at 0 rfl) rfl)) fun a hk => ?_
  refine d_w 4 23 hk hL rfl (fun w hL => w_fa rfl fq41_1 ty3) fun a hk => ?_
  refine d_w 5 55 hk hL rfl (fun w hL => w_ld1 rfl ty3 (.blk (n := 1) (hL.at 0 rfl) rfl)) fun a hk => ?_
  refine d_w 6 119 hk hL rfl (fun w hL => w_sub (r := ((th - 1 : Nat) : Int)) rfl rfl (by rw [wr64 (by omega) (by omega)]; omega)) fun a hk => ?_
  refine d_1 3 127 rfl (by kernel_rfl) fun K hK => ?_
  refine q_call (caps := []) hk rfl rfl Tryz.func28 fo28 rfl rfl (rmodulus_z (s := s) rfl _) ?_
  rintro _ w ⟨rfl, hb⟩
  have hs := hs.below hb
  refine ⟨_, rfl, fun a hk => ?_⟩
  have hL := okL.cons (hs.mi 4 rfl) okL.nil
  refine c_end (x_t (hK _ _ hL ?_))
  clear hK K
  refine d_1 7 255 rfl (by kernel_rfl) fun K hK => ?_
  have hs := hs.up2
  refine q_call (caps := []) hk rfl rfl Tryz.func110 fo110 rfl rfl (elements_m s b4 qn qc (th - 1) qa qf _ hs hf1 hf2 (by rw [rem_step hlt, Nat.mul_add] at hf3; omega) (by omega) (by omega)) ?_
  rintro _ w ⟨a1_7, c1_7b, a1_7c, c1_7d, qf2, E1_7e, rfl, hR2, hb2, hs⟩
  refine ⟨_, rfl, fun a hk => ?_⟩
  have hL := okL.cons (hs.mi 5 rfl) okL.nil
  refine c_end (x_t (hK _ _ hL ?_))
  clear hK K
  refine d_w 8 511 hk hL rfl (fun w hL => w_mv rfl) fun a hk => ?_
  refine d_w 9 1023 hk hL rfl (fun w hL => w_ext rfl rfl) fun a hk => ?_
  refine d_w 10 2047 hk hL rfl (fun w hL => w_ext rfl rfl) fun a hk => ?_
  refine d_w 11 4095 hk hL rfl (fun w hL => w_as rfl) fun a hk => ?_
  refine d_w 12 8191 hk hL rfl (fun w hL => w_as rfl) fun a hk => ?_
  refine d_end (by kernel_rfl) ?_
  refine (x_t ?_)
  refine wR ?_
  refine q_v hk (w_mv rfl) fun a hk => ?_
  refine q_v hk (w_mv rfl) fun a hk => ?_
  refine q_v hk (w_mv rfl) fun a hk => ?_
  refine q_v hk (w_iaL (k := k) rfl rfl Tryz.underlying72 ty47 (row_lst (hs.mi 4 rfl)) (by omega) (by omega)) fun a hk => ?_
  refine q_v hk (w_ldv (z := cv ln f k) rfl ty47 (lstq (k := k) (row_lst (hs.mi 4 rfl)) (by omega) (en_chunk vq_len (by omega)))) fun a hk => ?_
  refine q_bsl (els := [.tmp 60]) (cs := [.int .u64 ((dg 0 (cv ln f k) : Nat) : Int), .int .u64 ((dg 1 (cv ln f k) : Nat) : Int), .int .u64 ((dg 2 (cv ln f k) : Nat) : Int), .int .u64 ((dg 3 (cv ln f k) : Nat) : Int)]) hk hs rfl Tryz.underlying72 ty47 zr47 rfl rfl rfl rfl rfl rfl rfl fun b6 w a hk hs => ?_
  have hs := hs.toRow (xs := el vq ([cv ln f k])) (n := 1) (sz := 4) rfl (by rw [el_len vq_len]; rfl) (by omega)
  refine q_v hk (w_mv rfl) fun a hk => ?_
  refine q_appL (news := (en vq (fun i => zv (E1_7e i)) (th - 1))) (mm := (th - 1)) hk hs rfl rfl Tryz.underlying72 ty47 zr47 rfl rfl (row_lst (hs.mi 1 rfl))  (en_ones vq_ones) (by omega) (by omega) rfl rfl fun a7 c8 w a hk hs => ?_
  rw [show 1 + (th - 1) = th by omega] at hk hs
  have hcr := cons_row (z := zn s (cv ln f k)) (E := E1_7e) (m := th - 1) (cv_zv (s := s) (n := ln) (i := k) hf)
  rw [show 1 + (th - 1) = th by omega] at hcr
  have hs := hs.rw0 (congrArg (fun q => row 47 4 (.slice a7 th c8) th q) hcr)
  refine q_bsl (els := [.tmp 63]) (cs := [.slice a7 th c8]) hk hs rfl Tryz.underlying84 ty72 zr72 rfl rfl rfl rfl rfl rfl rfl fun b9 w a hk hs => ?_
  have hs := hs.up4
  refine q_app (news := [.slice a7 th c8]) (m := 1) hk hs rfl rfl Tryz.underlying84 ty72 zr72 rfl rfl (.blk (n := 1) (hs.mi 1 rfl) rfl) rfl rfl (by omega) (by omega) rfl rfl fun a10 c11 w a hk hs => ?_
  have hs := hs.up1
  have hs := hs.drop
  refine q_v hk (w_as rfl) fun a hk => ?_
  refine (c_end (x_b (x_t ?_)))
  refine wR ?_
  refine q_v hk (w_mv rfl) fun a hk => ?_
  refine q_v hk (w_add rfl rfl (wr64 (by omega) (by omega))) fun a hk => ?_
  refine q_v hk (w_as rfl) fun a hk => ?_
  refine c_end (x_t ?_)
  have hs := hs.rw0 (congrArg (fun q => row 72 1 (.slice a10 (k + 1) c11) (k + 1) q) (plx_row (n := th) (pa := pa) (pc := pc) (k := k) (a := a7) (c := c8)))
  have hs := hs.up4
  have hs := hs.up2
  have hs := rowB_add (pa := pa) (pc := pc) (k := k) (n := th) (T := 47) (X := fun k j => zv (F k j)) (Y := fun j => zv (consz (zn s (cv ln f k)) E1_7e j)) hs
  rw [updz_upg] at hs
  have hz0 : ∀ i, i < k + 1 → (upg F k (consz (zn s (cv ln f k)) E1_7e)) i 0 = zn s (cv ln f i) := upg_all (p := fun i (x : Nat → Zp s) => x 0 = zn s (cv ln f i)) hf5 rfl
  have hs := hs.up2
  have hs := hs.drop
  have hs := hs.up4
  have hs := hs.up4
  have hs := hs.up4
  have hs := hs.up3
  have hs := hs.up4
  exact ⟨k + 1, ⟨_, _, _, _, _, _, _, _, _, (by omega), hR2, hb2, (by rw [rem_step hlt, Nat.mul_add] at hf3; omega), (by omega), hz0, hk.k rfl (hk.k rfl (hk.k rfl (hk.k rfl (hk.k rfl (hk.k rfl (hk.k rfl hk.nil)))))), hs⟩, by omega⟩
 ·
  refine q_v hk (w_lt rfl rfl (decide_eq_false hc5)) fun a hk => ?_
  refine c_end (x_t ?_)
  refine c_F hk rfl ?_
  refine (wpIn_exit (x_te (x_te (x_be ?_))))
  refine (x_t ?_)
  refine wS (wR ?_)
  refine q_v hk (w_mv rfl) fun a hk => ?_
  refine q_v hk (w_as rfl) fun a hk => ?_
  refine q_v hk (w_as rfl) fun a hk => ?_
  refine c_end (x_t ?_)
  refine (wpIn_ret ?_)
  refine c_ret2 hk rfl rfl rfl ?_
  have hs := hs.up2
  have hs := hs.drop
  have hs := hs.up2
  have hs := hs.drop
  have hs := hs.up2
  have hs := hs.drop
  have hkq : k = (cn ((ln : Nat) : Int)) := by omega
  rw [hkq] at hs ⊢
  rw [hkq] at hf5
  exact ⟨_, _, _, _, _, hf5, rfl, hs.fin⟩
end Go.Proofs.YtdnkkbmpefhbjaaGreatDoor
namespace Go.Proofs.YtdnkkbmpefhbjaaGreatDoor
set_option linter.all false
open Go Go.RowKit Alg
/-- What a share of polynomials carries. -/
def dealX (s : Bool) (th : Nat) (F : Nat → Nat → Zp s) (j ch : Nat) : Nat := mq (rEv (F ch) (zn s (j + 1)) th)
/-- The shares of polynomials. -/
def dealS (s : Bool) (th ln q : Nat) (F : Nat → Nat → Zp s) (xa : Nat → Option Addr) (xc : Nat → Nat) (j : Nat) : Shr := ⟨fid s, (th : Int), ((j + 1 : Nat) : Int), (ln : Int), q, dealX s th F j, xa j, xc j⟩
section
variable {s : Bool} {th ln q k c m tS T : Nat} {F : Nat → Nat → Zp s} {a : Option Addr} {xa : Nat → Option Addr} {xc : Nat → Nat} {X : Nat → Nat → Nat} {F0 : Nat → Prop} {W w : World} {M R : List Res}
theorem rowB_addX (hs : Sat F0 W (row T 4 (.slice a q c) q (en vq (X k) q) :: rowB T q xa xc X k :: M) R w) : Sat F0 W (rowB T q (upg xa k a) (upg xc k c) X (k + 1) :: M) R w := by
  have h := rowB_add (Y := X k) hs
  have e : upg X k (X k) = X := by
    funext i
    unfold upg
    split
    · next h => rw [h]
    · rfl
  rw [e] at h
  exact h
theorem deal_row : en shc (dealS s th ln q F xa xc) k ++ [.int .i64 (fid s), .int .i64 (th : Int), .int .i64 ((k + 1 : Nat) : Int), .int .i64 (ln : Int), .slice a q c] = en shc (dealS s th ln q F (upg xa k a) (upg xc k c)) (k + 1) := by
  have e : en shc (dealS s th ln q F (upg xa k a) (upg xc k c)) k = en shc (dealS s th ln q F xa xc) k := en_congr fun i hi => by unfold dealS; rw [upg_ne (by omega), upg_ne (by omega)]
  have e2 : en shc (dealS s th ln q F (upg xa k a) (upg xc k c)) (k + 1) = en shc (dealS s th ln q F (upg xa k a) (upg xc k c)) k ++ shc (dealS s th ln q F (upg xa k a) (upg xc k c) k) := en_succ.symm
  rw [e2, e]
  congr 1
  unfold dealS shc
  rw [upg_eq, upg_eq]
end
theorem eval16_c (s : Bool) (th nn ln q qc : Nat) (qa : Option Addr) (pa : Nat → Option Addr) (pc : Nat → Nat) (F : Nat → Nat → Zp s) (W : World) (HP : LstAt W 1 (.slice qa q qc) q (en plx (fun i => (pa i, th, pc i)) q)) (HB : (rowB 47 th pa pc (fun k j => zv (F k j)) q).ok W) (hnn : nn ≤ 255) (hq9 : q ≤ 100000) (ht9 : th ≤ 255) : Calls Tryz.prog 65 [.agg #[.int .i64 (fid s), .int .i64 ((th : Nat) : Int), .int .i64 ((nn : Nat) : Int), .int .i64 ((ln : Nat) : Int)], .slice qa q qc].toArray W fun e w => ∃ xa xc a c, e = .returned (.slice a nn c) ∧ Sat no W [row 53 5 (.slice a nn c) nn (en shc (dealS s th ln q F xa xc) nn), rowB 56 q xa xc (dealX s th F) nn] [] w := by
 refine c_enter (args := [.agg #[.int .i64 (fid s), .int .i64 ((th : Nat) : Int), .int .i64 ((nn : Nat) : Int), .int .i64 ((ln : Nat) : Int)], .slice qa q qc]) Tryz.func65 rfl rfl rfl fun a hk => ?_
 have hs := Sat.start W [lst 1 (.slice qa q qc) q (en plx (fun i => (pa i, th, pc i)) q), rowB 47 th pa pc (fun k j => zv (F k j)) q] (okrc HP (okr1 HB))
 refine wS (wR ?_)
 refine q_box (vs := [.int .i64 (fid s), .int .i64 ((th : Nat) : Int), .int .i64 ((nn : Nat) : Int), .int .i64 ((ln : Nat) : Int)]) hk hs rfl rfl rfl rfl fun b1 w a hk hs => ?_
 refine q_v hk (w_as rfl) fun a hk => ?_
 refine c_end (x_t (wS (wR ?_)))
 refine q_v hk (w_as rfl) fun a hk => ?_
 refine c_end (x_t (wS (wS (wR ?_))))
 refine q_v hk (w_as rfl) fun a hk => ?_
 refine c_end (x_t ?_)
 refine wpIn_block ?_
 have hs := rowB_none (T := 56) (n := q) (pa := fun _ => none) (pc := fun _ => 0) (X := dealX s th F) hs
 have hs := hs.row0 53 5
 have hs : Sat no W [row 53 5 (.slice none 0 0) 0 (en shc (fun i => dealS s th ln q F (fun _ => none) (fun _ => 0) i) 0), rowB 56 q (fun _ => none) (fun _ => 0) (dealX s th F) 0, blk b1 [.int .i64 (fid s), .int .i64 ((th : Nat) : Int), .int .i64 ((nn : Nat) : Int), .int .i64 ((ln : Nat) : Int)] 41] [lst 1 (.slice qa q qc) q (en plx (fun i => (pa i, th, pc i)) q), rowB 47 th pa pc (fun k j => zv (F k j)) q] w := hs
 refine c_loop (α := Nat) (fun k a w => ∃ (xa : Nat → Option Addr) (xc : Nat → Nat) (ao : Option Addr) (co : Nat), k ≤ nn ∧ Kn [] 31 [(6, .int .i64 ((k + 1 : Nat) : Int)), (5, .slice ao k co), (4, .slice none 0 0), (2, .pointer (some ⟨b1, 0, none⟩)), (1, .slice qa q qc)] a ∧ Sat no W [row 53 5 (.slice ao k co) k (en shc (fun i => dealS s th ln q F xa xc i) k), rowB 56 q xa xc (dealX s th F) k, blk b1 [.int .i64 (fid s), .int .i64 ((th : Nat) : Int), .int .i64 ((nn : Nat) : Int), .int .i64 ((ln : Nat) : Int)] 41] [lst 1 (.slice qa q qc) q (en plx (fun i => (pa i, th, pc i)) q), rowB 47 th pa pc (fun k j => zv (F k j)) q] w) (fun k => nn - k) 0 ?_ ?_
 · exact ⟨_, _, _, _, (by omega), hk.k rfl (hk.k rfl (hk.k rfl (hk.k rfl (hk.k rfl hk.nil)))), hs⟩
 rintro k a w ⟨xa, xc, ao, co, hf0, hk, hs⟩
 refine wS (wS (wR ?_))
 refine q_v hk (w_mv rfl) fun a hk => ?_
 refine q_v hk (w_fa rfl fq41_2 ty3) fun a hk => ?_
 refine q_v hk (w_ld1 rfl ty3 (.blk (n := 1) (hs.mi 2 rfl) rfl)) fun a hk => ?_
 rcases Classical.em (((k + 1 : Nat) : Int) ≤ ((nn : Nat) : Int)) with hc2 | hc2
 ·
  have hlt : k < nn := by omega
  refine q_v hk (w_le rfl rfl (decide_eq_true hc2)) fun a hk => ?_
  refine c_end (x_t ?_)
  refine c_T hk rfl ?_
  refine (wpIn_skip (x_t ?_))
  refine wS ?_
  refine wpIn_block ?_
  have hL := okL.cons (hs.mi 2 rfl) okL.nil
  refine d_begin _ 18 (by kernel_rfl) rfl hs hL fun w hs hL => ?_
  refine d_w 0 1 hk hL rfl (fun w hL => w_mv rfl) fun a hk => ?_
  refine d_w 1 3 hk hL rfl (fun w hL => w_fa rfl fq41_0 ty3) fun a hk => ?_
  refine d_w 2 7 hk hL rfl (fun w hL => w_ld1 rfl ty3 (.blk (n := 1) (hL.at 0 rfl) rfl)) fun a hk => ?_
  refine d_w 3 15 hk hL rfl (fun w hL => w_fa rfl fq41_1 ty3) fun a hk => ?_
  refine d_w 4 31 hk hL rfl (fun w hL => w_ld1 rfl ty3 (.blk (n := 1) (hL.at 0 rfl) rfl)) fun a hk => ?_
  refine d_w 5 63 hk hL rfl (fun w hL => w_mv rfl) fun a hk => ?_
  refine d_w 6 127 hk hL rfl (fun w hL => w_fa rfl fq41_3 ty3) fun a hk => ?_
  refine d_w 7 255 hk hL rfl (fun w hL => w_ld1 rfl ty3 (.blk (n := 1) (hL.at 0 rfl) rfl)) fun a hk => ?_
  refine d_w 8 511 hk hL rfl (fun w hL => w_fa rfl fq41_0 ty3) fun a hk => ?_
  refine d_w 9 1023 hk hL rfl (fun w hL => w_ld1 rfl ty3 (.blk (n := 1) (hL.at 0 rfl) rfl)) fun a hk => ?_
  refine d_w 11 3071 hk hL rfl (fun w hL => w_mv rfl) fun a hk => ?_
  refine d_w 12 7167 hk hL rfl (fun w hL => w_mv rfl) fun a hk => ?_
  refine d_1 10 8191 rfl (by kernel_rfl) fun K hK => ?_
  refine q_call (caps := []) hk rfl rfl Tryz.func28 fo28 rfl rfl (rmodulus_z (s := s) rfl _) ?_
  rintro _ w ⟨rfl, hb⟩
  have hs := hs.below hb
  refine ⟨_, rfl, fun a hk => ?_⟩
  have hL := okL.cons (hs.mi 2 rfl) okL.nil
  refine c_end (x_t (hK _ _ hL ?_))
  clear hK K
  refine d_1 13 16383 rfl (by kernel_rfl) fun K hK => ?_
  refine q_call (caps := []) hk rfl rfl Tryz.func49 fo49 rfl rfl (rpay2_c s q qc th (k + 1) qa pa pc F _ (hs.ri 0 rfl) (hs.ri 1 rfl) (by omega) hq9 (by omega)) ?_
  rintro _ w ⟨a1_13, c1_13b, rfl, hS⟩
  have hs := hs.call1 hS
  clear hS
  refine ⟨_, rfl, fun a hk => ?_⟩
  have hL := okL.cons (hs.mi 3 rfl) okL.nil
  refine c_end (x_t (hK _ _ hL ?_))
  clear hK K
  refine d_w 14 32767 hk hL rfl (fun w hL => w_bld rfl fl53 zr53 rfl rfl) fun a hk => ?_
  refine d_1 15 65535 rfl (by kernel_rfl) fun K hK => ?_
  refine q_bsl (els := [.tmp 27]) (cs := [.int .i64 (fid s), .int .i64 ((th : Nat) : Int), .int .i64 ((k + 1 : Nat) : Int), .int .i64 ((ln : Nat) : Int), .slice a1_13 q c1_13b]) hk hs rfl Tryz.underlying22 ty53 zr53 rfl rfl rfl rfl rfl rfl rfl fun b1_15 w a hk hs => ?_
  have hL := okL.cons (hs.mi 4 rfl) okL.nil
  refine c_end (x_t (hK _ _ hL ?_))
  clear hK K
  refine d_1 16 131071 rfl (by kernel_rfl) fun K hK => ?_
  have hs := hs.up2
  refine q_app (news := [.int .i64 (fid s), .int .i64 ((th : Nat) : Int), .int .i64 ((k + 1 : Nat) : Int), .int .i64 ((ln : Nat) : Int), .slice a1_13 q c1_13b]) (m := 1) hk hs rfl rfl Tryz.underlying22 ty53 zr53 rfl rfl (.blk (n := 5) (hs.mi 1 rfl) rfl) rfl rfl (by omega) (by omega) rfl rfl fun a1_16 c1_16b w a hk hs => ?_
  have hs := hs.up1
  have hs := hs.drop
  have hL := okL.cons (hs.mi 3 rfl) okL.nil
  refine c_end (x_t (hK _ _ hL ?_))
  clear hK K
  refine d_w 17 262143 hk hL rfl (fun w hL => w_as rfl) fun a hk => ?_
  refine d_end (by kernel_rfl) ?_
  refine (x_b (x_t ?_))
  refine wR ?_
  refine q_v hk (w_mv rfl) fun a hk => ?_
  refine q_v hk (w_add rfl rfl (wr64 (by omega) (by omega))) fun a hk => ?_
  refine q_v hk (w_as rfl) fun a hk => ?_
  refine c_end (x_t ?_)
  have hs := hs.rw0 (congrArg (fun q => row 53 5 (.slice a1_16 (k + 1) c1_16b) (k + 1) q) (deal_row (s := s) (th := th) (ln := ln) (q := q) (F := F) (xa := xa) (xc := xc) (k := k) (a := a1_13) (c := c1_13b)))
  have hs := hs.up2
  have hs := hs.up2
  have hs := rowB_addX (X := dealX s th F) (k := k) hs
  have hs := hs.up2
  have hs := hs.up1
  have hs := hs.up2
  exact ⟨k + 1, ⟨_, _, _, _, (by omega), hk.k rfl (hk.k rfl (hk.k rfl (hk.k rfl (hk.k rfl hk.nil)))), hs⟩, by omega⟩
 ·
  refine q_v hk (w_le rfl rfl (decide_eq_false hc2)) fun a hk => ?_
  refine c_end (x_t ?_)
  refine c_F hk rfl ?_
  refine (wpIn_exit (x_te (x_te (x_be ?_))))
  refine (x_t ?_)
  refine wS (wR ?_)
  refine q_v hk (w_mv rfl) fun a hk => ?_
  refine q_v hk (w_as rfl) fun a hk => ?_
  refine c_end (x_t ?_)
  refine (wpIn_ret ?_)
  refine c_ret1 hk rfl rfl ?_
  have hs := hs.up2
  have hs := hs.drop
  have hkn : k = nn := by omega
  rw [hkn] at hs ⊢
  exact ⟨_, _, _, _, rfl, hs.fin⟩
end Go.Proofs.YtdnkkbmpefhbjaaGreatDoor
namespace Go.Proofs.YtdnkkbmpefhbjaaGreatDoor
set_option linter.all false
open Go Go.RowKit Alg
theorem poly16_b1 (F T N L : Int) (sn rn sc rc : Nat) (sa ra : Option Addr) (W : World) (h0 : prErr F T N L ≠ 0) : Calls Tryz.prog 64 [.agg #[.int .i64 F, .int .i64 T, .int .i64 N, .int .i64 L], .slice sa sn sc, .slice ra rn rc].toArray W fun e w => e = .returned (.tuple #[.slice none 0 0, .int .i64 (prErr F T N L)]) ∧ Below W.heap.size W w := by
 refine c_enter (args := [.agg #[.int .i64 F, .int .i64 T, .int .i64 N, .int .i64 L], .slice sa sn sc, .slice ra rn rc]) Tryz.func64 rfl rfl rfl fun a hk => ?_
 have hs := Sat.start W [] (fun _ h => by cases h)
 refine wS (wR ?_)
 refine q_box (vs := [.int .i64 F, .int .i64 T, .int .i64 N, .int .i64 L]) hk hs rfl rfl rfl rfl fun b1 w a hk hs => ?_
 refine q_v hk (w_as rfl) fun a hk => ?_
 refine q_v hk (w_as rfl) fun a hk => ?_
 refine c_end (x_t (wS (wR ?_)))
 refine q_v hk (w_ldA rfl ty41 (.blk (n := 4) (hs.mi 0 rfl) rfl) rfl) fun a hk => ?_
 refine q_call (caps := []) hk rfl rfl Tryz.func107 fo107 rfl rfl (refCkPar_c F T N L _) ?_
 rintro _ w ⟨rfl, hb⟩
 have hs := hs.below hb
 refine ⟨_, rfl, fun a hk => ?_⟩
 refine q_v hk (w_as rfl) fun a hk => ?_
 refine c_end (x_t (wS (wS (wR ?_))))
 refine q_v hk (w_mv rfl) fun a hk => ?_
 refine q_v hk (w_ne rfl rfl (decide_eq_true h0)) fun a hk => ?_
 refine c_end (x_t ?_)
 refine c_T hk rfl ?_
 refine wS (wR ?_)
 refine q_v hk (w_mv rfl) fun a hk => ?_
 refine q_v hk (w_as rfl) fun a hk => ?_
 refine q_v hk (w_as rfl) fun a hk => ?_
 refine c_end (x_t ?_)
 refine (wpIn_ret (x_tr ?_))
 refine c_ret2 hk rfl rfl rfl ?_
 have hs := hs.drop
 exact ⟨rfl, hs.toBelow⟩
theorem poly16_b2 (F T N L : Int) (sn rn sc rc : Nat) (sa ra : Option Addr) (W : World) (h0 : prErr F T N L = 0) (hl : ((sn : Nat) : Int) ≠ L) : Calls Tryz.prog 64 [.agg #[.int .i64 F, .int .i64 T, .int .i64 N, .int .i64 L], .slice sa sn sc, .slice ra rn rc].toArray W fun e w => e = .returned (.tuple #[.slice none 0 0, .int .i64 8]) ∧ Below W.heap.size W w := by
 refine c_enter (args := [.agg #[.int .i64 F, .int .i64 T, .int .i64 N, .int .i64 L], .slice sa sn sc, .slice ra rn rc]) Tryz.func64 rfl rfl rfl fun a hk => ?_
 have hs := Sat.start W [] (fun _ h => by cases h)
 refine wS (wR ?_)
 refine q_box (vs := [.int .i64 F, .int .i64 T, .int .i64 N, .int .i64 L]) hk hs rfl rfl rfl rfl fun b1 w a hk hs => ?_
 refine q_v hk (w_as rfl) fun a hk => ?_
 refine q_v hk (w_as rfl) fun a hk => ?_
 refine c_end (x_t (wS (wR ?_)))
 refine q_v hk (w_ldA rfl ty41 (.blk (n := 4) (hs.mi 0 rfl) rfl) rfl) fun a hk => ?_
 refine q_call (caps := []) hk rfl rfl Tryz.func107 fo107 rfl rfl (refCkPar_c F T N L _) ?_
 rintro _ w ⟨rfl, hb⟩
 have hs := hs.below hb
 refine ⟨_, rfl, fun a hk => ?_⟩
 refine q_v hk (w_as rfl) fun a hk => ?_
 refine c_end (x_t (wS (wS (wR ?_))))
 refine q_v hk (w_mv rfl) fun a hk => ?_
 refine q_v hk (w_ne rfl rfl (decide_eq_false (fun h => h h0))) fun a hk => ?_
 refine c_end (x_t ?_)
 refine c_F hk rfl ?_
 refine (wpIn_skip (x_t ?_))
 refine wS (wS (wR ?_))
 refine q_v hk (w_mv rfl) fun a hk => ?_
 refine q_v hk (w_len rfl Tryz.underlying42) fun a hk => ?_
 refine q_v hk (w_fa rfl fq41_3 ty3) fun a hk => ?_
 refine q_v hk (w_ld1 rfl ty3 (.blk (n := 1) (hs.mi 0 rfl) rfl)) fun a hk => ?_
 refine q_v hk (w_ne rfl rfl (decide_eq_true hl)) fun a hk => ?_
 refine c_end (x_t ?_)
 refine c_T hk rfl ?_
 refine wS (wR ?_)
 refine q_v hk (w_as rfl) fun a hk => ?_
 refine q_v hk (w_as rfl) fun a hk => ?_
 refine c_end (x_t ?_)
 refine (wpIn_ret (x_tr ?_))
 refine c_ret2 hk rfl rfl rfl ?_
 have hs := hs.drop
 exact ⟨rfl, hs.toBelow⟩
theorem deal_b1 (F T N L : Int) (sn rn sc rc : Nat) (sa ra : Option Addr) (W : World) (h0 : prErr F T N L ≠ 0) : Calls Tryz.prog 27 [.agg #[.int .i64 F, .int .i64 T, .int .i64 N, .int .i64 L], .slice sa sn sc, .slice ra rn rc].toArray W fun e w => e = .returned (.tuple #[.slice none 0 0, .int .i64 (prErr F T N L)]) ∧ Below W.heap.size W w := by
 refine c_enter (args := [.agg #[.int .i64 F, .int .i64 T, .int .i64 N, .int .i64 L], .slice sa sn sc, .slice ra rn rc]) Tryz.func27 rfl rfl rfl fun a hk => ?_
 have hs := Sat.start W [] (fun _ h => by cases h)
 refine wS (wR ?_)
 refine q_box (vs := [.int .i64 F, .int .i64 T, .int .i64 N, .int .i64 L]) hk hs rfl rfl rfl rfl fun b1 w a hk hs => ?_
 refine q_v hk (w_as rfl) fun a hk => ?_
 refine q_v hk (w_as rfl) fun a hk => ?_
 refine c_end (x_t (wS (wR ?_)))
 refine q_v hk (w_ldA rfl ty41 (.blk (n := 4) (hs.mi 0 rfl) rfl) rfl) fun a hk => ?_
 refine q_v hk (w_mv rfl) fun a hk => ?_
 refine q_v hk (w_mv rfl) fun a hk => ?_
 refine q_call (caps := []) hk rfl rfl Tryz.func64 fo64 rfl rfl (poly16_b1 F T N L sn rn sc rc sa ra _ h0) ?_
 rintro _ w ⟨rfl, hb⟩
 have hs := hs.below hb
 refine ⟨_, rfl, fun a hk => ?_⟩
 refine q_v hk (w_mv rfl) fun a hk => ?_
 refine q_v hk (w_ext rfl rfl) fun a hk => ?_
 refine q_v hk (w_ext rfl rfl) fun a hk => ?_
 refine q_v hk (w_as rfl) fun a hk => ?_
 refine q_v hk (w_as rfl) fun a hk => ?_
 refine c_end (x_t (wS (wS (wR ?_))))
 refine q_v hk (w_mv rfl) fun a hk => ?_
 refine q_v hk (w_ne rfl rfl (decide_eq_true h0)) fun a hk => ?_
 refine c_end (x_t ?_)
 refine c_T hk rfl ?_
 refine wS (wR ?_)
 refine q_v hk (w_mv rfl) fun a hk => ?_
 refine q_v hk (w_as rfl) fun a hk => ?_
 refine q_v hk (w_as rfl) fun a hk => ?_
 refine c_end (x_t ?_)
 refine (wpIn_ret (x_tr ?_))
 refine c_ret2 hk rfl rfl rfl ?_
 have hs := hs.drop
 exact ⟨rfl, hs.toBelow⟩
theorem deal_b2 (F T N L : Int) (sn rn sc rc : Nat) (sa ra : Option Addr) (W : World) (h0 : prErr F T N L = 0) (hl : ((sn : Nat) : Int) ≠ L) : Calls Tryz.prog 27 [.agg #[.int .i64 F, .int .i64 T, .int .i64 N, .int .i64 L], .slice sa sn sc, .slice ra rn rc].toArray W fun e w => e = .returned (.tuple #[.slice none 0 0, .int .i64 8]) ∧ Below W.heap.size W w := by
 refine c_enter (args := [.agg #[.int .i64 F, .int .i64 T, .int .i64 N, .int .i64 L], .slice sa sn sc, .slice ra rn rc]) Tryz.func27 rfl rfl rfl fun a hk => ?_
 have hs := Sat.start W [] (fun _ h => by cases h)
 refine wS (wR ?_)
 refine q_box (vs := [.int .i64 F, .int .i64 T, .int .i64 N, .int .i64 L]) hk hs rfl rfl rfl rfl fun b1 w a hk hs => ?_
 refine q_v hk (w_as rfl) fun a hk => ?_
 refine q_v hk (w_as rfl) fun a hk => ?_
 refine c_end (x_t (wS (wR ?_)))
 refine q_v hk (w_ldA rfl ty41 (.blk (n := 4) (hs.mi 0 rfl) rfl) rfl) fun a hk => ?_
 refine q_v hk (w_mv rfl) fun a hk => ?_
 refine q_v hk (w_mv rfl) fun a hk => ?_
 refine q_call (caps := []) hk rfl rfl Tryz.func64 fo64 rfl rfl (poly16_b2 F T N L sn rn sc rc sa ra _ h0 hl) ?_
 rintro _ w ⟨rfl, hb⟩
 have hs := hs.below hb
 refine ⟨_, rfl, fun a hk => ?_⟩
 refine q_v hk (w_mv rfl) fun a hk => ?_
 refine q_v hk (w_ext rfl rfl) fun a hk => ?_
 refine q_v hk (w_ext rfl rfl) fun a hk => ?_
 refine q_v hk (w_as rfl) fun a hk => ?_
 refine q_v hk (w_as rfl) fun a hk => ?_
 refine c_end (x_t (wS (wS (wR ?_))))
 refine q_v hk (w_mv rfl) fun a hk => ?_
 refine q_v hk (w_ne rfl rfl (decide_eq_true (by decide))) fun a hk => ?_
 refine c_end (x_t ?_)
 refine c_T hk rfl ?_
 refine wS (wR ?_)
 refine q_v hk (w_mv rfl) fun a hk => ?_
 refine q_v hk (w_as rfl) fun a hk => ?_
 refine q_v hk (w_as rfl) fun a hk => ?_
 refine c_end (x_t ?_)
 refine (wpIn_ret (x_tr ?_))
 refine c_ret2 hk rfl rfl rfl ?_
 have hs := hs.drop
 exact ⟨rfl, hs.toBelow⟩
theorem poly16_b3 (s : Bool) (th nn ln rn sc rc : Nat) (sa ra : Option Addr) (qq : Nat) (W : World) (h0 : prErr (fid s) ((th : Nat) : Int) ((nn : Nat) : Int) ((ln : Nat) : Int) = 0) (hqq : 64 * (th - 1) * (cn ((ln : Nat) : Int)) = qq) (hr : rn < qq) (hq9 : qq ≤ 100000000) : Calls Tryz.prog 64 [.agg #[.int .i64 (fid s), .int .i64 ((th : Nat) : Int), .int .i64 ((nn : Nat) : Int), .int .i64 ((ln : Nat) : Int)], .slice sa ln sc, .slice ra rn rc].toArray W fun e w => e = .returned (.tuple #[.slice none 0 0, .int .i64 7]) ∧ Below W.heap.size W w := by
 refine c_enter (args := [.agg #[.int .i64 (fid s), .int .i64 ((th : Nat) : Int), .int .i64 ((nn : Nat) : Int), .int .i64 ((ln : Nat) : Int)], .slice sa ln sc, .slice ra rn rc]) Tryz.func64 rfl rfl rfl fun a hk => ?_
 have hs := Sat.start W [] (fun _ h => by cases h)
 refine wS (wR ?_)
 refine q_box (vs := [.int .i64 (fid s), .int .i64 ((th : Nat) : Int), .int .i64 ((nn : Nat) : Int), .int .i64 ((ln : Nat) : Int)]) hk hs rfl rfl rfl rfl fun b1 w a hk hs => ?_
 refine q_v hk (w_as rfl) fun a hk => ?_
 refine q_v hk (w_as rfl) fun a hk => ?_
 refine c_end (x_t (wS (wR ?_)))
 refine q_v hk (w_ldA rfl ty41 (.blk (n := 4) (hs.mi 0 rfl) rfl) rfl) fun a hk => ?_
 refine q_call (caps := []) hk rfl rfl Tryz.func107 fo107 rfl rfl (refCkPar_c (fid s) ((th : Nat) : Int) ((nn : Nat) : Int) ((ln : Nat) : Int) _) ?_
 rintro _ w ⟨rfl, hb⟩
 have hs := hs.below hb
 refine ⟨_, rfl, fun a hk => ?_⟩
 refine q_v hk (w_as rfl) fun a hk => ?_
 refine c_end (x_t (wS (wS (wR ?_))))
 refine q_v hk (w_mv rfl) fun a hk => ?_
 refine q_v hk (w_ne rfl rfl (decide_eq_false (fun h => h h0))) fun a hk => ?_
 refine c_end (x_t ?_)
 refine c_F hk rfl ?_
 refine (wpIn_skip (x_t ?_))
 refine wS (wS (wR ?_))
 refine q_v hk (w_mv rfl) fun a hk => ?_
 refine q_v hk (w_len rfl Tryz.underlying42) fun a hk => ?_
 refine q_v hk (w_fa rfl fq41_3 ty3) fun a hk => ?_
 refine q_v hk (w_ld1 rfl ty3 (.blk (n := 1) (hs.mi 0 rfl) rfl)) fun a hk => ?_
 refine q_v hk (w_ne rfl rfl (decide_eq_false (by omega))) fun a hk => ?_
 refine c_end (x_t ?_)
 refine c_F hk rfl ?_
 refine (wpIn_skip (x_t ?_))
 refine wS (wS (wR ?_))
 refine q_v hk (w_mv rfl) fun a hk => ?_
 refine q_v hk (w_len rfl Tryz.underlying42) fun a hk => ?_
 refine q_v hk (w_ldA rfl ty41 (.blk (n := 4) (hs.mi 0 rfl) rfl) rfl) fun a hk => ?_
 refine q_call (caps := []) hk rfl rfl Tryz.func108 fo108 rfl rfl (rrnd_c s th ln ((nn : Nat) : Int) _ h0) ?_
 rintro _ w ⟨rfl, hb⟩
 rw [hqq]
 have hs := hs.below hb
 refine ⟨_, rfl, fun a hk => ?_⟩
 refine q_v hk (w_lt rfl rfl (decide_eq_true (by omega))) fun a hk => ?_
 refine c_end (x_t ?_)
 refine c_T hk rfl ?_
 refine wS (wR ?_)
 refine q_v hk (w_as rfl) fun a hk => ?_
 refine q_v hk (w_as rfl) fun a hk => ?_
 refine c_end (x_t ?_)
 refine (wpIn_ret (x_tr ?_))
 refine c_ret2 hk rfl rfl rfl ?_
 have hs := hs.drop
 exact ⟨rfl, hs.toBelow⟩
theorem deal_b3 (s : Bool) (th nn ln rn sc rc : Nat) (sa ra : Option Addr) (qq : Nat) (W : World) (h0 : prErr (fid s) ((th : Nat) : Int) ((nn : Nat) : Int) ((ln : Nat) : Int) = 0) (hqq : 64 * (th - 1) * (cn ((ln : Nat) : Int)) = qq) (hr : rn < qq) (hq9 : qq ≤ 100000000) : Calls Tryz.prog 27 [.agg #[.int .i64 (fid s), .int .i64 ((th : Nat) : Int), .int .i64 ((nn : Nat) : Int), .int .i64 ((ln : Nat) : Int)], .slice sa ln sc, .slice ra rn rc].toArray W fun e w => e = .returned (.tuple #[.slice none 0 0, .int .i64 7]) ∧ Below W.heap.size W w := by
 refine c_enter (args := [.agg #[.int .i64 (fid s), .int .i64 ((th : Nat) : Int), .int .i64 ((nn : Nat) : Int), .int .i64 ((ln : Nat) : Int)], .slice sa ln sc, .slice ra rn rc]) Tryz.func27 rfl rfl rfl fun a hk => ?_
 have hs := Sat.start W [] (fun _ h => by cases h)
 refine wS (wR ?_)
 refine q_box (vs := [.int .i64 (fid s), .int .i64 ((th : Nat) : Int), .int .i64 ((nn : Nat) : Int), .int .i64 ((ln : Nat) : Int)]) hk hs rfl rfl rfl rfl fun b1 w a hk hs => ?_
 refine q_v hk (w_as rfl) fun a hk => ?_
 refine q_v hk (w_as rfl) fun a hk => ?_
 refine c_end (x_t (wS (wR ?_)))
 refine q_v hk (w_ldA rfl ty41 (.blk (n := 4) (hs.mi 0 rfl) rfl) rfl) fun a hk => ?_
 refine q_v hk (w_mv rfl) fun a hk => ?_
 refine q_v hk (w_mv rfl) fun a hk => ?_
 refine q_call (caps := []) hk rfl rfl Tryz.func64 fo64 rfl rfl (poly16_b3 s th nn ln rn sc rc sa ra qq _ h0 hqq hr hq9) ?_
 rintro _ w ⟨rfl, hb⟩
 have hs := hs.below hb
 refine ⟨_, rfl, fun a hk => ?_⟩
 refine q_v hk (w_mv rfl) fun a hk => ?_
 refine q_v hk (w_ext rfl rfl) fun a hk => ?_
 refine q_v hk (w_ext rfl rfl) fun a hk => ?_
 refine q_v hk (w_as rfl) fun a hk => ?_
 refine q_v hk (w_as rfl) fun a hk => ?_
 refine c_end (x_t (wS (wS (wR ?_))))
 refine q_v hk (w_mv rfl) fun a hk => ?_
 refine q_v hk (w_ne rfl rfl (decide_eq_true (by decide))) fun a hk => ?_
 refine c_end (x_t ?_)
 refine c_T hk rfl ?_
 refine wS (wR ?_)
 refine q_v hk (w_mv rfl) fun a hk => ?_
 refine q_v hk (w_as rfl) fun a hk => ?_
 refine q_v hk (w_as rfl) fun a hk => ?_
 refine c_end (x_t ?_)
 refine (wpIn_ret (x_tr ?_))
 refine c_ret2 hk rfl rfl rfl ?_
 have hs := hs.drop
 exact ⟨rfl, hs.toBelow⟩
theorem deal_c (s : Bool) (th nn ln rn sc rc : Nat) (sa ra : Option Addr) (f fr : Nat → Nat) (W : World) (h0 : prErr (fid s) ((th : Nat) : Int) ((nn : Nat) : Int) ((ln : Nat) : Int) = 0) (HS : LstAt W 1 (.slice sa ln sc) ln (en bc f ln)) (hf : ∀ j, f j < 256) (HR : LstAt W 1 (.slice ra rn rc) rn (en bc fr rn)) (hfr : ∀ j, fr j < 256) (hr : 64 * (th - 1) * (cn ((ln : Nat) : Int)) ≤ rn) (hr9 : rn ≤ 100000000) : Calls Tryz.prog 27 [.agg #[.int .i64 (fid s), .int .i64 ((th : Nat) : Int), .int .i64 ((nn : Nat) : Int), .int .i64 ((ln : Nat) : Int)], .slice sa ln sc, .slice ra rn rc].toArray W fun e w => ∃ F : Nat → Nat → Zp s, ∃ xa xc a c, (∀ i, i < (cn ((ln : Nat) : Int)) → F i 0 = zn s (cv ln f i)) ∧ e = .returned (.tuple #[.slice a nn c, .int .i64 0]) ∧ Sat no W [row 53 5 (.slice a nn c) nn (en shc (dealS s th ln (cn ((ln : Nat) : Int)) F xa xc) nn), rowB 56 (cn ((ln : Nat) : Int)) xa xc (dealX s th F) nn] [] w := by
 obtain ⟨_, h1, h2, h3, h4, h5, h6⟩ := prErr_0 h0
 have hcn := cn_bound ln
 refine c_enter (args := [.agg #[.int .i64 (fid s), .int .i64 ((th : Nat) : Int), .int .i64 ((nn : Nat) : Int), .int .i64 ((ln : Nat) : Int)], .slice sa ln sc, .slice ra rn rc]) Tryz.func27 rfl rfl rfl fun a hk => ?_
 have hs := Sat.start W [lst 1 (.slice sa ln sc) ln (en bc (fun i => f i) ln), lst 1 (.slice ra rn rc) rn (en bc (fun i => fr i) rn)] (okrc HS (okr1 HR))
 refine wS (wR ?_)
 refine q_box (vs := [.int .i64 (fid s), .int .i64 ((th : Nat) : Int), .int .i64 ((nn : Nat) : Int), .int .i64 ((ln : Nat) : Int)]) hk hs rfl rfl rfl rfl fun b1 w a hk hs => ?_
 refine q_v hk (w_as rfl) fun a hk => ?_
 refine q_v hk (w_as rfl) fun a hk => ?_
 refine c_end (x_t (wS (wR ?_)))
 refine q_v hk (w_ldA rfl ty41 (.blk (n := 4) (hs.mi 0 rfl) rfl) rfl) fun a hk => ?_
 refine q_v hk (w_mv rfl) fun a hk => ?_
 refine q_v hk (w_mv rfl) fun a hk => ?_
 refine q_call (caps := []) hk rfl rfl Tryz.func64 fo64 rfl rfl (poly16_c s th ln rn sc rc ((nn : Nat) : Int) sa ra f fr _ h0 (hs.ri 0 rfl) hf (hs.ri 1 rfl) hfr hr hr9) ?_
 rintro _ w ⟨f2, f3, F4, a5, c6, hF0, rfl, hS⟩
 have hs := hs.call2 hS
 clear hS
 refine ⟨_, rfl, fun a hk => ?_⟩
 refine q_v hk (w_mv rfl) fun a hk => ?_
 refine q_v hk (w_ext rfl rfl) fun a hk => ?_
 refine q_v hk (w_ext rfl rfl) fun a hk => ?_
 refine q_v hk (w_as rfl) fun a hk => ?_
 refine q_v hk (w_as rfl) fun a hk => ?_
 refine c_end (x_t (wS (wS (wR ?_))))
 refine q_v hk (w_mv rfl) fun a hk => ?_
 refine q_v hk (w_ne rfl rfl (decide_eq_false (by decide))) fun a hk => ?_
 refine c_end (x_t ?_)
 refine c_F hk rfl ?_
 refine (wpIn_skip (x_t ?_))
 refine wS (wR ?_)
 refine q_v hk (w_ldA rfl ty41 (.blk (n := 4) (hs.mi 2 rfl) rfl) rfl) fun a hk => ?_
 refine q_v hk (w_mv rfl) fun a hk => ?_
 refine q_call (caps := []) hk rfl rfl Tryz.func65 fo65 rfl rfl (eval16_c s th nn ln (cn ((ln : Nat) : Int)) c6 a5 f2 f3 F4 _ (row_lst (hs.mi 0 rfl)) (hs.mi 1 rfl) (by omega) (by omega) (by omega)) ?_
 rintro _ w ⟨f7, f8, a9, c10, rfl, hS⟩
 have hs := hs.call2 hS
 clear hS
 refine ⟨_, rfl, fun a hk => ?_⟩
 refine q_v hk (w_as rfl) fun a hk => ?_
 refine q_v hk (w_as rfl) fun a hk => ?_
 refine c_end (x_t ?_)
 refine (wpIn_ret ?_)
 refine c_ret2 hk rfl rfl rfl ?_
 have hs := hs.up2
 have hs := hs.drop
 have hs := hs.up2
 have hs := hs.drop
 have hs := hs.up2
 have hs := hs.drop
 exact ⟨_, _, _, _, _, hF0, rfl, hs.fin⟩
end Go.Proofs.YtdnkkbmpefhbjaaGreatDoor
namespace Go.Proofs.YtdnkkbmpefhbjaaGreatDoor
set_option linter.all false
open Go Go.RowKit Alg
section
variable {P : Program} {G : List (Nat × Value)} {w : World} {d : Option Nat} {T : Nat} {p : String} {e : Array Edge} {g : Option (Nat × Bool)} {x y : Operand} {tx ty : TypeId} {a b t : Bool}
theorem w_bne (hx : evq G x = some (.bool a)) (hy : evq G y = some (.bool b)) (ht : P.underlying tx = some .bool) (hr : (a != b) = t) : Wq P G ⟨d, .binOp .neq tx x y ty, T, p, e, g⟩ (.bool t) w w := .of2 hx hy fun ev h1 h2 => by
  have hr' : (!(a == b)) = t := hr
  simp [execOp, h1, h2, binOp, eqGuard, run_equal_bool w tx a b ht, hr', Sem.run_pure, go_sem]
theorem w_beq (hx : evq G x = some (.bool a)) (hy : evq G y = some (.bool b)) (ht : P.underlying tx = some .bool) (hr : (a == b) = t) : Wq P G ⟨d, .binOp .eql tx x y ty, T, p, e, g⟩ (.bool t) w w := .of2 hx hy fun ev h1 h2 => by
  simp [execOp, h1, h2, binOp, eqGuard, run_equal_bool w tx a b ht, hr, Sem.run_pure, go_sem]
end
section
variable {la : Option Addr} {m lc : Nat} {S : Nat → Shr} {w : World}
theorem sat_in (HS : (shareR la m lc S).ok w) (HL : Laid w) : Sat no w [] [shareR la m lc S, laidR] w := Sat.start w _ (fun r hr => by
  simp only [List.mem_cons, List.not_mem_nil, or_false] at hr
  rcases hr with rfl | rfl
  · exact HS
  · exact HL)
theorem hr0 : HasR (shareR la m lc S) [shareR la m lc S, laidR] := .head
theorem hr1 : HasR laidR [shareR la m lc S, laidR] := HasR.nth 1 rfl
theorem sat_out {M : List Res} {w' : World} (hs : Sat no w (nores :: M) [shareR la m lc S, laidR] w') : Sat no w M [] w' := hs.drop.fin
variable (HS : (shareR la m lc S).ok w) (HL : Laid w) (HO : ShOk S m)
include HS HL HO
variable {s : Bool} (g : Good s S m) (hz : csErr S m = 0) (hm : m ≤ 255) (hn9 : (S 0).n ≤ 7)
include g hz hm hn9
theorem consN : Calls Tryz.prog 17 #[.pointer none, .slice la m lc] w fun e w' => e = .returned (.tuple #[.bool (conB s S m), .int .i64 0]) ∧ Below w.heap.size w w' :=
  (cons_m s m lc la S none [] nores w (sat_in HS HL).none hr0 hr1 HO g hz hm hn9 rfl (by decide)).mono fun _ _ h => by
    obtain ⟨r, h1, h2, h3⟩ := h
    obtain rfl := h2
    exact ⟨h1, (sat_out h3).toBelow⟩
theorem achN : Calls Tryz.prog 20 #[.pointer none, .slice la m lc] w fun e w' => ∃ b, e = .returned (.tuple #[.slice (some ⟨b, 0, none⟩) (S 0).n (S 0).n, .int .i64 0]) ∧ Sat no w [blk b (en boc (fitB s S m) (S 0).n) 4] [] w' :=
  (achunks_m s m lc la S none [] nores w (sat_in HS HL).none hr0 hr1 HO g hz hm hn9 rfl (by decide)).mono fun _ _ h => by
    obtain ⟨r, b, h1, h2, h3⟩ := h
    obtain rfl := h2
    exact ⟨b, h1, sat_out h3⟩
end
section
variable {la : Option Addr} {m lc : Nat} {S : Nat → Shr} {w : World} (HS : (shareR la m lc S).ok w) (HL : Laid w) (HO : ShOk S m) {s : Bool} (g : Good s S m) (hz : csErr S m = 0) (hm : m ≤ 8) (hn9 : (S 0).n ≤ 7)
include HS HL HO g hz hm hn9
theorem susN (hf : (S 0).T < ((m : Nat) : Int)) : Calls Tryz.prog 23 #[.pointer none, .slice la m lc] w fun e w' => ∃ a n c, e = .returned (.tuple #[.slice a n c, .int .i64 0]) ∧ Sat no w [row 3 1 (.slice a n c) n (el ic (susL s S m m))] [] w' :=
  (sus_m s m lc la S none [] nores w (sat_in HS HL).none hr0 hr1 HO g hz hm hn9 hf rfl (by decide)).mono fun _ _ h => by
    obtain ⟨r, a, n, c, h1, h2, h3⟩ := h
    obtain rfl := h2
    exact ⟨a, n, c, h1, sat_out h3⟩
end
theorem eqB_c (n lc yc : Nat) (la ya : Option Addr) (f : Nat → Bool) (W : World) (HX : LstAt W 1 (.slice la n lc) n (en boc f n)) (HY : LstAt W 1 (.slice ya n yc) n (en boc f n)) (hn : n ≤ 1000000) : Calls Tryz.prog 21 [.slice la n lc, .slice ya n yc].toArray W fun e w => e = .returned (.bool true) ∧ Below W.heap.size W w := by
 refine c_enter (args := [.slice la n lc, .slice ya n yc]) Tryz.func21 rfl rfl rfl fun a hk => ?_
 have hs := Sat.start W [lst 1 (.slice la n lc) n (en boc (fun i => f i) n), lst 1 (.slice ya n yc) n (en boc (fun i => f i) n)] (okrc HX (okr1 HY))
 refine wS (wR ?_)
 refine q_v hk (w_as rfl) fun a hk => ?_
 refine c_end (x_t (wS (wS (wR ?_))))
 refine q_v hk (w_mv rfl) fun a hk => ?_
 refine q_v hk (w_len rfl Tryz.underlying29) fun a hk => ?_
 refine q_v hk (w_mv rfl) fun a hk => ?_
 refine q_v hk (w_len rfl Tryz.underlying29) fun a hk => ?_
 refine q_v hk (w_ne rfl rfl (decide_eq_false (by omega))) fun a hk => ?_
 refine c_end (x_t ?_)
 refine c_F hk rfl ?_
 refine (wpIn_skip (x_t ?_))
 refine wS (wS (wR ?_))
 refine q_v hk (w_mv rfl) fun a hk => ?_
 refine q_v hk (w_len rfl Tryz.underlying29) fun a hk => ?_
 refine q_v hk (w_mv rfl) fun a hk => ?_
 refine c_end (x_t ?_)
 refine wpIn_block ?_
 refine c_loop (α := Nat) (fun k a w => k ≤ n ∧ Kn [] 26 [(13, .int .i64 ((k : Nat) : Int)), (12, .int .i64 ((n : Nat) : Int)), (0, .slice la n lc), (1, .slice ya n yc)] a ∧ Sat no W [] [lst 1 (.slice la n lc) n (en boc (fun i => f i) n), lst 1 (.slice ya n yc) n (en boc (fun i => f i) n)] w) (fun k => n - k) 0 ?_ ?_
 · exact ⟨(by omega), hk.k rfl (hk.k rfl (hk.k rfl (hk.k rfl hk.nil))), hs⟩
 rintro k a w ⟨hf0, hk, hs⟩
 refine wS (wR ?_)
 rcases Classical.em (((k : Nat) : Int) < ((n : Nat) : Int)) with hc1 | hc1
 ·
  refine q_v hk (w_lt rfl rfl (decide_eq_true hc1)) fun a hk => ?_
  refine c_end (x_t (wS ?_))
  refine c_T hk rfl ?_
  refine (wpIn_skip (x_t ?_))
  refine wS ?_
  refine wpIn_block ?_
  refine wS (wR ?_)
  refine q_v hk (w_mv rfl) fun a hk => ?_
  refine q_v hk (w_as rfl) fun a hk => ?_
  refine c_end (x_t (wS ?_))
  have hL := okL.cons (hs.ri 0 rfl) (okL.cons (hs.ri 1 rfl) okL.nil)
  refine d_begin _ 9 (by kernel_rfl) rfl hs hL fun w hs hL => ?_
  refine d_w 0 1 hk hL rfl (fun w hL => w_mv rfl) fun a hk => ?_
  refine d_w 1 3 hk hL rfl (fun w hL => w_mv rfl) fun a hk => ?_
  refine d_w 2 7 hk hL rfl (fun w hL => w_iaL (k := k) rfl rfl Tryz.underlying29 ty4 (hL.at 0 rfl) (by omega) (by omega)) fun a hk => ?_
  refine d_w 3 15 hk hL rfl (fun w hL => w_ld1 rfl ty4 (lstq (k := k) (hL.at 0 rfl) (by omega) (en_chunk boc_len (by omega)))) fun a hk => ?_
  refine d_w 4 31 hk hL rfl (fun w hL => w_mv rfl) fun a hk => ?_
  refine d_w 5 63 hk hL rfl (fun w hL => w_mv rfl) fun a hk => ?_
  refine d_w 6 127 hk hL rfl (fun w hL => w_iaL (k := k) rfl rfl Tryz.underlying29 ty4 (hL.at 1 rfl) (by omega) (by omega)) fun a hk => ?_
  refine d_w 7 255 hk hL rfl (fun w hL => w_ld1 rfl ty4 (lstq (k := k) (hL.at 1 rfl) (by omega) (en_chunk boc_len (by omega)))) fun a hk => ?_
  refine d_w 8 511 hk hL rfl (fun w hL => w_bne (t := false) rfl rfl Tryz.underlying4 (by simp)) fun a hk => ?_
  refine d_end (by kernel_rfl) ?_
  refine (x_t ?_)
  refine c_F hk rfl ?_
  refine (wpIn_skip (x_b (x_t ?_)))
  refine wR ?_
  refine q_v hk (w_add rfl rfl (wr64 (by omega) (by omega))) fun a hk => ?_
  refine q_v hk (w_mv rfl) fun a hk => ?_
  refine c_end (x_t ?_)
  exact ⟨k + 1, ⟨(by omega), hk.k rfl (hk.k rfl (hk.k rfl (hk.k rfl hk.nil))), hs⟩, by omega⟩
 ·
  refine q_v hk (w_lt rfl rfl (decide_eq_false hc1)) fun a hk => ?_
  refine c_end (x_t (wS ?_))
  refine c_F hk rfl ?_
  refine (wpIn_exit (x_te (x_te (x_be ?_))))
  refine (x_t ?_)
  refine wS (wR ?_)
  refine q_v hk (w_as rfl) fun a hk => ?_
  refine c_end (x_t ?_)
  refine (wpIn_ret ?_)
  refine c_ret1 hk rfl rfl ?_
  exact ⟨rfl, hs.toBelow⟩
theorem eqI_c (n lc yc : Nat) (la ya : Option Addr) (f : Nat → Int) (W : World) (HX : LstAt W 1 (.slice la n lc) n (en ic f n)) (HY : LstAt W 1 (.slice ya n yc) n (en ic f n)) (hn : n ≤ 1000000) : Calls Tryz.prog 25 [.slice la n lc, .slice ya n yc].toArray W fun e w => e = .returned (.bool true) ∧ Below W.heap.size W w := by
 refine c_enter (args := [.slice la n lc, .slice ya n yc]) Tryz.func25 rfl rfl rfl fun a hk => ?_
 have hs := Sat.start W [lst 1 (.slice la n lc) n (en ic (fun i => f i) n), lst 1 (.slice ya n yc) n (en ic (fun i => f i) n)] (okrc HX (okr1 HY))
 refine wS (wR ?_)
 refine q_v hk (w_as rfl) fun a hk => ?_
 refine c_end (x_t (wS (wS (wR ?_))))
 refine q_v hk (w_mv rfl) fun a hk => ?_
 refine q_v hk (w_len rfl Tryz.underlying34) fun a hk => ?_
 refine q_v hk (w_mv rfl) fun a hk => ?_
 refine q_v hk (w_len rfl Tryz.underlying34) fun a hk => ?_
 refine q_v hk (w_ne rfl rfl (decide_eq_false (by omega))) fun a hk => ?_
 refine c_end (x_t ?_)
 refine c_F hk rfl ?_
 refine (wpIn_skip (x_t ?_))
 refine wS (wS (wR ?_))
 refine q_v hk (w_mv rfl) fun a hk => ?_
 refine q_v hk (w_len rfl Tryz.underlying34) fun a hk => ?_
 refine q_v hk (w_mv rfl) fun a hk => ?_
 refine c_end (x_t ?_)
 refine wpIn_block ?_
 refine c_loop (α := Nat) (fun k a w => k ≤ n ∧ Kn [] 26 [(13, .int .i64 ((k : Nat) : Int)), (12, .int .i64 ((n : Nat) : Int)), (0, .slice la n lc), (1, .slice ya n yc)] a ∧ Sat no W [] [lst 1 (.slice la n lc) n (en ic (fun i => f i) n), lst 1 (.slice ya n yc) n (en ic (fun i => f i) n)] w) (fun k => n - k) 0 ?_ ?_
 · exact ⟨(by omega), hk.k rfl (hk.k rfl (hk.k rfl (hk.k rfl hk.nil))), hs⟩
 rintro k a w ⟨hf0, hk, hs⟩
 refine wS (wR ?_)
 rcases Classical.em (((k : Nat) : Int) < ((n : Nat) : Int)) with hc1 | hc1
 ·
  refine q_v hk (w_lt rfl rfl (decide_eq_true hc1)) fun a hk => ?_
  refine c_end (x_t (wS ?_))
  refine c_T hk rfl ?_
  refine (wpIn_skip (x_t ?_))
  refine wS ?_
  refine wpIn_block ?_
  refine wS (wR ?_)
  refine q_v hk (w_mv rfl) fun a hk => ?_
  refine q_v hk (w_as rfl) fun a hk => ?_
  refine c_end (x_t (wS ?_))
  have hL := okL.cons (hs.ri 0 rfl) (okL.cons (hs.ri 1 rfl) okL.nil)
  refine d_begin _ 9 (by kernel_rfl) rfl hs hL fun w hs hL => ?_
  refine d_w 0 1 hk hL rfl (fun w hL => w_mv rfl) fun a hk => ?_
  refine d_w 1 3 hk hL rfl (fun w hL => w_mv rfl) fun a hk => ?_
  refine d_w 2 7 hk hL rfl (fun w hL => w_iaL (k := k) rfl rfl Tryz.underlying34 ty3 (hL.at 0 rfl) (by omega) (by omega)) fun a hk => ?_
  refine d_w 3 15 hk hL rfl (fun w hL => w_ld1 rfl ty3 (lstq (k := k) (hL.at 0 rfl) (by omega) (en_chunk ic_len (by omega)))) fun a hk => ?_
  refine d_w 4 31 hk hL rfl (fun w hL => w_mv rfl) fun a hk => ?_
  refine d_w 5 63 hk hL rfl (fun w hL => w_mv rfl) fun a hk => ?_
  refine d_w 6 127 hk hL rfl (fun w hL => w_iaL (k := k) rfl rfl Tryz.underlying34 ty3 (hL.at 1 rfl) (by omega) (by omega)) fun a hk => ?_
  refine d_w 7 255 hk hL rfl (fun w hL => w_ld1 rfl ty3 (lstq (k := k) (hL.at 1 rfl) (by omega) (en_chunk ic_len (by omega)))) fun a hk => ?_
  refine d_w 8 511 hk hL rfl (fun w hL => w_ne (t := false) rfl rfl (by simp)) fun a hk => ?_
  refine d_end (by kernel_rfl) ?_
  refine (x_t ?_)
  refine c_F hk rfl ?_
  refine (wpIn_skip (x_b (x_t ?_)))
  refine wR ?_
  refine q_v hk (w_add rfl rfl (wr64 (by omega) (by omega))) fun a hk => ?_
  refine q_v hk (w_mv rfl) fun a hk => ?_
  refine c_end (x_t ?_)
  exact ⟨k + 1, ⟨(by omega), hk.k rfl (hk.k rfl (hk.k rfl (hk.k rfl hk.nil))), hs⟩, by omega⟩
 ·
  refine q_v hk (w_lt rfl rfl (decide_eq_false hc1)) fun a hk => ?_
  refine c_end (x_t (wS ?_))
  refine c_F hk rfl ?_
  refine (wpIn_exit (x_te (x_te (x_be ?_))))
  refine (x_t ?_)
  refine wS (wR ?_)
  refine q_v hk (w_as rfl) fun a hk => ?_
  refine c_end (x_t ?_)
  refine (wpIn_ret ?_)
  refine c_ret1 hk rfl rfl ?_
  exact ⟨rfl, hs.toBelow⟩
end Go.Proofs.YtdnkkbmpefhbjaaGreatDoor
namespace Go.Proofs.YtdnkkbmpefhbjaaGreatDoor
set_option linter.all false
open Go Go.RowKit Alg
theorem zn_lit {v : Nat} (hv : v < 1000) : zv (zn false v) = v := Nat.mod_eq_of_lt (Nat.lt_trans hv (pr_1000 false))
theorem rform_s (v : Nat) (hv : v < 1000) (w : World) : Calls Tryz.prog 43 #[vec (pr false), vec v] w fun e w' => e = .returned (vec (mq (zn false v))) ∧ Below w.heap.size w w' := by
  exact rform_z w (zn_lit hv).symm
def pk3 {α : Type} (y0 y1 y2 : α) (i : Nat) : α := if i = 0 then y0 else if i = 1 then y1 else y2
/-- Three shares of the examples. -/
def sh3 (y0 y1 y2 a0 a1 a2 : Nat) (i : Nat) : Shr := ⟨1, 2, (i : Int) + 1, 1, 1, fun _ => mq (zn false (pk3 y0 y1 y2 i)), some ⟨pk3 a0 a1 a2 i, 0, none⟩, 1⟩
section
variable {y0 y1 y2 a0 a1 a2 : Nat}
theorem sh3_good : Good false (sh3 y0 y1 y2 a0 a1 a2) 3 where
  m0 := by decide
  F _ _ := rfl
  T _ _ := rfl
  Lq _ _ := rfl
  n _ _ := rfl
  idx i hi := by show 1 ≤ (i : Int) + 1 ∧ (i : Int) + 1 ≤ 255; omega
  app i k h _ := by show (i : Int) + 1 ≠ (k : Int) + 1; omega
  X _ _ _ _ := mq_lt _
  t1 := by show (1 : Int) ≤ 2; decide
  tm := by show (2 : Int) ≤ 3; decide
  l0 := by show (0 : Int) ≤ 1; decide
  l1 := by show (1 : Int) ≤ 65535; decide
  cn := by show 1 = cn 1; decide
theorem sh3_err : csErr (sh3 y0 y1 y2 a0 a1 a2) 3 = 0 := sh3_good.err (by show (2 : Int) ≤ 255; decide)
theorem sh3_ok : ShOk (sh3 y0 y1 y2 a0 a1 a2) 3 := ⟨by decide, fun _ _ => by show (1 : Nat) ≤ 100000000; decide, fun _ _ _ _ => mq_lt4 _⟩
theorem sh3_clz (ch i : Nat) : clz false (sh3 y0 y1 y2 a0 a1 a2) ch i = zn false (pk3 y0 y1 y2 i) := mz_of _
theorem sh3_pt (i : Nat) : pt false (vI (sh3 y0 y1 y2 a0 a1 a2)) i = zn false (i + 1) := rfl
/-- The polynomial 5 + 3 X. -/
def p53 (k : Nat) : Zp false := if k = 0 then zn false 5 else zn false 3
theorem p53_0 : Sg p53 (pw (zn false 1)) 2 = zn false 8 := by decide +kernel
theorem p53_1 : Sg p53 (pw (zn false 2)) 2 = zn false 11 := by decide +kernel
theorem p53_2 : Sg p53 (pw (zn false 3)) 2 = zn false 14 := by decide +kernel
theorem n14_15 : zn false 14 ≠ zn false 15 := by decide +kernel
theorem aliveA : conB false (sh3 8 11 14 a0 a1 a2) 3 = true := by
  refine (allB_iff _ _).2 fun k hk => ?_
  refine fits_of (c := p53) (th := 2) sh3_good.fap (by decide) fun j hj => ?_
  rw [sh3_clz, sh3_pt]
  match j, hj with
  | 0, _ => exact p53_0
  | 1, _ => exact p53_1
  | 2, _ => exact p53_2
theorem aliveB' : fitB false (sh3 8 11 15 a0 a1 a2) 3 0 = false := by
  cases h : fitB false (sh3 8 11 15 a0 a1 a2) 3 0 with
  | false => rfl
  | true =>
    exfalso
    have g := sh3_good (y0 := 8) (y1 := 11) (y2 := 15) (a0 := a0) (a1 := a1) (a2 := a2)
    have h2 := (fits_iff (th := 2) g.fap (by decide)).1 h
    have ha : Fap (pt false (vI (sh3 8 11 15 a0 a1 a2))) 2 := g.fap.le (by decide)
    have e : ∀ k, k < 2 → rip (pt false (vI (sh3 8 11 15 a0 a1 a2))) (clz false (sh3 8 11 15 a0 a1 a2) 0) 2 2 k = p53 k := fun k hk => same_val ha (fun j hj => by
      rw [rip_val ha hj, sh3_clz, sh3_pt]
      match j, hj with
      | 0, _ => exact p53_0.symm
      | 1, _ => exact p53_1.symm) hk
    have h3 := h2 2 (by decide)
    have h4 : Sg (rip (pt false (vI (sh3 8 11 15 a0 a1 a2))) (clz false (sh3 8 11 15 a0 a1 a2) 0) 2 2) (pw (pt false (vI (sh3 8 11 15 a0 a1 a2)) 2)) 2 = clz false (sh3 8 11 15 a0 a1 a2) 0 2 := h3
    rw [Sg_congr e, sh3_clz, sh3_pt] at h4
    exact n14_15 (p53_2.symm.trans h4)
theorem aliveB : conB false (sh3 8 11 15 a0 a1 a2) 3 = false := by
  refine Bool.eq_false_iff.2 fun h => ?_
  have h0 := (allB_iff _ _).1 h 0 (by show (0 : Nat) < 1; decide)
  rw [aliveB'] at h0
  cases h0
theorem conB_few {s : Bool} {S : Nat → Shr} {m : Nat} (h : m ≤ thN S) : conB s S m = true := (allB_iff _ _).2 fun k _ => belZ_iff.2 fun j h1 h2 => by omega
theorem susL_all {s : Bool} {S : Nat → Shr} {m : Nat} : ∀ k, (∀ j, j < k → conB s (wo S j) (j + (m - (j + 1))) = true) → susL s S m k = (List.range k).map fun i => ((i : Nat) : Int)
  | 0, _ => rfl
  | k + 1, h => by
    show (if _ then susL s S m k ++ [(k : Int)] else _) = _
    rw [if_pos (h k (Nat.lt_succ_self k)), susL_all k fun j hj => h j (by omega), List.range_succ, List.map_append]
    rfl
theorem aliveS : susL false (sh3 8 11 15 a0 a1 a2) 3 3 = (List.range 3).map fun i => ((i : Nat) : Int) := by
  have h : ∀ k, k < 3 → conB false (wo (sh3 8 11 15 a0 a1 a2) k) (k + (3 - (k + 1))) = true := fun k hk => conB_few (by
    have e : thN (wo (sh3 8 11 15 a0 a1 a2) k) = 2 := by unfold thN wo; split <;> rfl
    rw [e]; omega)
  exact susL_all 3 fun k hk => h k (by omega)
theorem sh3_shareR {b TB TP : Nat} {w : World} (h : (blk b (en shc (sh3 y0 y1 y2 a0 a1 a2) 3) TB).ok w) (h0 : (blk a0 (vq (mq (zn false y0))) TP).ok w) (h1 : (blk a1 (vq (mq (zn false y1))) TP).ok w) (h2 : (blk a2 (vq (mq (zn false y2))) TP).ok w) : (shareR (some ⟨b, 0, none⟩) 3 3 (sh3 y0 y1 y2 a0 a1 a2)).ok w := by
  intro x hx
  simp only [List.mem_cons, List.not_mem_nil, or_false] at hx
  rcases hx with rfl | rfl
  · exact blk_lst h (en_len shc_len) (Nat.le_refl _)
  · intro y hy
    obtain ⟨k, hk, rfl⟩ := List.mem_map.1 hy
    have hk' := List.mem_range.1 hk
    match k, hk' with
    | 0, _ => exact blk_lst h0 rfl (Nat.le_refl _)
    | 1, _ => exact blk_lst h1 rfl (Nat.le_refl _)
    | 2, _ => exact blk_lst h2 rfl (Nat.le_refl _)
end
theorem sh3_cells {y0 y1 y2 a0 a1 a2 : Nat} : en shc (sh3 y0 y1 y2 a0 a1 a2) 3 = [.int .i64 1, .int .i64 2, .int .i64 1, .int .i64 1, .slice (some ⟨a0, 0, none⟩) 1 1, .int .i64 1, .int .i64 2, .int .i64 2, .int .i64 1, .slice (some ⟨a1, 0, none⟩) 1 1, .int .i64 1, .int .i64 2, .int .i64 3, .int .i64 1, .slice (some ⟨a2, 0, none⟩) 1 1] := rfl
section
variable {b a0 a1 a2 y0 y1 y2 TB TP : Nat} {w : World}
theorem sh3_in (h : (blk b [.int .i64 1, .int .i64 2, .int .i64 1, .int .i64 1, .slice (some ⟨a0, 0, none⟩) 1 1, .int .i64 1, .int .i64 2, .int .i64 2, .int .i64 1, .slice (some ⟨a1, 0, none⟩) 1 1, .int .i64 1, .int .i64 2, .int .i64 3, .int .i64 1, .slice (some ⟨a2, 0, none⟩) 1 1] TB).ok w)
    (h0 : (blk a0 (vq (mq (zn false y0))) TP).ok w) (h1 : (blk a1 (vq (mq (zn false y1))) TP).ok w) (h2 : (blk a2 (vq (mq (zn false y2))) TP).ok w) : (shareR (some ⟨b, 0, none⟩) 3 3 (sh3 y0 y1 y2 a0 a1 a2)).ok w := sh3_shareR (TB := TB) (by rw [sh3_cells]; exact h) h0 h1 h2
theorem alA (HS : (shareR (some ⟨b, 0, none⟩) 3 3 (sh3 8 11 14 a0 a1 a2)).ok w) (HL : Laid w) : Calls Tryz.prog 17 #[.pointer none, .slice (some ⟨b, 0, none⟩) 3 3] w fun e w' => e = .returned (.tuple #[.bool true, .int .i64 0]) ∧ Below w.heap.size w w' := by
  have h := consN HS HL sh3_ok sh3_good sh3_err (by decide) (by show (1 : Nat) ≤ 7; decide)
  rw [aliveA] at h
  exact h
theorem alB (HS : (shareR (some ⟨b, 0, none⟩) 3 3 (sh3 8 11 15 a0 a1 a2)).ok w) (HL : Laid w) : Calls Tryz.prog 17 #[.pointer none, .slice (some ⟨b, 0, none⟩) 3 3] w fun e w' => e = .returned (.tuple #[.bool false, .int .i64 0]) ∧ Below w.heap.size w w' := by
  have h := consN HS HL sh3_ok sh3_good sh3_err (by decide) (by show (1 : Nat) ≤ 7; decide)
  rw [aliveB] at h
  exact h
theorem alC (HS : (shareR (some ⟨b, 0, none⟩) 3 3 (sh3 8 11 15 a0 a1 a2)).ok w) (HL : Laid w) : Calls Tryz.prog 20 #[.pointer none, .slice (some ⟨b, 0, none⟩) 3 3] w fun e w' => ∃ b, e = .returned (.tuple #[.slice (some ⟨b, 0, none⟩) 1 1, .int .i64 0]) ∧ Sat no w [blk b (en boc (fun _ => false) 1) 4] [] w' := by
  have h := achN HS HL sh3_ok sh3_good sh3_err (by decide) (by show (1 : Nat) ≤ 7; decide)
  have e : en boc (fitB false (sh3 8 11 15 a0 a1 a2) 3) 1 = en boc (fun _ => false) 1 := en_congr fun i hi => by rw [Nat.lt_one_iff.1 hi, aliveB']
  refine h.mono fun _ _ h => ?_
  obtain ⟨b', h1, h2⟩ := h
  refine ⟨b', h1, ?_⟩
  rw [← e]
  exact h2
theorem alS (HS : (shareR (some ⟨b, 0, none⟩) 3 3 (sh3 8 11 15 a0 a1 a2)).ok w) (HL : Laid w) : Calls Tryz.prog 23 #[.pointer none, .slice (some ⟨b, 0, none⟩) 3 3] w fun e w' => ∃ a c, e = .returned (.tuple #[.slice a 3 c, .int .i64 0]) ∧ Sat no w [row 3 1 (.slice a 3 c) 3 (en ic (fun i => ((i : Nat) : Int)) 3)] [] w' := by
  have h := susN HS HL sh3_ok sh3_good sh3_err (by decide) (by show (1 : Nat) ≤ 7; decide) (by show (2 : Int) < 3; decide)
  refine h.mono fun _ _ h => ?_
  obtain ⟨a, n, c, h1, h2⟩ := h
  rw [aliveS, ← en_el] at h2
  have hl := (row_lst (h2.okM _ (.head _))).len
  rw [en_len ic_len] at hl
  obtain rfl : n = 3 := by omega
  exact ⟨a, c, h1, h2⟩
theorem lit3 {a : Option Addr} {c : Nat} (h : LstAt w 1 (.slice a 3 c) 3 [.int .i64 0, .int .i64 1, .int .i64 2]) : LstAt w 1 (.slice a 3 c) 3 (en ic (fun i => ((i : Nat) : Int)) 3) := h
theorem lit1 {a : Option Addr} {c : Nat} (h : LstAt w 1 (.slice a 1 c) 1 [.bool false]) : LstAt w 1 (.slice a 1 c) 1 (en boc (fun _ => false) 1) := h
end
theorem alive18_s (x : Int) (v pb : Nat) (W : World) (HP : (blk pb (vq (pr false)) 47).ok W) (hv : v < 1000) : Calls Tryz.prog 54 [.int .i64 x, .int .u64 ((v : Nat) : Int), .pointer (some ⟨pb, 0, none⟩)].toArray W fun e w => ∃ b, e = .returned (.agg #[.int .i64 1, .int .i64 2, .int .i64 x, .int .i64 1, .slice (some ⟨b, 0, none⟩) 1 1]) ∧ Sat no W [blk b (vq (mq (zn false v))) 56] [] w := by
 refine c_enter (args := [.int .i64 x, .int .u64 ((v : Nat) : Int), .pointer (some ⟨pb, 0, none⟩)]) Tryz.func54 rfl rfl rfl fun a hk => ?_
 have hs := Sat.start W [blk pb [.int .u64 ((dg 0 (pr false) : Nat) : Int), .int .u64 ((dg 1 (pr false) : Nat) : Int), .int .u64 ((dg 2 (pr false) : Nat) : Int), .int .u64 ((dg 3 (pr false) : Nat) : Int)] 47] (okr1 HP)
 refine wS (wR ?_)
 refine q_alc (vs := [.int .i64 0, .int .i64 0, .int .i64 0, .int .i64 0, .slice none 0 0]) hk hs zr53 rfl rfl rfl fun b1 w a hk hs => ?_
 refine c_end (x_t (wS (wR ?_)))
 refine q_v hk (w_mv rfl) fun a hk => ?_
 refine q_v hk (w_ldv (z := pr false) rfl ty47 (.blk (n := 4) (hs.ri 0 rfl) rfl)) fun a hk => ?_
 refine q_v hk (w_mv rfl) fun a hk => ?_
 refine q_v hk (w_bldv1 (k := v) rfl (by omega) (by unfold Go.Proofs.YtdnkkbmpefhbjaaGreatDoor.W; omega) Tryz.underlying47 ty46 zr47) fun a hk => ?_
 refine q_call (caps := []) hk rfl rfl Tryz.func43 fo43 rfl rfl (rform_s v hv _) ?_
 rintro _ w ⟨rfl, hb⟩
 have hs := hs.below hb
 refine ⟨_, rfl, fun a hk => ?_⟩
 refine q_bsl (els := [.tmp 10]) (cs := [.int .u64 ((dg 0 (mq (zn false v)) : Nat) : Int), .int .u64 ((dg 1 (mq (zn false v)) : Nat) : Int), .int .u64 ((dg 2 (mq (zn false v)) : Nat) : Int), .int .u64 ((dg 3 (mq (zn false v)) : Nat) : Int)]) hk hs rfl Tryz.underlying51 ty56 zr56 rfl rfl rfl rfl rfl rfl rfl fun b2 w a hk hs => ?_
 refine q_v hk (w_bld rfl fl53 zr53 rfl rfl) fun a hk => ?_
 have hs := hs.up1
 refine q_sto (o := 0) (cs := [.int .i64 1, .int .i64 2, .int .i64 x, .int .i64 1, .slice (some ⟨b2, 0, none⟩) 1 1]) (vs' := [.int .i64 1, .int .i64 2, .int .i64 x, .int .i64 1, .slice (some ⟨b2, 0, none⟩) 1 1]) hk hs rfl rfl rfl ty53 rfl rfl rfl rfl rfl rfl fun w hs => ?_
 refine c_end (x_t ?_)
 refine (wpIn_ret ?_)
 refine c_retG (vs := [.agg #[.int .i64 1, .int .i64 2, .int .i64 x, .int .i64 1, .slice (some ⟨b2, 0, none⟩) 1 1]]) hk rfl ⟨⟨_, rfl, lv_A ty53 (.blk (n := 5) (hs.mi 0 rfl) rfl) rfl⟩, trivial⟩ rfl ?_
 have hs := hs.drop
 exact ⟨_, rfl, hs.fin⟩
theorem alive18_c  (W : World) (HL : Laid W) : Calls Tryz.prog 16 [].toArray W fun e w => e = .returned (.bool true) ∧ Below W.heap.size W w := by
 refine c_enter (args := []) Tryz.func16 rfl rfl rfl fun a hk => ?_
 have hs := Sat.start W [] (fun _ h => by cases h)
 refine wS (wR ?_)
 refine q_v hk (w_as rfl) fun a hk => ?_
 refine c_end (x_t (wS (wR ?_)))
 refine q_call (caps := []) hk rfl rfl Tryz.func28 fo28 rfl rfl (rmodulus_z (s := false) rfl _) ?_
 rintro _ w ⟨rfl, hb⟩
 have hs := hs.below hb
 refine ⟨_, rfl, fun a hk => ?_⟩
 refine q_alc (vs := [.int .u64 0, .int .u64 0, .int .u64 0, .int .u64 0]) hk hs zr47 rfl rfl rfl fun b1 w a hk hs => ?_
 refine q_sto (o := 0) (cs := [.int .u64 ((dg 0 (pr false) : Nat) : Int), .int .u64 ((dg 1 (pr false) : Nat) : Int), .int .u64 ((dg 2 (pr false) : Nat) : Int), .int .u64 ((dg 3 (pr false) : Nat) : Int)]) (vs' := [.int .u64 ((dg 0 (pr false) : Nat) : Int), .int .u64 ((dg 1 (pr false) : Nat) : Int), .int .u64 ((dg 2 (pr false) : Nat) : Int), .int .u64 ((dg 3 (pr false) : Nat) : Int)]) hk hs rfl rfl rfl ty47 rfl rfl rfl rfl rfl rfl fun w hs => ?_
 refine c_end (x_t (wS (wR ?_)))
 refine q_v hk (w_mkf (frees := [.tmp 1]) rfl) fun a hk => ?_
 refine q_v hk (w_as rfl) fun a hk => ?_
 refine c_end (x_t (wS (wR ?_)))
 refine q_v hk (w_mv rfl) fun a hk => ?_
 refine q_call (caps := [.pointer (some ⟨b1, 0, none⟩)]) hk rfl rfl Tryz.func54 fo54 rfl rfl (alive18_s 1 8 b1 _ (hs.mi 0 rfl) (by decide)) ?_
 rintro _ w ⟨b2, rfl, hS⟩
 have hs := hs.call1 hS
 clear hS
 refine ⟨_, rfl, fun a hk => ?_⟩
 refine q_v hk (w_mv rfl) fun a hk => ?_
 refine q_call (caps := [.pointer (some ⟨b1, 0, none⟩)]) hk rfl rfl Tryz.func54 fo54 rfl rfl (alive18_s 2 11 b1 _ (hs.mi 1 rfl) (by decide)) ?_
 rintro _ w ⟨b3, rfl, hS⟩
 have hs := hs.call1 hS
 clear hS
 refine ⟨_, rfl, fun a hk => ?_⟩
 refine q_v hk (w_mv rfl) fun a hk => ?_
 refine q_call (caps := [.pointer (some ⟨b1, 0, none⟩)]) hk rfl rfl Tryz.func54 fo54 rfl rfl (alive18_s 3 14 b1 _ (hs.mi 2 rfl) (by decide)) ?_
 rintro _ w ⟨b4, rfl, hS⟩
 have hs := hs.call1 hS
 clear hS
 refine ⟨_, rfl, fun a hk => ?_⟩
 refine q_bsl (els := [.tmp 16, .tmp 18, .tmp 20]) (cs := [.int .i64 1, .int .i64 2, .int .i64 1, .int .i64 1, .slice (some ⟨b2, 0, none⟩) 1 1, .int .i64 1, .int .i64 2, .int .i64 2, .int .i64 1, .slice (some ⟨b3, 0, none⟩) 1 1, .int .i64 1, .int .i64 2, .int .i64 3, .int .i64 1, .slice (some ⟨b4, 0, none⟩) 1 1]) hk hs rfl Tryz.underlying22 ty53 zr53 rfl rfl rfl rfl rfl rfl rfl fun b5 w a hk hs => ?_
 refine q_call (caps := []) hk rfl rfl Tryz.func17 fo17 rfl rfl (alA (sh3_in (y0 := 8) (y1 := 11) (y2 := 14) (hs.mi 0 rfl) (hs.mi 3 rfl) (hs.mi 2 rfl) (hs.mi 1 rfl)) (HL.step hs.toBelow)) ?_
 rintro _ w ⟨rfl, hb⟩
 have hs := hs.below hb
 refine ⟨_, rfl, fun a hk => ?_⟩
 refine q_v hk (w_mv rfl) fun a hk => ?_
 refine q_v hk (w_ext rfl rfl) fun a hk => ?_
 refine q_v hk (w_ext rfl rfl) fun a hk => ?_
 refine q_v hk (w_as rfl) fun a hk => ?_
 refine q_v hk (w_as rfl) fun a hk => ?_
 refine c_end (x_t (wS (wR ?_)))
 refine q_v hk (w_mv rfl) fun a hk => ?_
 refine q_call (caps := [.pointer (some ⟨b1, 0, none⟩)]) hk rfl rfl Tryz.func54 fo54 rfl rfl (alive18_s 1 8 b1 _ (hs.mi 4 rfl) (by decide)) ?_
 rintro _ w ⟨b6, rfl, hS⟩
 have hs := hs.call1 hS
 clear hS
 refine ⟨_, rfl, fun a hk => ?_⟩
 refine q_v hk (w_mv rfl) fun a hk => ?_
 refine q_call (caps := [.pointer (some ⟨b1, 0, none⟩)]) hk rfl rfl Tryz.func54 fo54 rfl rfl (alive18_s 2 11 b1 _ (hs.mi 5 rfl) (by decide)) ?_
 rintro _ w ⟨b7, rfl, hS⟩
 have hs := hs.call1 hS
 clear hS
 refine ⟨_, rfl, fun a hk => ?_⟩
 refine q_v hk (w_mv rfl) fun a hk => ?_
 refine q_call (caps := [.pointer (some ⟨b1, 0, none⟩)]) hk rfl rfl Tryz.func54 fo54 rfl rfl (alive18_s 3 15 b1 _ (hs.mi 6 rfl) (by decide)) ?_
 rintro _ w ⟨b8, rfl, hS⟩
 have hs := hs.call1 hS
 clear hS
 refine ⟨_, rfl, fun a hk => ?_⟩
 refine q_bsl (els := [.tmp 26, .tmp 28, .tmp 30]) (cs := [.int .i64 1, .int .i64 2, .int .i64 1, .int .i64 1, .slice (some ⟨b6, 0, none⟩) 1 1, .int .i64 1, .int .i64 2, .int .i64 2, .int .i64 1, .slice (some ⟨b7, 0, none⟩) 1 1, .int .i64 1, .int .i64 2, .int .i64 3, .int .i64 1, .slice (some ⟨b8, 0, none⟩) 1 1]) hk hs rfl Tryz.underlying22 ty53 zr53 rfl rfl rfl rfl rfl rfl rfl fun b9 w a hk hs => ?_
 refine q_v hk (w_as rfl) fun a hk => ?_
 refine c_end (x_t (wS (wR ?_)))
 refine q_v hk (w_mv rfl) fun a hk => ?_
 refine q_call (caps := []) hk rfl rfl Tryz.func17 fo17 rfl rfl (alB (sh3_in (y0 := 8) (y1 := 11) (y2 := 15) (hs.mi 0 rfl) (hs.mi 3 rfl) (hs.mi 2 rfl) (hs.mi 1 rfl)) (HL.step hs.toBelow)) ?_
 rintro _ w ⟨rfl, hb⟩
 have hs := hs.below hb
 refine ⟨_, rfl, fun a hk => ?_⟩
 refine q_v hk (w_mv rfl) fun a hk => ?_
 refine q_v hk (w_ext rfl rfl) fun a hk => ?_
 refine q_v hk (w_ext rfl rfl) fun a hk => ?_
 refine q_v hk (w_as rfl) fun a hk => ?_
 refine q_v hk (w_as rfl) fun a hk => ?_
 refine c_end (x_t (wS (wR ?_)))
 refine q_v hk (w_mv rfl) fun a hk => ?_
 refine q_call (caps := []) hk rfl rfl Tryz.func23 fo23 rfl rfl (alS (sh3_in (y0 := 8) (y1 := 11) (y2 := 15) (hs.mi 0 rfl) (hs.mi 3 rfl) (hs.mi 2 rfl) (hs.mi 1 rfl)) (HL.step hs.toBelow)) ?_
 rintro _ w ⟨a10, c11, rfl, hS⟩
 have hs := hs.call1 hS
 clear hS
 refine ⟨_, rfl, fun a hk => ?_⟩
 refine q_v hk (w_mv rfl) fun a hk => ?_
 refine q_v hk (w_ext rfl rfl) fun a hk => ?_
 refine q_v hk (w_ext rfl rfl) fun a hk => ?_
 refine q_v hk (w_as rfl) fun a hk => ?_
 refine q_v hk (w_as rfl) fun a hk => ?_
 refine c_end (x_t (wS (wR ?_)))
 refine q_v hk (w_mv rfl) fun a hk => ?_
 refine q_call (caps := []) hk rfl rfl Tryz.func20 fo20 rfl rfl (alC (sh3_in (y0 := 8) (y1 := 11) (y2 := 15) (hs.mi 1 rfl) (hs.mi 4 rfl) (hs.mi 3 rfl) (hs.mi 2 rfl)) (HL.step hs.toBelow)) ?_
 rintro _ w ⟨b12, rfl, hS⟩
 have hs := hs.call1 hS
 clear hS
 refine ⟨_, rfl, fun a hk => ?_⟩
 refine q_v hk (w_mv rfl) fun a hk => ?_
 refine q_v hk (w_ext rfl rfl) fun a hk => ?_
 refine q_v hk (w_ext rfl rfl) fun a hk => ?_
 refine q_v hk (w_as rfl) fun a hk => ?_
 refine q_v hk (w_as rfl) fun a hk => ?_
 refine c_end (x_t (wS (wR ?_)))
 refine q_v hk (w_mv rfl) fun a hk => ?_
 refine q_v hk (w_mv rfl) fun a hk => ?_
 refine q_v hk (w_mv rfl) fun a hk => ?_
 refine q_v hk (w_eq rfl rfl (decide_eq_true (by decide))) fun a hk => ?_
 refine q_v hk (w_pickT rfl rfl) fun a hk => ?_
 refine q_v hk (w_mv rfl) fun a hk => ?_
 refine q_v hk (w_mv rfl) fun a hk => ?_
 refine q_v hk (w_not rfl) fun a hk => ?_
 refine q_v hk (w_pickT rfl rfl) fun a hk => ?_
 refine q_v hk (w_mv rfl) fun a hk => ?_
 refine q_v hk (w_mv rfl) fun a hk => ?_
 refine q_v hk (w_eq rfl rfl (decide_eq_true (by decide))) fun a hk => ?_
 refine q_v hk (w_pickT rfl rfl) fun a hk => ?_
 refine q_v hk (w_mv rfl) fun a hk => ?_
 refine q_v hk (w_mv rfl) fun a hk => ?_
 refine q_v hk (w_eq rfl rfl (decide_eq_true (by decide))) fun a hk => ?_
 refine q_v hk (w_pickT rfl rfl) fun a hk => ?_
 refine q_v hk (w_mv rfl) fun a hk => ?_
 refine q_v hk (w_mv rfl) fun a hk => ?_
 refine q_bsl (els := [.const (.int .i64 0), .const (.int .i64 1), .const (.int .i64 2)]) (cs := [.int .i64 0, .int .i64 1, .int .i64 2]) hk hs rfl Tryz.underlying34 ty3 zr3 rfl rfl rfl rfl rfl rfl rfl fun b13 w a hk hs => ?_
 refine q_call (caps := []) hk rfl rfl Tryz.func25 fo25 rfl rfl (eqI_c 3 c11 3 a10 (some ⟨b13, 0, none⟩) (fun i => ((i : Nat) : Int)) _ (row_lst (hs.mi 2 rfl)) (lit3 (blk_lst (hs.mi 0 rfl) rfl (Nat.le_refl _))) (by decide)) ?_
 rintro _ w ⟨rfl, hb⟩
 have hs := hs.below hb
 refine ⟨_, rfl, fun a hk => ?_⟩
 refine q_v hk (w_pickT rfl rfl) fun a hk => ?_
 refine q_v hk (w_mv rfl) fun a hk => ?_
 refine q_v hk (w_mv rfl) fun a hk => ?_
 refine q_v hk (w_eq rfl rfl (decide_eq_true (by decide))) fun a hk => ?_
 refine q_v hk (w_pickT rfl rfl) fun a hk => ?_
 refine q_v hk (w_mv rfl) fun a hk => ?_
 refine q_v hk (w_mv rfl) fun a hk => ?_
 refine q_bsl (els := [.const (.bool false)]) (cs := [.bool false]) hk hs rfl Tryz.underlying29 ty4 zr4 rfl rfl rfl rfl rfl rfl rfl fun b14 w a hk hs => ?_
 refine q_call (caps := []) hk rfl rfl Tryz.func21 fo21 rfl rfl (eqB_c 1 1 1 (some ⟨b12, 0, none⟩) (some ⟨b14, 0, none⟩) (fun _ => false) _ (blk_lst (hs.mi 2 rfl) (en_len boc_len) (Nat.le_refl _)) (lit1 (blk_lst (hs.mi 0 rfl) rfl (Nat.le_refl _))) (by decide)) ?_
 rintro _ w ⟨rfl, hb⟩
 have hs := hs.below hb
 refine ⟨_, rfl, fun a hk => ?_⟩
 refine q_v hk (w_pickT rfl rfl) fun a hk => ?_
 refine q_v hk (w_as rfl) fun a hk => ?_
 refine c_end (x_t ?_)
 refine (wpIn_ret ?_)
 refine c_ret1 hk rfl rfl ?_
 exact ⟨rfl, hs.toBelow⟩
end Go.Proofs.YtdnkkbmpefhbjaaGreatDoor
namespace Go.Proofs.YtdnkkbmpefhbjaaGreatDoor
set_option linter.all false
open Go Go.RowKit Alg
end Go.Proofs.YtdnkkbmpefhbjaaGreatDoor
namespace Go.Proofs.YtdnkkbmpefhbjaaGreatDoor
set_option linter.all false
open Go Go.RowKit Alg
/-! A share whose cells lie in a block of their own. -/
/-! The examples. -/
end Go.Proofs.YtdnkkbmpefhbjaaGreatDoor
namespace Go.Proofs.YtdnkkbmpefhbjaaGreatDoor
set_option linter.all false
open Go Go.RowKit Alg
/-- The shares lie on the polynomials F. -/
def OnP (s : Bool) (S : Nat → Shr) (m th : Nat) (F : Nat → Nat → Zp s) : Prop := ∀ j, j < m → ∀ ch, ch < (S 0).n → clz s S ch j = Sg (F ch) (pw (pt s (vI S) j)) th
section
variable {s : Bool} {S : Nat → Shr} {m m' th : Nat} {F : Nat → Nat → Zp s} {σ : Nat → Nat}
theorem Good.sel (g : Good s S m) (h0 : 0 < m') (hσ : ∀ j, j < m' → σ j < m) (hi : ∀ j k, j < k → k < m' → σ j ≠ σ k) (ht : (S 0).T ≤ (m' : Int)) : Good s (fun j => S (σ j)) m' := by
  have e0 := hσ 0 h0
  refine ⟨h0, fun j hj => g.F _ (hσ j hj), fun j hj => (g.T _ (hσ j hj)).trans (g.T _ e0).symm, fun j hj => (g.Lq _ (hσ j hj)).trans (g.Lq _ e0).symm, fun j hj => (g.n _ (hσ j hj)).trans (g.n _ e0).symm, fun j hj => g.idx _ (hσ j hj), fun j k hjk hk => ?_, fun j hj i hi => g.X _ (hσ j hj) i ?_, ?_, ?_, ?_, ?_, ?_⟩
  · rcases Nat.lt_or_gt_of_ne (hi j k hjk hk) with h | h
    · exact g.app _ _ h (hσ k hk)
    · exact (g.app _ _ h (hσ j (by omega))).symm
  · rw [← g.n _ e0]; exact hi
  · rw [g.T _ e0]; exact g.t1
  · rw [g.T _ e0]; exact ht
  · rw [g.Lq _ e0]; exact g.l0
  · rw [g.Lq _ e0]; exact g.l1
  · show (S (σ 0)).n = Go.Proofs.YtdnkkbmpefhbjaaGreatDoor.cn (S (σ 0)).L; rw [g.n _ e0, g.Lq _ e0]; exact g.cn
theorem OnP.sel (h : OnP s S m th F) (g : Good s S m) (h0 : 0 < m') (hσ : ∀ j, j < m' → σ j < m) : OnP s (fun j => S (σ j)) m' th F := fun j hj ch hc => h (σ j) (hσ j hj) ch (by rw [← g.n _ (hσ 0 h0)]; exact hc)
theorem OnP.itp (h : OnP s S m th F) (g : Good s S m) (ht : th ≤ m) {ch k : Nat} (hc : ch < (S 0).n) (hk : k < th) : itp (pt s (vI S)) (clz s S ch) th th k = F ch k := itp_of (g.fap.le ht) (fun j hj => (h j (by omega) ch hc).symm) hk
theorem OnP.val (h : OnP s S m th F) (g : Good s S m) (ht : th ≤ m) (h1 : 1 ≤ th) {ch : Nat} (hc : ch < (S 0).n) : valZ s S th ch = F ch 0 := by
  unfold valZ
  rw [dot_itp _ h1, h.itp g ht hc (by omega)]
theorem OnP.at_ (h : OnP s S m th F) (g : Good s S m) (ht : th ≤ m) (x : Zp s) {ch : Nat} (hc : ch < (S 0).n) : atZ s S th x ch = rEv (F ch) x th := by
  unfold atZ
  rw [Hn_ev, Sg_ev]
  exact Sg_congr fun k hk => h.itp g ht hc hk
theorem OnP.con (h : OnP s S m (thN S) F) (g : Good s S m) : conB s S m = true := (allB_iff _ _).2 fun k hk => fits_of (c := F k) g.fap g.th_le.2 fun j hj => (h j hj k hk).symm
variable {ln nn q : Nat} {xa : Nat → Option Addr} {xc : Nat → Nat}
theorem deal_good (h0 : prErr (fid s) (th : Int) (nn : Int) (ln : Int) = 0) : Good s (dealS s th ln (cn (ln : Int)) F xa xc) nn := by
  obtain ⟨_, h1, h2, h3, h4, h5, h6⟩ := prErr_0 h0
  refine ⟨by omega, fun _ _ => rfl, fun _ _ => rfl, fun _ _ => rfl, fun _ _ => rfl, fun j hj => ?_, fun j k hjk hk => ?_, fun j hj i hi => mq_lt _, h3, h4, h5, h6, rfl⟩
  · show 1 ≤ ((j + 1 : Nat) : Int) ∧ ((j + 1 : Nat) : Int) ≤ 255; omega
  · show ((j + 1 : Nat) : Int) ≠ ((k + 1 : Nat) : Int); omega
theorem deal_on (m : Nat) : OnP s (dealS s th ln q F xa xc) m th F := fun j hj ch hc => by
  have e : pt s (vI (dealS s th ln q F xa xc)) j = zn s (j + 1) := by
    show zn s (((j + 1 : Nat) : Int)).toNat = zn s (j + 1)
    rw [Int.toNat_natCast]
  rw [e, ← Sg_ev]
  exact mz_of _
theorem deal_th : thN (dealS s th ln q F xa xc) = th := by show ((th : Int)).toNat = th; exact Int.toNat_natCast th
end
end Go.Proofs.YtdnkkbmpefhbjaaGreatDoor
namespace Go.Proofs.YtdnkkbmpefhbjaaGreatDoor
set_option linter.all false
open Go Go.RowKit Alg
end Go.Proofs.YtdnkkbmpefhbjaaGreatDoor
namespace Go.Proofs.YtdnkkbmpefhbjaaGreatDoor
set_option linter.all false
open Go Go.RowKit Alg
end Go.Proofs.YtdnkkbmpefhbjaaGreatDoor
namespace Go.Proofs.YtdnkkbmpefhbjaaGreatDoor
set_option linter.all false
open Go Go.RowKit Alg
theorem susN' {la : Option Addr} {m lc : Nat} {S : Nat → Shr} {w : World} (HS : (shareR la m lc S).ok w) (HL : Laid w) (HO : ShOk S m) {s : Bool} (g : Good s S m) (hz : csErr S m = 0) (hm : m ≤ 8) (hn9 : (S 0).n ≤ 7) (hf : (S 0).T < ((m : Nat) : Int)) : Calls Tryz.prog 23 #[.pointer none, .slice la m lc] w fun e w' => ∃ a c, e = .returned (.tuple #[.slice a (susL s S m m).length c, .int .i64 0]) ∧ Sat no w [row 3 1 (.slice a (susL s S m m).length c) (susL s S m m).length (el ic (susL s S m m))] [] w' := by
  refine (susN HS HL HO g hz hm hn9 hf).mono fun _ _ h => ?_
  obtain ⟨a, n, c, h1, h2⟩ := h
  have hl := (row_lst (h2.okM _ (.head _))).len
  rw [el_len ic_len] at hl
  obtain rfl : n = (susL s S m m).length := by omega
  exact ⟨a, c, h1, h2⟩
theorem susL_len {s : Bool} {S : Nat → Shr} {m : Nat} : ∀ k, (susL s S m k).length ≤ k
  | 0 => Nat.le_refl _
  | k + 1 => by
    have := susL_len (s := s) (S := S) (m := m) k
    show (if _ then _ else _ : List Int).length ≤ _
    split
    · rw [List.length_append, List.length_singleton]; omega
    · omega
end Go.Proofs.YtdnkkbmpefhbjaaGreatDoor
namespace Go.Proofs.YtdnkkbmpefhbjaaGreatDoor
set_option linter.all false
open Go Go.RowKit Alg
end Go.Proofs.YtdnkkbmpefhbjaaGreatDoor
namespace Go.Proofs.YtdnkkbmpefhbjaaGreatDoor
set_option linter.all false
open Go Go.RowKit Alg
/-- Shares that are the call's own, with their payloads. -/
def ownS (a : Option Addr) (m c : Nat) (S : Nat → Shr) : Res := bun [row 53 5 (.slice a m c) m (en shc S m), bun ((List.range m).map fun j => row 56 4 (.slice (S j).a (S j).n (S j).c) (S j).n (en vq (S j).X (S j).n))]
theorem ownS_ok {a : Option Addr} {m c : Nat} {S : Nat → Shr} {w : World} (h : (ownS a m c S).ok w) : (shareR a m c S).ok w := by
  have h1 := h.1 _ (.head _)
  have h2 := h.1 _ (.tail _ (.head _))
  intro x hx
  simp only [List.mem_cons, List.not_mem_nil, or_false] at hx
  rcases hx with rfl | rfl
  · exact row_lst h1
  · intro y hy
    obtain ⟨k, hk, rfl⟩ := List.mem_map.1 hy
    exact row_lst (h2.1 _ (List.mem_map.2 ⟨k, hk, rfl⟩))
theorem own_frz {F0 : Nat → Prop} {W w : World} {M R : List Res} {a : Option Addr} {m c : Nat} {S : Nat → Shr} (hs : Sat F0 W (ownS a m c S :: M) R w) : Sat F0 W M (shareR a m c S :: R) w := by
  refine hs.frz (ownS_ok (hs.okM _ (.head _))) fun k hk => ?_
  obtain ⟨x, hx, hk⟩ := hk
  simp only [List.mem_cons, List.not_mem_nil, or_false] at hx
  rcases hx with rfl | rfl
  · exact ⟨_, .head _, hk.2⟩
  · obtain ⟨y, hy, hk⟩ := hk
    obtain ⟨j, hj, rfl⟩ := List.mem_map.1 hy
    exact ⟨_, .tail _ (.head _), _, List.mem_map.2 ⟨j, hj, rfl⟩, hk.2⟩
/-- What is known of the shares of a secret. -/
structure Dealt (s : Bool) (th nn ln : Nat) (f : Nat → Nat) (S : Nat → Shr) (F : Nat → Nat → Zp s) : Prop where
  g : Good s S nn
  on : OnP s S nn th F
  th_ : thN S = th
  n_ : ∀ j, (S j).n = cn (ln : Int)
  l_ : ∀ j, (S j).L = (ln : Int)
  t_ : ∀ j, (S j).T = (th : Int)
  f_ : ∀ j, (S j).F = fid s
  i_ : ∀ j, (S j).I = ((j + 1 : Nat) : Int)
  x_ : ∀ j ch, (S j).X ch = mq (rEv (F ch) (zn s (j + 1)) th)
  z_ : ∀ i, i < cn (ln : Int) → F i 0 = zn s (cv ln f i)
theorem dealW {s : Bool} {th nn ln rn sc rc : Nat} {sa ra : Option Addr} {f fr : Nat → Nat} {w : World} (h0 : prErr (fid s) (th : Int) (nn : Int) (ln : Int) = 0) (HS : LstAt w 1 (.slice sa ln sc) ln (en bc f ln)) (hf : ∀ j, f j < 256) (HR : LstAt w 1 (.slice ra rn rc) rn (en bc fr rn)) (hfr : ∀ j, fr j < 256) (hr : 64 * (th - 1) * cn (ln : Int) ≤ rn) (hr9 : rn ≤ 100000000) :
    Calls Tryz.prog 27 #[.agg #[.int .i64 (fid s), .int .i64 (th : Int), .int .i64 (nn : Int), .int .i64 (ln : Int)], .slice sa ln sc, .slice ra rn rc] w fun e w' => ∃ S F a c, Dealt s th nn ln f S F ∧ e = .returned (.tuple #[.slice a nn c, .int .i64 0]) ∧ Sat no w [ownS a nn c S] [] w' := by
  refine (deal_c s th nn ln rn sc rc sa ra f fr w h0 HS hf HR hfr hr hr9).mono fun e w' h => ?_
  obtain ⟨F, xa, xc, a, c, hz, he, hs⟩ := h
  exact ⟨dealS s th ln (cn (ln : Int)) F xa xc, F, a, c, ⟨deal_good h0, deal_on nn, deal_th, fun _ => rfl, fun _ => rfl, fun _ => rfl, fun _ => rfl, fun _ => rfl, fun _ _ => rfl, hz⟩, he, Sat.pack (l := [_, _]) hs⟩
/-- Deal may work. -/
def okDeal (F T N L : Int) (sn rn : Nat) : Prop := prErr F T N L = 0 ∧ ((sn : Nat) : Int) = L ∧ 64 * (T.toNat - 1) * cn L ≤ rn
theorem dealNo {F T N L : Int} {sn rn sc rc : Nat} {sa ra : Option Addr} {w : World} (h : ¬ okDeal F T N L sn rn) (hr9 : rn ≤ 100000000) : Calls Tryz.prog 27 #[.agg #[.int .i64 F, .int .i64 T, .int .i64 N, .int .i64 L], .slice sa sn sc, .slice ra rn rc] w fun e w' => ∃ q : Int, e = .returned (.tuple #[.slice none 0 0, .int .i64 q]) ∧ q ≠ 0 ∧ Below w.heap.size w w' := by
  by_cases h0 : prErr F T N L = 0
  · by_cases hl : ((sn : Nat) : Int) = L
    · obtain ⟨hF, h1, h2, h3, h4, h5, h6⟩ := prErr_0 h0
      obtain ⟨th, rfl⟩ : ∃ k : Nat, T = k := ⟨T.toNat, by omega⟩
      obtain ⟨nn, rfl⟩ : ∃ k : Nat, N = k := ⟨N.toNat, by omega⟩
      subst hl
      obtain ⟨s, rfl⟩ : ∃ s, F = fid s := by
        rcases hF with rfl | rfl
        · exact ⟨false, rfl⟩
        · exact ⟨true, rfl⟩
      have hr : rn < 64 * (th - 1) * cn ((sn : Nat) : Int) := by
        refine Nat.lt_of_not_le fun hle => h ⟨h0, rfl, ?_⟩
        rw [Int.toNat_natCast]; exact hle
      have hq9 : 64 * (th - 1) * cn ((sn : Nat) : Int) ≤ 100000000 := Nat.le_trans (Nat.mul_le_mul (Nat.mul_le_mul_left 64 (show th - 1 ≤ 255 by omega)) (cn_bound sn)) (by decide)
      exact (deal_b3 s th nn sn rn sc rc sa ra _ w h0 rfl hr hq9).mono fun _ _ hq => ⟨7, hq.1, by decide, hq.2⟩
    · exact (deal_b2 F T N L sn rn sc rc sa ra w h0 hl).mono fun _ _ hq => ⟨8, hq.1, by decide, hq.2⟩
  · exact (deal_b1 F T N L sn rn sc rc sa ra w h0).mono fun _ _ hq => ⟨_, hq.1, h0, hq.2⟩
theorem large16_c (F T N L : Int) (sn rn sc rc : Nat) (sa ra : Option Addr) (W : World)  : Calls Tryz.prog 26 [.agg #[.int .i64 F, .int .i64 T, .int .i64 N, .int .i64 L], .slice sa sn sc, .slice ra rn rc].toArray W fun e w => ∃ x : Int, e = .returned (.int .i64 x) ∧ Below W.heap.size W w ∧ (¬ 0 < x → sn ≤ 200 ∧ rn ≤ 10000) := by
 refine c_enter (args := [.agg #[.int .i64 F, .int .i64 T, .int .i64 N, .int .i64 L], .slice sa sn sc, .slice ra rn rc]) Tryz.func26 rfl rfl rfl fun a hk => ?_
 have hs := Sat.start W [] (fun _ h => by cases h)
 refine wS (wR ?_)
 refine q_box (vs := [.int .i64 F, .int .i64 T, .int .i64 N, .int .i64 L]) hk hs rfl rfl rfl rfl fun b1 w a hk hs => ?_
 refine q_v hk (w_as rfl) fun a hk => ?_
 refine c_end (x_t (wS (wS (wR ?_))))
 refine q_v hk (w_mv rfl) fun a hk => ?_
 refine q_v hk (w_len rfl Tryz.underlying42) fun a hk => ?_
 rcases Classical.em (200 < ((sn : Nat) : Int)) with hc2 | hc2
 ·
  refine q_v hk (w_gt rfl rfl (decide_eq_true hc2)) fun a hk => ?_
  refine q_v hk (w_mv rfl) fun a hk => ?_
  refine q_skip hk rfl rfl fun a hk => ?_
  refine q_skip hk rfl rfl fun a hk => ?_
  refine q_skip hk rfl rfl fun a hk => ?_
  refine q_v hk (w_pickT rfl rfl) fun a hk => ?_
  refine q_v hk (w_mv rfl) fun a hk => ?_
  refine q_skip hk rfl rfl fun a hk => ?_
  refine q_skip hk rfl rfl fun a hk => ?_
  refine q_skip hk rfl rfl fun a hk => ?_
  refine q_skip hk rfl rfl fun a hk => ?_
  refine q_skip hk rfl rfl fun a hk => ?_
  refine q_skip hk rfl rfl fun a hk => ?_
  refine q_skip hk rfl rfl fun a hk => ?_
  refine q_skip hk rfl rfl fun a hk => ?_
  refine q_v hk (w_pickT rfl rfl) fun a hk => ?_
  refine q_v hk (w_mv rfl) fun a hk => ?_
  refine q_skip hk rfl rfl fun a hk => ?_
  refine q_skip hk rfl rfl fun a hk => ?_
  refine q_skip hk rfl rfl fun a hk => ?_
  refine q_skip hk rfl rfl fun a hk => ?_
  refine q_skip hk rfl rfl fun a hk => ?_
  refine q_skip hk rfl rfl fun a hk => ?_
  refine q_skip hk rfl rfl fun a hk => ?_
  refine q_skip hk rfl rfl fun a hk => ?_
  refine q_skip hk rfl rfl fun a hk => ?_
  refine q_skip hk rfl rfl fun a hk => ?_
  refine q_skip hk rfl rfl fun a hk => ?_
  refine q_v hk (w_pickT rfl rfl) fun a hk => ?_
  refine c_end (x_t ?_)
  refine c_T hk rfl ?_
  refine wS (wR ?_)
  refine q_v hk (w_as rfl) fun a hk => ?_
  refine c_end (x_t ?_)
  refine (wpIn_ret (x_tr ?_))
  refine c_ret1 hk rfl rfl ?_
  exact ⟨_, rfl, hs.toBelow, fun h => absurd (show (0 : Int) < 1 by decide) h⟩
 ·
  refine q_v hk (w_gt rfl rfl (decide_eq_false hc2)) fun a hk => ?_
  refine q_v hk (w_mv rfl) fun a hk => ?_
  refine q_v hk (w_mv rfl) fun a hk => ?_
  refine q_v hk (w_len rfl Tryz.underlying42) fun a hk => ?_
  rcases Classical.em (10000 < ((rn : Nat) : Int)) with hc3 | hc3
  ·
   refine q_v hk (w_gt rfl rfl (decide_eq_true hc3)) fun a hk => ?_
   refine q_v hk (w_pickF rfl rfl) fun a hk => ?_
   refine q_v hk (w_mv rfl) fun a hk => ?_
   refine q_skip hk rfl rfl fun a hk => ?_
   refine q_skip hk rfl rfl fun a hk => ?_
   refine q_skip hk rfl rfl fun a hk => ?_
   refine q_skip hk rfl rfl fun a hk => ?_
   refine q_skip hk rfl rfl fun a hk => ?_
   refine q_skip hk rfl rfl fun a hk => ?_
   refine q_skip hk rfl rfl fun a hk => ?_
   refine q_skip hk rfl rfl fun a hk => ?_
   refine q_v hk (w_pickT rfl rfl) fun a hk => ?_
   refine q_v hk (w_mv rfl) fun a hk => ?_
   refine q_skip hk rfl rfl fun a hk => ?_
   refine q_skip hk rfl rfl fun a hk => ?_
   refine q_skip hk rfl rfl fun a hk => ?_
   refine q_skip hk rfl rfl fun a hk => ?_
   refine q_skip hk rfl rfl fun a hk => ?_
   refine q_skip hk rfl rfl fun a hk => ?_
   refine q_skip hk rfl rfl fun a hk => ?_
   refine q_skip hk rfl rfl fun a hk => ?_
   refine q_skip hk rfl rfl fun a hk => ?_
   refine q_skip hk rfl rfl fun a hk => ?_
   refine q_skip hk rfl rfl fun a hk => ?_
   refine q_v hk (w_pickT rfl rfl) fun a hk => ?_
   refine c_end (x_t ?_)
   refine c_T hk rfl ?_
   refine wS (wR ?_)
   refine q_v hk (w_as rfl) fun a hk => ?_
   refine c_end (x_t ?_)
   refine (wpIn_ret (x_tr ?_))
   refine c_ret1 hk rfl rfl ?_
   exact ⟨_, rfl, hs.toBelow, fun h => absurd (show (0 : Int) < 1 by decide) h⟩
  ·
   refine q_v hk (w_gt rfl rfl (decide_eq_false hc3)) fun a hk => ?_
   refine q_v hk (w_pickF rfl rfl) fun a hk => ?_
   refine q_v hk (w_mv rfl) fun a hk => ?_
   refine q_v hk (w_fa rfl fq41_2 ty3) fun a hk => ?_
   refine q_v hk (w_ld1 rfl ty3 (.blk (n := 1) (hs.mi 0 rfl) rfl)) fun a hk => ?_
   rcases Classical.em (12 < N) with hc4 | hc4
   ·
    refine q_v hk (w_gt rfl rfl (decide_eq_true hc4)) fun a hk => ?_
    refine q_v hk (w_mv rfl) fun a hk => ?_
    refine q_v hk (w_fa rfl fq41_3 ty3) fun a hk => ?_
    refine q_v hk (w_ld1 rfl ty3 (.blk (n := 1) (hs.mi 0 rfl) rfl)) fun a hk => ?_
    rcases Classical.em (70 < L) with hc5 | hc5
    ·
     refine q_v hk (w_gt rfl rfl (decide_eq_true hc5)) fun a hk => ?_
     refine q_v hk (w_pickT rfl rfl) fun a hk => ?_
     refine q_v hk (w_pickF rfl rfl) fun a hk => ?_
     refine q_v hk (w_mv rfl) fun a hk => ?_
     refine q_skip hk rfl rfl fun a hk => ?_
     refine q_skip hk rfl rfl fun a hk => ?_
     refine q_skip hk rfl rfl fun a hk => ?_
     refine q_skip hk rfl rfl fun a hk => ?_
     refine q_skip hk rfl rfl fun a hk => ?_
     refine q_skip hk rfl rfl fun a hk => ?_
     refine q_skip hk rfl rfl fun a hk => ?_
     refine q_skip hk rfl rfl fun a hk => ?_
     refine q_skip hk rfl rfl fun a hk => ?_
     refine q_skip hk rfl rfl fun a hk => ?_
     refine q_skip hk rfl rfl fun a hk => ?_
     refine q_v hk (w_pickT rfl rfl) fun a hk => ?_
     refine c_end (x_t ?_)
     refine c_T hk rfl ?_
     refine wS (wR ?_)
     refine q_v hk (w_as rfl) fun a hk => ?_
     refine c_end (x_t ?_)
     refine (wpIn_ret (x_tr ?_))
     refine c_ret1 hk rfl rfl ?_
     exact ⟨_, rfl, hs.toBelow, fun h => absurd (show (0 : Int) < 1 by decide) h⟩
    ·
     refine q_v hk (w_gt rfl rfl (decide_eq_false hc5)) fun a hk => ?_
     refine q_v hk (w_pickT rfl rfl) fun a hk => ?_
     refine q_v hk (w_pickF rfl rfl) fun a hk => ?_
     refine q_v hk (w_mv rfl) fun a hk => ?_
     refine q_v hk (w_fa rfl fq41_1 ty3) fun a hk => ?_
     refine q_v hk (w_ld1 rfl ty3 (.blk (n := 1) (hs.mi 0 rfl) rfl)) fun a hk => ?_
     rcases Classical.em (12 < T) with hc6 | hc6
     ·
      refine q_v hk (w_gt rfl rfl (decide_eq_true hc6)) fun a hk => ?_
      refine q_v hk (w_mv rfl) fun a hk => ?_
      refine q_v hk (w_fa rfl fq41_2 ty3) fun a hk => ?_
      refine q_v hk (w_ld1 rfl ty3 (.blk (n := 1) (hs.mi 0 rfl) rfl)) fun a hk => ?_
      refine q_v hk (w_fa rfl fq41_3 ty3) fun a hk => ?_
      refine q_v hk (w_ld1 rfl ty3 (.blk (n := 1) (hs.mi 0 rfl) rfl)) fun a hk => ?_
      refine q_v hk (w_mul (r := IntKind.i64.wrap (N * L)) rfl rfl rfl) fun a hk => ?_
      rcases Classical.em (300 < (IntKind.i64.wrap (N * L))) with hc7 | hc7
      ·
       refine q_v hk (w_gt rfl rfl (decide_eq_true hc7)) fun a hk => ?_
       refine q_v hk (w_pickT rfl rfl) fun a hk => ?_
       refine q_v hk (w_pickF rfl rfl) fun a hk => ?_
       refine c_end (x_t ?_)
       refine c_T hk rfl ?_
       refine wS (wR ?_)
       refine q_v hk (w_as rfl) fun a hk => ?_
       refine c_end (x_t ?_)
       refine (wpIn_ret (x_tr ?_))
       refine c_ret1 hk rfl rfl ?_
       exact ⟨_, rfl, hs.toBelow, fun h => absurd (show (0 : Int) < 1 by decide) h⟩
      ·
       refine q_v hk (w_gt rfl rfl (decide_eq_false hc7)) fun a hk => ?_
       refine q_v hk (w_pickT rfl rfl) fun a hk => ?_
       refine q_v hk (w_pickF rfl rfl) fun a hk => ?_
       refine c_end (x_t ?_)
       refine c_F hk rfl ?_
       refine (wpIn_skip (x_t ?_))
       refine wS (wR ?_)
       refine q_v hk (w_as rfl) fun a hk => ?_
       refine c_end (x_t ?_)
       refine (wpIn_ret ?_)
       refine c_ret1 hk rfl rfl ?_
       exact ⟨_, rfl, hs.toBelow, fun _ => ⟨by omega, by omega⟩⟩
     ·
      refine q_v hk (w_gt rfl rfl (decide_eq_false hc6)) fun a hk => ?_
      refine q_v hk (w_mv rfl) fun a hk => ?_
      refine q_skip hk rfl rfl fun a hk => ?_
      refine q_skip hk rfl rfl fun a hk => ?_
      refine q_skip hk rfl rfl fun a hk => ?_
      refine q_skip hk rfl rfl fun a hk => ?_
      refine q_skip hk rfl rfl fun a hk => ?_
      refine q_skip hk rfl rfl fun a hk => ?_
      refine q_v hk (w_pickF rfl rfl) fun a hk => ?_
      refine q_v hk (w_pickF rfl rfl) fun a hk => ?_
      refine c_end (x_t ?_)
      refine c_F hk rfl ?_
      refine (wpIn_skip (x_t ?_))
      refine wS (wR ?_)
      refine q_v hk (w_as rfl) fun a hk => ?_
      refine c_end (x_t ?_)
      refine (wpIn_ret ?_)
      refine c_ret1 hk rfl rfl ?_
      exact ⟨_, rfl, hs.toBelow, fun _ => ⟨by omega, by omega⟩⟩
   ·
    refine q_v hk (w_gt rfl rfl (decide_eq_false hc4)) fun a hk => ?_
    refine q_v hk (w_mv rfl) fun a hk => ?_
    refine q_skip hk rfl rfl fun a hk => ?_
    refine q_skip hk rfl rfl fun a hk => ?_
    refine q_skip hk rfl rfl fun a hk => ?_
    refine q_v hk (w_pickF rfl rfl) fun a hk => ?_
    refine q_v hk (w_pickF rfl rfl) fun a hk => ?_
    refine q_v hk (w_mv rfl) fun a hk => ?_
    refine q_v hk (w_fa rfl fq41_1 ty3) fun a hk => ?_
    refine q_v hk (w_ld1 rfl ty3 (.blk (n := 1) (hs.mi 0 rfl) rfl)) fun a hk => ?_
    rcases Classical.em (12 < T) with hc8 | hc8
    ·
     refine q_v hk (w_gt rfl rfl (decide_eq_true hc8)) fun a hk => ?_
     refine q_v hk (w_mv rfl) fun a hk => ?_
     refine q_v hk (w_fa rfl fq41_2 ty3) fun a hk => ?_
     refine q_v hk (w_ld1 rfl ty3 (.blk (n := 1) (hs.mi 0 rfl) rfl)) fun a hk => ?_
     refine q_v hk (w_fa rfl fq41_3 ty3) fun a hk => ?_
     refine q_v hk (w_ld1 rfl ty3 (.blk (n := 1) (hs.mi 0 rfl) rfl)) fun a hk => ?_
     refine q_v hk (w_mul (r := IntKind.i64.wrap (N * L)) rfl rfl rfl) fun a hk => ?_
     rcases Classical.em (300 < (IntKind.i64.wrap (N * L))) with hc9 | hc9
     ·
      refine q_v hk (w_gt rfl rfl (decide_eq_true hc9)) fun a hk => ?_
      refine q_v hk (w_pickT rfl rfl) fun a hk => ?_
      refine q_v hk (w_pickF rfl rfl) fun a hk => ?_
      refine c_end (x_t ?_)
      refine c_T hk rfl ?_
      refine wS (wR ?_)
      refine q_v hk (w_as rfl) fun a hk => ?_
      refine c_end (x_t ?_)
      refine (wpIn_ret (x_tr ?_))
      refine c_ret1 hk rfl rfl ?_
      exact ⟨_, rfl, hs.toBelow, fun h => absurd (show (0 : Int) < 1 by decide) h⟩
     ·
      refine q_v hk (w_gt rfl rfl (decide_eq_false hc9)) fun a hk => ?_
      refine q_v hk (w_pickT rfl rfl) fun a hk => ?_
      refine q_v hk (w_pickF rfl rfl) fun a hk => ?_
      refine c_end (x_t ?_)
      refine c_F hk rfl ?_
      refine (wpIn_skip (x_t ?_))
      refine wS (wR ?_)
      refine q_v hk (w_as rfl) fun a hk => ?_
      refine c_end (x_t ?_)
      refine (wpIn_ret ?_)
      refine c_ret1 hk rfl rfl ?_
      exact ⟨_, rfl, hs.toBelow, fun _ => ⟨by omega, by omega⟩⟩
    ·
     refine q_v hk (w_gt rfl rfl (decide_eq_false hc8)) fun a hk => ?_
     refine q_v hk (w_mv rfl) fun a hk => ?_
     refine q_skip hk rfl rfl fun a hk => ?_
     refine q_skip hk rfl rfl fun a hk => ?_
     refine q_skip hk rfl rfl fun a hk => ?_
     refine q_skip hk rfl rfl fun a hk => ?_
     refine q_skip hk rfl rfl fun a hk => ?_
     refine q_skip hk rfl rfl fun a hk => ?_
     refine q_v hk (w_pickF rfl rfl) fun a hk => ?_
     refine q_v hk (w_pickF rfl rfl) fun a hk => ?_
     refine c_end (x_t ?_)
     refine c_F hk rfl ?_
     refine (wpIn_skip (x_t ?_))
     refine wS (wR ?_)
     refine q_v hk (w_as rfl) fun a hk => ?_
     refine c_end (x_t ?_)
     refine (wpIn_ret ?_)
     refine c_ret1 hk rfl rfl ?_
     exact ⟨_, rfl, hs.toBelow, fun _ => ⟨by omega, by omega⟩⟩
end Go.Proofs.YtdnkkbmpefhbjaaGreatDoor
namespace Go.Proofs.YtdnkkbmpefhbjaaGreatDoor
set_option linter.all false
open Go Go.RowKit Alg
theorem cn_200 {n : Nat} (h : n ≤ 200) : cn (n : Int) ≤ 7 := by unfold cn; rw [if_pos (by omega)]; omega
section
variable {s : Bool} {th nn ln i k : Nat} {f : Nat → Nat} {S : Nat → Shr} {F : Nat → Nat → Zp s} (D : Dealt s th nn ln f S F)
include D
theorem Dealt.sel {m' : Nat} {σ : Nat → Nat} (h0 : 0 < m') (hσ : ∀ j, j < m' → σ j < nn) (hi : ∀ j k, j < k → k < m' → σ j ≠ σ k) (ht : th ≤ m') (h255 : th ≤ 255) (h7 : cn (ln : Int) ≤ 7) (hm : m' ≤ 1000) : Good s (fun j => S (σ j)) m' ∧ csErr (fun j => S (σ j)) m' = 0 ∧ ShOk (fun j => S (σ j)) m' ∧ (S (σ 0)).n ≤ 7 ∧ thN (fun j => S (σ j)) = th ∧ OnP s (fun j => S (σ j)) m' th F := by
  have g : Good s (fun j => S (σ j)) m' := D.g.sel h0 hσ hi (by rw [D.t_]; omega)
  refine ⟨g, g.err (by show (S (σ 0)).T ≤ 255; rw [D.t_]; omega), ⟨by omega, fun k hk => ?_, fun k hk j hj => ?_⟩, by rw [D.n_]; exact h7, ?_, D.on.sel D.g h0 hσ⟩
  · show (S (σ k)).n ≤ _
    rw [D.n_]; omega
  · show (S (σ k)).X j < R4
    rw [D.x_]; exact mq_lt4 _
  · show ((S (σ 0)).T).toNat = th
    rw [D.t_, Int.toNat_natCast]
end
theorem okDeal_nat {F T N L : Int} {sn rn : Nat} (h : okDeal F T N L sn rn) : ∃ s th nn, F = fid s ∧ T = ((th : Nat) : Int) ∧ N = ((nn : Nat) : Int) ∧ L = ((sn : Nat) : Int) ∧ prErr (fid s) ((th : Nat) : Int) ((nn : Nat) : Int) ((sn : Nat) : Int) = 0 ∧ 64 * (th - 1) * cn ((sn : Nat) : Int) ≤ rn := by
  obtain ⟨h0, hl, hr⟩ := h
  obtain ⟨hF, h1, h2, h3, h4, h5, h6⟩ := prErr_0 h0
  obtain ⟨th, rfl⟩ : ∃ k : Nat, T = k := ⟨T.toNat, by omega⟩
  obtain ⟨nn, rfl⟩ : ∃ k : Nat, N = k := ⟨N.toNat, by omega⟩
  subst hl
  rw [Int.toNat_natCast] at hr
  rcases hF with rfl | rfl
  · exact ⟨false, th, nn, rfl, rfl, rfl, rfl, h0, hr⟩
  · exact ⟨true, th, nn, rfl, rfl, rfl, rfl, h0, hr⟩
end Go.Proofs.YtdnkkbmpefhbjaaGreatDoor
namespace Go.Proofs.YtdnkkbmpefhbjaaGreatDoor
set_option linter.all false
open Go Go.RowKit
section
variable {F0 : Nat → Prop} {W w : World} {M R : List Res} {T sz n c g : Nat} {a : Option Addr} {xs rest : List Value}
theorem row_some (h : (row T sz (.slice a n c) n xs).ok w) (hn : 0 < n) : ∃ g, a = some ⟨g, 0, none⟩ := by
  rcases h.2 with ⟨_, h0⟩ | ⟨g, cap, cur, e, _⟩
  · omega
  · cases e; exact ⟨g, rfl⟩
theorem openRow_s (hs : Sat F0 W (row T sz (.slice (some ⟨g, 0, none⟩) n c) n xs :: M) R w) : ∃ rest, (xs ++ rest).length = c * sz ∧ n ≤ c ∧ c ≤ maxLen ∧ xs.length = n * sz ∧ Sat F0 W (blk g (xs ++ rest) T :: M) R w := by
  obtain ⟨hl, h⟩ := hs.okM _ (.head _)
  rcases h with ⟨e, _⟩ | ⟨g', cap, cur, e, _, hh, hnc, hcm, hsz, ht⟩
  · cases e
  · cases e
    have e1 : xs ++ cur.toList.drop (n * sz) = cur.toList := by rw [← ht]; exact List.take_append_drop _ _
    refine ⟨cur.toList.drop (n * sz), by rw [e1]; simpa using hsz, hnc, hcm, hl, ?_⟩
    rw [e1]
    refine ⟨hs.keep, ?_, hs.okR, ?_, ?_, ?_⟩
    · intro x hx
      cases hx with
      | head =>
        show w.heap[g]? = some (.cells cur.toList.toArray T (0, 0))
        simpa using hh
      | tail _ h => exact hs.okM x (.tail _ h)
    · intro x hx k hk
      cases hx with
      | head => exact hs.own _ (.head _) k (by rw [show k = g from hk]; rfl)
      | tail _ h => exact hs.own x (.tail _ h) k hk
    · have hd := List.pairwise_cons.1 hs.dM
      refine List.pairwise_cons.2 ⟨fun m hm k hk => hd.1 m hm k (by rw [show k = g from hk]; rfl), hd.2⟩
    · intro x hx r hr k hk hkr
      cases hx with
      | head => exact hs.dR _ (.head _) r hr k (by rw [show k = g from hk]; rfl) hkr
      | tail _ h => exact hs.dR x (.tail _ h) r hr k hk hkr
theorem closeRow_s (hs : Sat F0 W (blk g (xs ++ rest) T :: M) R w) (h1 : (xs ++ rest).length = c * sz) (h2 : n ≤ c) (h3 : c ≤ maxLen) (h4 : xs.length = n * sz) : Sat F0 W (row T sz (.slice (some ⟨g, 0, none⟩) n c) n xs :: M) R w := by
  have hb := hs.okM _ (.head _)
  have e0 : ∀ k, (Value.slice (some ⟨g, 0, none⟩) n c).ownBlock = some k → k = g := fun k h => (Option.some.inj h).symm
  refine ⟨hs.keep, ?_, hs.okR, ?_, ?_, ?_⟩
  · intro x hx
    cases hx with
    | head => exact ⟨h4, .inr ⟨g, c, (xs ++ rest).toArray, rfl, Nat.zero_le _, hb, h2, h3, by simpa using h1, by rw [← h4]; simp⟩⟩
    | tail _ h => exact hs.okM x (.tail _ h)
  · intro x hx k hk
    cases hx with
    | head => exact hs.own _ (.head _) k (e0 k hk)
    | tail _ h => exact hs.own x (.tail _ h) k hk
  · have hd := List.pairwise_cons.1 hs.dM
    exact List.pairwise_cons.2 ⟨fun m hm k hk => hd.1 m hm k (e0 k hk), hd.2⟩
  · intro x hx r hr k hk hkr
    cases hx with
    | head => exact hs.dR _ (.head _) r hr k (e0 k hk) hkr
    | tail _ h => exact hs.dR x (.tail _ h) r hr k hk hkr
end
theorem en_put {α : Type} {cc : α → List Value} {f : Nat → α} {x' : α} {sz n k off s : Nat} {cs rest : List Value} (hlen : ∀ x, (cc x).length = sz) (hk : k < n) (hos : off + s ≤ sz) (hset : (cc (f k)).take off ++ cs ++ (cc (f k)).drop (off + s) = cc x') :
    (en cc f n ++ rest).take (k * sz + off) ++ cs ++ (en cc f n ++ rest).drop (k * sz + off + s) = en cc (fun i => if i = k then x' else f i) n ++ rest := by
  obtain ⟨d, rfl⟩ : ∃ d, n = k + 1 + d := ⟨n - (k + 1), by omega⟩
  have sp : ∀ h : Nat → α, en cc h (k + 1 + d) = en cc h k ++ (cc (h k) ++ en cc (fun j => h (k + 1 + j)) d) := fun h => by
    unfold en
    rw [List.range_add, List.range_succ, List.flatMap_append, List.flatMap_append, List.flatMap_map, List.append_assoc]
    simp
  have e1 : en cc (fun i => if i = k then x' else f i) k = en cc f k := en_congr fun i hi => if_neg (by omega)
  have e2 : en cc (fun j => (fun i => if i = k then x' else f i) (k + 1 + j)) d = en cc (fun j => f (k + 1 + j)) d := en_congr fun i hi => if_neg (by omega)
  rw [sp, sp, e1, e2]
  have hA : (en cc f k).length = k * sz := en_len hlen
  have hE := hlen (f k)
  generalize en cc f k = A at *
  generalize en cc (fun j => f (k + 1 + j)) d = B at *
  simp only [if_true]
  rw [← hset]
  generalize cc (f k) = E at *
  simp only [List.append_assoc]
  rw [← hA, List.take_length_add_append, Nat.add_assoc, List.drop_length_add_append, List.take_append_of_le_length (by omega), List.drop_append_of_le_length (by omega)]
  simp only [List.append_assoc]
section
variable {P : Program} {Q : Exit → Act → World → Prop} {r : Option Nat} {m n N s nb te T : Nat} {tt : TypeId} {ab : Bool} {G : List (Nat × Value)} {a : Act} {w : World} {Ds : List Nat} {ops : Array Oper} {rest : List Oper} {p : String} {e : Array Edge} {g : Option (Nat × Bool)} {x y : Operand} {v : Value} {F0 : Nat → Prop} {W : World} {M R : List Res} {cs : List Value}
/-- A store into a field of an element of a row of the call's own. -/
theorem q_stoR {α : Type} {cc : α → List Value} {f : Nat → α} {x' : α} {k c off sz mm : Nat} {aa : Option Addr} {q : Addr} (hk : Kn Ds N G a) (hs : Sat F0 W (row te sz (.slice aa mm c) mm (en cc f mm) :: M) R w) (hx : evq G x = some (.pointer (some q))) (hq : q = ((adq aa).add (k * sz)).add off) (hy : evq G y = some v) (ht : tq P tt = some (ab, s, nb))
    (hc : v.cells = cs.toArray) (hl : cs.length = s) (h1 : ones cs = true) (hkm : k < mm) (hlen : ∀ x, (cc x).length = sz) (hset : (cc (f k)).take off ++ cs ++ (cc (f k)).drop (off + s) = cc x') (hos : off + s ≤ sz) (hg : wq ops G g = some true)
    (h : ∀ w, Sat F0 W (row te sz (.slice aa mm c) mm (en cc (fun i => if i = k then x' else f i) mm) :: M) R w → wpListIn (Fr r) n P ops Q rest a w) : wpListIn (Fr r) n P ops Q (⟨none, .store tt x y, T, p, e, g⟩ :: rest) a w := by
  obtain ⟨gb, rfl⟩ := row_some (hs.okM _ (.head _)) (by omega)
  obtain ⟨tl, e1, e2, e3, e4, hs2⟩ := openRow_s hs
  have hb : Nat.ble (k * sz + off + s) (en cc f mm ++ tl).length = true := Nat.ble_eq_true_of_le (by
    rw [List.length_append, e4]
    have : (k + 1) * sz ≤ mm * sz := Nat.mul_le_mul_right _ hkm
    rw [Nat.succ_mul] at this
    omega)
  have ea : q = ⟨gb, k * sz + off, none⟩ := by
    rw [hq]
    show ((⟨gb, 0, none⟩ : Addr).add (k * sz)).add off = _
    rw [add_pos, add_pos, Nat.zero_add]
  refine q_sto hk hs2 hx ea hy ht hc (by rw [hl]; exact Nat.beq_refl _) h1 hb (en_put hlen hkm hos hset) hg fun w hs => h w ?_
  have e5 : (en cc (fun i => if i = k then x' else f i) mm).length = mm * sz := en_len hlen
  exact closeRow_s hs (by rw [List.length_append, e5]; rw [List.length_append, e4] at e1; exact e1) e2 e3 e5
end
end Go.Proofs.YtdnkkbmpefhbjaaGreatDoor
namespace Go.Proofs.YtdnkkbmpefhbjaaGreatDoor
set_option linter.all false
open Go Go.RowKit Alg
end Go.Proofs.YtdnkkbmpefhbjaaGreatDoor
namespace Go.Proofs.YtdnkkbmpefhbjaaGreatDoor
set_option linter.all false
open Go Go.RowKit Alg
theorem mz_lin (s : Bool) (n : Nat) : mz s n = zn s n * zn s (rinv s) := by
  unfold mz
  apply Fin.ext
  rw [Fin.val_mul]
  show mm s n 1 % pr s = (n % pr s) * (rinv s % pr s) % pr s
  unfold mm
  rw [Nat.mul_one, Nat.mod_mod, ← Nat.mul_mod]
theorem mz_add {s : Bool} (x y : Zp s) : mz s (zv (x + y)) = mz s (zv x) + mz s (zv y) := by
  rw [mz_lin, mz_lin, mz_lin, show zn s (zv (x + y)) = x + y from zn_of _, show zn s (zv x) = x from zn_of _, show zn s (zv y) = y from zn_of _]
  grind
theorem mz_zero_iff {s : Bool} (y : Zp s) : mz s (zv y) = 0 ↔ y = 0 := by
  constructor
  · intro h
    have e := mz_mq (s := s) (x := zv y) (zv_lt y)
    rw [h, mq_zero] at e
    exact Fin.ext (e.symm.trans (Fin.val_zero _).symm)
  · rintro rfl
    have e : zv (0 : Zp s) = 0 := zv_zero
    rw [e, ← mq_zero (s := s), mz_of]
/-- One element of one share changed. -/
def chg (x : Shr) (k v : Nat) : Shr := ⟨x.F, x.T, x.I, x.L, x.n, fun ch => if ch = k then v else x.X ch, x.a, x.c⟩
def chS (S : Nat → Shr) (i k v j : Nat) : Shr := if j = i then chg (S i) k v else S j
section
variable {s : Bool} {th nn ln i k v : Nat} {f : Nat → Nat} {S : Nat → Shr} {F : Nat → Nat → Zp s} (D : Dealt s th nn ln f S F)
theorem chS_hd (j : Nat) : (chS S i k v j).F = (S j).F ∧ (chS S i k v j).T = (S j).T ∧ (chS S i k v j).I = (S j).I ∧ (chS S i k v j).L = (S j).L ∧ (chS S i k v j).n = (S j).n := by
  unfold chS
  by_cases h : j = i
  · subst h; rw [if_pos rfl]; exact ⟨rfl, rfl, rfl, rfl, rfl⟩
  · rw [if_neg h]; exact ⟨rfl, rfl, rfl, rfl, rfl⟩
theorem chS_X (j ch : Nat) : (chS S i k v j).X ch = if j = i ∧ ch = k then v else (S j).X ch := by
  unfold chS
  by_cases h : j = i
  · subst h
    rw [if_pos rfl]
    show (if ch = k then v else (S j).X ch) = _
    by_cases h2 : ch = k
    · rw [if_pos h2, if_pos ⟨rfl, h2⟩]
    · rw [if_neg h2, if_neg (fun q => h2 q.2)]
  · rw [if_neg h, if_neg (fun q => h q.1)]
theorem chS_pt (j : Nat) : pt s (vI (chS S i k v)) j = pt s (vI S) j := by unfold pt vI; rw [(chS_hd j).2.2.1]
theorem chS_clz {ch j : Nat} (h : ¬ (j = i ∧ ch = k)) : clz s (chS S i k v) ch j = clz s S ch j := by unfold clz; rw [chS_X, if_neg h]
theorem chS_good {m : Nat} (g : Good s S m) (hv : v < pr s) : Good s (chS S i k v) m := by
  obtain ⟨a1, a2, a3, a4, a5⟩ := chS_hd (S := S) (i := i) (k := k) (v := v) 0
  refine ⟨g.m0, fun j hj => (chS_hd j).1.trans (g.F j hj), fun j hj => ?_, fun j hj => ?_, fun j hj => ?_, fun j hj => ?_, fun j l hjl hl => ?_, fun j hj q hq => ?_, ?_, ?_, ?_, ?_, ?_⟩
  · rw [(chS_hd j).2.1, a2]; exact g.T j hj
  · rw [(chS_hd j).2.2.2.1, a4]; exact g.Lq j hj
  · rw [(chS_hd j).2.2.2.2, a5]; exact g.n j hj
  · rw [(chS_hd j).2.2.1]; exact g.idx j hj
  · rw [(chS_hd j).2.2.1, (chS_hd l).2.2.1]; exact g.app j l hjl hl
  · rw [chS_X]; split
    · exact hv
    · rw [a5] at hq; exact g.X j hj q hq
  · rw [a2]; exact g.t1
  · rw [a2]; exact g.tm
  · rw [a4]; exact g.l0
  · rw [a4]; exact g.l1
  · rw [a5, a4]; exact g.cn
theorem chS_th : thN (chS S i k v) = thN S := by unfold thN; rw [(chS_hd 0).2.1]
include D
/-- The chunk that was changed fits just where nothing was changed. -/
theorem rej_fit (hi : i < nn) (hk : k < cn (ln : Int)) (ht : th < nn) (h1 : 1 ≤ th) (hv : v < pr s) : fitB s (chS S i k v) nn k = decide (mz s v = clz s S k i) := by
  have g' := chS_good (i := i) (k := k) D.g hv
  have e0 : thN (chS S i k v) = th := chS_th.trans D.th_
  have hn : (S 0).n = cn (ln : Int) := D.n_ 0
  by_cases h : mz s v = clz s S k i
  · rw [decide_eq_true h]
    unfold fitB
    rw [e0]
    refine fits_of (c := F k) g'.fap (Nat.le_of_lt ht) fun j hj => ?_
    rw [chS_pt, ← D.on j hj k (by rw [hn]; exact hk)]
    by_cases hj2 : j = i
    · subst hj2; rw [← h]; unfold clz; rw [chS_X, if_pos ⟨rfl, rfl⟩]
    · rw [chS_clz (fun q => hj2 q.1)]
  · rw [decide_eq_false h]
    refine Bool.eq_false_iff.2 fun hb => h ?_
    unfold fitB at hb
    rw [e0] at hb
    have hz := belZ_iff.1 hb
    -- the polynomial agrees with F k at the other points
    have key : ∀ q, q < th → itp (pt s (vI (chS S i k v))) (clz s (chS S i k v) k) nn nn q = F k q := fun q hq => by
      refine same_val (x := fun j => pt s (vI S) (if j < i then j else j + 1)) (n := th) (fun a b ha hb hab => D.g.fap _ _ (by split <;> omega) (by split <;> omega) (by split <;> split <;> omega)) (fun j hj => ?_) hq
      have hj' : (if j < i then j else j + 1) < nn := by split <;> omega
      have hne : (if j < i then j else j + 1) ≠ i := by split <;> omega
      have e1 := itp_val (y := clz s (chS S i k v) k) g'.fap hj'
      rw [Sg_cut (Nat.le_of_lt ht) hz, chS_pt, chS_clz (fun q => hne q.1), D.on _ hj' k (by rw [hn]; exact hk)] at e1
      exact e1
    have e2 := itp_val (y := clz s (chS S i k v) k) g'.fap hi
    rw [Sg_cut (Nat.le_of_lt ht) hz, Sg_congr key, chS_pt, ← D.on i hi k (by rw [hn]; exact hk)] at e2
    rw [e2]
    unfold clz
    rw [chS_X, if_pos ⟨rfl, rfl⟩]
theorem rej_other {q : Nat} (hq : q < cn (ln : Int)) (hqk : q ≠ k) (ht : th ≤ nn) (hv : v < pr s) : fitB s (chS S i k v) nn q = true := by
  have g' := chS_good (i := i) (k := k) D.g hv
  unfold fitB
  rw [show thN (chS S i k v) = th from chS_th.trans D.th_]
  refine fits_of (c := F q) g'.fap ht fun j hj => ?_
  rw [chS_pt, chS_clz (fun h => hqk h.2), D.on j hj q (by rw [D.n_ 0]; exact hq)]
theorem rej_con (hi : i < nn) (hk : k < cn (ln : Int)) (ht : th < nn) (h1 : 1 ≤ th) (hv : v < pr s) : conB s (chS S i k v) nn = decide (mz s v = clz s S k i) := by
  have hn : (chS S i k v 0).n = cn (ln : Int) := (chS_hd 0).2.2.2.2.trans (D.n_ 0)
  unfold conB
  rw [hn, ← rej_fit D hi hk ht h1 hv]
  cases e : fitB s (chS S i k v) nn k with
  | true =>
    refine (allB_iff _ _).2 fun q hq => ?_
    by_cases h : q = k
    · rw [h]; exact e
    · exact rej_other D hq h (Nat.le_of_lt ht) hv
  | false => exact allB_F e hk
theorem rej_wo (hi : i < nn) (h1 : 1 ≤ th) (ht : th < nn) (h255 : th ≤ 255) (h7 : cn (ln : Int) ≤ 7) (hnn : nn ≤ 255) : conB s (wo (chS S i k v) i) (i + (nn - (i + 1))) = true := by
  have e : wo (chS S i k v) i = fun j => S (if j < i then j else j + 1) := by
    funext j
    unfold wo chS
    by_cases h : j < i
    · rw [if_pos h, if_pos h, if_neg (by omega)]
    · rw [if_neg h, if_neg h, if_neg (by omega)]
  rw [e, show i + (nn - (i + 1)) = nn - 1 by omega]
  obtain ⟨g', _, _, _, hth, on'⟩ := D.sel (m' := nn - 1) (σ := fun j => if j < i then j else j + 1) (by omega) (fun j hj => by show (if j < i then j else j + 1) < nn; split <;> omega) (fun a b hab hb => by show (if a < i then a else a + 1) ≠ (if b < i then b else b + 1); split <;> split <;> omega) (by omega) h255 h7 (by omega)
  exact OnP.con (F := F) (by rw [hth]; exact on') g'
end
theorem susL_mem {s : Bool} {S : Nat → Shr} {m k : Nat} (h : conB s (wo S k) (k + (m - (k + 1))) = true) : ∀ K, k < K → ((k : Nat) : Int) ∈ susL s S m K
  | K + 1, hK => by
    show ((k : Nat) : Int) ∈ (if _ then susL s S m K ++ [(K : Int)] else susL s S m K)
    by_cases e : k = K
    · subst e
      rw [if_pos h]
      exact List.mem_append.2 (.inr (List.mem_singleton.2 rfl))
    · have ih := susL_mem h K (by omega)
      split
      · exact List.mem_append.2 (.inl ih)
      · exact ih
theorem index_c (n lc k0 : Nat) (la : Option Addr) (f : Nat → Int) (x : Int) (W : World) (HX : LstAt W 1 (.slice la n lc) n (en ic f n)) (hk0 : k0 < n) (hx : f k0 = x) (hn : n ≤ 1000000) : Calls Tryz.prog 70 [.slice la n lc, .int .i64 x].toArray W fun e w => ∃ j : Nat, e = .returned (.int .i64 ((j : Nat) : Int)) ∧ Below W.heap.size W w := by
 refine c_enter (args := [.slice la n lc, .int .i64 x]) Tryz.func70 rfl rfl rfl fun a hk => ?_
 have hs := Sat.start W [lst 1 (.slice la n lc) n (en ic (fun i => f i) n)] (okr1 HX)
 refine wS (wR ?_)
 refine q_v hk (w_as rfl) fun a hk => ?_
 refine c_end (x_t (wS (wS (wR ?_))))
 refine q_v hk (w_mv rfl) fun a hk => ?_
 refine q_v hk (w_len rfl Tryz.underlying34) fun a hk => ?_
 refine q_v hk (w_mv rfl) fun a hk => ?_
 refine c_end (x_t ?_)
 refine wpIn_block ?_
 refine c_loop (α := Nat) (fun k a w => k ≤ k0 ∧ Kn [] 19 [(8, .int .i64 ((k : Nat) : Int)), (7, .int .i64 ((n : Nat) : Int)), (0, .slice la n lc), (1, .int .i64 x)] a ∧ Sat no W [] [lst 1 (.slice la n lc) n (en ic (fun i => f i) n)] w) (fun k => n - k) 0 ?_ ?_
 · exact ⟨(by omega), hk.k rfl (hk.k rfl (hk.k rfl (hk.k rfl hk.nil))), hs⟩
 rintro k a w ⟨hf0, hk, hs⟩
 refine wS (wR ?_)
 rcases Classical.em (((k : Nat) : Int) < ((n : Nat) : Int)) with hc1 | hc1
 ·
  refine q_v hk (w_lt rfl rfl (decide_eq_true hc1)) fun a hk => ?_
  refine c_end (x_t (wS ?_))
  refine c_T hk rfl ?_
  refine (wpIn_skip (x_t ?_))
  refine wS ?_
  refine wpIn_block ?_
  refine wS (wR ?_)
  refine q_v hk (w_mv rfl) fun a hk => ?_
  refine q_v hk (w_as rfl) fun a hk => ?_
  refine c_end (x_t (wS (wR ?_)))
  refine q_v hk (w_mv rfl) fun a hk => ?_
  refine q_v hk (w_mv rfl) fun a hk => ?_
  refine q_v hk (w_mv rfl) fun a hk => ?_
  refine q_v hk (w_iaL (k := k) rfl rfl Tryz.underlying34 ty3 (hs.ri 0 rfl) (by omega) (by omega)) fun a hk => ?_
  refine q_v hk (w_ld1 rfl ty3 (lstq (k := k) (hs.ri 0 rfl) (by omega) (en_chunk ic_len (by omega)))) fun a hk => ?_
  rcases Classical.em (x = (f k)) with hc2 | hc2
  ·
   refine q_v hk (w_eq rfl rfl (decide_eq_true hc2)) fun a hk => ?_
   refine c_end (x_t ?_)
   refine c_T hk rfl ?_
   refine wS (wR ?_)
   refine q_v hk (w_mv rfl) fun a hk => ?_
   refine q_v hk (w_as rfl) fun a hk => ?_
   refine c_end (x_t ?_)
   refine (wpIn_ret (x_br (x_tr (x_tr (x_br (x_tr ?_))))))
   refine c_ret1 hk rfl rfl ?_
   exact ⟨k, rfl, hs.toBelow⟩
  ·
   have hnx : k + 1 ≤ k0 := if h : k < k0 then h else absurd (by rw [← hx, show k0 = k by omega]) hc2
   refine q_v hk (w_eq rfl rfl (decide_eq_false hc2)) fun a hk => ?_
   refine c_end (x_t ?_)
   refine c_F hk rfl ?_
   refine (wpIn_skip (x_b (x_t ?_)))
   refine wR ?_
   refine q_v hk (w_add rfl rfl (wr64 (by omega) (by omega))) fun a hk => ?_
   refine q_v hk (w_mv rfl) fun a hk => ?_
   refine c_end (x_t ?_)
   exact ⟨k + 1, ⟨hnx, hk.k rfl (hk.k rfl (hk.k rfl (hk.k rfl hk.nil))), hs⟩, by omega⟩
 ·
  refine q_v hk (w_lt rfl rfl (decide_eq_false hc1)) fun a hk => ?_
  refine c_end (x_t (wS ?_))
  refine c_F hk rfl ?_
  refine (wpIn_exit (x_te (x_te (x_be ?_))))
  refine (x_t ?_)
  refine wS (wR ?_)
  refine q_v hk (w_as rfl) fun a hk => ?_
  refine c_end (x_t ?_)
  refine (wpIn_ret ?_)
  refine c_ret1 hk rfl rfl ?_
  exfalso; omega
theorem containsI_c (n lc k0 : Nat) (la : Option Addr) (f : Nat → Int) (x : Int) (W : World) (HX : LstAt W 1 (.slice la n lc) n (en ic f n)) (hk0 : k0 < n) (hx : f k0 = x) (hn : n ≤ 1000000) : Calls Tryz.prog 31 [.slice la n lc, .int .i64 x].toArray W fun e w => e = .returned (.bool true) ∧ Below W.heap.size W w := by
 refine c_enter (args := [.slice la n lc, .int .i64 x]) Tryz.func31 rfl rfl rfl fun a hk => ?_
 have hs := Sat.start W [lst 1 (.slice la n lc) n (en ic (fun i => f i) n)] (okr1 HX)
 refine wS (wR ?_)
 refine q_v hk (w_as rfl) fun a hk => ?_
 refine c_end (x_t (wS (wR ?_)))
 refine q_v hk (w_mv rfl) fun a hk => ?_
 refine q_v hk (w_mv rfl) fun a hk => ?_
 refine q_call (caps := []) hk rfl rfl Tryz.func70 fo70 rfl rfl (index_c n lc k0 la f x _ (hs.ri 0 rfl) hk0 hx hn) ?_
 rintro _ w ⟨k1, rfl, hb⟩
 have hs := hs.below hb
 refine ⟨_, rfl, fun a hk => ?_⟩
 refine q_v hk (w_ge rfl rfl (decide_eq_true (by omega))) fun a hk => ?_
 refine q_v hk (w_as rfl) fun a hk => ?_
 refine c_end (x_t ?_)
 refine (wpIn_ret ?_)
 refine c_ret1 hk rfl rfl ?_
 exact ⟨rfl, hs.toBelow⟩
end Go.Proofs.YtdnkkbmpefhbjaaGreatDoor
namespace Go.Proofs.YtdnkkbmpefhbjaaGreatDoor
set_option linter.all false
open Go Go.RowKit Alg
/-- The payload's row of a share. -/
def prow (S : Nat → Shr) (j : Nat) : Res := row 56 4 (.slice (S j).a (S j).n (S j).c) (S j).n (en vq (S j).X (S j).n)
section
variable {F0 : Nat → Prop} {W w : World} {M R : List Res} {a : Option Addr} {m c i k v : Nat} {S : Nat → Shr}
theorem chS_i : chS S i k v i = chg (S i) k v := if_pos rfl
theorem chS_j {j : Nat} (h : j ≠ i) : chS S i k v j = S j := if_neg h
theorem own_close (hs : Sat F0 W (row 56 4 (.slice (S i).a (S i).n (S i).c) (S i).n (en vq (fun ch => if ch = k then v else (S i).X ch) (S i).n) :: bun (((List.range m).erase i).map (prow S)) :: row 53 5 (.slice a m c) m (en shc S m) :: M) R w) (hi : i < m) : Sat F0 W (ownS a m c (chS S i k v) :: M) R w := by
  have e1 : prow (chS S i k v) i = row 56 4 (.slice (S i).a (S i).n (S i).c) (S i).n (en vq (fun ch => if ch = k then v else (S i).X ch) (S i).n) := by unfold prow; rw [chS_i]; rfl
  rw [← e1] at hs
  have h1 := Sat.up1 (Sat.unpick (g := prow (chS S i k v)) (f := prow S) hs hi fun j _ hne => by unfold prow; rw [chS_j hne])
  have e2 : en shc S m = en shc (chS S i k v) m := by
    unfold en
    refine congrArg (fun g => List.flatMap g (List.range m)) (funext fun j => ?_)
    by_cases h : j = i
    · subst h; rw [chS_i]; rfl
    · rw [chS_j h]
  rw [e2] at h1
  exact Sat.pack (l := [_, _]) h1
end
end Go.Proofs.YtdnkkbmpefhbjaaGreatDoor
namespace Go.Proofs.YtdnkkbmpefhbjaaGreatDoor
set_option linter.all false
open Go Go.RowKit
theorem addr0 (q : Addr) (h : q.spot = none) : q = q.add 0 := by
  obtain ⟨b, o, t⟩ := q
  cases h
  exact (add_pos (b := b) (o := o) (j := 0)).symm
end Go.Proofs.YtdnkkbmpefhbjaaGreatDoor
namespace Go.Proofs.YtdnkkbmpefhbjaaGreatDoor
set_option linter.all false
open Go Go.RowKit Alg
end Go.Proofs.YtdnkkbmpefhbjaaGreatDoor
namespace Go.Proofs.YtdnkkbmpefhbjaaGreatDoor
set_option linter.all false
open Go Go.RowKit Alg
theorem zn_num {s : Bool} {x : Nat} (h : x < pr s) : zv (zn s x) = x := Nat.mod_eq_of_lt h
theorem rej_key {s : Bool} {x : Nat} (h : x < pr s) (y : Zp s) : mz s (zv (zn s x + y)) = mz s x ↔ y = 0 := by
  rw [mz_add, zn_num h]
  constructor
  · intro e; exact (mz_zero_iff y).1 (by grind)
  · rintro rfl; rw [(mz_zero_iff (0 : Zp s)).2 rfl]; grind
theorem containsL_c {n lc : Nat} {la : Option Addr} {l : List Int} {x : Int} {W : World} (hx : x ∈ l) (HX : LstAt W 1 (.slice la n lc) n (el ic l)) (hn : n ≤ 1000000) : Calls Tryz.prog 31 #[.slice la n lc, .int .i64 x] W fun e w => e = .returned (.bool true) ∧ Below W.heap.size W w := by
  have hl := HX.len
  rw [el_len ic_len] at hl
  obtain rfl : l.length = n := by omega
  obtain ⟨k, hk, e⟩ := List.getElem_of_mem hx
  have en1 : el ic l = en ic (fun i => l.getD i 0) l.length := by
    rw [en_el]
    congr 1
    apply List.ext_getElem
    · simp
    · intro i h1 h2; simp at h2 ⊢; rw [List.getElem?_eq_getElem h1]; rfl
  rw [en1] at HX
  exact containsI_c _ lc k la _ x W HX hk (by rw [← e]; simp [List.getD, List.getElem?_eq_getElem hk]) hn
theorem lawRej_bad (F T N L : Int) (sn rn sc rc xf xk : Nat) (sa ra : Option Addr) (yv : Nat) (W : World) (hno : ¬ okDeal F T N L sn rn) (HL : Laid W) : Calls Tryz.prog 6 [.agg #[.int .i64 F, .int .i64 T, .int .i64 N, .int .i64 L, .slice sa sn sc, .slice ra rn rc], .agg #[.int .u8 ((xf : Nat) : Int), .int .u8 ((xk : Nat) : Int)], vec yv].toArray W fun e w => e = .returned (.bool true) ∧ Below W.heap.size W w := by
 refine c_enter (args := [.agg #[.int .i64 F, .int .i64 T, .int .i64 N, .int .i64 L, .slice sa sn sc, .slice ra rn rc], .agg #[.int .u8 ((xf : Nat) : Int), .int .u8 ((xk : Nat) : Int)], vec yv]) Tryz.func6 rfl rfl rfl fun a hk => ?_
 have hs := Sat.start W [] (fun _ h => by cases h)
 refine wS (wR ?_)
 refine q_box (vs := [.int .i64 F, .int .i64 T, .int .i64 N, .int .i64 L, .slice sa sn sc, .slice ra rn rc]) hk hs rfl rfl rfl rfl fun b1 w a hk hs => ?_
 refine q_box (vs := [.int .u8 ((xf : Nat) : Int), .int .u8 ((xk : Nat) : Int)]) hk hs rfl rfl rfl rfl fun b2 w a hk hs => ?_
 refine q_box (vs := [.int .u64 ((dg 0 yv : Nat) : Int), .int .u64 ((dg 1 yv : Nat) : Int), .int .u64 ((dg 2 yv : Nat) : Int), .int .u64 ((dg 3 yv : Nat) : Int)]) hk hs rfl rfl rfl rfl fun b3 w a hk hs => ?_
 refine q_v hk (w_as rfl) fun a hk => ?_
 refine c_end (x_t (wS (wS (wR ?_))))
 refine q_v hk (w_fa rfl fq44_0 ty41) fun a hk => ?_
 refine q_v hk (w_ldA rfl ty41 (.blk (n := 4) (hs.mi 2 rfl) rfl) rfl) fun a hk => ?_
 refine q_v hk (w_fa rfl fq44_1 ty42) fun a hk => ?_
 refine q_v hk (w_ld1 rfl ty42 (.blk (n := 1) (hs.mi 2 rfl) rfl)) fun a hk => ?_
 refine q_v hk (w_fa rfl fq44_2 ty42) fun a hk => ?_
 refine q_v hk (w_ld1 rfl ty42 (.blk (n := 1) (hs.mi 2 rfl) rfl)) fun a hk => ?_
 refine q_call (caps := []) hk rfl rfl Tryz.func26 fo26 rfl rfl (large16_c F T N L sn rn sc rc sa ra _) ?_
 rintro _ w ⟨x4, rfl, hb, hlg⟩
 have hs := hs.below hb
 refine ⟨_, rfl, fun a hk => ?_⟩
 rcases Classical.em (0 < x4) with hc5 | hc5
 ·
  refine q_v hk (w_gt rfl rfl (decide_eq_true hc5)) fun a hk => ?_
  refine q_v hk (w_mv rfl) fun a hk => ?_
  refine q_skip hk rfl rfl fun a hk => ?_
  refine q_skip hk rfl rfl fun a hk => ?_
  refine q_skip hk rfl rfl fun a hk => ?_
  refine q_skip hk rfl rfl fun a hk => ?_
  refine q_v hk (w_pickT rfl rfl) fun a hk => ?_
  refine q_v hk (w_mv rfl) fun a hk => ?_
  refine q_skip hk rfl rfl fun a hk => ?_
  refine q_skip hk rfl rfl fun a hk => ?_
  refine q_skip hk rfl rfl fun a hk => ?_
  refine q_skip hk rfl rfl fun a hk => ?_
  refine q_skip hk rfl rfl fun a hk => ?_
  refine q_skip hk rfl rfl fun a hk => ?_
  refine q_skip hk rfl rfl fun a hk => ?_
  refine q_v hk (w_pickT rfl rfl) fun a hk => ?_
  refine c_end (x_t ?_)
  refine c_T hk rfl ?_
  refine wS (wR ?_)
  refine q_call (caps := []) hk rfl rfl Tryz.func16 fo16 rfl rfl (alive18_c _ (HL.step hs.toBelow)) ?_
  rintro _ w ⟨rfl, hb⟩
  have hs := hs.below hb
  refine ⟨_, rfl, fun a hk => ?_⟩
  refine q_v hk (w_as rfl) fun a hk => ?_
  refine c_end (x_t ?_)
  refine (wpIn_ret (x_tr ?_))
  refine c_ret1 hk rfl rfl ?_
  exact ⟨rfl, hs.toBelow⟩
 ·
  obtain ⟨hs200, hr104⟩ := hlg hc5
  refine q_v hk (w_gt rfl rfl (decide_eq_false hc5)) fun a hk => ?_
  refine q_v hk (w_mv rfl) fun a hk => ?_
  refine q_v hk (w_fa rfl fq44_0 ty41) fun a hk => ?_
  refine q_v hk (w_fa rfl fq41_2 ty3) fun a hk => ?_
  refine q_v hk (w_ld1 rfl ty3 (.blk (n := 1) (hs.mi 2 rfl) rfl)) fun a hk => ?_
  rcases Classical.em (7 < N) with hc6 | hc6
  ·
   refine q_v hk (w_gt rfl rfl (decide_eq_true hc6)) fun a hk => ?_
   refine q_v hk (w_pickF rfl rfl) fun a hk => ?_
   refine q_v hk (w_mv rfl) fun a hk => ?_
   refine q_skip hk rfl rfl fun a hk => ?_
   refine q_skip hk rfl rfl fun a hk => ?_
   refine q_skip hk rfl rfl fun a hk => ?_
   refine q_skip hk rfl rfl fun a hk => ?_
   refine q_skip hk rfl rfl fun a hk => ?_
   refine q_skip hk rfl rfl fun a hk => ?_
   refine q_skip hk rfl rfl fun a hk => ?_
   refine q_v hk (w_pickT rfl rfl) fun a hk => ?_
   refine c_end (x_t ?_)
   refine c_T hk rfl ?_
   refine wS (wR ?_)
   refine q_call (caps := []) hk rfl rfl Tryz.func16 fo16 rfl rfl (alive18_c _ (HL.step hs.toBelow)) ?_
   rintro _ w ⟨rfl, hb⟩
   have hs := hs.below hb
   refine ⟨_, rfl, fun a hk => ?_⟩
   refine q_v hk (w_as rfl) fun a hk => ?_
   refine c_end (x_t ?_)
   refine (wpIn_ret (x_tr ?_))
   refine c_ret1 hk rfl rfl ?_
   exact ⟨rfl, hs.toBelow⟩
  ·
   refine q_v hk (w_gt rfl rfl (decide_eq_false hc6)) fun a hk => ?_
   refine q_v hk (w_pickF rfl rfl) fun a hk => ?_
   refine q_v hk (w_mv rfl) fun a hk => ?_
   refine q_v hk (w_fa rfl fq44_0 ty41) fun a hk => ?_
   refine q_v hk (w_fa rfl fq41_1 ty3) fun a hk => ?_
   refine q_v hk (w_ld1 rfl ty3 (.blk (n := 1) (hs.mi 2 rfl) rfl)) fun a hk => ?_
   refine q_v hk (w_fa rfl fq44_0 ty41) fun a hk => ?_
   refine q_v hk (w_fa rfl fq41_2 ty3) fun a hk => ?_
   refine q_v hk (w_ld1 rfl ty3 (.blk (n := 1) (hs.mi 2 rfl) rfl)) fun a hk => ?_
   rcases Classical.em (N ≤ T) with hc7 | hc7
   ·
    refine q_v hk (w_ge rfl rfl (decide_eq_true hc7)) fun a hk => ?_
    refine q_v hk (w_pickF rfl rfl) fun a hk => ?_
    refine c_end (x_t ?_)
    refine c_T hk rfl ?_
    refine wS (wR ?_)
    refine q_call (caps := []) hk rfl rfl Tryz.func16 fo16 rfl rfl (alive18_c _ (HL.step hs.toBelow)) ?_
    rintro _ w ⟨rfl, hb⟩
    have hs := hs.below hb
    refine ⟨_, rfl, fun a hk => ?_⟩
    refine q_v hk (w_as rfl) fun a hk => ?_
    refine c_end (x_t ?_)
    refine (wpIn_ret (x_tr ?_))
    refine c_ret1 hk rfl rfl ?_
    exact ⟨rfl, hs.toBelow⟩
   ·
    refine q_v hk (w_ge rfl rfl (decide_eq_false hc7)) fun a hk => ?_
    refine q_v hk (w_pickF rfl rfl) fun a hk => ?_
    refine c_end (x_t ?_)
    refine c_F hk rfl ?_
    refine (wpIn_skip (x_t ?_))
    refine wS (wR ?_)
    refine q_v hk (w_fa rfl fq44_0 ty41) fun a hk => ?_
    refine q_v hk (w_ldA rfl ty41 (.blk (n := 4) (hs.mi 2 rfl) rfl) rfl) fun a hk => ?_
    refine q_v hk (w_fa rfl fq44_1 ty42) fun a hk => ?_
    refine q_v hk (w_ld1 rfl ty42 (.blk (n := 1) (hs.mi 2 rfl) rfl)) fun a hk => ?_
    refine q_v hk (w_fa rfl fq44_2 ty42) fun a hk => ?_
    refine q_v hk (w_ld1 rfl ty42 (.blk (n := 1) (hs.mi 2 rfl) rfl)) fun a hk => ?_
    refine q_call (caps := []) hk rfl rfl Tryz.func27 fo27 rfl rfl (dealNo hno (by omega)) ?_
    rintro _ w ⟨q8, rfl, hq, hb⟩
    have hs := hs.below hb
    refine ⟨_, rfl, fun a hk => ?_⟩
    refine q_v hk (w_mv rfl) fun a hk => ?_
    refine q_v hk (w_ext rfl rfl) fun a hk => ?_
    refine q_v hk (w_ext rfl rfl) fun a hk => ?_
    refine q_v hk (w_as rfl) fun a hk => ?_
    refine q_v hk (w_as rfl) fun a hk => ?_
    refine c_end (x_t (wS (wS (wR ?_))))
    refine q_v hk (w_mv rfl) fun a hk => ?_
    refine q_v hk (w_ne rfl rfl (decide_eq_true hq)) fun a hk => ?_
    refine q_v hk (w_mv rfl) fun a hk => ?_
    refine q_skip hk rfl rfl fun a hk => ?_
    refine q_skip hk rfl rfl fun a hk => ?_
    refine q_skip hk rfl rfl fun a hk => ?_
    refine q_skip hk rfl rfl fun a hk => ?_
    refine q_skip hk rfl rfl fun a hk => ?_
    refine q_skip hk rfl rfl fun a hk => ?_
    refine q_v hk (w_pickT rfl rfl) fun a hk => ?_
    refine c_end (x_t ?_)
    refine c_T hk rfl ?_
    refine wS (wR ?_)
    refine q_call (caps := []) hk rfl rfl Tryz.func16 fo16 rfl rfl (alive18_c _ (HL.step hs.toBelow)) ?_
    rintro _ w ⟨rfl, hb⟩
    have hs := hs.below hb
    refine ⟨_, rfl, fun a hk => ?_⟩
    refine q_v hk (w_as rfl) fun a hk => ?_
    refine c_end (x_t ?_)
    refine (wpIn_ret (x_tr ?_))
    refine c_ret1 hk rfl rfl ?_
    exact ⟨rfl, hs.toBelow⟩
theorem lawRej_same (s : Bool) (th nn ln rn sc rc xf xk : Nat) (sa ra : Option Addr) (f fr : Nat → Nat) (yv : Nat) (W : World) (h0 : prErr (fid s) ((th : Nat) : Int) ((nn : Nat) : Int) ((ln : Nat) : Int) = 0) (HS : LstAt W 1 (.slice sa ln sc) ln (en bc f ln)) (hf : ∀ j, f j < 256) (HR : LstAt W 1 (.slice ra rn rc) rn (en bc fr rn)) (hfr : ∀ j, fr j < 256) (hr : 64 * (th - 1) * cn ((ln : Nat) : Int) ≤ rn) (HL : Laid W) (hx8 : xf ≤ 255) (hy8 : xk ≤ 255) (hy4 : yv < R4) (hyz : zn s yv = 0) : Calls Tryz.prog 6 [.agg #[.int .i64 (fid s), .int .i64 ((th : Nat) : Int), .int .i64 ((nn : Nat) : Int), .int .i64 ((ln : Nat) : Int), .slice sa ln sc, .slice ra rn rc], .agg #[.int .u8 ((xf : Nat) : Int), .int .u8 ((xk : Nat) : Int)], vec yv].toArray W fun e w => e = .returned (.bool true) ∧ Below W.heap.size W w := by
 obtain ⟨_, h1, h2, h3, h4, h5, h6⟩ := prErr_0 h0
 obtain ⟨ti, hi0⟩ : ∃ i, xf % nn = i := ⟨_, rfl⟩
 have hi : ti < nn := by rw [← hi0]; exact Nat.mod_lt _ (by omega)
 refine c_enter (args := [.agg #[.int .i64 (fid s), .int .i64 ((th : Nat) : Int), .int .i64 ((nn : Nat) : Int), .int .i64 ((ln : Nat) : Int), .slice sa ln sc, .slice ra rn rc], .agg #[.int .u8 ((xf : Nat) : Int), .int .u8 ((xk : Nat) : Int)], vec yv]) Tryz.func6 rfl rfl rfl fun a hk => ?_
 have hs := Sat.start W [lst 1 (.slice sa ln sc) ln (en bc (fun i => f i) ln), lst 1 (.slice ra rn rc) rn (en bc (fun i => fr i) rn)] (okrc HS (okr1 HR))
 refine wS (wR ?_)
 refine q_box (vs := [.int .i64 (fid s), .int .i64 ((th : Nat) : Int), .int .i64 ((nn : Nat) : Int), .int .i64 ((ln : Nat) : Int), .slice sa ln sc, .slice ra rn rc]) hk hs rfl rfl rfl rfl fun b1 w a hk hs => ?_
 refine q_box (vs := [.int .u8 ((xf : Nat) : Int), .int .u8 ((xk : Nat) : Int)]) hk hs rfl rfl rfl rfl fun b2 w a hk hs => ?_
 refine q_box (vs := [.int .u64 ((dg 0 yv : Nat) : Int), .int .u64 ((dg 1 yv : Nat) : Int), .int .u64 ((dg 2 yv : Nat) : Int), .int .u64 ((dg 3 yv : Nat) : Int)]) hk hs rfl rfl rfl rfl fun b3 w a hk hs => ?_
 refine q_v hk (w_as rfl) fun a hk => ?_
 refine c_end (x_t (wS (wS (wR ?_))))
 refine q_v hk (w_fa rfl fq44_0 ty41) fun a hk => ?_
 refine q_v hk (w_ldA rfl ty41 (.blk (n := 4) (hs.mi 2 rfl) rfl) rfl) fun a hk => ?_
 refine q_v hk (w_fa rfl fq44_1 ty42) fun a hk => ?_
 refine q_v hk (w_ld1 rfl ty42 (.blk (n := 1) (hs.mi 2 rfl) rfl)) fun a hk => ?_
 refine q_v hk (w_fa rfl fq44_2 ty42) fun a hk => ?_
 refine q_v hk (w_ld1 rfl ty42 (.blk (n := 1) (hs.mi 2 rfl) rfl)) fun a hk => ?_
 refine q_call (caps := []) hk rfl rfl Tryz.func26 fo26 rfl rfl (large16_c (fid s) ((th : Nat) : Int) ((nn : Nat) : Int) ((ln : Nat) : Int) ln rn sc rc sa ra _) ?_
 rintro _ w ⟨x4, rfl, hb, hlg⟩
 have hs := hs.below hb
 refine ⟨_, rfl, fun a hk => ?_⟩
 rcases Classical.em (0 < x4) with hc5 | hc5
 ·
  refine q_v hk (w_gt rfl rfl (decide_eq_true hc5)) fun a hk => ?_
  refine q_v hk (w_mv rfl) fun a hk => ?_
  refine q_skip hk rfl rfl fun a hk => ?_
  refine q_skip hk rfl rfl fun a hk => ?_
  refine q_skip hk rfl rfl fun a hk => ?_
  refine q_skip hk rfl rfl fun a hk => ?_
  refine q_v hk (w_pickT rfl rfl) fun a hk => ?_
  refine q_v hk (w_mv rfl) fun a hk => ?_
  refine q_skip hk rfl rfl fun a hk => ?_
  refine q_skip hk rfl rfl fun a hk => ?_
  refine q_skip hk rfl rfl fun a hk => ?_
  refine q_skip hk rfl rfl fun a hk => ?_
  refine q_skip hk rfl rfl fun a hk => ?_
  refine q_skip hk rfl rfl fun a hk => ?_
  refine q_skip hk rfl rfl fun a hk => ?_
  refine q_v hk (w_pickT rfl rfl) fun a hk => ?_
  refine c_end (x_t ?_)
  refine c_T hk rfl ?_
  refine wS (wR ?_)
  refine q_call (caps := []) hk rfl rfl Tryz.func16 fo16 rfl rfl (alive18_c _ (HL.step hs.toBelow)) ?_
  rintro _ w ⟨rfl, hb⟩
  have hs := hs.below hb
  refine ⟨_, rfl, fun a hk => ?_⟩
  refine q_v hk (w_as rfl) fun a hk => ?_
  refine c_end (x_t ?_)
  refine (wpIn_ret (x_tr ?_))
  refine c_ret1 hk rfl rfl ?_
  exact ⟨rfl, hs.toBelow⟩
 ·
  obtain ⟨hs200, hr104⟩ := hlg hc5
  refine q_v hk (w_gt rfl rfl (decide_eq_false hc5)) fun a hk => ?_
  refine q_v hk (w_mv rfl) fun a hk => ?_
  refine q_v hk (w_fa rfl fq44_0 ty41) fun a hk => ?_
  refine q_v hk (w_fa rfl fq41_2 ty3) fun a hk => ?_
  refine q_v hk (w_ld1 rfl ty3 (.blk (n := 1) (hs.mi 2 rfl) rfl)) fun a hk => ?_
  rcases Classical.em (7 < ((nn : Nat) : Int)) with hc6 | hc6
  ·
   refine q_v hk (w_gt rfl rfl (decide_eq_true hc6)) fun a hk => ?_
   refine q_v hk (w_pickF rfl rfl) fun a hk => ?_
   refine q_v hk (w_mv rfl) fun a hk => ?_
   refine q_skip hk rfl rfl fun a hk => ?_
   refine q_skip hk rfl rfl fun a hk => ?_
   refine q_skip hk rfl rfl fun a hk => ?_
   refine q_skip hk rfl rfl fun a hk => ?_
   refine q_skip hk rfl rfl fun a hk => ?_
   refine q_skip hk rfl rfl fun a hk => ?_
   refine q_skip hk rfl rfl fun a hk => ?_
   refine q_v hk (w_pickT rfl rfl) fun a hk => ?_
   refine c_end (x_t ?_)
   refine c_T hk rfl ?_
   refine wS (wR ?_)
   refine q_call (caps := []) hk rfl rfl Tryz.func16 fo16 rfl rfl (alive18_c _ (HL.step hs.toBelow)) ?_
   rintro _ w ⟨rfl, hb⟩
   have hs := hs.below hb
   refine ⟨_, rfl, fun a hk => ?_⟩
   refine q_v hk (w_as rfl) fun a hk => ?_
   refine c_end (x_t ?_)
   refine (wpIn_ret (x_tr ?_))
   refine c_ret1 hk rfl rfl ?_
   exact ⟨rfl, hs.toBelow⟩
  ·
   refine q_v hk (w_gt rfl rfl (decide_eq_false hc6)) fun a hk => ?_
   refine q_v hk (w_pickF rfl rfl) fun a hk => ?_
   refine q_v hk (w_mv rfl) fun a hk => ?_
   refine q_v hk (w_fa rfl fq44_0 ty41) fun a hk => ?_
   refine q_v hk (w_fa rfl fq41_1 ty3) fun a hk => ?_
   refine q_v hk (w_ld1 rfl ty3 (.blk (n := 1) (hs.mi 2 rfl) rfl)) fun a hk => ?_
   refine q_v hk (w_fa rfl fq44_0 ty41) fun a hk => ?_
   refine q_v hk (w_fa rfl fq41_2 ty3) fun a hk => ?_
   refine q_v hk (w_ld1 rfl ty3 (.blk (n := 1) (hs.mi 2 rfl) rfl)) fun a hk => ?_
   rcases Classical.em (((nn : Nat) : Int) ≤ ((th : Nat) : Int)) with hc7 | hc7
   ·
    refine q_v hk (w_ge rfl rfl (decide_eq_true hc7)) fun a hk => ?_
    refine q_v hk (w_pickF rfl rfl) fun a hk => ?_
    refine c_end (x_t ?_)
    refine c_T hk rfl ?_
    refine wS (wR ?_)
    refine q_call (caps := []) hk rfl rfl Tryz.func16 fo16 rfl rfl (alive18_c _ (HL.step hs.toBelow)) ?_
    rintro _ w ⟨rfl, hb⟩
    have hs := hs.below hb
    refine ⟨_, rfl, fun a hk => ?_⟩
    refine q_v hk (w_as rfl) fun a hk => ?_
    refine c_end (x_t ?_)
    refine (wpIn_ret (x_tr ?_))
    refine c_ret1 hk rfl rfl ?_
    exact ⟨rfl, hs.toBelow⟩
   ·
    refine q_v hk (w_ge rfl rfl (decide_eq_false hc7)) fun a hk => ?_
    refine q_v hk (w_pickF rfl rfl) fun a hk => ?_
    refine c_end (x_t ?_)
    refine c_F hk rfl ?_
    refine (wpIn_skip (x_t ?_))
    refine wS (wR ?_)
    refine q_v hk (w_fa rfl fq44_0 ty41) fun a hk => ?_
    refine q_v hk (w_ldA rfl ty41 (.blk (n := 4) (hs.mi 2 rfl) rfl) rfl) fun a hk => ?_
    refine q_v hk (w_fa rfl fq44_1 ty42) fun a hk => ?_
    refine q_v hk (w_ld1 rfl ty42 (.blk (n := 1) (hs.mi 2 rfl) rfl)) fun a hk => ?_
    refine q_v hk (w_fa rfl fq44_2 ty42) fun a hk => ?_
    refine q_v hk (w_ld1 rfl ty42 (.blk (n := 1) (hs.mi 2 rfl) rfl)) fun a hk => ?_
    refine q_call (caps := []) hk rfl rfl Tryz.func27 fo27 rfl rfl (dealW h0 (hs.ri 0 rfl) hf (hs.ri 1 rfl) hfr hr (by omega)) ?_
    rintro _ w ⟨S8, F9, a10, c11, hD, rfl, hS⟩
    have hs := Sat.unpack (hs.call1 hS)
    clear hS
    have hs : Sat no W [row 53 5 (.slice a10 nn c11) nn (en shc (fun i => S8 i) nn), bun ((List.range nn).map (prow S8)), blk b3 [.int .u64 ((dg 0 yv : Nat) : Int), .int .u64 ((dg 1 yv : Nat) : Int), .int .u64 ((dg 2 yv : Nat) : Int), .int .u64 ((dg 3 yv : Nat) : Int)] 47, blk b2 [.int .u8 ((xf : Nat) : Int), .int .u8 ((xk : Nat) : Int)] 45, blk b1 [.int .i64 (fid s), .int .i64 ((th : Nat) : Int), .int .i64 ((nn : Nat) : Int), .int .i64 ((ln : Nat) : Int), .slice sa ln sc, .slice ra rn rc] 44] [lst 1 (.slice sa ln sc) ln (en bc (fun i => f i) ln), lst 1 (.slice ra rn rc) rn (en bc (fun i => fr i) rn)] w := hs
    have hc7 := cn_200 hs200
    have hn0 : (S8 0).n = cn ((ln : Nat) : Int) := hD.n_ 0
    refine ⟨_, rfl, fun a hk => ?_⟩
    refine q_v hk (w_mv rfl) fun a hk => ?_
    refine q_v hk (w_ext rfl rfl) fun a hk => ?_
    refine q_v hk (w_ext rfl rfl) fun a hk => ?_
    refine q_v hk (w_as rfl) fun a hk => ?_
    refine q_v hk (w_as rfl) fun a hk => ?_
    refine c_end (x_t (wS (wS (wR ?_))))
    refine q_v hk (w_mv rfl) fun a hk => ?_
    refine q_v hk (w_ne rfl rfl (decide_eq_false (by decide))) fun a hk => ?_
    refine q_v hk (w_mv rfl) fun a hk => ?_
    refine q_v hk (w_mv rfl) fun a hk => ?_
    refine q_v hk (w_iaL (k := 0) rfl rfl Tryz.underlying22 ty53 (row_lst (hs.mi 0 rfl)) (by omega) (by omega)) fun a hk => ?_
    refine q_v hk (w_fa rfl fq53_4 ty51) fun a hk => ?_
    refine q_v hk (w_ld1 rfl ty51 (lstf (k := 0) (o := 4) (m := 1) (row_lst (hs.mi 0 rfl)) (by omega) (en_chunk shc_len (by omega)) rfl)) fun a hk => ?_
    refine q_v hk (w_len rfl Tryz.underlying51) fun a hk => ?_
    rcases Classical.em ((((S8 0).n : Nat) : Int) = 0) with hc12 | hc12
    ·
     refine q_v hk (w_eq rfl rfl (decide_eq_true hc12)) fun a hk => ?_
     refine q_v hk (w_pickF rfl rfl) fun a hk => ?_
     refine c_end (x_t ?_)
     refine c_T hk rfl ?_
     refine wS (wR ?_)
     refine q_call (caps := []) hk rfl rfl Tryz.func16 fo16 rfl rfl (alive18_c _ (HL.step hs.toBelow)) ?_
     rintro _ w ⟨rfl, hb⟩
     have hs := hs.below hb
     refine ⟨_, rfl, fun a hk => ?_⟩
     refine q_v hk (w_as rfl) fun a hk => ?_
     refine c_end (x_t ?_)
     refine (wpIn_ret (x_tr ?_))
     refine c_ret1 hk rfl rfl ?_
     exact ⟨rfl, hs.toBelow⟩
    ·
     refine q_v hk (w_eq rfl rfl (decide_eq_false hc12)) fun a hk => ?_
     refine q_v hk (w_pickF rfl rfl) fun a hk => ?_
     refine c_end (x_t ?_)
     refine c_F hk rfl ?_
     refine (wpIn_skip (x_t ?_))
     refine wS (wR ?_)
     refine q_v hk (w_fa rfl fq44_0 ty41) fun a hk => ?_
     refine q_v hk (w_fa rfl fq41_0 ty3) fun a hk => ?_
     refine q_v hk (w_ld1 rfl ty3 (.blk (n := 1) (hs.mi 4 rfl) rfl)) fun a hk => ?_
     refine q_call (caps := []) hk rfl rfl Tryz.func28 fo28 rfl rfl (rmodulus_z (s := s) rfl _) ?_
     rintro _ w ⟨rfl, hb⟩
     have hs := hs.below hb
     refine ⟨_, rfl, fun a hk => ?_⟩
     refine q_alc (vs := [.int .u64 0, .int .u64 0, .int .u64 0, .int .u64 0]) hk hs zr47 rfl rfl rfl fun b13 w a hk hs => ?_
     refine q_sto (o := 0) (cs := [.int .u64 ((dg 0 (pr s) : Nat) : Int), .int .u64 ((dg 1 (pr s) : Nat) : Int), .int .u64 ((dg 2 (pr s) : Nat) : Int), .int .u64 ((dg 3 (pr s) : Nat) : Int)]) (vs' := [.int .u64 ((dg 0 (pr s) : Nat) : Int), .int .u64 ((dg 1 (pr s) : Nat) : Int), .int .u64 ((dg 2 (pr s) : Nat) : Int), .int .u64 ((dg 3 (pr s) : Nat) : Int)]) hk hs rfl rfl rfl ty47 rfl rfl rfl rfl rfl rfl fun w hs => ?_
     refine c_end (x_t (wS (wR ?_)))
     refine q_v hk (w_ldv (z := pr s) rfl ty47 (.blk (n := 4) (hs.mi 0 rfl) rfl)) fun a hk => ?_
     refine q_v hk (w_ldv (z := yv) rfl ty47 (.blk (n := 4) (hs.mi 3 rfl) rfl)) fun a hk => ?_
     refine q_call (caps := []) hk rfl rfl Tryz.func29 fo29 rfl rfl (rmod_z (s := s) _ yv hy4) ?_
     rintro _ w ⟨rfl, hb⟩
     have hs := hs.below hb
     refine ⟨_, rfl, fun a hk => ?_⟩
     refine q_alc (vs := [.int .u64 0, .int .u64 0, .int .u64 0, .int .u64 0]) hk hs zr47 rfl rfl rfl fun b14 w a hk hs => ?_
     refine q_sto (o := 0) (cs := [.int .u64 ((dg 0 (zv (zn s yv)) : Nat) : Int), .int .u64 ((dg 1 (zv (zn s yv)) : Nat) : Int), .int .u64 ((dg 2 (zv (zn s yv)) : Nat) : Int), .int .u64 ((dg 3 (zv (zn s yv)) : Nat) : Int)]) (vs' := [.int .u64 ((dg 0 (zv (zn s yv)) : Nat) : Int), .int .u64 ((dg 1 (zv (zn s yv)) : Nat) : Int), .int .u64 ((dg 2 (zv (zn s yv)) : Nat) : Int), .int .u64 ((dg 3 (zv (zn s yv)) : Nat) : Int)]) hk hs rfl rfl rfl ty47 rfl rfl rfl rfl rfl rfl fun w hs => ?_
     refine c_end (x_t (wS ?_))
     obtain ⟨tk, hk0⟩ : ∃ k, xk % (S8 0).n = k := ⟨_, rfl⟩
     have htk : tk < (S8 0).n := by rw [← hk0]; exact Nat.mod_lt _ (by omega)
     have hL := okL.cons (hs.mi 5 rfl) (okL.cons (hs.mi 2 rfl) okL.nil)
     refine d_begin _ 17 (by kernel_rfl) rfl hs hL fun w hs hL => ?_
     refine d_w 0 1 hk hL rfl (fun w hL => w_iaA (k := 0) rfl rfl Tryz.underlying45 ty5 (by omega) (by omega)) fun a hk => ?_
     refine d_w 1 3 hk hL rfl (fun w hL => w_ld1 rfl ty5 (.blk (n := 1) (hL.at 0 rfl) rfl)) fun a hk => ?_
     refine d_w 2 7 hk hL rfl (fun w hL => w_conv rfl Tryz.underlying5 Tryz.underlying3 (wr64 (by omega) (by omega))) fun a hk => ?_
     refine d_w 3 15 hk hL rfl (fun w hL => w_mv rfl) fun a hk => ?_
     refine d_w 4 31 hk hL rfl (fun w hL => w_len rfl Tryz.underlying22) fun a hk => ?_
     refine d_w 5 63 hk hL rfl (fun w hL => w_rem (r := ((ti : Nat) : Int)) rfl rfl (by omega) (by rw [wmd (by omega), ← hi0]; exact (Int.natCast_emod xf nn).symm)) fun a hk => ?_
     refine d_w 6 127 hk hL rfl (fun w hL => w_iaA (k := 1) rfl rfl Tryz.underlying45 ty5 (by omega) (by omega)) fun a hk => ?_
     refine d_w 7 255 hk hL rfl (fun w hL => w_ld1 rfl ty5 (.blk (n := 1) (hL.at 0 rfl) rfl)) fun a hk => ?_
     refine d_w 8 511 hk hL rfl (fun w hL => w_conv rfl Tryz.underlying5 Tryz.underlying3 (wr64 (by omega) (by omega))) fun a hk => ?_
     refine d_w 9 1023 hk hL rfl (fun w hL => w_mv rfl) fun a hk => ?_
     refine d_w 10 2047 hk hL rfl (fun w hL => w_iaL (k := 0) rfl rfl Tryz.underlying22 ty53 (row_lst (hL.at 1 rfl)) (by omega) (by omega)) fun a hk => ?_
     refine d_w 11 4095 hk hL rfl (fun w hL => w_fa rfl fq53_4 ty51) fun a hk => ?_
     refine d_w 12 8191 hk hL rfl (fun w hL => w_ld1 rfl ty51 (lstf (k := 0) (o := 4) (m := 1) (row_lst (hL.at 1 rfl)) (by omega) (en_chunk shc_len (by omega)) rfl)) fun a hk => ?_
     refine d_w 13 16383 hk hL rfl (fun w hL => w_len rfl Tryz.underlying51) fun a hk => ?_
     refine d_w 14 32767 hk hL rfl (fun w hL => w_rem (r := ((tk : Nat) : Int)) rfl rfl (by omega) (by rw [wmd (by omega), ← hk0]; exact (Int.natCast_emod xk (S8 0).n).symm)) fun a hk => ?_
     refine d_w 15 65535 hk hL rfl (fun w hL => w_as rfl) fun a hk => ?_
     refine d_w 16 131071 hk hL rfl (fun w hL => w_as rfl) fun a hk => ?_
     refine d_end (by kernel_rfl) ?_
     refine (x_t ?_)
     refine wS ?_
     have hs := hs.up3
     have hs := Sat.pick hs hi
     have hs : Sat no W [row 56 4 (.slice ((S8 ti).a) ((S8 ti).n) ((S8 ti).c)) ((S8 ti).n) (en vq (fun i => (S8 ti).X i) ((S8 ti).n)), bun (((List.range nn).erase ti).map (prow S8)), blk b14 [.int .u64 ((dg 0 (zv (zn s yv)) : Nat) : Int), .int .u64 ((dg 1 (zv (zn s yv)) : Nat) : Int), .int .u64 ((dg 2 (zv (zn s yv)) : Nat) : Int), .int .u64 ((dg 3 (zv (zn s yv)) : Nat) : Int)] 47, blk b13 [.int .u64 ((dg 0 (pr s) : Nat) : Int), .int .u64 ((dg 1 (pr s) : Nat) : Int), .int .u64 ((dg 2 (pr s) : Nat) : Int), .int .u64 ((dg 3 (pr s) : Nat) : Int)] 47, row 53 5 (.slice a10 nn c11) nn (en shc (fun i => S8 i) nn), blk b3 [.int .u64 ((dg 0 yv : Nat) : Int), .int .u64 ((dg 1 yv : Nat) : Int), .int .u64 ((dg 2 yv : Nat) : Int), .int .u64 ((dg 3 yv : Nat) : Int)] 47, blk b2 [.int .u8 ((xf : Nat) : Int), .int .u8 ((xk : Nat) : Int)] 45, blk b1 [.int .i64 (fid s), .int .i64 ((th : Nat) : Int), .int .i64 ((nn : Nat) : Int), .int .i64 ((ln : Nat) : Int), .slice sa ln sc, .slice ra rn rc] 44] [lst 1 (.slice sa ln sc) ln (en bc (fun i => f i) ln), lst 1 (.slice ra rn rc) rn (en bc (fun i => fr i) rn)] w := hs
     have hkn : tk < (S8 ti).n := by rw [hD.n_]; omega
     have hxp := hD.g.X ti hi tk htk
     have hL := okL.cons (hs.mi 4 rfl) (okL.cons (hs.mi 3 rfl) (okL.cons (hs.mi 2 rfl) okL.nil))
     refine d_begin _ 19 (by kernel_rfl) rfl hs hL fun w hs hL => ?_
     refine d_w 0 1 hk hL rfl (fun w hL => w_mv rfl) fun a hk => ?_
     refine d_w 1 3 hk hL rfl (fun w hL => w_mv rfl) fun a hk => ?_
     refine d_w 2 7 hk hL rfl (fun w hL => w_iaL (k := ti) rfl rfl Tryz.underlying22 ty53 (row_lst (hL.at 0 rfl)) (by omega) (by omega)) fun a hk => ?_
     refine d_w 3 15 hk hL rfl (fun w hL => w_fa rfl fq53_4 ty51) fun a hk => ?_
     refine d_w 4 31 hk hL rfl (fun w hL => w_ld1 rfl ty51 (lstf (k := ti) (o := 4) (m := 1) (row_lst (hL.at 0 rfl)) (by omega) (en_chunk shc_len (by omega)) rfl)) fun a hk => ?_
     refine d_w 5 63 hk hL rfl (fun w hL => w_mv rfl) fun a hk => ?_
     refine d_w 6 127 hk hL rfl (fun w hL => w_ldv (z := pr s) rfl ty47 (.blk (n := 4) (hL.at 1 rfl) rfl)) fun a hk => ?_
     refine d_w 7 255 hk hL rfl (fun w hL => w_mv rfl) fun a hk => ?_
     refine d_w 8 511 hk hL rfl (fun w hL => w_mv rfl) fun a hk => ?_
     refine d_w 9 1023 hk hL rfl (fun w hL => w_iaL (k := ti) rfl rfl Tryz.underlying22 ty53 (row_lst (hL.at 0 rfl)) (by omega) (by omega)) fun a hk => ?_
     refine d_w 10 2047 hk hL rfl (fun w hL => w_fa rfl fq53_4 ty51) fun a hk => ?_
     refine d_w 11 4095 hk hL rfl (fun w hL => w_ld1 rfl ty51 (lstf (k := ti) (o := 4) (m := 1) (row_lst (hL.at 0 rfl)) (by omega) (en_chunk shc_len (by omega)) rfl)) fun a hk => ?_
     refine d_w 12 8191 hk hL rfl (fun w hL => w_mv rfl) fun a hk => ?_
     refine d_w 15 40959 hk hL rfl (fun w hL => w_ldv (z := zv (zn s yv)) rfl ty47 (.blk (n := 4) (hL.at 2 rfl) rfl)) fun a hk => ?_
     refine d_1 13 49151 rfl (by kernel_rfl) fun K hK => ?_
     refine q_v hk (w_iaL (k := tk) rfl rfl Tryz.underlying51 ty56 (row_lst (hs.mi 0 rfl)) (by omega) (by omega)) fun a hk => ?_
     have hL := okL.cons (hs.mi 4 rfl) (okL.cons (hs.mi 3 rfl) (okL.cons (hs.mi 2 rfl) okL.nil))
     refine c_end (x_t (hK _ _ hL ?_))
     clear hK K
     refine d_1 14 65535 rfl (by kernel_rfl) fun K hK => ?_
     refine q_v hk (w_ldv (z := (S8 ti).X tk) rfl ty56 (lstq (k := tk) (row_lst (hs.mi 0 rfl)) (by omega) (en_chunk vq_len (by omega)))) fun a hk => ?_
     have hL := okL.cons (hs.mi 4 rfl) (okL.cons (hs.mi 3 rfl) (okL.cons (hs.mi 2 rfl) okL.nil))
     refine c_end (x_t (hK _ _ hL ?_))
     clear hK K
     refine d_1 16 131071 rfl (by kernel_rfl) fun K hK => ?_
     refine q_call (caps := []) hk rfl rfl Tryz.func30 fo30 rfl rfl (radd_z (x := zn s ((S8 ti).X tk)) (y := zn s yv) _ (zn_num hxp).symm rfl) ?_
     rintro _ w ⟨rfl, hb⟩
     have hs := hs.below hb
     refine ⟨_, rfl, fun a hk => ?_⟩
     have hL := okL.cons (hs.mi 4 rfl) (okL.cons (hs.mi 3 rfl) (okL.cons (hs.mi 2 rfl) okL.nil))
     refine c_end (x_t (hK _ _ hL ?_))
     clear hK K
     refine d_1 17 262143 rfl (by kernel_rfl) fun K hK => ?_
     refine q_v hk (w_iaL (k := tk) rfl rfl Tryz.underlying51 ty56 (row_lst (hs.mi 0 rfl)) (by omega) (by omega)) fun a hk => ?_
     have hL := okL.cons (hs.mi 4 rfl) (okL.cons (hs.mi 3 rfl) (okL.cons (hs.mi 2 rfl) okL.nil))
     refine c_end (x_t (hK _ _ hL ?_))
     clear hK K
     refine d_1 18 524287 rfl (by kernel_rfl) fun K hK => ?_
     refine q_stoR (cc := vq) (x' := (zv (zn s ((S8 ti).X tk) + zn s yv))) (k := tk) (off := 0) (cs := [.int .u64 ((dg 0 (zv (zn s ((S8 ti).X tk) + zn s yv)) : Nat) : Int), .int .u64 ((dg 1 (zv (zn s ((S8 ti).X tk) + zn s yv)) : Nat) : Int), .int .u64 ((dg 2 (zv (zn s ((S8 ti).X tk) + zn s yv)) : Nat) : Int), .int .u64 ((dg 3 (zv (zn s ((S8 ti).X tk) + zn s yv)) : Nat) : Int)]) hk hs rfl (addr0 _ (by have h := (row_some (hs.okM _ (.head _)) (by omega)); obtain ⟨_, h⟩ := h; rw [h]; show ((⟨_, 0, none⟩ : Addr).add _).spot = none; rw [add_pos])) rfl ty56 rfl rfl rfl (by omega) vq_len rfl (by decide) rfl fun w hs => ?_
     have hL := okL.cons (hs.mi 4 rfl) (okL.cons (hs.mi 3 rfl) (okL.cons (hs.mi 2 rfl) okL.nil))
     refine c_end (x_t (hK _ _ hL ?_))
     clear hK K
     refine d_end (by kernel_rfl) ?_
     refine (x_t ?_)
     refine wS ?_
     have hs := hs.up4
     have hs := hs.up2
     have hs := hs.up2
     obtain ⟨vv, hvv⟩ : ∃ q, q = zv (zn s ((S8 ti).X tk) + zn s yv) := ⟨_, rfl⟩
     rw [← hvv] at hs
     have hs := own_frz (own_close (k := tk) (v := vv) hs hi)
     have hvl : vv < pr s := by rw [hvv]; exact zv_lt _
     have g1 := chS_good (i := ti) (k := tk) hD.g hvl
     have hT5 : ((chS S8 ti tk vv) 0).T ≤ 255 := by rw [(chS_hd 0).2.1, hD.t_]; omega
     have hz1 := g1.err hT5
     have hn1 : ((chS S8 ti tk vv) 0).n = cn ((ln : Nat) : Int) := (chS_hd 0).2.2.2.2.trans (hD.n_ 0)
     have hO1 : ShOk (chS S8 ti tk vv) nn := ⟨by omega, fun j hj => by rw [(chS_hd j).2.2.2.2, hD.n_]; omega, fun j hj q hq => Nat.lt_trans (g1.X j hj q (by rw [hn1]; rw [(chS_hd j).2.2.2.2, hD.n_] at hq; exact hq)) (pr_lt s)⟩
     have hkq : tk < cn ((ln : Nat) : Int) := by omega
     have hky : mz s vv = clz s S8 tk ti ↔ zn s yv = 0 := by rw [hvv]; exact rej_key hxp (zn s yv)
     have hcon : conB s (chS S8 ti tk vv) nn = true := (rej_con hD hi hkq (by omega) (by omega) hvl).trans (by exact decide_eq_true (hky.2 hyz))
     have hfit : fitB s (chS S8 ti tk vv) nn tk = true := (rej_fit hD hi hkq (by omega) (by omega) hvl).trans (by exact decide_eq_true (hky.2 hyz))
     refine wR ?_
     refine q_v hk (w_mv rfl) fun a hk => ?_
     refine q_call (caps := []) hk rfl rfl Tryz.func17 fo17 rfl rfl (consN (S := (chS S8 ti tk vv)) ((HasR.of (by simp) : HasR (shareR a10 nn c11 (chS S8 ti tk vv)) _).at_ hs) (HL.step hs.toBelow) hO1 g1 hz1 (by omega) (by omega)) ?_
     rintro _ w ⟨rfl, hb⟩
     rw [hcon]
     have hs := hs.below hb
     refine ⟨_, rfl, fun a hk => ?_⟩
     refine q_v hk (w_mv rfl) fun a hk => ?_
     refine q_v hk (w_ext rfl rfl) fun a hk => ?_
     refine q_v hk (w_ext rfl rfl) fun a hk => ?_
     refine q_v hk (w_as rfl) fun a hk => ?_
     refine q_v hk (w_as rfl) fun a hk => ?_
     refine c_end (x_t (wS (wR ?_)))
     refine q_v hk (w_mv rfl) fun a hk => ?_
     refine q_call (caps := []) hk rfl rfl Tryz.func20 fo20 rfl rfl (achN (S := (chS S8 ti tk vv)) ((HasR.of (by simp) : HasR (shareR a10 nn c11 (chS S8 ti tk vv)) _).at_ hs) (HL.step hs.toBelow) hO1 g1 hz1 (by omega) (by omega)) ?_
     rintro _ w ⟨b15, rfl, hS⟩
     have hs := hs.call1 hS
     clear hS
     refine ⟨_, rfl, fun a hk => ?_⟩
     refine q_v hk (w_mv rfl) fun a hk => ?_
     refine q_v hk (w_ext rfl rfl) fun a hk => ?_
     refine q_v hk (w_ext rfl rfl) fun a hk => ?_
     refine q_v hk (w_as rfl) fun a hk => ?_
     refine q_v hk (w_as rfl) fun a hk => ?_
     refine c_end (x_t (wS (wR ?_)))
     refine q_v hk (w_mv rfl) fun a hk => ?_
     refine q_call (caps := []) hk rfl rfl Tryz.func23 fo23 rfl rfl (susN' (S := (chS S8 ti tk vv)) ((HasR.of (by simp) : HasR (shareR a10 nn c11 (chS S8 ti tk vv)) _).at_ hs) (HL.step hs.toBelow) hO1 g1 hz1 (by omega) (by omega) (by rw [(chS_hd 0).2.1, hD.t_]; omega)) ?_
     rintro _ w ⟨a16, c17, rfl, hS⟩
     have hs := hs.call1 hS
     clear hS
     refine ⟨_, rfl, fun a hk => ?_⟩
     refine q_v hk (w_mv rfl) fun a hk => ?_
     refine q_v hk (w_ext rfl rfl) fun a hk => ?_
     refine q_v hk (w_ext rfl rfl) fun a hk => ?_
     refine q_v hk (w_as rfl) fun a hk => ?_
     refine q_v hk (w_as rfl) fun a hk => ?_
     refine c_end (x_t (wS (wS (wR ?_))))
     refine q_v hk (w_mv rfl) fun a hk => ?_
     refine q_v hk (w_ne rfl rfl (decide_eq_false (by decide))) fun a hk => ?_
     refine q_v hk (w_mv rfl) fun a hk => ?_
     refine q_v hk (w_mv rfl) fun a hk => ?_
     refine q_v hk (w_ne rfl rfl (decide_eq_false (by decide))) fun a hk => ?_
     refine q_v hk (w_pickF rfl rfl) fun a hk => ?_
     refine q_v hk (w_mv rfl) fun a hk => ?_
     refine q_v hk (w_mv rfl) fun a hk => ?_
     refine q_v hk (w_ne rfl rfl (decide_eq_false (by decide))) fun a hk => ?_
     refine q_v hk (w_pickF rfl rfl) fun a hk => ?_
     refine q_v hk (w_mv rfl) fun a hk => ?_
     refine q_v hk (w_mv rfl) fun a hk => ?_
     refine q_v hk (w_len rfl Tryz.underlying29) fun a hk => ?_
     refine q_v hk (w_mv rfl) fun a hk => ?_
     refine q_v hk (w_iaL (k := 0) rfl rfl Tryz.underlying22 ty53 ((share_lst (HasR.of (by simp) : HasR (shareR a10 nn c11 (chS S8 ti tk vv)) _)).at_ hs) (by omega) (by omega)) fun a hk => ?_
     refine q_v hk (w_fa rfl fq53_4 ty51) fun a hk => ?_
     refine q_v hk (w_ld1 rfl ty51 (lstf (k := 0) (o := 4) (m := 1) ((share_lst (HasR.of (by simp) : HasR (shareR a10 nn c11 (chS S8 ti tk vv)) _)).at_ hs) (by omega) (en_chunk shc_len (by omega)) rfl)) fun a hk => ?_
     refine q_v hk (w_len rfl Tryz.underlying51) fun a hk => ?_
     refine q_v hk (w_ne rfl rfl (decide_eq_false (by omega))) fun a hk => ?_
     refine q_v hk (w_pickF rfl rfl) fun a hk => ?_
     refine c_end (x_t ?_)
     refine c_F hk rfl ?_
     refine (wpIn_skip (x_t ?_))
     refine wS (wR ?_)
     refine q_v hk (w_ldv (z := zv (zn s yv)) rfl ty47 (.blk (n := 4) (hs.mi 2 rfl) rfl)) fun a hk => ?_
     refine q_v hk (w_bldv0 Tryz.underlying47 ty46 zr47) fun a hk => ?_
     refine q_v hk (w_veq rfl rfl (zv_lt4 _) (by decide) Tryz.underlying47 Tryz.underlying46 ty46 eg47 (decide_eq_true (by rw [hyz]; exact zv_zero))) fun a hk => ?_
     refine q_v hk (w_as rfl) fun a hk => ?_
     refine c_end (x_t (wS (wR ?_)))
     refine q_call (caps := []) hk rfl rfl Tryz.func16 fo16 rfl rfl (alive18_c _ (HL.step hs.toBelow)) ?_
     rintro _ w ⟨rfl, hb⟩
     have hs := hs.below hb
     refine ⟨_, rfl, fun a hk => ?_⟩
     refine q_v hk (w_mv rfl) fun a hk => ?_
     refine q_v hk (w_mv rfl) fun a hk => ?_
     refine q_v hk (w_mv rfl) fun a hk => ?_
     refine q_v hk (w_beq (t := true) rfl rfl Tryz.underlying4 rfl) fun a hk => ?_
     refine q_v hk (w_pickT rfl rfl) fun a hk => ?_
     refine q_v hk (w_mv rfl) fun a hk => ?_
     refine q_v hk (w_mv rfl) fun a hk => ?_
     refine q_v hk (w_mv rfl) fun a hk => ?_
     refine q_v hk (w_iaL (k := tk) rfl rfl Tryz.underlying29 ty4 (blk_lst (hs.mi 1 rfl) (en_len boc_len) (Nat.le_refl _)) (by omega) (by omega)) fun a hk => ?_
     refine q_v hk (w_ld1 rfl ty4 (lstq (k := tk) (blk_lst (hs.mi 1 rfl) (en_len boc_len) (Nat.le_refl _)) (by omega) (en_chunk boc_len (by omega)))) fun a hk => ?_
     refine q_v hk (w_mv rfl) fun a hk => ?_
     refine q_v hk (w_beq (t := true) rfl rfl Tryz.underlying4 (by rw [hfit]; rfl)) fun a hk => ?_
     refine q_v hk (w_pickT rfl rfl) fun a hk => ?_
     refine q_v hk (w_mv rfl) fun a hk => ?_
     refine q_v hk (w_mv rfl) fun a hk => ?_
     refine q_v hk (w_mv rfl) fun a hk => ?_
     refine q_call (caps := []) hk rfl rfl Tryz.func31 fo31 rfl rfl (containsL_c (susL_mem (rej_wo hD hi (by omega) (by omega) (by omega) hc7 (by omega)) nn hi) (row_lst (hs.mi 0 rfl)) (by have := susL_len (s := s) (S := (chS S8 ti tk vv)) (m := nn) nn; omega)) ?_
     rintro _ w ⟨rfl, hb⟩
     have hs := hs.below hb
     refine ⟨_, rfl, fun a hk => ?_⟩
     refine q_v hk (w_pickT rfl rfl) fun a hk => ?_
     refine q_v hk (w_as rfl) fun a hk => ?_
     refine c_end (x_t ?_)
     refine (wpIn_ret ?_)
     refine c_ret1 hk rfl rfl ?_
     exact ⟨rfl, hs.toBelow⟩
theorem lawRej_diff (s : Bool) (th nn ln rn sc rc xf xk : Nat) (sa ra : Option Addr) (f fr : Nat → Nat) (yv : Nat) (W : World) (h0 : prErr (fid s) ((th : Nat) : Int) ((nn : Nat) : Int) ((ln : Nat) : Int) = 0) (HS : LstAt W 1 (.slice sa ln sc) ln (en bc f ln)) (hf : ∀ j, f j < 256) (HR : LstAt W 1 (.slice ra rn rc) rn (en bc fr rn)) (hfr : ∀ j, fr j < 256) (hr : 64 * (th - 1) * cn ((ln : Nat) : Int) ≤ rn) (HL : Laid W) (hx8 : xf ≤ 255) (hy8 : xk ≤ 255) (hy4 : yv < R4) (hyz : ¬ zn s yv = 0) : Calls Tryz.prog 6 [.agg #[.int .i64 (fid s), .int .i64 ((th : Nat) : Int), .int .i64 ((nn : Nat) : Int), .int .i64 ((ln : Nat) : Int), .slice sa ln sc, .slice ra rn rc], .agg #[.int .u8 ((xf : Nat) : Int), .int .u8 ((xk : Nat) : Int)], vec yv].toArray W fun e w => e = .returned (.bool true) ∧ Below W.heap.size W w := by
 obtain ⟨_, h1, h2, h3, h4, h5, h6⟩ := prErr_0 h0
 obtain ⟨ti, hi0⟩ : ∃ i, xf % nn = i := ⟨_, rfl⟩
 have hi : ti < nn := by rw [← hi0]; exact Nat.mod_lt _ (by omega)
 refine c_enter (args := [.agg #[.int .i64 (fid s), .int .i64 ((th : Nat) : Int), .int .i64 ((nn : Nat) : Int), .int .i64 ((ln : Nat) : Int), .slice sa ln sc, .slice ra rn rc], .agg #[.int .u8 ((xf : Nat) : Int), .int .u8 ((xk : Nat) : Int)], vec yv]) Tryz.func6 rfl rfl rfl fun a hk => ?_
 have hs := Sat.start W [lst 1 (.slice sa ln sc) ln (en bc (fun i => f i) ln), lst 1 (.slice ra rn rc) rn (en bc (fun i => fr i) rn)] (okrc HS (okr1 HR))
 refine wS (wR ?_)
 refine q_box (vs := [.int .i64 (fid s), .int .i64 ((th : Nat) : Int), .int .i64 ((nn : Nat) : Int), .int .i64 ((ln : Nat) : Int), .slice sa ln sc, .slice ra rn rc]) hk hs rfl rfl rfl rfl fun b1 w a hk hs => ?_
 refine q_box (vs := [.int .u8 ((xf : Nat) : Int), .int .u8 ((xk : Nat) : Int)]) hk hs rfl rfl rfl rfl fun b2 w a hk hs => ?_
 refine q_box (vs := [.int .u64 ((dg 0 yv : Nat) : Int), .int .u64 ((dg 1 yv : Nat) : Int), .int .u64 ((dg 2 yv : Nat) : Int), .int .u64 ((dg 3 yv : Nat) : Int)]) hk hs rfl rfl rfl rfl fun b3 w a hk hs => ?_
 refine q_v hk (w_as rfl) fun a hk => ?_
 refine c_end (x_t (wS (wS (wR ?_))))
 refine q_v hk (w_fa rfl fq44_0 ty41) fun a hk => ?_
 refine q_v hk (w_ldA rfl ty41 (.blk (n := 4) (hs.mi 2 rfl) rfl) rfl) fun a hk => ?_
 refine q_v hk (w_fa rfl fq44_1 ty42) fun a hk => ?_
 refine q_v hk (w_ld1 rfl ty42 (.blk (n := 1) (hs.mi 2 rfl) rfl)) fun a hk => ?_
 refine q_v hk (w_fa rfl fq44_2 ty42) fun a hk => ?_
 refine q_v hk (w_ld1 rfl ty42 (.blk (n := 1) (hs.mi 2 rfl) rfl)) fun a hk => ?_
 refine q_call (caps := []) hk rfl rfl Tryz.func26 fo26 rfl rfl (large16_c (fid s) ((th : Nat) : Int) ((nn : Nat) : Int) ((ln : Nat) : Int) ln rn sc rc sa ra _) ?_
 rintro _ w ⟨x4, rfl, hb, hlg⟩
 have hs := hs.below hb
 refine ⟨_, rfl, fun a hk => ?_⟩
 rcases Classical.em (0 < x4) with hc5 | hc5
 ·
  refine q_v hk (w_gt rfl rfl (decide_eq_true hc5)) fun a hk => ?_
  refine q_v hk (w_mv rfl) fun a hk => ?_
  refine q_skip hk rfl rfl fun a hk => ?_
  refine q_skip hk rfl rfl fun a hk => ?_
  refine q_skip hk rfl rfl fun a hk => ?_
  refine q_skip hk rfl rfl fun a hk => ?_
  refine q_v hk (w_pickT rfl rfl) fun a hk => ?_
  refine q_v hk (w_mv rfl) fun a hk => ?_
  refine q_skip hk rfl rfl fun a hk => ?_
  refine q_skip hk rfl rfl fun a hk => ?_
  refine q_skip hk rfl rfl fun a hk => ?_
  refine q_skip hk rfl rfl fun a hk => ?_
  refine q_skip hk rfl rfl fun a hk => ?_
  refine q_skip hk rfl rfl fun a hk => ?_
  refine q_skip hk rfl rfl fun a hk => ?_
  refine q_v hk (w_pickT rfl rfl) fun a hk => ?_
  refine c_end (x_t ?_)
  refine c_T hk rfl ?_
  refine wS (wR ?_)
  refine q_call (caps := []) hk rfl rfl Tryz.func16 fo16 rfl rfl (alive18_c _ (HL.step hs.toBelow)) ?_
  rintro _ w ⟨rfl, hb⟩
  have hs := hs.below hb
  refine ⟨_, rfl, fun a hk => ?_⟩
  refine q_v hk (w_as rfl) fun a hk => ?_
  refine c_end (x_t ?_)
  refine (wpIn_ret (x_tr ?_))
  refine c_ret1 hk rfl rfl ?_
  exact ⟨rfl, hs.toBelow⟩
 ·
  obtain ⟨hs200, hr104⟩ := hlg hc5
  refine q_v hk (w_gt rfl rfl (decide_eq_false hc5)) fun a hk => ?_
  refine q_v hk (w_mv rfl) fun a hk => ?_
  refine q_v hk (w_fa rfl fq44_0 ty41) fun a hk => ?_
  refine q_v hk (w_fa rfl fq41_2 ty3) fun a hk => ?_
  refine q_v hk (w_ld1 rfl ty3 (.blk (n := 1) (hs.mi 2 rfl) rfl)) fun a hk => ?_
  rcases Classical.em (7 < ((nn : Nat) : Int)) with hc6 | hc6
  ·
   refine q_v hk (w_gt rfl rfl (decide_eq_true hc6)) fun a hk => ?_
   refine q_v hk (w_pickF rfl rfl) fun a hk => ?_
   refine q_v hk (w_mv rfl) fun a hk => ?_
   refine q_skip hk rfl rfl fun a hk => ?_
   refine q_skip hk rfl rfl fun a hk => ?_
   refine q_skip hk rfl rfl fun a hk => ?_
   refine q_skip hk rfl rfl fun a hk => ?_
   refine q_skip hk rfl rfl fun a hk => ?_
   refine q_skip hk rfl rfl fun a hk => ?_
   refine q_skip hk rfl rfl fun a hk => ?_
   refine q_v hk (w_pickT rfl rfl) fun a hk => ?_
   refine c_end (x_t ?_)
   refine c_T hk rfl ?_
   refine wS (wR ?_)
   refine q_call (caps := []) hk rfl rfl Tryz.func16 fo16 rfl rfl (alive18_c _ (HL.step hs.toBelow)) ?_
   rintro _ w ⟨rfl, hb⟩
   have hs := hs.below hb
   refine ⟨_, rfl, fun a hk => ?_⟩
   refine q_v hk (w_as rfl) fun a hk => ?_
   refine c_end (x_t ?_)
   refine (wpIn_ret (x_tr ?_))
   refine c_ret1 hk rfl rfl ?_
   exact ⟨rfl, hs.toBelow⟩
  ·
   refine q_v hk (w_gt rfl rfl (decide_eq_false hc6)) fun a hk => ?_
   refine q_v hk (w_pickF rfl rfl) fun a hk => ?_
   refine q_v hk (w_mv rfl) fun a hk => ?_
   refine q_v hk (w_fa rfl fq44_0 ty41) fun a hk => ?_
   refine q_v hk (w_fa rfl fq41_1 ty3) fun a hk => ?_
   refine q_v hk (w_ld1 rfl ty3 (.blk (n := 1) (hs.mi 2 rfl) rfl)) fun a hk => ?_
   refine q_v hk (w_fa rfl fq44_0 ty41) fun a hk => ?_
   refine q_v hk (w_fa rfl fq41_2 ty3) fun a hk => ?_
   refine q_v hk (w_ld1 rfl ty3 (.blk (n := 1) (hs.mi 2 rfl) rfl)) fun a hk => ?_
   rcases Classical.em (((nn : Nat) : Int) ≤ ((th : Nat) : Int)) with hc7 | hc7
   ·
    refine q_v hk (w_ge rfl rfl (decide_eq_true hc7)) fun a hk => ?_
    refine q_v hk (w_pickF rfl rfl) fun a hk => ?_
    refine c_end (x_t ?_)
    refine c_T hk rfl ?_
    refine wS (wR ?_)
    refine q_call (caps := []) hk rfl rfl Tryz.func16 fo16 rfl rfl (alive18_c _ (HL.step hs.toBelow)) ?_
    rintro _ w ⟨rfl, hb⟩
    have hs := hs.below hb
    refine ⟨_, rfl, fun a hk => ?_⟩
    refine q_v hk (w_as rfl) fun a hk => ?_
    refine c_end (x_t ?_)
    refine (wpIn_ret (x_tr ?_))
    refine c_ret1 hk rfl rfl ?_
    exact ⟨rfl, hs.toBelow⟩
   ·
    refine q_v hk (w_ge rfl rfl (decide_eq_false hc7)) fun a hk => ?_
    refine q_v hk (w_pickF rfl rfl) fun a hk => ?_
    refine c_end (x_t ?_)
    refine c_F hk rfl ?_
    refine (wpIn_skip (x_t ?_))
    refine wS (wR ?_)
    refine q_v hk (w_fa rfl fq44_0 ty41) fun a hk => ?_
    refine q_v hk (w_ldA rfl ty41 (.blk (n := 4) (hs.mi 2 rfl) rfl) rfl) fun a hk => ?_
    refine q_v hk (w_fa rfl fq44_1 ty42) fun a hk => ?_
    refine q_v hk (w_ld1 rfl ty42 (.blk (n := 1) (hs.mi 2 rfl) rfl)) fun a hk => ?_
    refine q_v hk (w_fa rfl fq44_2 ty42) fun a hk => ?_
    refine q_v hk (w_ld1 rfl ty42 (.blk (n := 1) (hs.mi 2 rfl) rfl)) fun a hk => ?_
    refine q_call (caps := []) hk rfl rfl Tryz.func27 fo27 rfl rfl (dealW h0 (hs.ri 0 rfl) hf (hs.ri 1 rfl) hfr hr (by omega)) ?_
    rintro _ w ⟨S8, F9, a10, c11, hD, rfl, hS⟩
    have hs := Sat.unpack (hs.call1 hS)
    clear hS
    have hs : Sat no W [row 53 5 (.slice a10 nn c11) nn (en shc (fun i => S8 i) nn), bun ((List.range nn).map (prow S8)), blk b3 [.int .u64 ((dg 0 yv : Nat) : Int), .int .u64 ((dg 1 yv : Nat) : Int), .int .u64 ((dg 2 yv : Nat) : Int), .int .u64 ((dg 3 yv : Nat) : Int)] 47, blk b2 [.int .u8 ((xf : Nat) : Int), .int .u8 ((xk : Nat) : Int)] 45, blk b1 [.int .i64 (fid s), .int .i64 ((th : Nat) : Int), .int .i64 ((nn : Nat) : Int), .int .i64 ((ln : Nat) : Int), .slice sa ln sc, .slice ra rn rc] 44] [lst 1 (.slice sa ln sc) ln (en bc (fun i => f i) ln), lst 1 (.slice ra rn rc) rn (en bc (fun i => fr i) rn)] w := hs
    have hc7 := cn_200 hs200
    have hn0 : (S8 0).n = cn ((ln : Nat) : Int) := hD.n_ 0
    refine ⟨_, rfl, fun a hk => ?_⟩
    refine q_v hk (w_mv rfl) fun a hk => ?_
    refine q_v hk (w_ext rfl rfl) fun a hk => ?_
    refine q_v hk (w_ext rfl rfl) fun a hk => ?_
    refine q_v hk (w_as rfl) fun a hk => ?_
    refine q_v hk (w_as rfl) fun a hk => ?_
    refine c_end (x_t (wS (wS (wR ?_))))
    refine q_v hk (w_mv rfl) fun a hk => ?_
    refine q_v hk (w_ne rfl rfl (decide_eq_false (by decide))) fun a hk => ?_
    refine q_v hk (w_mv rfl) fun a hk => ?_
    refine q_v hk (w_mv rfl) fun a hk => ?_
    refine q_v hk (w_iaL (k := 0) rfl rfl Tryz.underlying22 ty53 (row_lst (hs.mi 0 rfl)) (by omega) (by omega)) fun a hk => ?_
    refine q_v hk (w_fa rfl fq53_4 ty51) fun a hk => ?_
    refine q_v hk (w_ld1 rfl ty51 (lstf (k := 0) (o := 4) (m := 1) (row_lst (hs.mi 0 rfl)) (by omega) (en_chunk shc_len (by omega)) rfl)) fun a hk => ?_
    refine q_v hk (w_len rfl Tryz.underlying51) fun a hk => ?_
    rcases Classical.em ((((S8 0).n : Nat) : Int) = 0) with hc12 | hc12
    ·
     refine q_v hk (w_eq rfl rfl (decide_eq_true hc12)) fun a hk => ?_
     refine q_v hk (w_pickF rfl rfl) fun a hk => ?_
     refine c_end (x_t ?_)
     refine c_T hk rfl ?_
     refine wS (wR ?_)
     refine q_call (caps := []) hk rfl rfl Tryz.func16 fo16 rfl rfl (alive18_c _ (HL.step hs.toBelow)) ?_
     rintro _ w ⟨rfl, hb⟩
     have hs := hs.below hb
     refine ⟨_, rfl, fun a hk => ?_⟩
     refine q_v hk (w_as rfl) fun a hk => ?_
     refine c_end (x_t ?_)
     refine (wpIn_ret (x_tr ?_))
     refine c_ret1 hk rfl rfl ?_
     exact ⟨rfl, hs.toBelow⟩
    ·
     refine q_v hk (w_eq rfl rfl (decide_eq_false hc12)) fun a hk => ?_
     refine q_v hk (w_pickF rfl rfl) fun a hk => ?_
     refine c_end (x_t ?_)
     refine c_F hk rfl ?_
     refine (wpIn_skip (x_t ?_))
     refine wS (wR ?_)
     refine q_v hk (w_fa rfl fq44_0 ty41) fun a hk => ?_
     refine q_v hk (w_fa rfl fq41_0 ty3) fun a hk => ?_
     refine q_v hk (w_ld1 rfl ty3 (.blk (n := 1) (hs.mi 4 rfl) rfl)) fun a hk => ?_
     refine q_call (caps := []) hk rfl rfl Tryz.func28 fo28 rfl rfl (rmodulus_z (s := s) rfl _) ?_
     rintro _ w ⟨rfl, hb⟩
     have hs := hs.below hb
     refine ⟨_, rfl, fun a hk => ?_⟩
     refine q_alc (vs := [.int .u64 0, .int .u64 0, .int .u64 0, .int .u64 0]) hk hs zr47 rfl rfl rfl fun b13 w a hk hs => ?_
     refine q_sto (o := 0) (cs := [.int .u64 ((dg 0 (pr s) : Nat) : Int), .int .u64 ((dg 1 (pr s) : Nat) : Int), .int .u64 ((dg 2 (pr s) : Nat) : Int), .int .u64 ((dg 3 (pr s) : Nat) : Int)]) (vs' := [.int .u64 ((dg 0 (pr s) : Nat) : Int), .int .u64 ((dg 1 (pr s) : Nat) : Int), .int .u64 ((dg 2 (pr s) : Nat) : Int), .int .u64 ((dg 3 (pr s) : Nat) : Int)]) hk hs rfl rfl rfl ty47 rfl rfl rfl rfl rfl rfl fun w hs => ?_
     refine c_end (x_t (wS (wR ?_)))
     refine q_v hk (w_ldv (z := pr s) rfl ty47 (.blk (n := 4) (hs.mi 0 rfl) rfl)) fun a hk => ?_
     refine q_v hk (w_ldv (z := yv) rfl ty47 (.blk (n := 4) (hs.mi 3 rfl) rfl)) fun a hk => ?_
     refine q_call (caps := []) hk rfl rfl Tryz.func29 fo29 rfl rfl (rmod_z (s := s) _ yv hy4) ?_
     rintro _ w ⟨rfl, hb⟩
     have hs := hs.below hb
     refine ⟨_, rfl, fun a hk => ?_⟩
     refine q_alc (vs := [.int .u64 0, .int .u64 0, .int .u64 0, .int .u64 0]) hk hs zr47 rfl rfl rfl fun b14 w a hk hs => ?_
     refine q_sto (o := 0) (cs := [.int .u64 ((dg 0 (zv (zn s yv)) : Nat) : Int), .int .u64 ((dg 1 (zv (zn s yv)) : Nat) : Int), .int .u64 ((dg 2 (zv (zn s yv)) : Nat) : Int), .int .u64 ((dg 3 (zv (zn s yv)) : Nat) : Int)]) (vs' := [.int .u64 ((dg 0 (zv (zn s yv)) : Nat) : Int), .int .u64 ((dg 1 (zv (zn s yv)) : Nat) : Int), .int .u64 ((dg 2 (zv (zn s yv)) : Nat) : Int), .int .u64 ((dg 3 (zv (zn s yv)) : Nat) : Int)]) hk hs rfl rfl rfl ty47 rfl rfl rfl rfl rfl rfl fun w hs => ?_
     refine c_end (x_t (wS ?_))
     obtain ⟨tk, hk0⟩ : ∃ k, xk % (S8 0).n = k := ⟨_, rfl⟩
     have htk : tk < (S8 0).n := by rw [← hk0]; exact Nat.mod_lt _ (by omega)
     have hL := okL.cons (hs.mi 5 rfl) (okL.cons (hs.mi 2 rfl) okL.nil)
     refine d_begin _ 17 (by kernel_rfl) rfl hs hL fun w hs hL => ?_
     refine d_w 0 1 hk hL rfl (fun w hL => w_iaA (k := 0) rfl rfl Tryz.underlying45 ty5 (by omega) (by omega)) fun a hk => ?_
     refine d_w 1 3 hk hL rfl (fun w hL => w_ld1 rfl ty5 (.blk (n := 1) (hL.at 0 rfl) rfl)) fun a hk => ?_
     refine d_w 2 7 hk hL rfl (fun w hL => w_conv rfl Tryz.underlying5 Tryz.underlying3 (wr64 (by omega) (by omega))) fun a hk => ?_
     refine d_w 3 15 hk hL rfl (fun w hL => w_mv rfl) fun a hk => ?_
     refine d_w 4 31 hk hL rfl (fun w hL => w_len rfl Tryz.underlying22) fun a hk => ?_
     refine d_w 5 63 hk hL rfl (fun w hL => w_rem (r := ((ti : Nat) : Int)) rfl rfl (by omega) (by rw [wmd (by omega), ← hi0]; exact (Int.natCast_emod xf nn).symm)) fun a hk => ?_
     refine d_w 6 127 hk hL rfl (fun w hL => w_iaA (k := 1) rfl rfl Tryz.underlying45 ty5 (by omega) (by omega)) fun a hk => ?_
     refine d_w 7 255 hk hL rfl (fun w hL => w_ld1 rfl ty5 (.blk (n := 1) (hL.at 0 rfl) rfl)) fun a hk => ?_
     refine d_w 8 511 hk hL rfl (fun w hL => w_conv rfl Tryz.underlying5 Tryz.underlying3 (wr64 (by omega) (by omega))) fun a hk => ?_
     refine d_w 9 1023 hk hL rfl (fun w hL => w_mv rfl) fun a hk => ?_
     refine d_w 10 2047 hk hL rfl (fun w hL => w_iaL (k := 0) rfl rfl Tryz.underlying22 ty53 (row_lst (hL.at 1 rfl)) (by omega) (by omega)) fun a hk => ?_
     refine d_w 11 4095 hk hL rfl (fun w hL => w_fa rfl fq53_4 ty51) fun a hk => ?_
     refine d_w 12 8191 hk hL rfl (fun w hL => w_ld1 rfl ty51 (lstf (k := 0) (o := 4) (m := 1) (row_lst (hL.at 1 rfl)) (by omega) (en_chunk shc_len (by omega)) rfl)) fun a hk => ?_
     refine d_w 13 16383 hk hL rfl (fun w hL => w_len rfl Tryz.underlying51) fun a hk => ?_
     refine d_w 14 32767 hk hL rfl (fun w hL => w_rem (r := ((tk : Nat) : Int)) rfl rfl (by omega) (by rw [wmd (by omega), ← hk0]; exact (Int.natCast_emod xk (S8 0).n).symm)) fun a hk => ?_
     refine d_w 15 65535 hk hL rfl (fun w hL => w_as rfl) fun a hk => ?_
     refine d_w 16 131071 hk hL rfl (fun w hL => w_as rfl) fun a hk => ?_
     refine d_end (by kernel_rfl) ?_
     refine (x_t ?_)
     refine wS ?_
     have hs := hs.up3
     have hs := Sat.pick hs hi
     have hs : Sat no W [row 56 4 (.slice ((S8 ti).a) ((S8 ti).n) ((S8 ti).c)) ((S8 ti).n) (en vq (fun i => (S8 ti).X i) ((S8 ti).n)), bun (((List.range nn).erase ti).map (prow S8)), blk b14 [.int .u64 ((dg 0 (zv (zn s yv)) : Nat) : Int), .int .u64 ((dg 1 (zv (zn s yv)) : Nat) : Int), .int .u64 ((dg 2 (zv (zn s yv)) : Nat) : Int), .int .u64 ((dg 3 (zv (zn s yv)) : Nat) : Int)] 47, blk b13 [.int .u64 ((dg 0 (pr s) : Nat) : Int), .int .u64 ((dg 1 (pr s) : Nat) : Int), .int .u64 ((dg 2 (pr s) : Nat) : Int), .int .u64 ((dg 3 (pr s) : Nat) : Int)] 47, row 53 5 (.slice a10 nn c11) nn (en shc (fun i => S8 i) nn), blk b3 [.int .u64 ((dg 0 yv : Nat) : Int), .int .u64 ((dg 1 yv : Nat) : Int), .int .u64 ((dg 2 yv : Nat) : Int), .int .u64 ((dg 3 yv : Nat) : Int)] 47, blk b2 [.int .u8 ((xf : Nat) : Int), .int .u8 ((xk : Nat) : Int)] 45, blk b1 [.int .i64 (fid s), .int .i64 ((th : Nat) : Int), .int .i64 ((nn : Nat) : Int), .int .i64 ((ln : Nat) : Int), .slice sa ln sc, .slice ra rn rc] 44] [lst 1 (.slice sa ln sc) ln (en bc (fun i => f i) ln), lst 1 (.slice ra rn rc) rn (en bc (fun i => fr i) rn)] w := hs
     have hkn : tk < (S8 ti).n := by rw [hD.n_]; omega
     have hxp := hD.g.X ti hi tk htk
     have hL := okL.cons (hs.mi 4 rfl) (okL.cons (hs.mi 3 rfl) (okL.cons (hs.mi 2 rfl) okL.nil))
     refine d_begin _ 19 (by kernel_rfl) rfl hs hL fun w hs hL => ?_
     refine d_w 0 1 hk hL rfl (fun w hL => w_mv rfl) fun a hk => ?_
     refine d_w 1 3 hk hL rfl (fun w hL => w_mv rfl) fun a hk => ?_
     refine d_w 2 7 hk hL rfl (fun w hL => w_iaL (k := ti) rfl rfl Tryz.underlying22 ty53 (row_lst (hL.at 0 rfl)) (by omega) (by omega)) fun a hk => ?_
     refine d_w 3 15 hk hL rfl (fun w hL => w_fa rfl fq53_4 ty51) fun a hk => ?_
     refine d_w 4 31 hk hL rfl (fun w hL => w_ld1 rfl ty51 (lstf (k := ti) (o := 4) (m := 1) (row_lst (hL.at 0 rfl)) (by omega) (en_chunk shc_len (by omega)) rfl)) fun a hk => ?_
     refine d_w 5 63 hk hL rfl (fun w hL => w_mv rfl) fun a hk => ?_
     refine d_w 6 127 hk hL rfl (fun w hL => w_ldv (z := pr s) rfl ty47 (.blk (n := 4) (hL.at 1 rfl) rfl)) fun a hk => ?_
     refine d_w 7 255 hk hL rfl (fun w hL => w_mv rfl) fun a hk => ?_
     refine d_w 8 511 hk hL rfl (fun w hL => w_mv rfl) fun a hk => ?_
     refine d_w 9 1023 hk hL rfl (fun w hL => w_iaL (k := ti) rfl rfl Tryz.underlying22 ty53 (row_lst (hL.at 0 rfl)) (by omega) (by omega)) fun a hk => ?_
     refine d_w 10 2047 hk hL rfl (fun w hL => w_fa rfl fq53_4 ty51) fun a hk => ?_
     refine d_w 11 4095 hk hL rfl (fun w hL => w_ld1 rfl ty51 (lstf (k := ti) (o := 4) (m := 1) (row_lst (hL.at 0 rfl)) (by omega) (en_chunk shc_len (by omega)) rfl)) fun a hk => ?_
     refine d_w 12 8191 hk hL rfl (fun w hL => w_mv rfl) fun a hk => ?_
     refine d_w 15 40959 hk hL rfl (fun w hL => w_ldv (z := zv (zn s yv)) rfl ty47 (.blk (n := 4) (hL.at 2 rfl) rfl)) fun a hk => ?_
     refine d_1 13 49151 rfl (by kernel_rfl) fun K hK => ?_
     refine q_v hk (w_iaL (k := tk) rfl rfl Tryz.underlying51 ty56 (row_lst (hs.mi 0 rfl)) (by omega) (by omega)) fun a hk => ?_
     have hL := okL.cons (hs.mi 4 rfl) (okL.cons (hs.mi 3 rfl) (okL.cons (hs.mi 2 rfl) okL.nil))
     refine c_end (x_t (hK _ _ hL ?_))
     clear hK K
     refine d_1 14 65535 rfl (by kernel_rfl) fun K hK => ?_
     refine q_v hk (w_ldv (z := (S8 ti).X tk) rfl ty56 (lstq (k := tk) (row_lst (hs.mi 0 rfl)) (by omega) (en_chunk vq_len (by omega)))) fun a hk => ?_
     have hL := okL.cons (hs.mi 4 rfl) (okL.cons (hs.mi 3 rfl) (okL.cons (hs.mi 2 rfl) okL.nil))
     refine c_end (x_t (hK _ _ hL ?_))
     clear hK K
     refine d_1 16 131071 rfl (by kernel_rfl) fun K hK => ?_
     refine q_call (caps := []) hk rfl rfl Tryz.func30 fo30 rfl rfl (radd_z (x := zn s ((S8 ti).X tk)) (y := zn s yv) _ (zn_num hxp).symm rfl) ?_
     rintro _ w ⟨rfl, hb⟩
     have hs := hs.below hb
     refine ⟨_, rfl, fun a hk => ?_⟩
     have hL := okL.cons (hs.mi 4 rfl) (okL.cons (hs.mi 3 rfl) (okL.cons (hs.mi 2 rfl) okL.nil))
     refine c_end (x_t (hK _ _ hL ?_))
     clear hK K
     refine d_1 17 262143 rfl (by kernel_rfl) fun K hK => ?_
     refine q_v hk (w_iaL (k := tk) rfl rfl Tryz.underlying51 ty56 (row_lst (hs.mi 0 rfl)) (by omega) (by omega)) fun a hk => ?_
     have hL := okL.cons (hs.mi 4 rfl) (okL.cons (hs.mi 3 rfl) (okL.cons (hs.mi 2 rfl) okL.nil))
     refine c_end (x_t (hK _ _ hL ?_))
     clear hK K
     refine d_1 18 524287 rfl (by kernel_rfl) fun K hK => ?_
     refine q_stoR (cc := vq) (x' := (zv (zn s ((S8 ti).X tk) + zn s yv))) (k := tk) (off := 0) (cs := [.int .u64 ((dg 0 (zv (zn s ((S8 ti).X tk) + zn s yv)) : Nat) : Int), .int .u64 ((dg 1 (zv (zn s ((S8 ti).X tk) + zn s yv)) : Nat) : Int), .int .u64 ((dg 2 (zv (zn s ((S8 ti).X tk) + zn s yv)) : Nat) : Int), .int .u64 ((dg 3 (zv (zn s ((S8 ti).X tk) + zn s yv)) : Nat) : Int)]) hk hs rfl (addr0 _ (by have h := (row_some (hs.okM _ (.head _)) (by omega)); obtain ⟨_, h⟩ := h; rw [h]; show ((⟨_, 0, none⟩ : Addr).add _).spot = none; rw [add_pos])) rfl ty56 rfl rfl rfl (by omega) vq_len rfl (by decide) rfl fun w hs => ?_
     have hL := okL.cons (hs.mi 4 rfl) (okL.cons (hs.mi 3 rfl) (okL.cons (hs.mi 2 rfl) okL.nil))
     refine c_end (x_t (hK _ _ hL ?_))
     clear hK K
     refine d_end (by kernel_rfl) ?_
     refine (x_t ?_)
     refine wS ?_
     have hs := hs.up4
     have hs := hs.up2
     have hs := hs.up2
     obtain ⟨vv, hvv⟩ : ∃ q, q = zv (zn s ((S8 ti).X tk) + zn s yv) := ⟨_, rfl⟩
     rw [← hvv] at hs
     have hs := own_frz (own_close (k := tk) (v := vv) hs hi)
     have hvl : vv < pr s := by rw [hvv]; exact zv_lt _
     have g1 := chS_good (i := ti) (k := tk) hD.g hvl
     have hT5 : ((chS S8 ti tk vv) 0).T ≤ 255 := by rw [(chS_hd 0).2.1, hD.t_]; omega
     have hz1 := g1.err hT5
     have hn1 : ((chS S8 ti tk vv) 0).n = cn ((ln : Nat) : Int) := (chS_hd 0).2.2.2.2.trans (hD.n_ 0)
     have hO1 : ShOk (chS S8 ti tk vv) nn := ⟨by omega, fun j hj => by rw [(chS_hd j).2.2.2.2, hD.n_]; omega, fun j hj q hq => Nat.lt_trans (g1.X j hj q (by rw [hn1]; rw [(chS_hd j).2.2.2.2, hD.n_] at hq; exact hq)) (pr_lt s)⟩
     have hkq : tk < cn ((ln : Nat) : Int) := by omega
     have hky : mz s vv = clz s S8 tk ti ↔ zn s yv = 0 := by rw [hvv]; exact rej_key hxp (zn s yv)
     have hcon : conB s (chS S8 ti tk vv) nn = false := (rej_con hD hi hkq (by omega) (by omega) hvl).trans (by exact decide_eq_false (fun h => hyz (hky.1 h)))
     have hfit : fitB s (chS S8 ti tk vv) nn tk = false := (rej_fit hD hi hkq (by omega) (by omega) hvl).trans (by exact decide_eq_false (fun h => hyz (hky.1 h)))
     refine wR ?_
     refine q_v hk (w_mv rfl) fun a hk => ?_
     refine q_call (caps := []) hk rfl rfl Tryz.func17 fo17 rfl rfl (consN (S := (chS S8 ti tk vv)) ((HasR.of (by simp) : HasR (shareR a10 nn c11 (chS S8 ti tk vv)) _).at_ hs) (HL.step hs.toBelow) hO1 g1 hz1 (by omega) (by omega)) ?_
     rintro _ w ⟨rfl, hb⟩
     rw [hcon]
     have hs := hs.below hb
     refine ⟨_, rfl, fun a hk => ?_⟩
     refine q_v hk (w_mv rfl) fun a hk => ?_
     refine q_v hk (w_ext rfl rfl) fun a hk => ?_
     refine q_v hk (w_ext rfl rfl) fun a hk => ?_
     refine q_v hk (w_as rfl) fun a hk => ?_
     refine q_v hk (w_as rfl) fun a hk => ?_
     refine c_end (x_t (wS (wR ?_)))
     refine q_v hk (w_mv rfl) fun a hk => ?_
     refine q_call (caps := []) hk rfl rfl Tryz.func20 fo20 rfl rfl (achN (S := (chS S8 ti tk vv)) ((HasR.of (by simp) : HasR (shareR a10 nn c11 (chS S8 ti tk vv)) _).at_ hs) (HL.step hs.toBelow) hO1 g1 hz1 (by omega) (by omega)) ?_
     rintro _ w ⟨b15, rfl, hS⟩
     have hs := hs.call1 hS
     clear hS
     refine ⟨_, rfl, fun a hk => ?_⟩
     refine q_v hk (w_mv rfl) fun a hk => ?_
     refine q_v hk (w_ext rfl rfl) fun a hk => ?_
     refine q_v hk (w_ext rfl rfl) fun a hk => ?_
     refine q_v hk (w_as rfl) fun a hk => ?_
     refine q_v hk (w_as rfl) fun a hk => ?_
     refine c_end (x_t (wS (wR ?_)))
     refine q_v hk (w_mv rfl) fun a hk => ?_
     refine q_call (caps := []) hk rfl rfl Tryz.func23 fo23 rfl rfl (susN' (S := (chS S8 ti tk vv)) ((HasR.of (by simp) : HasR (shareR a10 nn c11 (chS S8 ti tk vv)) _).at_ hs) (HL.step hs.toBelow) hO1 g1 hz1 (by omega) (by omega) (by rw [(chS_hd 0).2.1, hD.t_]; omega)) ?_
     rintro _ w ⟨a16, c17, rfl, hS⟩
     have hs := hs.call1 hS
     clear hS
     refine ⟨_, rfl, fun a hk => ?_⟩
     refine q_v hk (w_mv rfl) fun a hk => ?_
     refine q_v hk (w_ext rfl rfl) fun a hk => ?_
     refine q_v hk (w_ext rfl rfl) fun a hk => ?_
     refine q_v hk (w_as rfl) fun a hk => ?_
     refine q_v hk (w_as rfl) fun a hk => ?_
     refine c_end (x_t (wS (wS (wR ?_))))
     refine q_v hk (w_mv rfl) fun a hk => ?_
     refine q_v hk (w_ne rfl rfl (decide_eq_false (by decide))) fun a hk => ?_
     refine q_v hk (w_mv rfl) fun a hk => ?_
     refine q_v hk (w_mv rfl) fun a hk => ?_
     refine q_v hk (w_ne rfl rfl (decide_eq_false (by decide))) fun a hk => ?_
     refine q_v hk (w_pickF rfl rfl) fun a hk => ?_
     refine q_v hk (w_mv rfl) fun a hk => ?_
     refine q_v hk (w_mv rfl) fun a hk => ?_
     refine q_v hk (w_ne rfl rfl (decide_eq_false (by decide))) fun a hk => ?_
     refine q_v hk (w_pickF rfl rfl) fun a hk => ?_
     refine q_v hk (w_mv rfl) fun a hk => ?_
     refine q_v hk (w_mv rfl) fun a hk => ?_
     refine q_v hk (w_len rfl Tryz.underlying29) fun a hk => ?_
     refine q_v hk (w_mv rfl) fun a hk => ?_
     refine q_v hk (w_iaL (k := 0) rfl rfl Tryz.underlying22 ty53 ((share_lst (HasR.of (by simp) : HasR (shareR a10 nn c11 (chS S8 ti tk vv)) _)).at_ hs) (by omega) (by omega)) fun a hk => ?_
     refine q_v hk (w_fa rfl fq53_4 ty51) fun a hk => ?_
     refine q_v hk (w_ld1 rfl ty51 (lstf (k := 0) (o := 4) (m := 1) ((share_lst (HasR.of (by simp) : HasR (shareR a10 nn c11 (chS S8 ti tk vv)) _)).at_ hs) (by omega) (en_chunk shc_len (by omega)) rfl)) fun a hk => ?_
     refine q_v hk (w_len rfl Tryz.underlying51) fun a hk => ?_
     refine q_v hk (w_ne rfl rfl (decide_eq_false (by omega))) fun a hk => ?_
     refine q_v hk (w_pickF rfl rfl) fun a hk => ?_
     refine c_end (x_t ?_)
     refine c_F hk rfl ?_
     refine (wpIn_skip (x_t ?_))
     refine wS (wR ?_)
     refine q_v hk (w_ldv (z := zv (zn s yv)) rfl ty47 (.blk (n := 4) (hs.mi 2 rfl) rfl)) fun a hk => ?_
     refine q_v hk (w_bldv0 Tryz.underlying47 ty46 zr47) fun a hk => ?_
     refine q_v hk (w_veq rfl rfl (zv_lt4 _) (by decide) Tryz.underlying47 Tryz.underlying46 ty46 eg47 (decide_eq_false (fun h => hyz (Fin.ext h)))) fun a hk => ?_
     refine q_v hk (w_as rfl) fun a hk => ?_
     refine c_end (x_t (wS (wR ?_)))
     refine q_call (caps := []) hk rfl rfl Tryz.func16 fo16 rfl rfl (alive18_c _ (HL.step hs.toBelow)) ?_
     rintro _ w ⟨rfl, hb⟩
     have hs := hs.below hb
     refine ⟨_, rfl, fun a hk => ?_⟩
     refine q_v hk (w_mv rfl) fun a hk => ?_
     refine q_v hk (w_mv rfl) fun a hk => ?_
     refine q_v hk (w_mv rfl) fun a hk => ?_
     refine q_v hk (w_beq (t := true) rfl rfl Tryz.underlying4 rfl) fun a hk => ?_
     refine q_v hk (w_pickT rfl rfl) fun a hk => ?_
     refine q_v hk (w_mv rfl) fun a hk => ?_
     refine q_v hk (w_mv rfl) fun a hk => ?_
     refine q_v hk (w_mv rfl) fun a hk => ?_
     refine q_v hk (w_iaL (k := tk) rfl rfl Tryz.underlying29 ty4 (blk_lst (hs.mi 1 rfl) (en_len boc_len) (Nat.le_refl _)) (by omega) (by omega)) fun a hk => ?_
     refine q_v hk (w_ld1 rfl ty4 (lstq (k := tk) (blk_lst (hs.mi 1 rfl) (en_len boc_len) (Nat.le_refl _)) (by omega) (en_chunk boc_len (by omega)))) fun a hk => ?_
     refine q_v hk (w_mv rfl) fun a hk => ?_
     refine q_v hk (w_beq (t := true) rfl rfl Tryz.underlying4 (by rw [hfit]; rfl)) fun a hk => ?_
     refine q_v hk (w_pickT rfl rfl) fun a hk => ?_
     refine q_v hk (w_mv rfl) fun a hk => ?_
     refine q_v hk (w_mv rfl) fun a hk => ?_
     refine q_v hk (w_mv rfl) fun a hk => ?_
     refine q_call (caps := []) hk rfl rfl Tryz.func31 fo31 rfl rfl (containsL_c (susL_mem (rej_wo hD hi (by omega) (by omega) (by omega) hc7 (by omega)) nn hi) (row_lst (hs.mi 0 rfl)) (by have := susL_len (s := s) (S := (chS S8 ti tk vv)) (m := nn) nn; omega)) ?_
     rintro _ w ⟨rfl, hb⟩
     have hs := hs.below hb
     refine ⟨_, rfl, fun a hk => ?_⟩
     refine q_v hk (w_pickT rfl rfl) fun a hk => ?_
     refine q_v hk (w_as rfl) fun a hk => ?_
     refine c_end (x_t ?_)
     refine (wpIn_ret ?_)
     refine c_ret1 hk rfl rfl ?_
     exact ⟨rfl, hs.toBelow⟩
theorem lawRej_c (W : World) (F T N L : Int) (sa : Option Addr) (sn sc : Nat) (f : Nat → Nat) (ra : Option Addr) (rn rc : Nat) (fr : Nat → Nat) (xf xk yv : Nat) (hf : ∀ j, f j < 256) (HS : LstAt W 1 (.slice sa sn sc) sn (en bc f sn)) (hfr : ∀ j, fr j < 256) (HR : LstAt W 1 (.slice ra rn rc) rn (en bc fr rn)) (hxf : xf < 256) (hxk : xk < 256) (hy4 : yv < R4) (HL : Laid W) :
    Calls Tryz.prog 6 #[.agg #[.int .i64 F, .int .i64 T, .int .i64 N, .int .i64 L, .slice sa sn sc, .slice ra rn rc], .agg #[.int .u8 ((xf : Nat) : Int), .int .u8 ((xk : Nat) : Int)], vec yv] W fun e w => e = .returned (.bool true) ∧ Below W.heap.size W w := by
  by_cases h : okDeal F T N L sn rn
  · obtain ⟨s, th, nn, rfl, rfl, rfl, rfl, h0, hr⟩ := okDeal_nat h
    by_cases hyz : zn s yv = 0
    · exact lawRej_same s th nn sn rn sc rc xf xk sa ra f fr yv W h0 HS hf HR hfr hr HL (by omega) (by omega) hy4 hyz
    · exact lawRej_diff s th nn sn rn sc rc xf xk sa ra f fr yv W h0 HS hf HR hfr hr HL (by omega) (by omega) hy4 hyz
  · exact lawRej_bad F T N L sn rn sc rc xf xk sa ra yv W h HL
end Go.Proofs.YtdnkkbmpefhbjaaGreatDoor
namespace Go.Proofs.YtdnkkbmpefhbjaaGreatDoor
set_option linter.all false
open Go Go.ChangeShapes Go.WideShapes Go.ChangeAt Go.WideMaps Go.WideElems Go.RowKit
theorem own : ownKnob Tryz.prog.godebug = none := by kernel_rfl
theorem laidOut : laidOutB Tryz.prog = true := by kernel_rfl
theorem gFields : Tryz.prog.globalNamed "sharecore/field.fields" = some 0 := by kernel_rfl
theorem tFields : (Tryz.prog.globals[0]?).map (·.type) = some 168 := by kernel_rfl
theorem cells64 : Tryz.prog.cellsOf 46 = 1 := by kernel_rfl
theorem cellsInt : Tryz.prog.cellsOf 3 = 1 := by kernel_rfl
theorem cellsVec : Tryz.prog.cellsOf 47 = 4 := by kernel_rfl
theorem cellsElem : Tryz.prog.cellsOf 56 = 4 := by kernel_rfl
theorem cellsField : Tryz.prog.cellsOf 120 = 14 := by kernel_rfl
theorem cellsFields : Tryz.prog.cellsOf 168 = 28 := by kernel_rfl
section
variable {H : Type} {enc : TypeId × Value → H} {w : World} {base : Nat} {spare : Nat → Bool} {held : Bool} {n : Nat} {cs : List Value} {ps : List MemPlace}
set_option maxRecDepth 100000 in
theorem four_of {T : TypeId} {d : DataW H} (hT : Tryz.prog.underlying T = some (.array 4 46)) (hc : Tryz.prog.cellsOf T = 4) (h : DataW.trod enc Tryz.prog w base spare held n T cs = some (d, ps)) :
    ∃ a0 a1 a2 a3 : Int, cs = [.int .u64 a0, .int .u64 a1, .int .u64 a2, .int .u64 a3] ∧ d = .agg [.lit (.int .u64 a0), .lit (.int .u64 a1), .lit (.int .u64 a2), .lit (.int .u64 a3)] ∧
      (Lit.int .u64 a0).wf = true ∧ (Lit.int .u64 a1).wf = true ∧ (Lit.int .u64 a2).wf = true ∧ (Lit.int .u64 a3).wf = true := by
  obtain ⟨xs, m, rfl, hx, hlen, hn, hel⟩ := DataW.trod_array hT h
  rw [hc] at hlen
  match cs, hlen with
  | [c0, c1, c2, c3], _ =>
    match xs, hn with
    | [x0, x1, x2, x3], _ =>
      have e0 := hel 0 (by omega)
      have e1 := hel 1 (by omega)
      have e2 := hel 2 (by omega)
      have e3 := hel 3 (by omega)
      rw [cells64] at e0 e1 e2 e3
      simp only [Nat.mul_one, List.drop_zero, List.drop_succ_cons, List.take_succ_cons, List.take_zero, List.getElem?_cons_zero, List.getElem?_cons_succ] at e0 e1 e2 e3
      obtain ⟨k0, f0, g0, w0⟩ := DataW.trod_int Tryz.underlying46 e0
      obtain ⟨k1, f1, g1, w1⟩ := DataW.trod_int Tryz.underlying46 e1
      obtain ⟨k2, f2, g2, w2⟩ := DataW.trod_int Tryz.underlying46 e2
      obtain ⟨k3, f3, g3, w3⟩ := DataW.trod_int Tryz.underlying46 e3
      subst g0 g1 g2 g3
      simp only [List.cons.injEq, and_true] at f0 f1 f2 f3
      subst f0 f1 f2 f3
      simp only [Prod.mk.injEq] at hx
      exact ⟨k0, k1, k2, k3, rfl, hx.1, w0, w1, w2, w3⟩
set_option maxRecDepth 100000 in
theorem field_of {i i' p0 p1 p2 p3 v o0 o1 o2 o3 s0 s1 s2 s3 : Int} (h : DataW.trod enc Tryz.prog w base spare held n 120 cs = some (.agg [.lit (.int .i64 i), .agg [.lit (.int .u64 p0), .lit (.int .u64 p1), .lit (.int .u64 p2), .lit (.int .u64 p3)], .lit (.int .u64 v), .agg [.lit (.int .u64 o0), .lit (.int .u64 o1), .lit (.int .u64 o2), .lit (.int .u64 o3)], .agg [.lit (.int .u64 s0), .lit (.int .u64 s1), .lit (.int .u64 s2), .lit (.int .u64 s3)]], ps)) (_hi : i' = i) :
    cs = [.int .i64 i, .int .u64 p0, .int .u64 p1, .int .u64 p2, .int .u64 p3, .int .u64 v, .int .u64 o0, .int .u64 o1, .int .u64 o2, .int .u64 o3, .int .u64 s0, .int .u64 s1, .int .u64 s2, .int .u64 s3] := by
  obtain ⟨xs, m, rfl, hx, hlen, hn, hel⟩ := DataW.trod_struct Tryz.underlying120 h
  rw [cellsField] at hlen
  match cs, hlen with
  | [c0, c1, c2, c3, c4, c5, c6, c7, c8, c9, c10, c11, c12, c13], _ =>
    match xs, hn with
    | [x0, x1, x2, x3, x4], _ =>
      have e0 := hel 0 { name := "ID", type := 3, offset := 0, embedded := false, tag := "", pkgPath := "", byteOffset := 0 } rfl
      have e1 := hel 1 { name := "Modulus", type := 47, offset := 1, embedded := false, tag := "", pkgPath := "", byteOffset := 8 } rfl
      have e2 := hel 2 { name := "Inverse", type := 46, offset := 5, embedded := false, tag := "", pkgPath := "", byteOffset := 40 } rfl
      have e3 := hel 3 { name := "One", type := 56, offset := 6, embedded := false, tag := "", pkgPath := "", byteOffset := 48 } rfl
      have e4 := hel 4 { name := "Square", type := 47, offset := 10, embedded := false, tag := "", pkgPath := "", byteOffset := 80 } rfl
      simp only [cells64, cellsInt, cellsVec, cellsElem, List.drop_zero, List.drop_succ_cons, List.take_succ_cons, List.take_zero, List.getElem?_cons_zero, List.getElem?_cons_succ] at e0 e1 e2 e3 e4
      obtain ⟨k0, f0, g0, _⟩ := DataW.trod_int Tryz.underlying3 e0
      obtain ⟨k2, f2, g2, _⟩ := DataW.trod_int Tryz.underlying46 e2
      obtain ⟨x1, r1⟩ := x1
      obtain ⟨x3, r3⟩ := x3
      obtain ⟨x4, r4⟩ := x4
      obtain ⟨a0, a1, a2, a3, f1, g1, _⟩ := four_of Tryz.underlying47 cellsVec e1
      obtain ⟨b0, b1, b2, b3, f3, g3, _⟩ := four_of Tryz.underlying56 cellsElem e3
      obtain ⟨d0, d1, d2, d3, f4, g4, _⟩ := four_of Tryz.underlying47 cellsVec e4
      subst g0 g1 g2 g3 g4
      simp only [List.cons.injEq, and_true] at f0 f2
      simp only [List.cons.injEq, and_true] at f1
      simp only [List.cons.injEq, and_true] at f3
      simp only [List.cons.injEq, and_true] at f4
      simp only [Prod.mk.injEq, List.map_cons, List.map_nil, DataW.agg.injEq, List.cons.injEq, DataW.lit.injEq, Lit.int.injEq, true_and, and_true] at hx
      obtain ⟨⟨rfl, ⟨rfl, rfl, rfl, rfl⟩, rfl, ⟨rfl, rfl, rfl, rfl⟩, rfl, rfl, rfl, rfl⟩, _⟩ := hx
      obtain ⟨rfl, rfl, rfl, rfl⟩ := f1
      obtain ⟨rfl, rfl, rfl, rfl⟩ := f3
      obtain ⟨rfl, rfl, rfl, rfl⟩ := f4
      subst f0 f2
      rfl
end
theorem of_laid {W : World} (h : laidMetH Tryz.prog [("sharecore/field.fields", Rows.laid_sharecore_field_fields)] W) : Laid W := by
  rw [MakeChecks.laidMetH_plain _ _ _ (by kernel_rfl)] at h
  obtain ⟨ps, ⟨g0, t0, cs0, f0, p0, q0, hg0, ht0, hv0, hd0, _, _⟩, _, _⟩ := h
  obtain rfl := Option.some.inj (gFields.symm.trans hg0)
  obtain rfl := Option.some.inj (tFields.symm.trans ht0)
  have key : cs0.toList = fieldCells.toList := by
    obtain ⟨xs, m, rfl, hx, hlen, hn, hel⟩ := DataW.trod_array Tryz.underlying168 hd0
    rw [cellsFields] at hlen
    match xs, hn with
    | [x0, x1], _ =>
      have e0 := hel 0 (by omega)
      have e1 := hel 1 (by omega)
      simp only [cellsField, Nat.zero_mul, Nat.one_mul, List.drop_zero, List.getElem?_cons_zero, List.getElem?_cons_succ] at e0 e1
      obtain ⟨x0, r0⟩ := x0
      obtain ⟨x1, r1⟩ := x1
      unfold Rows.laid_sharecore_field_fields at hx
      simp only [Prod.mk.injEq, List.map_cons, List.map_nil, DataW.agg.injEq, List.cons.injEq, and_true] at hx
      obtain ⟨⟨rfl, rfl⟩, _⟩ := hx
      have k0 := field_of e0 rfl
      have k1 := field_of e1 rfl
      rw [List.take_of_length_le (by rw [List.length_drop, hlen]; omega)] at k1
      rw [← List.take_append_drop 14 cs0.toList, k0, k1]
      rfl
  have key' : cs0 = fieldCells := by rw [← Array.toArray_toList (xs := cs0), key]
  intro j v hv
  rw [World.var?_cell hg0 hv0 j, key']
  exact hv
theorem wf64 {a : Int} (h : (Lit.int .u64 a).wf = true) : ∃ n : Nat, a = (n : Int) ∧ n < W := by
  have := bounds_u64 h
  exact ⟨a.toNat, by omega, by unfold W; omega⟩
/-- An array of four words that came in by value. -/
theorem open_vec {H : Type} {enc : TypeId × Value → H} {w : World} {base b0 : Nat} {spare : Nat → Bool} {held : Bool} {r : Reach} {T : TypeId} {v : Value} {d : DataW H} {p : List MemPlace} (hT : Tryz.prog.underlying T = some (.array 4 46)) (hc : Tryz.prog.cellsOf T = 4)
    (hv : Value.okWide Tryz.prog w r b0 T v) (h : DataW.Trod enc Tryz.prog w base spare held T v d p) : ∃ n, n < R4 ∧ v = vec n := by
  have hk : ∃ cs, v = .agg cs := by
    simp only [Value.okWide, hT] at hv
    obtain ⟨cs, h1, _⟩ := hv
    exact ⟨cs, h1⟩
  obtain ⟨cs, rfl⟩ := hk
  obtain ⟨fuel, hf⟩ := h
  obtain ⟨a0, a1, a2, a3, e, _, w0, w1, w2, w3⟩ := four_of hT hc hf
  obtain ⟨n0, rfl, l0⟩ := wf64 w0
  obtain ⟨n1, rfl, l1⟩ := wf64 w1
  obtain ⟨n2, rfl, l2⟩ := wf64 w2
  obtain ⟨n3, rfl, l3⟩ := wf64 w3
  refine ⟨val4 n0 n1 n2 n3, val4_lt l0 l1 l2 l3, ?_⟩
  rw [vec_val4 l0 l1 l2 l3]
  have : cs.toList = _ := e
  rw [← Array.toArray_toList (xs := cs), this]
theorem lt_of {H : Type} {enc : TypeId × Value → H} {w : World} {spare : Nat → Bool} {held : Bool} {T : TypeId} {v : Value} {d : DataW H} {p : List MemPlace} (h : DataW.Trod enc Tryz.prog w 0 spare held T v d p) : ∀ x ∈ p, x.block < w.heap.size := by
  obtain ⟨m, hm⟩ := h
  exact DataW.trod_lt m _ _ _ hm
end Go.Proofs.YtdnkkbmpefhbjaaGreatDoor
namespace Go.Proofs.YtdnkkbmpefhbjaaGreatDoor
set_option linter.all false
open Go Go.ChangeShapes Go.WideShapes Go.ChangeAt Go.WideMaps Go.WideElems Go.RowKit
section
variable {H : Type} {enc : TypeId × Value → H} {w : World} {held : Bool} {P : Program}
theorem cells_at {b : Nat} {q : Addr} {n : Nat} {cs : List Value} (h : w.cells? b q n = some cs) : cs.length = n ∧ ∀ j u, cs[j]? = some u → w.cell? (q.add j) = some u := by
  obtain ⟨_, h1, h2⟩ := World.cells?_some h
  refine ⟨h1, fun j u hj => ?_⟩
  rw [h2 j (by have := (List.getElem?_eq_some_iff.1 hj).1; omega), hj]
/-- A slice whose elements are each read as the cells of something. -/
theorem open_lst {α : Type} {c : α → List Value} {sz : Nat} {φ : α → Prop} {T te : TypeId} (hT : P.underlying T = some (.slice te)) (hc : P.cellsOf te = sz) (hs : 0 < sz) (hlen : ∀ x, (c x).length = sz) (d0 : α)
    (hel : ∀ fuel cs d p, DataW.trod enc P w 0 (fun _ => true) held fuel te cs = some (d, p) → ∃ x, φ x ∧ cs = c x) {a : Option Addr} {n cap : Nat} {d : DataW H} {p : List MemPlace}
    (h : DataW.Trod enc P w 0 (fun _ => true) held T (.slice a n cap) d p) : ∃ f : Nat → α, (∀ i, i < n → φ (f i)) ∧ LstAt w sz (.slice a n cap) n (en c f n) := by
  subst hc
  obtain ⟨fuel, hf⟩ := h
  rcases DataW.trod_slice hT hf with ⟨e, _⟩ | ⟨ad, len, cap', elems, rest, m, _, e, _, _, hl, _, hel1, hel2, _⟩
  · have e' : ([Value.slice a n cap] : List Value) = [.slice none 0 0] := e
    simp only [List.cons.injEq, Value.slice.injEq, and_true] at e'
    obtain ⟨rfl, rfl, rfl⟩ := e'
    exact ⟨fun _ => d0, fun i hi => (by omega), ⟨by simp [en], none, 0, rfl, Nat.le_refl _, fun _ => ⟨rfl, rfl⟩, fun ad h => by cases h⟩⟩
  · have e' : ([Value.slice a n cap] : List Value) = [.slice (some ad) len cap'] := e
    simp only [List.cons.injEq, Value.slice.injEq, and_true] at e'
    obtain ⟨rfl, rfl, rfl⟩ := e'
    have key : ∀ i, ∃ x, i < n → φ x ∧ ∀ j u, (c x)[j]? = some u → w.cell? ((ad.add (i * P.cellsOf te)).add j) = some u := by
      intro i
      by_cases hi : i < n
      · have h1 := hel2 i hi
        cases hcs : w.cells? 0 (ad.add (i * P.cellsOf te)) (P.cellsOf te) with
        | none =>
          rw [hcs, Option.bind_none, List.getElem?_eq_getElem (by omega)] at h1
          cases h1
        | some cs =>
          rw [hcs, Option.bind_some, List.getElem?_eq_getElem (by omega)] at h1
          obtain ⟨x, hx, rfl⟩ := hel _ _ _ _ h1
          exact ⟨x, fun _ => ⟨hx, (cells_at hcs).2⟩⟩
      · exact ⟨d0, fun h => absurd h hi⟩
    refine ⟨fun i => Classical.choose (key i), fun i hi => (Classical.choose_spec (key i) hi).1, ?_⟩
    have hcell : ∀ i, i < n → ∀ j u, (c (Classical.choose (key i)))[j]? = some u → w.cell? ((ad.add (i * P.cellsOf te)).add j) = some u := fun i hi => (Classical.choose_spec (key i) hi).2
    generalize hF : (fun i => Classical.choose (key i)) = f
    have hcell' : ∀ i, i < n → ∀ j u, (c (f i))[j]? = some u → w.cell? ((ad.add (i * P.cellsOf te)).add j) = some u := by subst hF; exact hcell
    clear hcell
    refine ⟨en_len hlen, some ad, cap, rfl, hl, (fun h => by cases h), fun q hq hn => ?_⟩
    cases hq
    have h0 : w.cell? ad = some ((c (f 0))[0]'(by rw [hlen]; exact hs)) := by
      have := hcell' 0 hn 0 _ (List.getElem?_eq_getElem (by rw [hlen]; exact hs))
      rw [Nat.zero_mul] at this
      exact this
    have hspot : ad.spot = none := by simpa using World.cell?_spot h0
    refine ⟨hspot, World.block_lt_of_cell? w _ h0, fun j u hj => ?_⟩
    have hjl := (List.getElem?_eq_some_iff.1 hj).1
    rw [en_len hlen] at hjl
    have hi : j / P.cellsOf te < n := (Nat.div_lt_iff_lt_mul hs).2 hjl
    have hch := en_chunk (c := c) (f := f) hlen hi
    have h2 := congrArg (fun l => l[j % P.cellsOf te]?) hch
    simp only [List.getElem?_take, List.getElem?_drop] at h2
    rw [if_pos (Nat.mod_lt _ hs), show j / P.cellsOf te * P.cellsOf te + j % P.cellsOf te = j by rw [Nat.mul_comm]; exact Nat.div_add_mod j _, hj] at h2
    have := hcell' _ hi _ u h2.symm
    rw [add_add hspot, show j / P.cellsOf te * P.cellsOf te + j % P.cellsOf te = j by rw [Nat.mul_comm]; exact Nat.div_add_mod j _] at this
    exact this
end
end Go.Proofs.YtdnkkbmpefhbjaaGreatDoor
namespace Go.Proofs.YtdnkkbmpefhbjaaGreatDoor
set_option linter.all false
open Go Go.ChangeShapes Go.WideShapes Go.ChangeAt Go.WideMaps Go.WideElems Go.RowKit
theorem cellsParams : Tryz.prog.cellsOf 41 = 4 := by kernel_rfl
theorem cellsSecret : Tryz.prog.cellsOf 44 = 6 := by kernel_rfl
theorem cellsByte : Tryz.prog.cellsOf 5 = 1 := by kernel_rfl
theorem cellsBytes : Tryz.prog.cellsOf 42 = 1 := by kernel_rfl
theorem wf_n8 {a : Int} (h : (Lit.int .u8 a).wf = true) : ∃ n : Nat, a = (n : Int) ∧ n < 256 := by
  have hb := bounds_u8 h
  exact ⟨a.toNat, by omega, by omega⟩
section
variable {H : Type} {enc : TypeId × Value → H} {w : World} {held : Bool} {P : Program}
theorem open_bytef {a : Option Addr} {n cap : Nat} {d : DataW H} {p : List MemPlace} (h : DataW.Trod enc Tryz.prog w 0 (fun _ => true) held 42 (.slice a n cap) d p) :
    ∃ f : Nat → Nat, (∀ j, f j < 256) ∧ LstAt w 1 (.slice a n cap) n (en bc f n) := by
  obtain ⟨f, hf, hL⟩ := open_lst (c := bc) (φ := fun x => x < 256) Tryz.underlying42 cellsByte (by decide) bc_len 0 (fun fuel cs d p hf => by
    obtain ⟨k, hk, _, hw⟩ := DataW.trod_int Tryz.underlying5 hf
    have hb := bounds_u8 hw
    exact ⟨k.toNat, by omega, by rw [hk]; unfold bc; rw [Int.toNat_of_nonneg hb.1]⟩) h
  refine ⟨fun j => if j < n then f j else 0, fun j => ?_, ?_⟩
  · show (if j < n then f j else 0) < 256
    by_cases hj : j < n
    · rw [if_pos hj]; exact hf j hj
    · rw [if_neg hj]; decide
  · have e : en bc (fun j => if j < n then f j else 0) n = en bc f n := en_congr fun i hi => if_pos hi
    rw [e]; exact hL
set_option maxRecDepth 100000 in
theorem open_secret {b0 : Nat} {r : Reach} {v : Value} {d : DataW H} {p : List MemPlace} (hv : Value.okWide Tryz.prog w r b0 44 v) (h : DataW.Trod enc Tryz.prog w 0 (fun _ => true) held 44 v d p) :
    ∃ (F T N L : Int) (a : Option Addr) (n c : Nat) (f : Nat → Nat) (ra : Option Addr) (rn rc : Nat) (fr : Nat → Nat), v = .agg #[.int .i64 F, .int .i64 T, .int .i64 N, .int .i64 L, .slice a n c, .slice ra rn rc] ∧ (∀ j, f j < 256) ∧ LstAt w 1 (.slice a n c) n (en bc f n) ∧ (∀ j, fr j < 256) ∧ LstAt w 1 (.slice ra rn rc) rn (en bc fr rn) := by
  have hk : ∃ cs, v = .agg cs := by
    simp only [Value.okWide, Tryz.underlying44] at hv
    obtain ⟨cs, h1, _⟩ := hv
    exact ⟨cs, h1⟩
  obtain ⟨cs, rfl⟩ := hk
  obtain ⟨fuel, hf⟩ := h
  have hf' : DataW.trod enc Tryz.prog w 0 (fun _ => true) held fuel 44 cs.toList = some (d, p) := hf
  obtain ⟨xs, m, rfl, hx, hlen, hn, hel⟩ := DataW.trod_struct Tryz.underlying44 hf'
  rw [cellsSecret] at hlen
  have hcs : cs = cs.toList.toArray := by simp
  generalize cs.toList = l at *
  subst hcs
  match l, hlen with
  | [c0, c1, c2, c3, c4, c5], _ =>
    match xs, hn with
    | [x0, x1, x2], _ =>
      have e0 := hel 0 { name := "Params", type := 41, offset := 0, embedded := false, tag := "", pkgPath := "", byteOffset := 0 } rfl
      have e1 := hel 1 { name := "Secret", type := 42, offset := 4, embedded := false, tag := "", pkgPath := "", byteOffset := 32 } rfl
      have e2 := hel 2 { name := "Random", type := 42, offset := 5, embedded := false, tag := "", pkgPath := "", byteOffset := 56 } rfl
      simp only [cellsParams, cellsBytes, List.drop_zero, List.drop_succ_cons, List.take_succ_cons, List.take_zero, List.getElem?_cons_zero, List.getElem?_cons_succ] at e0 e1 e2
      obtain ⟨ys, m2, _, hx2, hlen2, hn2, hel2⟩ := DataW.trod_struct Tryz.underlying41 e0
      match ys, hn2 with
      | [y0, y1, y2, y3], _ =>
        have g0 := hel2 0 { name := "Field", type := 3, offset := 0, embedded := false, tag := "", pkgPath := "", byteOffset := 0 } rfl
        have g1 := hel2 1 { name := "Threshold", type := 3, offset := 1, embedded := false, tag := "", pkgPath := "", byteOffset := 8 } rfl
        have g2 := hel2 2 { name := "Shares", type := 3, offset := 2, embedded := false, tag := "", pkgPath := "", byteOffset := 16 } rfl
        have g3 := hel2 3 { name := "Length", type := 3, offset := 3, embedded := false, tag := "", pkgPath := "", byteOffset := 24 } rfl
        simp only [cellsInt, List.drop_zero, List.drop_succ_cons, List.take_succ_cons, List.take_zero, List.getElem?_cons_zero, List.getElem?_cons_succ] at g0 g1 g2 g3
        obtain ⟨F, f0, _, _⟩ := DataW.trod_int Tryz.underlying3 g0
        obtain ⟨T, f1, _, _⟩ := DataW.trod_int Tryz.underlying3 g1
        obtain ⟨I, f2, _, _⟩ := DataW.trod_int Tryz.underlying3 g2
        obtain ⟨L, f3, _, _⟩ := DataW.trod_int Tryz.underlying3 g3
        simp only [List.cons.injEq, and_true] at f0 f1 f2 f3
        subst f0 f1 f2 f3
        obtain ⟨x1, r1⟩ := x1
        obtain ⟨x2, r2⟩ := x2
        have hs1 : ∃ a n c, c4 = .slice a n c := by
          rcases DataW.trod_slice Tryz.underlying42 e1 with ⟨e, _⟩ | ⟨ad, len, cap', elems, rest, m, _, e, _⟩
          · simp only [List.cons.injEq, and_true] at e; exact ⟨_, _, _, e⟩
          · simp only [List.cons.injEq, and_true] at e; exact ⟨_, _, _, e⟩
        have hs2 : ∃ a n c, c5 = .slice a n c := by
          rcases DataW.trod_slice Tryz.underlying42 e2 with ⟨e, _⟩ | ⟨ad, len, cap', elems, rest, m, _, e, _⟩
          · simp only [List.cons.injEq, and_true] at e; exact ⟨_, _, _, e⟩
          · simp only [List.cons.injEq, and_true] at e; exact ⟨_, _, _, e⟩
        obtain ⟨a, n, c, rfl⟩ := hs1
        obtain ⟨ra, rn, rc, rfl⟩ := hs2
        obtain ⟨f, h4, hL⟩ := open_bytef (a := a) (n := n) (cap := c) ⟨_, e1⟩
        obtain ⟨fr, h5, hL2⟩ := open_bytef (a := ra) (n := rn) (cap := rc) ⟨_, e2⟩
        exact ⟨F, T, I, L, a, n, c, f, ra, rn, rc, fr, rfl, h4, hL, h5, hL2⟩
theorem cellsTwo : Tryz.prog.cellsOf 45 = 2 := by kernel_rfl
set_option maxRecDepth 100000 in
/-- Two small numbers that came in. -/
theorem open_two {b0 : Nat} {r : Reach} {v : Value} {d : DataW H} {p : List MemPlace} (hv : Value.okWide Tryz.prog w r b0 45 v) (h : DataW.Trod enc Tryz.prog w 0 (fun _ => true) held 45 v d p) :
    ∃ x y : Nat, v = .agg #[.int .u8 ((x : Nat) : Int), .int .u8 ((y : Nat) : Int)] ∧ x < 256 ∧ y < 256 := by
  have hk : ∃ cs, v = .agg cs := by
    simp only [Value.okWide, Tryz.underlying45] at hv
    obtain ⟨cs, h1, _⟩ := hv
    exact ⟨cs, h1⟩
  obtain ⟨cs, rfl⟩ := hk
  obtain ⟨fuel, hf⟩ := h
  have hf' : DataW.trod enc Tryz.prog w 0 (fun _ => true) held fuel 45 cs.toList = some (d, p) := hf
  obtain ⟨xs, m, rfl, hx, hlen, hn, hel⟩ := DataW.trod_array Tryz.underlying45 hf'
  rw [cellsTwo] at hlen
  have hcs : cs = cs.toList.toArray := by simp
  generalize cs.toList = l at *
  subst hcs
  match l, hlen with
  | [c0, c1], _ =>
    match xs, hn with
    | [x0, x1], _ =>
      have e0 := hel 0 (by omega)
      have e1 := hel 1 (by omega)
      rw [cellsByte] at e0 e1
      simp only [Nat.mul_one, List.drop_zero, List.drop_succ_cons, List.take_succ_cons, List.take_zero, List.getElem?_cons_zero, List.getElem?_cons_succ] at e0 e1
      obtain ⟨k0, f0, g0, w0⟩ := DataW.trod_int Tryz.underlying5 e0
      obtain ⟨k1, f1, g1, w1⟩ := DataW.trod_int Tryz.underlying5 e1
      simp only [List.cons.injEq, and_true] at f0 f1
      subst f0 f1
      obtain ⟨x, rfl, hx⟩ := wf_n8 w0
      obtain ⟨y, rfl, hy⟩ := wf_n8 w1
      exact ⟨x, y, rfl, hx, hy⟩
end
end Go.Proofs.YtdnkkbmpefhbjaaGreatDoor
