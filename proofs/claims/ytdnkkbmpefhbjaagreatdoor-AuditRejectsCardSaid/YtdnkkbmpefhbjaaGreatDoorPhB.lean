/- Part 2 of what the proof of AuditRejects needs: joined out of the texts of this seat, only what is used. -/
import Derived.Test.YtdnkkbmpefhbjaaGreatDoorPhA
import Derived.Maps.AppendAt
import Derived.OwnWalk
import Derived.Laws.CopyOwn
import Derived.IntWalk
import Init
import Derived.Test.YtdnkkbmpefhbjaaGreatDoorProg
namespace Go.Proofs.YtdnkkbmpefhbjaaGreatDoor
set_option linter.all false
open Go.RowKit
/-- The Montgomery product of two numbers. -/
def mm (s : Bool) (a b : Nat) : Nat := a * b * rinv s % pr s
theorem ninv_ok (s : Bool) : (ninv s * dg 0 (pr s) + 1) % W = 0 := by cases s <;> decide
theorem rinv_ok (s : Bool) : R4 * rinv s % pr s = 1 % pr s := by cases s <;> decide
set_option maxRecDepth 100000 in
set_option maxHeartbeats 8000000 in
theorem montMul_c (s : Bool) (a b : Nat) (ha : a < R4) (hb : b < R4) (hab : a * b < R4 * pr s) (w : World) :
    Calls Tryz.prog 120 #[fieldV s, vec a, vec b] w fun e w' => e = .returned (vec (mm s a b)) ∧ Below w.heap.size w w' := by
  have A0 := add64_0
  have A00 : ∀ (y : Nat) (w : World), (callFunc 150 #[.int .u64 0, .int .u64 (y : Int), .int .u64 0]).run Tryz.prog w =
      .ok (.value (.tuple #[.int .u64 ((addLo 0 y 0 : Nat) : Int), .int .u64 ((addHi 0 y 0 : Nat) : Int)])) w := fun y w => add64_c 0 y 0 (by omega) w
  have A1 := wrap_mul
  have A2 := wrap_add
  have Ha := Lib.hid ha
  have Hb := Lib.hid hb
  have Hab := Lib.hid hab
  have M0 := Lib.hid (MI_zero (pr_pos s) a b)
  have Hp := Lib.hid (pr_lt s)
  have hdb : ∀ k, ∀ h : k < ([.int .u64 ((dg 0 b : Nat) : Int), .int .u64 ((dg 1 b : Nat) : Int), .int .u64 ((dg 2 b : Nat) : Int), .int .u64 ((dg 3 b : Nat) : Int)] : List Value).length, ([.int .u64 ((dg 0 b : Nat) : Int), .int .u64 ((dg 1 b : Nat) : Int), .int .u64 ((dg 2 b : Nat) : Int), .int .u64 ((dg 3 b : Nat) : Int)] : List Value)[k]'h = .int .u64 ((dg k b : Nat) : Int) := fun k hk => by
    simp only [List.length_cons, List.length_nil] at hk
    rcases k with _ | _ | _ | _ | k <;> first | rfl | omega
  have Hdb := Lib.hid hdb
  clear ha hb hab hdb
  go_enter Tryz.func120, Tryz.ntmps120
  go_wp2_with fail
  go_loopw [15] (fun i wr => ∃ (k t0 t1 t2 t3 t4 t5 n : Nat), k ≤ 4 ∧ i = .int .i64 (k : Int) ∧ wr = World.drewN (((((w.alloc (.cells #[.int .i64 (fid s), .int .u64 ((dg 0 (pr s) : Nat) : Int), .int .u64 ((dg 1 (pr s) : Nat) : Int), .int .u64 ((dg 2 (pr s) : Nat) : Int), .int .u64 ((dg 3 (pr s) : Nat) : Int), .int .u64 ((ninv s : Nat) : Int), .int .u64 ((dg 0 (rone s) : Nat) : Int), .int .u64 ((dg 1 (rone s) : Nat) : Int), .int .u64 ((dg 2 (rone s) : Nat) : Int), .int .u64 ((dg 3 (rone s) : Nat) : Int), .int .u64 ((dg 0 (rsq s) : Nat) : Int), .int .u64 ((dg 1 (rsq s) : Nat) : Int), .int .u64 ((dg 2 (rsq s) : Nat) : Int), .int .u64 ((dg 3 (rsq s) : Nat) : Int)] 120)).alloc
      (.cells #[.int .u64 ((dg 0 a : Nat) : Int), .int .u64 ((dg 1 a : Nat) : Int), .int .u64 ((dg 2 a : Nat) : Int), .int .u64 ((dg 3 a : Nat) : Int)] 56)).alloc
      (.cells #[.int .u64 ((dg 0 b : Nat) : Int), .int .u64 ((dg 1 b : Nat) : Int), .int .u64 ((dg 2 b : Nat) : Int), .int .u64 ((dg 3 b : Nat) : Int)] 56)).alloc
      (.cells #[.int .u64 0, .int .u64 0, .int .u64 0, .int .u64 0] 56)).alloc
      (.cells #[.int .u64 (t0 : Int), .int .u64 (t1 : Int), .int .u64 (t2 : Int), .int .u64 (t3 : Int), .int .u64 (t4 : Int), .int .u64 (t5 : Int)] 195)) n ∧
      t0 < W ∧ t1 < W ∧ t2 < W ∧ t3 < W ∧ t4 ≤ 1 ∧ MI (pr s) a b k (V5 t0 t1 t2 t3 t4)) (fun i _ => 4 - (intOf i).toNat)
  case atStart => exact ⟨0, 0, 0, 0, 0, 0, 0, 0, by omega, rfl, rfl, W_pos, W_pos, W_pos, W_pos, by omega, M0.out⟩
  case round =>
    obtain ⟨k, t0, t1, t2, t3, t4, t5, n, hk4, rfl, rfl, b0, b1, b2, b3, l4, mi⟩ := hrel
    have B0 := Lib.hid b0
    have B1 := Lib.hid b1
    have B2 := Lib.hid b2
    have B3 := Lib.hid b3
    have L4 := Lib.hid l4
    have Mi := Lib.hid mi
    clear b0 b1 b2 b3 l4 mi M0
    by_cases hk : k < 4
    · have hdk := Hdb.out k (by simp only [List.length_cons, List.length_nil]; omega)
      go_wp2_with fail
      refine wp_loop_rounds 5 ?_
      rw [rounds_succ]
      go_wp2_with fail
      refine region_mix 17 [false, false, false, false, false, false, false, false, false, false, false, false, false, false, false, false, false] (fun w' => w' = World.drew _) (by kernel_rfl) (by kernel_rfl) (by intro _ _ d _ _ h; cases d <;> exact h) rfl ?_
      simp only [List.take_succ_cons, List.take_zero, List.drop_succ_cons, List.drop_zero]
      with_reducible refine mix_v ?_ ?_ ?_
      · rfl
      · rfl
      apply Exists.intro
      refine ⟨fun w' hC => ?_, ?_⟩
      · subst hC
        go_simp
        rfl
      try simp only [Act.put, sA, sB, sC, sD]
      with_reducible refine mix_v ?_ ?_ ?_
      · rfl
      · rfl
      apply Exists.intro
      refine ⟨fun w' hC => ?_, ?_⟩
      · subst hC
        go_simp
        rfl
      try simp only [Act.put, sA, sB, sC, sD]
      with_reducible refine mix_v ?_ ?_ ?_
      · rfl
      · rfl
      apply Exists.intro
      refine ⟨fun w' hC => ?_, ?_⟩
      · subst hC
        go_simp
        rfl
      try simp only [Act.put, sA, sB, sC, sD]
      with_reducible refine mix_v ?_ ?_ ?_
      · rfl
      · rfl
      apply Exists.intro
      refine ⟨fun w' hC => ?_, ?_⟩
      · subst hC
        go_simp
        rfl
      try simp only [Act.put, sA, sB, sC, sD]
      with_reducible refine mix_v ?_ ?_ ?_
      · rfl
      · rfl
      apply Exists.intro
      refine ⟨fun w' hC => ?_, ?_⟩
      · subst hC
        go_simp
        rfl
      try simp only [Act.put, sA, sB, sC, sD]
      with_reducible refine mix_v ?_ ?_ ?_
      · rfl
      · rfl
      apply Exists.intro
      refine ⟨fun w' hC => ?_, ?_⟩
      · subst hC
        go_simp
        rfl
      try simp only [Act.put, sA, sB, sC, sD]
      with_reducible refine mix_v ?_ ?_ ?_
      · rfl
      · rfl
      apply Exists.intro
      refine ⟨fun w' hC => ?_, ?_⟩
      · subst hC
        go_simp
        rfl
      try simp only [Act.put, sA, sB, sC, sD]
      with_reducible refine mix_v ?_ ?_ ?_
      · rfl
      · rfl
      apply Exists.intro
      refine ⟨fun w' hC => ?_, ?_⟩
      · subst hC
        go_simp
        rfl
      try simp only [Act.put, sA, sB, sC, sD]
      with_reducible refine mix_v ?_ ?_ ?_
      · rfl
      · rfl
      apply Exists.intro
      refine ⟨fun w' hC => ?_, ?_⟩
      · subst hC
        go_simp
        rfl
      try simp only [Act.put, sA, sB, sC, sD]
      with_reducible refine mix_v ?_ ?_ ?_
      · rfl
      · rfl
      apply Exists.intro
      refine ⟨fun w' hC => ?_, ?_⟩
      · subst hC
        go_simp
        rfl
      try simp only [Act.put, sA, sB, sC, sD]
      with_reducible refine mix_v ?_ ?_ ?_
      · rfl
      · rfl
      apply Exists.intro
      refine ⟨fun w' hC => ?_, ?_⟩
      · subst hC
        go_simp
        rfl
      try simp only [Act.put, sA, sB, sC, sD]
      with_reducible refine mix_c ?_ ?_ ?_
      · rfl
      · rfl
      apply Exists.intro
      apply Exists.intro
      apply Exists.intro
      refine ⟨fun w' hC => ?_, fun w' hC => ?_, ?_⟩
      · subst hC
        go_simp
        exact ⟨rfl, rfl⟩
      · subst hC
        exact same_of (multiplyAdd_c (dg 0 a) (dg k b) (t0) (0) (dg_lt _ _) (dg_lt _ _) B0.out W_pos _)
      try simp only [Act.put, sA, sB, sC, sD]
      with_reducible refine mix_v ?_ ?_ ?_
      · rfl
      · rfl
      apply Exists.intro
      refine ⟨fun w' hC => ?_, ?_⟩
      · subst hC
        go_simp
        rfl
      try simp only [Act.put, sA, sB, sC, sD]
      with_reducible refine mix_v ?_ ?_ ?_
      · rfl
      · rfl
      apply Exists.intro
      refine ⟨fun w' hC => ?_, ?_⟩
      · subst hC
        go_simp
        rfl
      try simp only [Act.put, sA, sB, sC, sD]
      with_reducible refine mix_v ?_ ?_ ?_
      · rfl
      · rfl
      apply Exists.intro
      refine ⟨fun w' hC => ?_, ?_⟩
      · subst hC
        go_simp
        rfl
      try simp only [Act.put, sA, sB, sC, sD]
      with_reducible refine mix_v ?_ ?_ ?_
      · rfl
      · rfl
      apply Exists.intro
      refine ⟨fun w' hC => ?_, ?_⟩
      · subst hC
        go_simp
        rfl
      try simp only [Act.put, sA, sB, sC, sD]
      with_reducible refine mix_v ?_ ?_ ?_
      · rfl
      · rfl
      apply Exists.intro
      refine ⟨fun w' hC => ?_, ?_⟩
      · subst hC
        go_simp
        rfl
      try simp only [Act.put, sA, sB, sC, sD]
      refine mix_nil ?_
      rintro _ rfl
      go_wp2_with fail
      have Bc1 := Lib.hid (maHi_lt (dg_lt 0 a) (dg_lt k b) B0.out W_pos)
      have Bu0 := Lib.hid (maLo_lt (dg 0 a) (dg k b) (t0) (0))
      generalize hc1 : maHi (dg 0 a) (dg k b) (t0) (0) = c1 at Bc1 ⊢
      generalize hu0 : maLo (dg 0 a) (dg k b) (t0) (0) = u0 at Bu0 ⊢
      have Hc1 := Lib.hid hc1
      clear hc1
      have Hu0 := Lib.hid hu0
      clear hu0
      rw [rounds_succ]
      go_wp2_with fail
      refine region_mix 17 [false, false, false, false, false, false, false, false, false, false, false, false, false, false, false, false, false] (fun w' => w' = World.drew _) (by kernel_rfl) (by kernel_rfl) (by intro _ _ d _ _ h; cases d <;> exact h) rfl ?_
      simp only [List.take_succ_cons, List.take_zero, List.drop_succ_cons, List.drop_zero]
      with_reducible refine mix_v ?_ ?_ ?_
      · rfl
      · rfl
      apply Exists.intro
      refine ⟨fun w' hC => ?_, ?_⟩
      · subst hC
        go_simp
        rfl
      try simp only [Act.put, sA, sB, sC, sD]
      with_reducible refine mix_v ?_ ?_ ?_
      · rfl
      · rfl
      apply Exists.intro
      refine ⟨fun w' hC => ?_, ?_⟩
      · subst hC
        go_simp
        rfl
      try simp only [Act.put, sA, sB, sC, sD]
      with_reducible refine mix_v ?_ ?_ ?_
      · rfl
      · rfl
      apply Exists.intro
      refine ⟨fun w' hC => ?_, ?_⟩
      · subst hC
        go_simp
        rfl
      try simp only [Act.put, sA, sB, sC, sD]
      with_reducible refine mix_v ?_ ?_ ?_
      · rfl
      · rfl
      apply Exists.intro
      refine ⟨fun w' hC => ?_, ?_⟩
      · subst hC
        go_simp
        rfl
      try simp only [Act.put, sA, sB, sC, sD]
      with_reducible refine mix_v ?_ ?_ ?_
      · rfl
      · rfl
      apply Exists.intro
      refine ⟨fun w' hC => ?_, ?_⟩
      · subst hC
        go_simp
        rfl
      try simp only [Act.put, sA, sB, sC, sD]
      with_reducible refine mix_v ?_ ?_ ?_
      · rfl
      · rfl
      apply Exists.intro
      refine ⟨fun w' hC => ?_, ?_⟩
      · subst hC
        go_simp
        rfl
      try simp only [Act.put, sA, sB, sC, sD]
      with_reducible refine mix_v ?_ ?_ ?_
      · rfl
      · rfl
      apply Exists.intro
      refine ⟨fun w' hC => ?_, ?_⟩
      · subst hC
        go_simp
        rfl
      try simp only [Act.put, sA, sB, sC, sD]
      with_reducible refine mix_v ?_ ?_ ?_
      · rfl
      · rfl
      apply Exists.intro
      refine ⟨fun w' hC => ?_, ?_⟩
      · subst hC
        go_simp
        rfl
      try simp only [Act.put, sA, sB, sC, sD]
      with_reducible refine mix_v ?_ ?_ ?_
      · rfl
      · rfl
      apply Exists.intro
      refine ⟨fun w' hC => ?_, ?_⟩
      · subst hC
        go_simp
        rfl
      try simp only [Act.put, sA, sB, sC, sD]
      with_reducible refine mix_v ?_ ?_ ?_
      · rfl
      · rfl
      apply Exists.intro
      refine ⟨fun w' hC => ?_, ?_⟩
      · subst hC
        go_simp
        rfl
      try simp only [Act.put, sA, sB, sC, sD]
      with_reducible refine mix_v ?_ ?_ ?_
      · rfl
      · rfl
      apply Exists.intro
      refine ⟨fun w' hC => ?_, ?_⟩
      · subst hC
        go_simp
        rfl
      try simp only [Act.put, sA, sB, sC, sD]
      with_reducible refine mix_c ?_ ?_ ?_
      · rfl
      · rfl
      apply Exists.intro
      apply Exists.intro
      apply Exists.intro
      refine ⟨fun w' hC => ?_, fun w' hC => ?_, ?_⟩
      · subst hC
        go_simp
        exact ⟨rfl, rfl⟩
      · subst hC
        exact same_of (multiplyAdd_c (dg 1 a) (dg k b) (t1) (c1) (dg_lt _ _) (dg_lt _ _) B1.out Bc1.out _)
      try simp only [Act.put, sA, sB, sC, sD]
      with_reducible refine mix_v ?_ ?_ ?_
      · rfl
      · rfl
      apply Exists.intro
      refine ⟨fun w' hC => ?_, ?_⟩
      · subst hC
        go_simp
        rfl
      try simp only [Act.put, sA, sB, sC, sD]
      with_reducible refine mix_v ?_ ?_ ?_
      · rfl
      · rfl
      apply Exists.intro
      refine ⟨fun w' hC => ?_, ?_⟩
      · subst hC
        go_simp
        rfl
      try simp only [Act.put, sA, sB, sC, sD]
      with_reducible refine mix_v ?_ ?_ ?_
      · rfl
      · rfl
      apply Exists.intro
      refine ⟨fun w' hC => ?_, ?_⟩
      · subst hC
        go_simp
        rfl
      try simp only [Act.put, sA, sB, sC, sD]
      with_reducible refine mix_v ?_ ?_ ?_
      · rfl
      · rfl
      apply Exists.intro
      refine ⟨fun w' hC => ?_, ?_⟩
      · subst hC
        go_simp
        rfl
      try simp only [Act.put, sA, sB, sC, sD]
      with_reducible refine mix_v ?_ ?_ ?_
      · rfl
      · rfl
      apply Exists.intro
      refine ⟨fun w' hC => ?_, ?_⟩
      · subst hC
        go_simp
        rfl
      try simp only [Act.put, sA, sB, sC, sD]
      refine mix_nil ?_
      rintro _ rfl
      go_wp2_with fail
      have Bc2 := Lib.hid (maHi_lt (dg_lt 1 a) (dg_lt k b) B1.out Bc1.out)
      have Bu1 := Lib.hid (maLo_lt (dg 1 a) (dg k b) (t1) (c1))
      generalize hc2 : maHi (dg 1 a) (dg k b) (t1) (c1) = c2 at Bc2 ⊢
      generalize hu1 : maLo (dg 1 a) (dg k b) (t1) (c1) = u1 at Bu1 ⊢
      have Hc2 := Lib.hid hc2
      clear hc2
      have Hu1 := Lib.hid hu1
      clear hu1
      rw [rounds_succ]
      go_wp2_with fail
      refine region_mix 17 [false, false, false, false, false, false, false, false, false, false, false, false, false, false, false, false, false] (fun w' => w' = World.drew _) (by kernel_rfl) (by kernel_rfl) (by intro _ _ d _ _ h; cases d <;> exact h) rfl ?_
      simp only [List.take_succ_cons, List.take_zero, List.drop_succ_cons, List.drop_zero]
      with_reducible refine mix_v ?_ ?_ ?_
      · rfl
      · rfl
      apply Exists.intro
      refine ⟨fun w' hC => ?_, ?_⟩
      · subst hC
        go_simp
        rfl
      try simp only [Act.put, sA, sB, sC, sD]
      with_reducible refine mix_v ?_ ?_ ?_
      · rfl
      · rfl
      apply Exists.intro
      refine ⟨fun w' hC => ?_, ?_⟩
      · subst hC
        go_simp
        rfl
      try simp only [Act.put, sA, sB, sC, sD]
      with_reducible refine mix_v ?_ ?_ ?_
      · rfl
      · rfl
      apply Exists.intro
      refine ⟨fun w' hC => ?_, ?_⟩
      · subst hC
        go_simp
        rfl
      try simp only [Act.put, sA, sB, sC, sD]
      with_reducible refine mix_v ?_ ?_ ?_
      · rfl
      · rfl
      apply Exists.intro
      refine ⟨fun w' hC => ?_, ?_⟩
      · subst hC
        go_simp
        rfl
      try simp only [Act.put, sA, sB, sC, sD]
      with_reducible refine mix_v ?_ ?_ ?_
      · rfl
      · rfl
      apply Exists.intro
      refine ⟨fun w' hC => ?_, ?_⟩
      · subst hC
        go_simp
        rfl
      try simp only [Act.put, sA, sB, sC, sD]
      with_reducible refine mix_v ?_ ?_ ?_
      · rfl
      · rfl
      apply Exists.intro
      refine ⟨fun w' hC => ?_, ?_⟩
      · subst hC
        go_simp
        rfl
      try simp only [Act.put, sA, sB, sC, sD]
      with_reducible refine mix_v ?_ ?_ ?_
      · rfl
      · rfl
      apply Exists.intro
      refine ⟨fun w' hC => ?_, ?_⟩
      · subst hC
        go_simp
        rfl
      try simp only [Act.put, sA, sB, sC, sD]
      with_reducible refine mix_v ?_ ?_ ?_
      · rfl
      · rfl
      apply Exists.intro
      refine ⟨fun w' hC => ?_, ?_⟩
      · subst hC
        go_simp
        rfl
      try simp only [Act.put, sA, sB, sC, sD]
      with_reducible refine mix_v ?_ ?_ ?_
      · rfl
      · rfl
      apply Exists.intro
      refine ⟨fun w' hC => ?_, ?_⟩
      · subst hC
        go_simp
        rfl
      try simp only [Act.put, sA, sB, sC, sD]
      with_reducible refine mix_v ?_ ?_ ?_
      · rfl
      · rfl
      apply Exists.intro
      refine ⟨fun w' hC => ?_, ?_⟩
      · subst hC
        go_simp
        rfl
      try simp only [Act.put, sA, sB, sC, sD]
      with_reducible refine mix_v ?_ ?_ ?_
      · rfl
      · rfl
      apply Exists.intro
      refine ⟨fun w' hC => ?_, ?_⟩
      · subst hC
        go_simp
        rfl
      try simp only [Act.put, sA, sB, sC, sD]
      with_reducible refine mix_c ?_ ?_ ?_
      · rfl
      · rfl
      apply Exists.intro
      apply Exists.intro
      apply Exists.intro
      refine ⟨fun w' hC => ?_, fun w' hC => ?_, ?_⟩
      · subst hC
        go_simp
        exact ⟨rfl, rfl⟩
      · subst hC
        exact same_of (multiplyAdd_c (dg 2 a) (dg k b) (t2) (c2) (dg_lt _ _) (dg_lt _ _) B2.out Bc2.out _)
      try simp only [Act.put, sA, sB, sC, sD]
      with_reducible refine mix_v ?_ ?_ ?_
      · rfl
      · rfl
      apply Exists.intro
      refine ⟨fun w' hC => ?_, ?_⟩
      · subst hC
        go_simp
        rfl
      try simp only [Act.put, sA, sB, sC, sD]
      with_reducible refine mix_v ?_ ?_ ?_
      · rfl
      · rfl
      apply Exists.intro
      refine ⟨fun w' hC => ?_, ?_⟩
      · subst hC
        go_simp
        rfl
      try simp only [Act.put, sA, sB, sC, sD]
      with_reducible refine mix_v ?_ ?_ ?_
      · rfl
      · rfl
      apply Exists.intro
      refine ⟨fun w' hC => ?_, ?_⟩
      · subst hC
        go_simp
        rfl
      try simp only [Act.put, sA, sB, sC, sD]
      with_reducible refine mix_v ?_ ?_ ?_
      · rfl
      · rfl
      apply Exists.intro
      refine ⟨fun w' hC => ?_, ?_⟩
      · subst hC
        go_simp
        rfl
      try simp only [Act.put, sA, sB, sC, sD]
      with_reducible refine mix_v ?_ ?_ ?_
      · rfl
      · rfl
      apply Exists.intro
      refine ⟨fun w' hC => ?_, ?_⟩
      · subst hC
        go_simp
        rfl
      try simp only [Act.put, sA, sB, sC, sD]
      refine mix_nil ?_
      rintro _ rfl
      go_wp2_with fail
      have Bc3 := Lib.hid (maHi_lt (dg_lt 2 a) (dg_lt k b) B2.out Bc2.out)
      have Bu2 := Lib.hid (maLo_lt (dg 2 a) (dg k b) (t2) (c2))
      generalize hc3 : maHi (dg 2 a) (dg k b) (t2) (c2) = c3 at Bc3 ⊢
      generalize hu2 : maLo (dg 2 a) (dg k b) (t2) (c2) = u2 at Bu2 ⊢
      have Hc3 := Lib.hid hc3
      clear hc3
      have Hu2 := Lib.hid hu2
      clear hu2
      rw [rounds_succ]
      go_wp2_with fail
      refine region_mix 17 [false, false, false, false, false, false, false, false, false, false, false, false, false, false, false, false, false] (fun w' => w' = World.drew _) (by kernel_rfl) (by kernel_rfl) (by intro _ _ d _ _ h; cases d <;> exact h) rfl ?_
      simp only [List.take_succ_cons, List.take_zero, List.drop_succ_cons, List.drop_zero]
      with_reducible refine mix_v ?_ ?_ ?_
      · rfl
      · rfl
      apply Exists.intro
      refine ⟨fun w' hC => ?_, ?_⟩
      · subst hC
        go_simp
        rfl
      try simp only [Act.put, sA, sB, sC, sD]
      with_reducible refine mix_v ?_ ?_ ?_
      · rfl
      · rfl
      apply Exists.intro
      refine ⟨fun w' hC => ?_, ?_⟩
      · subst hC
        go_simp
        rfl
      try simp only [Act.put, sA, sB, sC, sD]
      with_reducible refine mix_v ?_ ?_ ?_
      · rfl
      · rfl
      apply Exists.intro
      refine ⟨fun w' hC => ?_, ?_⟩
      · subst hC
        go_simp
        rfl
      try simp only [Act.put, sA, sB, sC, sD]
      with_reducible refine mix_v ?_ ?_ ?_
      · rfl
      · rfl
      apply Exists.intro
      refine ⟨fun w' hC => ?_, ?_⟩
      · subst hC
        go_simp
        rfl
      try simp only [Act.put, sA, sB, sC, sD]
      with_reducible refine mix_v ?_ ?_ ?_
      · rfl
      · rfl
      apply Exists.intro
      refine ⟨fun w' hC => ?_, ?_⟩
      · subst hC
        go_simp
        rfl
      try simp only [Act.put, sA, sB, sC, sD]
      with_reducible refine mix_v ?_ ?_ ?_
      · rfl
      · rfl
      apply Exists.intro
      refine ⟨fun w' hC => ?_, ?_⟩
      · subst hC
        go_simp
        rfl
      try simp only [Act.put, sA, sB, sC, sD]
      with_reducible refine mix_v ?_ ?_ ?_
      · rfl
      · rfl
      apply Exists.intro
      refine ⟨fun w' hC => ?_, ?_⟩
      · subst hC
        go_simp
        rfl
      try simp only [Act.put, sA, sB, sC, sD]
      with_reducible refine mix_v ?_ ?_ ?_
      · rfl
      · rfl
      apply Exists.intro
      refine ⟨fun w' hC => ?_, ?_⟩
      · subst hC
        go_simp
        rfl
      try simp only [Act.put, sA, sB, sC, sD]
      with_reducible refine mix_v ?_ ?_ ?_
      · rfl
      · rfl
      apply Exists.intro
      refine ⟨fun w' hC => ?_, ?_⟩
      · subst hC
        go_simp
        rfl
      try simp only [Act.put, sA, sB, sC, sD]
      with_reducible refine mix_v ?_ ?_ ?_
      · rfl
      · rfl
      apply Exists.intro
      refine ⟨fun w' hC => ?_, ?_⟩
      · subst hC
        go_simp
        rfl
      try simp only [Act.put, sA, sB, sC, sD]
      with_reducible refine mix_v ?_ ?_ ?_
      · rfl
      · rfl
      apply Exists.intro
      refine ⟨fun w' hC => ?_, ?_⟩
      · subst hC
        go_simp
        rfl
      try simp only [Act.put, sA, sB, sC, sD]
      with_reducible refine mix_c ?_ ?_ ?_
      · rfl
      · rfl
      apply Exists.intro
      apply Exists.intro
      apply Exists.intro
      refine ⟨fun w' hC => ?_, fun w' hC => ?_, ?_⟩
      · subst hC
        go_simp
        exact ⟨rfl, rfl⟩
      · subst hC
        exact same_of (multiplyAdd_c (dg 3 a) (dg k b) (t3) (c3) (dg_lt _ _) (dg_lt _ _) B3.out Bc3.out _)
      try simp only [Act.put, sA, sB, sC, sD]
      with_reducible refine mix_v ?_ ?_ ?_
      · rfl
      · rfl
      apply Exists.intro
      refine ⟨fun w' hC => ?_, ?_⟩
      · subst hC
        go_simp
        rfl
      try simp only [Act.put, sA, sB, sC, sD]
      with_reducible refine mix_v ?_ ?_ ?_
      · rfl
      · rfl
      apply Exists.intro
      refine ⟨fun w' hC => ?_, ?_⟩
      · subst hC
        go_simp
        rfl
      try simp only [Act.put, sA, sB, sC, sD]
      with_reducible refine mix_v ?_ ?_ ?_
      · rfl
      · rfl
      apply Exists.intro
      refine ⟨fun w' hC => ?_, ?_⟩
      · subst hC
        go_simp
        rfl
      try simp only [Act.put, sA, sB, sC, sD]
      with_reducible refine mix_v ?_ ?_ ?_
      · rfl
      · rfl
      apply Exists.intro
      refine ⟨fun w' hC => ?_, ?_⟩
      · subst hC
        go_simp
        rfl
      try simp only [Act.put, sA, sB, sC, sD]
      with_reducible refine mix_v ?_ ?_ ?_
      · rfl
      · rfl
      apply Exists.intro
      refine ⟨fun w' hC => ?_, ?_⟩
      · subst hC
        go_simp
        rfl
      try simp only [Act.put, sA, sB, sC, sD]
      refine mix_nil ?_
      rintro _ rfl
      go_wp2_with fail
      have Bc4 := Lib.hid (maHi_lt (dg_lt 3 a) (dg_lt k b) B3.out Bc3.out)
      have Bu3 := Lib.hid (maLo_lt (dg 3 a) (dg k b) (t3) (c3))
      generalize hc4 : maHi (dg 3 a) (dg k b) (t3) (c3) = c4 at Bc4 ⊢
      generalize hu3 : maLo (dg 3 a) (dg k b) (t3) (c3) = u3 at Bu3 ⊢
      have Hc4 := Lib.hid hc4
      clear hc4
      have Hu3 := Lib.hid hu3
      clear hu3
      rw [rounds_succ]
      go_wp2_with fail
      generalize hu4 : addLo t4 c4 0 = u4
      generalize hu5 : addHi t4 c4 0 = u5
      have Bm := Lib.hid (mulLo_lt u0 (ninv s))
      generalize hm : mulLo u0 (ninv s) = m at Bm ⊢
      have Hu4 := Lib.hid hu4
      clear hu4
      have Hu5 := Lib.hid hu5
      clear hu5
      have Hm := Lib.hid hm
      clear hm
      refine Calls.mono (multiplyAdd_c m (dg 0 (pr s)) u0 0 Bm.out (dg_lt _ _) Bu0.out W_pos _) ?_
      rintro _ _ ⟨rfl, rfl⟩
      have Bd1 := Lib.hid (maHi_lt Bm.out (dg_lt 0 (pr s)) Bu0.out W_pos)
      generalize hd1 : maHi m (dg 0 (pr s)) u0 0 = d1 at Bd1 ⊢
      have Hd1 := Lib.hid hd1
      clear hd1
      go_wp2_with fail
      refine wp_loop_rounds 4 ?_
      rw [rounds_succ]
      go_wp2_with fail
      refine region_mix 17 [false, false, false, false, false, false, false, false, false, false, false, false, false, false, false, false, false] (fun w' => w' = World.drew _) (by kernel_rfl) (by kernel_rfl) (by intro _ _ d _ _ h; cases d <;> exact h) rfl ?_
      simp only [List.take_succ_cons, List.take_zero, List.drop_succ_cons, List.drop_zero]
      with_reducible refine mix_v ?_ ?_ ?_
      · rfl
      · rfl
      apply Exists.intro
      refine ⟨fun w' hC => ?_, ?_⟩
      · subst hC
        go_simp
        rfl
      try simp only [Act.put, sA, sB, sC, sD]
      with_reducible refine mix_v ?_ ?_ ?_
      · rfl
      · rfl
      apply Exists.intro
      refine ⟨fun w' hC => ?_, ?_⟩
      · subst hC
        go_simp
        rfl
      try simp only [Act.put, sA, sB, sC, sD]
      with_reducible refine mix_v ?_ ?_ ?_
      · rfl
      · rfl
      apply Exists.intro
      refine ⟨fun w' hC => ?_, ?_⟩
      · subst hC
        go_simp
        rfl
      try simp only [Act.put, sA, sB, sC, sD]
      with_reducible refine mix_v ?_ ?_ ?_
      · rfl
      · rfl
      apply Exists.intro
      refine ⟨fun w' hC => ?_, ?_⟩
      · subst hC
        go_simp
        rfl
      try simp only [Act.put, sA, sB, sC, sD]
      with_reducible refine mix_v ?_ ?_ ?_
      · rfl
      · rfl
      apply Exists.intro
      refine ⟨fun w' hC => ?_, ?_⟩
      · subst hC
        go_simp
        rfl
      try simp only [Act.put, sA, sB, sC, sD]
      with_reducible refine mix_v ?_ ?_ ?_
      · rfl
      · rfl
      apply Exists.intro
      refine ⟨fun w' hC => ?_, ?_⟩
      · subst hC
        go_simp
        rfl
      try simp only [Act.put, sA, sB, sC, sD]
      with_reducible refine mix_v ?_ ?_ ?_
      · rfl
      · rfl
      apply Exists.intro
      refine ⟨fun w' hC => ?_, ?_⟩
      · subst hC
        go_simp
        rfl
      try simp only [Act.put, sA, sB, sC, sD]
      with_reducible refine mix_v ?_ ?_ ?_
      · rfl
      · rfl
      apply Exists.intro
      refine ⟨fun w' hC => ?_, ?_⟩
      · subst hC
        go_simp
        rfl
      try simp only [Act.put, sA, sB, sC, sD]
      with_reducible refine mix_v ?_ ?_ ?_
      · rfl
      · rfl
      apply Exists.intro
      refine ⟨fun w' hC => ?_, ?_⟩
      · subst hC
        go_simp
        rfl
      try simp only [Act.put, sA, sB, sC, sD]
      with_reducible refine mix_v ?_ ?_ ?_
      · rfl
      · rfl
      apply Exists.intro
      refine ⟨fun w' hC => ?_, ?_⟩
      · subst hC
        go_simp
        rfl
      try simp only [Act.put, sA, sB, sC, sD]
      with_reducible refine mix_v ?_ ?_ ?_
      · rfl
      · rfl
      apply Exists.intro
      refine ⟨fun w' hC => ?_, ?_⟩
      · subst hC
        go_simp
        rfl
      try simp only [Act.put, sA, sB, sC, sD]
      with_reducible refine mix_c ?_ ?_ ?_
      · rfl
      · rfl
      apply Exists.intro
      apply Exists.intro
      apply Exists.intro
      refine ⟨fun w' hC => ?_, fun w' hC => ?_, ?_⟩
      · subst hC
        go_simp
        exact ⟨rfl, rfl⟩
      · subst hC
        exact same_of (multiplyAdd_c m (dg 1 (pr s)) u1 d1 Bm.out (dg_lt _ _) Bu1.out Bd1.out _)
      try simp only [Act.put, sA, sB, sC, sD]
      with_reducible refine mix_v ?_ ?_ ?_
      · rfl
      · rfl
      apply Exists.intro
      refine ⟨fun w' hC => ?_, ?_⟩
      · subst hC
        go_simp
        rfl
      try simp only [Act.put, sA, sB, sC, sD]
      with_reducible refine mix_v ?_ ?_ ?_
      · rfl
      · rfl
      apply Exists.intro
      refine ⟨fun w' hC => ?_, ?_⟩
      · subst hC
        go_simp
        rfl
      try simp only [Act.put, sA, sB, sC, sD]
      with_reducible refine mix_v ?_ ?_ ?_
      · rfl
      · rfl
      apply Exists.intro
      refine ⟨fun w' hC => ?_, ?_⟩
      · subst hC
        go_simp
        rfl
      try simp only [Act.put, sA, sB, sC, sD]
      with_reducible refine mix_v ?_ ?_ ?_
      · rfl
      · rfl
      apply Exists.intro
      refine ⟨fun w' hC => ?_, ?_⟩
      · subst hC
        go_simp
        rfl
      try simp only [Act.put, sA, sB, sC, sD]
      with_reducible refine mix_v ?_ ?_ ?_
      · rfl
      · rfl
      apply Exists.intro
      refine ⟨fun w' hC => ?_, ?_⟩
      · subst hC
        go_simp
        rfl
      try simp only [Act.put, sA, sB, sC, sD]
      refine mix_nil ?_
      rintro _ rfl
      go_wp2_with fail
      have Bd2 := Lib.hid (maHi_lt Bm.out (dg_lt 1 (pr s)) Bu1.out Bd1.out)
      have Bv0 := Lib.hid (maLo_lt m (dg 1 (pr s)) u1 d1)
      generalize hd2 : maHi m (dg 1 (pr s)) u1 d1 = d2 at Bd2 ⊢
      generalize hv0 : maLo m (dg 1 (pr s)) u1 d1 = v0 at Bv0 ⊢
      have Hd2 := Lib.hid hd2
      clear hd2
      have Hv0 := Lib.hid hv0
      clear hv0
      rw [rounds_succ]
      go_wp2_with fail
      refine region_mix 17 [false, false, false, false, false, false, false, false, false, false, false, false, false, false, false, false, false] (fun w' => w' = World.drew _) (by kernel_rfl) (by kernel_rfl) (by intro _ _ d _ _ h; cases d <;> exact h) rfl ?_
      simp only [List.take_succ_cons, List.take_zero, List.drop_succ_cons, List.drop_zero]
      with_reducible refine mix_v ?_ ?_ ?_
      · rfl
      · rfl
      apply Exists.intro
      refine ⟨fun w' hC => ?_, ?_⟩
      · subst hC
        go_simp
        rfl
      try simp only [Act.put, sA, sB, sC, sD]
      with_reducible refine mix_v ?_ ?_ ?_
      · rfl
      · rfl
      apply Exists.intro
      refine ⟨fun w' hC => ?_, ?_⟩
      · subst hC
        go_simp
        rfl
      try simp only [Act.put, sA, sB, sC, sD]
      with_reducible refine mix_v ?_ ?_ ?_
      · rfl
      · rfl
      apply Exists.intro
      refine ⟨fun w' hC => ?_, ?_⟩
      · subst hC
        go_simp
        rfl
      try simp only [Act.put, sA, sB, sC, sD]
      with_reducible refine mix_v ?_ ?_ ?_
      · rfl
      · rfl
      apply Exists.intro
      refine ⟨fun w' hC => ?_, ?_⟩
      · subst hC
        go_simp
        rfl
      try simp only [Act.put, sA, sB, sC, sD]
      with_reducible refine mix_v ?_ ?_ ?_
      · rfl
      · rfl
      apply Exists.intro
      refine ⟨fun w' hC => ?_, ?_⟩
      · subst hC
        go_simp
        rfl
      try simp only [Act.put, sA, sB, sC, sD]
      with_reducible refine mix_v ?_ ?_ ?_
      · rfl
      · rfl
      apply Exists.intro
      refine ⟨fun w' hC => ?_, ?_⟩
      · subst hC
        go_simp
        rfl
      try simp only [Act.put, sA, sB, sC, sD]
      with_reducible refine mix_v ?_ ?_ ?_
      · rfl
      · rfl
      apply Exists.intro
      refine ⟨fun w' hC => ?_, ?_⟩
      · subst hC
        go_simp
        rfl
      try simp only [Act.put, sA, sB, sC, sD]
      with_reducible refine mix_v ?_ ?_ ?_
      · rfl
      · rfl
      apply Exists.intro
      refine ⟨fun w' hC => ?_, ?_⟩
      · subst hC
        go_simp
        rfl
      try simp only [Act.put, sA, sB, sC, sD]
      with_reducible refine mix_v ?_ ?_ ?_
      · rfl
      · rfl
      apply Exists.intro
      refine ⟨fun w' hC => ?_, ?_⟩
      · subst hC
        go_simp
        rfl
      try simp only [Act.put, sA, sB, sC, sD]
      with_reducible refine mix_v ?_ ?_ ?_
      · rfl
      · rfl
      apply Exists.intro
      refine ⟨fun w' hC => ?_, ?_⟩
      · subst hC
        go_simp
        rfl
      try simp only [Act.put, sA, sB, sC, sD]
      with_reducible refine mix_v ?_ ?_ ?_
      · rfl
      · rfl
      apply Exists.intro
      refine ⟨fun w' hC => ?_, ?_⟩
      · subst hC
        go_simp
        rfl
      try simp only [Act.put, sA, sB, sC, sD]
      with_reducible refine mix_c ?_ ?_ ?_
      · rfl
      · rfl
      apply Exists.intro
      apply Exists.intro
      apply Exists.intro
      refine ⟨fun w' hC => ?_, fun w' hC => ?_, ?_⟩
      · subst hC
        go_simp
        exact ⟨rfl, rfl⟩
      · subst hC
        exact same_of (multiplyAdd_c m (dg 2 (pr s)) u2 d2 Bm.out (dg_lt _ _) Bu2.out Bd2.out _)
      try simp only [Act.put, sA, sB, sC, sD]
      with_reducible refine mix_v ?_ ?_ ?_
      · rfl
      · rfl
      apply Exists.intro
      refine ⟨fun w' hC => ?_, ?_⟩
      · subst hC
        go_simp
        rfl
      try simp only [Act.put, sA, sB, sC, sD]
      with_reducible refine mix_v ?_ ?_ ?_
      · rfl
      · rfl
      apply Exists.intro
      refine ⟨fun w' hC => ?_, ?_⟩
      · subst hC
        go_simp
        rfl
      try simp only [Act.put, sA, sB, sC, sD]
      with_reducible refine mix_v ?_ ?_ ?_
      · rfl
      · rfl
      apply Exists.intro
      refine ⟨fun w' hC => ?_, ?_⟩
      · subst hC
        go_simp
        rfl
      try simp only [Act.put, sA, sB, sC, sD]
      with_reducible refine mix_v ?_ ?_ ?_
      · rfl
      · rfl
      apply Exists.intro
      refine ⟨fun w' hC => ?_, ?_⟩
      · subst hC
        go_simp
        rfl
      try simp only [Act.put, sA, sB, sC, sD]
      with_reducible refine mix_v ?_ ?_ ?_
      · rfl
      · rfl
      apply Exists.intro
      refine ⟨fun w' hC => ?_, ?_⟩
      · subst hC
        go_simp
        rfl
      try simp only [Act.put, sA, sB, sC, sD]
      refine mix_nil ?_
      rintro _ rfl
      go_wp2_with fail
      have Bd3 := Lib.hid (maHi_lt Bm.out (dg_lt 2 (pr s)) Bu2.out Bd2.out)
      have Bv1 := Lib.hid (maLo_lt m (dg 2 (pr s)) u2 d2)
      generalize hd3 : maHi m (dg 2 (pr s)) u2 d2 = d3 at Bd3 ⊢
      generalize hv1 : maLo m (dg 2 (pr s)) u2 d2 = v1 at Bv1 ⊢
      have Hd3 := Lib.hid hd3
      clear hd3
      have Hv1 := Lib.hid hv1
      clear hv1
      rw [rounds_succ]
      go_wp2_with fail
      refine region_mix 17 [false, false, false, false, false, false, false, false, false, false, false, false, false, false, false, false, false] (fun w' => w' = World.drew _) (by kernel_rfl) (by kernel_rfl) (by intro _ _ d _ _ h; cases d <;> exact h) rfl ?_
      simp only [List.take_succ_cons, List.take_zero, List.drop_succ_cons, List.drop_zero]
      with_reducible refine mix_v ?_ ?_ ?_
      · rfl
      · rfl
      apply Exists.intro
      refine ⟨fun w' hC => ?_, ?_⟩
      · subst hC
        go_simp
        rfl
      try simp only [Act.put, sA, sB, sC, sD]
      with_reducible refine mix_v ?_ ?_ ?_
      · rfl
      · rfl
      apply Exists.intro
      refine ⟨fun w' hC => ?_, ?_⟩
      · subst hC
        go_simp
        rfl
      try simp only [Act.put, sA, sB, sC, sD]
      with_reducible refine mix_v ?_ ?_ ?_
      · rfl
      · rfl
      apply Exists.intro
      refine ⟨fun w' hC => ?_, ?_⟩
      · subst hC
        go_simp
        rfl
      try simp only [Act.put, sA, sB, sC, sD]
      with_reducible refine mix_v ?_ ?_ ?_
      · rfl
      · rfl
      apply Exists.intro
      refine ⟨fun w' hC => ?_, ?_⟩
      · subst hC
        go_simp
        rfl
      try simp only [Act.put, sA, sB, sC, sD]
      with_reducible refine mix_v ?_ ?_ ?_
      · rfl
      · rfl
      apply Exists.intro
      refine ⟨fun w' hC => ?_, ?_⟩
      · subst hC
        go_simp
        rfl
      try simp only [Act.put, sA, sB, sC, sD]
      with_reducible refine mix_v ?_ ?_ ?_
      · rfl
      · rfl
      apply Exists.intro
      refine ⟨fun w' hC => ?_, ?_⟩
      · subst hC
        go_simp
        rfl
      try simp only [Act.put, sA, sB, sC, sD]
      with_reducible refine mix_v ?_ ?_ ?_
      · rfl
      · rfl
      apply Exists.intro
      refine ⟨fun w' hC => ?_, ?_⟩
      · subst hC
        go_simp
        rfl
      try simp only [Act.put, sA, sB, sC, sD]
      with_reducible refine mix_v ?_ ?_ ?_
      · rfl
      · rfl
      apply Exists.intro
      refine ⟨fun w' hC => ?_, ?_⟩
      · subst hC
        go_simp
        rfl
      try simp only [Act.put, sA, sB, sC, sD]
      with_reducible refine mix_v ?_ ?_ ?_
      · rfl
      · rfl
      apply Exists.intro
      refine ⟨fun w' hC => ?_, ?_⟩
      · subst hC
        go_simp
        rfl
      try simp only [Act.put, sA, sB, sC, sD]
      with_reducible refine mix_v ?_ ?_ ?_
      · rfl
      · rfl
      apply Exists.intro
      refine ⟨fun w' hC => ?_, ?_⟩
      · subst hC
        go_simp
        rfl
      try simp only [Act.put, sA, sB, sC, sD]
      with_reducible refine mix_v ?_ ?_ ?_
      · rfl
      · rfl
      apply Exists.intro
      refine ⟨fun w' hC => ?_, ?_⟩
      · subst hC
        go_simp
        rfl
      try simp only [Act.put, sA, sB, sC, sD]
      with_reducible refine mix_c ?_ ?_ ?_
      · rfl
      · rfl
      apply Exists.intro
      apply Exists.intro
      apply Exists.intro
      refine ⟨fun w' hC => ?_, fun w' hC => ?_, ?_⟩
      · subst hC
        go_simp
        exact ⟨rfl, rfl⟩
      · subst hC
        exact same_of (multiplyAdd_c m (dg 3 (pr s)) u3 d3 Bm.out (dg_lt _ _) Bu3.out Bd3.out _)
      try simp only [Act.put, sA, sB, sC, sD]
      with_reducible refine mix_v ?_ ?_ ?_
      · rfl
      · rfl
      apply Exists.intro
      refine ⟨fun w' hC => ?_, ?_⟩
      · subst hC
        go_simp
        rfl
      try simp only [Act.put, sA, sB, sC, sD]
      with_reducible refine mix_v ?_ ?_ ?_
      · rfl
      · rfl
      apply Exists.intro
      refine ⟨fun w' hC => ?_, ?_⟩
      · subst hC
        go_simp
        rfl
      try simp only [Act.put, sA, sB, sC, sD]
      with_reducible refine mix_v ?_ ?_ ?_
      · rfl
      · rfl
      apply Exists.intro
      refine ⟨fun w' hC => ?_, ?_⟩
      · subst hC
        go_simp
        rfl
      try simp only [Act.put, sA, sB, sC, sD]
      with_reducible refine mix_v ?_ ?_ ?_
      · rfl
      · rfl
      apply Exists.intro
      refine ⟨fun w' hC => ?_, ?_⟩
      · subst hC
        go_simp
        rfl
      try simp only [Act.put, sA, sB, sC, sD]
      with_reducible refine mix_v ?_ ?_ ?_
      · rfl
      · rfl
      apply Exists.intro
      refine ⟨fun w' hC => ?_, ?_⟩
      · subst hC
        go_simp
        rfl
      try simp only [Act.put, sA, sB, sC, sD]
      refine mix_nil ?_
      rintro _ rfl
      go_wp2_with fail
      have Bd4 := Lib.hid (maHi_lt Bm.out (dg_lt 3 (pr s)) Bu3.out Bd3.out)
      have Bv2 := Lib.hid (maLo_lt m (dg 3 (pr s)) u3 d3)
      generalize hd4 : maHi m (dg 3 (pr s)) u3 d3 = d4 at Bd4 ⊢
      generalize hv2 : maLo m (dg 3 (pr s)) u3 d3 = v2 at Bv2 ⊢
      have Hd4 := Lib.hid hd4
      clear hd4
      have Hv2 := Lib.hid hv2
      clear hv2
      rw [rounds_succ]
      go_wp2_with fail
      go_roundw
      case rel =>
        have K := mont_round (a := a) (b := dg k b) (p := pr s) (n := ninv s) Ha.out Hp.out (ninv_ok s) (dg_lt k b) L4.out B0.out B1.out B2.out B3.out Hc1.out Hu0.out Hc2.out Hu1.out Hc3.out Hu2.out Hc4.out Hu3.out Hu4.out Hu5.out Hm.out Hd1.out Hd2.out Hv0.out Hd3.out Hv1.out Hd4.out Hv2.out rfl rfl rfl
        have M1 := MI_step Mi.out K.2 K.1
        exact ⟨k + 1, v0, v1, v2, addLo u4 d4 0, addLo u5 (addHi u4 d4 0) 0, u5, n + 7, by omega, by go_num, rfl, Bv0.out, Bv1.out, Bv2.out, addLo_lt _ _ _, MI_top Ha.out Hp.out M1, M1⟩
      case measure => simp [intOf]; omega
    · obtain rfl : k = 4 := by omega
      have hsub : ∀ w, Calls Tryz.prog 151 #[fieldV s, .agg #[.int .u64 (t0 : Int), .int .u64 (t1 : Int), .int .u64 (t2 : Int), .int .u64 (t3 : Int)], .int .u64 (t4 : Int)] w fun e w' => e = .returned (vec (mm s a b)) ∧ Below w.heap.size w w' := fun w => by
        have h := subtract_c s (val4 t0 t1 t2 t3) t4 (val4_lt B0.out B1.out B2.out B3.out) (Nat.lt_of_le_of_lt L4.out (by decide)) w
        rw [vec_val4 B0.out B1.out B2.out B3.out, MI_end (pr_pos s) Hp.out Hb.out (rinv_ok s) Hab.out B0.out B1.out B2.out B3.out Mi.out] at h
        exact h
      have Hsub := Lib.hid hsub
      clear hsub
      go_wp2_with fail
      refine region_mix 7 [false, false, false, false, false, false, false] (fun w' => Below (w.heap.size + 5) _ w') (by kernel_rfl) (by kernel_rfl) (by intro _ _ d _ _ h; cases d <;> exact h) below_drew ?_
      simp only [List.take_succ_cons, List.take_zero, List.drop_succ_cons, List.drop_zero]
      with_reducible refine mix_v ?_ ?_ ?_
      · rfl
      · rfl
      apply Exists.intro
      refine ⟨fun w' hC => ?_, ?_⟩
      · have hcell := below_cells hC
        clear hC
        go_simp
        rfl
      try simp only [Act.put, sA, sB, sC, sD]
      with_reducible refine mix_v ?_ ?_ ?_
      · rfl
      · rfl
      apply Exists.intro
      refine ⟨fun w' hC => ?_, ?_⟩
      · have hcell := below_cells hC
        clear hC
        go_simp
        rfl
      try simp only [Act.put, sA, sB, sC, sD]
      with_reducible refine mix_v ?_ ?_ ?_
      · rfl
      · rfl
      apply Exists.intro
      refine ⟨fun w' hC => ?_, ?_⟩
      · have hcell := below_cells hC
        clear hC
        go_simp
        rfl
      try simp only [Act.put, sA, sB, sC, sD]
      with_reducible refine mix_v ?_ ?_ ?_
      · rfl
      · rfl
      apply Exists.intro
      refine ⟨fun w' hC => ?_, ?_⟩
      · have hcell := below_cells hC
        clear hC
        go_simp
        rfl
      try simp only [Act.put, sA, sB, sC, sD]
      with_reducible refine mix_v ?_ ?_ ?_
      · rfl
      · rfl
      apply Exists.intro
      refine ⟨fun w' hC => ?_, ?_⟩
      · have hcell := below_cells hC
        clear hC
        go_simp
        rfl
      try simp only [Act.put, sA, sB, sC, sD]
      with_reducible refine mix_v ?_ ?_ ?_
      · rfl
      · rfl
      apply Exists.intro
      refine ⟨fun w' hC => ?_, ?_⟩
      · have hcell := below_cells hC
        clear hC
        go_simp
        rfl
      try simp only [Act.put, sA, sB, sC, sD]
      with_reducible refine mix_c ?_ ?_ ?_
      · rfl
      · rfl
      apply Exists.intro
      apply Exists.intro
      apply Exists.intro
      refine ⟨fun w' hC => ?_, fun w' hC => ?_, ?_⟩
      · have hcell := below_cells hC
        clear hC
        go_simp
        exact ⟨rfl, rfl⟩
      · exact below_of hC (by simp) (Hsub.out _)
      try simp only [Act.put, sA, sB, sC, sD]
      refine mix_nil ?_
      intro w1 h1
      obtain ⟨c1, f1, s1⟩ := bfactsB h1
      try simp only [World.size_alloc, World.size_setCell, size_drew, size_drewN] at s1
      go_wp2_with fail
      refine bodyPost_ret (v := vec (mm s a b)) (by simp only [results, Tryz.results120]; go_simp) rfl ⟨rfl, ?_⟩
      repeat first
        | with_reducible exact Below.refl _ _
        | with_reducible refine Below.drew ?_
        | with_reducible refine below_dN ?_
        | with_reducible refine Below.alloc ?_ (by first | omega | (simp; done) | (simp; omega)) _
        | with_reducible refine Below.setCell ?_ (by first | omega | (simp; done) | (simp; omega)) _
        | with_reducible refine Below.trans ?_ (Below.mono (by assumption) (by first | omega | (simp; done) | (simp; omega)))
end Go.Proofs.YtdnkkbmpefhbjaaGreatDoor
namespace Go.Proofs.YtdnkkbmpefhbjaaGreatDoor
set_option linter.all false
open Go.RowKit
theorem rsq_lt4 (s : Bool) : rsq s < R4 := by have := rsq_lt s; have := pr_lt s; omega
theorem mul_fits {s : Bool} {a b : Nat} (ha : a < R4) (hb : b < pr s) : a * b < R4 * pr s :=
  Nat.lt_of_le_of_lt (Nat.mul_le_mul_left a (Nat.le_of_lt hb)) (Nat.mul_lt_mul_of_pos_right ha (pr_pos s))
set_option maxRecDepth 100000 in
set_option maxHeartbeats 2000000 in
theorem montSquare_c (s : Bool) (a : Nat) (ha : a < R4) (hab : a * a < R4 * pr s) (w : World) :
    Calls Tryz.prog 182 #[fieldV s, vec a] w fun e w' => e = .returned (vec (mm s a a)) ∧ Below w.heap.size w w' := by
  go_enter Tryz.func182, Tryz.ntmps182
  go_wp2_with fail
  refine Calls.mono (montMul_c s a a ha ha hab _) ?_
  rintro _ w1 ⟨rfl, h1⟩
  obtain ⟨c1, f1, s1⟩ := bfacts h1
  try simp only [World.size_alloc, World.size_setCell, size_drew, size_drewN] at s1
  have l_w_w1_0 : w.heap.size < w1.heap.size := by omega
  have l_w_w1_1 : w.heap.size + 1 < w1.heap.size := by omega
  have l_w_w1_2 : w.heap.size + 1 + 1 < w1.heap.size := by omega
  go_wp2_with fail
  refine bodyPost_ret (v := vec (mm s a a)) (by simp only [results, Tryz.results182]; go_simp) rfl ⟨rfl, ?_⟩
  repeat first
    | with_reducible exact Below.refl _ _
    | with_reducible refine Below.drew ?_
    | with_reducible refine below_dN ?_
    | with_reducible refine Below.alloc ?_ (by first | omega | (simp; done) | (simp; omega)) _
    | with_reducible refine Below.setCell ?_ (by first | omega | (simp; done) | (simp; omega)) _
    | with_reducible refine Below.trans ?_ (Below.mono (by assumption) (by first | omega | (simp; done) | (simp; omega)))
set_option maxRecDepth 100000 in
set_option maxHeartbeats 2000000 in
theorem montTo_c (s : Bool) (a : Nat) (ha : a < R4) (w : World) :
    Calls Tryz.prog 88 #[fieldV s, vec a] w fun e w' => e = .returned (vec (mm s a (rsq s))) ∧ Below w.heap.size w w' := by
  have hab := mul_fits ha (rsq_lt s)
  have h4 := rsq_lt4 s
  go_enter Tryz.func88, Tryz.ntmps88
  go_wp2_with fail
  refine Calls.mono (montMul_c s a (rsq s) ha h4 hab _) ?_
  rintro _ w1 ⟨rfl, h1⟩
  obtain ⟨c1, f1, s1⟩ := bfacts h1
  try simp only [World.size_alloc, World.size_setCell, size_drew, size_drewN] at s1
  have l_w_w1_0 : w.heap.size < w1.heap.size := by omega
  have l_w_w1_1 : w.heap.size + 1 < w1.heap.size := by omega
  have l_w_w1_2 : w.heap.size + 1 + 1 < w1.heap.size := by omega
  go_wp2_with fail
  refine bodyPost_ret (v := vec (mm s a (rsq s))) (by simp only [results, Tryz.results88]; go_simp) rfl ⟨rfl, ?_⟩
  repeat first
    | with_reducible exact Below.refl _ _
    | with_reducible refine Below.drew ?_
    | with_reducible refine below_dN ?_
    | with_reducible refine Below.alloc ?_ (by first | omega | (simp; done) | (simp; omega)) _
    | with_reducible refine Below.setCell ?_ (by first | omega | (simp; done) | (simp; omega)) _
    | with_reducible refine Below.trans ?_ (Below.mono (by assumption) (by first | omega | (simp; done) | (simp; omega)))
set_option maxRecDepth 100000 in
set_option maxHeartbeats 2000000 in
theorem montChoose_c (m a b : Nat) (hm : m < W) (ha : a < R4) (hb : b < R4) (w : World) :
    Calls Tryz.prog 165 #[.int .u64 (m : Int), vec a, vec b] w fun e w' => e = .returned (vec (sel m a b)) ∧ Below w.heap.size w w' := by
  go_enter Tryz.func165, Tryz.ntmps165
  go_wp2_with fail
  refine Calls.mono (limbChoose_c m a b hm ha hb _) ?_
  rintro _ w1 ⟨rfl, h1⟩
  obtain ⟨c1, f1, s1⟩ := bfacts h1
  try simp only [World.size_alloc, World.size_setCell, size_drew, size_drewN] at s1
  have l_w_w1_0 : w.heap.size < w1.heap.size := by omega
  have l_w_w1_1 : w.heap.size + 1 < w1.heap.size := by omega
  have l_w_w1_2 : w.heap.size + 1 + 1 < w1.heap.size := by omega
  go_wp2_with fail
  refine bodyPost_ret (v := vec (sel m a b)) (by simp only [results, Tryz.results165]; go_simp) rfl ⟨rfl, ?_⟩
  repeat first
    | with_reducible exact Below.refl _ _
    | with_reducible refine Below.drew ?_
    | with_reducible refine below_dN ?_
    | with_reducible refine Below.alloc ?_ (by first | omega | (simp; done) | (simp; omega)) _
    | with_reducible refine Below.setCell ?_ (by first | omega | (simp; done) | (simp; omega)) _
    | with_reducible refine Below.trans ?_ (Below.mono (by assumption) (by first | omega | (simp; done) | (simp; omega)))
end Go.Proofs.YtdnkkbmpefhbjaaGreatDoor
namespace Go.Proofs.YtdnkkbmpefhbjaaGreatDoor
set_option linter.all false
open Go.RowKit
theorem sel_sub {p a b : Nat} (hp : p < R4) (ha : a < p) (hb : b < p) : sel (mb (subC a b)) (addV (subV a b) p) (subV a b) = subm p a b := by
  by_cases h : a < b
  · have e : subC a b = 1 := if_pos h
    rw [e, sub_borrow hp ha hb h]; rfl
  · have e : subC a b = 0 := if_neg h
    rw [e, sub_plain hp ha h]; rfl
set_option maxRecDepth 100000 in
set_option maxHeartbeats 2000000 in
theorem montSub_c (s : Bool) (a b : Nat) (ha : a < pr s) (hb : b < pr s) (w : World) :
    Calls Tryz.prog 143 #[fieldV s, vec a, vec b] w fun e w' => e = .returned (vec (subm (pr s) a b)) ∧ Below w.heap.size w w' := by
  have Hp := Lib.hid (pr_lt s)
  have ha4 : a < R4 := by have := Hp.out; omega
  have hb4 : b < R4 := by have := Hp.out; omega
  rw [← sel_sub Hp.out ha hb]
  clear ha hb
  go_enter Tryz.func143, Tryz.ntmps143
  go_wp2_with fail
  refine Calls.mono (limbSub_c a b ha4 hb4 _) ?_
  rintro _ w1 ⟨rfl, h1⟩
  obtain ⟨c1, f1, s1⟩ := bfacts h1
  try simp only [World.size_alloc, World.size_setCell, size_drew, size_drewN] at s1
  have l_w_w1_0 : w.heap.size < w1.heap.size := by omega
  have l_w_w1_1 : w.heap.size + 1 < w1.heap.size := by omega
  have l_w_w1_2 : w.heap.size + 1 + 1 < w1.heap.size := by omega
  have l_w_w1_3 : w.heap.size + 1 + 1 + 1 < w1.heap.size := by omega
  go_wp2_with fail
  refine Calls.mono (limbAdd_c (subV a b) (pr s) (subV_lt a b) Hp.out _) ?_
  rintro _ w2 ⟨rfl, h2⟩
  obtain ⟨c2, f2, s2⟩ := bfacts h2
  try simp only [World.size_alloc, World.size_setCell, size_drew, size_drewN] at s2
  have l_w_w2_0 : w.heap.size < w2.heap.size := by omega
  have l_w_w2_1 : w.heap.size + 1 < w2.heap.size := by omega
  have l_w_w2_2 : w.heap.size + 1 + 1 < w2.heap.size := by omega
  have l_w_w2_3 : w.heap.size + 1 + 1 + 1 < w2.heap.size := by omega
  have l_w1_w2_0 : w1.heap.size < w2.heap.size := by omega
  go_wp2_with fail
  refine region_mix 5 [false, false, false, false, false] (fun w' => Below (w2.heap.size + 1) _ w') (by kernel_rfl) (by kernel_rfl) (by intro _ _ d _ _ h; cases d <;> exact h) below_drew ?_
  simp only [List.take_succ_cons, List.take_zero, List.drop_succ_cons, List.drop_zero]
  with_reducible refine mix_v ?_ ?_ ?_
  · rfl
  · rfl
  apply Exists.intro
  refine ⟨fun w' hC => ?_, ?_⟩
  · have hcell := below_cells hC
    clear hC
    go_simp
    rfl
  try simp only [Act.put, sA, sB, sC, sD]
  with_reducible refine mix_c ?_ ?_ ?_
  · rfl
  · rfl
  apply Exists.intro
  apply Exists.intro
  apply Exists.intro
  refine ⟨fun w' hC => ?_, fun w' hC => ?_, ?_⟩
  · have hcell := below_cells hC
    clear hC
    go_simp
    exact ⟨rfl, rfl⟩
  · exact below_of hC (by simp) (still_below (fromBit_c _ (subC_lt a b) _))
  try simp only [Act.put, sA, sB, sC, sD]
  with_reducible refine mix_v ?_ ?_ ?_
  · rfl
  · rfl
  apply Exists.intro
  refine ⟨fun w' hC => ?_, ?_⟩
  · have hcell := below_cells hC
    clear hC
    go_simp
    rfl
  try simp only [Act.put, sA, sB, sC, sD]
  with_reducible refine mix_v ?_ ?_ ?_
  · rfl
  · rfl
  apply Exists.intro
  refine ⟨fun w' hC => ?_, ?_⟩
  · have hcell := below_cells hC
    clear hC
    go_simp
    rfl
  try simp only [Act.put, sA, sB, sC, sD]
  with_reducible refine mix_c ?_ ?_ ?_
  · rfl
  · rfl
  apply Exists.intro
  apply Exists.intro
  apply Exists.intro
  refine ⟨fun w' hC => ?_, fun w' hC => ?_, ?_⟩
  · have hcell := below_cells hC
    clear hC
    go_simp
    exact ⟨rfl, rfl⟩
  · exact below_of hC (by simp) (limbChoose_c _ (addV (subV a b) (pr s)) (subV a b) (mb_lt _) (addV_lt _ _) (subV_lt _ _) _)
  try simp only [Act.put, sA, sB, sC, sD]
  refine mix_nil ?_
  intro w3 h3
  obtain ⟨c3, f3, s3⟩ := bfactsB h3
  try simp only [World.size_alloc, World.size_setCell, size_drew, size_drewN] at s3
  go_wp2_with fail
  refine bodyPost_ret (v := vec (sel (mb (subC a b)) (addV (subV a b) (pr s)) (subV a b))) (by simp only [results, Tryz.results143]; go_simp) rfl ⟨rfl, ?_⟩
  repeat first
    | with_reducible exact Below.refl _ _
    | with_reducible refine Below.drew ?_
    | with_reducible refine below_dN ?_
    | with_reducible refine Below.alloc ?_ (by first | omega | (simp; done) | (simp; omega)) _
    | with_reducible refine Below.setCell ?_ (by first | omega | (simp; done) | (simp; omega)) _
    | with_reducible refine Below.trans ?_ (Below.mono (by assumption) (by first | omega | (simp; done) | (simp; omega)))
end Go.Proofs.YtdnkkbmpefhbjaaGreatDoor
namespace Go.Proofs.YtdnkkbmpefhbjaaGreatDoor
set_option linter.all false
open Go.RowKit
def orv (a : Nat) : Nat → Nat | 0 => 0 | k + 1 => orv a k ||| dg k a
theorem orv_lt (a : Nat) : ∀ k, orv a k < W | 0 => W_pos | k + 1 => or_lt_W (orv_lt a k) (dg_lt _ _)
def isz (z : Nat) : Nat := if z = 0 then 1 else 0
theorem isz_lt (z : Nat) : isz z < W := by unfold isz W; split <;> omega
theorem or_zero {x y : Nat} (h : x ||| y = 0) : x = 0 ∧ y = 0 := by
  have := Nat.left_le_or (n := x) (m := y); have := Nat.right_le_or (n := x) (m := y); omega
theorem orv_isz {a : Nat} (ha : a < R4) : isz (orv a 4) = isz a := by
  unfold isz
  by_cases h : a = 0
  · subst h; rfl
  · rw [if_neg h, if_neg]
    intro e
    apply h
    have h3 := or_zero (x := orv a 3) (y := dg 3 a) e
    have h2 := or_zero (x := orv a 2) (y := dg 2 a) h3.1
    have h1 := or_zero (x := orv a 1) (y := dg 1 a) h2.1
    have h0 := or_zero (x := orv a 0) (y := dg 0 a) h1.1
    have e := val4_dg ha
    rw [h0.2, h1.2, h2.2, h3.2] at e
    rw [← e]; rfl
theorem isz_val {z : Nat} (hz : z < W) : bits BinOp.xor IntKind.u64 IntKind.u64.max (bits BinOp.or IntKind.u64 (z : Int) (IntKind.u64.wrap (-(z : Int)))) / 9223372036854775808 = ((isz z : Nat) : Int) := by
  unfold isz
  by_cases h : z = 0
  · subst h; rfl
  · rw [if_neg h]
    have e1 : IntKind.u64.wrap (-(z : Int)) = ((W - z : Nat) : Int) := by rw [IntKind.wrap_u64]; unfold W at *; omega
    have e2 : IntKind.u64.max = ((W - 1 : Nat) : Int) := rfl
    have l : W - z < W := by omega
    rw [e1, e2, u64_or_nat _ _ hz l, u64_xor_nat _ _ (by decide) (or_lt_W hz l)]
    have g : 2 ^ 63 ≤ z ||| (W - z) := by
      have := Nat.left_le_or (n := z) (m := W - z); have := Nat.right_le_or (n := z) (m := W - z); unfold W at *; omega
    have g2 := or_lt_W hz l
    generalize z ||| (W - z) = x at g g2
    have e3 : ((W - 1) ^^^ x) / 9223372036854775808 = 0 := by
      rw [show (9223372036854775808 : Nat) = 2 ^ 63 from rfl, ← Nat.shiftRight_eq_div_pow, Nat.shiftRight_xor_distrib, Nat.shiftRight_eq_div_pow, Nat.shiftRight_eq_div_pow,
        show x / 2 ^ 63 = 1 by unfold W at g2; omega]
      rfl
    have e4 : (((W - 1) ^^^ x : Nat) : Int) / 9223372036854775808 = ((((W - 1) ^^^ x) / 9223372036854775808 : Nat) : Int) := rfl
    rw [e4, e3]
set_option maxRecDepth 100000 in
set_option maxHeartbeats 2000000 in
theorem maskIsZero_c (a B : Nat) (ha : a < R4) (w : World) (hc : ∀ k, k < 4 → w.cell? ⟨B, k, none⟩ = some (.int .u64 ((dg k a : Nat) : Int))) :
    Calls Tryz.prog 155 #[.slice (some ⟨B, 0, none⟩) 4 4] w fun e w' => e = .returned (.int .u64 ((mb (isz a) : Nat) : Int)) ∧ w = w' := by
  go_enter Tryz.func155, Tryz.ntmps155
  go_wp2_with fail
  go_loopw [3, 8] (fun v i wr => ∃ (k : Nat), k ≤ 4 ∧ i = .int .i64 (k : Int) ∧ v = .int .u64 ((orv a k : Nat) : Int) ∧ wr = w) (fun _ i _ => 4 - (intOf i).toNat)
  case atStart => exact ⟨0, by omega, rfl, rfl, rfl⟩
  case round =>
    obtain ⟨k, hk4, rfl, rfl, rfl⟩ := hrel
    by_cases hk : k < 4
    · have h1 := hc k hk
      go_wp2_with fail
      all_goals go_roundw
      case rel => exact ⟨k + 1, by omega, by go_num, by rw [u64_or_nat _ _ (orv_lt a k) (dg_lt k a)]; rfl, trivial⟩
      case measure => simp [intOf]; omega
    · have e : k = 4 := by omega
      have hi : isz (orv a k) = isz a := by rw [e]; exact orv_isz ha
      have hz := isz_val (orv_lt a k)
      rw [hi] at hz
      have Hz := Lib.hid hz
      clear hz hi
      generalize orv a k = z at Hz ⊢
      subst e
      go_wp2_with fail
      rw [Hz.out]
      refine Calls.mono (fromBit_c _ (isz_lt a) _) ?_
      rintro _ _ ⟨rfl, rfl⟩
      go_wp2_with fail
      exact bodyPost_ret (v := .int .u64 ((mb (isz a) : Nat) : Int)) (by simp only [results, Tryz.results155]; go_simp) rfl ⟨rfl, rfl⟩
set_option maxRecDepth 100000 in
set_option maxHeartbeats 2000000 in
theorem limbIsZero_c (a : Nat) (ha : a < R4) (w : World) :
    Calls Tryz.prog 179 #[vec a] w fun e w' => e = .returned (.int .u64 ((mb (isz a) : Nat) : Int)) ∧ Below w.heap.size w w' := by
  go_enter Tryz.func179, Tryz.ntmps179
  go_wp2_with fail
  refine Calls.mono (maskIsZero_c a w.heap.size ha _ (fun k hk => by rcases k with _ | _ | _ | _ | k <;> first | (go_simp; done) | omega)) ?_
  rintro _ _ ⟨rfl, rfl⟩
  go_wp2_with fail
  refine bodyPost_ret (v := .int .u64 ((mb (isz a) : Nat) : Int)) (by simp only [results, Tryz.results179]; go_simp) rfl ⟨rfl, ?_⟩
  repeat first
    | with_reducible exact Below.refl _ _
    | with_reducible refine Below.drew ?_
    | with_reducible refine below_dN ?_
    | with_reducible refine Below.alloc ?_ (by first | omega | (simp; done) | (simp; omega)) _
    | with_reducible refine Below.setCell ?_ (by first | omega | (simp; done) | (simp; omega)) _
    | with_reducible refine Below.trans ?_ (Below.mono (by assumption) (by first | omega | (simp; done) | (simp; omega)))
end Go.Proofs.YtdnkkbmpefhbjaaGreatDoor
namespace Go.Proofs.YtdnkkbmpefhbjaaGreatDoor
set_option linter.all false
open Go.RowKit
set_option maxRecDepth 100000 in
set_option maxHeartbeats 2000000 in
theorem montIsZero_c (a : Nat) (ha : a < R4) (w : World) :
    Calls Tryz.prog 166 #[vec a] w fun e w' => e = .returned (.int .u64 ((mb (isz a) : Nat) : Int)) ∧ Below w.heap.size w w' := by
  go_enter Tryz.func166, Tryz.ntmps166
  go_wp2_with fail
  refine Calls.mono (limbIsZero_c a ha _) ?_
  rintro _ w1 ⟨rfl, h1⟩
  obtain ⟨c1, f1, s1⟩ := bfacts h1
  try simp only [World.size_alloc, World.size_setCell, size_drew, size_drewN] at s1
  have l_w_w1_0 : w.heap.size < w1.heap.size := by omega
  go_wp2_with fail
  refine bodyPost_ret (v := .int .u64 ((mb (isz a) : Nat) : Int)) (by simp only [results, Tryz.results166]; go_simp) rfl ⟨rfl, ?_⟩
  repeat first
    | with_reducible exact Below.refl _ _
    | with_reducible refine Below.drew ?_
    | with_reducible refine below_dN ?_
    | with_reducible refine Below.alloc ?_ (by first | omega | (simp; done) | (simp; omega)) _
    | with_reducible refine Below.setCell ?_ (by first | omega | (simp; done) | (simp; omega)) _
    | with_reducible refine Below.trans ?_ (Below.mono (by assumption) (by first | omega | (simp; done) | (simp; omega)))
end Go.Proofs.YtdnkkbmpefhbjaaGreatDoor
namespace Go.Proofs.YtdnkkbmpefhbjaaGreatDoor
set_option linter.all false
open Go.RowKit
set_option maxRecDepth 100000 in
set_option maxHeartbeats 2000000 in
theorem montNeg_c (s : Bool) (a : Nat) (ha : a < pr s) (w : World) :
    Calls Tryz.prog 146 #[fieldV s, vec a] w fun e w' => e = .returned (vec (subm (pr s) 0 a)) ∧ Below w.heap.size w w' := by
  have Hp := Lib.hid (pr_pos s)
  go_enter Tryz.func146, Tryz.ntmps146
  go_wp2_with fail
  refine Calls.mono (montSub_c s 0 a Hp.out ha _) ?_
  rintro _ w1 ⟨rfl, h1⟩
  obtain ⟨c1, f1, s1⟩ := bfacts h1
  try simp only [World.size_alloc, World.size_setCell, size_drew, size_drewN] at s1
  have l_w_w1_0 : w.heap.size < w1.heap.size := by omega
  have l_w_w1_1 : w.heap.size + 1 < w1.heap.size := by omega
  have l_w_w1_2 : w.heap.size + 1 + 1 < w1.heap.size := by omega
  go_wp2_with fail
  refine bodyPost_ret (v := vec (subm (pr s) 0 a)) (by simp only [results, Tryz.results146]; go_simp) rfl ⟨rfl, ?_⟩
  repeat first
    | with_reducible exact Below.refl _ _
    | with_reducible refine Below.drew ?_
    | with_reducible refine below_dN ?_
    | with_reducible refine Below.alloc ?_ (by first | omega | (simp; done) | (simp; omega)) _
    | with_reducible refine Below.setCell ?_ (by first | omega | (simp; done) | (simp; omega)) _
    | with_reducible refine Below.trans ?_ (Below.mono (by assumption) (by first | omega | (simp; done) | (simp; omega)))
end Go.Proofs.YtdnkkbmpefhbjaaGreatDoor
namespace Go.Proofs.YtdnkkbmpefhbjaaGreatDoor
set_option linter.all false
open Go.RowKit
set_option maxRecDepth 100000 in
set_option maxHeartbeats 2000000 in
theorem montAdd_c (s : Bool) (a b : Nat) (ha : a < pr s) (hb : b < pr s) (w : World) :
    Calls Tryz.prog 121 #[fieldV s, vec a, vec b] w fun e w' => e = .returned (vec (addm (pr s) a b)) ∧ Below w.heap.size w w' := by
  have Hp := Lib.hid (pr_lt s)
  have ha4 : a < R4 := by have := Hp.out; omega
  have hb4 : b < R4 := by have := Hp.out; omega
  rw [← rdc_add Hp.out ha hb]
  clear ha hb
  go_enter Tryz.func121, Tryz.ntmps121
  go_wp2_with fail
  refine Calls.mono (limbAdd_c a b ha4 hb4 _) ?_
  rintro _ w1 ⟨rfl, h1⟩
  obtain ⟨c1, f1, s1⟩ := bfacts h1
  try simp only [World.size_alloc, World.size_setCell, size_drew, size_drewN] at s1
  have l_w_w1_0 : w.heap.size < w1.heap.size := by omega
  have l_w_w1_1 : w.heap.size + 1 < w1.heap.size := by omega
  have l_w_w1_2 : w.heap.size + 1 + 1 < w1.heap.size := by omega
  have l_w_w1_3 : w.heap.size + 1 + 1 + 1 < w1.heap.size := by omega
  go_wp2_with fail
  refine Calls.mono (subtract_c s (addV a b) (addC a b) (addV_lt a b) (addC_lt ha4 hb4) _) ?_
  rintro _ w2 ⟨rfl, h2⟩
  obtain ⟨c2, f2, s2⟩ := bfacts h2
  try simp only [World.size_alloc, World.size_setCell, size_drew, size_drewN] at s2
  have l_w_w2_0 : w.heap.size < w2.heap.size := by omega
  have l_w_w2_1 : w.heap.size + 1 < w2.heap.size := by omega
  have l_w_w2_2 : w.heap.size + 1 + 1 < w2.heap.size := by omega
  have l_w_w2_3 : w.heap.size + 1 + 1 + 1 < w2.heap.size := by omega
  go_wp2_with fail
  refine bodyPost_ret (v := vec (rdc (pr s) (addV a b) (addC a b))) (by simp only [results, Tryz.results121]; go_simp) rfl ⟨rfl, ?_⟩
  repeat first
    | with_reducible exact Below.refl _ _
    | with_reducible refine Below.drew ?_
    | with_reducible refine below_dN ?_
    | with_reducible refine Below.alloc ?_ (by first | omega | (simp; done) | (simp; omega)) _
    | with_reducible refine Below.setCell ?_ (by first | omega | (simp; done) | (simp; omega)) _
    | with_reducible refine Below.trans ?_ (Below.mono (by assumption) (by first | omega | (simp; done) | (simp; omega)))
end Go.Proofs.YtdnkkbmpefhbjaaGreatDoor
namespace Go.Proofs.YtdnkkbmpefhbjaaGreatDoor
set_option linter.all false
open Go.RowKit
end Go.Proofs.YtdnkkbmpefhbjaaGreatDoor
namespace Go.Proofs.YtdnkkbmpefhbjaaGreatDoor
set_option linter.all false
open Go.RowKit
/-- The Montgomery form of a value. -/
def RR (s : Bool) (x : Nat) : Nat := mulm (pr s) (R4 % pr s) x
theorem RR_eq (s : Bool) (x : Nat) : RR s x = x * R4 % pr s := by unfold RR mulm; rw [Nat.mul_mod_mod]
theorem RR_lt (s : Bool) (x : Nat) : RR s x < pr s := by rw [RR_eq]; exact Nat.mod_lt _ (pr_pos s)
theorem RR_lt4 (s : Bool) (x : Nat) : RR s x < R4 := Nat.lt_trans (RR_lt s x) (pr_lt s)
theorem RR_fit (s : Bool) (x y : Nat) : RR s x * RR s y < R4 * pr s := mul_fits (RR_lt4 s x) (RR_lt s y)
theorem RR_zero (s : Bool) : RR s 0 = 0 := by rw [RR_eq]; simp
theorem RR_one (s : Bool) : RR s 1 = rone s := by cases s <;> decide
theorem add_RR (s : Bool) (x y : Nat) : addm (pr s) (RR s x) (RR s y) = RR s (addm (pr s) x y) := by
  rw [RR_eq, RR_eq, RR_eq]; unfold addm
  rw [← Nat.add_mod, Nat.mod_mul_mod, ← Nat.add_mul]
theorem subm_unique {p u v w : Nat} (hw : w < p) (hv : v < p) (h : (w + v) % p = u) : subm p u v = w := by
  unfold subm
  by_cases c : w + v < p
  · rw [Nat.mod_eq_of_lt c] at h
    rw [← h, show w + v + p - v = w + p by omega, Nat.add_mod_right, Nat.mod_eq_of_lt hw]
  · rw [Nat.mod_eq_sub_mod (by omega), Nat.mod_eq_of_lt (by omega)] at h
    rw [← h, show w + v - p + p - v = w by omega, Nat.mod_eq_of_lt hw]
theorem add_subm {p x y : Nat} (hx : x < p) (hy : y < p) : addm p (subm p x y) y = x := by
  unfold addm subm
  rw [Nat.mod_add_mod, show x + p - y + y = x + p by omega, Nat.add_mod_right, Nat.mod_eq_of_lt hx]
theorem sub_RR (s : Bool) {x y : Nat} (hx : x < pr s) (hy : y < pr s) : subm (pr s) (RR s x) (RR s y) = RR s (subm (pr s) x y) := by
  refine subm_unique (RR_lt s _) (RR_lt s _) ?_
  have := add_RR s (subm (pr s) x y) y
  rw [add_subm hx hy] at this
  exact this
theorem neg_RR (s : Bool) {x : Nat} (hx : x < pr s) : subm (pr s) 0 (RR s x) = RR s (subm (pr s) 0 x) := by
  have := sub_RR s (pr_pos s) hx
  rwa [RR_zero] at this
theorem inv_mul (s : Bool) (n : Nat) : n * (R4 * rinv s) % pr s = n % pr s := by
  rw [Nat.mul_mod, rinv_ok, Nat.mul_mod_mod, Nat.mod_mul_mod, Nat.mul_one]
theorem mm_RR (s : Bool) (x y : Nat) : mm s (RR s x) (RR s y) = RR s (mulm (pr s) x y) := by
  rw [RR_eq, RR_eq, RR_eq]; unfold mm mulm
  rw [Nat.mod_mul_mod, Nat.mul_assoc, Nat.mod_mul_mod, Nat.mul_comm (y * R4 % pr s), ← Nat.mul_assoc, Nat.mul_mod_mod, ← inv_mul s (y * x * R4)]
  generalize rinv s = r
  generalize R4 = q
  congr 1
  ac_rfl
theorem rsq_ok (s : Bool) : rsq s = R4 * R4 % pr s := by cases s <;> decide
theorem to_RR (s : Bool) (a : Nat) : mm s a (rsq s) = RR s (mulm (pr s) 1 a) := by
  rw [RR_eq, rsq_ok]; unfold mm mulm
  rw [Nat.mul_one, Nat.mod_mul_mod, Nat.mul_comm a, Nat.mul_assoc, Nat.mod_mul_mod, ← inv_mul s (a * R4)]
  generalize rinv s = r
  generalize R4 = q
  congr 1
  ac_rfl
theorem from_RR (s : Bool) {x : Nat} (hx : x < pr s) : mm s (RR s x) 1 = x := by
  rw [RR_eq]; unfold mm
  rw [Nat.mul_one, Nat.mod_mul_mod, Nat.mul_assoc, inv_mul, Nat.mod_eq_of_lt hx]
theorem red_lt (s : Bool) (a : Nat) : mulm (pr s) 1 a < pr s := mulm_lt (pr_pos s) _ _
end Go.Proofs.YtdnkkbmpefhbjaaGreatDoor
namespace Go.Proofs.YtdnkkbmpefhbjaaGreatDoor
set_option linter.all false
open Go Go.RowKit
theorem run_equalIn_four {P : Program} (w : World) (D : Nat) (t e : TypeId) (x0 x1 x2 x3 y0 y1 y2 y3 : Int) (ht : P.underlying t = some (.array 4 e)) (he : P.underlying e = some (.int .u64)) (hz : ∀ w, (sizeOf e).run P w = .ok 1 w)
    (hq : ∀ (a b : Int) w, (Op.equalIn D e (.int .u64 a) (.int .u64 b)).run P w = .ok (a == b) w) :
    (Op.equalIn (D + 1) t (.agg #[.int .u64 x0, .int .u64 x1, .int .u64 x2, .int .u64 x3]) (.agg #[.int .u64 y0, .int .u64 y1, .int .u64 y2, .int .u64 y3])).run P w = .ok (x0 == y0 && x1 == y1 && x2 == y2 && x3 == y3) w := by
  have hp : ∀ (i : Nat) (a b c f : Int) w, i < 4 → (part e #[.int .u64 a, .int .u64 b, .int .u64 c, .int .u64 f] i).run P w = .ok (.int .u64 (match i with | 0 => a | 1 => b | 2 => c | _ => f)) w := by
    intro i a b c f w hi
    have : i = 0 ∨ i = 1 ∨ i = 2 ∨ i = 3 := by omega
    rcases this with rfl | rfl | rfl | rfl <;> simp [part, Sem.run_bind, hz, isAgg, run_underlying he]
  rw [Op.equalIn]
  rw [Sem.run_bind, run_underlying ht]
  simp only [Result.andThen_ok]
  rw [Sem.run_bind, hz]
  simp only [Result.andThen_ok, Std.Legacy.Range.forIn_eq_forIn_range', Std.Legacy.Range.size, Nat.sub_zero, Nat.add_sub_cancel, Nat.div_one, List.range', List.forIn_cons, List.forIn_nil, Nat.mul_one, Nat.zero_add, Nat.reduceAdd]
  simp only [Sem.run_bind, hp 0 _ _ _ _ _ (by omega), hp 1 _ _ _ _ _ (by omega), hp 2 _ _ _ _ _ (by omega), hp 3 _ _ _ _ _ (by omega), Result.andThen_ok, hq]
  generalize hb0 : (x0 == y0) = b0
  generalize hb1 : (x1 == y1) = b1
  generalize hb2 : (x2 == y2) = b2
  generalize hb3 : (x3 == y3) = b3
  cases b0 <;> cases b1 <;> cases b2 <;> cases b3 <;> simp [Sem.run_bind, hp 1 _ _ _ _ _ (by omega), hp 2 _ _ _ _ _ (by omega), hp 3 _ _ _ _ _ (by omega), hq, hb1, hb2, hb3]
theorem size_u64 (w : World) : (sizeOf 46).run Tryz.prog w = .ok 1 w := by kernel_rfl
theorem eq_u64 (a b : Int) (w : World) : (Op.equalIn 9999 46 (.int .u64 a) (.int .u64 b)).run Tryz.prog w = .ok (a == b) w := run_equalIn_int w 9998 46 .u64 .u64 a b Tryz.underlying46
@[go_sem] theorem eqGuardVec : Tryz.prog.eqGuardType Tryz.prog.depth 47 = false := by kernel_rfl
@[go_sem] theorem eqlVec (x0 x1 x2 x3 y0 y1 y2 y3 : Int) (w : World) : (Op.equalIn 10000 47 (.agg #[.int .u64 x0, .int .u64 x1, .int .u64 x2, .int .u64 x3]) (.agg #[.int .u64 y0, .int .u64 y1, .int .u64 y2, .int .u64 y3])).run Tryz.prog w = .ok (x0 == y0 && x1 == y1 && x2 == y2 && x3 == y3) w :=
  run_equalIn_four w 9999 47 46 x0 x1 x2 x3 y0 y1 y2 y3 Tryz.underlying47 Tryz.underlying46 size_u64 eq_u64
@[go_sem] theorem eqGuardElem : Tryz.prog.eqGuardType Tryz.prog.depth 56 = false := by kernel_rfl
@[go_sem] theorem eqlElem (x0 x1 x2 x3 y0 y1 y2 y3 : Int) (w : World) : (Op.equalIn 10000 56 (.agg #[.int .u64 x0, .int .u64 x1, .int .u64 x2, .int .u64 x3]) (.agg #[.int .u64 y0, .int .u64 y1, .int .u64 y2, .int .u64 y3])).run Tryz.prog w = .ok (x0 == y0 && x1 == y1 && x2 == y2 && x3 == y3) w :=
  run_equalIn_four w 9999 56 46 x0 x1 x2 x3 y0 y1 y2 y3 Tryz.underlying56 Tryz.underlying46 size_u64 eq_u64
end Go.Proofs.YtdnkkbmpefhbjaaGreatDoor
namespace Go.Proofs.YtdnkkbmpefhbjaaGreatDoor
set_option linter.all false
open Go.RowKit
theorem pr_gt1 (s : Bool) : 1 < pr s := by cases s <;> decide
end Go.Proofs.YtdnkkbmpefhbjaaGreatDoor
namespace Go.Proofs.YtdnkkbmpefhbjaaGreatDoor
set_option linter.all false
open Go.RowKit
abbrev lit4 (a b c d : Nat) : Value := .agg #[.int .u64 (a : Int), .int .u64 (b : Int), .int .u64 (c : Int), .int .u64 (d : Int)]
theorem vec_of {n a b c d : Nat} (h0 : dg 0 n = a) (h1 : dg 1 n = b) (h2 : dg 2 n = c) (h3 : dg 3 n = d) : vec n = lit4 a b c d := by subst h0 h1 h2 h3; rfl
theorem v1 : vec 1 = .agg #[.int .u64 1, .int .u64 0, .int .u64 0, .int .u64 0] := vec_of (a := 1) (b := 0) (c := 0) (d := 0) (by decide) (by decide) (by decide) (by decide)
theorem v2 : vec 2 = .agg #[.int .u64 2, .int .u64 0, .int .u64 0, .int .u64 0] := vec_of (a := 2) (b := 0) (c := 0) (d := 0) (by decide) (by decide) (by decide) (by decide)
end Go.Proofs.YtdnkkbmpefhbjaaGreatDoor
namespace Go.Proofs.YtdnkkbmpefhbjaaGreatDoor
set_option linter.all false
open Go.RowKit
end Go.Proofs.YtdnkkbmpefhbjaaGreatDoor
namespace Go.Proofs.YtdnkkbmpefhbjaaGreatDoor
set_option linter.all false
open Go.RowKit
theorem mulR_c (s : Bool) (x y : Nat) (w : World) : Calls Tryz.prog 120 #[fieldV s, vec (RR s x), vec (RR s y)] w fun e w' => e = .returned (vec (RR s (mulm (pr s) x y))) ∧ Below w.heap.size w w' := by
  have h := montMul_c s (RR s x) (RR s y) (RR_lt4 s _) (RR_lt4 s _) (RR_fit s _ _) w
  rwa [mm_RR] at h
theorem squareR_c (s : Bool) (x : Nat) (w : World) : Calls Tryz.prog 182 #[fieldV s, vec (RR s x)] w fun e w' => e = .returned (vec (RR s (mulm (pr s) x x))) ∧ Below w.heap.size w w' := by
  have h := montSquare_c s (RR s x) (RR_lt4 s _) (RR_fit s _ _) w
  rwa [mm_RR] at h
theorem addR_c (s : Bool) (x y : Nat) (w : World) : Calls Tryz.prog 121 #[fieldV s, vec (RR s x), vec (RR s y)] w fun e w' => e = .returned (vec (RR s (addm (pr s) x y))) ∧ Below w.heap.size w w' := by
  have h := montAdd_c s (RR s x) (RR s y) (RR_lt s _) (RR_lt s _) w
  rwa [add_RR] at h
theorem subR_c (s : Bool) (x y : Nat) (hx : x < pr s) (hy : y < pr s) (w : World) : Calls Tryz.prog 143 #[fieldV s, vec (RR s x), vec (RR s y)] w fun e w' => e = .returned (vec (RR s (subm (pr s) x y))) ∧ Below w.heap.size w w' := by
  have h := montSub_c s (RR s x) (RR s y) (RR_lt s _) (RR_lt s _) w
  rwa [sub_RR s hx hy] at h
theorem negR_c (s : Bool) (x : Nat) (hx : x < pr s) (w : World) : Calls Tryz.prog 146 #[fieldV s, vec (RR s x)] w fun e w' => e = .returned (vec (RR s (subm (pr s) 0 x))) ∧ Below w.heap.size w w' := by
  have h := montNeg_c s (RR s x) (RR_lt s _) w
  rwa [neg_RR s hx] at h
theorem toR_c (s : Bool) (a : Nat) (ha : a < R4) (w : World) : Calls Tryz.prog 88 #[fieldV s, vec a] w fun e w' => e = .returned (vec (RR s (mulm (pr s) 1 a))) ∧ Below w.heap.size w w' := by
  have h := montTo_c s a ha w
  rwa [to_RR] at h
theorem containsT_c (s : Bool) (a : Nat) (ha : a < pr s) (w : World) : Calls Tryz.prog 137 #[fieldV s, vec a] w fun e w' => e = .returned (.int .u64 18446744073709551615) ∧ Below w.heap.size w w' := by
  have h := contains_c s a (Nat.lt_trans ha (pr_lt s)) w
  rwa [show ((mb (subC a (pr s)) : Nat) : Int) = 18446744073709551615 by rw [show subC a (pr s) = 1 from if_pos ha]; rfl] at h
theorem containsF_c (s : Bool) (a : Nat) (ha : a < R4) (hn : ¬ a < pr s) (w : World) : Calls Tryz.prog 137 #[fieldV s, vec a] w fun e w' => e = .returned (.int .u64 0) ∧ Below w.heap.size w w' := by
  have h := contains_c s a ha w
  rwa [show ((mb (subC a (pr s)) : Nat) : Int) = 0 by rw [show subC a (pr s) = 0 from if_neg hn]; rfl] at h
end Go.Proofs.YtdnkkbmpefhbjaaGreatDoor
namespace Go.Proofs.YtdnkkbmpefhbjaaGreatDoor
set_option linter.all false
open Go Go.RowKit
/-- The first n bytes of v. -/
def bl (v n : Nat) : List Value := (List.range n).map fun j => Value.int .u8 ((byt v j : Nat) : Int)
end Go.Proofs.YtdnkkbmpefhbjaaGreatDoor
namespace Go.Proofs.YtdnkkbmpefhbjaaGreatDoor
set_option linter.all false
open Go Go.RowKit
end Go.Proofs.YtdnkkbmpefhbjaaGreatDoor
namespace Go.Proofs.YtdnkkbmpefhbjaaGreatDoor
set_option linter.all false
open Go Go.RowKit
/-- The bytes of v from m on are zero. -/
def Zf (v m : Nat) : Prop := ∀ j, m ≤ j → j < 32 → byt v j = 0
end Go.Proofs.YtdnkkbmpefhbjaaGreatDoor
namespace Go.Proofs.YtdnkkbmpefhbjaaGreatDoor
set_option linter.all false
open Go Go.RowKit
end Go.Proofs.YtdnkkbmpefhbjaaGreatDoor
namespace Go.Proofs.YtdnkkbmpefhbjaaGreatDoor
set_option linter.all false
open Go.RowKit
end Go.Proofs.YtdnkkbmpefhbjaaGreatDoor
namespace Go.Proofs.YtdnkkbmpefhbjaaGreatDoor
set_option linter.all false
open Go.RowKit
/-- Digit q of a number that has q digits and r bytes. -/
theorem dg_top {q r k N c : Nat} (hq : q < 4) (hr : r < 8) (hN : N < 256 ^ (8 * q + r)) (hc : c < 256) (hk : k < 4) :
    dg k (N + c * 256 ^ (8 * q + r)) = if k = q then dg q N + c * 256 ^ r else dg k N := by
  have e : (256 : Nat) ^ (8 * q + r) = W ^ q * 256 ^ r := by rw [W_256, ← Nat.pow_mul, ← Nat.pow_add]
  rw [e] at hN ⊢
  obtain ⟨u, hu⟩ : ∃ u, u = 256 ^ r := ⟨_, rfl⟩
  have hu8 : u * 256 ≤ W := by
    rw [hu, W_256, ← Nat.pow_succ]; exact Nat.pow_le_pow_right (by decide) (by omega)
  rw [← hu] at hN ⊢
  obtain ⟨m, hm⟩ : ∃ m, m = N / W ^ q := ⟨_, rfl⟩
  obtain ⟨l, hl⟩ : ∃ l, l = N % W ^ q := ⟨_, rfl⟩
  have hWq : 0 < W ^ q := Nat.pow_pos W_pos
  have hNe : N = l + m * W ^ q := by rw [hl, hm, Nat.mul_comm]; exact (Nat.mod_add_div _ _).symm
  have hll : l < W ^ q := by rw [hl]; exact Nat.mod_lt _ hWq
  have hmu : m < u := by rw [hm]; exact Nat.div_lt_of_lt_mul hN
  have hcu : c * u ≤ 255 * u := Nat.mul_le_mul_right _ (by omega)
  obtain ⟨x, hx⟩ : ∃ x, x = c * u := ⟨_, rfl⟩
  rw [show c * (W ^ q * u) = c * u * W ^ q by rw [Nat.mul_comm (W ^ q), Nat.mul_assoc], ← hx]
  rw [← hx] at hcu
  clear hx hc hu hm hl e hN hWq
  subst hNe
  have hq' : q = 0 ∨ q = 1 ∨ q = 2 ∨ q = 3 := by omega
  have hk' : k = 0 ∨ k = 1 ∨ k = 2 ∨ k = 3 := by omega
  rcases hq' with rfl | rfl | rfl | rfl <;> rcases hk' with rfl | rfl | rfl | rfl <;> first | rw [if_pos rfl] | rw [if_neg (by decide)]
  all_goals (unfold dg W at *; omega)
/-- A power of 256, named. -/
def un (r : Nat) : Nat := 256 ^ r
theorem unit_mul {r : Nat} (hr : r < 7) : IntKind.u64.wrap (((un r : Nat) : Int) * 256) = ((un (r + 1) : Nat) : Int) := by
  have h : un (r + 1) < W := by unfold un; rw [W_256]; exact Nat.pow_lt_pow_right (by decide) (by omega)
  have e : un (r + 1) = un r * 256 := by unfold un; rw [Nat.pow_succ]
  rw [IntKind.wrap_u64]
  unfold W at h
  omega
theorem num_set {f : Nat → Nat} (hf : ∀ j, f j < 256) {k q r : Nat} (hk : k < 32) (hq : q = k / 8) (hr : r = k % 8) :
    ([.int .u64 ((dg 0 (le f k) : Nat) : Int), .int .u64 ((dg 1 (le f k) : Nat) : Int), .int .u64 ((dg 2 (le f k) : Nat) : Int), .int .u64 ((dg 3 (le f k) : Nat) : Int)] : List Value).set q
      (.int .u64 (IntKind.u64.wrap (((dg q (le f k) : Nat) : Int) + IntKind.u64.wrap (IntKind.u64.wrap ((f k : Nat) : Int) * ((un r : Nat) : Int))))) =
    [.int .u64 ((dg 0 (le f (k + 1)) : Nat) : Int), .int .u64 ((dg 1 (le f (k + 1)) : Nat) : Int), .int .u64 ((dg 2 (le f (k + 1)) : Nat) : Int), .int .u64 ((dg 3 (le f (k + 1)) : Nat) : Int)] := by
  have hk8 : k = 8 * q + r := by omega
  have hN := le_lt hf k
  have h := hf k
  have D : ∀ j, j < 4 → dg j (le f (k + 1)) = if j = q then dg q (le f k) + f k * un r else dg j (le f k) := fun j hj => by
    rw [le_succ, hk8]
    rw [hk8] at hN h
    exact dg_top (by omega) (by omega) hN h hj
  have hv : IntKind.u64.wrap (((dg q (le f k) : Nat) : Int) + IntKind.u64.wrap (IntKind.u64.wrap ((f k : Nat) : Int) * ((un r : Nat) : Int))) = ((dg q (le f (k + 1)) : Nat) : Int) := by
    have hl := dg_lt q (le f (k + 1))
    have e := D q (by omega)
    rw [if_pos rfl] at e
    have e1 : IntKind.u64.wrap ((f k : Nat) : Int) = ((f k : Nat) : Int) := by rw [IntKind.wrap_u64]; omega
    rw [e1, e]
    rw [e] at hl
    have e2 : ((f k : Nat) : Int) * ((un r : Nat) : Int) = ((f k * un r : Nat) : Int) := by push_cast; rfl
    rw [e2]
    generalize f k * un r = y at hl ⊢
    generalize dg q (le f k) = x at hl ⊢
    rw [IntKind.wrap_u64, IntKind.wrap_u64]
    unfold W at hl
    omega
  rw [hv, D 0 (by omega), D 1 (by omega), D 2 (by omega), D 3 (by omega)]
  have hq4 : q = 0 ∨ q = 1 ∨ q = 2 ∨ q = 3 := by omega
  rcases hq4 with e | e | e | e <;> (rw [D q (by omega), if_pos rfl]; simp [e])
set_option maxRecDepth 100000 in
set_option maxHeartbeats 4000000 in
theorem refNumber_at (f : Nat → Nat) (b off n c : Nat) (hn : n ≤ 32) (w : World) (hB : BytesAt w b off n f) :
    Calls Tryz.prog 138 #[.slice (some ⟨b, off, none⟩) n c] w fun e w' => e = .returned (vec (le f n)) ∧ Below w.heap.size w w' := by
  have HB := Lib.hid hB
  have hblk := hB.blk
  clear hB
  go_enter Tryz.func138, Tryz.ntmps138
  go_wp2_with fail
  go_loopw [4] (fun i wr => ∃ (k m : Nat), k ≤ n ∧ i = .int .i64 (k : Int) ∧ wr = World.drewN ((w.alloc (.cells #[.int .u64 0, .int .u64 0, .int .u64 0, .int .u64 0] 47)).alloc
      (.cells #[.int .u64 ((dg 0 (le f k) : Nat) : Int), .int .u64 ((dg 1 (le f k) : Nat) : Int), .int .u64 ((dg 2 (le f k) : Nat) : Int), .int .u64 ((dg 3 (le f k) : Nat) : Int)] 47)) m) (fun i _ => n - (intOf i).toNat)
  case atStart => exact ⟨0, 0, by omega, rfl, by simp only [le, dg, Nat.zero_div, Nat.zero_mod]; rfl⟩
  case round =>
    obtain ⟨k, m, hk, rfl, rfl⟩ := hrel
    by_cases hlt : k < n
    · have hcell := HB.out.cell k hlt
      go_wp2_with fail
      go_loop [5, 6] (fun u j => ∃ r : Nat, r ≤ k % 8 ∧ j = .int .i64 (r : Int) ∧ u = .int .u64 ((un r : Nat) : Int)) (fun _ j => k % 8 - (intOf j).toNat)
      case atStart => exact ⟨0, by omega, rfl, rfl⟩
      case round =>
        obtain ⟨r, hr, rfl, rfl⟩ := hrel
        by_cases hrt : r < k % 8
        · have hu := unit_mul (r := r) (by omega)
          go_wp2_with fail
          go_round
          case rel => exact ⟨r + 1, by omega, by go_num, rfl⟩
          case measure => simp [intOf]; omega
        · have Hr := Lib.hid (show r = k % 8 by omega)
          have hge : k % 8 ≤ r := by omega
          clear hr hrt
          go_wp2_with fail
          clear hge
          obtain ⟨q, hq⟩ : ∃ q, q = k / 8 := ⟨_, rfl⟩
          have hq4 : q < 4 := by omega
          have hq5 : (q : Int) < 4 := by omega
          have hwr : IntKind.i64.wrap ((k : Int) / 8) = (q : Int) := by rw [IntKind.wrap_i64]; omega
          have Hq := Lib.hid hq
          have d1 := digit_at (le f k) q hq4
          clear hq
          refine region_mix 13 [false, false, false, false, false, false, false, false, false, false, false, false, false] (fun w' => w' = World.drew _) (by kernel_rfl) (by kernel_rfl) (by intro _ _ d _ _ h; cases d <;> exact h) rfl ?_
          simp only [List.take_succ_cons, List.take_zero, List.drop_succ_cons, List.drop_zero]
          with_reducible refine mix_v ?_ ?_ ?_
          · rfl
          · rfl
          apply Exists.intro
          refine ⟨fun w' hC => ?_, ?_⟩
          · subst hC
            go_simp
            rfl
          try simp only [Act.put, sA, sB, sC, sD]
          with_reducible refine mix_v ?_ ?_ ?_
          · rfl
          · rfl
          apply Exists.intro
          refine ⟨fun w' hC => ?_, ?_⟩
          · subst hC
            go_simp
            rfl
          try simp only [Act.put, sA, sB, sC, sD]
          with_reducible refine mix_v ?_ ?_ ?_
          · rfl
          · rfl
          apply Exists.intro
          refine ⟨fun w' hC => ?_, ?_⟩
          · subst hC
            go_simp
            rfl
          try simp only [Act.put, sA, sB, sC, sD]
          with_reducible refine mix_v ?_ ?_ ?_
          · rfl
          · rfl
          apply Exists.intro
          refine ⟨fun w' hC => ?_, ?_⟩
          · subst hC
            go_simp
            rfl
          try simp only [Act.put, sA, sB, sC, sD]
          with_reducible refine mix_v ?_ ?_ ?_
          · rfl
          · rfl
          apply Exists.intro
          refine ⟨fun w' hC => ?_, ?_⟩
          · subst hC
            go_simp
            rfl
          try simp only [Act.put, sA, sB, sC, sD]
          with_reducible refine mix_v ?_ ?_ ?_
          · rfl
          · rfl
          apply Exists.intro
          refine ⟨fun w' hC => ?_, ?_⟩
          · subst hC
            go_simp
            rfl
          try simp only [Act.put, sA, sB, sC, sD]
          with_reducible refine mix_v ?_ ?_ ?_
          · rfl
          · rfl
          apply Exists.intro
          refine ⟨fun w' hC => ?_, ?_⟩
          · subst hC
            go_simp
            rfl
          try simp only [Act.put, sA, sB, sC, sD]
          with_reducible refine mix_v ?_ ?_ ?_
          · rfl
          · rfl
          apply Exists.intro
          refine ⟨fun w' hC => ?_, ?_⟩
          · subst hC
            go_simp
            rfl
          try simp only [Act.put, sA, sB, sC, sD]
          with_reducible refine mix_v ?_ ?_ ?_
          · rfl
          · rfl
          apply Exists.intro
          refine ⟨fun w' hC => ?_, ?_⟩
          · subst hC
            go_simp
            rfl
          try simp only [Act.put, sA, sB, sC, sD]
          with_reducible refine mix_v ?_ ?_ ?_
          · rfl
          · rfl
          apply Exists.intro
          refine ⟨fun w' hC => ?_, ?_⟩
          · subst hC
            go_simp
            rfl
          try simp only [Act.put, sA, sB, sC, sD]
          with_reducible refine mix_v ?_ ?_ ?_
          · rfl
          · rfl
          apply Exists.intro
          refine ⟨fun w' hC => ?_, ?_⟩
          · subst hC
            go_simp
            rfl
          try simp only [Act.put, sA, sB, sC, sD]
          with_reducible refine mix_v ?_ ?_ ?_
          · rfl
          · rfl
          apply Exists.intro
          refine ⟨fun w' hC => ?_, ?_⟩
          · subst hC
            go_simp
            rfl
          try simp only [Act.put, sA, sB, sC, sD]
          with_reducible refine mix_v ?_ ?_ ?_
          · rfl
          · rfl
          apply Exists.intro
          refine ⟨fun w' hC => ?_, ?_⟩
          · subst hC
            go_simp
            rfl
          try simp only [Act.put, sA, sB, sC, sD]
          refine mix_nil ?_
          rintro _ rfl
          go_wp2_with fail
          go_roundw
          case rel => exact ⟨k + 1, m + 1, by omega, by go_num, by rw [num_set HB.out.lt (by omega) Hq.out Hr.out]⟩
          case measure => simp [intOf]; omega
    · obtain rfl : k = n := by omega
      go_wp2_with fail
      refine bodyPost_ret (v := vec (le f k)) (by simp only [results, Tryz.results138]; go_simp) rfl ⟨rfl, ?_⟩
      repeat first
        | with_reducible exact Below.refl _ _
        | with_reducible refine Below.drew ?_
        | with_reducible refine below_dN ?_
        | with_reducible refine Below.alloc ?_ (by first | omega | (simp; done) | (simp; omega)) _
        | with_reducible refine Below.setCell ?_ (by first | omega | (simp; done) | (simp; omega)) _
        | with_reducible refine Below.trans ?_ (Below.mono (by assumption) (by first | omega | (simp; done) | (simp; omega)))
end Go.Proofs.YtdnkkbmpefhbjaaGreatDoor
namespace Go.Proofs.YtdnkkbmpefhbjaaGreatDoor
set_option linter.all false
open Go.RowKit
/-- What Wide gives of 64 bytes, as a value. -/
def wideV (s : Bool) (f : Nat → Nat) : Nat := addm (pr s) (mulm (pr s) 1 (le f 32)) (RR s (mulm (pr s) 1 (le (fun j => f (32 + j)) 32)))
theorem wideV_lt (s : Bool) (f : Nat → Nat) : wideV s f < pr s := addm_lt (pr_pos s) _ _
end Go.Proofs.YtdnkkbmpefhbjaaGreatDoor
namespace Go.Proofs.YtdnkkbmpefhbjaaGreatDoor
set_option linter.all false
open Go.RowKit
set_option maxRecDepth 100000 in
set_option maxHeartbeats 8000000 in
theorem refWide_walk (p n1 n2 x1 x2 q m r : Nat) (b off c : Nat) (hc : 64 ≤ c) (w : World)
    (hn1 : Hid (∀ w', Below w.heap.size w w' → Calls Tryz.prog 138 #[.slice (some ⟨b, off, none⟩) 32 c] w' fun e w'' => e = .returned (vec n1) ∧ Below w'.heap.size w' w''))
    (hn2 : Hid (∀ w', Below w.heap.size w w' → Calls Tryz.prog 138 #[.slice (some ⟨b, off + 32, none⟩) 32 (c - 32)] w' fun e w'' => e = .returned (vec n2) ∧ Below w'.heap.size w' w''))
    (hx1 : Hid (∀ w, Calls Tryz.prog 29 #[vec p, vec n1] w fun e w' => e = .returned (vec x1) ∧ Below w.heap.size w w'))
    (hx2 : Hid (∀ w, Calls Tryz.prog 29 #[vec p, vec n2] w fun e w' => e = .returned (vec x2) ∧ Below w.heap.size w w'))
    (hq : Hid (∀ w, Calls Tryz.prog 84 #[vec p] w fun e w' => e = .returned (vec q) ∧ Below w.heap.size w w'))
    (hm : Hid (∀ w, Calls Tryz.prog 66 #[vec p, vec q, vec x2] w fun e w' => e = .returned (vec m) ∧ Below w.heap.size w w'))
    (hr : Hid (∀ w, Calls Tryz.prog 30 #[vec p, vec x1, vec m] w fun e w' => e = .returned (vec r) ∧ Below w.heap.size w w')) :
    Calls Tryz.prog 140 #[vec p, .slice (some ⟨b, off, none⟩) 64 c] w fun e w' => e = .returned (.tuple #[vec r, .int .i64 0]) ∧ Below w.heap.size w w' := by
  have hc1 : ¬ c = 32 := by omega
  have hc2 : (32 : Int) ≤ (c : Int) := by omega
  go_enter Tryz.func140, Tryz.ntmps140
  go_wp2_with fail
  refine region_grow 6 [0, 1, 2, 3, 4, 5] [(5, (fun b => Value.pointer (some ⟨b, 0, Option.none⟩)), (Obj.cells #[.int .u64 0, .int .u64 0, .int .u64 0, .int .u64 0] 47))] [3, 4] (by kernel_rfl) (by kernel_rfl) ?_
  with_reducible apply grow_v
  · rfl
  · rfl
  · rfl
  apply Exists.intro
  refine ⟨fun w' hC => ?_, ?_⟩
  · have hcell := below_cells hC
    clear hC
    go_simp
    rfl
  try simp only [Act.put, sA, sB, sC, sD]
  with_reducible apply grow_v
  · rfl
  · rfl
  · rfl
  apply Exists.intro
  refine ⟨fun w' hC => ?_, ?_⟩
  · have hcell := below_cells hC
    clear hC
    go_simp
    rfl
  try simp only [Act.put, sA, sB, sC, sD]
  with_reducible apply grow_v
  · rfl
  · rfl
  · rfl
  apply Exists.intro
  refine ⟨fun w' hC => ?_, ?_⟩
  · have hcell := below_cells hC
    clear hC
    go_simp
    rfl
  try simp only [Act.put, sA, sB, sC, sD]
  with_reducible apply grow_c
  · rfl
  · rfl
  · rfl
  · rfl
  apply Exists.intro
  apply Exists.intro
  apply Exists.intro
  refine ⟨fun w' hC => ?_, fun w' hC => ?_, ?_⟩
  · have hcell := below_cells hC
    clear hC
    go_simp
    exact ⟨rfl, rfl⟩
  · exact hn1.out _ (Below.trans (by repeat first | with_reducible exact Below.refl _ _ | with_reducible refine Below.drew ?_ | with_reducible refine below_dN ?_ | with_reducible refine Below.alloc ?_ (by first | omega | (simp; done) | (simp; omega)) _ | with_reducible refine Below.setCell ?_ (by first | omega | (simp; done) | (simp; omega)) _ | with_reducible refine Below.trans ?_ (Below.mono (by assumption) (by first | omega | (simp; done) | (simp; omega)))) (Below.mono hC (by simp only [World.size_alloc, size_drew]; omega)))
  try simp only [Act.put, sA, sB, sC, sD]
  with_reducible apply grow_c
  · rfl
  · rfl
  · rfl
  · rfl
  apply Exists.intro
  apply Exists.intro
  apply Exists.intro
  refine ⟨fun w' hC => ?_, fun w' hC => ?_, ?_⟩
  · have hcell := below_cells hC
    clear hC
    go_simp
    exact ⟨rfl, rfl⟩
  · exact hx1.out _
  try simp only [Act.put, sA, sB, sC, sD]
  with_reducible apply grow_m
  · rfl
  · rfl
  · rfl
  refine ⟨fun w' hC => ?_, fun b5 => ?_⟩
  · clear hC
    go_simp
  try dsimp only
  try simp only [Act.put, sA, sB, sC, sD]
  refine grow_end ?_
  intro wg3 hg3
  obtain ⟨cg3, fg3, sg3⟩ := bfacts hg3.grows
  try simp only [World.size_alloc, World.size_setCell, size_drew, size_drewN] at sg3
  obtain ⟨kb5, fb5, lb5⟩ := has_cells (hg3.has (b5, Obj.cells #[.int .u64 0, .int .u64 0, .int .u64 0, .int .u64 0] 47) (by simp only [List.mem_cons, true_or, or_true]))
  have nb5 := hg3.new (b5, Obj.cells #[.int .u64 0, .int .u64 0, .int .u64 0, .int .u64 0] 47) (by simp only [List.mem_cons, true_or, or_true])
  try simp only [World.size_alloc, World.size_setCell, size_drew, size_drewN] at nb5
  have kb5_0 := kb5 0 _ rfl
  have kb5_1 := kb5 1 _ rfl
  have kb5_2 := kb5 2 _ rfl
  have kb5_3 := kb5 3 _ rfl
  clear kb5
  have Hg3 : Below _ _ wg3 := hg3.grows
  clear hg3
  simp only [List.drop_succ_cons, List.drop_zero]
  go_wp2_with fail
  have l_w_wg3_0 : w.heap.size < wg3.heap.size := by omega
  have l_w_wg3_1 : w.heap.size + 1 < wg3.heap.size := by omega
  refine region_grow 6 [0, 1, 2, 3, 4, 5] [(5, (fun b => Value.pointer (some ⟨b, 0, Option.none⟩)), (Obj.cells #[.int .u64 0, .int .u64 0, .int .u64 0, .int .u64 0] 47))] [3, 4] (by kernel_rfl) (by kernel_rfl) ?_
  with_reducible apply grow_v
  · rfl
  · rfl
  · rfl
  apply Exists.intro
  refine ⟨fun w' hC => ?_, ?_⟩
  · have hcell := below_cells hC
    clear hC
    go_simp
    rfl
  try simp only [Act.put, sA, sB, sC, sD]
  with_reducible apply grow_v
  · rfl
  · rfl
  · rfl
  apply Exists.intro
  refine ⟨fun w' hC => ?_, ?_⟩
  · have hcell := below_cells hC
    clear hC
    go_simp
    rfl
  try simp only [Act.put, sA, sB, sC, sD]
  with_reducible apply grow_v
  · rfl
  · rfl
  · rfl
  apply Exists.intro
  refine ⟨fun w' hC => ?_, ?_⟩
  · have hcell := below_cells hC
    clear hC
    go_simp
    rfl
  try simp only [Act.put, sA, sB, sC, sD]
  with_reducible apply grow_c
  · rfl
  · rfl
  · rfl
  · rfl
  apply Exists.intro
  apply Exists.intro
  apply Exists.intro
  refine ⟨fun w' hC => ?_, fun w' hC => ?_, ?_⟩
  · have hcell := below_cells hC
    clear hC
    go_simp
    exact ⟨rfl, rfl⟩
  · exact hn2.out _ (Below.trans (by repeat first | with_reducible exact Below.refl _ _ | with_reducible refine Below.drew ?_ | with_reducible refine below_dN ?_ | with_reducible refine Below.alloc ?_ (by first | omega | (simp; done) | (simp; omega)) _ | with_reducible refine Below.setCell ?_ (by first | omega | (simp; done) | (simp; omega)) _ | with_reducible refine Below.trans ?_ (Below.mono (by assumption) (by first | omega | (simp; done) | (simp; omega)))) (Below.mono hC (by simp only [World.size_setCell, size_drew]; omega)))
  try simp only [Act.put, sA, sB, sC, sD]
  with_reducible apply grow_c
  · rfl
  · rfl
  · rfl
  · rfl
  apply Exists.intro
  apply Exists.intro
  apply Exists.intro
  refine ⟨fun w' hC => ?_, fun w' hC => ?_, ?_⟩
  · have hcell := below_cells hC
    clear hC
    go_simp
    exact ⟨rfl, rfl⟩
  · exact hx2.out _
  try simp only [Act.put, sA, sB, sC, sD]
  with_reducible apply grow_m
  · rfl
  · rfl
  · rfl
  refine ⟨fun w' hC => ?_, fun bh5 => ?_⟩
  · clear hC
    go_simp
  try dsimp only
  try simp only [Act.put, sA, sB, sC, sD]
  refine grow_end ?_
  intro wg4 hg4
  obtain ⟨cg4, fg4, sg4⟩ := bfacts hg4.grows
  try simp only [World.size_alloc, World.size_setCell, size_drew, size_drewN] at sg4
  obtain ⟨kbh5, fbh5, lbh5⟩ := has_cells (hg4.has (bh5, Obj.cells #[.int .u64 0, .int .u64 0, .int .u64 0, .int .u64 0] 47) (by simp only [List.mem_cons, true_or, or_true]))
  have nbh5 := hg4.new (bh5, Obj.cells #[.int .u64 0, .int .u64 0, .int .u64 0, .int .u64 0] 47) (by simp only [List.mem_cons, true_or, or_true])
  try simp only [World.size_alloc, World.size_setCell, size_drew, size_drewN] at nbh5
  have kbh5_0 := kbh5 0 _ rfl
  have kbh5_1 := kbh5 1 _ rfl
  have kbh5_2 := kbh5 2 _ rfl
  have kbh5_3 := kbh5 3 _ rfl
  clear kbh5
  have Hg4 : Below _ _ wg4 := hg4.grows
  clear hg4
  simp only [List.drop_succ_cons, List.drop_zero]
  go_wp2_with fail
  have l_w_wg4_0 : w.heap.size < wg4.heap.size := by omega
  have l_w_wg4_1 : w.heap.size + 1 < wg4.heap.size := by omega
  have lb_wg4_b5 : b5 < wg4.heap.size := by omega
  refine held_begin 10 [w.heap.size, b5, bh5] (by kernel_rfl) rfl (by intro _ _ d _ _ h; cases d <;> exact h) ?_
  intro hQ hK
  with_reducible apply held_v (n := 9) 0
  · rfl
  · kernel_rfl
  · kernel_rfl
  · kernel_rfl
  · exact hQ
  · with_reducible exact hK
  · rfl
  apply Exists.intro
  refine ⟨fun w' hC => ?_, ?_⟩
  · have k0_ := hC (w.heap.size) (by simp only [List.mem_cons, true_or, or_true])
    have k1_ := hC (b5) (by simp only [List.mem_cons, true_or, or_true])
    have k2_ := hC (bh5) (by simp only [List.mem_cons, true_or, or_true])
    clear hC
    go_simp
    rfl
  try simp only [Act.put, sA, sB, sC, sD]
  with_reducible apply held_v (n := 8) 1
  · rfl
  · kernel_rfl
  · kernel_rfl
  · kernel_rfl
  · exact hQ
  · with_reducible exact hK
  · rfl
  apply Exists.intro
  refine ⟨fun w' hC => ?_, ?_⟩
  · have k0_ := hC (w.heap.size) (by simp only [List.mem_cons, true_or, or_true])
    have k1_ := hC (b5) (by simp only [List.mem_cons, true_or, or_true])
    have k2_ := hC (bh5) (by simp only [List.mem_cons, true_or, or_true])
    clear hC
    go_simp
    rfl
  try simp only [Act.put, sA, sB, sC, sD]
  with_reducible apply held_v (n := 7) 2
  · rfl
  · kernel_rfl
  · kernel_rfl
  · kernel_rfl
  · exact hQ
  · with_reducible exact hK
  · rfl
  apply Exists.intro
  refine ⟨fun w' hC => ?_, ?_⟩
  · have k0_ := hC (w.heap.size) (by simp only [List.mem_cons, true_or, or_true])
    have k1_ := hC (b5) (by simp only [List.mem_cons, true_or, or_true])
    have k2_ := hC (bh5) (by simp only [List.mem_cons, true_or, or_true])
    clear hC
    go_simp
    rfl
  try simp only [Act.put, sA, sB, sC, sD]
  with_reducible apply held_v (n := 6) 3
  · rfl
  · kernel_rfl
  · kernel_rfl
  · kernel_rfl
  · exact hQ
  · with_reducible exact hK
  · rfl
  apply Exists.intro
  refine ⟨fun w' hC => ?_, ?_⟩
  · have k0_ := hC (w.heap.size) (by simp only [List.mem_cons, true_or, or_true])
    have k1_ := hC (b5) (by simp only [List.mem_cons, true_or, or_true])
    have k2_ := hC (bh5) (by simp only [List.mem_cons, true_or, or_true])
    clear hC
    go_simp
    rfl
  try simp only [Act.put, sA, sB, sC, sD]
  with_reducible apply held_v (n := 5) 5
  · rfl
  · kernel_rfl
  · kernel_rfl
  · kernel_rfl
  · exact hQ
  · with_reducible exact hK
  · rfl
  apply Exists.intro
  refine ⟨fun w' hC => ?_, ?_⟩
  · have k0_ := hC (w.heap.size) (by simp only [List.mem_cons, true_or, or_true])
    have k1_ := hC (b5) (by simp only [List.mem_cons, true_or, or_true])
    have k2_ := hC (bh5) (by simp only [List.mem_cons, true_or, or_true])
    clear hC
    go_simp
    rfl
  try simp only [Act.put, sA, sB, sC, sD]
  with_reducible apply held_call (n := 4) 4
  · rfl
  · kernel_rfl
  · rfl
  · with_reducible exact hK
  apply Exists.intro
  apply Exists.intro
  apply Exists.intro
  refine ⟨?_, ?_, ?_, ?_⟩
  · go_simp
    exact ⟨rfl, rfl⟩
  · exact hq.out _
  · intro b hb
    simp only [List.mem_cons, List.not_mem_nil, or_false] at hb
    rcases hb with rfl | rfl | rfl <;> first | omega | (simp; done) | (simp; omega)
  intro v4 h4 hK
  obtain ⟨c4, f4, s4⟩ := bfacts h4
  try simp only [World.size_alloc, World.size_setCell, size_drew, size_drewN] at s4
  have l_w_v4_0 : w.heap.size < v4.heap.size := by omega
  have l_w_v4_1 : w.heap.size + 1 < v4.heap.size := by omega
  have lb_v4_b5 : b5 < v4.heap.size := by omega
  have lb_v4_bh5 : bh5 < v4.heap.size := by omega
  try simp only [Act.put, sA, sB, sC, sD]
  with_reducible apply held_call (n := 3) 6
  · rfl
  · kernel_rfl
  · rfl
  · with_reducible exact hK
  apply Exists.intro
  apply Exists.intro
  apply Exists.intro
  refine ⟨?_, ?_, ?_, ?_⟩
  · go_simp
    exact ⟨rfl, rfl⟩
  · exact hm.out _
  · intro b hb
    simp only [List.mem_cons, List.not_mem_nil, or_false] at hb
    rcases hb with rfl | rfl | rfl <;> first | omega | (simp; done) | (simp; omega)
  intro v6 h6 hK
  obtain ⟨c6, f6, s6⟩ := bfacts h6
  try simp only [World.size_alloc, World.size_setCell, size_drew, size_drewN] at s6
  have l_w_v6_0 : w.heap.size < v6.heap.size := by omega
  have l_w_v6_1 : w.heap.size + 1 < v6.heap.size := by omega
  have lb_v6_b5 : b5 < v6.heap.size := by omega
  have lb_v6_bh5 : bh5 < v6.heap.size := by omega
  try simp only [Act.put, sA, sB, sC, sD]
  with_reducible apply held_call (n := 2) 7
  · rfl
  · kernel_rfl
  · rfl
  · with_reducible exact hK
  apply Exists.intro
  apply Exists.intro
  apply Exists.intro
  refine ⟨?_, ?_, ?_, ?_⟩
  · go_simp
    exact ⟨rfl, rfl⟩
  · exact hr.out _
  · intro b hb
    simp only [List.mem_cons, List.not_mem_nil, or_false] at hb
    rcases hb with rfl | rfl | rfl <;> first | omega | (simp; done) | (simp; omega)
  intro v7 h7 hK
  obtain ⟨c7, f7, s7⟩ := bfacts h7
  try simp only [World.size_alloc, World.size_setCell, size_drew, size_drewN] at s7
  have l_w_v7_0 : w.heap.size < v7.heap.size := by omega
  have l_w_v7_1 : w.heap.size + 1 < v7.heap.size := by omega
  try simp only [Act.put, sA, sB, sC, sD]
  with_reducible apply held_t (n := 1) 8
  · rfl
  · kernel_rfl
  · rfl
  apply Exists.intro
  refine ⟨?_, ?_, ?_⟩
  · go_simp
    rfl
  · repeat first
      | with_reducible exact hK
      | with_reducible refine KeepL.drewN ?_ _
      | with_reducible refine KeepL.drew ?_
      | with_reducible (refine KeepL.set ?_ _ _ (by intro b hb; simp only [List.mem_cons, List.not_mem_nil, or_false] at hb; rcases hb with rfl | rfl | rfl <;> (first | omega | (simp; done) | (simp; omega))))
      | with_reducible (refine KeepL.alloc ?_ _ (by intro b hb; simp only [List.mem_cons, List.not_mem_nil, or_false] at hb; rcases hb with rfl | rfl | rfl <;> (first | omega | (simp; done) | (simp; omega))))
      | exact fun _ _ _ => rfl
  intro hK
  try simp only [Act.put, sA, sB, sC, sD]
  with_reducible apply held_v (n := 0) 9
  · rfl
  · kernel_rfl
  · kernel_rfl
  · kernel_rfl
  · exact hQ
  · with_reducible exact hK
  · rfl
  apply Exists.intro
  refine ⟨fun w' hC => ?_, ?_⟩
  · have k0_ := hC (w.heap.size) (by simp only [List.mem_cons, true_or, or_true])
    have k1_ := hC (b5) (by simp only [List.mem_cons, true_or, or_true])
    have k2_ := hC (bh5) (by simp only [List.mem_cons, true_or, or_true])
    clear hC
    go_simp
    rfl
  try simp only [Act.put, sA, sB, sC, sD]
  refine held_end (by kernel_rfl) ?_
  clear hK hQ
  go_wp2_with fail
  refine bodyPost_ret (v := .tuple #[vec r, .int .i64 0]) (by simp only [results, Tryz.results140]; go_simp) rfl ⟨rfl, ?_⟩
  repeat first
    | with_reducible exact Below.refl _ _
    | with_reducible refine Below.drew ?_
    | with_reducible refine below_dN ?_
    | with_reducible refine Below.alloc ?_ (by first | omega | (simp; done) | (simp; omega)) _
    | with_reducible refine Below.setCell ?_ (by first | omega | (simp; done) | (simp; omega)) _
    | with_reducible refine Below.trans ?_ (Below.mono (by assumption) (by first | omega | (simp; done) | (simp; omega)))
theorem refWide_c (s : Bool) (b off c : Nat) (hc : 64 ≤ c) (f : Nat → Nat) (w : World) (hB : BytesAt w b off 64 f) :
    Calls Tryz.prog 140 #[vec (pr s), .slice (some ⟨b, off, none⟩) 64 c] w fun e w' => e = .returned (.tuple #[vec (wideV s f), .int .i64 0]) ∧ Below w.heap.size w w' := by
  have hp := pr_lt s
  have hp1 := pr_gt1 s
  refine refWide_walk (pr s) (le f 32) (le (fun j => f (32 + j)) 32) (mulm (pr s) 1 (le f 32)) (mulm (pr s) 1 (le (fun j => f (32 + j)) 32)) (R4 % pr s) (RR s (mulm (pr s) 1 (le (fun j => f (32 + j)) 32))) _ b off c hc w
    (Lib.hid fun w' h => refNumber_at f b off 32 c (by omega) w' ((hB.below h).take 32 (by omega))) (Lib.hid fun w' h => refNumber_at _ b (off + 32) 32 (c - 32) (by omega) w' ((hB.below h).part 32 32 (by omega)))
    (Lib.hid (refMod_c _ _ hp hp1 (le32_lt hB.lt))) (Lib.hid (refMod_c _ _ hp hp1 (le32_lt (fun j => hB.lt _)))) (Lib.hid (refRadix_c _ hp hp1)) (Lib.hid (refMul_c _ _ _ hp (Nat.mod_lt _ (by omega)) (Nat.lt_trans (red_lt s _) hp)))
    (Lib.hid (refAdd_c _ _ _ hp (red_lt s _) (RR_lt s _)))
end Go.Proofs.YtdnkkbmpefhbjaaGreatDoor
namespace Go.Proofs.YtdnkkbmpefhbjaaGreatDoor
set_option linter.all false
open Go Go.RowKit
/-- A slice of n bytes, nil and empty ones let in. -/
structure SliceAt (w : World) (a : Option Addr) (n : Nat) (f : Nat → Nat) : Prop where
  lt : ∀ j, f j < 256
  at_ : n = 0 ∨ ∃ b off, a = some ⟨b, off, none⟩ ∧ BytesAt w b off n f
theorem SliceAt.below {w w' : World} {a : Option Addr} {n : Nat} {f : Nat → Nat} (h : SliceAt w a n f) (hb : Below w.heap.size w w') : SliceAt w' a n f :=
  ⟨h.lt, h.at_.imp id fun ⟨b, off, e, hB⟩ => ⟨b, off, e, hB.below hb⟩⟩
theorem SliceAt.pos {w : World} {a : Option Addr} {n : Nat} {f : Nat → Nat} (h : SliceAt w a n f) (hn : 0 < n) : ∃ b off, a = some ⟨b, off, none⟩ ∧ BytesAt w b off n f := h.at_.resolve_left (by omega)
theorem BytesAt.slice {w : World} {b off n : Nat} {f : Nat → Nat} (h : BytesAt w b off n f) : SliceAt w (some ⟨b, off, none⟩) n f := ⟨h.lt, .inr ⟨b, off, rfl, h⟩⟩
def fl (f : Nat → Nat) (n : Nat) : List Value := (List.range n).map fun j => Value.int .u8 ((f j : Nat) : Int)
end Go.Proofs.YtdnkkbmpefhbjaaGreatDoor
namespace Go.Proofs.YtdnkkbmpefhbjaaGreatDoor
set_option linter.all false
open Go Go.RowKit Go.Shelf
/-- The number of chunks of n bytes. -/
def cn (n : Int) : Nat := if 0 ≤ n ∧ n ≤ 65535 then ((n + 30) / 31).toNat else 0
theorem valid_c (n : Int) (w : World) : Calls Tryz.prog 122 #[.int .i64 n] w fun e w' => e = .returned (.bool (decide (0 ≤ n ∧ n ≤ 65535))) ∧ w = w' := by
  by_cases h0 : 0 ≤ n
  · by_cases h1 : n ≤ 65535
    · skip
      go_enter Tryz.func122, Tryz.ntmps122
      go_wp2
      go_ret
      exact ⟨by simp [h0, h1], rfl⟩
    · skip
      go_enter Tryz.func122, Tryz.ntmps122
      go_wp2
      go_ret
      exact ⟨by simp [h0]; omega, rfl⟩
  · have hd : decide (0 ≤ n ∧ n ≤ 65535) = false := by simp; omega
    go_enter Tryz.func122, Tryz.ntmps122
    go_wp2
    go_ret
    exact ⟨rfl, rfl⟩
theorem count_c (n : Int) (w : World) : Calls Tryz.prog 123 #[.int .i64 n] w fun e w' => e = .returned (.int .i64 (cn n : Int)) ∧ w = w' := by
  by_cases h : 0 ≤ n ∧ n ≤ 65535
  · have hd : decide (0 ≤ n ∧ n ≤ 65535) = true := by simpa using h
    obtain ⟨h0, h1⟩ := h
    go_enter Tryz.func123, Tryz.ntmps123
    go_wp2_with fail
    refine Calls.mono (valid_c n _) ?_
    rintro _ _ ⟨rfl, rfl⟩
    rw [hd]
    go_wp2_with fail
    go_ret
    refine ⟨?_, rfl⟩
    rw [show (cn n : Int) = (n + 30) / 31 by unfold cn; rw [if_pos ⟨h0, h1⟩]; omega]
    rw [show n + 31 - 1 = n + 30 by omega]
    rfl
  · have hd : decide (0 ≤ n ∧ n ≤ 65535) = false := by simpa using h
    have hc : cn n = 0 := by unfold cn; rw [if_neg h]
    go_enter Tryz.func123, Tryz.ntmps123
    go_wp2_with fail
    refine Calls.mono (valid_c n _) ?_
    rintro _ _ ⟨rfl, rfl⟩
    rw [hd]
    go_wp2_with fail
    go_ret
    exact ⟨by rw [hc]; rfl, rfl⟩
/-- The number of bytes of chunk i. -/
def cz (n i : Nat) : Nat := min 31 (n - 31 * i)
theorem cell?_block {w w' : World} {k : Nat} (h : w'.heap[k]? = w.heap[k]?) (j : Nat) : w'.cell? ⟨k, j, none⟩ = w.cell? ⟨k, j, none⟩ := by simp only [World.cell?, h]
theorem cn_lo {n k : Nat} (hn : n ≤ 65535) (hk : k < cn n) : 31 * k < n := by
  unfold cn at hk
  split at hk <;> omega
end Go.Proofs.YtdnkkbmpefhbjaaGreatDoor
namespace Go.Proofs.YtdnkkbmpefhbjaaGreatDoor
set_option linter.all false
open Go Go.RowKit
/-- Block b holds these cells and nothing else. -/
def Blk (W : World) (b : Nat) (cs : Array Value) (T : TypeId) : Prop := W.heap[b]? = some (.cells cs T (0, 0))
theorem Blk.lt {W : World} {b : Nat} {cs : Array Value} {T : TypeId} (h : Blk W b cs T) : b < W.heap.size := (Array.getElem?_eq_some_iff.1 h).1
theorem Blk.same {W W' : World} {b : Nat} {cs : Array Value} {T : TypeId} (h : Blk W b cs T) (e : W'.heap[b]? = W.heap[b]?) : Blk W' b cs T := Eq.trans e h
theorem Blk.below {W W' : World} {B b : Nat} {cs : Array Value} {T : TypeId} (h : Blk W b cs T) (hb : Below B W W') (hB : b < B) : Blk W' b cs T := h.same (hb.block b hB)
theorem Blk.kept {W W' : World} {b : Nat} {cs : Array Value} {T : TypeId} {row : Option Nat} (h : Blk W b cs T) (hg : W.grownBy W' row) (hr : ∀ r, row = some r → ∃ o : Obj, W.heap[r]? = some o ∧ o.isCells = false) : Blk W' b cs T := by
  refine h.same (hg.block b h.lt fun e => ?_)
  obtain ⟨o, ho, hc⟩ := hr b e.symm
  rw [show W.heap[b]? = some (.cells cs T (0, 0)) from h] at ho
  cases ho
  cases hc
theorem Blk.cell {W : World} {b j : Nat} {cs : Array Value} {T : TypeId} {v : Value} (h : Blk W b cs T) (hv : cs[j]? = some v) : W.cell? ⟨b, j, none⟩ = some v := by rw [cell_of_row W b j _ _ _ h]; exact hv
theorem Blk.new {W : World} {b : Nat} {cs : Array Value} {T : TypeId} (h : b = W.heap.size) : Blk (W.alloc (.cells cs T)) b cs T := by subst h; exact heap_alloc_new W _
theorem Blk.alloc {W : World} {b : Nat} {cs : Array Value} {T : TypeId} (h : Blk W b cs T) (o : Obj) : Blk (W.alloc o) b cs T := h.same (Below.heap_alloc W o b h.lt)
theorem Blk.set {W : World} {b : Nat} {v u : Value} {T : TypeId} (h : Blk W b #[v] T) : Blk (W.setCell ⟨b, 0, none⟩ u) b #[u] T := by
  unfold Blk
  rw [heap_setCell_same W b 0 _ T _ h]
  rfl
theorem Blk.other {W : World} {b p j : Nat} {cs : Array Value} {T : TypeId} {u : Value} (h : Blk W b cs T) (hp : b ≠ p) : Blk (W.setCell ⟨p, j, none⟩ u) b cs T := h.same (Below.heap_setCell _ _ _ _ hp)
theorem elemByte : Tryz.prog.underlying 42 = some (.slice (Tryz.prog.elem 42)) := by kernel_rfl
theorem sizeElem (w : World) : (sizeOf (Tryz.prog.elem 42)).run Tryz.prog w = .ok 1 w := by kernel_rfl
/-- Of the old blocks only p and the row r may have been written. -/
structure Wrote (w w' : World) (p : Nat) (r : Option Nat) : Prop where
  os : w'.os = w.os
  tape : w'.tape = w.tape
  output : w'.output = w.output
  size : w.heap.size ≤ w'.heap.size
  block : ∀ k, k < w.heap.size → k ≠ p → some k ≠ r → w'.heap[k]? = w.heap[k]?
theorem Wrote.refl (w : World) (p : Nat) (r : Option Nat) : Wrote w w p r := ⟨rfl, rfl, rfl, Nat.le_refl _, fun _ _ _ _ => rfl⟩
theorem Wrote.step {w a b : World} {p : Nat} {r : Option Nat} (h : Wrote w a p r) (hb : Below a.heap.size a b) : Wrote w b p r :=
  ⟨hb.os.trans h.os, hb.tape.trans h.tape, hb.output.trans h.output, Nat.le_trans h.size hb.size, fun k hk h1 h2 => (hb.block k (Nat.lt_of_lt_of_le hk h.size)).trans (h.block k hk h1 h2)⟩
theorem Wrote.set {w a : World} {p : Nat} {r : Option Nat} (h : Wrote w a p r) (j : Nat) (v : Value) : Wrote w (a.setCell ⟨p, j, none⟩ v) p r :=
  ⟨h.os, h.tape, h.output, by simpa [World.setCell] using h.size, fun k hk h1 h2 => (Below.heap_setCell _ _ _ _ h1).trans (h.block k hk h1 h2)⟩
theorem Wrote.grown {w a b : World} {p : Nat} {r : Option Nat} (h : Wrote w a p r) (hg : a.grownBy b r) : Wrote w b p r :=
  ⟨hg.os.trans h.os, hg.tape.trans h.tape, hg.output.trans h.output, Nat.le_trans h.size hg.size, fun k hk h1 h2 => (hg.block k (Nat.lt_of_lt_of_le hk h.size) h2).trans (h.block k hk h1 h2)⟩
theorem Wrote.below {w w' : World} {p C : Nat} {r : Option Nat} (h : Wrote w w' p r) (hC : C ≤ p) (hw : C ≤ w.heap.size) (hr : ∀ k, r = some k → C ≤ k) : Below C w w' :=
  ⟨h.os, h.tape, h.output, h.size, fun k hk => h.block k (by omega) (by omega) (fun e => by have := hr k e.symm; omega)⟩
theorem row_below {w w' : World} {C : Nat} {e : TypeId} {size n : Nat} {v : Value} {xs : List Value} (h : w.ownsRow C e size v n xs) (hb : Below w.heap.size w w') : w'.ownsRow C e size v n xs := by
  refine h.kept (row := none) ⟨hb.os, hb.tape, hb.output, hb.size, fun k hk _ => hb.block k hk⟩ ?_
  cases hv : v.ownBlock with
  | none => exact .inl rfl
  | some k => exact .inr (fun h => by cases h)
theorem row_slice2 {w : World} {C : Nat} {e : TypeId} {size n : Nat} {v : Value} {xs : List Value} (h : w.ownsRow C e size v n xs) : ∃ a c, v = .slice a n c := by
  rcases h.2 with ⟨rfl, rfl⟩ | ⟨g, cap, cur, rfl, _⟩
  · exact ⟨_, _, rfl⟩
  · exact ⟨_, _, rfl⟩
/-- The cells of a vector; of a list of vectors. -/
def vc (x : Nat) : List Value := [.int .u64 ((dg 0 x : Nat) : Int), .int .u64 ((dg 1 x : Nat) : Int), .int .u64 ((dg 2 x : Nat) : Int), .int .u64 ((dg 3 x : Nat) : Int)]
def vcs (l : List Nat) : List Value := l.flatMap vc
theorem vcs_snoc (l : List Nat) (x : Nat) : vcs (l ++ [x]) = vcs l ++ vc x := by simp [vcs]
theorem vc_one (x : Nat) : ∀ v ∈ vc x, v.oneCell' = true := fun v hv => by
  simp only [vc, List.mem_cons, List.not_mem_nil, or_false] at hv
  rcases hv with rfl | rfl | rfl | rfl <;> rfl
/-- A new block of one vector as a source. -/
theorem vec_src (W : World) (x : Nat) (T : TypeId) : ∀ j u, (vc x)[j]? = some u → (W.alloc (.cells #[.int .u64 ((dg 0 x : Nat) : Int), .int .u64 ((dg 1 x : Nat) : Int), .int .u64 ((dg 2 x : Nat) : Int), .int .u64 ((dg 3 x : Nat) : Int)] T)).cell? ((⟨W.heap.size, 0, none⟩ : Addr).add j) = some u := fun j u hj => by
  have e : (⟨W.heap.size, 0, none⟩ : Addr).add j = ⟨W.heap.size, 0 + j, none⟩ := by unfold Addr.add; split <;> simp_all
  rw [e, Nat.zero_add, cell_of_row _ W.heap.size j _ _ _ (heap_alloc_new W _)]
  rw [← hj]
  exact (Array.getElem?_toList).symm
end Go.Proofs.YtdnkkbmpefhbjaaGreatDoor
namespace Go.Proofs.YtdnkkbmpefhbjaaGreatDoor
set_option linter.all false
open Go Go.RowKit Go.Shelf
attribute [local go_sem] Oper.semAt_some
/-- The reference counts the same. -/
theorem refCount_c (n : Int) (hn : -9223372036854775808 ≤ n) (w : World) : Calls Tryz.prog 103 #[.int .i64 n] w fun e w' => e = .returned (.int .i64 (cn n : Int)) ∧ w = w' := by
  by_cases h1 : 65535 < n
  · have hc : cn n = 0 := by unfold cn; rw [if_neg (by omega)]
    go_enter Tryz.func103, Tryz.ntmps103
    go_wp2_with fail
    go_ret
    exact ⟨by rw [hc]; rfl, rfl⟩
  · skip
    go_enter Tryz.func103, Tryz.ntmps103
    go_wp2_with fail
    go_loop [0, 3] (fun x k => ∃ j : Nat, k = .int .i64 (j : Int) ∧ x = .int .i64 (n - 31 * (j : Int)) ∧ (j : Int) ≤ 2115 ∧ (0 < j → 0 < n - 31 * ((j : Int) - 1))) (fun x _ => (intOf x).toNat)
    case atStart => exact ⟨0, rfl, by simp, by omega, by omega⟩
    case round =>
      obtain ⟨j, rfl, rfl, hj, hp⟩ := hrel
      by_cases hlt : 0 < n - 31 * (j : Int)
      · go_wp2_with fail
        go_round
        case rel => exact ⟨j + 1, by go_num, by rw [show n - 31 * (j : Int) - 31 = n - 31 * ((j + 1 : Nat) : Int) by omega], by omega, fun _ => by omega⟩
        case measure => simp only [intOf]; omega
      · have hc : cn n = j := by unfold cn; by_cases h0 : 0 ≤ n
                                 · rw [if_pos ⟨h0, by omega⟩]; by_cases hz : j = 0
                                   · subst hz; omega
                                   · have := hp (by omega); omega
                                 · rw [if_neg (fun h => h0 h.1)]; by_cases hz : j = 0
                                   · omega
                                   · have := hp (by omega); omega
        go_wp2_with fail
        go_ret
        exact ⟨rfl, rfl⟩
end Go.Proofs.YtdnkkbmpefhbjaaGreatDoor
namespace Go.Proofs.YtdnkkbmpefhbjaaGreatDoor
set_option linter.all false
open Go Go.RowKit Go.Shelf
attribute [local go_sem] Oper.semAt_some
/-- A slice of n vectors. -/
structure VecsAt (w : World) (a : Option Addr) (n : Nat) (X : Nat → Nat) : Prop where
  at_ : n = 0 ∨ ∃ b off, a = some ⟨b, off, none⟩ ∧ b < w.heap.size ∧ ∀ i, i < n → ∀ j, j < 4 → w.cell? ⟨b, off + i * 4 + j, none⟩ = some (.int .u64 ((dg j (X i) : Nat) : Int))
theorem VecsAt.below {w w' : World} {a : Option Addr} {n : Nat} {X : Nat → Nat} (h : VecsAt w a n X) (hb : Below w.heap.size w w') : VecsAt w' a n X :=
  ⟨h.at_.imp id fun ⟨b, off, e, hl, hc⟩ => ⟨b, off, e, Nat.lt_of_lt_of_le hl hb.size, fun i hi j hj => (hb.cell (p := ⟨b, off + i * 4 + j, none⟩) hl).trans (hc i hi j hj)⟩⟩
/-- The chunks of pre are all well padded; their bytes. -/
def okC (N : Nat) (v : Nat → Nat) (l : List Nat) : Prop := ∀ i ∈ l, Zf (v i) (cz N i)
def byC (N : Nat) (v : Nat → Nat) (l : List Nat) : List Value := l.flatMap fun i => fl (byt (v i)) (cz N i)
/-- What Join hands back. -/
def JO (base N : Nat) (v : Nat → Nat) (r : Value) (w : World) : Prop :=
  (okC N v (List.range (cn N)) ∧ ∃ out k, r = .tuple #[out, .int .i64 0] ∧ w.ownsRow base 5 1 out k (byC N v (List.range (cn N)))) ∨ (¬ okC N v (List.range (cn N)) ∧ r = .tuple #[.slice none 0 0, .int .i64 10])
end Go.Proofs.YtdnkkbmpefhbjaaGreatDoor
namespace Go.Proofs.YtdnkkbmpefhbjaaGreatDoor
set_option linter.all false
open Go Go.RowKit Go.Shelf
/-- The value of chunk i. -/
def cv (n : Nat) (f : Nat → Nat) (i : Nat) : Nat := le (fun j => f (31 * i + j)) (cz n i)
theorem pr_big (s : Bool) : 256 ^ 31 < pr s := by cases s <;> decide
theorem cz_le (n i : Nat) : cz n i ≤ 31 := by unfold cz; omega
theorem cn_hi {n k : Nat} (hn : n ≤ 65535) (hk : cn n ≤ k) : n ≤ 31 * k := by
  unfold cn at hk
  split at hk <;> omega
end Go.Proofs.YtdnkkbmpefhbjaaGreatDoor
namespace Go.Proofs.YtdnkkbmpefhbjaaGreatDoor
set_option linter.all false
open Go Go.RowKit Go.Shelf
/-- x[l:h], a part of some bytes. -/
theorem cut2 {a : Option Addr} {n c o m h : Nat} {f : Nat → Nat} {w : World} (hS : SliceAt w a n f) (hc : n ≤ c) (he : h = o + m) (hh : h ≤ n) (hm : 0 < m) :
    ∃ a', (∀ w', (Instr.sliceAt 42 (.slice a n c) (some (.int .i64 (o : Int))) (some (.int .i64 (h : Int))) none).run Tryz.prog w' = .ok (.slice a' m (c - o)) w') ∧ SliceAt w a' m (fun j => f (o + j)) := by
  obtain ⟨b, off, rfl, hB⟩ := hS.pos (by omega)
  refine ⟨some ⟨b, off + o, none⟩, fun w' => ?_, ?_⟩
  · rw [run_sliceAt_slice _ _ _ _ _ _ elemByte, run_slice_lh _ _ _ _ _ elemByte .i64 .i64 (o : Int) (h : Int) (by omega) (by omega) (by omega), sizeElem]
    simp only [Result.andThen_ok, sliced, Int.toNat_natCast]
    rw [if_neg (by omega)]
    have e : (⟨b, off, none⟩ : Addr).add (o * 1) = ⟨b, off + o, none⟩ := by rw [Nat.mul_one]; unfold Addr.add; split <;> simp_all
    rw [Option.map_some, e, show h - o = m by omega]
  · exact (hB.part o m (by omega)).slice
theorem refNumber_s (w : World) (a : Option Addr) (n c : Nat) (f : Nat → Nat) (hn : n ≤ 32) (hp : 0 < n) (h : SliceAt w a n f) :
    Calls Tryz.prog 138 #[.slice a n c] w fun e w' => e = .returned (vec (le f n)) ∧ Below w.heap.size w w' := by
  obtain ⟨b, off, rfl, hB⟩ := h.pos hp
  exact refNumber_at f b off n c hn w hB
theorem infoVec : (Tryz.prog.info? 47).map (fun i => (i.zero, i.size, i.bytes)) = some (some (.agg #[.int .u64 0, .int .u64 0, .int .u64 0, .int .u64 0]), 4, 32) := by kernel_rfl
set_option maxRecDepth 100000 in
set_option maxHeartbeats 8000000 in
theorem refSplit_ok (a : Option Addr) (n c : Nat) (f : Nat → Nat) (hn : n ≤ 65535) (hc : n ≤ c) (w : World) (HS : Hid (SliceAt w a n f)) :
    Calls Tryz.prog 109 #[.slice a n c] w fun e w' => (∃ v, e = .returned (.tuple #[v, .int .i64 0]) ∧ w'.ownsRow w.heap.size 47 4 v (cn n) (vcs ((List.range (cn n)).map (cv n f)))) ∧ Below w.heap.size w w' := by
  have hn2 : (n : Int) ≤ 65535 := by omega
  obtain ⟨i0, hi, hz0, hz1, hz2⟩ := info_parts infoVec
  have Hi := Lib.hid hi
  have Hz0 := Lib.hid hz0
  have Hz1 := Lib.hid hz1
  have Hz2 := Lib.hid hz2
  clear hi hz0 hz1 hz2
  go_enter Tryz.func109, Tryz.ntmps109
  go_wp2_with fail
  go_loopw [4, 5] (fun v i wr => ∃ k : Nat, k ≤ cn n ∧ i = .int .i64 ((31 * k : Nat) : Int) ∧ wr.ownsRow w.heap.size 47 4 v k (vcs ((List.range k).map (cv n f))) ∧ Below w.heap.size w wr) (fun _ i _ => 70000 - (intOf i).toNat)
  case atStart => exact ⟨0, Nat.zero_le _, rfl, World.ownsRow_nil _ _ _ _, Below.refl _ _⟩
  case round =>
    obtain ⟨k, hk, rfl, hown, hbel⟩ := hrel
    have hcn : cn (n : Int) ≤ 2115 := by unfold cn; split <;> omega
    have Hown := Lib.hid hown
    have Hbel := Lib.hid hbel
    clear hown
    by_cases hlt : k < cn n
    · have h31 := cn_lo hn hlt
      obtain ⟨o, eo⟩ : ∃ o, o = 31 * k := ⟨_, rfl⟩
      obtain ⟨m, em⟩ : ∃ m, m = cz n k := ⟨_, rfl⟩
      obtain ⟨h, eh⟩ : ∃ h, h = o + m := ⟨_, rfl⟩
      have hm31 : m ≤ 31 := by rw [em]; unfold cz; omega
      have hm0 : 0 < m := by rw [em]; unfold cz; omega
      have hhn : h ≤ n := by rw [eh, eo, em]; unfold cz; omega
      have hon : (o : Int) < (n : Int) := by omega
      have hmin : min ((o : Int) + 31) (n : Int) = (h : Int) := by rw [eh, em]; unfold cz; omega
      have ho6 : (o : Int) ≤ 65535 := by omega
      obtain ⟨a', hcut, hSa⟩ := cut2 (c := c) (HS.out.below hbel) hc eh hhn hm0
      have HSa := Lib.hid hSa
      have HI := Lib.hid (And.intro eo (And.intro em eh))
      rw [← eo]
      clear eo em eh hSa hbel h31
      go_wp2_with fail
      refine Calls.mono (refNumber_s _ a' m (c - o) _ (by omega) hm0 HSa.out) ?_
      rintro _ w1 ⟨rfl, h1⟩
      obtain ⟨c1, f1, s1⟩ := bfacts h1
      try simp only [World.size_alloc, World.size_setCell, size_drew, size_drewN] at s1
      obtain ⟨X, eX⟩ : ∃ X, X = le (fun j => f (o + j)) m := ⟨_, rfl⟩
      rw [← eX]
      have EX := Lib.hid eX
      clear eX
      go_wp2_with (at_builtin; refine wpList_append_own _ rfl (.tmp 15) (.tmp 25) 72 rfl w.heap.size 47 i0 _ 4 32 Tryz.underlying72 Hi.out Hz0.out Hz1.out Hz2.out rfl (by decide) _ _ _ rfl ((row_below Hown.out h1).alloc _) ⟨w1.heap.size, 0, none⟩ 1 1 (vc X) rfl rfl (vec_src _ _ _) (vc_one X) (by unfold maxLen; omega) (by omega) (by have := Hbel.out.size; simp only [World.size_alloc]; omega) ?_; intro r' w2 hown' hgrow' _)
      have R1 := Lib.hid hown'
      have R2 := Lib.hid (Hbel.out.trans (((Below.mono h1 Hbel.out.size).alloc (by have := Hbel.out.size; omega) _).grown hgrow' (by have := Hbel.out.size; simp only [World.size_alloc]; omega) (fun j hj => (Hown.out.lt j hj).1)))
      clear hown' hgrow'
      go_wp2_with fail
      go_roundw
      case rel =>
        refine ⟨k + 1, by omega, ?_, ?_, R2.out⟩
        · rw [show ((31 * (k + 1) : Nat) : Int) = (o : Int) + 31 by have := HI.out.1; omega]
        · have e : X = cv n f k := by rw [EX.out]; unfold cv; rw [HI.out.2.1, HI.out.1]
          rw [List.range_succ, List.map_append, List.map_cons, List.map_nil, vcs_snoc, ← e]
          exact R1.out
      case measure => simp [intOf]; omega
    · obtain rfl : k = cn n := by omega
      have hge : (n : Int) ≤ ((31 * cn n : Nat) : Int) := by have := cn_hi hn (Nat.le_refl (cn (n : Int))); omega
      go_wp2_with fail
      exact bodyPost_ret (v := .tuple #[u4, .int .i64 0]) (by simp only [results, Tryz.results109]; go_simp) rfl ⟨⟨_, rfl, Hown.out⟩, Hbel.out⟩
end Go.Proofs.YtdnkkbmpefhbjaaGreatDoor
namespace Go.Proofs.YtdnkkbmpefhbjaaGreatDoor.Alg
set_option linter.all false
open Lean.Grind
section
variable {R : Type} [CommRing R]
/-- The value. -/
def ev : List R → R → R
  | [], _ => 0
  | c :: l, x => c + x * ev l x
/-- The quotient by X - a. -/
def quo (a : R) : List R → List R
  | [] => []
  | [_] => []
  | _ :: c :: l => ev (c :: l) a :: quo a (c :: l)
theorem quo_len (a : R) : ∀ f : List R, (quo a f).length = f.length - 1
  | [] => rfl
  | [_] => rfl
  | _ :: c :: l => by simp [quo, quo_len a (c :: l)]
theorem quo_ev (a x : R) : ∀ f : List R, ev f x = (x - a) * ev (quo a f) x + ev f a
  | [] => by simp only [quo, ev]; grind
  | [c] => by simp only [quo, ev]; grind
  | c :: d :: l => by
    have ih := quo_ev a x (d :: l)
    simp only [quo]
    rw [ev, ev.eq_2 a c, ev.eq_2 x (ev (d :: l) a), ih]
    grind
def Zs (f : List R) : Prop := ∀ c ∈ f, c = 0
theorem quo_zero (a : R) : ∀ f : List R, Zs (quo a f) → ev f a = 0 → Zs f
  | [], _, _ => fun c h => by cases h
  | [c], _, h => fun d hd => by
    rcases List.mem_singleton.1 hd with rfl
    simp only [ev] at h
    grind
  | c :: d :: l, hz, h => fun e he => by
    have h1 : ev (d :: l) a = 0 := hz _ (.head _)
    have h2 : Zs (quo a (d :: l)) := fun x hx => hz x (.tail _ hx)
    have h3 := quo_zero a (d :: l) h2 h1
    rw [ev, h1] at h
    rcases List.mem_cons.1 he with rfl | he
    · grind
    · exact h3 e he
/-- It has an inverse. -/
def Un (d : R) : Prop := ∃ e, e * d = 1
theorem Un.mul {a b : R} (h : Un a) (k : Un b) : Un (a * b) := by
  obtain ⟨x, hx⟩ := h
  obtain ⟨y, hy⟩ := k
  exact ⟨x * y, by grind⟩
theorem Un.one : Un (1 : R) := ⟨1, by grind⟩
theorem Un.neg {a : R} (h : Un a) : Un (0 - a) := by obtain ⟨x, hx⟩ := h; exact ⟨0 - x, by grind⟩
theorem Un.zero {a b : R} (h : Un a) (k : a * b = 0) : b = 0 := by obtain ⟨x, hx⟩ := h; grind
/-- Points that lie apart. -/
def Ap (xs : List R) : Prop := xs.Pairwise fun a b => Un (b - a)
/-- What vanishes at as many points as it has coefficients is zero. -/
theorem all_zero : ∀ (xs : List R) (f : List R), Ap xs → f.length ≤ xs.length → (∀ x ∈ xs, ev f x = 0) → Zs f
  | [], f, _, hl, _ => by
    rw [List.eq_nil_of_length_eq_zero (Nat.le_zero.1 hl)]
    exact fun c h => by cases h
  | a :: xs, f, ha, hl, hv => by
    have hp := List.pairwise_cons.1 ha
    refine quo_zero a f (all_zero xs (quo a f) hp.2 (by rw [quo_len]; simp at hl; omega) fun x hx => ?_) (hv a (.head _))
    have h := quo_ev a x f
    rw [hv x (.tail _ hx), hv a (.head _)] at h
    exact (hp.1 x hx).zero (b := ev (quo a f) x) (by grind)
/-- The sum, by the longer one. -/
def addP : List R → List R → List R
  | [], m => m
  | l, [] => l
  | x :: l, y :: m => (x + y) :: addP l m
theorem addP_ev (x : R) : ∀ l m : List R, ev (addP l m) x = ev l x + ev m x
  | [], m => by simp only [addP, ev]; grind
  | c :: l, [] => by simp only [addP, ev]; grind
  | c :: l, d :: m => by simp only [addP, ev, addP_ev x l m]; grind
theorem addP_len : ∀ l m : List R, (addP l m).length = max l.length m.length
  | [], m => by simp [addP]
  | c :: l, [] => by simp [addP]
  | c :: l, d :: m => by simp [addP, addP_len l m]
/-- A multiple. -/
def scl (a : R) (l : List R) : List R := l.map (a * ·)
theorem scl_ev (a x : R) : ∀ l : List R, ev (scl a l) x = a * ev l x
  | [] => by simp only [scl, List.map_nil, ev]; grind
  | c :: l => by
    have ih := scl_ev a x l
    simp only [scl, List.map_cons, ev] at ih ⊢
    rw [ih]; grind
theorem scl_len (a : R) (l : List R) : (scl a l).length = l.length := by simp [scl]
/-- Two lists of the same length that agree at enough points are the same. -/
theorem same_of (xs f g : List R) (ha : Ap xs) (hf : f.length = g.length) (hl : f.length ≤ xs.length) (hv : ∀ x ∈ xs, ev f x = ev g x) : f = g := by
  have hz := all_zero xs (addP f (scl (0 - 1) g)) ha (by rw [addP_len, scl_len]; omega) fun x hx => by rw [addP_ev, scl_ev, hv x hx]; grind
  have key : ∀ f g : List R, f.length = g.length → Zs (addP f (scl (0 - 1) g)) → f = g := by
    intro f
    induction f with
    | nil => intro g h _; exact (List.eq_nil_of_length_eq_zero h.symm).symm
    | cons c f ih =>
      intro g h hz
      cases g with
      | nil => simp at h
      | cons d g =>
        simp only [scl, List.map_cons, addP] at hz
        have h1 := hz _ (.head _)
        rw [ih g (by simpa using h) (fun x hx => hz x (.tail _ hx)), show c = d by grind]
  exact key f g hf hz
/-- Powers. -/
def pw (x : R) : Nat → R
  | 0 => 1
  | n + 1 => pw x n * x
theorem pw_add (x : R) (m : Nat) : ∀ n, pw x (m + n) = pw x m * pw x n
  | 0 => by simp only [Nat.add_zero, pw]; grind
  | n + 1 => by rw [← Nat.add_assoc]; simp only [pw, pw_add x m n]; grind
theorem pw_one (x : R) : pw x 1 = x := by simp only [pw]; grind
theorem pw_prod (x y : R) : ∀ n, pw (x * y) n = pw x n * pw y n
  | 0 => by simp only [pw]; grind
  | n + 1 => by simp only [pw, pw_prod x y n]; grind
theorem pw_pw (x : R) (m : Nat) : ∀ n, pw (pw x m) n = pw x (m * n)
  | 0 => by simp only [Nat.mul_zero, pw]
  | n + 1 => by simp only [pw, pw_pw x m n, Nat.mul_succ, pw_add]
theorem pw_of_one : ∀ n, pw (1 : R) n = 1
  | 0 => rfl
  | n + 1 => by simp only [pw, pw_of_one n]; grind
/-- Evaluation by powers. -/
theorem ev_app (x : R) (l : List R) (c : R) : ev (l ++ [c]) x = ev l x + c * pw x l.length := by
  induction l with
  | nil => simp only [List.nil_append, ev, List.length_nil, pw]; grind
  | cons d l ih =>
    simp only [List.cons_append, ev, ih, List.length_cons, pw]
    grind
end
end Go.Proofs.YtdnkkbmpefhbjaaGreatDoor.Alg
namespace Go.Proofs.YtdnkkbmpefhbjaaGreatDoor
set_option linter.all false
open Go Go.RowKit Alg
instance prNZ (s : Bool) : NeZero (pr s) := ⟨Nat.pos_iff_ne_zero.1 (pr_pos s)⟩
/-- The integers modulo p. -/
abbrev Zp (s : Bool) := Fin (pr s)
/-- The Montgomery form, as a number. -/
def mq {s : Bool} (z : Zp s) : Nat := RR s z.val
/-- The element of a number. -/
def zn (s : Bool) (n : Nat) : Zp s := Fin.ofNat (pr s) n
section
variable {s : Bool}
theorem mq_lt (z : Zp s) : mq z < pr s := RR_lt s _
theorem mq_lt4 (z : Zp s) : mq z < R4 := RR_lt4 s _
theorem val_lt4 (z : Zp s) : z.val < R4 := Nat.lt_trans z.isLt (pr_lt s)
theorem mq_zero : mq (0 : Zp s) = 0 := by
  show RR s (0 : Fin (pr s)).val = 0
  rw [Fin.val_zero]; exact RR_zero s
theorem one_val : (1 : Zp s).val = 1 := by
  show (Fin.ofNat (pr s) 1).val = 1
  exact Nat.mod_eq_of_lt (pr_gt1 s)
theorem mq_one : mq (1 : Zp s) = rone s := by
  show RR s (1 : Zp s).val = rone s
  rw [one_val]; exact RR_one s
theorem mul_val (x y : Zp s) : (x * y).val = mulm (pr s) x.val y.val := by rw [Fin.val_mul]; unfold mulm; rw [Nat.mul_comm]
theorem add_val (x y : Zp s) : (x + y).val = addm (pr s) x.val y.val := by rw [Fin.val_add]; rfl
theorem sub_val (x y : Zp s) : (x - y).val = subm (pr s) x.val y.val := by
  rw [Fin.sub_def]
  unfold subm
  simp only
  congr 1
  have := y.isLt
  have := x.isLt
  omega
theorem neg_val (x : Zp s) : (0 - x).val = subm (pr s) 0 x.val := by rw [sub_val, Fin.val_zero]
theorem zn_val (n : Nat) : (zn s n).val = mulm (pr s) 1 n := by
  show n % pr s = _
  unfold mulm; rw [Nat.mul_one]
theorem zn_of (z : Zp s) : zn s z.val = z := Fin.ext (Nat.mod_eq_of_lt z.isLt)
/-- Every number less than p is a Montgomery form. -/
def mz (s : Bool) (x : Nat) : Zp s := zn s (mm s x 1)
theorem mz_mq {x : Nat} (hx : x < pr s) : mq (mz s x) = x := by
  unfold mq mz
  rw [zn_val, RR_eq]
  unfold mulm mm
  rw [Nat.mul_one, Nat.mul_one, Nat.mod_mod, Nat.mod_mul_mod, Nat.mul_assoc, Nat.mul_comm (rinv s) R4, inv_mul, Nat.mod_eq_of_lt hx]
theorem mz_of (z : Zp s) : mz s (mq z) = z := by
  unfold mz mq
  rw [from_RR s z.isLt, zn_of]
theorem mq_inj {x y : Zp s} (h : mq x = mq y) : x = y := by rw [← mz_of x, h, mz_of]
theorem mq_eq_zero {x : Zp s} : mq x = 0 ↔ x = 0 := ⟨fun h => mq_inj (h.trans mq_zero.symm), fun h => by rw [h, mq_zero]⟩
variable (w : World)
theorem zmul_c {a b : Nat} {x y : Zp s} (ha : a = mq x) (hb : b = mq y) : Calls Tryz.prog 120 #[fieldV s, vec a, vec b] w fun e w' => e = .returned (vec (mq (x * y))) ∧ Below w.heap.size w w' := by
  subst ha hb
  unfold mq
  rw [mul_val]
  exact mulR_c s x.val y.val w
theorem zadd_c {a b : Nat} {x y : Zp s} (ha : a = mq x) (hb : b = mq y) : Calls Tryz.prog 121 #[fieldV s, vec a, vec b] w fun e w' => e = .returned (vec (mq (x + y))) ∧ Below w.heap.size w w' := by
  subst ha hb
  unfold mq
  rw [add_val]
  exact addR_c s x.val y.val w
theorem zsub_c {a b : Nat} {x y : Zp s} (ha : a = mq x) (hb : b = mq y) : Calls Tryz.prog 143 #[fieldV s, vec a, vec b] w fun e w' => e = .returned (vec (mq (x - y))) ∧ Below w.heap.size w w' := by
  subst ha hb
  unfold mq
  rw [sub_val]
  exact subR_c s x.val y.val x.isLt y.isLt w
theorem zneg_c {a : Nat} {x : Zp s} (ha : a = mq x) : Calls Tryz.prog 146 #[fieldV s, vec a] w fun e w' => e = .returned (vec (mq (0 - x))) ∧ Below w.heap.size w w' := by
  subst ha
  unfold mq
  rw [neg_val]
  exact negR_c s x.val x.isLt w
theorem zsq_c {a : Nat} {x : Zp s} (ha : a = mq x) : Calls Tryz.prog 182 #[fieldV s, vec a] w fun e w' => e = .returned (vec (mq (x * x))) ∧ Below w.heap.size w w' := by
  subst ha
  unfold mq
  rw [mul_val]
  exact squareR_c s x.val w
theorem zto_c (n : Nat) (hn : n < R4) : Calls Tryz.prog 88 #[fieldV s, vec n] w fun e w' => e = .returned (vec (mq (zn s n))) ∧ Below w.heap.size w w' := by
  unfold mq
  rw [zn_val]
  exact toR_c s n hn w
theorem zsel {b : Bool} {x y : Nat} {m : Nat} (hm : ((m : Nat) : Int) = (if b then 18446744073709551615 else 0 : Int)) : sel m x y = if b then x else y := by
  unfold sel
  cases b
  · have : m = 0 := by simpa using hm
    subst this; rfl
  · have : m = 18446744073709551615 := by simp at hm; omega
    subst this; rfl
end
end Go.Proofs.YtdnkkbmpefhbjaaGreatDoor
namespace Go.Proofs.YtdnkkbmpefhbjaaGreatDoor
set_option linter.all false
open Go Go.RowKit
/-- The value of slot t, as a list tells it: the first entry counts. -/
def gq : List (Nat × Value) → Nat → Option Value
  | [], _ => none
  | (k, v) :: r, t => match Nat.beq k t with | true => some v | false => gq r t
def evq (G : List (Nat × Value)) : Operand → Option Value
  | .tmp t => gq G t
  | .const v => some v
  | .global g => some (.pointer (some ⟨g, 0, none⟩))
  | .func f => some (.func (.func f) #[] #[])
def evqs (G : List (Nat × Value)) : List Operand → Option (List Value)
  | [] => some []
  | x :: l => match evq G x with | some v => (match evqs G l with | some vs => some (v :: vs) | none => none) | none => none
/-- A frame of N slots of which the list tells the truth; Ds: the blocks for the deferred calls of loops over functions that it has gone through. -/
structure Kn (Ds : List Nat) (N : Nat) (G : List (Nat × Value)) (a : Act) : Prop where
  df : a.defers = Ds.map fun D => { target := .collected D, args := #[] }
  sz : a.tmps.size = N
  at_ : ∀ t v, gq G t = some v → a.tmps[t]? = some v
section
variable {N : Nat} {G G' : List (Nat × Value)} {a : Act} {Ds : List Nat}
theorem Kn.eval (h : Kn Ds N G a) {x : Operand} {v : Value} (hx : evq G x = some v) : a.eval x = v := by
  cases x with
  | tmp t => simp only [evq] at hx; simp [Act.eval, Array.getD_eq_getD_getElem?, h.at_ t v hx]
  | const u => simpa [evq, Act.eval] using hx
  | global g => simpa [evq, Act.eval] using hx
  | func f => simpa [evq, Act.eval] using hx
theorem Kn.evals (h : Kn Ds N G a) : ∀ {l : List Operand} {vs : List Value}, evqs G l = some vs → l.map a.eval = vs
  | [], vs, hx => by simpa [evqs] using hx
  | x :: l, vs, hx => by
    unfold evqs at hx
    split at hx
    · rename_i v hv
      split at hx
      · rename_i us hu
        cases hx
        rw [List.map_cons, h.eval hv, h.evals hu]
      · cases hx
    · cases hx
theorem Kn.put (h : Kn Ds N G a) {d : Nat} (hd : Nat.ble (d + 1) N = true) (v : Value) : Kn Ds N ((d, v) :: G) (a.put (some d) v) := by
  refine ⟨h.df, by simp [Act.put, h.sz], fun t u ht => ?_⟩
  have hdN := Nat.le_of_ble_eq_true hd
  simp only [Act.put, Array.getElem?_setIfInBounds]
  unfold gq at ht
  split at ht
  · rename_i hb
    have := Nat.eq_of_beq_eq_true hb
    subst this
    cases ht
    rw [if_pos rfl, if_pos (by rw [h.sz]; omega)]
  · rename_i hb
    rw [if_neg (Nat.ne_of_beq_eq_false hb)]
    exact h.at_ t u ht
theorem Kn.nil (h : Kn Ds N G a) : Kn Ds N [] a := ⟨h.df, h.sz, fun t v ht => by cases ht⟩
/-- One entry of another list. -/
theorem Kn.k (h : Kn Ds N G a) {t : Nat} {v : Value} (ht : gq G t = some v) (h' : Kn Ds N G' a) : Kn Ds N ((t, v) :: G') a := by
  refine ⟨h.df, h.sz, fun s u hs => ?_⟩
  unfold gq at hs
  split at hs
  · rename_i hb
    have := Nat.eq_of_beq_eq_true hb
    subst this
    cases hs
    exact h.at_ _ _ ht
  · exact h'.at_ s u hs
theorem Kn.start (args : List Value) (n : Nat) (l : List (Nat × Value)) (hl : ∀ t v, gq l t = some v → args[t]? = some v) (hn : args.length ≤ n) : Kn [] n l { tmps := args.toArray ++ Array.replicate (n - args.toArray.size) undef, defers := [] } := by
  refine ⟨rfl, by simp; omega, fun t v ht => ?_⟩
  have h := hl t v ht
  have hlt := (List.getElem?_eq_some_iff.1 h).1
  rw [Array.getElem?_append_left (by simpa using hlt)]
  simpa using h
end
/-- The list of arguments from slot k on. -/
def argq (k : Nat) : List Value → List (Nat × Value)
  | [] => []
  | v :: l => (k, v) :: argq (k + 1) l
theorem argq_at : ∀ (l : List Value) (k t : Nat) (v : Value), gq (argq k l) t = some v → k ≤ t ∧ l[t - k]? = some v
  | [], k, t, v, h => by cases h
  | u :: l, k, t, v, h => by
    unfold argq gq at h
    split at h
    · rename_i hb
      have := Nat.eq_of_beq_eq_true hb
      subst this
      cases h
      exact ⟨Nat.le_refl _, by simp⟩
    · rename_i hb
      have h1 := argq_at l (k + 1) t v h
      refine ⟨by omega, ?_⟩
      have e : t - k = (t - (k + 1)) + 1 := by omega
      rw [e, List.getElem?_cons_succ]
      exact h1.2
theorem Kn.begin (args : List Value) (n : Nat) (hn : Nat.ble args.length n = true) : Kn [] n (argq 0 args) { tmps := args.toArray ++ Array.replicate (n - args.toArray.size) undef, defers := [] } :=
  Kn.start args n _ (fun t v h => by simpa using (argq_at args 0 t v h).2) (Nat.le_of_ble_eq_true hn)
/-- Of the old blocks only those of S may have been written. -/
structure Keeps (S : Nat → Prop) (w w' : World) : Prop where
  os : w'.os = w.os
  tape : w'.tape = w.tape
  output : w'.output = w.output
  size : w.heap.size ≤ w'.heap.size
  block : ∀ k, k < w.heap.size → ¬ S k → w'.heap[k]? = w.heap[k]?
def no : Nat → Prop := fun _ => False
section
variable {S S' : Nat → Prop} {w w' w'' : World}
theorem Keeps.refl (S : Nat → Prop) (w : World) : Keeps S w w := ⟨rfl, rfl, rfl, Nat.le_refl _, fun _ _ _ => rfl⟩
theorem Keeps.trans (h : Keeps S w w') (k : Keeps S' w' w'') (hS : ∀ i, S' i → i < w.heap.size → S i) : Keeps S w w'' :=
  ⟨k.os.trans h.os, k.tape.trans h.tape, k.output.trans h.output, Nat.le_trans h.size k.size, fun i hi hn => (k.block i (Nat.lt_of_lt_of_le hi h.size) (fun hs => hn (hS i hs hi))).trans (h.block i hi hn)⟩
theorem Keeps.mono (h : Keeps S w w') (hS : ∀ i, S i → i < w.heap.size → S' i) : Keeps S' w w' := ⟨h.os, h.tape, h.output, h.size, fun i hi hn => h.block i hi fun hs => hn (hS i hs hi)⟩
theorem Keeps.below (h : Keeps no w w') : Below w.heap.size w w' := ⟨h.os, h.tape, h.output, h.size, fun k hk => h.block k hk id⟩
theorem Keeps.ofBelow (h : Below w.heap.size w w') : Keeps no w w' := ⟨h.os, h.tape, h.output, h.size, fun k hk _ => h.block k hk⟩
theorem Keeps.drew (S : Nat → Prop) (w : World) : Keeps S w w.drew := ⟨rfl, rfl, rfl, Nat.le_refl _, fun _ _ _ => rfl⟩
theorem Keeps.alloc (S : Nat → Prop) (w : World) (o : Obj) : Keeps S w (w.alloc o) := ⟨rfl, rfl, rfl, by simp, fun k hk _ => Below.heap_alloc w o k hk⟩
theorem Keeps.grown {row : Option Nat} (h : w.grownBy w' row) : Keeps (fun k => some k = row) w w' := ⟨h.os, h.tape, h.output, h.size, fun k hk hn => h.block k hk hn⟩
theorem Keeps.setCell (w : World) (p : Addr) (v : Value) : Keeps (· = p.block) w (w.setCell p v) := ⟨rfl, rfl, rfl, by simp [World.setCell], fun k _ hn => Below.heap_setCell _ _ _ _ hn⟩
end
/-- Something that is known of some blocks of memory. -/
structure Res where
  foot : Nat → Prop
  ok : World → Prop
  loc : ∀ w w', (∀ k, foot k → w'.heap[k]? = w.heap[k]?) → ok w → ok w'
  lt : ∀ w k, ok w → foot k → k < w.heap.size
/-- A block that is known whole. -/
def blk (b : Nat) (vs : List Value) (T : TypeId) : Res where
  foot := (· = b)
  ok w := w.heap[b]? = some (.cells vs.toArray T (0, 0))
  loc w w' h k := by rw [h b rfl]; exact k
  lt w k h hk := by subst hk; exact (Array.getElem?_eq_some_iff.1 h).1
/-- A row of the call's own that grows by append. -/
def row (T : TypeId) (sz : Nat) (v : Value) (n : Nat) (xs : List Value) : Res where
  foot k := v.ownBlock = some k
  ok w := w.ownsRow 0 T sz v n xs
  loc w w' h k := by
    refine ⟨k.1, k.2.imp id fun ⟨g, cap, cur, e, hg, hh, r⟩ => ⟨g, cap, cur, e, hg, ?_, r⟩⟩
    rw [h g (by rw [e]; rfl)]
    exact hh
  lt w k h hk := (h.lt k hk).2
/-- A slice whose n elements of sz cells each read as xs. -/
structure LstAt (w : World) (sz : Nat) (v : Value) (n : Nat) (xs : List Value) : Prop where
  len : xs.length = n * sz
  at_ : ∃ a c, v = .slice a n c ∧ n ≤ c ∧ (a = none → n = 0 ∧ c = 0) ∧ ∀ ad, a = some ad → 0 < n → ad.spot = none ∧ ad.block < w.heap.size ∧ ∀ j u, xs[j]? = some u → w.cell? (ad.add j) = some u
def lst (sz : Nat) (v : Value) (n : Nat) (xs : List Value) : Res where
  foot k := 0 < n ∧ v.ownBlock = some k
  ok w := LstAt w sz v n xs
  loc w w' h k := by
    obtain ⟨hl, a, c, rfl, hc, hn, hx⟩ := k
    refine ⟨hl, a, c, rfl, hc, hn, fun ad e h0 => ?_⟩
    obtain ⟨h1, h2, h3⟩ := hx ad e h0
    have hb := h ad.block ⟨h0, by rw [e]; rfl⟩
    refine ⟨h1, (Array.getElem?_eq_some_iff.1 (hb.trans (Array.getElem?_eq_getElem h2))).1, fun j u hj => ?_⟩
    rw [← h3 j u hj]
    have e2 : (ad.add j).block = ad.block := by unfold Addr.add; split <;> rfl
    exact World.cell?_of_block (by rw [e2]; exact hb)
  lt w k h hk := by
    obtain ⟨hl, a, c, rfl, hc, hn, hx⟩ := h
    obtain ⟨h0, hk⟩ := hk
    cases a with
    | none => cases hk
    | some ad => cases hk; exact (hx ad rfl h0).2.1
/-- What is known of memory: W is the world at the call's begin; M: the blocks that the call may write, R: what is only read; F0: the old blocks that it may write. -/
structure Sat (F0 : Nat → Prop) (W : World) (M R : List Res) (w : World) : Prop where
  keep : Keeps F0 W w
  okM : ∀ m ∈ M, m.ok w
  okR : ∀ r ∈ R, r.ok w
  own : ∀ m ∈ M, ∀ k, m.foot k → W.heap.size ≤ k ∨ F0 k
  dM : M.Pairwise fun m m' => ∀ k, m.foot k → ¬ m'.foot k
  dR : ∀ m ∈ M, ∀ r ∈ R, ∀ k, m.foot k → ¬ r.foot k
section
variable {F0 : Nat → Prop} {W w w' : World} {M R : List Res} {m m0 m1 m2 m3 m' r : Res}
theorem Sat.start (W : World) (R : List Res) (h : ∀ r ∈ R, r.ok W) : Sat no W [] R W :=
  ⟨.refl _ _, fun m h => (by cases h), h, fun m h => (by cases h), .nil, fun m h => (by cases h)⟩
/-- Nothing that is known has been written. -/
theorem Sat.ext (h : Sat F0 W M R w) (hk : Keeps no w w') : Sat F0 W M R w' where
  keep := h.keep.trans hk fun _ hi _ => hi.elim
  okM m hm := m.loc w w' (fun k hf => hk.block k (m.lt w k (h.okM m hm) hf) id) (h.okM m hm)
  okR r hr := r.loc w w' (fun k hf => hk.block k (r.lt w k (h.okR r hr) hf) id) (h.okR r hr)
  own := h.own
  dM := h.dM
  dR := h.dR
/-- The first of M has been written, and is something else now. -/
theorem Sat.chg (h : Sat F0 W (m :: M) R w) (hk : Keeps m.foot w w') (hm' : m'.ok w') (hf : ∀ k, m'.foot k → m.foot k ∨ w.heap.size ≤ k) : Sat F0 W (m' :: M) R w' := by
  have hp := List.pairwise_cons.1 h.dM
  have hsz := h.keep.size
  have k1 : ∀ x ∈ M, ∀ k, x.foot k → w'.heap[k]? = w.heap[k]? := fun x hx k hxk => hk.block k (x.lt w k (h.okM x (.tail _ hx)) hxk) fun hmk => hp.1 x hx k hmk hxk
  have k2 : ∀ x ∈ R, ∀ k, x.foot k → w'.heap[k]? = w.heap[k]? := fun x hx k hxk => hk.block k (x.lt w k (h.okR x hx) hxk) fun hmk => h.dR m (.head _) x hx k hmk hxk
  refine ⟨h.keep.trans hk fun i hi hl => (h.own m (.head _) i hi).resolve_left (by omega), ?_, fun x hx => x.loc w w' (k2 x hx) (h.okR x hx), ?_, ?_, ?_⟩
  · intro x hx
    cases hx with
    | head => exact hm'
    | tail _ hx => exact x.loc w w' (k1 x hx) (h.okM x (.tail _ hx))
  · intro x hx k hxk
    cases hx with
    | head => rcases hf k hxk with h1 | h1
              · exact h.own m (.head _) k h1
              · exact .inl (by omega)
    | tail _ hx => exact h.own x (.tail _ hx) k hxk
  · refine List.pairwise_cons.2 ⟨fun x hx k hk1 hk2 => ?_, hp.2⟩
    rcases hf k hk1 with h1 | h1
    · exact hp.1 x hx k h1 hk2
    · have := x.lt w k (h.okM x (.tail _ hx)) hk2; omega
  · intro x hx r hr k hk1 hk2
    cases hx with
    | head => rcases hf k hk1 with h1 | h1
              · exact h.dR m (.head _) r hr k h1 hk2
              · have := r.lt w k (h.okR r hr) hk2; omega
    | tail _ hx => exact h.dR x (.tail _ hx) r hr k hk1 hk2
/-- Something new. -/
theorem Sat.new (h : Sat F0 W M R w) (hk : Keeps no w w') (hm : m.ok w') (hf : ∀ k, m.foot k → w.heap.size ≤ k) : Sat F0 W (m :: M) R w' := by
  have h' := h.ext hk
  have hsz := h.keep.size
  refine ⟨h'.keep, ?_, h'.okR, ?_, ?_, ?_⟩
  · intro x hx
    cases hx with
    | head => exact hm
    | tail _ hx => exact h'.okM x hx
  · intro x hx k hxk
    cases hx with
    | head => have := hf k hxk; exact .inl (by omega)
    | tail _ hx => exact h.own x hx k hxk
  · exact List.pairwise_cons.2 ⟨fun x hx k hk1 hk2 => by have := x.lt w k (h.okM x hx) hk2; have := hf k hk1; omega, h.dM⟩
  · intro x hx r hr k hk1 hk2
    cases hx with
    | head => have := r.lt w k (h.okR r hr) hk2; have := hf k hk1; omega
    | tail _ hx => exact h.dR x hx r hr k hk1 hk2
/-- From now on it is only read. -/
theorem Sat.frz (h : Sat F0 W (m :: M) R w) (hr : r.ok w) (hf : ∀ k, r.foot k → m.foot k) : Sat F0 W M (r :: R) w := by
  have hp := List.pairwise_cons.1 h.dM
  refine ⟨h.keep, fun x hx => h.okM x (.tail _ hx), ?_, fun x hx => h.own x (.tail _ hx), hp.2, ?_⟩
  · intro x hx
    cases hx with
    | head => exact hr
    | tail _ hx => exact h.okR x hx
  · intro x hx y hy k hk1 hk2
    cases hy with
    | head => exact hp.1 x hx k (hf k hk2) hk1
    | tail _ hy => exact h.dR x (.tail _ hx) y hy k hk1 hk2
/-- Another thing that is known of what is only read. -/
theorem Sat.dup (h : Sat F0 W M R w) (hr : r.ok w) (hf : ∀ k, r.foot k → ∃ x ∈ R, x.foot k) : Sat F0 W M (r :: R) w := by
  refine ⟨h.keep, h.okM, ?_, h.own, h.dM, ?_⟩
  · intro x hx
    cases hx with
    | head => exact hr
    | tail _ hx => exact h.okR x hx
  · intro x hx y hy k hk1 hk2
    cases hy with
    | head => obtain ⟨z, hz, hzk⟩ := hf k hk2; exact h.dR x hx z hz k hk1 hzk
    | tail _ hy => exact h.dR x hx y hy k hk1 hk2
theorem Sat.drop (h : Sat F0 W (m :: M) R w) : Sat F0 W M R w :=
  ⟨h.keep, fun x hx => h.okM x (.tail _ hx), h.okR, fun x hx => h.own x (.tail _ hx), (List.pairwise_cons.1 h.dM).2, fun x hx => h.dR x (.tail _ hx)⟩
theorem Sat.subR {R' : List Res} (h : Sat F0 W M R w) (hR : ∀ r ∈ R', r ∈ R) : Sat F0 W M R' w :=
  ⟨h.keep, h.okM, fun x hx => h.okR x (hR x hx), h.own, h.dM, fun x hx y hy => h.dR x hx y (hR y hy)⟩
theorem Sat.perm {M' : List Res} (h : Sat F0 W M R w) (hp : M.Perm M') : Sat F0 W M' R w :=
  ⟨h.keep, fun x hx => h.okM x (hp.mem_iff.2 hx), h.okR, fun x hx => h.own x (hp.mem_iff.2 hx), (hp.pairwise_iff (fun {x y} hxy k h1 h2 => hxy k h2 h1)).1 h.dM, fun x hx => h.dR x (hp.mem_iff.2 hx)⟩
theorem Sat.up1 (h : Sat F0 W (m0 :: m :: M) R w) : Sat F0 W (m :: m0 :: M) R w := h.perm (List.Perm.swap _ _ _)
theorem Sat.up2 (h : Sat F0 W (m0 :: m1 :: m :: M) R w) : Sat F0 W (m :: m0 :: m1 :: M) R w := (h.perm ((List.Perm.swap m m1 M).cons m0)).up1
theorem Sat.up3 (h : Sat F0 W (m0 :: m1 :: m2 :: m :: M) R w) : Sat F0 W (m :: m0 :: m1 :: m2 :: M) R w := (h.perm (((List.Perm.swap m m2 M).cons m1).cons m0)).up2
theorem Sat.up4 (h : Sat F0 W (m0 :: m1 :: m2 :: m3 :: m :: M) R w) : Sat F0 W (m :: m0 :: m1 :: m2 :: m3 :: M) R w := (h.perm ((((List.Perm.swap m m3 M).cons m2).cons m1).cons m0)).up3
theorem Sat.mi (h : Sat F0 W M R w) (i : Nat) (hi : M[i]? = some m) : m.ok w := h.okM m (List.mem_of_getElem? hi)
theorem Sat.ri (h : Sat F0 W M R w) (i : Nat) (hi : R[i]? = some r) : r.ok w := h.okR r (List.mem_of_getElem? hi)
end
end Go.Proofs.YtdnkkbmpefhbjaaGreatDoor
namespace Go.Proofs.YtdnkkbmpefhbjaaGreatDoor
set_option linter.all false
open Go Go.RowKit
/-- The wide fence, in a round or not. -/
abbrev Fr (r : Option Nat) : Fence := { fn := fun _ => True, depth := none, alive := false, round := r }
/-- Another value than a defer statement. -/
def nd : Op → Bool | .defer _ => false | _ => true
theorem nd_ne {op : Op} (h : nd op = true) : ∀ c, op ≠ .defer c := fun c e => by rw [e] at h; cases h
/-- Does the guard let the operation be carried out? -/
def wq (ops : Array Oper) (G : List (Nat × Value)) : Option (Nat × Bool) → Option Bool
  | none => some true
  | some (j, b) => match (ops[j]?).bind (·.dst) with
    | some t => match gq G t with | some (.bool x) => some (x == b) | some (.tuple _) => some false | _ => none
    | none => none
theorem wq_wanted {ops : Array Oper} {G : List (Nat × Value)} {Ds : List Nat} {N : Nat} {a : Act} {o : Oper} {x : Bool} (hk : Kn Ds N G a) (h : wq ops G o.guard = some x) : Region.wanted o (yielded ops a.tmps) = x := by
  unfold Region.wanted
  unfold wq at h
  split at h
  · rename_i hg; rw [hg]; simpa using h
  · rename_i j b hg
    rw [hg]
    split at h
    · rename_i t ht
      split at h
      · rename_i y hy
        cases h
        have := hk.at_ t _ hy
        have e : yielded ops a.tmps j = some y := by
          unfold yielded
          simp [ht, this]
        simp only [e]
        cases y <;> cases b <;> rfl
      · rename_i us hy
        cases h
        have := hk.at_ t _ hy
        have e : yielded ops a.tmps j = none := by
          unfold yielded
          simp [ht, this]
        simp only [e]
        cases b <;> rfl
      · cases h
    · cases h
/-- Where the frame is as the list tells, the operation o leaves the value v and the world w'. -/
def Wq (P : Program) (G : List (Nat × Value)) (o : Oper) (v : Value) (w w' : World) : Prop := ∀ Ds N a, Kn Ds N G a → (execOp a.eval o).run P w = .ok (.value v) w'
/-- The same without a value. -/
def Tq (P : Program) (G : List (Nat × Value)) (o : Oper) (w w' : World) : Prop := ∀ Ds N a, Kn Ds N G a → (execOp a.eval o).run P w = .ok .skip w'
section
variable {r : Option Nat} {n N : Nat} {P : Program} {ops : Array Oper} {Q : Exit → Act → World → Prop} {rest : List Oper} {o : Oper} {G : List (Nat × Value)} {a : Act} {w w' : World} {v : Value} {Ds : List Nat}
  {d T : Nat} {op : Op} {p : String} {e : Array Edge} {g : Option (Nat × Bool)}
theorem q_val (hk : Kn Ds N G a) (hy : Wq P G ⟨some d, op, T, p, e, g⟩ v w w') (hd : Nat.ble (d + 1) N = true) (hn : nd op = true) (hg : wq ops G g = some true)
    (h : ∀ a, Kn Ds N ((d, v) :: G) a → wpListIn (Fr r) n P ops Q rest a w') : wpListIn (Fr r) n P ops Q (⟨some d, op, T, p, e, g⟩ :: rest) a w := by
  have hw : Region.wanted ⟨some d, op, T, p, e, g⟩ (yielded ops a.tmps) = true := wq_wanted hk hg
  simp only [wpListIn, hw, if_true, Oper.wpIn]
  refine ⟨fun _ _ => trivial, ?_⟩
  rw [show Oper.semAt (Fr r).round a.eval _ = _ from Oper.semAt_eq r a.eval _ (nd_ne hn), hy Ds N a hk]
  exact h _ (hk.put hd v)
theorem q_st (hk : Kn Ds N G a) (hy : Tq P G ⟨none, op, T, p, e, g⟩ w w') (hn : nd op = true) (hg : wq ops G g = some true)
    (h : wpListIn (Fr r) n P ops Q rest a w') : wpListIn (Fr r) n P ops Q (⟨none, op, T, p, e, g⟩ :: rest) a w := by
  have hw : Region.wanted ⟨none, op, T, p, e, g⟩ (yielded ops a.tmps) = true := wq_wanted hk hg
  simp only [wpListIn, hw, if_true, Oper.wpIn]
  refine ⟨fun _ _ => trivial, ?_⟩
  rw [show Oper.semAt (Fr r).round a.eval _ = _ from Oper.semAt_eq r a.eval _ (nd_ne hn), hy Ds N a hk]
  exact h
theorem q_skip (hk : Kn Ds N G a) (hd : Nat.ble (d + 1) N = true) (hg : wq ops G g = some false)
    (h : ∀ a, Kn Ds N ((d, undef) :: G) a → wpListIn (Fr r) n P ops Q rest a w) : wpListIn (Fr r) n P ops Q (⟨some d, op, T, p, e, g⟩ :: rest) a w := by
  have hw : Region.wanted ⟨some d, op, T, p, e, g⟩ (yielded ops a.tmps) = false := wq_wanted hk hg
  simp only [wpListIn, hw]
  exact ⟨fun _ _ => trivial, h _ (hk.put hd undef)⟩
/-- The call of a function value. -/
theorem exec_call {f : Operand} {args : List Operand} {ts : Array TypeId} {k : Nat} {caps vs : List Value} {fn : Func} {ev : Operand → Value} (hf : ev f = .func (.func k) #[] caps.toArray) (hx : args.map ev = vs) (hfn : P.funcs[k]? = some fn) (hb : (fn.name != "runtime.NumGoroutine" && fn.body.isSome) = true) (w : World) :
    (execOp ev ⟨some d, .call ⟨.value f, args.toArray, ts⟩, T, p, e, g⟩).run P w = .ok (.enter k (vs ++ caps).toArray) w := by
  subst hx
  rw [Bool.and_eq_true, bne_iff_ne, ne_eq] at hb
  obtain ⟨h1, h2⟩ := hb
  obtain ⟨c, h3⟩ := Option.isSome_iff_exists.1 h2
  simp [execOp, resolve, hf, Deferred.ofValue, invoke, callFunc, Sem.run_bind, run_program, Result.andThen_ok, hfn, h1, h3, go_sem]
theorem q_call {f : Operand} {args : List Operand} {ts : Array TypeId} {k : Nat} {caps vs : List Value} {fn : Func} {R : Ending → World → Prop} (hk : Kn Ds N G a) (hf : evq G f = some (.func (.func k) #[] caps.toArray)) (hx : evqs G args = some vs)
    (hfn : P.funcs[k]? = some fn) (hb : (fn.name != "runtime.NumGoroutine" && fn.body.isSome) = true) (hd : Nat.ble (d + 1) N = true) (hg : wq ops G g = some true)
    (hC : Calls P k (vs ++ caps).toArray w R) (h : ∀ ee w', R ee w' → ∃ v, ee = .returned v ∧ ∀ a, Kn Ds N ((d, v) :: G) a → wpListIn (Fr r) n P ops Q rest a w') :
    wpListIn (Fr r) n P ops Q (⟨some d, .call ⟨.value f, args.toArray, ts⟩, T, p, e, g⟩ :: rest) a w := by
  have hw : Region.wanted ⟨some d, .call ⟨.value f, args.toArray, ts⟩, T, p, e, g⟩ (yielded ops a.tmps) = true := wq_wanted hk hg
  simp only [wpListIn, hw, if_true, Oper.wpIn]
  refine ⟨fun _ _ => trivial, ?_⟩
  rw [show Oper.semAt (Fr r).round a.eval _ = _ from Oper.semAt_eq r a.eval _ (by intro c hc; cases hc), exec_call (hk.eval hf) (hk.evals hx) hfn hb]
  refine ⟨(fun h => by cases h), ?_⟩
  have hC' : CallsIn (Fr r) (n - 1) P k (vs ++ caps).toArray w R := by
    cases r with
    | none => exact callsIn_wide.2 hC
    | some l => exact CallsIn.inRound l (callsIn_wide.2 hC)
  refine hC'.mono fun ee w' hR => ?_
  obtain ⟨v, rfl, hK⟩ := h ee w' hR
  exact hK _ (hk.put hd v)
end
theorem Wq.of1 {P : Program} {G : List (Nat × Value)} {o : Oper} {v : Value} {w w' : World} {x : Operand} {u : Value} (hx : evq G x = some u) (h : ∀ ev : Operand → Value, ev x = u → (execOp ev o).run P w = .ok (.value v) w') : Wq P G o v w w' :=
  fun _ _ _ hk => h _ (hk.eval hx)
theorem Wq.of2 {P : Program} {G : List (Nat × Value)} {o : Oper} {v : Value} {w w' : World} {x y : Operand} {u u' : Value} (hx : evq G x = some u) (hy : evq G y = some u') (h : ∀ ev : Operand → Value, ev x = u → ev y = u' → (execOp ev o).run P w = .ok (.value v) w') : Wq P G o v w w' :=
  fun _ _ _ hk => h _ (hk.eval hx) (hk.eval hy)
/-! Values that leave the world alone. -/
section
variable {P : Program} {G : List (Nat × Value)} {w : World} {v v' : Value} {d : Option Nat} {T : Nat} {p : String} {e : Array Edge} {g : Option (Nat × Bool)} {x y c : Operand} {tx ty : TypeId}
theorem w_mv (hx : evq G x = some v) : Wq P G ⟨d, .move x, T, p, e, g⟩ v w w := .of1 hx fun ev h => by simp [execOp, h, Sem.run_pure]
theorem w_as (hx : evq G x = some v) : Wq P G ⟨d, .assign x, T, p, e, g⟩ v w w := .of1 hx fun ev h => by simp [execOp, h, Sem.run_pure]
theorem w_pickT (hc : evq G c = some (.bool true)) (hx : evq G x = some v) : Wq P G ⟨d, .pick c x y, T, p, e, g⟩ v w w := .of2 hc hx fun ev h1 h2 => by simp [execOp, h1, h2, asBool, Sem.run_pure, go_sem]
theorem w_pickF (hc : evq G c = some (.bool false)) (hx : evq G y = some v) : Wq P G ⟨d, .pick c x y, T, p, e, g⟩ v w w := .of2 hc hx fun ev h1 h2 => by simp [execOp, h1, h2, asBool, Sem.run_pure, go_sem]
theorem w_nilC {b : Addr} (hx : evq G x = some (.pointer (some b))) : Wq P G ⟨d, .nilCheck x, T, p, e, g⟩ (.pointer (some b)) w w := .of1 hx fun ev h => by simp [execOp, h, Sem.run_pure]
theorem w_ext {vs : List Value} {i : Nat} (hx : evq G x = some (.tuple vs.toArray)) (hi : vs[i]? = some v) : Wq P G ⟨d, .extract x i, T, p, e, g⟩ v w w := .of1 hx fun ev h => by simp [execOp, h, Instr.extract, hi, Sem.run_pure, go_sem]
/-! Whole numbers. -/
section
variable {k : IntKind} {a b r : Int}
theorem w_add (hx : evq G x = some (.int k a)) (hy : evq G y = some (.int k b)) (hr : k.wrap (a + b) = r) : Wq P G ⟨d, .binOp .add tx x y ty, T, p, e, g⟩ (.int k r) w w := .of2 hx hy fun ev h1 h2 => by simp [execOp, h1, h2, binOp, Op.intArith, hr, Sem.run_pure, go_sem]
theorem w_sub (hx : evq G x = some (.int k a)) (hy : evq G y = some (.int k b)) (hr : k.wrap (a - b) = r) : Wq P G ⟨d, .binOp .sub tx x y ty, T, p, e, g⟩ (.int k r) w w := .of2 hx hy fun ev h1 h2 => by simp [execOp, h1, h2, binOp, Op.intArith, hr, Sem.run_pure, go_sem]
theorem w_mul (hx : evq G x = some (.int k a)) (hy : evq G y = some (.int k b)) (hr : k.wrap (a * b) = r) : Wq P G ⟨d, .binOp .mul tx x y ty, T, p, e, g⟩ (.int k r) w w := .of2 hx hy fun ev h1 h2 => by simp [execOp, h1, h2, binOp, Op.intArith, hr, Sem.run_pure, go_sem]
theorem w_quo (hx : evq G x = some (.int k a)) (hy : evq G y = some (.int k b)) (hb : b ≠ 0) (hr : k.wrap (a.tdiv b) = r) : Wq P G ⟨d, .binOp .quo tx x y ty, T, p, e, g⟩ (.int k r) w w := .of2 hx hy fun ev h1 h2 => by simp [execOp, h1, h2, binOp, Op.intDiv, hb, hr, Sem.run_pure, go_sem]
theorem w_rem (hx : evq G x = some (.int k a)) (hy : evq G y = some (.int k b)) (hb : b ≠ 0) (hr : a.tmod b = r) : Wq P G ⟨d, .binOp .rem tx x y ty, T, p, e, g⟩ (.int k r) w w := .of2 hx hy fun ev h1 h2 => by simp [execOp, h1, h2, binOp, Op.intDiv, hb, hr, Sem.run_pure, go_sem]
variable {t : Bool}
theorem w_lt (hx : evq G x = some (.int k a)) (hy : evq G y = some (.int k b)) (hr : decide (a < b) = t) : Wq P G ⟨d, .binOp .lss tx x y ty, T, p, e, g⟩ (.bool t) w w := .of2 hx hy fun ev h1 h2 => by simp [execOp, h1, h2, binOp, Op.intCmp, hr, Sem.run_pure, go_sem]
theorem w_le (hx : evq G x = some (.int k a)) (hy : evq G y = some (.int k b)) (hr : decide (a ≤ b) = t) : Wq P G ⟨d, .binOp .leq tx x y ty, T, p, e, g⟩ (.bool t) w w := .of2 hx hy fun ev h1 h2 => by simp [execOp, h1, h2, binOp, Op.intCmp, hr, Sem.run_pure, go_sem]
theorem w_gt (hx : evq G x = some (.int k a)) (hy : evq G y = some (.int k b)) (hr : decide (b < a) = t) : Wq P G ⟨d, .binOp .gtr tx x y ty, T, p, e, g⟩ (.bool t) w w := .of2 hx hy fun ev h1 h2 => by simp [execOp, h1, h2, binOp, Op.intCmp, hr, Sem.run_pure, go_sem]
theorem w_ge (hx : evq G x = some (.int k a)) (hy : evq G y = some (.int k b)) (hr : decide (b ≤ a) = t) : Wq P G ⟨d, .binOp .geq tx x y ty, T, p, e, g⟩ (.bool t) w w := .of2 hx hy fun ev h1 h2 => by simp [execOp, h1, h2, binOp, Op.intCmp, hr, Sem.run_pure, go_sem]
theorem w_eq (hx : evq G x = some (.int k a)) (hy : evq G y = some (.int k b)) (hr : decide (a = b) = t) : Wq P G ⟨d, .binOp .eql tx x y ty, T, p, e, g⟩ (.bool t) w w := .of2 hx hy fun ev h1 h2 => by
  have hr' : (a == b) = t := by rw [← hr]; rfl
  simp [execOp, h1, h2, binOp, Op.intCmp, eqGuard, hr', Sem.run_pure, go_sem]
theorem w_ne (hx : evq G x = some (.int k a)) (hy : evq G y = some (.int k b)) (hr : decide (a ≠ b) = t) : Wq P G ⟨d, .binOp .neq tx x y ty, T, p, e, g⟩ (.bool t) w w := .of2 hx hy fun ev h1 h2 => by
  have hr' : (a != b) = t := by rw [← hr]; by_cases h : a = b <;> simp [h]
  simp [execOp, h1, h2, binOp, Op.intCmp, eqGuard, hr', Sem.run_pure, go_sem]
theorem w_conv {k' : IntKind} (hx : evq G x = some (.int k a)) (hs : P.underlying tx = some (.int k)) (ht : P.underlying ty = some (.int k')) (hr : k'.wrap a = r) : Wq P G ⟨d, .convert tx ty x, T, p, e, g⟩ (.int k' r) w w := .of1 hx fun ev h => by
  simp [execOp, h, convert, run_underlying hs, run_underlying ht, Conv.intToInt, hr, Sem.run_pure, go_sem]
end
theorem wr64 {a : Int} (h1 : -9223372036854775808 ≤ a) (h2 : a ≤ 9223372036854775807) : IntKind.i64.wrap a = a := IntWalk.i64_in a ⟨h1, h2⟩
theorem w_not {t : Bool} (hx : evq G x = some (.bool t)) : Wq P G ⟨d, .unOp .not tx x, T, p, e, g⟩ (.bool !t) w w := .of1 hx fun ev h => by simp [execOp, h, Op.unary, Sem.run_pure, go_sem]
theorem w_len {n c : Nat} {a : Option Addr} {te : TypeId} (hx : evq G x = some (.slice a n c)) (ht : P.underlying tx = some (.slice te)) : Wq P G ⟨d, .call ⟨.builtin .len, #[x], #[tx]⟩, T, p, e, g⟩ (.int .i64 n) w w := .of1 hx fun ev h => by
  simp [execOp, h, resolve, invoke, builtin, Builtin.len_, run_underlying ht, goInt, Sem.run_pure, go_sem]
theorem w_max {k : IntKind} {a b r : Int} (hx : evq G x = some (.int k a)) (hy : evq G y = some (.int k b)) (hr : max a b = r) : Wq P G ⟨d, .call ⟨.builtin .max, #[x, y], #[tx, ty]⟩, T, p, e, g⟩ (.int k r) w w := .of2 hx hy fun ev h1 h2 => by
  have e1 : (if b > a then b else a) = r := by rw [← hr]; split <;> omega
  simp [execOp, h1, h2, resolve, invoke, builtin, Builtin.max_, Builtin.max2, e1, Sem.run_pure, go_sem]
/-! Types: is it of several parts, how many cells, how many bytes; its zero. -/
def aggd : TypeDesc → Bool | .struct _ => true | .array _ _ => true | _ => false
def tq (P : Program) (T : TypeId) : Option (Bool × Nat × Nat) := match P.info? T, P.underlying T with | some i, some d => some (aggd d, i.size, i.bytes) | _, _ => none
def zq (P : Program) (T : TypeId) : Option Value := (P.info? T).bind (·.zero)
theorem tq_agg {b : Bool} {s n : Nat} (h : tq P T = some (b, s, n)) : (isAgg T).run P w = .ok b w := by
  unfold tq at h
  split at h
  · rename_i i dd hi hd
    cases h
    unfold isAgg
    rw [Sem.run_bind, run_underlying hd, Result.andThen_ok]
    cases dd <;> rfl
  · cases h
theorem tq_size {b : Bool} {s n : Nat} (h : tq P T = some (b, s, n)) : (sizeOf T).run P w = .ok s w := by
  unfold tq at h
  split at h
  · rename_i i dd hi hd
    cases h
    simp [sizeOf, typeInfo, Sem.run_bind, run_program, hi, Sem.run_pure, go_sem]
  · cases h
theorem zq_zero {z : Value} (h : zq P T = some z) : (zeroValue T).run P w = .ok z w := by
  unfold zq at h
  rw [Option.bind_eq_some_iff] at h
  obtain ⟨i, hi, hz⟩ := h
  simp [zeroValue, typeInfo, Sem.run_bind, run_program, hi, hz, Sem.run_pure, go_sem]
/-- From address p on the cells xs lie. -/
def CellsAt (w : World) (q : Addr) (xs : List Value) : Prop := ∀ j u, xs[j]? = some u → w.cell? (q.add j) = some u
theorem add_add {q : Addr} (hs : q.spot = none) (i j : Nat) : (q.add i).add j = q.add (i + j) := by
  unfold Addr.add
  by_cases hi : i = 0
  · subst hi; simp
  · by_cases hj : j = 0
    · subst hj; simp
    · rw [if_neg hj, if_neg hi, if_neg (by omega)]; simp [Nat.add_assoc]
theorem add_pos {b o j : Nat} : (⟨b, o, none⟩ : Addr).add j = ⟨b, o + j, none⟩ := by unfold Addr.add; split <;> simp_all
theorem CellsAt.blk {b o n : Nat} {vs xs : List Value} {T : TypeId} (h : (blk b vs T).ok w) (hx : (vs.drop o).take n = xs) : CellsAt w ⟨b, o, none⟩ xs := fun j u hj => by
  rw [add_pos, cell_of_row w b (o + j) _ _ _ h]
  subst hx
  rw [List.getElem?_take] at hj
  split at hj
  · rw [List.getElem?_drop] at hj; simpa using hj
  · cases hj
theorem CellsAt.lst {sz n c k : Nat} {ad : Addr} {ws xs : List Value} (h : LstAt w sz (.slice (some ad) n c) n xs) (hx : (xs.drop (k * sz)).take sz = ws) : CellsAt w (ad.add (k * sz)) ws := fun j u hj => by
  have hlen := h.len
  obtain ⟨a, c', he, _, _, h⟩ := h.at_
  cases he
  subst hx
  rw [List.getElem?_take] at hj
  split at hj
  · rw [List.getElem?_drop] at hj
    have hlt := (List.getElem?_eq_some_iff.1 hj).1
    obtain ⟨h1, h2, h3⟩ := h ad rfl (by rcases Nat.eq_zero_or_pos n with rfl | h0; · rw [hlen, Nat.zero_mul] at hlt; omega
                                        · exact h0)
    rw [add_add h1]
    exact h3 _ _ hj
  · cases hj
theorem w_ldA {q : Addr} {tt : TypeId} {s n : Nat} {xs : List Value} (hx : evq G x = some (.pointer (some q))) (ht : tq P tt = some (true, s, n)) (hc : CellsAt w q xs) (hs : xs.length = s) : Wq P G ⟨d, .load tt x, T, p, e, g⟩ (.agg xs.toArray) w w := .of1 hx fun ev h => by
  subst hs
  simp only [execOp, h, Instr.loadAt, Instr.sureAddr, Sem.run_bind, Sem.run_pure, Result.andThen_ok, loadVar, tq_agg ht, tq_size ht, if_true]
  rw [run_loadCells_list w q xs hc]
  rfl
theorem w_ld1 {q : Addr} {tt : TypeId} {s n : Nat} {v : Value} (hx : evq G x = some (.pointer (some q))) (ht : tq P tt = some (false, s, n)) (hc : CellsAt w q [v]) : Wq P G ⟨d, .load tt x, T, p, e, g⟩ v w w := .of1 hx fun ev h => by
  have h0 := hc 0 v rfl
  rw [show q.add 0 = q from rfl] at h0
  simp [execOp, h, Instr.loadAt, Instr.sureAddr, Sem.run_bind, Sem.run_pure, Result.andThen_ok, loadVar, tq_agg ht, load, Sem.run, h0]
/-- The place of a field. -/
def fq (P : Program) (S : TypeId) (i : Nat) : Option (TypeId × Nat) := match P.underlying S with | some (.struct fs) => (fs[i]?).map fun f => (f.type, f.offset) | _ => none
theorem w_fa {q : Addr} {i off s n : Nat} {ft : TypeId} {b : Bool} (hx : evq G x = some (.pointer (some q))) (hf : fq P tx i = some (ft, off)) (ht : tq P ft = some (b, s + 1, n)) : Wq P G ⟨d, .fieldAddr tx x i, T, p, e, g⟩ (.pointer (some (q.add off))) w w := .of1 hx fun ev h => by
  unfold fq at hf
  split at hf
  · rename_i fs hu
    rw [Option.map_eq_some_iff] at hf
    obtain ⟨f, hf1, hf2⟩ := hf
    cases hf2
    simp [execOp, h, Instr.fieldAt, Instr.sureAddr, Sem.run_bind, Sem.run_pure, Result.andThen_ok, run_underlying hu, hf1, fieldPlace, tq_size ht]
  · cases hf
theorem w_ia {q : Addr} {n c s nb k : Nat} {i : Int} {te : TypeId} {b : Bool} {kd : IntKind} (hx : evq G x = some (.slice (some q) n c)) (hy : evq G y = some (.int kd i)) (hu : P.underlying tx = some (.slice te)) (ht : tq P te = some (b, s, nb)) (hi : i = (k : Int)) (hk : k < n) :
    Wq P G ⟨d, .indexAddr tx x y, T, p, e, g⟩ (.pointer (some (q.add (k * s)))) w w := .of2 hx hy fun ev h1 h2 => by
  subst hi
  have h3 : (k : Int) < (n : Int) := by omega
  simp [execOp, h1, h2, Instr.indexAt, asIntOf, Sem.run_bind, Sem.run_pure, Result.andThen_ok, run_underlying hu, hk, tq_size ht]
theorem w_iaA {q : Addr} {n s nb k : Nat} {i : Int} {te : TypeId} {b : Bool} {kd : IntKind} (hx : evq G x = some (.pointer (some q))) (hy : evq G y = some (.int kd i)) (hu : P.underlying tx = some (.array n te)) (ht : tq P te = some (b, s, nb)) (hi : i = (k : Int)) (hk : k < n) :
    Wq P G ⟨d, .indexAddr tx x y, T, p, e, g⟩ (.pointer (some (q.add (k * s)))) w w := .of2 hx hy fun ev h1 h2 => by
  subst hi
  have h3 : (k : Int) < (n : Int) := by omega
  simp [execOp, h1, h2, Instr.indexAt, Instr.sureAddr, asIntOf, Sem.run_bind, Sem.run_pure, Result.andThen_ok, run_underlying hu, hk, tq_size ht]
end
section
variable {P : Program} {G : List (Nat × Value)} {w : World} {v v' : Value} {d : Option Nat} {T : Nat} {p : String} {e : Array Edge} {g : Option (Nat × Bool)} {x y c : Operand} {tx ty : TypeId}
  {F0 : Nat → Prop} {W : World} {M R : List Res}
/-! What makes memory. -/
theorem Sat.alloc {vs : List Value} {t : TypeId} (hs : Sat F0 W M R w) : Sat F0 W (blk w.heap.size vs t :: M) R (w.alloc (.cells vs.toArray t)) :=
  hs.new (.alloc _ _ _) (heap_alloc_new w _) fun k hk => Nat.le_of_eq hk.symm
theorem w_box (hx : evq G x = some v) : Wq P G ⟨d, .box tx x, T, p, e, g⟩ (.pointer (some ⟨w.heap.size, 0, none⟩)) w (w.alloc (.cells v.cells tx)) := .of1 hx fun ev h => by
  simp [execOp, h, Instr.box, newVar, newRow, Sem.run_bind, Sem.run_pure, Result.andThen_ok, go_sem]
theorem w_alc {z : Value} (hz : zq P tx = some z) : Wq P G ⟨d, .alloc tx, T, p, e, g⟩ (.pointer (some ⟨w.heap.size, 0, none⟩)) w (w.alloc (.cells z.cells tx)) := fun Ds N a hk => by
  simp [execOp, Instr.alloc, newVar, newRow, Sem.run_bind, Sem.run_pure, Result.andThen_ok, zq_zero hz, go_sem]
/-- A list of cells, splice by splice. -/
theorem foldl_splice : ∀ (cs : List Value) (o j : Nat) (acc : Array Value), o + j + cs.length ≤ acc.size →
    (cs.zipIdx j).foldl (fun (a : Array Value) (x : Value × Nat) => a.setIfInBounds (o + x.2) x.1) acc = (acc.toList.take (o + j) ++ cs ++ acc.toList.drop (o + j + cs.length)).toArray
  | [], o, j, acc, h => by simp
  | c :: cs, o, j, acc, h => by
    rw [List.zipIdx_cons, List.foldl_cons, foldl_splice cs o (j + 1) _ (by simp at h ⊢; omega)]
    simp only [List.length_cons] at h
    apply Array.ext'
    simp only [Array.toList_setIfInBounds]
    rw [show o + (j + 1) = o + j + 1 by omega, List.take_succ_eq_append_getElem (by simp; omega), List.take_set_of_le (by omega), List.drop_set_of_lt (by omega)]
    simp only [List.append_assoc, List.length_cons, List.cons_append]
    rw [show o + j + 1 + cs.length = o + j + (cs.length + 1) by omega]
    simp
theorem fill_flat (s : Nat) : ∀ (els : List Value) (k : Nat) (acc : Array Value), (∀ u ∈ els, u.cells.size = s) → k * s + els.length * s ≤ acc.size →
    Instr.fill (fun i => some (i * s, s)) acc ((els.zipIdx k).map fun x => (x.2, x.1)) = some (acc.toList.take (k * s) ++ els.flatMap (·.cells.toList) ++ acc.toList.drop (k * s + els.length * s)).toArray
  | [], k, acc, _, _ => by simp [Instr.fill]
  | u :: els, k, acc, h1, h2 => by
    have hu := h1 u (.head _)
    have hl : (u :: els).length * s = s + els.length * s := by rw [List.length_cons, Nat.succ_mul, Nat.add_comm]
    rw [hl] at h2
    rw [List.zipIdx_cons, List.map_cons, Instr.fill]
    simp only [hu, ne_eq, not_true_eq_false, decide_false, Bool.false_or]
    rw [if_neg (by simp only [decide_eq_true_eq]; omega), ← Array.foldl_toList, Array.toList_zipIdx, foldl_splice u.cells.toList (k * s) 0 acc (by rw [Array.length_toList, hu]; omega),
      fill_flat s els (k + 1) _ (fun x hx => h1 x (.tail _ hx)) (by simp [Nat.succ_mul, hu]; omega)]
    congr 2
    simp only [Nat.succ_mul, Nat.add_zero, List.flatMap_cons, Array.length_toList, hu, hl]
    rw [List.take_append_of_le_length (by simp [hu]; omega), List.take_of_length_le (by simp [hu]; omega)]
    rw [List.drop_append, List.drop_eq_nil_of_le (by simp [hu]; omega)]
    simp only [List.length_append, List.length_take, Array.length_toList, hu, List.drop_drop, List.nil_append, List.append_assoc]
    congr 3
    congr 1
    omega
theorem w_bsl {els : List Operand} {vs : List Value} {len s nb : Nat} {b : Bool} {te : TypeId} {z : Value} (hx : evqs G els = some vs) (hu : P.underlying tx = some (.slice te)) (ht : tq P te = some (b, s, nb)) (hz : zq P te = some z) (hl : len = vs.length) (hzs : Nat.beq z.cells.size s = true) (h1 : vs.all (fun u => Nat.beq u.cells.size s) = true) (h24 : Nat.ble (len * s) 16777216 = true) :
    Wq P G ⟨d, .buildSlice tx len ((els.zipIdx.map fun x => (x.2, x.1)).toArray), T, p, e, g⟩ (.slice (some ⟨w.heap.size, 0, none⟩) len len) w (w.alloc (.cells (vs.flatMap (·.cells.toList)).toArray te)) := fun Ds N a hk => by
  have hes := hk.evals hx
  have hall : ∀ u ∈ vs, u.cells.size = s := fun u hu => Nat.eq_of_beq_eq_true (List.all_eq_true.1 h1 u hu)
  have hzs' := Nat.eq_of_beq_eq_true hzs
  have h24' := Nat.le_of_ble_eq_true h24
  generalize a.eval = ev at hes
  have hp : ((els.zipIdx.map fun x => (x.2, x.1)).toArray.map fun (x : Nat × Operand) => (x.1, ev x.2)) = ((vs.zipIdx 0).map fun x => (x.2, x.1)).toArray := by
    subst hes
    rw [List.map_toArray, List.zipIdx_map, List.map_map, List.map_map]
    rfl
  have hfl := fill_flat s vs 0 ((Array.range (len * s)).map (z.cells[· % z.cells.size]!)) hall (by simp [hl])
  have hfz := fill_flat s vs 0 (#[] : Array Value) hall
  simp only [execOp, Instr.buildSlice, Sem.run_bind, Sem.run_pure, Result.andThen_ok, run_underlying hu, tq_size ht]
  rw [if_neg (by omega)]
  by_cases h0 : len * s = 0
  · have hnil : (vs.flatMap (·.cells.toList)) = [] := by
      rcases Nat.mul_eq_zero.1 h0 with h | h
      · have : vs = [] := List.eq_nil_of_length_eq_zero (by omega)
        subst this; rfl
      · rw [List.flatMap_eq_nil_iff]
        intro u hu
        have := hall u hu
        rw [h] at this
        simpa using this
    have hfz' := hfz (by simp [← hl, h0])
    rw [hnil] at hfz' ⊢
    simp only [List.take_nil, List.drop_nil, List.append_nil] at hfz'
    generalize hF : Instr.fill (fun i => some (i * s, s)) (#[] : Array Value) ((vs.zipIdx 0).map fun x => (x.2, x.1)) = F at hfz'
    subst hfz'
    simp only [h0, if_true, hp, Sem.run_bind, Sem.run_pure, Result.andThen_ok]
    have hr : ∀ f : Nat → Value, Array.map f (Array.range 0) = #[] := fun f => by apply Array.ext'; simp [Array.toList_range]
    rw [hr, hF]
    simp [newRow, go_sem]
  · simp only [Nat.zero_mul, List.take_zero, List.nil_append, Nat.zero_add, ← hl] at hfl
    rw [List.drop_eq_nil_of_le (by simp)] at hfl
    simp only [List.append_nil] at hfl
    simp only [h0, if_false, Sem.run_bind, Sem.run_pure, Result.andThen_ok, zq_zero hz, hp, hfl]
    generalize (vs.flatMap (·.cells.toList)).toArray = F
    simp [newRow, go_sem]
end
end Go.Proofs.YtdnkkbmpefhbjaaGreatDoor
namespace Go.Proofs.YtdnkkbmpefhbjaaGreatDoor
set_option linter.all false
open Go Go.RowKit
/-- Each is a value of one cell. -/
def ones (l : List Value) : Bool := l.all Value.oneCell'
theorem ones_spec {l : List Value} (h : ones l = true) : ∀ u ∈ l, u.oneCell' = true := fun u hu => List.all_eq_true.1 h u hu
theorem ones_app {l m : List Value} (h : ones l = true) (h' : ones m = true) : ones (l ++ m) = true := by simp [ones] at *; exact ⟨h, h'⟩
section
variable {P : Program} {G : List (Nat × Value)} {w : World} {v v' : Value} {d : Option Nat} {T : Nat} {p : String} {e : Array Edge} {g : Option (Nat × Bool)} {x y c : Operand} {tx ty : TypeId}
  {F0 : Nat → Prop} {W : World} {M R : List Res}
/-- Cells written into the first block. -/
theorem Sat.setRow {b : Nat} {vs vs' : List Value} {t : TypeId} (hs : Sat F0 W (blk b vs t :: M) R w) : Sat F0 W (blk b vs' t :: M) R (w.setRow b vs'.toArray) := by
  have h0 := hs.okM _ (.head _)
  refine hs.chg ⟨rfl, rfl, rfl, by simp [World.setRow], fun k _ hn => setRow_other w b k _ hn⟩ (setRow_heap w b _ _ _ _ h0) fun k hk => .inl hk
theorem t_st {b o : Nat} {q : Addr} {vs cs vs' : List Value} {tt t : TypeId} {ab : Bool} {s nb : Nat} (hs : Sat F0 W (blk b vs t :: M) R w) (hx : evq G x = some (.pointer (some q))) (hq : q = ⟨b, o, none⟩) (hy : evq G y = some v) (ht : tq P tt = some (ab, s, nb))
    (hc : v.cells = cs.toArray) (hl : Nat.beq cs.length s = true) (h1 : ones cs = true) (hb : Nat.ble (o + s) vs.length = true) (hv : vs.take o ++ cs ++ vs.drop (o + s) = vs') : Tq P G ⟨none, .store tt x y, T, p, e, g⟩ w (w.setRow b vs'.toArray) := fun Ds N a hk => by
  have e1 := hk.eval hx
  have e2 := hk.eval hy
  generalize a.eval = ev at e1 e2
  subst hq
  have hl' := Nat.eq_of_beq_eq_true hl
  have hb := Nat.le_of_ble_eq_true hb
  have hst := run_storeCells_at P b o t cs 0 vs.toArray w (hs.okM _ (.head _)) (by simp [hl']; omega) (ones_spec h1)
  rw [show o + 0 = o from rfl, hl', List.toList_toArray, hv] at hst
  have hsz : v.cells.size = s := by rw [hc]; simpa using hl'
  simp only [execOp, e1, e2, Instr.storeAt, Instr.sureAddr, storeVar, Sem.run_bind, Sem.run_pure, Result.andThen_ok, tq_size ht]
  rw [if_neg (by simp [hsz]), hc, List.toList_toArray, hst]
  rfl
/-- The value of a row that may grow is a slice. -/
theorem row_val {sz n : Nat} {t : TypeId} {xs : List Value} (h : (row t sz v n xs).ok w) : ∃ a c, v = .slice a n c := by
  rcases h.2 with ⟨rfl, rfl⟩ | ⟨g, cap, cur, rfl, _⟩
  · exact ⟨_, _, rfl⟩
  · exact ⟨_, _, rfl⟩
/-- A row that may grow reads as a slice. -/
theorem row_lst {sz n : Nat} {t : TypeId} {xs : List Value} (h : (row t sz v n xs).ok w) : LstAt w sz v n xs := by
  refine ⟨h.1, ?_⟩
  rcases h.2 with ⟨rfl, rfl⟩ | ⟨gg, cap, cur, rfl, _, hh, hc, _⟩
  · exact ⟨none, 0, rfl, Nat.le_refl _, fun _ => ⟨rfl, rfl⟩, fun ad h _ => by cases h⟩
  · exact ⟨some ⟨gg, 0, none⟩, cap, rfl, hc, (fun h => by cases h), fun ad ha _ => by cases ha; exact ⟨rfl, (Array.getElem?_eq_some_iff.1 hh).1, World.ownsRow.cells h rfl⟩⟩
theorem tz_info {t : TypeId} {ab : Bool} {s nb : Nat} {z : Value} (ht : tq P t = some (ab, s, nb)) (hz : zq P t = some z) : ∃ i, P.info? t = some i ∧ i.zero = some z ∧ i.size = s ∧ i.bytes = nb := by
  unfold zq at hz
  rw [Option.bind_eq_some_iff] at hz
  obtain ⟨i, hi, hz⟩ := hz
  unfold tq at ht
  rw [hi] at ht
  split at ht
  · rename_i i' d' h1 h2
    cases h1
    cases ht
    exact ⟨i, hi, hz, rfl, rfl⟩
  · cases ht
/-- append to a row: what comes lies in the row's own block, or in a new one. -/
theorem app_own {t ty te : TypeId} {i : TypeInfo} {z : Value} {s nb n m cc : Nat} {xs news : List Value} {ad : Addr} (ho : w.ownsRow 0 te s v n xs)
    (hu : P.underlying t = some (.slice te)) (hi : P.info? te = some i) (hiz : i.zero = some z) (his : i.size = s) (hib : i.bytes = nb) (hzs : z.cells.size = s) (hs0 : 0 < s) (hc : CellsAt w ad news) (hl : news.length = m * s) (h1 : ones news = true) (hb : (n + m) * nb ≤ 140737488355328) (h63 : n + m ≤ maxLen) :
    ∃ v' w', (Builtin.append_ #[t, t] ty #[v, .slice (some ad) m cc]).run P w = .ok v' w' ∧ w'.ownsRow 0 te s v' (n + m) (xs ++ news) ∧ w.grownBy w' v.ownBlock ∧ ∀ k, v'.ownBlock = some k → v.ownBlock = some k ∨ w.heap.size ≤ k := by
  obtain ⟨v', w', hr, ho', hg, _⟩ := run_append_own (P := P) w 0 t ty te i z s nb hu hi hiz his hib hzs hs0 v n xs ho ad m cc news hl hc (ones_spec h1) h63 hb (Nat.zero_le _)
  refine ⟨v', w', hr, ho', hg, ?_⟩
  subst his
  have h63' : n + m ≤ 9223372036854775807 := by unfold maxLen at h63; omega
  rcases ho.2 with ⟨rfl, rfl⟩ | ⟨g, cap, cur, rfl, _, hh, hcap, _, hcs, _⟩
  · have hx : xs = [] := List.eq_nil_of_length_eq_zero (by simpa using ho.1)
    subst hx
    obtain ⟨v2, w2, hr2, ho2, _, _⟩ := run_append_own (P := P) w w.heap.size t ty te i z i.size nb hu hi hiz rfl hib hzs hs0 _ 0 [] (World.ownsRow_nil w _ te i.size) ad m cc news hl hc (ones_spec h1) h63 hb (Nat.le_refl _)
    rw [hr] at hr2
    cases hr2
    exact fun k hk => .inr (ho2.lt k hk).1
  · by_cases hroom : n + m ≤ cap
    · have hr2 := run_append_room (P := P) w t ty te i hu hi g n cap cur hh ad m cc news hl hc (ones_spec h1) hroom (by rw [hl, hcs, ← Nat.add_mul]; exact Nat.mul_le_mul_right _ hroom)
      rw [hr] at hr2
      cases hr2
      exact fun k hk => .inl hk
    · have hr2 := run_append_grow (P := P) w t ty te i z hu hi hiz ⟨g, 0, none⟩ n cap xs ho.1 (ho.cells (g := g) rfl) ad m cc news hl hc (by omega) (by omega) (growslice_fits (by omega) (by rw [hib]; exact hb))
      rw [hr] at hr2
      cases hr2
      exact fun k hk => .inr (by cases hk; exact Nat.le_refl _)
/-- append to the first row. -/
theorem w_app {t te : TypeId} {ab : Bool} {s nb n m cc : Nat} {z : Value} {xs news : List Value} {ad : Addr} (hs : Sat F0 W (row te s v n xs :: M) R w) (hx : evq G x = some v) (hy : evq G y = some (.slice (some ad) m cc))
    (hu : P.underlying t = some (.slice te)) (ht : tq P te = some (ab, s, nb)) (hz : zq P te = some z) (hzs : Nat.beq z.cells.size s = true) (hs0 : Nat.blt 0 s = true) (hc : CellsAt w ad news) (hl : news.length = m * s) (h1 : ones news = true) (hb : (n + m) * nb ≤ 140737488355328) (h63 : n + m ≤ 9223372036854775807) :
    ∃ a' c' w', Wq P G ⟨d, .call ⟨.builtin .append, #[x, y], #[t, t]⟩, T, p, e, g⟩ (.slice a' (n + m) c') w w' ∧ Sat F0 W (row te s (.slice a' (n + m) c') (n + m) (xs ++ news) :: M) R w' := by
  obtain ⟨i, hi, hiz, his, hib⟩ := tz_info ht hz
  obtain ⟨v', w', hr, ho, hg, hown⟩ := app_own (P := P) (ty := T) (hs.okM _ (.head _)) hu hi hiz his hib (Nat.eq_of_beq_eq_true hzs) (by have := Nat.le_of_ble_eq_true hs0; omega) hc hl h1 hb (by unfold maxLen; omega) (cc := cc)
  obtain ⟨a', c', rfl⟩ := row_val (w := w') (t := te) (sz := s) (n := n + m) (xs := xs ++ news) ho
  refine ⟨a', c', w', .of2 hx hy fun ev h1 h2 => ?_, hs.chg ((Keeps.grown hg).mono fun k hk _ => hk.symm) ho hown⟩
  simp only [execOp, resolve, invoke, builtin, Sem.run_bind, Sem.run_pure, Result.andThen_ok, List.map_toArray, List.map_cons, List.map_nil, h1, h2, hr]
/-- append of nothing. -/
theorem w_app0 {t te : TypeId} {ab : Bool} {s nb n : Nat} {xs : List Value} {z : Value} (ho : (row te s v n xs).ok w) (hx : evq G x = some v) (hy : evq G y = some (.slice none 0 0)) (hu : P.underlying t = some (.slice te)) (ht : tq P te = some (ab, s, nb)) (hz : zq P te = some z) :
    Wq P G ⟨d, .call ⟨.builtin .append, #[x, y], #[t, t]⟩, T, p, e, g⟩ v w w := by
  obtain ⟨i, hi, _⟩ := tz_info ht hz
  refine .of2 hx hy fun ev h1 h2 => ?_
  simp only [execOp, resolve, invoke, builtin, Sem.run_bind, Sem.run_pure, Result.andThen_ok, List.map_toArray, List.map_cons, List.map_nil, h1, h2, run_append_owned_none (P := P) w 0 t T te i s hu hi v n xs ho]
theorem row_nil (w : World) (t : TypeId) (sz : Nat) : (row t sz (.slice none 0 0) 0 []).ok w := World.ownsRow_nil w 0 t sz
/-- A row that holds nothing yet. -/
theorem Sat.row0 (hs : Sat F0 W M R w) (t : TypeId) (sz : Nat) : Sat F0 W (row t sz (.slice none 0 0) 0 [] :: M) R w :=
  hs.new (.refl _ _) (row_nil w t sz) fun k hk => by cases hk
/-! Structs and arrays that are put together. -/
/-- Offset and size of the fields. -/
def flq (P : Program) (S : TypeId) : Option (List (Nat × Nat)) := match P.underlying S with
  | some (.struct fs) => fs.toList.mapM fun f => (P.info? f.type).map fun i => (f.offset, i.size)
  | _ => none
theorem run_mapM_opt {α : Type} (P : Program) (w : World) (fs : List α) (F : α → Sem (Nat × Nat)) (f : α → Option (Nat × Nat)) (hF : ∀ x y, f x = some y → (F x).run P w = .ok y w) : ∀ l, fs.mapM f = some l → (fs.mapM F).run P w = .ok l w := by
  induction fs with
  | nil => intro l h; cases h; rfl
  | cons x fs ih =>
    intro l h
    rw [List.mapM_cons] at h ⊢
    cases hx : f x with
    | none => rw [hx] at h; cases h
    | some y =>
      rw [hx] at h
      cases hl : fs.mapM f with
      | none => rw [hl] at h; cases h
      | some l' =>
        rw [hl] at h
        cases h
        rw [Sem.run_bind, hF x y hx, Result.andThen_ok, Sem.run_bind, ih l' hl, Result.andThen_ok]
        rfl
def fillq (l : List (Nat × Nat)) (cells : List Value) : List (Nat × Value) → Option (List Value)
  | [] => some cells
  | (i, v) :: r => match l[i]? with
    | none => none
    | some (o, s) => if Nat.beq v.cells.size s && Nat.ble (o + s) cells.length then fillq l (cells.take o ++ v.cells.toList ++ cells.drop (o + s)) r else none
theorem fillq_fill (l : List (Nat × Nat)) : ∀ (ps : List (Nat × Value)) (cells cs : List Value), fillq l cells ps = some cs → Instr.fill (fun i => l[i]?) cells.toArray ps = some cs.toArray
  | [], cells, cs, h => by cases h; rfl
  | (i, v) :: r, cells, cs, h => by
    unfold fillq at h
    split at h
    · cases h
    · rename_i o s hi
      split at h
      · rename_i hb
        rw [Bool.and_eq_true] at hb
        have h1 := Nat.eq_of_beq_eq_true hb.1
        have h2 := Nat.le_of_ble_eq_true hb.2
        unfold Instr.fill
        simp only [hi]
        rw [if_neg (by simp [h1]; omega), ← Array.foldl_toList, Array.toList_zipIdx, foldl_splice v.cells.toList o 0 cells.toArray (by simp [h1]; omega)]
        simp only [Nat.add_zero, Array.length_toList, h1, List.toList_toArray]
        exact fillq_fill l r _ cs h
      · cases h
def partsq (G : List (Nat × Value)) : List (Nat × Operand) → Option (List (Nat × Value))
  | [] => some []
  | (i, x) :: r => match evq G x with | some v => (match partsq G r with | some l => some ((i, v) :: l) | none => none) | none => none
theorem partsq_eval {Ds : List Nat} {N : Nat} {a : Act} (hk : Kn Ds N G a) : ∀ {l : List (Nat × Operand)} {ps : List (Nat × Value)}, partsq G l = some ps → l.map (fun x => (x.1, a.eval x.2)) = ps
  | [], ps, h => by cases h; rfl
  | (i, x) :: r, ps, h => by
    unfold partsq at h
    split at h
    · rename_i v hv
      split at h
      · rename_i l hl
        cases h
        rw [List.map_cons, partsq_eval hk hl, hk.eval hv]
      · cases h
    · cases h
theorem w_bld {l : List (Nat × Operand)} {ps : List (Nat × Value)} {fl : List (Nat × Nat)} {z : Value} {zs cs : List Value} (hp : partsq G l = some ps) (hf : flq P tx = some fl) (hz : zq P tx = some z) (hzs : z.cells = zs.toArray) (hc : fillq fl zs ps = some cs) :
    Wq P G ⟨d, .build tx l.toArray, T, p, e, g⟩ (.agg cs.toArray) w w := fun Ds N a hk => by
  have hev := partsq_eval hk hp
  generalize a.eval = ev at hev
  unfold flq at hf
  split at hf
  · rename_i fs hu
    have hm := run_mapM_opt P w fs.toList (fun f => do pure (f.offset, ← sizeOf f.type)) _ (fun f y hy => by
      rw [Option.map_eq_some_iff] at hy
      obtain ⟨i, hi, rfl⟩ := hy
      simp [sizeOf, typeInfo, Sem.run_bind, run_program, hi, Sem.run_pure, go_sem]) fl hf
    have hm' : (fs.mapM fun f => do pure (f.offset, ← sizeOf f.type) : Sem (Array (Nat × Nat))).run P w = .ok fl.toArray w := by
      rw [Array.mapM_eq_mapM_toList]
      show (fs.toList.mapM _ >>= fun l => pure l.toArray : Sem _).run P w = _
      rw [Sem.run_bind, hm, Result.andThen_ok]
      rfl
    have hfl := fillq_fill fl ps zs cs hc
    have hpl : (l.toArray.map fun (x : Nat × Operand) => (x.1, ev x.2)) = ps.toArray := by rw [List.map_toArray, hev]
    simp only [execOp, Instr.build, Sem.run_bind, Sem.run_pure, Result.andThen_ok, run_underlying hu, zq_zero hz, hzs, hpl]
    rw [hm']
    simp only [Result.andThen_ok]
    rw [show (fun (i : Nat) => fl.toArray[i]?) = fun i => fl[i]? from by funext i; simp, hfl]
    rfl
  · cases hf
end
/-! Steps that turn the world, with what is known behind them. -/
section
variable {r : Option Nat} {n N : Nat} {P : Program} {ops : Array Oper} {Q : Exit → Act → World → Prop} {rest : List Oper} {G : List (Nat × Value)} {a : Act} {w w' : World} {v : Value} {Ds : List Nat}
  {d T : Nat} {p : String} {e : Array Edge} {g : Option (Nat × Bool)} {x y : Operand} {tx t te : TypeId} {F0 : Nat → Prop} {W : World} {M R : List Res} {vs cs vs' xs news : List Value} {ab : Bool} {s nb m cc : Nat} {z : Value}
theorem q_box (hk : Kn Ds N G a) (hs : Sat F0 W M R w) (hx : evq G x = some v) (hc : v.cells = vs.toArray) (hd : Nat.ble (d + 1) N = true) (hg : wq ops G g = some true)
    (h : ∀ b w a, Kn Ds N ((d, .pointer (some ⟨b, 0, none⟩)) :: G) a → Sat F0 W (blk b vs tx :: M) R w → wpListIn (Fr r) n P ops Q rest a w) : wpListIn (Fr r) n P ops Q (⟨some d, .box tx x, T, p, e, g⟩ :: rest) a w :=
  q_val hk (w_box hx) hd rfl hg fun a hk => h _ _ a hk (by rw [hc]; exact hs.alloc)
theorem q_alc (hk : Kn Ds N G a) (hs : Sat F0 W M R w) (hz : zq P tx = some z) (hc : z.cells = vs.toArray) (hd : Nat.ble (d + 1) N = true) (hg : wq ops G g = some true)
    (h : ∀ b w a, Kn Ds N ((d, .pointer (some ⟨b, 0, none⟩)) :: G) a → Sat F0 W (blk b vs tx :: M) R w → wpListIn (Fr r) n P ops Q rest a w) : wpListIn (Fr r) n P ops Q (⟨some d, .alloc tx, T, p, e, g⟩ :: rest) a w :=
  q_val hk (w_alc hz) hd rfl hg fun a hk => h _ _ a hk (by rw [hc]; exact hs.alloc)
theorem q_bsl {els : List Operand} {len : Nat} (hk : Kn Ds N G a) (hs : Sat F0 W M R w) (hx : evqs G els = some vs) (hu : P.underlying tx = some (.slice te)) (ht : tq P te = some (ab, s, nb)) (hz : zq P te = some z) (hl : Nat.beq len vs.length = true) (hzs : Nat.beq z.cells.size s = true) (h1 : vs.all (fun u => Nat.beq u.cells.size s) = true)
    (h24 : Nat.ble (len * s) 16777216 = true) (hc : vs.flatMap (·.cells.toList) = cs) (hd : Nat.ble (d + 1) N = true) (hg : wq ops G g = some true)
    (h : ∀ b w a, Kn Ds N ((d, .slice (some ⟨b, 0, none⟩) len len) :: G) a → Sat F0 W (blk b cs te :: M) R w → wpListIn (Fr r) n P ops Q rest a w) :
    wpListIn (Fr r) n P ops Q (⟨some d, .buildSlice tx len ((els.zipIdx.map fun x => (x.2, x.1)).toArray), T, p, e, g⟩ :: rest) a w :=
  q_val hk (w_bsl hx hu ht hz (Nat.eq_of_beq_eq_true hl) hzs h1 h24) hd rfl hg fun a hk => h _ _ a hk (by rw [hc]; exact hs.alloc)
theorem q_sto {b o : Nat} {q : Addr} {tt : TypeId} (hk : Kn Ds N G a) (hs : Sat F0 W (blk b vs t :: M) R w) (hx : evq G x = some (.pointer (some q))) (hq : q = ⟨b, o, none⟩) (hy : evq G y = some v) (ht : tq P tt = some (ab, s, nb))
    (hc : v.cells = cs.toArray) (hl : Nat.beq cs.length s = true) (h1 : ones cs = true) (hb : Nat.ble (o + s) vs.length = true) (hv : vs.take o ++ cs ++ vs.drop (o + s) = vs') (hg : wq ops G g = some true)
    (h : ∀ w, Sat F0 W (blk b vs' t :: M) R w → wpListIn (Fr r) n P ops Q rest a w) : wpListIn (Fr r) n P ops Q (⟨none, .store tt x y, T, p, e, g⟩ :: rest) a w :=
  q_st hk (t_st hs hx hq hy ht hc hl h1 hb hv) rfl hg (h _ hs.setRow)
theorem q_app {k : Nat} {ad : Addr} (hk : Kn Ds N G a) (hs : Sat F0 W (row te s v k xs :: M) R w) (hx : evq G x = some v) (hy : evq G y = some (.slice (some ad) m cc))
    (hu : P.underlying t = some (.slice te)) (ht : tq P te = some (ab, s, nb)) (hz : zq P te = some z) (hzs : Nat.beq z.cells.size s = true) (hs0 : Nat.blt 0 s = true) (hc : CellsAt w ad news) (hl : news.length = m * s) (h1 : ones news = true) (hb : (k + m) * nb ≤ 140737488355328) (h63 : k + m ≤ 9223372036854775807)
    (hd : Nat.ble (d + 1) N = true) (hg : wq ops G g = some true)
    (h : ∀ a' c' w a, Kn Ds N ((d, .slice a' (k + m) c') :: G) a → Sat F0 W (row te s (.slice a' (k + m) c') (k + m) (xs ++ news) :: M) R w → wpListIn (Fr r) n P ops Q rest a w) :
    wpListIn (Fr r) n P ops Q (⟨some d, .call ⟨.builtin .append, #[x, y], #[t, t]⟩, T, p, e, g⟩ :: rest) a w := by
  obtain ⟨a', c', w', hq, hs'⟩ := w_app (d := some d) (T := T) (p := p) (e := e) (g := g) (P := P) (cc := cc) hs hx hy hu ht hz hzs hs0 hc hl h1 hb h63
  exact q_val hk hq hd rfl hg fun a hk => h a' c' w' a hk hs'
end
section
variable {F0 : Nat → Prop} {W w w' : World} {M R R' : List Res} {x x' : Res}
theorem Sat.call1 (hs : Sat F0 W M R w) (h : Sat no w [x] R' w') : Sat F0 W (x :: M) R w' :=
  hs.new h.keep (h.okM _ (.head _)) fun k hk => (h.own _ (.head _) k hk).resolve_right id
theorem Sat.call2 (hs : Sat F0 W M R w) (h : Sat no w [x, x'] R' w') : Sat F0 W (x :: x' :: M) R w' := by
  have h1 : Sat F0 W (x' :: M) R w' := hs.new h.keep (h.okM _ (.tail _ (.head _))) fun k hk => (h.own _ (.tail _ (.head _)) k hk).resolve_right id
  have h0 : Sat F0 W M R w' := hs.ext h.keep
  refine ⟨h1.keep, ?_, h1.okR, ?_, ?_, ?_⟩
  · intro y hy
    cases hy with
    | head => exact h.okM _ (.head _)
    | tail _ hy => exact h1.okM y hy
  · intro y hy k hk
    cases hy with
    | head => have := (h.own _ (.head _) k hk).resolve_right id; have := hs.keep.size; exact .inl (by omega)
    | tail _ hy => exact h1.own y hy k hk
  · refine List.pairwise_cons.2 ⟨fun y hy k h1k h2k => ?_, h1.dM⟩
    cases hy with
    | head => exact (List.pairwise_cons.1 h.dM).1 _ (.head _) k h1k h2k
    | tail _ hy => have := y.lt w k (hs.okM y hy) h2k; have := (h.own _ (.head _) k h1k).resolve_right id; omega
  · intro y hy rr hrr k h1k h2k
    cases hy with
    | head => have := rr.lt w k (hs.okR rr hrr) h2k; have := (h.own _ (.head _) k h1k).resolve_right id; omega
    | tail _ hy => exact h1.dR y hy rr hrr k h1k h2k
theorem Sat.below (hs : Sat F0 W M R w) (h : Below w.heap.size w w') : Sat F0 W M R w' := hs.ext (.ofBelow h)
theorem Sat.toBelow (hs : Sat no W M R w) : Below W.heap.size W w := hs.keep.below
/-- What is left of it at the call's end. -/
theorem Sat.fin (hs : Sat F0 W M R w) : Sat F0 W M [] w := hs.subR fun r hr => by cases hr
end
end Go.Proofs.YtdnkkbmpefhbjaaGreatDoor
namespace Go.Proofs.YtdnkkbmpefhbjaaGreatDoor
set_option linter.all false
open Go Go.RowKit
section
variable {K : Act → World → Prop} {Q : Exit → Act → World → Prop} {a : Act} {w : World} {i j : Nat}
theorem x_t (h : K a w) : Exit.then K Q .normal a w := h
theorem x_b (h : Q .normal a w) : Exit.inBlock i Q .normal a w := h
theorem x_te (h : Q (.exit i) a w) : Exit.then K Q (.exit i) a w := h
theorem x_tr (h : Q .ret a w) : Exit.then K Q .ret a w := h
theorem x_br (h : Q .ret a w) : Exit.inBlock i Q .ret a w := h
theorem x_be (h : Q .normal a w) : Exit.inBlock i Q (.exit i) a w := by simp only [Exit.inBlock, if_true]; exact h
end
section
variable {F : Fence} {r : Option Nat} {n N : Nat} {P : Program} {Q : Exit → Act → World → Prop} {a : Act} {w : World} {ops : Array Oper} {G : List (Nat × Value)} {Ds : List Nat}
theorem c_end (h : Q .normal a w) : wpListIn F n P ops Q [] a w := h
theorem c_T {c : Operand} {x y : Code} (hk : Kn Ds N G a) (hc : evq G c = some (.bool true)) (h : x.wpIn F n P Q a w) : (Code.cond c x y).wpIn F n P Q a w := wpIn_cond_true (hk.eval hc) h
theorem c_F {c : Operand} {x y : Code} (hk : Kn Ds N G a) (hc : evq G c = some (.bool false)) (h : y.wpIn F n P Q a w) : (Code.cond c x y).wpIn F n P Q a w := wpIn_cond_false (hk.eval hc) h
theorem c_loop {c : Code} {α : Type} (I : α → Act → World → Prop) (m : α → Nat) (i0 : α) (h0 : I i0 a w)
    (round : ∀ i a w, I i a w → c.wpIn F n P (Exit.then (fun a' w' => ∃ j, I j a' w' ∧ m j < m i) Q) a w) : (Code.loop c).wpIn F n P Q a w := by
  classical
  have key0 : ∀ (q : Nat → Prop) (k : Nat), q k → ∃ k, q k ∧ ∀ k', q k' → k ≤ k' := by
    intro q k hk
    induction k using Nat.strongRecOn with
    | _ k ih =>
      by_cases h : ∃ k', k' < k ∧ q k'
      · obtain ⟨k', h1, h2⟩ := h; exact ih k' h1 h2
      · exact ⟨k, hk, fun k' hk' => Nat.le_of_not_lt fun hlt => h ⟨k', hlt, hk'⟩⟩
  let least (a : Act) (w : World) (k : Nat) : Prop := ∃ i, I i a w ∧ m i = k
  have key : ∀ a w, (∃ i, I i a w) → ∃ k, least a w k ∧ ∀ k', least a w k' → k ≤ k' := fun a w ⟨i, hi⟩ => key0 (least a w) (m i) ⟨i, hi, rfl⟩
  refine wpIn_loop (fun a w => ∃ i, I i a w) (fun a w => if h : ∃ i, I i a w then Classical.choose (key a w h) else 0) ⟨i0, h0⟩ fun a w hI => ?_
  obtain ⟨⟨i, hi, him⟩, hmin⟩ := Classical.choose_spec (key a w hI)
  refine wpIn_mono (round i a w hi) fun e a' w' hq => ?_
  cases e with
  | normal =>
    obtain ⟨j, hj, hlt⟩ := hq
    refine ⟨⟨j, hj⟩, ?_⟩
    have hJ : ∃ i, I i a' w' := ⟨j, hj⟩
    simp only [hI, hJ, dif_pos]
    have := (Classical.choose_spec (key a' w' hJ)).2 (m j) ⟨j, hj, rfl⟩
    omega
  | _ => exact hq
theorem c_enter {f : FuncId} {fn : Func} {c : Code} {args : List Value} {R : Ending → World → Prop} (hf : P.funcs[f]? = some fn) (hb : fn.body = some c) (hN : fn.ntmps = N) (hl : Nat.ble args.length N = true)
    (h : ∀ a, Kn [] N (argq 0 args) a → c.wpIn (Fr none) 0 P (bodyPost P fn R) a w) : Calls P f args.toArray w R := by
  subst hN
  exact callsIn_wide.1 (callsIn_of_wp (n := 0) hf hb trivial (h _ (Kn.begin args _ hl)))
theorem c_ret1 {fn : Func} {R : Ending → World → Prop} {t : Nat} {v : Value} (hk : Kn [] N G a) (hr : fn.results = #[.tmp t]) (hv : gq G t = some v) (h : R (.returned v) w) : bodyPost P fn R .ret a w :=
  ⟨hk.df, v, by rw [results_tmp hr]; simp [Array.getD_eq_getD_getElem?, hk.at_ t v hv], h⟩
theorem c_ret2 {fn : Func} {R : Ending → World → Prop} {t u : Nat} {v v' : Value} (hk : Kn [] N G a) (hr : fn.results = #[.tmp t, .tmp u]) (hv : gq G t = some v) (hv' : gq G u = some v') (h : R (.returned (.tuple #[v, v'])) w) : bodyPost P fn R .ret a w :=
  ⟨hk.df, .tuple #[v, v'], by rw [results_tmp2 hr]; simp [Array.getD_eq_getD_getElem?, hk.at_ t v hv, hk.at_ u v' hv'], h⟩
theorem c_ret0 {fn : Func} {R : Ending → World → Prop} (hk : Kn [] N G a) (hr : fn.results = #[]) (h : R (.returned (.tuple #[])) w) : bodyPost P fn R .ret a w := ⟨hk.df, _, results_none hr _ _ _, h⟩
theorem c_end0 {fn : Func} {R : Ending → World → Prop} (hk : Kn [] N G a) (hr : fn.results = #[]) (h : R (.returned (.tuple #[])) w) : bodyPost P fn R .normal a w := c_ret0 hk hr h
end
section
variable {P : Program} {ops : Array Oper} {Q : Exit → Act → World → Prop} {md : Region.Mode} {S : World → Prop} {r : Option Nat} {m : Nat}
/-- Whatever order is picked from here on, and S holds behind every operation. -/
def wpAnyQ (r : Option Nat) (m : Nat) (P : Program) (md : Region.Mode) (ops : Array Oper) (Q : Exit → Act → World → Prop) (S : World → Prop) : Nat → Array Bool → Act → World → Prop
  | 0, listed, a, w => Region.ready md ops listed = [] ∧ Q .normal a w
  | fuel + 1, listed, a, w => (Region.ready md ops listed = [] → Q .normal a w) ∧
      ∀ i ∈ Region.ready md ops listed, wpOpIn (Fr r) m P ops Q i (fun a' w' => S w' ∧ wpAnyQ r m P md ops Q S fuel (listed.setIfInBounds i true) a' w') a w
theorem wpAnyIn_of_Q : ∀ (fuel : Nat) (listed : Array Bool) (a : Act) (w : World), wpAnyQ r m P md ops Q S fuel listed a w → wpAnyIn (Fr r) m P md ops Q fuel listed a w
  | 0, _, _, _, h => h
  | fuel + 1, _, _, _, h => ⟨h.1, fun i hi => wpOpIn_mono (fun a' w' h' => wpAnyIn_of_Q fuel _ a' w' h'.2) (h.2 i hi)⟩
theorem yields_opQ {i : Nat} {o : Oper} {v : Value} {a : Act} (hd : noDefer ops = true) (hi : ops[i]? = some o) (hy : YieldsIf P ops S o v a) {K : Act → World → Prop} {w : World} (hS : S w) (h : K (a.put o.dst v) w) :
    wpOpIn (Fr r) m P ops Q i K a w := by
  unfold wpOpIn
  simp only [hi]
  rcases hy with ⟨hw, hv⟩ | ⟨hw, rfl⟩
  · simp only [hw, if_true, Oper.wpIn, Oper.semAt_eq _ _ _ (noDefer_spec hd i o hi), hv w hS, Oper.uponIn]
    exact ⟨fun _ _ => trivial, h⟩
  · simp only [hw, Bool.false_eq_true, if_false]
    exact ⟨fun _ _ => trivial, h⟩
theorem putQ {j : Nat} {oi oj : Oper} {v : Value} (hd : noDefer ops = true) (hj : ops[j]? = some oj) (hap : oi.apart ops oj = true) (hsi : ∀ cs b, oi.op ≠ .select cs b) (hsj : ∀ cs b, oj.op ≠ .select cs b)
    (hQ : ∀ c a w, Q (.panic c) (a.put oi.dst v) w → Q (.panic c) a w) {K : Act → World → Prop} {a : Act} {w : World} (hy : YieldsIf P ops S oi v a) (h : wpOpIn (Fr r) m P ops Q j K (a.put oi.dst v) w) :
    wpOpIn (Fr r) m P ops Q j (fun a' w' => YieldsIf P ops S oi v a' ∧ K (a'.put oi.dst v) w') a w := by
  obtain ⟨h1, h2, h3⟩ := Oper.apart_spec hap
  have keep : ∀ (a : Act), YieldsIf P ops S oi v a → ∀ u, YieldsIf P ops S oi v (a.put oj.dst u) := fun a hy u => hy.of_same (execOp_put oi hsi a oj.dst u h3) (wanted_put oi a oj.dst u h3)
  have hdj := noDefer_spec hd j oj hj
  unfold wpOpIn at *
  simp only [hj] at *
  rw [wanted_put oj a oi.dst v h1] at h
  split
  · rename_i hw
    simp only [hw, if_true] at h
    unfold Oper.wpIn at *
    refine ⟨fun _ _ => trivial, ?_⟩
    have h := h.2
    rw [Oper.semAt_eq _ _ _ hdj, execOp_put oj hsj a oi.dst v h1] at h
    rw [Oper.semAt_eq _ _ _ hdj]
    generalize (execOp a.eval oj).run P w = r at *
    cases r with
    | ok x w' =>
      cases x <;> simp only [Oper.uponIn] at h ⊢
      case value u => exact ⟨keep a hy u, by rw [← Act.put_comm a v u h2]; exact h⟩
      case skip => exact ⟨keep a hy _, by rw [← Act.put_comm a v undef h2]; exact h⟩
      case defer d =>
        refine ⟨keep { a with defers := d :: a.defers } (hy.of_same rfl rfl) undef, ?_⟩
        rw [← Act.put_comm _ v undef h2, ← Act.put_defers]
        exact h
      case enter f args =>
        refine ⟨h.1, CallsIn.mono h.2 fun e w'' he => ?_⟩
        cases e with
        | returned u => exact ⟨keep a hy u, by rw [← Act.put_comm a v u h2]; exact he⟩
        | panicked c => exact hQ _ _ _ he
        | outgrown => exact he
      case row row args => exact ⟨h.1, RowsIn.mono h.2 fun u w'' he => ⟨keep a hy u, by rw [← Act.put_comm a v u h2]; exact he⟩⟩
      case round l f tmps assign body =>
        refine ⟨h.1, RoundIn.mono h.2 fun e w'' he => ?_⟩
        cases e with
        | returned u => exact ⟨keep a hy u, by rw [← Act.put_comm a v u h2]; exact he⟩
        | panicked c => exact hQ _ _ _ he
        | outgrown => exact he
    | halt x w' =>
      cases x <;> simp only [Oper.uponIn] at h ⊢
      case panic u => exact hQ _ _ _ h
  · rename_i hw
    simp only [hw] at h
    exact ⟨fun _ _ => trivial, keep a hy _, by rw [← Act.put_comm a v undef h2]; exact h.2⟩
theorem firstQ {i : Nat} {oi : Oper} {v : Value} (hd : noDefer ops = true) (hi : ops[i]? = some oi) (hQ : ∀ c a w, Q (.panic c) (a.put oi.dst v) w → Q (.panic c) a w) :
    ∀ (fuel : Nat) (listed : Array Bool) (a : Act) (w : World),
      (∀ j oj, ops[j]? = some oj → j ≠ i → listed.getD j true = false → (∀ e ∈ oj.after, Region.binds md e = true → e.on ≠ i) → oi.apart ops oj = true) →
      i ∈ Region.ready md ops listed → YieldsIf P ops S oi v a → S w →
      wpAnyQ r m P md ops Q S fuel (listed.setIfInBounds i true) (a.put oi.dst v) w → wpAnyQ r m P md ops Q S (fuel + 1) listed a w := by
  have hsel := Region.noSelect_spec (noDefer_sel hd)
  intro fuel
  induction fuel with
  | zero =>
    intro listed a w _ hr hy hS H
    refine ⟨fun h => (by rw [h] at hr; cases hr), fun j hj => ?_⟩
    by_cases hji : j = i
    · subst hji; exact yields_opQ hd hi hy hS ⟨hS, H⟩
    · have := ready_mono hj hji
      rw [H.1] at this
      cases this
  | succ fuel ih =>
    intro listed a w hfree hr hy hS H
    refine ⟨fun h => (by rw [h] at hr; cases hr), fun j hj => ?_⟩
    by_cases hji : j = i
    · subst hji; exact yields_opQ hd hi hy hS ⟨hS, H⟩
    · have h1 := H.2 j (ready_mono hj hji)
      obtain ⟨hjun, oj, hoj, hall⟩ := mem_ready.1 hj
      have hnot : ∀ e ∈ oj.after, Region.binds md e = true → e.on ≠ i := fun e he hb heq => by
        have h1 := hall e he hb
        have h0 := (mem_ready.1 hr).1
        rw [heq] at h1
        rcases Nat.lt_or_ge i listed.size with h' | h'
        · simp [h'] at h0 h1; rw [h0] at h1; cases h1
        · simp [Array.getElem?_eq_none h'] at h1
      have h2 := putQ hd hoj (hfree j oj hoj hji hjun hnot) (fun cs b => hsel i oi cs b hi) (fun cs b => hsel j oj cs b hoj) hQ hy h1
      refine wpOpIn_mono (fun a' w' h3 => ⟨h3.2.1, ih (listed.setIfInBounds j true) a' w' (fun k ok hk hki hun hno => hfree k ok hk hki ?_ hno) (ready_mono hr (Ne.symm hji)) h3.1 h3.2.1 ?_⟩) h2
      · by_cases hjk : j = k
        · subst hjk; exact hjun
        · rw [getD_set_ne true hjk] at hun; exact hun
      · rw [Array.setIfInBounds_comm _ _ hji]
        exact h3.2.2
end
/-- The continuation of one operation, and what it does at a panic. -/
theorem Oper.wpIn_swap {F : Fence} {n : Nat} {P : Program} {o : Oper} {a : Act} {w : World} {ops : Array Oper} {K : Act → World → Prop} {Q : Exit → Act → World → Prop} (h : o.wpIn F n P a w (wpListIn F n P ops (Exit.then K Q) []) (Exit.then K Q)) : o.wpIn F n P a w K Q := h
/-! A region that draws its order: what yields the same in every world of the class L is taken first; the others come in their one order. -/
section
variable {P : Program} {Q : Exit → Act → World → Prop} {r : Option Nat} {m n N : Nat} {G : List (Nat × Value)} {a : Act} {w w' : World} {Ds : List Nat}
/-- All that the list names is as it says. -/
def okL (L : List Res) (w : World) : Prop := ∀ x ∈ L, x.ok w
theorem okL.at {L : List Res} (h : okL L w) (i : Nat) {x : Res} (hi : L[i]? = some x) : x.ok w := h x (List.mem_of_getElem? hi)
theorem okL.nil : okL [] w := fun _ h => by cases h
theorem okL.cons {x : Res} {L : List Res} (h : x.ok w) (h' : okL L w) : okL (x :: L) w := fun y hy => by cases hy with | head => exact h | tail _ hy => exact h' y hy
theorem okL.drew {L : List Res} (h : okL L w) : okL L w.drew := fun x hx => x.loc w w.drew (fun _ _ => rfl) (h x hx)
theorem Sat.drew {F0 : Nat → Prop} {W : World} {M R : List Res} (h : Sat F0 W M R w) : Sat F0 W M R w.drew := h.ext (.drew _ _)
/-- No panic is let in. -/
def npQ (Q : Exit → Act → World → Prop) : Exit → Act → World → Prop | .panic _, _, _ => False | e, a, w => Q e a w
theorem d_begin {id : Nat} {l : List Oper} {F0 : Nat → Prop} {W : World} {M R : List Res} (L : List Res) (n : Nat) (hm : P.follows .mixedOrders = true) (hn : l.length = n) (hs : Sat F0 W M R w) (hL : okL L w)
    (h : ∀ w, Sat F0 W M R w → okL L w → wpAnyQ r m P .any l.toArray (npQ Q) (okL L) n (lsM n 0) a w) : (Code.region id l.toArray true).wpIn (Fr r) m P Q a w := by
  refine wpIn_mono (wpIn_region_any hm (wpAnyIn_of_Q (S := okL L) (Q := npQ Q) _ _ _ _ ?_)) fun e a w h => by cases e <;> first | exact h | exact h.elim
  have h' := h w.drew hs.drew hL.drew
  rw [lsM_zero] at h'
  subst hn
  simpa using h'
variable {ops : Array Oper} {L : List Res} {k k' n' : Nat} {d T : Nat} {op : Op} {p : String} {e : Array Edge} {g : Option (Nat × Bool)} {v : Value} {o : Oper}
/-- Operation i may be taken, in a region of n' operations of which those of the set k are taken. -/
def chk0 (ops : Array Oper) (n' k k' i : Nat) (o : Oper) : Bool := Nat.ble ops.size n' && noDefer ops && !k.testBit i && afterM .any k o && o.after.all (fun x => x.on < n') && Nat.beq (k ||| 1 <<< i) k'
/-- .. first. -/
def chkv (ops : Array Oper) (n' k k' i : Nat) : Bool := match ops.toList.drop i with | o :: _ => chk0 ops n' k k' i o && apartM .any ops i o 0 ops.toList | [] => false
/-- .. as the only one. -/
def chk1 (ops : Array Oper) (n' k k' i : Nat) : Bool := match ops.toList.drop i with | o :: _ => chk0 ops n' k k' i o && soleM .any k i 0 ops.toList | [] => false
theorem chk0_spec {i : Nat} (h : chk0 ops n' k k' i o = true) : ops.size ≤ n' ∧ noDefer ops = true ∧ k.testBit i = false ∧ afterM .any k o = true ∧ o.after.all (fun x => x.on < n') = true ∧ k ||| 1 <<< i = k' := by
  unfold chk0 at h
  simp only [Bool.and_eq_true, Bool.not_eq_true'] at h
  exact ⟨Nat.le_of_ble_eq_true h.1.1.1.1.1, h.1.1.1.1.2, h.1.1.1.2, h.1.1.2, h.1.2, Nat.eq_of_beq_eq_true h.2⟩
theorem chkv_spec {i : Nat} {rr : List Oper} (hi : ops.toList.drop i = o :: rr) (h : chkv ops n' k k' i = true) : chk0 ops n' k k' i o = true ∧ apartM .any ops i o 0 ops.toList = true := by
  unfold chkv at h
  rw [hi] at h
  exact Bool.and_eq_true_iff.1 h
theorem chk1_spec {i : Nat} {rr : List Oper} (hi : ops.toList.drop i = o :: rr) (h : chk1 ops n' k k' i = true) : chk0 ops n' k k' i o = true ∧ soleM .any k i 0 ops.toList = true := by
  unfold chk1 at h
  rw [hi] at h
  exact Bool.and_eq_true_iff.1 h
theorem d_v (i k' : Nat) {rr : List Oper} (hk : Kn Ds N G a) (hS : okL L w) (hi : ops.toList.drop i = ⟨some d, op, T, p, e, g⟩ :: rr) (hc : chkv ops n' k k' i = true) (hd : Nat.ble (d + 1) N = true) (hg : wq ops G g = some true) (hy : ∀ w, okL L w → Wq P G ⟨some d, op, T, p, e, g⟩ v w w)
    (h : ∀ a, Kn Ds N ((d, v) :: G) a → wpAnyQ r m P .any ops (npQ Q) (okL L) n (lsM n' k') a w) : wpAnyQ r m P .any ops (npQ Q) (okL L) (n + 1) (lsM n' k) a w := by
  obtain ⟨hc, hap⟩ := chkv_spec hi hc
  obtain ⟨hN, hs, hun, haf, hlt, hm⟩ := chk0_spec hc
  refine firstQ hs (drop_at hi) (fun c a w h => by cases h) n _ a w (freeM hN hi haf hap) (readyM hN hi hun haf hlt) (.inl ⟨wq_wanted hk hg, fun w' hw' => hy w' hw' Ds N a hk⟩) hS ?_
  rw [lsM_set hm]
  exact h _ (hk.put hd v)
theorem d_s (i k' : Nat) {rr : List Oper} (hk : Kn Ds N G a) (hS : okL L w) (hi : ops.toList.drop i = ⟨some d, op, T, p, e, g⟩ :: rr) (hc : chkv ops n' k k' i = true) (hd : Nat.ble (d + 1) N = true) (hg : wq ops G g = some false)
    (h : ∀ a, Kn Ds N ((d, undef) :: G) a → wpAnyQ r m P .any ops (npQ Q) (okL L) n (lsM n' k') a w) : wpAnyQ r m P .any ops (npQ Q) (okL L) (n + 1) (lsM n' k) a w := by
  obtain ⟨hc, hap⟩ := chkv_spec hi hc
  obtain ⟨hN, hs, hun, haf, hlt, hm⟩ := chk0_spec hc
  refine firstQ hs (drop_at hi) (fun c a w h => by cases h) n _ a w (freeM hN hi haf hap) (readyM hN hi hun haf hlt) (.inr ⟨wq_wanted hk hg, rfl⟩) hS ?_
  rw [lsM_set hm]
  exact h _ (hk.put hd undef)
theorem d_1 (i k' : Nat) {rr : List Oper} (hi : ops.toList.drop i = o :: rr) (hc : chk1 ops n' k k' i = true)
    (h : ∀ K : Act → World → Prop, (∀ a w, okL L w → wpAnyQ r m P .any ops (npQ Q) (okL L) n (lsM n' k') a w → K a w) → wpListIn (Fr r) m P ops (Exit.then K (npQ Q)) [o] a w) : wpAnyQ r m P .any ops (npQ Q) (okL L) (n + 1) (lsM n' k) a w := by
  obtain ⟨hc, hso⟩ := chk1_spec hi hc
  obtain ⟨hN, hs, hun, haf, hlt, hm⟩ := chk0_spec hc
  have hr := readyM (md := .any) hN hi hun haf hlt
  refine ⟨fun h0 => (by rw [h0] at hr; cases hr), fun j hj => ?_⟩
  obtain ⟨hjun, oj, hoj, hall⟩ := mem_ready.1 hj
  have hl := (Array.getElem?_eq_some_iff.1 hoj).1
  rw [lsM_getD, if_pos (by omega)] at hjun
  have ej : j = i := by
    rcases soleM_spec hso j oj (by simpa using hoj) with h1 | h1 | ⟨e, h1, h2, h3⟩
    · omega
    · rw [Nat.zero_add, hjun] at h1; cases h1
    · have h4 := hall e h1 h2
      rw [lsM_getD] at h4
      split at h4
      · rw [h3] at h4; cases h4
      · cases h4
  subst ej
  have h1 := h (fun a' w' => okL L w' ∧ wpAnyQ r m P .any ops (npQ Q) (okL L) n ((lsM n' k).setIfInBounds j true) a' w') (fun a w h1 h2 => ⟨h1, by rw [lsM_set hm]; exact h2⟩)
  unfold wpOpIn
  simp only [drop_at hi]
  unfold wpListIn at h1
  split
  · rename_i hw
    rw [if_pos hw] at h1
    exact Oper.wpIn_swap h1
  · rename_i hw
    rw [if_neg hw] at h1
    exact h1
theorem d_end (hN : (Nat.ble ops.size n' && doneM k n') = true) (h : Q .normal a w) : wpAnyQ r m P .any ops (npQ Q) (okL L) 0 (lsM n' k) a w := by
  rw [Bool.and_eq_true] at hN
  obtain ⟨hN, hd⟩ := hN
  have hN := Nat.le_of_ble_eq_true hN
  refine ⟨?_, h⟩
  rw [List.eq_nil_iff_forall_not_mem]
  intro j hj
  obtain ⟨hjun, oj, hoj, _⟩ := mem_ready.1 hj
  have hl := (Array.getElem?_eq_some_iff.1 hoj).1
  rw [lsM_getD, if_pos (by omega), doneM_spec hd j (by omega)] at hjun
  cases hjun
end
end Go.Proofs.YtdnkkbmpefhbjaaGreatDoor
namespace Go.Proofs.YtdnkkbmpefhbjaaGreatDoor
set_option linter.all false
open Go Go.RowKit
/-- The cells of the n values f 0, f 1, .. -/
def en {α : Type} (c : α → List Value) (f : Nat → α) (n : Nat) : List Value := (List.range n).flatMap fun i => c (f i)
section
variable {α : Type} {c : α → List Value} {f g : Nat → α} {n k sz : Nat}
theorem en_succ : en c f n ++ c (f n) = en c f (n + 1) := by simp [en, List.range_succ]
theorem en_congr (h : ∀ i, i < n → f i = g i) : en c f n = en c g n := by
  induction n with
  | zero => rfl
  | succ n ih => rw [← en_succ, ← en_succ, ih fun i hi => h i (by omega), h n (by omega)]
theorem en_len (hc : ∀ x, (c x).length = sz) : (en c f n).length = n * sz := by
  induction n with
  | zero => simp [en]
  | succ n ih => rw [← en_succ, List.length_append, ih, hc, Nat.succ_mul]
theorem en_chunk (hc : ∀ x, (c x).length = sz) (hk : k < n) : ((en c f n).drop (k * sz)).take sz = c (f k) := by
  induction n with
  | zero => omega
  | succ n ih =>
    rw [← en_succ]
    by_cases h : k < n
    · have hl : k * sz + sz ≤ n * sz := by rw [← Nat.succ_mul]; exact Nat.mul_le_mul_right _ h
      rw [List.drop_append_of_le_length (by rw [en_len hc]; omega), List.take_append_of_le_length (by rw [List.length_drop, en_len hc]; omega)]
      exact ih h
    · obtain rfl : k = n := by omega
      rw [List.drop_append, List.drop_eq_nil_of_le (by rw [en_len hc]; exact Nat.le_refl _), en_len hc, Nat.sub_self]
      rw [List.nil_append, List.drop_zero, List.take_of_length_le (by rw [hc]; exact Nat.le_refl _)]
theorem en_ones (hc : ∀ x, ones (c x) = true) : ones (en c f n) = true := by
  induction n with
  | zero => rfl
  | succ n ih => rw [← en_succ]; exact ones_app ih (hc _)
/-- A list with one entry exchanged. -/
theorem en_set (hc : ∀ x, (c x).length = sz) (hk : k < n) (x : α) : (en c f n).take (k * sz) ++ c x ++ (en c f n).drop (k * sz + sz) = en c (fun i => if i = k then x else f i) n := by
  induction n with
  | zero => omega
  | succ n ih =>
    rw [← en_succ, ← en_succ]
    by_cases h : k < n
    · have hl : k * sz + sz ≤ n * sz := by rw [← Nat.succ_mul]; exact Nat.mul_le_mul_right _ h
      rw [List.take_append_of_le_length (by rw [en_len hc]; omega), List.drop_append_of_le_length (by rw [en_len hc]; omega), ← List.append_assoc, ih h]
      rw [if_neg (by omega)]
    · obtain rfl : k = n := by omega
      rw [List.take_append_of_le_length (by rw [en_len hc]; exact Nat.le_refl _), List.take_of_length_le (by rw [en_len hc]; exact Nat.le_refl _), List.drop_eq_nil_of_le (by rw [List.length_append, en_len hc, hc]; exact Nat.le_refl _)]
      rw [if_pos rfl, List.append_nil]
      congr 1
      exact en_congr fun i hi => by rw [if_neg (by omega)]
end
/-- The cells of a list. -/
def el {α : Type} (c : α → List Value) (l : List α) : List Value := l.flatMap c
section
variable {α : Type} {c : α → List Value} {l m : List α} {k sz : Nat} {x : α}
theorem el_snoc : el c l ++ c x = el c (l ++ [x]) := by simp [el]
theorem en_el {f : Nat → α} {n : Nat} : en c f n = el c ((List.range n).map f) := by simp [en, el, List.flatMap_map]
theorem el_len (hc : ∀ x, (c x).length = sz) : (el c l).length = l.length * sz := by
  induction l with
  | nil => simp [el]
  | cons y l ih => simp only [el, List.flatMap_cons, List.length_append, hc, List.length_cons, Nat.succ_mul] at ih ⊢; omega
theorem el_chunk (hc : ∀ x, (c x).length = sz) (hk : k < l.length) (d : α) : ((el c l).drop (k * sz)).take sz = c (l.getD k d) := by
  have h : l = (List.range l.length).map fun i => l.getD i d := by
    apply List.ext_getElem
    · simp
    · intro i h1 h2; simp [List.getD, h1]
  rw [show el c l = en c (fun i => l.getD i d) l.length by rw [en_el, ← h]]
  exact en_chunk hc hk
end
/-- Numbers as cells. -/
def ic (x : Int) : List Value := [.int .i64 x]
theorem ic_len (x : Int) : (ic x).length = 1 := rfl
/-- Bytes. -/
def bc (x : Nat) : List Value := [.int .u8 ((x : Nat) : Int)]
theorem bc_len (x : Nat) : (bc x).length = 1 := rfl
/-- Vectors. -/
def vq (x : Nat) : List Value := [.int .u64 ((dg 0 x : Nat) : Int), .int .u64 ((dg 1 x : Nat) : Int), .int .u64 ((dg 2 x : Nat) : Int), .int .u64 ((dg 3 x : Nat) : Int)]
theorem vq_len (x : Nat) : (vq x).length = 4 := rfl
theorem vq_ones (x : Nat) : ones (vq x) = true := rfl
/-- Events. -/
def ec (x : Int × Int × Int) : List Value := [.int .i64 x.1, .int .i64 x.2.1, .int .i64 x.2.2]
theorem ec_len (x : Int × Int × Int) : (ec x).length = 3 := rfl
def adq (a : Option Addr) : Addr := a.getD ⟨0, 0, none⟩
section
variable {P : Program} {G : List (Nat × Value)} {w : World} {v v' : Value} {d : Option Nat} {T : Nat} {p : String} {e : Array Edge} {g : Option (Nat × Bool)} {x y c : Operand} {tx ty te : TypeId} {s nb n k cc : Nat} {b : Bool} {a : Option Addr} {xs ws : List Value}
theorem lst_some (h : LstAt w s (.slice a n cc) n xs) (hn : 0 < n) : a = some (adq a) := by
  obtain ⟨a', c', he, _, h1, _⟩ := h.at_
  cases he
  cases a with
  | none => have := (h1 rfl).1; omega
  | some ad => rfl
theorem w_iaL {i : Int} {kd : IntKind} (hx : evq G x = some (.slice a n cc)) (hy : evq G y = some (.int kd i)) (hu : P.underlying tx = some (.slice te)) (ht : tq P te = some (b, s, nb)) (hl : LstAt w s (.slice a n cc) n xs) (hi : i = (k : Int)) (hk : k < n) :
    Wq P G ⟨d, .indexAddr tx x y, T, p, e, g⟩ (.pointer (some ((adq a).add (k * s)))) w w := by
  rw [lst_some hl (by omega)] at hx
  exact w_ia hx hy hu ht hi hk
theorem lstq (h : LstAt w s (.slice a n cc) n xs) (hk : k < n) (hx : (xs.drop (k * s)).take s = ws) : CellsAt w ((adq a).add (k * s)) ws := by
  have e := lst_some h (by omega)
  rw [e] at h
  exact .lst h hx
/-- A part of the cells. -/
theorem CellsAt.sub {q : Addr} {o m : Nat} {ws : List Value} (h : CellsAt w q xs) (hs : q.spot = none) (hx : (xs.drop o).take m = ws) : CellsAt w (q.add o) ws := fun j u hj => by
  rw [add_add hs]
  subst hx
  rw [List.getElem?_take] at hj
  split at hj
  · rw [List.getElem?_drop] at hj; exact h _ _ hj
  · cases hj
theorem blk_lst {bb t : Nat} (h : (blk bb xs t).ok w) (hl : xs.length = n * s) (hc : n ≤ cc) : LstAt w s (.slice (some ⟨bb, 0, none⟩) n cc) n xs :=
  ⟨hl, some ⟨bb, 0, none⟩, cc, rfl, hc, (fun h => by cases h), fun ad ha _ => by
    cases ha
    refine ⟨rfl, (Array.getElem?_eq_some_iff.1 h).1, fun j u hj => ?_⟩
    have := CellsAt.blk (o := 0) (n := xs.length) h rfl j u (by simpa using hj)
    exact this⟩
theorem w_ldv {q : Addr} {tt : TypeId} {z : Nat} (hx : evq G x = some (.pointer (some q))) (ht : tq P tt = some (true, 4, nb)) (hc : CellsAt w q (vq z)) : Wq P G ⟨d, .load tt x, T, p, e, g⟩ (vec z) w w := w_ldA hx ht hc rfl
theorem wdv64 {a b : Int} (h1 : 0 ≤ a) (h2 : 0 < b) (h3 : a ≤ 9223372036854775807) : IntKind.i64.wrap (a.tdiv b) = a / b := by
  rw [Int.tdiv_eq_ediv_of_nonneg h1]
  refine wr64 ?_ ?_
  · have := Int.ediv_nonneg h1 (Int.le_of_lt h2); omega
  · have := Int.ediv_le_self b h1; omega
theorem wmd {a b : Int} (h1 : 0 ≤ a) : a.tmod b = a % b := Int.tmod_eq_emod_of_nonneg h1
theorem wru64 {a : Int} (h1 : 0 ≤ a) (h2 : a ≤ 18446744073709551615) : IntKind.u64.wrap a = a := by rw [IntKind.wrap_u64]; omega
end
section
variable {F0 : Nat → Prop} {W w w' : World} {M R R' : List Res} {m m' x x' : Res}
theorem Sat.rw0 (hs : Sat F0 W (m :: M) R w) (h : m = m') : Sat F0 W (m' :: M) R w := h ▸ hs
variable {r : Option Nat} {n N : Nat} {P : Program} {ops : Array Oper} {Q : Exit → Act → World → Prop} {rest : List Oper} {G : List (Nat × Value)} {a : Act} {v : Value} {Ds : List Nat}
  {d T : Nat} {p : String} {e : Array Edge} {g : Option (Nat × Bool)} {x y : Operand} {tx t te : TypeId} {vs cs vs' xs news : List Value} {ab : Bool} {s nb mm cc : Nat} {z : Value}
/-- append of all that a slice holds. -/
theorem q_appL {k : Nat} {aa a0 : Option Addr} {c0 : Nat} (hk : Kn Ds N G a) (hs : Sat F0 W (row te s (.slice a0 k c0) k xs :: M) R w) (hx : evq G x = some (.slice a0 k c0)) (hy : evq G y = some (.slice aa mm cc))
    (hu : P.underlying t = some (.slice te)) (ht : tq P te = some (ab, s, nb)) (hz : zq P te = some z) (hzs : Nat.beq z.cells.size s = true) (hs0 : Nat.blt 0 s = true) (hl : LstAt w s (.slice aa mm cc) mm news) (h1 : ones news = true) (hb : (k + mm) * nb ≤ 140737488355328) (h63 : k + mm ≤ 9223372036854775807)
    (hd : Nat.ble (d + 1) N = true) (hg : wq ops G g = some true)
    (h : ∀ a' c' w a, Kn Ds N ((d, .slice a' (k + mm) c') :: G) a → Sat F0 W (row te s (.slice a' (k + mm) c') (k + mm) (xs ++ news) :: M) R w → wpListIn (Fr r) n P ops Q rest a w) :
    wpListIn (Fr r) n P ops Q (⟨some d, .call ⟨.builtin .append, #[x, y], #[t, t]⟩, T, p, e, g⟩ :: rest) a w := by
  cases aa with
  | some ad =>
    obtain ⟨a', c', he, _, _, hc⟩ := hl.at_
    cases he
    have hlen := hl.len
    refine q_app hk hs hx hy hu ht hz hzs hs0 (fun j u hj => ?_) hl.len h1 hb h63 hd hg h
    refine (hc ad rfl ?_).2.2 j u hj
    have hlt := (List.getElem?_eq_some_iff.1 hj).1
    rcases Nat.eq_zero_or_pos mm with rfl | h0
    · rw [hlen, Nat.zero_mul] at hlt; omega
    · exact h0
  | none =>
    have hlen := hl.len
    obtain ⟨a', c', he, _, hn, _⟩ := hl.at_
    cases he
    obtain ⟨rfl, rfl⟩ := hn rfl
    obtain rfl : news = [] := List.eq_nil_of_length_eq_zero (by simpa using hlen)
    refine q_val hk (w_app0 (hs.okM _ (.head _)) hx hy hu ht hz) hd rfl hg fun a hk => h a0 c0 w a hk ?_
    simpa using hs
end
end Go.Proofs.YtdnkkbmpefhbjaaGreatDoor
namespace Go.Proofs.YtdnkkbmpefhbjaaGreatDoor
set_option linter.all false
open Go Go.RowKit
section
variable {r : Option Nat} {n N : Nat} {P : Program} {ops : Array Oper} {Q : Exit → Act → World → Prop} {rest : List Oper} {G : List (Nat × Value)} {a : Act} {w w' : World} {v : Value} {Ds : List Nat} {d T : Nat} {p : String} {e : Array Edge} {g : Option (Nat × Bool)} {op : Op}
theorem q_v (hk : Kn Ds N G a) (hy : Wq P G ⟨some d, op, T, p, e, g⟩ v w w') (h : ∀ a, Kn Ds N ((d, v) :: G) a → wpListIn (Fr r) n P ops Q rest a w') (hd : Nat.ble (d + 1) N = true := by exact rfl) (hn : nd op = true := by exact rfl) (hg : wq ops G g = some true := by exact rfl) :
    wpListIn (Fr r) n P ops Q (⟨some d, op, T, p, e, g⟩ :: rest) a w := q_val hk hy hd hn hg h
end
section
variable {P : Program} {Q : Exit → Act → World → Prop} {r : Option Nat} {m n N : Nat} {G : List (Nat × Value)} {a : Act} {w w' : World} {Ds : List Nat}
  {ops : Array Oper} {L : List Res} {k n' : Nat} {d T : Nat} {op : Op} {p : String} {e : Array Edge} {g : Option (Nat × Bool)} {v : Value}
theorem d_w (i k' : Nat) {rr : List Oper} (hk : Kn Ds N G a) (hS : okL L w) (hi : ops.toList.drop i = ⟨some d, op, T, p, e, g⟩ :: rr) (hy : ∀ w, okL L w → Wq P G ⟨some d, op, T, p, e, g⟩ v w w)
    (h : ∀ a, Kn Ds N ((d, v) :: G) a → wpAnyQ r m P .any ops (npQ Q) (okL L) n (lsM n' k') a w) (hc : chkv ops n' k k' i = true := by kernel_rfl) (hd : Nat.ble (d + 1) N = true := by exact rfl) (hg : wq ops G g = some true := by exact rfl) : wpAnyQ r m P .any ops (npQ Q) (okL L) (n + 1) (lsM n' k) a w := d_v i k' hk hS hi hc hd hg hy h
end
end Go.Proofs.YtdnkkbmpefhbjaaGreatDoor
namespace Go.Proofs.YtdnkkbmpefhbjaaGreatDoor
set_option linter.all false
open Go Go.RowKit
section
variable {P : Program} {G : List (Nat × Value)} {w : World} {v v' : Value} {d : Option Nat} {T : Nat} {p : String} {e : Array Edge} {g : Option (Nat × Bool)} {x y c : Operand} {tx ty te : TypeId} {s nb n k cc : Nat} {b : Bool} {a : Option Addr} {xs ws : List Value}
/-! x[l:h], x[l:h:m] of a slice. -/
/-- Where it begins. -/
def sla (a : Option Addr) (m l s : Nat) : Option Addr := if m = l then a else a.map (·.add (l * s))
theorem run_bound {kd : IntKind} {i : Int} {l y : Nat} {cd : BoundsCode} (hi : i = (l : Int)) (hl : l ≤ y) : (Instr.sliceBound (.int kd i) y cd).run P w = .ok l w := by
  subst hi
  have h1 : (l : Int) ≤ (y : Int) := by omega
  simp [Instr.sliceBound, asIntOf, Sem.run_bind, Sem.run_pure, Result.andThen_ok, hl]
theorem LstAt.sub {l h m : Nat} (hL : LstAt w s (.slice a n cc) n xs) (hlh : l ≤ h) (hhn : h ≤ n) (hhm : h ≤ m) (hmc : m ≤ cc) : LstAt w s (.slice (sla a m l s) (h - l) (m - l)) (h - l) ((xs.drop (l * s)).take ((h - l) * s)) := by
  have hlen := hL.len
  obtain ⟨a', c', he, hc, hn, hx⟩ := hL.at_
  cases he
  have hle : h * s ≤ n * s := Nat.mul_le_mul_right _ hhn
  have hls : l * s ≤ h * s := Nat.mul_le_mul_right _ hlh
  have hsub : (h - l) * s = h * s - l * s := Nat.sub_mul _ _ _
  refine ⟨by rw [List.length_take, List.length_drop, hlen]; omega, sla a m l s, m - l, rfl, by omega, fun hz => ?_, fun ad ha h0 => ?_⟩
  · unfold sla at hz
    split at hz
    · have := hn hz; omega
    · cases a with
      | none => have := hn rfl; omega
      | some q => cases hz
  · unfold sla at ha
    rw [if_neg (by omega)] at ha
    cases a with
    | none => cases ha
    | some q =>
      cases ha
      obtain ⟨h1, h2, h3⟩ := hx q rfl (by omega)
      refine ⟨by unfold Addr.add; split <;> simp_all, by unfold Addr.add; split <;> simpa using h2, fun j u hj => ?_⟩
      rw [add_add h1]
      rw [List.getElem?_take] at hj
      split at hj
      · rw [List.getElem?_drop] at hj; exact h3 _ _ hj
      · cases hj
section
variable {lo hi mx : Option Operand} {vl vh vm : Option Value}
/-- A bound that may be left out. -/
def obq (G : List (Nat × Value)) : Option Operand → Option (Option Value)
  | none => some none
  | some x => match evq G x with | some v => some (some v) | none => none
theorem obq_eval {Ds : List Nat} {N : Nat} {A : Act} (hk : Kn Ds N G A) {o : Option Operand} {r : Option Value} (h : obq G o = some r) : o.map A.eval = r := by
  cases o with
  | none => cases h; rfl
  | some x =>
    simp only [obq] at h
    split at h
    · rename_i v hv; cases h; simp [hk.eval hv]
    · cases h
/-- The bound's number: that of the value, or d where it is left out. -/
def bnd (r : Option Value) (d : Int) : Option Int := match r with | none => some d | some (.int _ i) => some i | _ => none
theorem w_slc {l h : Nat} {b1 b2 : Int} (hx : evq G x = some (.slice a n cc)) (hl : obq G lo = some vl) (hh : obq G hi = some vh) (hu : P.underlying tx = some (.slice te)) (ht : tq P te = some (b, s, nb)) (e1 : bnd vl 0 = some b1) (e2 : bnd vh n = some b2) (h1 : b1 = (l : Int)) (h2 : b2 = (h : Int)) (hlh : l ≤ h) (hhn : h ≤ n) (hnc : n ≤ cc) :
    Wq P G ⟨d, .slice tx x lo hi none, T, p, e, g⟩ (.slice (sla a cc l s) (h - l) (cc - l)) w w := fun Ds N A hk => by
  have ex := hk.eval hx
  have el := obq_eval hk hl
  have eh := obq_eval hk hh
  generalize A.eval = ev at ex el eh
  have hb : (Instr.sliceBounds true n cc vl vh none).run P w = .ok (l, h, cc) w := by
    cases vh with
    | none =>
      simp only [bnd, Option.some.injEq] at e2
      obtain rfl : n = h := by omega
      cases vl with
      | none =>
        simp only [bnd, Option.some.injEq] at e1
        obtain rfl : l = 0 := by omega
        simp only [Instr.sliceBounds, Sem.run_bind, Sem.run_pure, Result.andThen_ok]
      | some u =>
        cases u <;> simp only [bnd, reduceCtorEq, Option.some.injEq] at e1
        subst e1
        simp only [Instr.sliceBounds, Sem.run_bind, Sem.run_pure, Result.andThen_ok, run_bound h1 hlh]
    | some uh =>
      cases uh <;> simp only [bnd, reduceCtorEq, Option.some.injEq] at e2
      subst e2
      cases vl with
      | none =>
        simp only [bnd, Option.some.injEq] at e1
        obtain rfl : l = 0 := by omega
        simp only [Instr.sliceBounds, Sem.run_bind, Sem.run_pure, Result.andThen_ok, run_bound h2 (Nat.le_trans hhn hnc)]
      | some u =>
        cases u <;> simp only [bnd, reduceCtorEq, Option.some.injEq] at e1
        subst e1
        simp only [Instr.sliceBounds, Sem.run_bind, Sem.run_pure, Result.andThen_ok, run_bound h1 hlh, run_bound h2 (Nat.le_trans hhn hnc)]
  simp only [execOp, ex, el, eh, Option.map_none, Instr.sliceAt, Instr.slice, Sem.run_bind, Sem.run_pure, Result.andThen_ok, run_underlying hu, hb, tq_size ht]
  rfl
theorem w_bit {k : IntKind} {op : BinOp} {u v r : Int} (hop : op = .and ∨ op = .or ∨ op = .xor ∨ op = .andNot) (hx : evq G x = some (.int k u)) (hy : evq G y = some (.int k v)) (hr : bits op k u v = r) : Wq P G ⟨d, .binOp op tx x y ty, T, p, e, g⟩ (.int k r) w w := .of2 hx hy fun ev h1 h2 => by
  subst hr
  rcases hop with rfl | rfl | rfl | rfl <;> simp [execOp, h1, h2, go_sem, Sem.run_pure]
theorem w_shr {k k' : IntKind} {u v r : Int} (hx : evq G x = some (.int k u)) (hy : evq G y = some (.int k' v)) (h0 : 0 ≤ v) (hr : u / 2 ^ min v.toNat k.bits = r) : Wq P G ⟨d, .binOp .shr tx x y ty, T, p, e, g⟩ (.int k r) w w := .of2 hx hy fun ev h1 h2 => by
  subst hr
  simp [execOp, h1, h2, binOp, eqGuard, shift_shr_any k k' u v h0, Sem.run_pure]
theorem w_shl {k k' : IntKind} {u v r : Int} (hx : evq G x = some (.int k u)) (hy : evq G y = some (.int k' v)) (h0 : 0 ≤ v) (hr : k.wrap (u * 2 ^ min v.toNat k.bits) = r) : Wq P G ⟨d, .binOp .shl tx x y ty, T, p, e, g⟩ (.int k r) w w := .of2 hx hy fun ev h1 h2 => by
  subst hr
  simp [execOp, h1, h2, binOp, eqGuard, shift_shl_any k k' u v h0, Sem.run_pure]
theorem w_ix {vs : List Value} {k : Nat} {i : Int} {kd : IntKind} {v : Value} (hx : evq G x = some (.agg vs.toArray)) (hy : evq G y = some (.int kd i)) (hu : P.underlying tx = some (.array n te)) (ht : tq P te = some (false, s, nb)) (hi : i = (k : Int)) (hk : k < n) (hv : vs[k * s]? = some v) : Wq P G ⟨d, .index tx x y, T, p, e, g⟩ v w w := .of2 hx hy fun ev h1 h2 => by
  subst hi
  have h0 : (0 : Int) ≤ (k : Int) ∧ (k : Int) < (n : Int) := by omega
  simp only [execOp, h1, h2, Instr.index, asIntOf, run_underlying hu, Sem.run_bind, Sem.run_pure, Result.andThen_ok, if_pos h0, tq_size ht, part, tq_agg ht, Int.toNat_natCast]
  simp [hv, Sem.run_pure]
theorem w_slc3 {l h m : Nat} {b1 b2 b3 : Int} (hx : evq G x = some (.slice a n cc)) (hl : obq G lo = some vl) (hh : obq G hi = some vh) (hm : obq G mx = some vm) (hu : P.underlying tx = some (.slice te)) (ht : tq P te = some (b, s, nb)) (e1 : bnd vl 0 = some b1) (e2 : vh.bind (fun v => bnd (some v) 0) = some b2) (e3 : vm.bind (fun v => bnd (some v) 0) = some b3)
    (h1 : b1 = (l : Int)) (h2 : b2 = (h : Int)) (h3 : b3 = (m : Int)) (hlh : l ≤ h) (hhm : h ≤ m) (hmc : m ≤ cc) :
    Wq P G ⟨d, .slice tx x lo hi mx, T, p, e, g⟩ (.slice (sla a m l s) (h - l) (m - l)) w w := fun Ds N A hk => by
  have ex := hk.eval hx
  have el := obq_eval hk hl
  have eh := obq_eval hk hh
  have em := obq_eval hk hm
  generalize A.eval = ev at ex el eh em
  cases vm with
  | none => cases e3
  | some um =>
    cases vh with
    | none => cases e2
    | some uh =>
      cases um <;> simp only [Option.bind_some, bnd, reduceCtorEq, Option.some.injEq] at e3
      cases uh <;> simp only [Option.bind_some, bnd, reduceCtorEq, Option.some.injEq] at e2
      subst e2 e3
      cases vl with
      | none =>
        simp only [bnd, Option.some.injEq] at e1
        obtain rfl : l = 0 := by omega
        simp only [execOp, ex, el, eh, em, Instr.sliceAt, Instr.slice, Instr.sliceBounds, Sem.run_bind, Sem.run_pure, Result.andThen_ok, run_underlying hu, tq_size ht, run_bound h3 hmc, run_bound h2 hhm]
        rfl
      | some u =>
        cases u <;> simp only [bnd, reduceCtorEq, Option.some.injEq] at e1
        subst e1
        simp only [execOp, ex, el, eh, em, Instr.sliceAt, Instr.slice, Instr.sliceBounds, Sem.run_bind, Sem.run_pure, Result.andThen_ok, run_underlying hu, tq_size ht, run_bound h3 hmc, run_bound h2 hhm, run_bound h1 hlh]
        rfl
end
/-! Two vectors; pointers and slices against nil. -/
theorem eqp_nil {D : Nat} {q : Option Addr} {et : TypeId} (hu : P.underlying tx = some (.pointer et)) : (Op.equalIn (D + 1) tx (.pointer q) (.pointer none)).run P w = .ok q.isNone w := by
  cases q <;> simp [Op.equalIn, run_underlying hu]
theorem w_pne {q : Option Addr} {et : TypeId} {t : Bool} (hx : evq G x = some (.pointer q)) (hy : evq G y = some (.pointer none)) (hu : P.underlying tx = some (.pointer et)) (ht : q.isNone = !t) : Wq P G ⟨d, .binOp .neq tx x y ty, T, p, e, g⟩ (.bool t) w w := .of2 hx hy fun ev h1 h2 => by
  have h := eqp_nil (P := P) (w := w) (D := 9999) (q := q) hu
  rw [ht] at h
  simp [execOp, h1, h2, binOp, eqGuard, Op.equal, Op.maxDepth, h]
theorem run_vecEq {D : Nat} {t te : TypeId} {a b : Nat} (ha : a < R4) (hb : b < R4) (ht : P.underlying t = some (.array 4 te)) (he : P.underlying te = some (.int .u64)) (hz : tq P te = some (false, 1, nb)) :
    (Op.equalIn (D + 2) t (vec a) (vec b)).run P w = .ok (decide (a = b)) w := by
  have h := run_equalIn_four w (D + 1) t te (dg 0 a) (dg 1 a) (dg 2 a) (dg 3 a) (dg 0 b) (dg 1 b) (dg 2 b) (dg 3 b) ht he (fun w => tq_size hz) (fun x y w => run_equalIn_int w D te .u64 .u64 x y he)
  unfold vec
  rw [h]
  congr 1
  by_cases hab : a = b
  · subst hab; simp
  · rw [decide_eq_false hab]
    refine Bool.eq_false_iff.2 fun hall => hab (vec_inj ha hb ?_)
    simp only [Bool.and_eq_true, beq_iff_eq] at hall
    unfold vec
    rw [hall.1.1.1, hall.1.1.2, hall.1.2, hall.2]
theorem w_veq {a b : Nat} {t : Bool} (hx : evq G x = some (vec a)) (hy : evq G y = some (vec b)) (ha : a < R4) (hb : b < R4) (ht : P.underlying tx = some (.array 4 te)) (he : P.underlying te = some (.int .u64)) (hz : tq P te = some (false, 1, nb)) (hq : P.eqGuardType P.depth tx = false) (hr : decide (a = b) = t) :
    Wq P G ⟨d, .binOp .eql tx x y ty, T, p, e, g⟩ (.bool t) w w := .of2 hx hy fun ev h1 h2 => by
  have h := run_vecEq (P := P) (w := w) (D := 9998) (t := tx) ha hb ht he hz
  rw [hr] at h
  unfold vec at h h1 h2
  simp [execOp, h1, h2, binOp, eqGuard, Op.equal, Op.maxDepth, h, run_program, hq]
end
section
variable {r : Option Nat} {n N : Nat} {P : Program} {ops : Array Oper} {Q : Exit → Act → World → Prop} {rest : List Oper} {G : List (Nat × Value)} {a : Act} {w w' : World} {v : Value} {Ds : List Nat}
  {d T : Nat} {p : String} {e : Array Edge} {g : Option (Nat × Bool)} {x y : Operand} {tx t te : TypeId} {F0 : Nat → Prop} {W : World} {M R : List Res} {vs cs vs' xs news : List Value} {ab : Bool} {s nb mm cc : Nat} {z : Value}
/-! make([]T, n) -/
theorem q_mks {k : Nat} {i j : Int} (hk : Kn Ds N G a) (hs : Sat F0 W M R w) (hx : evq G x = some (.int .i64 i)) (hy : evq G y = some (.int .i64 j)) (hu : P.underlying tx = some (.slice te)) (ht : tq P te = some (ab, s, nb)) (hz : zq P te = some z) (hzc : z.cells = cs.toArray) (hl : Nat.beq cs.length s = true) (hs0 : Nat.blt 0 s = true)
    (h1 : i = (k : Int)) (h2 : j = (k : Int)) (hb : k * nb ≤ 140737488355328) (h63 : k ≤ 9223372036854775807) (hd : Nat.ble (d + 1) N = true) (hg : wq ops G g = some true)
    (h : ∀ b w a, Kn Ds N ((d, .slice (some ⟨b, 0, none⟩) k k) :: G) a → Sat F0 W (blk b ((List.range k).flatMap fun _ => cs) te :: M) R w → wpListIn (Fr r) n P ops Q rest a w) :
    wpListIn (Fr r) n P ops Q (⟨some d, .makeSlice tx x y, T, p, e, g⟩ :: rest) a w := by
  subst h1 h2
  have hl' := Nat.eq_of_beq_eq_true hl
  have hs0' : 0 < s := by have := Nat.le_of_ble_eq_true hs0; omega
  have hw : IntKind.i64.wrap (k : Int) = (k : Int) := wr64 (by omega) (by omega)
  have hcell : (Array.range (k * s)).map (fun i => z.cells[i % z.cells.size]!) = ((List.range k).flatMap fun _ => cs).toArray := by
    rw [hzc]
    apply Array.ext'
    simp only [Array.toList_map, Array.toList_range, List.toList_toArray]
    clear hb h63 hw hk h hx hy
    induction k with
    | zero => simp
    | succ k ih =>
      rw [Nat.succ_mul, List.range_add, List.map_append, ih, List.range_succ, List.flatMap_append]
      congr 1
      simp only [List.map_map, List.flatMap_cons, List.flatMap_nil, List.append_nil]
      apply List.ext_getElem
      · simp [hl']
      · intro i h1 h2
        simp only [List.length_map, List.length_range] at h1
        simp only [List.getElem_map, List.getElem_range, Function.comp, List.size_toArray, hl']
        rw [show (k * s + i) % s = i by rw [Nat.add_comm, Nat.add_mul_mod_self_right, Nat.mod_eq_of_lt h1]]
        simp [h2]
  obtain ⟨inf, hi, hiz, his, hib⟩ := tz_info ht hz
  have hy : Wq P G ⟨some d, .makeSlice tx x y, T, p, e, g⟩ (.slice (some ⟨w.heap.size, 0, none⟩) k k) w (w.alloc (.cells ((List.range k).flatMap fun _ => cs).toArray te)) := .of2 hx hy fun ev h1 h2 => by
    have hm := run_make (P := P) w tx te inf z hu hi hiz .i64 .i64 (k : Int) (k : Int) (by omega) (Int.le_refl _) (by rw [hib, ← Int.natCast_mul, Nat.mul_comm]; omega) (by omega)
    simp only [Int.toNat_natCast, madeCells, his, hcell] at hm
    simp only [execOp, h1, h2, Sem.run_bind, hm, Result.andThen_ok, Sem.run_pure]
  exact q_val hk hy hd rfl hg fun a hk => h _ _ a hk hs.alloc
/-- An element of an array of the call's own is written. -/
theorem q_stoE {α : Type} {c : α → List Value} {f : Nat → α} {xx : α} {b k m : Nat} {tt : TypeId} {q : Addr} (hk : Kn Ds N G a) (hs : Sat F0 W (blk b (en c f m) t :: M) R w) (hx : evq G x = some (.pointer (some q))) (hq : q = (⟨b, 0, none⟩ : Addr).add (k * s)) (hy : evq G y = some v) (ht : tq P tt = some (ab, s, nb))
    (hc : v.cells = (c xx).toArray) (hlen : ∀ x, (c x).length = s) (h1 : ones (c xx) = true) (hkm : k < m) (hg : wq ops G g = some true)
    (h : ∀ w, Sat F0 W (blk b (en c (fun i => if i = k then xx else f i) m) t :: M) R w → wpListIn (Fr r) n P ops Q rest a w) : wpListIn (Fr r) n P ops Q (⟨none, .store tt x y, T, p, e, g⟩ :: rest) a w := by
  have hb : Nat.ble (k * s + s) (en c f m).length = true := Nat.ble_eq_true_of_le (by rw [en_len hlen, ← Nat.succ_mul]; exact Nat.mul_le_mul_right _ hkm)
  refine q_sto hk hs hx (o := k * s) (by rw [hq, add_pos, Nat.zero_add]) hy ht hc (by rw [hlen]; exact Nat.beq_refl _) h1 hb rfl hg fun w hs => h w ?_
  rw [en_set hlen hkm] at hs
  exact hs
end
/-! Results in cells. -/
section
variable {P : Program} {N : Nat} {G : List (Nat × Value)} {a : Act} {w : World} {Ds : List Nat}
def resq (P : Program) (G : List (Nat × Value)) (w : World) : List ResultVar → List Value → Prop
  | [], [] => True
  | .tmp t :: r, v :: vs => gq G t = some v ∧ resq P G w r vs
  | .cell t T :: r, v :: vs => (∃ q, gq G t = some (.pointer (some q)) ∧ (loadVar T q).run P w = .ok v w) ∧ resq P G w r vs
  | _, _ => False
def resF (tmps : Array Value) : ResultVar → Sem Value
  | .tmp t => pure (tmps.getD t undef)
  | .cell b T => do loadVar T (← asAddr (tmps.getD b undef))
theorem results_eq (fn : Func) (tmps : Array Value) : results fn tmps = (fn.results.mapM (resF tmps) >>= fun vs => pure (if h : vs.size = 1 then vs[0] else .tuple vs)) := by
  unfold results
  congr 1
theorem resq_run (hk : Kn Ds N G a) : ∀ {rs : List ResultVar} {vs : List Value}, resq P G w rs vs → (rs.mapM (resF a.tmps)).run P w = .ok vs w
  | [], [], _ => rfl
  | .tmp t :: r, v :: vs, h => by
    rw [List.mapM_cons, Sem.run_bind]
    have h1 : a.tmps.getD t undef = v := by simp [Array.getD_eq_getD_getElem?, hk.at_ t v h.1]
    simp only [resF, h1, Sem.run_pure, Result.andThen_ok, Sem.run_bind, resq_run hk h.2]
  | .cell t T :: r, v :: vs, h => by
    obtain ⟨⟨q, hq, hl⟩, h2⟩ := h
    rw [List.mapM_cons, Sem.run_bind]
    have h1 : a.tmps.getD t undef = .pointer (some q) := by simp [Array.getD_eq_getD_getElem?, hk.at_ t _ hq]
    simp only [resF, h1, asAddr, Sem.run_pure, Result.andThen_ok, Sem.run_bind, hl, resq_run hk h2]
  | [], _ :: _, h => h.elim
  | .tmp _ :: _, [], h => h.elim
  | .cell _ _ :: _, [], h => h.elim
def valq : List Value → Value | [x] => x | vs => .tuple vs.toArray
theorem c_retG {fn : Func} {R : Ending → World → Prop} {rs : List ResultVar} {vs : List Value} {v : Value} (hk : Kn [] N G a) (hr : fn.results = rs.toArray) (h : resq P G w rs vs) (hv : valq vs = v) (hR : R (.returned v) w) : bodyPost P fn R .ret a w := by
  refine ⟨hk.df, v, ?_, hR⟩
  have h0 := resq_run hk h
  rw [results_eq, hr, Array.mapM_eq_mapM_toList]
  have h1 : (List.toArray <$> rs.toArray.toList.mapM (resF a.tmps) : Sem _).run P w = .ok vs.toArray w := by
    show (rs.mapM (resF a.tmps) >>= fun l => pure l.toArray : Sem _).run P w = _
    rw [Sem.run_bind, h0, Result.andThen_ok]
    rfl
  rw [Sem.run_bind, h1, Result.andThen_ok, Sem.run_pure]
  subst hv
  clear h h0 h1 hR
  match vs with
  | [] => rfl
  | [x] => rfl
  | x :: y :: l => rfl
theorem lv_A {q : Addr} {T : TypeId} {s n : Nat} {xs : List Value} (ht : tq P T = some (true, s, n)) (hc : CellsAt w q xs) (hs : xs.length = s) : (loadVar T q).run P w = .ok (.agg xs.toArray) w := by
  subst hs
  simp only [loadVar, Sem.run_bind, tq_agg ht, Result.andThen_ok, tq_size ht, if_true]
  rw [run_loadCells_list w q xs hc]
  rfl
end
/-! Masks; loops gone round by round. -/
def am (b : Bool) : Int := if b then 18446744073709551615 else 0
section
variable {F : Fence} {n : Nat} {P : Program} {Q : Exit → Act → World → Prop} {a : Act} {w : World} {c : Code} {G : List (Nat × Value)} {d : Option Nat} {T : Nat} {p : String} {e : Array Edge} {g : Option (Nat × Bool)} {x y : Operand} {tx ty : TypeId}
theorem w_andam {b1 b2 : Bool} (hx : evq G x = some (.int .u64 (am b1))) (hy : evq G y = some (.int .u64 (am b2))) : Wq P G ⟨d, .binOp .and tx x y ty, T, p, e, g⟩ (.int .u64 (am (b1 && b2))) w w := .of2 hx hy fun ev h1 h2 => by
  cases b1 <;> cases b2 <;> (simp only [am] at h1 h2 ⊢; simp [execOp, h1, h2, binOp, Op.intBits, Sem.run_pure, go_sem]; try decide)
theorem c_rounds (m : Nat) (h : Code.roundsIn F n P c Q m a w) : (Code.loop c).wpIn F n P Q a w := wpIn_loop_rounds m h
theorem c_rsucc {m : Nat} (h : c.wpIn F n P (Exit.then (Code.roundsIn F n P c Q m) Q) a w) : Code.roundsIn F n P c Q (m + 1) a w := h
end
/-! Arrays that are put together. -/
theorem vec_small {n : Nat} (h : n < W) : vec n = .agg #[.int .u64 ((n : Nat) : Int), .int .u64 0, .int .u64 0, .int .u64 0] := by
  have h0 : dg 0 n = n := by unfold dg; rw [Nat.pow_zero, Nat.div_one, Nat.mod_eq_of_lt h]
  have hk : ∀ k, 0 < k → dg k n = 0 := fun k hk => by
    unfold dg
    have : n < W ^ k := Nat.lt_of_lt_of_le h (by rw [← Nat.pow_one W]; exact Nat.pow_le_pow_right (by decide) hk)
    rw [Nat.div_eq_of_lt this, Nat.zero_mod]
  unfold vec
  rw [h0, hk 1 (by decide), hk 2 (by decide), hk 3 (by decide)]
  rfl
section
variable {P : Program} {G : List (Nat × Value)} {w : World} {v v' : Value} {d : Option Nat} {T : Nat} {p : String} {e : Array Edge} {g : Option (Nat × Bool)} {x y c : Operand} {tx ty te : TypeId} {s nb n k cc : Nat} {b : Bool}
theorem fillq_arr (s : Nat) (l : List (Nat × Nat)) (m : Nat) (hl : ∀ i, i < m → l[i]? = some (i * s, s)) : ∀ (ps : List (Nat × Value)) (cells cs : List Value), (∀ q ∈ ps, q.1 < m) → fillq l cells ps = some cs → Instr.fill (fun i => some (i * s, s)) cells.toArray ps = some cs.toArray
  | [], cells, cs, _, h => by cases h; rfl
  | (i, v) :: r, cells, cs, hm, h => by
    unfold fillq at h
    rw [hl i (hm _ (.head _))] at h
    simp only at h
    split at h
    · rename_i hb
      rw [Bool.and_eq_true] at hb
      have h1 := Nat.eq_of_beq_eq_true hb.1
      have h2 := Nat.le_of_ble_eq_true hb.2
      unfold Instr.fill
      simp only
      rw [if_neg (by simp [h1]; omega), ← Array.foldl_toList, Array.toList_zipIdx, foldl_splice v.cells.toList (i * s) 0 cells.toArray (by simp [h1]; omega)]
      simp only [Nat.add_zero, Array.length_toList, h1, List.toList_toArray]
      exact fillq_arr s l m hl r _ cs (fun q hq => hm q (.tail _ hq)) h
    · cases h
theorem w_bldA {l : List (Nat × Operand)} {ps : List (Nat × Value)} {z : Value} {zs cs : List Value} (hp : partsq G l = some ps) (hu : P.underlying tx = some (.array n te)) (ht : tq P te = some (b, s, nb)) (hz : zq P tx = some z) (hzs : z.cells = zs.toArray) (hm : ps.all (fun q => Nat.blt q.1 n) = true) (hc : fillq ((List.range n).map fun i => (i * s, s)) zs ps = some cs) :
    Wq P G ⟨d, .build tx l.toArray, T, p, e, g⟩ (.agg cs.toArray) w w := fun Ds N a hk => by
  have hev := partsq_eval hk hp
  generalize a.eval = ev at hev
  have hfl := fillq_arr s _ n (fun i hi => by simp [hi]) ps zs cs (fun q hq => by have := List.all_eq_true.1 hm q hq; have := Nat.le_of_ble_eq_true this; omega) hc
  have hpl : (l.toArray.map fun (x : Nat × Operand) => (x.1, ev x.2)) = ps.toArray := by rw [List.map_toArray, hev]
  simp only [execOp, Instr.build, Sem.run_bind, Sem.run_pure, Result.andThen_ok, run_underlying hu, zq_zero hz, hzs, hpl, tq_size ht, hfl]
/-- A vector of no word, of one word. -/
theorem w_bldv0 (hu : P.underlying tx = some (.array 4 te)) (ht : tq P te = some (false, 1, nb)) (hz : zq P tx = some (.agg #[.int .u64 0, .int .u64 0, .int .u64 0, .int .u64 0])) : Wq P G ⟨d, .build tx #[], T, p, e, g⟩ (vec 0) w w := by
  rw [vec_small (show 0 < W by decide)]
  exact w_bldA (l := []) rfl hu ht hz rfl rfl rfl
theorem w_bldv1 {i : Int} (hx : evq G x = some (.int .u64 i)) (hi : i = (k : Int)) (hk : k < W) (hu : P.underlying tx = some (.array 4 te)) (ht : tq P te = some (false, 1, nb)) (hz : zq P tx = some (.agg #[.int .u64 0, .int .u64 0, .int .u64 0, .int .u64 0])) : Wq P G ⟨d, .build tx #[(0, x)], T, p, e, g⟩ (vec k) w w := by
  subst hi
  rw [vec_small hk]
  refine w_bldA (l := [(0, x)]) (ps := [(0, .int .u64 (k : Int))]) ?_ hu ht hz rfl rfl rfl
  unfold partsq
  rw [hx]
  rfl
end
/-! A region that draws its order, where two operations may come up: both are gone through, up to where they meet. -/
def soleP (md : Region.Mode) (m i k : Nat) : Nat → List Oper → Bool
  | _, [] => true
  | j, y :: r => (j == i || j == k || m.testBit j || y.after.any fun e => Region.binds md e && !m.testBit e.on) && soleP md m i k (j + 1) r
theorem soleP_spec {md : Region.Mode} {m i k' : Nat} : ∀ {l : List Oper} {k : Nat}, soleP md m i k' k l = true → ∀ j y, l[j]? = some y → k + j = i ∨ k + j = k' ∨ m.testBit (k + j) = true ∨ ∃ e ∈ y.after, Region.binds md e = true ∧ m.testBit e.on = false
  | [], _, _, j, _, h => by simp at h
  | x :: r, k, hB, j, y, h => by
    simp only [soleP, Bool.and_eq_true, Bool.or_eq_true, beq_iff_eq, Array.any_eq_true', Bool.not_eq_true'] at hB
    cases j with
    | zero =>
      simp only [List.getElem?_cons_zero, Option.some.injEq] at h
      subst h
      rcases hB.1 with ((h1 | h1) | h1) | ⟨e, h1, h2, h3⟩
      · exact .inl h1
      · exact .inr (.inl h1)
      · exact .inr (.inr (.inl h1))
      · exact .inr (.inr (.inr ⟨e, h1, h2, h3⟩))
    | succ j =>
      have := soleP_spec hB.2 j y (by simpa using h)
      rw [show k + (j + 1) = k + 1 + j by omega]
      exact this
section
variable {P : Program} {Q : Exit → Act → World → Prop} {r : Option Nat} {m n : Nat} {a : Act} {w : World} {ops : Array Oper} {L : List Res} {k k' n' : Nat} {o : Oper}
def chk2 (ops : Array Oper) (n' k ki kj i j : Nat) : Bool := match ops.toList.drop i, ops.toList.drop j with | o :: _, o' :: _ => chk0 ops n' k ki i o && chk0 ops n' k kj j o' && soleP .any k i j 0 ops.toList | _, _ => false
theorem take_op {i : Nat} {rr : List Oper} (hi : ops.toList.drop i = o :: rr) (hm : k ||| 1 <<< i = k')
    (h : ∀ K : Act → World → Prop, (∀ a w, okL L w → wpAnyQ r m P .any ops (npQ Q) (okL L) n (lsM n' k') a w → K a w) → wpListIn (Fr r) m P ops (Exit.then K (npQ Q)) [o] a w) :
    wpOpIn (Fr r) m P ops (npQ Q) i (fun a' w' => okL L w' ∧ wpAnyQ r m P .any ops (npQ Q) (okL L) n ((lsM n' k).setIfInBounds i true) a' w') a w := by
  have h1 := h (fun a' w' => okL L w' ∧ wpAnyQ r m P .any ops (npQ Q) (okL L) n ((lsM n' k).setIfInBounds i true) a' w') (fun a w h1 h2 => ⟨h1, by rw [lsM_set hm]; exact h2⟩)
  unfold wpOpIn
  simp only [drop_at hi]
  unfold wpListIn at h1
  split
  · rename_i hw
    rw [if_pos hw] at h1
    exact Oper.wpIn_swap h1
  · rename_i hw
    rw [if_neg hw] at h1
    exact h1
theorem d_2 (i j ki kj : Nat) {oi oj : Oper} {ri rj : List Oper} (hi : ops.toList.drop i = oi :: ri) (hj : ops.toList.drop j = oj :: rj) (hc : chk2 ops n' k ki kj i j = true)
    (h1 : ∀ K : Act → World → Prop, (∀ a w, okL L w → wpAnyQ r m P .any ops (npQ Q) (okL L) n (lsM n' ki) a w → K a w) → wpListIn (Fr r) m P ops (Exit.then K (npQ Q)) [oi] a w)
    (h2 : ∀ K : Act → World → Prop, (∀ a w, okL L w → wpAnyQ r m P .any ops (npQ Q) (okL L) n (lsM n' kj) a w → K a w) → wpListIn (Fr r) m P ops (Exit.then K (npQ Q)) [oj] a w) :
    wpAnyQ r m P .any ops (npQ Q) (okL L) (n + 1) (lsM n' k) a w := by
  unfold chk2 at hc
  rw [hi, hj] at hc
  simp only [Bool.and_eq_true] at hc
  obtain ⟨⟨hci, hcj⟩, hso⟩ := hc
  obtain ⟨hN, hs, hun, haf, hlt, hmi⟩ := chk0_spec hci
  obtain ⟨_, _, _, _, _, hmj⟩ := chk0_spec hcj
  have hr := readyM (md := .any) hN hi hun haf hlt
  refine ⟨fun h0 => (by rw [h0] at hr; cases hr), fun q hq => ?_⟩
  obtain ⟨hqun, oq, hoq, hall⟩ := mem_ready.1 hq
  have hl := (Array.getElem?_eq_some_iff.1 hoq).1
  rw [lsM_getD, if_pos (by omega)] at hqun
  have eq : q = i ∨ q = j := by
    rcases soleP_spec hso q oq (by simpa using hoq) with h1 | h1 | h1 | ⟨e, h1, h2, h3⟩
    · omega
    · omega
    · rw [Nat.zero_add, hqun] at h1; cases h1
    · have h4 := hall e h1 h2
      rw [lsM_getD] at h4
      split at h4
      · rw [h3] at h4; cases h4
      · cases h4
  rcases eq with rfl | rfl
  · exact take_op hi hmi h1
  · exact take_op hj hmj h2
theorem d_join {n1 n2 : Nat} (k' : Nat) (J : Act → World → Prop) (h : (∀ a w, J a w → wpAnyQ r m P .any ops (npQ Q) (okL L) n2 (lsM n' k') a w) → wpAnyQ r m P .any ops (npQ Q) (okL L) n1 (lsM n' k) a w)
    (hJ : ∀ a w, J a w → wpAnyQ r m P .any ops (npQ Q) (okL L) n2 (lsM n' k') a w) : wpAnyQ r m P .any ops (npQ Q) (okL L) n1 (lsM n' k) a w := h hJ
end
/-! A scope with two labels: 1, to which the run comes back, and 0, from which it leaves. -/
theorem okr1 {W : World} {r1 : Res} (h1 : r1.ok W) : ∀ r ∈ [r1], r.ok W := fun r hr => by rcases List.mem_singleton.1 hr with rfl; exact h1
theorem okrc {W : World} {r1 : Res} {R : List Res} (h1 : r1.ok W) (h : ∀ r ∈ R, r.ok W) : ∀ r ∈ r1 :: R, r.ok W := fun r hr => by
  rcases List.mem_cons.1 hr with rfl | hr
  · exact h1
  · exact h r hr
/-- A block's cells as a row. -/
theorem Sat.toRow {F0 : Nat → Prop} {W w : World} {M R : List Res} {b n sz T : Nat} {cs xs : List Value} (hs : Sat F0 W (blk b cs T :: M) R w) (hx : cs = xs) (hl : xs.length = n * sz) (hn : n ≤ 1000000) : Sat F0 W (row T sz (.slice (some ⟨b, 0, none⟩) n n) n xs :: M) R w := by
  subst hx
  refine ⟨hs.keep, ?_, hs.okR, ?_, ?_, ?_⟩
  · intro x hx
    cases hx with
    | head => exact ⟨hl, .inr ⟨b, n, cs.toArray, rfl, Nat.zero_le _, hs.okM _ (.head _), Nat.le_refl _, by unfold maxLen; omega, by simpa using hl, by rw [← hl]; simp⟩⟩
    | tail _ h => exact hs.okM x (.tail _ h)
  · intro x hx k hk
    cases hx with
    | head => cases hk; exact hs.own _ (.head _) b rfl
    | tail _ h => exact hs.own x (.tail _ h) k hk
  · have h := List.pairwise_cons.1 hs.dM
    exact List.pairwise_cons.2 ⟨fun x hx k hk => by cases hk; exact h.1 x hx b rfl, h.2⟩
  · intro x hx r hr k hk
    cases hx with
    | head => cases hk; exact hs.dR _ (.head _) r hr b rfl
    | tail _ h => exact hs.dR x (.tail _ h) r hr k hk
def fieldL (s : Bool) : List Value := [.int .i64 (fid s), .int .u64 ((dg 0 (pr s) : Nat) : Int), .int .u64 ((dg 1 (pr s) : Nat) : Int), .int .u64 ((dg 2 (pr s) : Nat) : Int), .int .u64 ((dg 3 (pr s) : Nat) : Int), .int .u64 ((ninv s : Nat) : Int),
  .int .u64 ((dg 0 (rone s) : Nat) : Int), .int .u64 ((dg 1 (rone s) : Nat) : Int), .int .u64 ((dg 2 (rone s) : Nat) : Int), .int .u64 ((dg 3 (rone s) : Nat) : Int), .int .u64 ((dg 0 (rsq s) : Nat) : Int), .int .u64 ((dg 1 (rsq s) : Nat) : Int), .int .u64 ((dg 2 (rsq s) : Nat) : Int), .int .u64 ((dg 3 (rsq s) : Nat) : Int)]
end Go.Proofs.YtdnkkbmpefhbjaaGreatDoor
namespace Go.Proofs.YtdnkkbmpefhbjaaGreatDoor
set_option linter.all false
open Go Go.RowKit
theorem eg47 : Tryz.prog.eqGuardType Tryz.prog.depth 47 = false := by kernel_rfl
theorem fl53 : flq Tryz.prog 53 = some [(0, 1), (1, 1), (2, 1), (3, 1), (4, 1)] := by kernel_rfl
theorem fl112 : flq Tryz.prog 112 = some [(0, 1), (1, 1), (2, 1)] := by kernel_rfl
theorem fl148 : flq Tryz.prog 148 = some [(0, 1), (1, 1), (2, 1)] := by kernel_rfl
theorem fl154 : flq Tryz.prog 154 = some [(0, 1)] := by kernel_rfl
theorem fo16 : (Tryz.f16.name != "runtime.NumGoroutine" && Tryz.f16.body.isSome) = true := by kernel_rfl
theorem fo17 : (Tryz.f17.name != "runtime.NumGoroutine" && Tryz.f17.body.isSome) = true := by kernel_rfl
theorem fo20 : (Tryz.f20.name != "runtime.NumGoroutine" && Tryz.f20.body.isSome) = true := by kernel_rfl
theorem fo21 : (Tryz.f21.name != "runtime.NumGoroutine" && Tryz.f21.body.isSome) = true := by kernel_rfl
theorem fo23 : (Tryz.f23.name != "runtime.NumGoroutine" && Tryz.f23.body.isSome) = true := by kernel_rfl
theorem fo25 : (Tryz.f25.name != "runtime.NumGoroutine" && Tryz.f25.body.isSome) = true := by kernel_rfl
theorem fo26 : (Tryz.f26.name != "runtime.NumGoroutine" && Tryz.f26.body.isSome) = true := by kernel_rfl
theorem fo27 : (Tryz.f27.name != "runtime.NumGoroutine" && Tryz.f27.body.isSome) = true := by kernel_rfl
theorem fo28 : (Tryz.f28.name != "runtime.NumGoroutine" && Tryz.f28.body.isSome) = true := by kernel_rfl
theorem fo29 : (Tryz.f29.name != "runtime.NumGoroutine" && Tryz.f29.body.isSome) = true := by kernel_rfl
theorem fo30 : (Tryz.f30.name != "runtime.NumGoroutine" && Tryz.f30.body.isSome) = true := by kernel_rfl
theorem fo31 : (Tryz.f31.name != "runtime.NumGoroutine" && Tryz.f31.body.isSome) = true := by kernel_rfl
theorem fo43 : (Tryz.f43.name != "runtime.NumGoroutine" && Tryz.f43.body.isSome) = true := by kernel_rfl
theorem fo49 : (Tryz.f49.name != "runtime.NumGoroutine" && Tryz.f49.body.isSome) = true := by kernel_rfl
theorem fo54 : (Tryz.f54.name != "runtime.NumGoroutine" && Tryz.f54.body.isSome) = true := by kernel_rfl
theorem fo55 : (Tryz.f55.name != "runtime.NumGoroutine" && Tryz.f55.body.isSome) = true := by kernel_rfl
theorem fo60 : (Tryz.f60.name != "runtime.NumGoroutine" && Tryz.f60.body.isSome) = true := by kernel_rfl
theorem fo61 : (Tryz.f61.name != "runtime.NumGoroutine" && Tryz.f61.body.isSome) = true := by kernel_rfl
theorem fo62 : (Tryz.f62.name != "runtime.NumGoroutine" && Tryz.f62.body.isSome) = true := by kernel_rfl
theorem fo64 : (Tryz.f64.name != "runtime.NumGoroutine" && Tryz.f64.body.isSome) = true := by kernel_rfl
theorem fo65 : (Tryz.f65.name != "runtime.NumGoroutine" && Tryz.f65.body.isSome) = true := by kernel_rfl
theorem fo66 : (Tryz.f66.name != "runtime.NumGoroutine" && Tryz.f66.body.isSome) = true := by kernel_rfl
theorem fo67 : (Tryz.f67.name != "runtime.NumGoroutine" && Tryz.f67.body.isSome) = true := by kernel_rfl
theorem fo70 : (Tryz.f70.name != "runtime.NumGoroutine" && Tryz.f70.body.isSome) = true := by kernel_rfl
theorem fo71 : (Tryz.f71.name != "runtime.NumGoroutine" && Tryz.f71.body.isSome) = true := by kernel_rfl
theorem fo80 : (Tryz.f80.name != "runtime.NumGoroutine" && Tryz.f80.body.isSome) = true := by kernel_rfl
theorem fo85 : (Tryz.f85.name != "runtime.NumGoroutine" && Tryz.f85.body.isSome) = true := by kernel_rfl
theorem fo88 : (Tryz.f88.name != "runtime.NumGoroutine" && Tryz.f88.body.isSome) = true := by kernel_rfl
theorem fo90 : (Tryz.f90.name != "runtime.NumGoroutine" && Tryz.f90.body.isSome) = true := by kernel_rfl
theorem fo92 : (Tryz.f92.name != "runtime.NumGoroutine" && Tryz.f92.body.isSome) = true := by kernel_rfl
theorem fo93 : (Tryz.f93.name != "runtime.NumGoroutine" && Tryz.f93.body.isSome) = true := by kernel_rfl
theorem fo99 : (Tryz.f99.name != "runtime.NumGoroutine" && Tryz.f99.body.isSome) = true := by kernel_rfl
theorem fo100 : (Tryz.f100.name != "runtime.NumGoroutine" && Tryz.f100.body.isSome) = true := by kernel_rfl
theorem fo101 : (Tryz.f101.name != "runtime.NumGoroutine" && Tryz.f101.body.isSome) = true := by kernel_rfl
theorem fo102 : (Tryz.f102.name != "runtime.NumGoroutine" && Tryz.f102.body.isSome) = true := by kernel_rfl
theorem fo103 : (Tryz.f103.name != "runtime.NumGoroutine" && Tryz.f103.body.isSome) = true := by kernel_rfl
theorem fo105 : (Tryz.f105.name != "runtime.NumGoroutine" && Tryz.f105.body.isSome) = true := by kernel_rfl
theorem fo106 : (Tryz.f106.name != "runtime.NumGoroutine" && Tryz.f106.body.isSome) = true := by kernel_rfl
theorem fo107 : (Tryz.f107.name != "runtime.NumGoroutine" && Tryz.f107.body.isSome) = true := by kernel_rfl
theorem fo108 : (Tryz.f108.name != "runtime.NumGoroutine" && Tryz.f108.body.isSome) = true := by kernel_rfl
theorem fo109 : (Tryz.f109.name != "runtime.NumGoroutine" && Tryz.f109.body.isSome) = true := by kernel_rfl
theorem fo110 : (Tryz.f110.name != "runtime.NumGoroutine" && Tryz.f110.body.isSome) = true := by kernel_rfl
theorem fo116 : (Tryz.f116.name != "runtime.NumGoroutine" && Tryz.f116.body.isSome) = true := by kernel_rfl
theorem fo117 : (Tryz.f117.name != "runtime.NumGoroutine" && Tryz.f117.body.isSome) = true := by kernel_rfl
theorem fo118 : (Tryz.f118.name != "runtime.NumGoroutine" && Tryz.f118.body.isSome) = true := by kernel_rfl
theorem fo119 : (Tryz.f119.name != "runtime.NumGoroutine" && Tryz.f119.body.isSome) = true := by kernel_rfl
theorem fo120 : (Tryz.f120.name != "runtime.NumGoroutine" && Tryz.f120.body.isSome) = true := by kernel_rfl
theorem fo121 : (Tryz.f121.name != "runtime.NumGoroutine" && Tryz.f121.body.isSome) = true := by kernel_rfl
theorem fo123 : (Tryz.f123.name != "runtime.NumGoroutine" && Tryz.f123.body.isSome) = true := by kernel_rfl
theorem fo127 : (Tryz.f127.name != "runtime.NumGoroutine" && Tryz.f127.body.isSome) = true := by kernel_rfl
theorem fo128 : (Tryz.f128.name != "runtime.NumGoroutine" && Tryz.f128.body.isSome) = true := by kernel_rfl
theorem fo135 : (Tryz.f135.name != "runtime.NumGoroutine" && Tryz.f135.body.isSome) = true := by kernel_rfl
theorem fo136 : (Tryz.f136.name != "runtime.NumGoroutine" && Tryz.f136.body.isSome) = true := by kernel_rfl
theorem fo137 : (Tryz.f137.name != "runtime.NumGoroutine" && Tryz.f137.body.isSome) = true := by kernel_rfl
theorem fo139 : (Tryz.f139.name != "runtime.NumGoroutine" && Tryz.f139.body.isSome) = true := by kernel_rfl
theorem fo140 : (Tryz.f140.name != "runtime.NumGoroutine" && Tryz.f140.body.isSome) = true := by kernel_rfl
theorem fo143 : (Tryz.f143.name != "runtime.NumGoroutine" && Tryz.f143.body.isSome) = true := by kernel_rfl
theorem fo144 : (Tryz.f144.name != "runtime.NumGoroutine" && Tryz.f144.body.isSome) = true := by kernel_rfl
theorem fo145 : (Tryz.f145.name != "runtime.NumGoroutine" && Tryz.f145.body.isSome) = true := by kernel_rfl
theorem fo146 : (Tryz.f146.name != "runtime.NumGoroutine" && Tryz.f146.body.isSome) = true := by kernel_rfl
theorem fo147 : (Tryz.f147.name != "runtime.NumGoroutine" && Tryz.f147.body.isSome) = true := by kernel_rfl
theorem fo148 : (Tryz.f148.name != "runtime.NumGoroutine" && Tryz.f148.body.isSome) = true := by kernel_rfl
theorem fo155 : (Tryz.f155.name != "runtime.NumGoroutine" && Tryz.f155.body.isSome) = true := by kernel_rfl
theorem fo160 : (Tryz.f160.name != "runtime.NumGoroutine" && Tryz.f160.body.isSome) = true := by kernel_rfl
theorem fo162 : (Tryz.f162.name != "runtime.NumGoroutine" && Tryz.f162.body.isSome) = true := by kernel_rfl
theorem fo163 : (Tryz.f163.name != "runtime.NumGoroutine" && Tryz.f163.body.isSome) = true := by kernel_rfl
theorem fo164 : (Tryz.f164.name != "runtime.NumGoroutine" && Tryz.f164.body.isSome) = true := by kernel_rfl
theorem fo165 : (Tryz.f165.name != "runtime.NumGoroutine" && Tryz.f165.body.isSome) = true := by kernel_rfl
theorem fo166 : (Tryz.f166.name != "runtime.NumGoroutine" && Tryz.f166.body.isSome) = true := by kernel_rfl
theorem fo167 : (Tryz.f167.name != "runtime.NumGoroutine" && Tryz.f167.body.isSome) = true := by kernel_rfl
theorem fo168 : (Tryz.f168.name != "runtime.NumGoroutine" && Tryz.f168.body.isSome) = true := by kernel_rfl
theorem fo169 : (Tryz.f169.name != "runtime.NumGoroutine" && Tryz.f169.body.isSome) = true := by kernel_rfl
theorem fo177 : (Tryz.f177.name != "runtime.NumGoroutine" && Tryz.f177.body.isSome) = true := by kernel_rfl
theorem fo178 : (Tryz.f178.name != "runtime.NumGoroutine" && Tryz.f178.body.isSome) = true := by kernel_rfl
theorem fo180 : (Tryz.f180.name != "runtime.NumGoroutine" && Tryz.f180.body.isSome) = true := by kernel_rfl
theorem fo181 : (Tryz.f181.name != "runtime.NumGoroutine" && Tryz.f181.body.isSome) = true := by kernel_rfl
theorem fo182 : (Tryz.f182.name != "runtime.NumGoroutine" && Tryz.f182.body.isSome) = true := by kernel_rfl
theorem fo183 : (Tryz.f183.name != "runtime.NumGoroutine" && Tryz.f183.body.isSome) = true := by kernel_rfl
theorem fo184 : (Tryz.f184.name != "runtime.NumGoroutine" && Tryz.f184.body.isSome) = true := by kernel_rfl
theorem fo185 : (Tryz.f185.name != "runtime.NumGoroutine" && Tryz.f185.body.isSome) = true := by kernel_rfl
theorem fq41_0 : fq Tryz.prog 41 0 = some (3, 0) := by kernel_rfl
theorem fq41_1 : fq Tryz.prog 41 1 = some (3, 1) := by kernel_rfl
theorem fq41_2 : fq Tryz.prog 41 2 = some (3, 2) := by kernel_rfl
theorem fq41_3 : fq Tryz.prog 41 3 = some (3, 3) := by kernel_rfl
theorem fq44_0 : fq Tryz.prog 44 0 = some (41, 0) := by kernel_rfl
theorem fq44_1 : fq Tryz.prog 44 1 = some (42, 4) := by kernel_rfl
theorem fq44_2 : fq Tryz.prog 44 2 = some (42, 5) := by kernel_rfl
theorem fq53_0 : fq Tryz.prog 53 0 = some (3, 0) := by kernel_rfl
theorem fq53_1 : fq Tryz.prog 53 1 = some (3, 1) := by kernel_rfl
theorem fq53_2 : fq Tryz.prog 53 2 = some (3, 2) := by kernel_rfl
theorem fq53_3 : fq Tryz.prog 53 3 = some (3, 3) := by kernel_rfl
theorem fq53_4 : fq Tryz.prog 53 4 = some (51, 4) := by kernel_rfl
theorem fq110_0 : fq Tryz.prog 110 0 = some (108, 0) := by kernel_rfl
theorem fq110_1 : fq Tryz.prog 110 1 = some (3, 1) := by kernel_rfl
theorem fq120_1 : fq Tryz.prog 120 1 = some (47, 1) := by kernel_rfl
theorem fq120_3 : fq Tryz.prog 120 3 = some (56, 6) := by kernel_rfl
theorem fq154_0 : fq Tryz.prog 154 0 = some (42, 0) := by kernel_rfl
theorem ty3 : tq Tryz.prog 3 = some (false, 1, 8) := by kernel_rfl
theorem ty4 : tq Tryz.prog 4 = some (false, 1, 1) := by kernel_rfl
theorem ty5 : tq Tryz.prog 5 = some (false, 1, 1) := by kernel_rfl
theorem ty22 : tq Tryz.prog 22 = some (false, 1, 24) := by kernel_rfl
theorem ty34 : tq Tryz.prog 34 = some (false, 1, 24) := by kernel_rfl
theorem ty41 : tq Tryz.prog 41 = some (true, 4, 32) := by kernel_rfl
theorem ty42 : tq Tryz.prog 42 = some (false, 1, 24) := by kernel_rfl
theorem ty46 : tq Tryz.prog 46 = some (false, 1, 8) := by kernel_rfl
theorem ty47 : tq Tryz.prog 47 = some (true, 4, 32) := by kernel_rfl
theorem ty51 : tq Tryz.prog 51 = some (false, 1, 24) := by kernel_rfl
theorem ty53 : tq Tryz.prog 53 = some (true, 5, 56) := by kernel_rfl
theorem ty56 : tq Tryz.prog 56 = some (true, 4, 32) := by kernel_rfl
theorem ty60 : tq Tryz.prog 60 = some (false, 1, 8) := by kernel_rfl
theorem ty72 : tq Tryz.prog 72 = some (false, 1, 24) := by kernel_rfl
theorem ty91 : tq Tryz.prog 91 = some (false, 1, 24) := by kernel_rfl
theorem ty108 : tq Tryz.prog 108 = some (false, 1, 24) := by kernel_rfl
theorem ty112 : tq Tryz.prog 112 = some (true, 3, 24) := by kernel_rfl
theorem ty120 : tq Tryz.prog 120 = some (true, 14, 112) := by kernel_rfl
theorem ty148 : tq Tryz.prog 148 = some (true, 3, 24) := by kernel_rfl
theorem ty157 : tq Tryz.prog 157 = some (false, 1, 8) := by kernel_rfl
theorem ty192 : tq Tryz.prog 192 = some (false, 1, 8) := by kernel_rfl
theorem ty211 : tq Tryz.prog 211 = some (false, 1, 8) := by kernel_rfl
theorem ty220 : tq Tryz.prog 220 = some (true, 64, 512) := by kernel_rfl
theorem zr3 : zq Tryz.prog 3 = some (.int .i64 0) := by kernel_rfl
theorem zr4 : zq Tryz.prog 4 = some (.bool false) := by kernel_rfl
theorem zr34 : zq Tryz.prog 34 = some (.slice none 0 0) := by kernel_rfl
theorem zr46 : zq Tryz.prog 46 = some (.int .u64 0) := by kernel_rfl
theorem zr47 : zq Tryz.prog 47 = some (.agg #[.int .u64 0, .int .u64 0, .int .u64 0, .int .u64 0]) := by kernel_rfl
theorem zr51 : zq Tryz.prog 51 = some (.slice none 0 0) := by kernel_rfl
theorem zr53 : zq Tryz.prog 53 = some (.agg #[.int .i64 0, .int .i64 0, .int .i64 0, .int .i64 0, .slice none 0 0]) := by kernel_rfl
theorem zr56 : zq Tryz.prog 56 = some (.agg #[.int .u64 0, .int .u64 0, .int .u64 0, .int .u64 0]) := by kernel_rfl
theorem zr72 : zq Tryz.prog 72 = some (.slice none 0 0) := by kernel_rfl
theorem zr91 : zq Tryz.prog 91 = some (.slice none 0 0) := by kernel_rfl
theorem zr112 : zq Tryz.prog 112 = some (.agg #[.int .i64 0, .int .i64 0, .int .i64 0]) := by kernel_rfl
theorem zr120 : zq Tryz.prog 120 = some (.agg #[.int .i64 0, .int .u64 0, .int .u64 0, .int .u64 0, .int .u64 0, .int .u64 0, .int .u64 0, .int .u64 0, .int .u64 0, .int .u64 0, .int .u64 0, .int .u64 0, .int .u64 0, .int .u64 0]) := by kernel_rfl
theorem zr148 : zq Tryz.prog 148 = some (.agg #[.int .i64 0, .int .i64 0, .int .i64 0]) := by kernel_rfl
theorem zr154 : zq Tryz.prog 154 = some (.agg #[.slice none 0 0]) := by kernel_rfl
theorem zr157 : zq Tryz.prog 157 = some (.pointer none) := by kernel_rfl
theorem zr158 : zq Tryz.prog 158 = some (.agg #[.int .i64 0, .int .i64 0, .int .i64 0, .int .i64 0, .int .i64 0, .int .i64 0, .int .i64 0, .int .i64 0, .int .i64 0, .int .i64 0, .int .i64 0, .int .i64 0, .int .i64 0, .int .i64 0, .int .i64 0, .int .i64 0, .int .i64 0, .int .i64 0, .int .i64 0, .int .i64 0, .int .i64 0, .int .i64 0, .int .i64 0, .int .i64 0, .int .i64 0, .int .i64 0, .int .i64 0, .int .i64 0, .int .i64 0, .int .i64 0, .int .i64 0, .int .i64 0, .int .i64 0, .int .i64 0, .int .i64 0, .int .i64 0, .int .i64 0, .int .i64 0, .int .i64 0, .int .i64 0, .int .i64 0, .int .i64 0, .int .i64 0, .int .i64 0, .int .i64 0, .int .i64 0, .int .i64 0, .int .i64 0, .int .i64 0, .int .i64 0, .int .i64 0, .int .i64 0, .int .i64 0, .int .i64 0, .int .i64 0, .int .i64 0, .int .i64 0, .int .i64 0, .int .i64 0, .int .i64 0, .int .i64 0, .int .i64 0, .int .i64 0, .int .i64 0, .int .i64 0, .int .i64 0, .int .i64 0, .int .i64 0, .int .i64 0, .int .i64 0, .int .i64 0, .int .i64 0, .int .i64 0, .int .i64 0, .int .i64 0, .int .i64 0, .int .i64 0, .int .i64 0, .int .i64 0, .int .i64 0, .int .i64 0, .int .i64 0, .int .i64 0, .int .i64 0, .int .i64 0, .int .i64 0, .int .i64 0, .int .i64 0, .int .i64 0, .int .i64 0, .int .i64 0, .int .i64 0, .int .i64 0, .int .i64 0, .int .i64 0, .int .i64 0, .int .i64 0, .int .i64 0, .int .i64 0, .int .i64 0, .int .i64 0, .int .i64 0, .int .i64 0, .int .i64 0, .int .i64 0, .int .i64 0, .int .i64 0, .int .i64 0, .int .i64 0, .int .i64 0, .int .i64 0, .int .i64 0, .int .i64 0, .int .i64 0, .int .i64 0, .int .i64 0, .int .i64 0, .int .i64 0, .int .i64 0, .int .i64 0, .int .i64 0, .int .i64 0, .int .i64 0, .int .i64 0, .int .i64 0, .int .i64 0, .int .i64 0, .int .i64 0, .int .i64 0, .int .i64 0, .int .i64 0, .int .i64 0, .int .i64 0, .int .i64 0, .int .i64 0, .int .i64 0, .int .i64 0, .int .i64 0, .int .i64 0, .int .i64 0, .int .i64 0, .int .i64 0, .int .i64 0, .int .i64 0, .int .i64 0, .int .i64 0, .int .i64 0, .int .i64 0, .int .i64 0, .int .i64 0, .int .i64 0, .int .i64 0, .int .i64 0, .int .i64 0, .int .i64 0, .int .i64 0, .int .i64 0, .int .i64 0, .int .i64 0, .int .i64 0, .int .i64 0, .int .i64 0, .int .i64 0, .int .i64 0, .int .i64 0, .int .i64 0, .int .i64 0, .int .i64 0, .int .i64 0, .int .i64 0, .int .i64 0, .int .i64 0, .int .i64 0, .int .i64 0, .int .i64 0, .int .i64 0, .int .i64 0, .int .i64 0, .int .i64 0, .int .i64 0, .int .i64 0, .int .i64 0, .int .i64 0, .int .i64 0, .int .i64 0, .int .i64 0, .int .i64 0, .int .i64 0, .int .i64 0, .int .i64 0, .int .i64 0, .int .i64 0]) := by kernel_rfl
theorem zr220 : zq Tryz.prog 220 = some (.agg #[.int .u64 0, .int .u64 0, .int .u64 0, .int .u64 0, .int .u64 0, .int .u64 0, .int .u64 0, .int .u64 0, .int .u64 0, .int .u64 0, .int .u64 0, .int .u64 0, .int .u64 0, .int .u64 0, .int .u64 0, .int .u64 0, .int .u64 0, .int .u64 0, .int .u64 0, .int .u64 0, .int .u64 0, .int .u64 0, .int .u64 0, .int .u64 0, .int .u64 0, .int .u64 0, .int .u64 0, .int .u64 0, .int .u64 0, .int .u64 0, .int .u64 0, .int .u64 0, .int .u64 0, .int .u64 0, .int .u64 0, .int .u64 0, .int .u64 0, .int .u64 0, .int .u64 0, .int .u64 0, .int .u64 0, .int .u64 0, .int .u64 0, .int .u64 0, .int .u64 0, .int .u64 0, .int .u64 0, .int .u64 0, .int .u64 0, .int .u64 0, .int .u64 0, .int .u64 0, .int .u64 0, .int .u64 0, .int .u64 0, .int .u64 0, .int .u64 0, .int .u64 0, .int .u64 0, .int .u64 0, .int .u64 0, .int .u64 0, .int .u64 0, .int .u64 0]) := by kernel_rfl
end Go.Proofs.YtdnkkbmpefhbjaaGreatDoor
namespace Go.Proofs.YtdnkkbmpefhbjaaGreatDoor
set_option linter.all false
open Go Go.RowKit
def uc (x : Nat) : List Value := [.int .u64 ((x : Nat) : Int)]
theorem uc_len (x : Nat) : (uc x).length = 1 := rfl
section
variable {P : Program} {G : List (Nat × Value)} {w : World} {d : Option Nat} {T : Nat} {p : String} {e : Array Edge} {g : Option (Nat × Bool)} {x y : Operand} {tx ty : TypeId} {a : Int} {k : IntKind}
theorem w_neg (hx : evq G x = some (.int k a)) : Wq P G ⟨d, .unOp .neg tx x, T, p, e, g⟩ (.int k (k.wrap (-a))) w w := .of1 hx fun ev h => by simp [execOp, h, Op.unary, Sem.run_pure, go_sem]
theorem w_cpl (hx : evq G x = some (.int .u64 a)) : Wq P G ⟨d, .unOp .xor tx x, T, p, e, g⟩ (.int .u64 (bits .xor .u64 IntKind.u64.max a)) w w := .of1 hx fun ev h => by simp [execOp, h, Op.unary, Sem.run_pure, go_sem, IntKind.max, IntKind.signed]
end
theorem getD_mem {l : List Nat} {k : Nat} (h : k < l.length) : l.getD k 0 ∈ l := by
  rw [show l.getD k 0 = l[k] by simp [List.getD, h]]; exact List.getElem_mem h
def orl (l : List Nat) : Nat := l.foldl (· ||| ·) 0
theorem foldl_or_lt : ∀ (l : List Nat) (a : Nat), a < W → (∀ x ∈ l, x < W) → l.foldl (· ||| ·) a < W
  | [], a, h, _ => h
  | x :: l, a, h, hl => foldl_or_lt l _ (or_lt_W h (hl x (.head _))) fun y hy => hl y (.tail _ hy)
theorem orl_lt {l : List Nat} (hl : ∀ x ∈ l, x < W) : orl l < W := foldl_or_lt l 0 (by decide) hl
theorem orl_take {l : List Nat} {k : Nat} (h : k < l.length) : orl (l.take (k + 1)) = orl (l.take k) ||| l.getD k 0 := by
  unfold orl
  rw [List.take_succ_eq_append_getElem h, List.foldl_append]
  simp [List.getD, h]
theorem foldl_or_zero : ∀ (l : List Nat) (a : Nat), l.foldl (· ||| ·) a = 0 ↔ a = 0 ∧ ∀ x ∈ l, x = 0
  | [], a => by simp
  | x :: l, a => by
    rw [List.foldl_cons, foldl_or_zero l]
    simp [Nat.or_eq_zero_iff, and_assoc]
theorem orl_zero (l : List Nat) : orl l = 0 ↔ ∀ x ∈ l, x = 0 := by unfold orl; rw [foldl_or_zero]; simp
theorem mb_isz (z : Nat) : ((mb (isz z) : Nat) : Int) = am (decide (z = 0)) := by
  unfold mb isz am
  by_cases h : z = 0
  · subst h; decide
  · simp [h]
theorem maskIsZ_c (la : Option Addr) (n lc : Nat) (l : List Nat) (W : World) (H1 : LstAt W 1 (.slice la n lc) n (el uc l)) (hl : ∀ x ∈ l, x < Go.Proofs.YtdnkkbmpefhbjaaGreatDoor.W) (hn : n ≤ 1000000000) : Calls Tryz.prog 155 [.slice la n lc].toArray W fun e w => e = .returned (.int .u64 (am (decide (orl l = 0)))) ∧ Below W.heap.size W w := by
 have e1 : n = l.length := by have h := H1.len; rw [el_len uc_len] at h; omega
 have hor : ∀ k, orl (l.take k) < Go.Proofs.YtdnkkbmpefhbjaaGreatDoor.W := fun k => orl_lt fun x hx => hl x (List.mem_of_mem_take hx)
 refine c_enter (args := [.slice la n lc]) Tryz.func155 rfl rfl rfl fun a hk => ?_
 have hs := Sat.start W [lst 1 (.slice la n lc) n (el uc l)] (okr1 H1)
 refine wS (wR ?_)
 refine q_v hk (w_as rfl) fun a hk => ?_
 refine c_end (x_t (wS (wR ?_)))
 refine q_v hk (w_as rfl) fun a hk => ?_
 refine c_end (x_t (wS (wS (wR ?_))))
 refine q_v hk (w_mv rfl) fun a hk => ?_
 refine q_v hk (w_len rfl Tryz.underlying91) fun a hk => ?_
 refine q_v hk (w_mv rfl) fun a hk => ?_
 refine c_end (x_t ?_)
 refine wpIn_block ?_
 refine c_loop (α := Nat) (fun k a w => k ≤ n ∧ Kn [] 23 [(8, .int .i64 (k : Int)), (3, .int .u64 ((orl (l.take k) : Nat) : Int)), (7, .int .i64 ((n : Nat) : Int)), (6, .slice la n lc), (2, .int .u64 0)] a ∧ Sat no W [] [lst 1 (.slice la n lc) n (el uc l)] w) (fun k => n - k) 0 ?_ ?_
 · exact ⟨(by omega), hk.k rfl (hk.k rfl (hk.k rfl (hk.k rfl (hk.k rfl hk.nil)))), hs⟩
 rintro k a w ⟨hf0, hk, hs⟩
 refine wS (wR ?_)
 rcases Classical.em ((k : Int) < ((n : Nat) : Int)) with hc1 | hc1
 ·
  refine q_v hk (w_lt rfl rfl (decide_eq_true hc1)) fun a hk => ?_
  refine c_end (x_t (wS ?_))
  refine c_T hk rfl ?_
  refine (wpIn_skip (x_t ?_))
  refine wS ?_
  refine wpIn_block ?_
  refine wS (wR ?_)
  refine q_v hk (w_iaL (k := k) rfl rfl Tryz.underlying91 ty46 (hs.ri 0 rfl) (by omega) (by omega)) fun a hk => ?_
  refine q_v hk (w_ld1 rfl ty46 (lstq (k := k) (hs.ri 0 rfl) (by omega) (el_chunk uc_len (by omega) 0))) fun a hk => ?_
  refine q_v hk (w_as rfl) fun a hk => ?_
  refine c_end (x_t (wR ?_))
  refine q_v hk (w_mv rfl) fun a hk => ?_
  refine q_v hk (w_mv rfl) fun a hk => ?_
  refine q_v hk (w_bit (op := .or) (by simp) rfl rfl (u64_or_nat _ _ (hor k) (hl _ (getD_mem (by omega))))) fun a hk => ?_
  refine q_v hk (w_as rfl) fun a hk => ?_
  refine (c_end (x_b (x_t ?_)))
  refine wR ?_
  refine q_v hk (w_add rfl rfl (wr64 (by omega) (by omega))) fun a hk => ?_
  refine q_v hk (w_mv rfl) fun a hk => ?_
  refine c_end (x_t ?_)
  rw [← orl_take (by omega)] at hk
  exact ⟨k + 1, ⟨(by omega), hk.k rfl (hk.k rfl (hk.k rfl (hk.k rfl (hk.k rfl hk.nil)))), hs⟩, by omega⟩
 ·
  rw [List.take_of_length_le (by omega)] at hk
  refine q_v hk (w_lt rfl rfl (decide_eq_false hc1)) fun a hk => ?_
  refine c_end (x_t (wS ?_))
  refine c_F hk rfl ?_
  refine (wpIn_exit (x_te (x_te (x_be ?_))))
  refine (x_t ?_)
  refine wS (wR ?_)
  refine q_v hk (w_mv rfl) fun a hk => ?_
  refine q_v hk (w_mv rfl) fun a hk => ?_
  refine q_v hk (w_neg rfl) fun a hk => ?_
  refine q_v hk (w_bit (op := .or) (by simp) rfl rfl rfl) fun a hk => ?_
  refine q_v hk (w_cpl rfl) fun a hk => ?_
  refine q_v hk (w_shr (r := (bits BinOp.xor IntKind.u64 IntKind.u64.max (bits BinOp.or IntKind.u64 ((orl l : Nat) : Int) (IntKind.u64.wrap (-((orl l : Nat) : Int))))) / 9223372036854775808) rfl rfl (by decide) rfl) fun a hk => ?_
  rw [isz_val (orl_lt hl)] at hk
  refine q_call (caps := []) hk rfl rfl Tryz.func162 fo162 rfl rfl (fromBit_c (isz (orl l)) (isz_lt _) _) ?_
  rintro _ _ ⟨rfl, rfl⟩
  refine ⟨_, rfl, fun a hk => ?_⟩
  refine q_v hk (w_as rfl) fun a hk => ?_
  refine c_end (x_t ?_)
  refine (wpIn_ret ?_)
  refine c_ret1 hk rfl rfl ?_
  exact ⟨by rw [← mb_isz], hs.toBelow⟩
theorem orl_xor {i k : Nat} : (orl [i ^^^ k] = 0) ↔ i = k := by
  rw [orl_zero]
  simp only [List.mem_singleton, forall_eq]
  refine ⟨fun h => ?_, fun h => by subst h; exact Nat.xor_self i⟩
  have : i ^^^ k ^^^ k = k := by rw [h, Nat.zero_xor]
  rw [Nat.xor_assoc, Nat.xor_self, Nat.xor_zero] at this
  exact this
theorem xor_ltW {a b : Nat} (ha : a < Go.Proofs.YtdnkkbmpefhbjaaGreatDoor.W) (hb : b < Go.Proofs.YtdnkkbmpefhbjaaGreatDoor.W) : a ^^^ b < Go.Proofs.YtdnkkbmpefhbjaaGreatDoor.W := xor_lt_W ha hb
theorem maskEq_c (i k : Nat) (W : World) (hi : i < Go.Proofs.YtdnkkbmpefhbjaaGreatDoor.W) (hk' : k < Go.Proofs.YtdnkkbmpefhbjaaGreatDoor.W) : Calls Tryz.prog 185 [.int .u64 ((i : Nat) : Int), .int .u64 ((k : Nat) : Int)].toArray W fun e w => e = .returned (.int .u64 (am (decide (i = k)))) ∧ Below W.heap.size W w := by
 refine c_enter (args := [.int .u64 ((i : Nat) : Int), .int .u64 ((k : Nat) : Int)]) Tryz.func185 rfl rfl rfl fun a hk => ?_
 have hs := Sat.start W [] (fun _ h => by cases h)
 refine wS (wR ?_)
 refine q_v hk (w_as rfl) fun a hk => ?_
 refine c_end (x_t (wS (wR ?_)))
 refine q_v hk (w_mv rfl) fun a hk => ?_
 refine q_v hk (w_mv rfl) fun a hk => ?_
 refine q_v hk (w_bit (op := .xor) (by simp) rfl rfl (u64_xor_nat i k hi hk')) fun a hk => ?_
 refine q_bsl (els := [.tmp 7]) (cs := [.int .u64 ((i ^^^ k : Nat) : Int)]) hk hs rfl Tryz.underlying91 ty46 zr46 rfl rfl rfl rfl rfl rfl rfl fun b1 w a hk hs => ?_
 refine q_call (caps := []) hk rfl rfl Tryz.func155 fo155 rfl rfl (maskIsZ_c _ 1 1 [i ^^^ k] _ (blk_lst (hs.mi 0 rfl) rfl (Nat.le_refl _)) (fun x hx => by rcases List.mem_singleton.1 hx with rfl; exact xor_ltW hi hk') (by decide)) ?_
 rintro _ w ⟨rfl, hb⟩
 have hs := hs.below hb
 refine ⟨_, rfl, fun a hk => ?_⟩
 refine q_v hk (w_as rfl) fun a hk => ?_
 refine c_end (x_t ?_)
 refine (wpIn_ret ?_)
 refine c_ret1 hk rfl rfl ?_
 exact ⟨by rw [decide_eq_decide.2 orl_xor], hs.toBelow⟩
section
variable {s : Bool} (w : World)
theorem zisz_c {a : Nat} {x : Zp s} (ha : a = mq x) : Calls Tryz.prog 166 #[vec a] w fun e w' => e = .returned (.int .u64 (am (decide (x = 0)))) ∧ Below w.heap.size w w' := by
  subst ha
  rw [← decide_eq_decide.2 (mq_eq_zero (x := x)), ← mb_isz]
  exact montIsZero_c (mq x) (mq_lt4 x) w
theorem zchoose_c {m : Int} (b : Bool) {x y : Nat} (hm : m = am b) (hx : x < R4) (hy : y < R4) : Calls Tryz.prog 165 #[.int .u64 m, vec x, vec y] w fun e w' => e = .returned (vec (if b then x else y)) ∧ Below w.heap.size w w' := by
  have h := montChoose_c (if b then 18446744073709551615 else 0) x y (by cases b <;> decide) hx hy w
  rw [zsel (b := b) (by cases b <;> rfl)] at h
  subst hm
  have e : am b = (((if b then 18446744073709551615 else 0 : Nat)) : Int) := by cases b <;> rfl
  rw [e]
  exact h
end
/-! The bits of an exponent. -/
theorem dg_bits {e i : Nat} (he : e < R4) (hi : i < 64) : dg (i / 16) e / 2 ^ (4 * i % 64) % 16 = e / 2 ^ (4 * i) % 16 := by
  have h1 : dg (i / 16) e = e / 2 ^ (64 * (i / 16)) % 2 ^ 64 := by
    unfold dg W
    have h : i / 16 = 0 ∨ i / 16 = 1 ∨ i / 16 = 2 ∨ i / 16 = 3 := by omega
    rcases h with h | h | h | h <;> rw [h]
  rw [h1, show 2 ^ 64 = 2 ^ (4 * i % 64) * 2 ^ (64 - 4 * i % 64) by rw [← Nat.pow_add]; congr 1; omega, Nat.mod_mul_right_div_self, Nat.div_div_eq_div_mul, ← Nat.pow_add, show 64 * (i / 16) + 4 * i % 64 = 4 * i by omega]
  refine Nat.mod_mod_of_dvd _ ?_
  rw [show (16 : Nat) = 2 ^ 4 from rfl]
  exact Nat.pow_dvd_pow 2 (by omega)
theorem and15 (x : Nat) : x &&& 15 = x % 16 := Nat.and_two_pow_sub_one_eq_mod x 4
end Go.Proofs.YtdnkkbmpefhbjaaGreatDoor
