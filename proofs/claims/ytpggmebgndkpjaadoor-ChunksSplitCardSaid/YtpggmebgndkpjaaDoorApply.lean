/- The contract of limb.chain.apply. -/
import Derived.Test.YtpggmebgndkpjaaDoorLeaf
import Derived.Test.YtpggmebgndkpjaaDoorRegion
namespace Go.Proofs.YtpggmebgndkpjaaDoor
set_option linter.all false
open Go.RowKit

set_option maxRecDepth 100000 in
set_option maxHeartbeats 1000000 in
theorem apply_c (f : Nat) (lo hi : Nat → Nat → Nat → Nat) (hstep : ∀ (x y c : Nat) (w : World), c ≤ 1 → (callFunc f #[.int .u64 (x : Int), .int .u64 (y : Int), .int .u64 (c : Int)]).run Tryd.prog w =
      .ok (.value (.tuple #[.int .u64 ((lo x y c : Nat) : Int), .int .u64 ((hi x y c : Nat) : Int)])) w) (hle : ∀ x y c, x < W → y < W → c ≤ 1 → hi x y c ≤ 1) (hlo : ∀ x y c, lo x y c < W) (a b : Nat) (w : World) :
    Calls Tryd.prog 130 #[.agg #[.func (.func f) #[] #[]], vec a, vec b] w fun e w' => e = .returned (.tuple #[vec (chV lo hi a b), .int .u64 ((chC hi a b : Nat) : Int)]) ∧ Below w.heap.size w w' := by
  have h0 : ∀ (x y : Nat) (w : World), (callFunc f #[.int .u64 (x : Int), .int .u64 (y : Int), .int .u64 0]).run Tryd.prog w =
      .ok (.value (.tuple #[.int .u64 ((lo x y 0 : Nat) : Int), .int .u64 ((hi x y 0 : Nat) : Int)])) w := fun x y w => hstep x y 0 w (by omega)
  have k1 : hi (dg 0 a) (dg 0 b) 0 ≤ 1 := hle _ _ _ (dg_lt _ _) (dg_lt _ _) (by omega)
  have k2 : hi (dg 1 a) (dg 1 b) (hi (dg 0 a) (dg 0 b) 0) ≤ 1 := hle _ _ _ (dg_lt _ _) (dg_lt _ _) k1
  have k3 : hi (dg 2 a) (dg 2 b) (hi (dg 1 a) (dg 1 b) (hi (dg 0 a) (dg 0 b) 0)) ≤ 1 := hle _ _ _ (dg_lt _ _) (dg_lt _ _) k2
  clear hle
  have Hlo := Lib.hid hlo
  clear hlo
  go_enter Tryd.func130, Tryd.ntmps130
  go_wp2_with fail
  refine wp_loop_rounds 5 ?_
  rw [rounds_succ]
  go_wp2_with fail
  refine region_mix 15 [false, false, false, false, false, false, false, false, false, false, false, false, false, true, false] (fun w' => w' = World.drew _) (by kernel_rfl) (by kernel_rfl) (by intro _ _ d _ _ h; cases d <;> exact h) rfl ?_
  simp only [List.take_succ_cons, List.take_zero, List.drop_succ_cons, List.drop_zero]
  with_reducible refine mix_v ?_ ?_ ?_
  · rfl
  · rfl
  apply Exists.intro
  refine ⟨fun w' hC => ?_, ?_⟩
  · subst hC
    go_simp
    rfl
  try simp only [Act.put, List.setIfInBounds_toArray, List.set_cons_zero, List.set_cons_succ, List.tail_cons]
  with_reducible refine mix_v ?_ ?_ ?_
  · rfl
  · rfl
  apply Exists.intro
  refine ⟨fun w' hC => ?_, ?_⟩
  · subst hC
    go_simp
    rfl
  try simp only [Act.put, List.setIfInBounds_toArray, List.set_cons_zero, List.set_cons_succ, List.tail_cons]
  with_reducible refine mix_v ?_ ?_ ?_
  · rfl
  · rfl
  apply Exists.intro
  refine ⟨fun w' hC => ?_, ?_⟩
  · subst hC
    go_simp
    rfl
  try simp only [Act.put, List.setIfInBounds_toArray, List.set_cons_zero, List.set_cons_succ, List.tail_cons]
  with_reducible refine mix_v ?_ ?_ ?_
  · rfl
  · rfl
  apply Exists.intro
  refine ⟨fun w' hC => ?_, ?_⟩
  · subst hC
    go_simp
    rfl
  try simp only [Act.put, List.setIfInBounds_toArray, List.set_cons_zero, List.set_cons_succ, List.tail_cons]
  with_reducible refine mix_v ?_ ?_ ?_
  · rfl
  · rfl
  apply Exists.intro
  refine ⟨fun w' hC => ?_, ?_⟩
  · subst hC
    go_simp
    rfl
  try simp only [Act.put, List.setIfInBounds_toArray, List.set_cons_zero, List.set_cons_succ, List.tail_cons]
  with_reducible refine mix_v ?_ ?_ ?_
  · rfl
  · rfl
  apply Exists.intro
  refine ⟨fun w' hC => ?_, ?_⟩
  · subst hC
    go_simp
    rfl
  try simp only [Act.put, List.setIfInBounds_toArray, List.set_cons_zero, List.set_cons_succ, List.tail_cons]
  with_reducible refine mix_v ?_ ?_ ?_
  · rfl
  · rfl
  apply Exists.intro
  refine ⟨fun w' hC => ?_, ?_⟩
  · subst hC
    go_simp
    rfl
  try simp only [Act.put, List.setIfInBounds_toArray, List.set_cons_zero, List.set_cons_succ, List.tail_cons]
  with_reducible refine mix_v ?_ ?_ ?_
  · rfl
  · rfl
  apply Exists.intro
  refine ⟨fun w' hC => ?_, ?_⟩
  · subst hC
    go_simp
    rfl
  try simp only [Act.put, List.setIfInBounds_toArray, List.set_cons_zero, List.set_cons_succ, List.tail_cons]
  with_reducible refine mix_v ?_ ?_ ?_
  · rfl
  · rfl
  apply Exists.intro
  refine ⟨fun w' hC => ?_, ?_⟩
  · subst hC
    go_simp
    rfl
  try simp only [Act.put, List.setIfInBounds_toArray, List.set_cons_zero, List.set_cons_succ, List.tail_cons]
  with_reducible refine mix_v ?_ ?_ ?_
  · rfl
  · rfl
  apply Exists.intro
  refine ⟨fun w' hC => ?_, ?_⟩
  · subst hC
    go_simp
    rfl
  try simp only [Act.put, List.setIfInBounds_toArray, List.set_cons_zero, List.set_cons_succ, List.tail_cons]
  with_reducible refine mix_v ?_ ?_ ?_
  · rfl
  · rfl
  apply Exists.intro
  refine ⟨fun w' hC => ?_, ?_⟩
  · subst hC
    rw [call_slot (f := f) (first := #[]) (captured := #[]) rfl]
    go_simp
    rfl
  try simp only [Act.put, List.setIfInBounds_toArray, List.set_cons_zero, List.set_cons_succ, List.tail_cons]
  with_reducible refine mix_v ?_ ?_ ?_
  · rfl
  · rfl
  apply Exists.intro
  refine ⟨fun w' hC => ?_, ?_⟩
  · subst hC
    go_simp
    rfl
  try simp only [Act.put, List.setIfInBounds_toArray, List.set_cons_zero, List.set_cons_succ, List.tail_cons]
  with_reducible refine mix_v ?_ ?_ ?_
  · rfl
  · rfl
  apply Exists.intro
  refine ⟨fun w' hC => ?_, ?_⟩
  · subst hC
    go_simp
    rfl
  try simp only [Act.put, List.setIfInBounds_toArray, List.set_cons_zero, List.set_cons_succ, List.tail_cons]
  with_reducible refine mix_f ?_ ?_
  · rfl
  apply Exists.intro
  refine ⟨fun w' => ?_, ?_⟩
  · go_simp
    rfl
  try simp only [Act.put, List.setIfInBounds_toArray, List.set_cons_zero, List.set_cons_succ, List.tail_cons]
  with_reducible refine mix_v ?_ ?_ ?_
  · rfl
  · rfl
  apply Exists.intro
  refine ⟨fun w' hC => ?_, ?_⟩
  · subst hC
    go_simp
    rfl
  try simp only [Act.put, List.setIfInBounds_toArray, List.set_cons_zero, List.set_cons_succ, List.tail_cons]
  refine mix_nil ?_
  rintro _ rfl
  go_wp2_with fail
  rw [rounds_succ]
  go_wp2_with fail
  refine region_mix 15 [false, false, false, false, false, false, false, false, false, false, false, false, false, true, false] (fun w' => w' = World.drew _) (by kernel_rfl) (by kernel_rfl) (by intro _ _ d _ _ h; cases d <;> exact h) rfl ?_
  simp only [List.take_succ_cons, List.take_zero, List.drop_succ_cons, List.drop_zero]
  with_reducible refine mix_v ?_ ?_ ?_
  · rfl
  · rfl
  apply Exists.intro
  refine ⟨fun w' hC => ?_, ?_⟩
  · subst hC
    go_simp
    rfl
  try simp only [Act.put, List.setIfInBounds_toArray, List.set_cons_zero, List.set_cons_succ, List.tail_cons]
  with_reducible refine mix_v ?_ ?_ ?_
  · rfl
  · rfl
  apply Exists.intro
  refine ⟨fun w' hC => ?_, ?_⟩
  · subst hC
    go_simp
    rfl
  try simp only [Act.put, List.setIfInBounds_toArray, List.set_cons_zero, List.set_cons_succ, List.tail_cons]
  with_reducible refine mix_v ?_ ?_ ?_
  · rfl
  · rfl
  apply Exists.intro
  refine ⟨fun w' hC => ?_, ?_⟩
  · subst hC
    go_simp
    rfl
  try simp only [Act.put, List.setIfInBounds_toArray, List.set_cons_zero, List.set_cons_succ, List.tail_cons]
  with_reducible refine mix_v ?_ ?_ ?_
  · rfl
  · rfl
  apply Exists.intro
  refine ⟨fun w' hC => ?_, ?_⟩
  · subst hC
    go_simp
    rfl
  try simp only [Act.put, List.setIfInBounds_toArray, List.set_cons_zero, List.set_cons_succ, List.tail_cons]
  with_reducible refine mix_v ?_ ?_ ?_
  · rfl
  · rfl
  apply Exists.intro
  refine ⟨fun w' hC => ?_, ?_⟩
  · subst hC
    go_simp
    rfl
  try simp only [Act.put, List.setIfInBounds_toArray, List.set_cons_zero, List.set_cons_succ, List.tail_cons]
  with_reducible refine mix_v ?_ ?_ ?_
  · rfl
  · rfl
  apply Exists.intro
  refine ⟨fun w' hC => ?_, ?_⟩
  · subst hC
    go_simp
    rfl
  try simp only [Act.put, List.setIfInBounds_toArray, List.set_cons_zero, List.set_cons_succ, List.tail_cons]
  with_reducible refine mix_v ?_ ?_ ?_
  · rfl
  · rfl
  apply Exists.intro
  refine ⟨fun w' hC => ?_, ?_⟩
  · subst hC
    go_simp
    rfl
  try simp only [Act.put, List.setIfInBounds_toArray, List.set_cons_zero, List.set_cons_succ, List.tail_cons]
  with_reducible refine mix_v ?_ ?_ ?_
  · rfl
  · rfl
  apply Exists.intro
  refine ⟨fun w' hC => ?_, ?_⟩
  · subst hC
    go_simp
    rfl
  try simp only [Act.put, List.setIfInBounds_toArray, List.set_cons_zero, List.set_cons_succ, List.tail_cons]
  with_reducible refine mix_v ?_ ?_ ?_
  · rfl
  · rfl
  apply Exists.intro
  refine ⟨fun w' hC => ?_, ?_⟩
  · subst hC
    go_simp
    rfl
  try simp only [Act.put, List.setIfInBounds_toArray, List.set_cons_zero, List.set_cons_succ, List.tail_cons]
  with_reducible refine mix_v ?_ ?_ ?_
  · rfl
  · rfl
  apply Exists.intro
  refine ⟨fun w' hC => ?_, ?_⟩
  · subst hC
    go_simp
    rfl
  try simp only [Act.put, List.setIfInBounds_toArray, List.set_cons_zero, List.set_cons_succ, List.tail_cons]
  with_reducible refine mix_v ?_ ?_ ?_
  · rfl
  · rfl
  apply Exists.intro
  refine ⟨fun w' hC => ?_, ?_⟩
  · subst hC
    rw [call_slot (f := f) (first := #[]) (captured := #[]) rfl]
    go_simp
    rfl
  try simp only [Act.put, List.setIfInBounds_toArray, List.set_cons_zero, List.set_cons_succ, List.tail_cons]
  with_reducible refine mix_v ?_ ?_ ?_
  · rfl
  · rfl
  apply Exists.intro
  refine ⟨fun w' hC => ?_, ?_⟩
  · subst hC
    go_simp
    rfl
  try simp only [Act.put, List.setIfInBounds_toArray, List.set_cons_zero, List.set_cons_succ, List.tail_cons]
  with_reducible refine mix_v ?_ ?_ ?_
  · rfl
  · rfl
  apply Exists.intro
  refine ⟨fun w' hC => ?_, ?_⟩
  · subst hC
    go_simp
    rfl
  try simp only [Act.put, List.setIfInBounds_toArray, List.set_cons_zero, List.set_cons_succ, List.tail_cons]
  with_reducible refine mix_f ?_ ?_
  · rfl
  apply Exists.intro
  refine ⟨fun w' => ?_, ?_⟩
  · go_simp
    rfl
  try simp only [Act.put, List.setIfInBounds_toArray, List.set_cons_zero, List.set_cons_succ, List.tail_cons]
  with_reducible refine mix_v ?_ ?_ ?_
  · rfl
  · rfl
  apply Exists.intro
  refine ⟨fun w' hC => ?_, ?_⟩
  · subst hC
    go_simp
    rfl
  try simp only [Act.put, List.setIfInBounds_toArray, List.set_cons_zero, List.set_cons_succ, List.tail_cons]
  refine mix_nil ?_
  rintro _ rfl
  go_wp2_with fail
  rw [rounds_succ]
  go_wp2_with fail
  refine region_mix 15 [false, false, false, false, false, false, false, false, false, false, false, false, false, true, false] (fun w' => w' = World.drew _) (by kernel_rfl) (by kernel_rfl) (by intro _ _ d _ _ h; cases d <;> exact h) rfl ?_
  simp only [List.take_succ_cons, List.take_zero, List.drop_succ_cons, List.drop_zero]
  with_reducible refine mix_v ?_ ?_ ?_
  · rfl
  · rfl
  apply Exists.intro
  refine ⟨fun w' hC => ?_, ?_⟩
  · subst hC
    go_simp
    rfl
  try simp only [Act.put, List.setIfInBounds_toArray, List.set_cons_zero, List.set_cons_succ, List.tail_cons]
  with_reducible refine mix_v ?_ ?_ ?_
  · rfl
  · rfl
  apply Exists.intro
  refine ⟨fun w' hC => ?_, ?_⟩
  · subst hC
    go_simp
    rfl
  try simp only [Act.put, List.setIfInBounds_toArray, List.set_cons_zero, List.set_cons_succ, List.tail_cons]
  with_reducible refine mix_v ?_ ?_ ?_
  · rfl
  · rfl
  apply Exists.intro
  refine ⟨fun w' hC => ?_, ?_⟩
  · subst hC
    go_simp
    rfl
  try simp only [Act.put, List.setIfInBounds_toArray, List.set_cons_zero, List.set_cons_succ, List.tail_cons]
  with_reducible refine mix_v ?_ ?_ ?_
  · rfl
  · rfl
  apply Exists.intro
  refine ⟨fun w' hC => ?_, ?_⟩
  · subst hC
    go_simp
    rfl
  try simp only [Act.put, List.setIfInBounds_toArray, List.set_cons_zero, List.set_cons_succ, List.tail_cons]
  with_reducible refine mix_v ?_ ?_ ?_
  · rfl
  · rfl
  apply Exists.intro
  refine ⟨fun w' hC => ?_, ?_⟩
  · subst hC
    go_simp
    rfl
  try simp only [Act.put, List.setIfInBounds_toArray, List.set_cons_zero, List.set_cons_succ, List.tail_cons]
  with_reducible refine mix_v ?_ ?_ ?_
  · rfl
  · rfl
  apply Exists.intro
  refine ⟨fun w' hC => ?_, ?_⟩
  · subst hC
    go_simp
    rfl
  try simp only [Act.put, List.setIfInBounds_toArray, List.set_cons_zero, List.set_cons_succ, List.tail_cons]
  with_reducible refine mix_v ?_ ?_ ?_
  · rfl
  · rfl
  apply Exists.intro
  refine ⟨fun w' hC => ?_, ?_⟩
  · subst hC
    go_simp
    rfl
  try simp only [Act.put, List.setIfInBounds_toArray, List.set_cons_zero, List.set_cons_succ, List.tail_cons]
  with_reducible refine mix_v ?_ ?_ ?_
  · rfl
  · rfl
  apply Exists.intro
  refine ⟨fun w' hC => ?_, ?_⟩
  · subst hC
    go_simp
    rfl
  try simp only [Act.put, List.setIfInBounds_toArray, List.set_cons_zero, List.set_cons_succ, List.tail_cons]
  with_reducible refine mix_v ?_ ?_ ?_
  · rfl
  · rfl
  apply Exists.intro
  refine ⟨fun w' hC => ?_, ?_⟩
  · subst hC
    go_simp
    rfl
  try simp only [Act.put, List.setIfInBounds_toArray, List.set_cons_zero, List.set_cons_succ, List.tail_cons]
  with_reducible refine mix_v ?_ ?_ ?_
  · rfl
  · rfl
  apply Exists.intro
  refine ⟨fun w' hC => ?_, ?_⟩
  · subst hC
    go_simp
    rfl
  try simp only [Act.put, List.setIfInBounds_toArray, List.set_cons_zero, List.set_cons_succ, List.tail_cons]
  with_reducible refine mix_v ?_ ?_ ?_
  · rfl
  · rfl
  apply Exists.intro
  refine ⟨fun w' hC => ?_, ?_⟩
  · subst hC
    rw [call_slot (f := f) (first := #[]) (captured := #[]) rfl]
    go_simp
    rfl
  try simp only [Act.put, List.setIfInBounds_toArray, List.set_cons_zero, List.set_cons_succ, List.tail_cons]
  with_reducible refine mix_v ?_ ?_ ?_
  · rfl
  · rfl
  apply Exists.intro
  refine ⟨fun w' hC => ?_, ?_⟩
  · subst hC
    go_simp
    rfl
  try simp only [Act.put, List.setIfInBounds_toArray, List.set_cons_zero, List.set_cons_succ, List.tail_cons]
  with_reducible refine mix_v ?_ ?_ ?_
  · rfl
  · rfl
  apply Exists.intro
  refine ⟨fun w' hC => ?_, ?_⟩
  · subst hC
    go_simp
    rfl
  try simp only [Act.put, List.setIfInBounds_toArray, List.set_cons_zero, List.set_cons_succ, List.tail_cons]
  with_reducible refine mix_f ?_ ?_
  · rfl
  apply Exists.intro
  refine ⟨fun w' => ?_, ?_⟩
  · go_simp
    rfl
  try simp only [Act.put, List.setIfInBounds_toArray, List.set_cons_zero, List.set_cons_succ, List.tail_cons]
  with_reducible refine mix_v ?_ ?_ ?_
  · rfl
  · rfl
  apply Exists.intro
  refine ⟨fun w' hC => ?_, ?_⟩
  · subst hC
    go_simp
    rfl
  try simp only [Act.put, List.setIfInBounds_toArray, List.set_cons_zero, List.set_cons_succ, List.tail_cons]
  refine mix_nil ?_
  rintro _ rfl
  go_wp2_with fail
  rw [rounds_succ]
  go_wp2_with fail
  refine region_mix 15 [false, false, false, false, false, false, false, false, false, false, false, false, false, true, false] (fun w' => w' = World.drew _) (by kernel_rfl) (by kernel_rfl) (by intro _ _ d _ _ h; cases d <;> exact h) rfl ?_
  simp only [List.take_succ_cons, List.take_zero, List.drop_succ_cons, List.drop_zero]
  with_reducible refine mix_v ?_ ?_ ?_
  · rfl
  · rfl
  apply Exists.intro
  refine ⟨fun w' hC => ?_, ?_⟩
  · subst hC
    go_simp
    rfl
  try simp only [Act.put, List.setIfInBounds_toArray, List.set_cons_zero, List.set_cons_succ, List.tail_cons]
  with_reducible refine mix_v ?_ ?_ ?_
  · rfl
  · rfl
  apply Exists.intro
  refine ⟨fun w' hC => ?_, ?_⟩
  · subst hC
    go_simp
    rfl
  try simp only [Act.put, List.setIfInBounds_toArray, List.set_cons_zero, List.set_cons_succ, List.tail_cons]
  with_reducible refine mix_v ?_ ?_ ?_
  · rfl
  · rfl
  apply Exists.intro
  refine ⟨fun w' hC => ?_, ?_⟩
  · subst hC
    go_simp
    rfl
  try simp only [Act.put, List.setIfInBounds_toArray, List.set_cons_zero, List.set_cons_succ, List.tail_cons]
  with_reducible refine mix_v ?_ ?_ ?_
  · rfl
  · rfl
  apply Exists.intro
  refine ⟨fun w' hC => ?_, ?_⟩
  · subst hC
    go_simp
    rfl
  try simp only [Act.put, List.setIfInBounds_toArray, List.set_cons_zero, List.set_cons_succ, List.tail_cons]
  with_reducible refine mix_v ?_ ?_ ?_
  · rfl
  · rfl
  apply Exists.intro
  refine ⟨fun w' hC => ?_, ?_⟩
  · subst hC
    go_simp
    rfl
  try simp only [Act.put, List.setIfInBounds_toArray, List.set_cons_zero, List.set_cons_succ, List.tail_cons]
  with_reducible refine mix_v ?_ ?_ ?_
  · rfl
  · rfl
  apply Exists.intro
  refine ⟨fun w' hC => ?_, ?_⟩
  · subst hC
    go_simp
    rfl
  try simp only [Act.put, List.setIfInBounds_toArray, List.set_cons_zero, List.set_cons_succ, List.tail_cons]
  with_reducible refine mix_v ?_ ?_ ?_
  · rfl
  · rfl
  apply Exists.intro
  refine ⟨fun w' hC => ?_, ?_⟩
  · subst hC
    go_simp
    rfl
  try simp only [Act.put, List.setIfInBounds_toArray, List.set_cons_zero, List.set_cons_succ, List.tail_cons]
  with_reducible refine mix_v ?_ ?_ ?_
  · rfl
  · rfl
  apply Exists.intro
  refine ⟨fun w' hC => ?_, ?_⟩
  · subst hC
    go_simp
    rfl
  try simp only [Act.put, List.setIfInBounds_toArray, List.set_cons_zero, List.set_cons_succ, List.tail_cons]
  with_reducible refine mix_v ?_ ?_ ?_
  · rfl
  · rfl
  apply Exists.intro
  refine ⟨fun w' hC => ?_, ?_⟩
  · subst hC
    go_simp
    rfl
  try simp only [Act.put, List.setIfInBounds_toArray, List.set_cons_zero, List.set_cons_succ, List.tail_cons]
  with_reducible refine mix_v ?_ ?_ ?_
  · rfl
  · rfl
  apply Exists.intro
  refine ⟨fun w' hC => ?_, ?_⟩
  · subst hC
    go_simp
    rfl
  try simp only [Act.put, List.setIfInBounds_toArray, List.set_cons_zero, List.set_cons_succ, List.tail_cons]
  with_reducible refine mix_v ?_ ?_ ?_
  · rfl
  · rfl
  apply Exists.intro
  refine ⟨fun w' hC => ?_, ?_⟩
  · subst hC
    rw [call_slot (f := f) (first := #[]) (captured := #[]) rfl]
    go_simp
    rfl
  try simp only [Act.put, List.setIfInBounds_toArray, List.set_cons_zero, List.set_cons_succ, List.tail_cons]
  with_reducible refine mix_v ?_ ?_ ?_
  · rfl
  · rfl
  apply Exists.intro
  refine ⟨fun w' hC => ?_, ?_⟩
  · subst hC
    go_simp
    rfl
  try simp only [Act.put, List.setIfInBounds_toArray, List.set_cons_zero, List.set_cons_succ, List.tail_cons]
  with_reducible refine mix_v ?_ ?_ ?_
  · rfl
  · rfl
  apply Exists.intro
  refine ⟨fun w' hC => ?_, ?_⟩
  · subst hC
    go_simp
    rfl
  try simp only [Act.put, List.setIfInBounds_toArray, List.set_cons_zero, List.set_cons_succ, List.tail_cons]
  with_reducible refine mix_f ?_ ?_
  · rfl
  apply Exists.intro
  refine ⟨fun w' => ?_, ?_⟩
  · go_simp
    rfl
  try simp only [Act.put, List.setIfInBounds_toArray, List.set_cons_zero, List.set_cons_succ, List.tail_cons]
  with_reducible refine mix_v ?_ ?_ ?_
  · rfl
  · rfl
  apply Exists.intro
  refine ⟨fun w' hC => ?_, ?_⟩
  · subst hC
    go_simp
    rfl
  try simp only [Act.put, List.setIfInBounds_toArray, List.set_cons_zero, List.set_cons_succ, List.tail_cons]
  refine mix_nil ?_
  rintro _ rfl
  go_wp2_with fail
  rw [rounds_succ]
  go_wp2_with fail
  refine bodyPost_ret (v := .tuple #[vec (chV lo hi a b), .int .u64 ((chC hi a b : Nat) : Int)]) (by
    unfold chV; rw [vec_val4 (Hlo.out _ _ _) (Hlo.out _ _ _) (Hlo.out _ _ _) (Hlo.out _ _ _)]
    unfold chC chC3 chC2 chC1
    simp [results, Tryd.results130, go_sem]) rfl ⟨rfl, ?_⟩
  exact (((((((Below.refl _ _).alloc (Nat.le_refl _) _).alloc (by simp) _).alloc (by simp; omega) _).alloc (by simp; omega) _).drew).drew).drew.drew

end Go.Proofs.YtpggmebgndkpjaaDoor
