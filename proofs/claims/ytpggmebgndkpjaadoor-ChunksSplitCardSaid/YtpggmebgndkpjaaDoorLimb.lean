/- Contracts of package limb. -/
import Derived.Test.YtpggmebgndkpjaaDoorApply
namespace Go.Proofs.YtpggmebgndkpjaaDoor
set_option linter.all false
open Go.RowKit

set_option maxHeartbeats 400000 in
theorem limbSub_c (a b : Nat) (ha : a < R4) (hb : b < R4) (w : World) :
    Calls Tryd.prog 127 #[vec a, vec b] w fun e w' => e = .returned (.tuple #[vec (subV a b), .int .u64 ((subC a b : Nat) : Int)]) ∧ Below w.heap.size w w' := by
  have he := Lib.hid (chain_sub ha hb)
  go_enter Tryd.func127, Tryd.ntmps127
  go_wp2_with fail
  refine Calls.mono (apply_c 129 subLo subHi (fun x y c w hc => sub64_c x y c hc w) (fun _ _ _ _ _ _ => subHi_le _ _ _) subLo_lt a b _) ?_
  rintro _ w1 ⟨rfl, h1⟩
  obtain ⟨c1, f1, s1⟩ := bfacts h1
  try simp only [World.size_alloc, World.size_setCell, size_drew, size_drewN] at s1
  go_wp2_with fail
  rw [he.out.1, he.out.2]
  refine bodyPost_ret (v := .tuple #[vec (subV a b), .int .u64 ((subC a b : Nat) : Int)]) (by simp only [results, Tryd.results127]; go_simp) rfl ⟨rfl, ?_⟩
  repeat first
    | with_reducible exact Below.refl _ _
    | with_reducible refine Below.drew ?_
    | with_reducible refine below_dN ?_
    | with_reducible refine Below.alloc ?_ (by first | omega | (simp; done) | (simp; omega)) _
    | with_reducible refine Below.setCell ?_ (by first | omega | (simp; done) | (simp; omega)) _
    | with_reducible refine Below.trans ?_ (Below.mono (by assumption) (by first | omega | (simp; done) | (simp; omega)))

set_option maxRecDepth 100000 in
set_option maxHeartbeats 1000000 in
theorem limbChoose_c (s a b : Nat) (hs : s < W) (ha : a < R4) (hb : b < R4) (w : World) :
    Calls Tryd.prog 128 #[.int .u64 (s : Int), vec a, vec b] w fun e w' => e = .returned (vec (sel s a b)) ∧ Below w.heap.size w w' := by
  have he := Lib.hid (sel_vec s a b)
  have Hs := Lib.hid hs
  clear hs ha hb
  go_enter Tryd.func128, Tryd.ntmps128
  go_wp2_with fail
  refine Calls.mono (fromBit_c s Hs.out _) ?_
  rintro _ _ ⟨rfl, rfl⟩
  go_wp2_with fail
  refine wp_loop_rounds 5 ?_
  rw [rounds_succ]
  go_wp2_with fail
  refine region_mix 10 [false, false, false, false, false, false, false, false, false, false] (fun w' => w' = World.drew _) (by kernel_rfl) (by kernel_rfl) (by intro _ _ d _ _ h; cases d <;> exact h) rfl ?_
  simp only [List.take_succ_cons, List.take_zero, List.drop_succ_cons, List.drop_zero]
  with_reducible refine mix_v ?_ ?_ ?_
  · rfl
  · rfl
  apply Exists.intro
  refine ⟨fun w' hC => ?_, ?_⟩
  · subst hC
    go_simp
    rfl
  try simp only [Act.put, List.setIfInBounds_toArray, List.set_cons_zero, List.set_cons_succ, List.tail_cons]
  with_reducible refine mix_v ?_ ?_ ?_
  · rfl
  · rfl
  apply Exists.intro
  refine ⟨fun w' hC => ?_, ?_⟩
  · subst hC
    go_simp
    rfl
  try simp only [Act.put, List.setIfInBounds_toArray, List.set_cons_zero, List.set_cons_succ, List.tail_cons]
  with_reducible refine mix_v ?_ ?_ ?_
  · rfl
  · rfl
  apply Exists.intro
  refine ⟨fun w' hC => ?_, ?_⟩
  · subst hC
    go_simp
    rfl
  try simp only [Act.put, List.setIfInBounds_toArray, List.set_cons_zero, List.set_cons_succ, List.tail_cons]
  with_reducible refine mix_v ?_ ?_ ?_
  · rfl
  · rfl
  apply Exists.intro
  refine ⟨fun w' hC => ?_, ?_⟩
  · subst hC
    go_simp
    rfl
  try simp only [Act.put, List.setIfInBounds_toArray, List.set_cons_zero, List.set_cons_succ, List.tail_cons]
  with_reducible refine mix_v ?_ ?_ ?_
  · rfl
  · rfl
  apply Exists.intro
  refine ⟨fun w' hC => ?_, ?_⟩
  · subst hC
    go_simp
    rfl
  try simp only [Act.put, List.setIfInBounds_toArray, List.set_cons_zero, List.set_cons_succ, List.tail_cons]
  with_reducible refine mix_v ?_ ?_ ?_
  · rfl
  · rfl
  apply Exists.intro
  refine ⟨fun w' hC => ?_, ?_⟩
  · subst hC
    go_simp
    rfl
  try simp only [Act.put, List.setIfInBounds_toArray, List.set_cons_zero, List.set_cons_succ, List.tail_cons]
  with_reducible refine mix_v ?_ ?_ ?_
  · rfl
  · rfl
  apply Exists.intro
  refine ⟨fun w' hC => ?_, ?_⟩
  · subst hC
    go_simp
    rfl
  try simp only [Act.put, List.setIfInBounds_toArray, List.set_cons_zero, List.set_cons_succ, List.tail_cons]
  with_reducible refine mix_v ?_ ?_ ?_
  · rfl
  · rfl
  apply Exists.intro
  refine ⟨fun w' hC => ?_, ?_⟩
  · subst hC
    go_simp
    rfl
  try simp only [Act.put, List.setIfInBounds_toArray, List.set_cons_zero, List.set_cons_succ, List.tail_cons]
  with_reducible refine mix_c ?_ ?_ ?_
  · rfl
  · rfl
  apply Exists.intro
  apply Exists.intro
  apply Exists.intro
  refine ⟨fun w' hC => ?_, fun w' hC => ?_, ?_⟩
  · subst hC
    go_simp
    exact ⟨rfl, rfl⟩
  · subst hC
    exact same_of (maskChoose_c s _ _ (dg_lt _ _) (dg_lt _ _) _)
  try simp only [Act.put, List.setIfInBounds_toArray, List.set_cons_zero, List.set_cons_succ, List.tail_cons]
  with_reducible refine mix_v ?_ ?_ ?_
  · rfl
  · rfl
  apply Exists.intro
  refine ⟨fun w' hC => ?_, ?_⟩
  · subst hC
    go_simp
    rfl
  try simp only [Act.put, List.setIfInBounds_toArray, List.set_cons_zero, List.set_cons_succ, List.tail_cons]
  refine mix_nil ?_
  rintro _ rfl
  go_wp2_with fail
  rw [rounds_succ]
  go_wp2_with fail
  refine region_mix 10 [false, false, false, false, false, false, false, false, false, false] (fun w' => w' = World.drew _) (by kernel_rfl) (by kernel_rfl) (by intro _ _ d _ _ h; cases d <;> exact h) rfl ?_
  simp only [List.take_succ_cons, List.take_zero, List.drop_succ_cons, List.drop_zero]
  with_reducible refine mix_v ?_ ?_ ?_
  · rfl
  · rfl
  apply Exists.intro
  refine ⟨fun w' hC => ?_, ?_⟩
  · subst hC
    go_simp
    rfl
  try simp only [Act.put, List.setIfInBounds_toArray, List.set_cons_zero, List.set_cons_succ, List.tail_cons]
  with_reducible refine mix_v ?_ ?_ ?_
  · rfl
  · rfl
  apply Exists.intro
  refine ⟨fun w' hC => ?_, ?_⟩
  · subst hC
    go_simp
    rfl
  try simp only [Act.put, List.setIfInBounds_toArray, List.set_cons_zero, List.set_cons_succ, List.tail_cons]
  with_reducible refine mix_v ?_ ?_ ?_
  · rfl
  · rfl
  apply Exists.intro
  refine ⟨fun w' hC => ?_, ?_⟩
  · subst hC
    go_simp
    rfl
  try simp only [Act.put, List.setIfInBounds_toArray, List.set_cons_zero, List.set_cons_succ, List.tail_cons]
  with_reducible refine mix_v ?_ ?_ ?_
  · rfl
  · rfl
  apply Exists.intro
  refine ⟨fun w' hC => ?_, ?_⟩
  · subst hC
    go_simp
    rfl
  try simp only [Act.put, List.setIfInBounds_toArray, List.set_cons_zero, List.set_cons_succ, List.tail_cons]
  with_reducible refine mix_v ?_ ?_ ?_
  · rfl
  · rfl
  apply Exists.intro
  refine ⟨fun w' hC => ?_, ?_⟩
  · subst hC
    go_simp
    rfl
  try simp only [Act.put, List.setIfInBounds_toArray, List.set_cons_zero, List.set_cons_succ, List.tail_cons]
  with_reducible refine mix_v ?_ ?_ ?_
  · rfl
  · rfl
  apply Exists.intro
  refine ⟨fun w' hC => ?_, ?_⟩
  · subst hC
    go_simp
    rfl
  try simp only [Act.put, List.setIfInBounds_toArray, List.set_cons_zero, List.set_cons_succ, List.tail_cons]
  with_reducible refine mix_v ?_ ?_ ?_
  · rfl
  · rfl
  apply Exists.intro
  refine ⟨fun w' hC => ?_, ?_⟩
  · subst hC
    go_simp
    rfl
  try simp only [Act.put, List.setIfInBounds_toArray, List.set_cons_zero, List.set_cons_succ, List.tail_cons]
  with_reducible refine mix_v ?_ ?_ ?_
  · rfl
  · rfl
  apply Exists.intro
  refine ⟨fun w' hC => ?_, ?_⟩
  · subst hC
    go_simp
    rfl
  try simp only [Act.put, List.setIfInBounds_toArray, List.set_cons_zero, List.set_cons_succ, List.tail_cons]
  with_reducible refine mix_c ?_ ?_ ?_
  · rfl
  · rfl
  apply Exists.intro
  apply Exists.intro
  apply Exists.intro
  refine ⟨fun w' hC => ?_, fun w' hC => ?_, ?_⟩
  · subst hC
    go_simp
    exact ⟨rfl, rfl⟩
  · subst hC
    exact same_of (maskChoose_c s _ _ (dg_lt _ _) (dg_lt _ _) _)
  try simp only [Act.put, List.setIfInBounds_toArray, List.set_cons_zero, List.set_cons_succ, List.tail_cons]
  with_reducible refine mix_v ?_ ?_ ?_
  · rfl
  · rfl
  apply Exists.intro
  refine ⟨fun w' hC => ?_, ?_⟩
  · subst hC
    go_simp
    rfl
  try simp only [Act.put, List.setIfInBounds_toArray, List.set_cons_zero, List.set_cons_succ, List.tail_cons]
  refine mix_nil ?_
  rintro _ rfl
  go_wp2_with fail
  rw [rounds_succ]
  go_wp2_with fail
  refine region_mix 10 [false, false, false, false, false, false, false, false, false, false] (fun w' => w' = World.drew _) (by kernel_rfl) (by kernel_rfl) (by intro _ _ d _ _ h; cases d <;> exact h) rfl ?_
  simp only [List.take_succ_cons, List.take_zero, List.drop_succ_cons, List.drop_zero]
  with_reducible refine mix_v ?_ ?_ ?_
  · rfl
  · rfl
  apply Exists.intro
  refine ⟨fun w' hC => ?_, ?_⟩
  · subst hC
    go_simp
    rfl
  try simp only [Act.put, List.setIfInBounds_toArray, List.set_cons_zero, List.set_cons_succ, List.tail_cons]
  with_reducible refine mix_v ?_ ?_ ?_
  · rfl
  · rfl
  apply Exists.intro
  refine ⟨fun w' hC => ?_, ?_⟩
  · subst hC
    go_simp
    rfl
  try simp only [Act.put, List.setIfInBounds_toArray, List.set_cons_zero, List.set_cons_succ, List.tail_cons]
  with_reducible refine mix_v ?_ ?_ ?_
  · rfl
  · rfl
  apply Exists.intro
  refine ⟨fun w' hC => ?_, ?_⟩
  · subst hC
    go_simp
    rfl
  try simp only [Act.put, List.setIfInBounds_toArray, List.set_cons_zero, List.set_cons_succ, List.tail_cons]
  with_reducible refine mix_v ?_ ?_ ?_
  · rfl
  · rfl
  apply Exists.intro
  refine ⟨fun w' hC => ?_, ?_⟩
  · subst hC
    go_simp
    rfl
  try simp only [Act.put, List.setIfInBounds_toArray, List.set_cons_zero, List.set_cons_succ, List.tail_cons]
  with_reducible refine mix_v ?_ ?_ ?_
  · rfl
  · rfl
  apply Exists.intro
  refine ⟨fun w' hC => ?_, ?_⟩
  · subst hC
    go_simp
    rfl
  try simp only [Act.put, List.setIfInBounds_toArray, List.set_cons_zero, List.set_cons_succ, List.tail_cons]
  with_reducible refine mix_v ?_ ?_ ?_
  · rfl
  · rfl
  apply Exists.intro
  refine ⟨fun w' hC => ?_, ?_⟩
  · subst hC
    go_simp
    rfl
  try simp only [Act.put, List.setIfInBounds_toArray, List.set_cons_zero, List.set_cons_succ, List.tail_cons]
  with_reducible refine mix_v ?_ ?_ ?_
  · rfl
  · rfl
  apply Exists.intro
  refine ⟨fun w' hC => ?_, ?_⟩
  · subst hC
    go_simp
    rfl
  try simp only [Act.put, List.setIfInBounds_toArray, List.set_cons_zero, List.set_cons_succ, List.tail_cons]
  with_reducible refine mix_v ?_ ?_ ?_
  · rfl
  · rfl
  apply Exists.intro
  refine ⟨fun w' hC => ?_, ?_⟩
  · subst hC
    go_simp
    rfl
  try simp only [Act.put, List.setIfInBounds_toArray, List.set_cons_zero, List.set_cons_succ, List.tail_cons]
  with_reducible refine mix_c ?_ ?_ ?_
  · rfl
  · rfl
  apply Exists.intro
  apply Exists.intro
  apply Exists.intro
  refine ⟨fun w' hC => ?_, fun w' hC => ?_, ?_⟩
  · subst hC
    go_simp
    exact ⟨rfl, rfl⟩
  · subst hC
    exact same_of (maskChoose_c s _ _ (dg_lt _ _) (dg_lt _ _) _)
  try simp only [Act.put, List.setIfInBounds_toArray, List.set_cons_zero, List.set_cons_succ, List.tail_cons]
  with_reducible refine mix_v ?_ ?_ ?_
  · rfl
  · rfl
  apply Exists.intro
  refine ⟨fun w' hC => ?_, ?_⟩
  · subst hC
    go_simp
    rfl
  try simp only [Act.put, List.setIfInBounds_toArray, List.set_cons_zero, List.set_cons_succ, List.tail_cons]
  refine mix_nil ?_
  rintro _ rfl
  go_wp2_with fail
  rw [rounds_succ]
  go_wp2_with fail
  refine region_mix 10 [false, false, false, false, false, false, false, false, false, false] (fun w' => w' = World.drew _) (by kernel_rfl) (by kernel_rfl) (by intro _ _ d _ _ h; cases d <;> exact h) rfl ?_
  simp only [List.take_succ_cons, List.take_zero, List.drop_succ_cons, List.drop_zero]
  with_reducible refine mix_v ?_ ?_ ?_
  · rfl
  · rfl
  apply Exists.intro
  refine ⟨fun w' hC => ?_, ?_⟩
  · subst hC
    go_simp
    rfl
  try simp only [Act.put, List.setIfInBounds_toArray, List.set_cons_zero, List.set_cons_succ, List.tail_cons]
  with_reducible refine mix_v ?_ ?_ ?_
  · rfl
  · rfl
  apply Exists.intro
  refine ⟨fun w' hC => ?_, ?_⟩
  · subst hC
    go_simp
    rfl
  try simp only [Act.put, List.setIfInBounds_toArray, List.set_cons_zero, List.set_cons_succ, List.tail_cons]
  with_reducible refine mix_v ?_ ?_ ?_
  · rfl
  · rfl
  apply Exists.intro
  refine ⟨fun w' hC => ?_, ?_⟩
  · subst hC
    go_simp
    rfl
  try simp only [Act.put, List.setIfInBounds_toArray, List.set_cons_zero, List.set_cons_succ, List.tail_cons]
  with_reducible refine mix_v ?_ ?_ ?_
  · rfl
  · rfl
  apply Exists.intro
  refine ⟨fun w' hC => ?_, ?_⟩
  · subst hC
    go_simp
    rfl
  try simp only [Act.put, List.setIfInBounds_toArray, List.set_cons_zero, List.set_cons_succ, List.tail_cons]
  with_reducible refine mix_v ?_ ?_ ?_
  · rfl
  · rfl
  apply Exists.intro
  refine ⟨fun w' hC => ?_, ?_⟩
  · subst hC
    go_simp
    rfl
  try simp only [Act.put, List.setIfInBounds_toArray, List.set_cons_zero, List.set_cons_succ, List.tail_cons]
  with_reducible refine mix_v ?_ ?_ ?_
  · rfl
  · rfl
  apply Exists.intro
  refine ⟨fun w' hC => ?_, ?_⟩
  · subst hC
    go_simp
    rfl
  try simp only [Act.put, List.setIfInBounds_toArray, List.set_cons_zero, List.set_cons_succ, List.tail_cons]
  with_reducible refine mix_v ?_ ?_ ?_
  · rfl
  · rfl
  apply Exists.intro
  refine ⟨fun w' hC => ?_, ?_⟩
  · subst hC
    go_simp
    rfl
  try simp only [Act.put, List.setIfInBounds_toArray, List.set_cons_zero, List.set_cons_succ, List.tail_cons]
  with_reducible refine mix_v ?_ ?_ ?_
  · rfl
  · rfl
  apply Exists.intro
  refine ⟨fun w' hC => ?_, ?_⟩
  · subst hC
    go_simp
    rfl
  try simp only [Act.put, List.setIfInBounds_toArray, List.set_cons_zero, List.set_cons_succ, List.tail_cons]
  with_reducible refine mix_c ?_ ?_ ?_
  · rfl
  · rfl
  apply Exists.intro
  apply Exists.intro
  apply Exists.intro
  refine ⟨fun w' hC => ?_, fun w' hC => ?_, ?_⟩
  · subst hC
    go_simp
    exact ⟨rfl, rfl⟩
  · subst hC
    exact same_of (maskChoose_c s _ _ (dg_lt _ _) (dg_lt _ _) _)
  try simp only [Act.put, List.setIfInBounds_toArray, List.set_cons_zero, List.set_cons_succ, List.tail_cons]
  with_reducible refine mix_v ?_ ?_ ?_
  · rfl
  · rfl
  apply Exists.intro
  refine ⟨fun w' hC => ?_, ?_⟩
  · subst hC
    go_simp
    rfl
  try simp only [Act.put, List.setIfInBounds_toArray, List.set_cons_zero, List.set_cons_succ, List.tail_cons]
  refine mix_nil ?_
  rintro _ rfl
  go_wp2_with fail
  rw [rounds_succ]
  go_wp2_with fail
  rw [he.out]
  refine bodyPost_ret (v := .agg #[.int .u64 ((sel s (dg 0 a) (dg 0 b) : Nat) : Int), .int .u64 ((sel s (dg 1 a) (dg 1 b) : Nat) : Int), .int .u64 ((sel s (dg 2 a) (dg 2 b) : Nat) : Int), .int .u64 ((sel s (dg 3 a) (dg 3 b) : Nat) : Int)]) (by simp only [results, Tryd.results128]; go_simp) rfl ⟨rfl, ?_⟩
  repeat first
    | with_reducible exact Below.refl _ _
    | with_reducible refine Below.drew ?_
    | with_reducible refine below_dN ?_
    | with_reducible refine Below.alloc ?_ (by first | omega | (simp; done) | (simp; omega)) _
    | with_reducible refine Below.setCell ?_ (by first | omega | (simp; done) | (simp; omega)) _
    | with_reducible refine Below.trans ?_ (Below.mono (by assumption) (by first | omega | (simp; done) | (simp; omega)))
end Go.Proofs.YtpggmebgndkpjaaDoor
