/- The contract of law 5's alive: the examples of the chapter hold. -/
import Derived.Test.YtpebojiijgkadaaDoorLaw5
import Derived.Test.YtpebojiijgkadaaDoorHeld
import Derived.Test.YtpebojiijgkadaaDoorEql
namespace Go.Proofs.YtpebojiijgkadaaDoor
set_option linter.all false
open Go.RowKit

abbrev lit4 (a b c d : Nat) : Value := .agg #[.int .u64 (a : Int), .int .u64 (b : Int), .int .u64 (c : Int), .int .u64 (d : Int)]
theorem vec_of {n a b c d : Nat} (h0 : dg 0 n = a) (h1 : dg 1 n = b) (h2 : dg 2 n = c) (h3 : dg 3 n = d) : vec n = lit4 a b c d := by subst h0 h1 h2 h3; rfl
theorem v1 : vec 1 = .agg #[.int .u64 1, .int .u64 0, .int .u64 0, .int .u64 0] := vec_of (a := 1) (b := 0) (c := 0) (d := 0) (by decide) (by decide) (by decide) (by decide)
theorem v2 : vec 2 = .agg #[.int .u64 2, .int .u64 0, .int .u64 0, .int .u64 0] := vec_of (a := 2) (b := 0) (c := 0) (d := 0) (by decide) (by decide) (by decide) (by decide)
theorem v38 : vec 38 = .agg #[.int .u64 38, .int .u64 0, .int .u64 0, .int .u64 0] := vec_of (a := 38) (b := 0) (c := 0) (d := 0) (by decide) (by decide) (by decide) (by decide)
theorem to1 (w : World) : Calls Tryd.prog 23 #[fieldV false, .agg #[.int .u64 1, .int .u64 0, .int .u64 0, .int .u64 0]] w fun e w' => e = .returned (.agg #[.int .u64 38, .int .u64 0, .int .u64 0, .int .u64 0]) ∧ Below w.heap.size w w' := by
  have h := montTo_c false 1 (by decide) w
  rwa [show mm false 1 (rsq false) = 38 by decide, v1, v38] at h
theorem to2 (w : World) : Calls Tryd.prog 23 #[fieldV false, .agg #[.int .u64 2, .int .u64 0, .int .u64 0, .int .u64 0]] w fun e w' => e = .returned (vec 76) ∧ Below w.heap.size w w' := by
  have h := montTo_c false 2 (by decide) w
  rwa [show mm false 2 (rsq false) = 76 by decide, v2] at h
theorem from38 (w : World) : Calls Tryd.prog 24 #[fieldV false, .agg #[.int .u64 38, .int .u64 0, .int .u64 0, .int .u64 0]] w fun e w' => e = .returned (.agg #[.int .u64 1, .int .u64 0, .int .u64 0, .int .u64 0]) ∧ Below w.heap.size w w' := by
  have h := montFrom_c false 38 (by decide) w
  rwa [show mm false 38 1 = 1 by decide, v1, v38] at h
theorem neg38 (w : World) : Calls Tryd.prog 22 #[fieldV false, .agg #[.int .u64 38, .int .u64 0, .int .u64 0, .int .u64 0]] w fun e w' => e = .returned (vec (subm (pr false) 0 38)) ∧ Below w.heap.size w w' := by
  have h := montNeg_c false 38 (by decide) w
  rwa [v38] at h
theorem add76 (w : World) : Calls Tryd.prog 18 #[fieldV false, vec (subm (pr false) 0 38), vec 76] w fun e w' => e = .returned (.agg #[.int .u64 38, .int .u64 0, .int .u64 0, .int .u64 0]) ∧ Below w.heap.size w w' := by
  have h := montAdd_c false (subm (pr false) 0 38) 76 (by decide) (by decide) w
  rwa [show addm (pr false) (subm (pr false) 0 38) 76 = 38 by decide, v38] at h

set_option maxRecDepth 100000 in
set_option maxHeartbeats 4000000 in
theorem lawalive_c (w : World) (hL : Laid w) :
    Calls Tryd.prog 17 #[] w fun e w' => e = .returned (.bool true) ∧ Below w.heap.size w w' := by
  go_enter Tryd.func17, Tryd.ntmps17
  go_wp2_with fail
  refine Calls.mono (get1_c _ hL) ?_
  rintro _ w1 ⟨rfl, h1⟩
  obtain ⟨c1, f1, s1⟩ := bfacts h1
  try simp only [World.size_alloc, World.size_setCell, size_drew, size_drewN] at s1
  go_wp2_with fail
  refine Calls.mono (to1 _) ?_
  rintro _ w2 ⟨rfl, h2⟩
  obtain ⟨c2, f2, s2⟩ := bfacts h2
  try simp only [World.size_alloc, World.size_setCell, size_drew, size_drewN] at s2
  have l_w1_w2_0 : w1.heap.size < w2.heap.size := by omega
  go_wp2_with fail
  refine held_begin 29 [w1.heap.size, w2.heap.size] (by kernel_rfl) rfl (by intro _ _ d _ _ h; cases d <;> exact h) ?_
  intro hQ hK
  with_reducible apply held_v (n := 28) 0
  · rfl
  · kernel_rfl
  · kernel_rfl
  · kernel_rfl
  · exact hQ
  · with_reducible exact hK
  · rfl
  apply Exists.intro
  refine ⟨fun w' hC => ?_, ?_⟩
  · have k0_ := hC (w1.heap.size) (by simp only [List.mem_cons, true_or, or_true])
    have k1_ := hC (w2.heap.size) (by simp only [List.mem_cons, true_or, or_true])
    clear hC
    go_simp
    rfl
  try simp only [Act.put, List.setIfInBounds_toArray, List.set_cons_zero, List.set_cons_succ, List.tail_cons]
  with_reducible apply held_v (n := 27) 1
  · rfl
  · kernel_rfl
  · kernel_rfl
  · kernel_rfl
  · exact hQ
  · with_reducible exact hK
  · rfl
  apply Exists.intro
  refine ⟨fun w' hC => ?_, ?_⟩
  · have k0_ := hC (w1.heap.size) (by simp only [List.mem_cons, true_or, or_true])
    have k1_ := hC (w2.heap.size) (by simp only [List.mem_cons, true_or, or_true])
    clear hC
    go_simp
    rfl
  try simp only [Act.put, List.setIfInBounds_toArray, List.set_cons_zero, List.set_cons_succ, List.tail_cons]
  with_reducible apply held_v (n := 26) 2
  · rfl
  · kernel_rfl
  · kernel_rfl
  · kernel_rfl
  · exact hQ
  · with_reducible exact hK
  · rfl
  apply Exists.intro
  refine ⟨fun w' hC => ?_, ?_⟩
  · have k0_ := hC (w1.heap.size) (by simp only [List.mem_cons, true_or, or_true])
    have k1_ := hC (w2.heap.size) (by simp only [List.mem_cons, true_or, or_true])
    clear hC
    go_simp
    rfl
  try simp only [Act.put, List.setIfInBounds_toArray, List.set_cons_zero, List.set_cons_succ, List.tail_cons]
  first
    | (with_reducible apply held_v (n := 25) 3
       · rfl
       · kernel_rfl
       · kernel_rfl
       · kernel_rfl
       · exact hQ
       · with_reducible exact hK
       · rfl
       apply Exists.intro
       refine ⟨fun w' hC => ?_, ?_⟩
       · have k0_ := hC (w1.heap.size) (by simp only [List.mem_cons, true_or, or_true])
         have k1_ := hC (w2.heap.size) (by simp only [List.mem_cons, true_or, or_true])
         clear hC
         go_simp
         rfl)
    | (with_reducible apply held_s (n := 25) 3
       · rfl
       · kernel_rfl
       · kernel_rfl
       · kernel_rfl
       · exact hQ
       · with_reducible exact hK
       · rfl)
  try simp only [Act.put, List.setIfInBounds_toArray, List.set_cons_zero, List.set_cons_succ, List.tail_cons]
  first
    | (with_reducible apply held_v (n := 24) 4
       · rfl
       · kernel_rfl
       · kernel_rfl
       · kernel_rfl
       · exact hQ
       · with_reducible exact hK
       · rfl
       apply Exists.intro
       refine ⟨fun w' hC => ?_, ?_⟩
       · have k0_ := hC (w1.heap.size) (by simp only [List.mem_cons, true_or, or_true])
         have k1_ := hC (w2.heap.size) (by simp only [List.mem_cons, true_or, or_true])
         clear hC
         go_simp
         rfl)
    | (with_reducible apply held_s (n := 24) 4
       · rfl
       · kernel_rfl
       · kernel_rfl
       · kernel_rfl
       · exact hQ
       · with_reducible exact hK
       · rfl)
  try simp only [Act.put, List.setIfInBounds_toArray, List.set_cons_zero, List.set_cons_succ, List.tail_cons]
  first
    | (with_reducible apply held_v (n := 23) 5
       · rfl
       · kernel_rfl
       · kernel_rfl
       · kernel_rfl
       · exact hQ
       · with_reducible exact hK
       · rfl
       apply Exists.intro
       refine ⟨fun w' hC => ?_, ?_⟩
       · have k0_ := hC (w1.heap.size) (by simp only [List.mem_cons, true_or, or_true])
         have k1_ := hC (w2.heap.size) (by simp only [List.mem_cons, true_or, or_true])
         clear hC
         go_simp
         rfl)
    | (with_reducible apply held_s (n := 23) 5
       · rfl
       · kernel_rfl
       · kernel_rfl
       · kernel_rfl
       · exact hQ
       · with_reducible exact hK
       · rfl)
  try simp only [Act.put, List.setIfInBounds_toArray, List.set_cons_zero, List.set_cons_succ, List.tail_cons]
  with_reducible apply held_v (n := 22) 6
  · rfl
  · kernel_rfl
  · kernel_rfl
  · kernel_rfl
  · exact hQ
  · with_reducible exact hK
  · rfl
  apply Exists.intro
  refine ⟨fun w' hC => ?_, ?_⟩
  · have k0_ := hC (w1.heap.size) (by simp only [List.mem_cons, true_or, or_true])
    have k1_ := hC (w2.heap.size) (by simp only [List.mem_cons, true_or, or_true])
    clear hC
    go_simp
    rfl
  try simp only [Act.put, List.setIfInBounds_toArray, List.set_cons_zero, List.set_cons_succ, List.tail_cons]
  with_reducible apply held_v (n := 21) 7
  · rfl
  · kernel_rfl
  · kernel_rfl
  · kernel_rfl
  · exact hQ
  · with_reducible exact hK
  · rfl
  apply Exists.intro
  refine ⟨fun w' hC => ?_, ?_⟩
  · have k0_ := hC (w1.heap.size) (by simp only [List.mem_cons, true_or, or_true])
    have k1_ := hC (w2.heap.size) (by simp only [List.mem_cons, true_or, or_true])
    clear hC
    go_simp
    rfl
  try simp only [Act.put, List.setIfInBounds_toArray, List.set_cons_zero, List.set_cons_succ, List.tail_cons]
  first
    | (with_reducible apply held_v (n := 20) 8
       · rfl
       · kernel_rfl
       · kernel_rfl
       · kernel_rfl
       · exact hQ
       · with_reducible exact hK
       · rfl
       apply Exists.intro
       refine ⟨fun w' hC => ?_, ?_⟩
       · have k0_ := hC (w1.heap.size) (by simp only [List.mem_cons, true_or, or_true])
         have k1_ := hC (w2.heap.size) (by simp only [List.mem_cons, true_or, or_true])
         clear hC
         go_simp
         rfl)
    | (with_reducible apply held_s (n := 20) 8
       · rfl
       · kernel_rfl
       · kernel_rfl
       · kernel_rfl
       · exact hQ
       · with_reducible exact hK
       · rfl)
  try simp only [Act.put, List.setIfInBounds_toArray, List.set_cons_zero, List.set_cons_succ, List.tail_cons]
  first
    | (with_reducible apply held_v (n := 19) 9
       · rfl
       · kernel_rfl
       · kernel_rfl
       · kernel_rfl
       · exact hQ
       · with_reducible exact hK
       · rfl
       apply Exists.intro
       refine ⟨fun w' hC => ?_, ?_⟩
       · have k0_ := hC (w1.heap.size) (by simp only [List.mem_cons, true_or, or_true])
         have k1_ := hC (w2.heap.size) (by simp only [List.mem_cons, true_or, or_true])
         clear hC
         go_simp
         rfl)
    | (with_reducible apply held_s (n := 19) 9
       · rfl
       · kernel_rfl
       · kernel_rfl
       · kernel_rfl
       · exact hQ
       · with_reducible exact hK
       · rfl)
  try simp only [Act.put, List.setIfInBounds_toArray, List.set_cons_zero, List.set_cons_succ, List.tail_cons]
  first
    | (with_reducible apply held_v (n := 18) 11
       · rfl
       · kernel_rfl
       · kernel_rfl
       · kernel_rfl
       · exact hQ
       · with_reducible exact hK
       · rfl
       apply Exists.intro
       refine ⟨fun w' hC => ?_, ?_⟩
       · have k0_ := hC (w1.heap.size) (by simp only [List.mem_cons, true_or, or_true])
         have k1_ := hC (w2.heap.size) (by simp only [List.mem_cons, true_or, or_true])
         clear hC
         go_simp
         rfl)
    | (with_reducible apply held_s (n := 18) 11
       · rfl
       · kernel_rfl
       · kernel_rfl
       · kernel_rfl
       · exact hQ
       · with_reducible exact hK
       · rfl)
  try simp only [Act.put, List.setIfInBounds_toArray, List.set_cons_zero, List.set_cons_succ, List.tail_cons]
  with_reducible apply held_call (n := 17) 10
  · rfl
  · kernel_rfl
  · rfl
  · with_reducible exact hK
  apply Exists.intro
  apply Exists.intro
  apply Exists.intro
  refine ⟨?_, ?_, ?_, ?_⟩
  · go_simp
    exact ⟨rfl, rfl⟩
  · exact from38 _
  · intro b hb
    simp only [List.mem_cons, List.not_mem_nil, or_false] at hb
    rcases hb with rfl | rfl <;> first | omega | (simp; done) | (simp; omega)
  intro v10 h10 hK
  obtain ⟨c10, f10, s10⟩ := bfacts h10
  try simp only [World.size_alloc, World.size_setCell, size_drew, size_drewN] at s10
  have l_w1_v10_0 : w1.heap.size < v10.heap.size := by omega
  have l_w2_v10_0 : w2.heap.size < v10.heap.size := by omega
  try simp only [Act.put, List.setIfInBounds_toArray, List.set_cons_zero, List.set_cons_succ, List.tail_cons]
  first
    | (with_reducible apply held_v (n := 16) 12
       · rfl
       · kernel_rfl
       · kernel_rfl
       · kernel_rfl
       · exact hQ
       · with_reducible exact hK
       · rfl
       apply Exists.intro
       refine ⟨fun w' hC => ?_, ?_⟩
       · have k0_ := hC (w1.heap.size) (by simp only [List.mem_cons, true_or, or_true])
         have k1_ := hC (w2.heap.size) (by simp only [List.mem_cons, true_or, or_true])
         clear hC
         go_simp
         rfl)
    | (with_reducible apply held_s (n := 16) 12
       · rfl
       · kernel_rfl
       · kernel_rfl
       · kernel_rfl
       · exact hQ
       · with_reducible exact hK
       · rfl)
  try simp only [Act.put, List.setIfInBounds_toArray, List.set_cons_zero, List.set_cons_succ, List.tail_cons]
  with_reducible apply held_v (n := 15) 13
  · rfl
  · kernel_rfl
  · kernel_rfl
  · kernel_rfl
  · exact hQ
  · with_reducible exact hK
  · rfl
  apply Exists.intro
  refine ⟨fun w' hC => ?_, ?_⟩
  · have k0_ := hC (w1.heap.size) (by simp only [List.mem_cons, true_or, or_true])
    have k1_ := hC (w2.heap.size) (by simp only [List.mem_cons, true_or, or_true])
    clear hC
    go_simp
    rfl
  try simp only [Act.put, List.setIfInBounds_toArray, List.set_cons_zero, List.set_cons_succ, List.tail_cons]
  with_reducible apply held_v (n := 14) 14
  · rfl
  · kernel_rfl
  · kernel_rfl
  · kernel_rfl
  · exact hQ
  · with_reducible exact hK
  · rfl
  apply Exists.intro
  refine ⟨fun w' hC => ?_, ?_⟩
  · have k0_ := hC (w1.heap.size) (by simp only [List.mem_cons, true_or, or_true])
    have k1_ := hC (w2.heap.size) (by simp only [List.mem_cons, true_or, or_true])
    clear hC
    go_simp
    rfl
  try simp only [Act.put, List.setIfInBounds_toArray, List.set_cons_zero, List.set_cons_succ, List.tail_cons]
  first
    | (with_reducible apply held_v (n := 13) 15
       · rfl
       · kernel_rfl
       · kernel_rfl
       · kernel_rfl
       · exact hQ
       · with_reducible exact hK
       · rfl
       apply Exists.intro
       refine ⟨fun w' hC => ?_, ?_⟩
       · have k0_ := hC (w1.heap.size) (by simp only [List.mem_cons, true_or, or_true])
         have k1_ := hC (w2.heap.size) (by simp only [List.mem_cons, true_or, or_true])
         clear hC
         go_simp
         rfl)
    | (with_reducible apply held_s (n := 13) 15
       · rfl
       · kernel_rfl
       · kernel_rfl
       · kernel_rfl
       · exact hQ
       · with_reducible exact hK
       · rfl)
  try simp only [Act.put, List.setIfInBounds_toArray, List.set_cons_zero, List.set_cons_succ, List.tail_cons]
  first
    | (with_reducible apply held_v (n := 12) 16
       · rfl
       · kernel_rfl
       · kernel_rfl
       · kernel_rfl
       · exact hQ
       · with_reducible exact hK
       · rfl
       apply Exists.intro
       refine ⟨fun w' hC => ?_, ?_⟩
       · have k0_ := hC (w1.heap.size) (by simp only [List.mem_cons, true_or, or_true])
         have k1_ := hC (w2.heap.size) (by simp only [List.mem_cons, true_or, or_true])
         clear hC
         go_simp
         rfl)
    | (with_reducible apply held_s (n := 12) 16
       · rfl
       · kernel_rfl
       · kernel_rfl
       · kernel_rfl
       · exact hQ
       · with_reducible exact hK
       · rfl)
  try simp only [Act.put, List.setIfInBounds_toArray, List.set_cons_zero, List.set_cons_succ, List.tail_cons]
  first
    | (with_reducible apply held_v (n := 11) 17
       · rfl
       · kernel_rfl
       · kernel_rfl
       · kernel_rfl
       · exact hQ
       · with_reducible exact hK
       · rfl
       apply Exists.intro
       refine ⟨fun w' hC => ?_, ?_⟩
       · have k0_ := hC (w1.heap.size) (by simp only [List.mem_cons, true_or, or_true])
         have k1_ := hC (w2.heap.size) (by simp only [List.mem_cons, true_or, or_true])
         clear hC
         go_simp
         rfl)
    | (with_reducible apply held_s (n := 11) 17
       · rfl
       · kernel_rfl
       · kernel_rfl
       · kernel_rfl
       · exact hQ
       · with_reducible exact hK
       · rfl)
  try simp only [Act.put, List.setIfInBounds_toArray, List.set_cons_zero, List.set_cons_succ, List.tail_cons]
  first
    | (with_reducible apply held_v (n := 10) 18
       · rfl
       · kernel_rfl
       · kernel_rfl
       · kernel_rfl
       · exact hQ
       · with_reducible exact hK
       · rfl
       apply Exists.intro
       refine ⟨fun w' hC => ?_, ?_⟩
       · have k0_ := hC (w1.heap.size) (by simp only [List.mem_cons, true_or, or_true])
         have k1_ := hC (w2.heap.size) (by simp only [List.mem_cons, true_or, or_true])
         clear hC
         go_simp
         rfl)
    | (with_reducible apply held_s (n := 10) 18
       · rfl
       · kernel_rfl
       · kernel_rfl
       · kernel_rfl
       · exact hQ
       · with_reducible exact hK
       · rfl)
  try simp only [Act.put, List.setIfInBounds_toArray, List.set_cons_zero, List.set_cons_succ, List.tail_cons]
  first
    | (with_reducible apply held_v (n := 9) 20
       · rfl
       · kernel_rfl
       · kernel_rfl
       · kernel_rfl
       · exact hQ
       · with_reducible exact hK
       · rfl
       apply Exists.intro
       refine ⟨fun w' hC => ?_, ?_⟩
       · have k0_ := hC (w1.heap.size) (by simp only [List.mem_cons, true_or, or_true])
         have k1_ := hC (w2.heap.size) (by simp only [List.mem_cons, true_or, or_true])
         clear hC
         go_simp
         rfl)
    | (with_reducible apply held_s (n := 9) 20
       · rfl
       · kernel_rfl
       · kernel_rfl
       · kernel_rfl
       · exact hQ
       · with_reducible exact hK
       · rfl)
  try simp only [Act.put, List.setIfInBounds_toArray, List.set_cons_zero, List.set_cons_succ, List.tail_cons]
  first
    | (with_reducible apply held_v (n := 8) 21
       · rfl
       · kernel_rfl
       · kernel_rfl
       · kernel_rfl
       · exact hQ
       · with_reducible exact hK
       · rfl
       apply Exists.intro
       refine ⟨fun w' hC => ?_, ?_⟩
       · have k0_ := hC (w1.heap.size) (by simp only [List.mem_cons, true_or, or_true])
         have k1_ := hC (w2.heap.size) (by simp only [List.mem_cons, true_or, or_true])
         clear hC
         go_simp
         rfl)
    | (with_reducible apply held_s (n := 8) 21
       · rfl
       · kernel_rfl
       · kernel_rfl
       · kernel_rfl
       · exact hQ
       · with_reducible exact hK
       · rfl)
  try simp only [Act.put, List.setIfInBounds_toArray, List.set_cons_zero, List.set_cons_succ, List.tail_cons]
  first
    | (with_reducible apply held_v (n := 7) 25
       · rfl
       · kernel_rfl
       · kernel_rfl
       · kernel_rfl
       · exact hQ
       · with_reducible exact hK
       · rfl
       apply Exists.intro
       refine ⟨fun w' hC => ?_, ?_⟩
       · have k0_ := hC (w1.heap.size) (by simp only [List.mem_cons, true_or, or_true])
         have k1_ := hC (w2.heap.size) (by simp only [List.mem_cons, true_or, or_true])
         clear hC
         go_simp
         rfl)
    | (with_reducible apply held_s (n := 7) 25
       · rfl
       · kernel_rfl
       · kernel_rfl
       · kernel_rfl
       · exact hQ
       · with_reducible exact hK
       · rfl)
  try simp only [Act.put, List.setIfInBounds_toArray, List.set_cons_zero, List.set_cons_succ, List.tail_cons]
  with_reducible apply held_call (n := 6) 19
  · rfl
  · kernel_rfl
  · rfl
  · with_reducible exact hK
  apply Exists.intro
  apply Exists.intro
  apply Exists.intro
  refine ⟨?_, ?_, ?_, ?_⟩
  · go_simp
    exact ⟨rfl, rfl⟩
  · exact neg38 _
  · intro b hb
    simp only [List.mem_cons, List.not_mem_nil, or_false] at hb
    rcases hb with rfl | rfl <;> first | omega | (simp; done) | (simp; omega)
  intro v19 h19 hK
  obtain ⟨c19, f19, s19⟩ := bfacts h19
  try simp only [World.size_alloc, World.size_setCell, size_drew, size_drewN] at s19
  have l_w1_v19_0 : w1.heap.size < v19.heap.size := by omega
  have l_w2_v19_0 : w2.heap.size < v19.heap.size := by omega
  try simp only [Act.put, List.setIfInBounds_toArray, List.set_cons_zero, List.set_cons_succ, List.tail_cons]
  with_reducible apply held_call (n := 5) 22
  · rfl
  · kernel_rfl
  · rfl
  · with_reducible exact hK
  apply Exists.intro
  apply Exists.intro
  apply Exists.intro
  refine ⟨?_, ?_, ?_, ?_⟩
  · go_simp
    exact ⟨rfl, rfl⟩
  · exact to2 _
  · intro b hb
    simp only [List.mem_cons, List.not_mem_nil, or_false] at hb
    rcases hb with rfl | rfl <;> first | omega | (simp; done) | (simp; omega)
  intro v22 h22 hK
  obtain ⟨c22, f22, s22⟩ := bfacts h22
  try simp only [World.size_alloc, World.size_setCell, size_drew, size_drewN] at s22
  have l_w1_v22_0 : w1.heap.size < v22.heap.size := by omega
  have l_w2_v22_0 : w2.heap.size < v22.heap.size := by omega
  try simp only [Act.put, List.setIfInBounds_toArray, List.set_cons_zero, List.set_cons_succ, List.tail_cons]
  with_reducible apply held_call (n := 4) 23
  · rfl
  · kernel_rfl
  · rfl
  · with_reducible exact hK
  apply Exists.intro
  apply Exists.intro
  apply Exists.intro
  refine ⟨?_, ?_, ?_, ?_⟩
  · go_simp
    exact ⟨rfl, rfl⟩
  · exact add76 _
  · intro b hb
    simp only [List.mem_cons, List.not_mem_nil, or_false] at hb
    rcases hb with rfl | rfl <;> first | omega | (simp; done) | (simp; omega)
  intro v23 h23 hK
  obtain ⟨c23, f23, s23⟩ := bfacts h23
  try simp only [World.size_alloc, World.size_setCell, size_drew, size_drewN] at s23
  have l_w1_v23_0 : w1.heap.size < v23.heap.size := by omega
  have l_w2_v23_0 : w2.heap.size < v23.heap.size := by omega
  try simp only [Act.put, List.setIfInBounds_toArray, List.set_cons_zero, List.set_cons_succ, List.tail_cons]
  with_reducible apply held_call (n := 3) 24
  · rfl
  · kernel_rfl
  · rfl
  · with_reducible exact hK
  apply Exists.intro
  apply Exists.intro
  apply Exists.intro
  refine ⟨?_, ?_, ?_, ?_⟩
  · go_simp
    exact ⟨rfl, rfl⟩
  · exact from38 _
  · intro b hb
    simp only [List.mem_cons, List.not_mem_nil, or_false] at hb
    rcases hb with rfl | rfl <;> first | omega | (simp; done) | (simp; omega)
  intro v24 h24 hK
  obtain ⟨c24, f24, s24⟩ := bfacts h24
  try simp only [World.size_alloc, World.size_setCell, size_drew, size_drewN] at s24
  try simp only [Act.put, List.setIfInBounds_toArray, List.set_cons_zero, List.set_cons_succ, List.tail_cons]
  first
    | (with_reducible apply held_v (n := 2) 26
       · rfl
       · kernel_rfl
       · kernel_rfl
       · kernel_rfl
       · exact hQ
       · with_reducible exact hK
       · rfl
       apply Exists.intro
       refine ⟨fun w' hC => ?_, ?_⟩
       · have k0_ := hC (w1.heap.size) (by simp only [List.mem_cons, true_or, or_true])
         have k1_ := hC (w2.heap.size) (by simp only [List.mem_cons, true_or, or_true])
         clear hC
         go_simp
         rfl)
    | (with_reducible apply held_s (n := 2) 26
       · rfl
       · kernel_rfl
       · kernel_rfl
       · kernel_rfl
       · exact hQ
       · with_reducible exact hK
       · rfl)
  try simp only [Act.put, List.setIfInBounds_toArray, List.set_cons_zero, List.set_cons_succ, List.tail_cons]
  with_reducible apply held_v (n := 1) 27
  · rfl
  · kernel_rfl
  · kernel_rfl
  · kernel_rfl
  · exact hQ
  · with_reducible exact hK
  · rfl
  apply Exists.intro
  refine ⟨fun w' hC => ?_, ?_⟩
  · have k0_ := hC (w1.heap.size) (by simp only [List.mem_cons, true_or, or_true])
    have k1_ := hC (w2.heap.size) (by simp only [List.mem_cons, true_or, or_true])
    clear hC
    go_simp
    rfl
  try simp only [Act.put, List.setIfInBounds_toArray, List.set_cons_zero, List.set_cons_succ, List.tail_cons]
  with_reducible apply held_v (n := 0) 28
  · rfl
  · kernel_rfl
  · kernel_rfl
  · kernel_rfl
  · exact hQ
  · with_reducible exact hK
  · rfl
  apply Exists.intro
  refine ⟨fun w' hC => ?_, ?_⟩
  · have k0_ := hC (w1.heap.size) (by simp only [List.mem_cons, true_or, or_true])
    have k1_ := hC (w2.heap.size) (by simp only [List.mem_cons, true_or, or_true])
    clear hC
    go_simp
    rfl
  try simp only [Act.put, List.setIfInBounds_toArray, List.set_cons_zero, List.set_cons_succ, List.tail_cons]
  refine held_end (by kernel_rfl) ?_
  clear hK hQ
  go_wp2_with fail
  refine bodyPost_ret (v := .bool true) (by simp only [results, Tryd.results17]; go_simp) rfl ⟨rfl, ?_⟩
  repeat first
    | with_reducible exact Below.refl _ _
    | with_reducible refine Below.drew ?_
    | with_reducible refine below_dN ?_
    | with_reducible refine Below.alloc ?_ (by first | omega | (simp; done) | (simp; omega)) _
    | with_reducible refine Below.setCell ?_ (by first | omega | (simp; done) | (simp; omega)) _
    | with_reducible refine Below.trans ?_ (Below.mono (by assumption) (by first | omega | (simp; done) | (simp; omega)))
end Go.Proofs.YtpebojiijgkadaaDoor
