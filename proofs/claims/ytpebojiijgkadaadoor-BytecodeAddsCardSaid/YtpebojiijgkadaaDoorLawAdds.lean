/- The walk of law 5's MontAdds. -/
import Derived.Test.YtpebojiijgkadaaDoorLawPair
import Derived.Test.YtpebojiijgkadaaDoorLawAlive
import Derived.Test.YtpebojiijgkadaaDoorGrow
import Derived.Test.YtpebojiijgkadaaDoorRefSubm
namespace Go.Proofs.YtpebojiijgkadaaDoor
set_option linter.all false
open Go.RowKit

theorem lawformR_c (s : Bool) (x : Nat) (hx : x < R4) (w : World) :
    Calls Tryd.prog 16 #[vec (pr s), vec x] w fun e w' => e = .returned (vec (RR s x)) ∧ Below w.heap.size w w' := lawform_c (pr s) x (pr_lt s) (pr_gt1 s) hx w

set_option maxRecDepth 100000 in
set_option maxHeartbeats 8000000 in
theorem montAdds_c (s : Bool) (a b : Nat) (ha : a < R4) (hb : b < R4) (w : World) (hL : Laid w) :
    Calls Tryd.prog 3 #[.bool s, vec a, vec b] w fun e w' => e = .returned (.bool true) ∧ Below w.heap.size w w' := by
  have Hp := Lib.hid (pr_lt s)
  have H1 := Lib.hid (pr_gt1 s)
  have Hx := Lib.hid (red_lt s a)
  have Hy := Lib.hid (red_lt s b)
  have Hx4 := Lib.hid (Nat.lt_trans Hx.out Hp.out)
  have Hy4 := Lib.hid (Nat.lt_trans Hy.out Hp.out)
  have hadd := fun w => montAdd_c s (RR s (mulm (pr s) 1 a)) (RR s (mulm (pr s) 1 b)) (RR_lt s _) (RR_lt s _) w
  rw [add_RR] at hadd
  have hsub := fun w => montSub_c s (RR s (mulm (pr s) 1 a)) (RR s (mulm (pr s) 1 b)) (RR_lt s _) (RR_lt s _) w
  rw [sub_RR s Hx.out Hy.out] at hsub
  have hneg := fun w => montNeg_c s (RR s (mulm (pr s) 1 a)) (RR_lt s _) w
  rw [neg_RR s Hx.out] at hneg
  have HL := Lib.hid hL
  have Hp0 := Lib.hid (pr_pos s)
  have Hadd := Lib.hid hadd
  have Hsub := Lib.hid hsub
  have Hneg := Lib.hid hneg
  clear hadd hsub hneg
  go_enter Tryd.func3, Tryd.ntmps3
  go_wp2_with fail
  refine Calls.mono (lawpair_c s a b ha hb _ (hL.step (by repeat first | exact Below.refl _ _ | refine Below.alloc ?_ (by first | omega | (simp; done) | (simp; omega)) _))) ?_
  rintro _ w1 ⟨rfl, h1⟩
  obtain ⟨c1, f1, s1⟩ := bfacts h1
  try simp only [World.size_alloc, World.size_setCell, size_drew, size_drewN] at s1
  have l_w_w1_0 : w.heap.size < w1.heap.size := by omega
  have l_w_w1_1 : w.heap.size + 1 < w1.heap.size := by omega
  go_wp2_with fail
  refine region_grow 8 [0, 1, 2, 3, 4, 5, 6, 7] [(6, (fun b => Value.pointer (some ⟨b, 0, Option.none⟩)), (Obj.cells #[.int .u64 0, .int .u64 0, .int .u64 0, .int .u64 0] 24)), (7, (fun b => Value.pointer (some ⟨b, 0, Option.none⟩)), (Obj.cells #[.int .u64 0, .int .u64 0, .int .u64 0, .int .u64 0] 24))] [2, 5] (by kernel_rfl) (by kernel_rfl) ?_
  with_reducible apply grow_v
  · rfl
  · rfl
  · rfl
  apply Exists.intro
  refine ⟨fun w' hC => ?_, ?_⟩
  · have hcell := below_cells hC
    clear hC
    go_simp
    rfl
  try simp only [Act.put, List.setIfInBounds_toArray, List.set_cons_zero, List.set_cons_succ, List.tail_cons]
  with_reducible apply grow_v
  · rfl
  · rfl
  · rfl
  apply Exists.intro
  refine ⟨fun w' hC => ?_, ?_⟩
  · have hcell := below_cells hC
    clear hC
    go_simp
    rfl
  try simp only [Act.put, List.setIfInBounds_toArray, List.set_cons_zero, List.set_cons_succ, List.tail_cons]
  with_reducible apply grow_c
  · rfl
  · rfl
  · rfl
  · rfl
  apply Exists.intro
  apply Exists.intro
  apply Exists.intro
  refine ⟨fun w' hC => ?_, fun w' hC => ?_, ?_⟩
  · have hcell := below_cells hC
    clear hC
    go_simp
    exact ⟨rfl, rfl⟩
  · exact lawformR_c s (mulm (pr s) 1 a) Hx4.out _
  try simp only [Act.put, List.setIfInBounds_toArray, List.set_cons_zero, List.set_cons_succ, List.tail_cons]
  with_reducible apply grow_v
  · rfl
  · rfl
  · rfl
  apply Exists.intro
  refine ⟨fun w' hC => ?_, ?_⟩
  · have hcell := below_cells hC
    clear hC
    go_simp
    rfl
  try simp only [Act.put, List.setIfInBounds_toArray, List.set_cons_zero, List.set_cons_succ, List.tail_cons]
  with_reducible apply grow_v
  · rfl
  · rfl
  · rfl
  apply Exists.intro
  refine ⟨fun w' hC => ?_, ?_⟩
  · have hcell := below_cells hC
    clear hC
    go_simp
    rfl
  try simp only [Act.put, List.setIfInBounds_toArray, List.set_cons_zero, List.set_cons_succ, List.tail_cons]
  with_reducible apply grow_c
  · rfl
  · rfl
  · rfl
  · rfl
  apply Exists.intro
  apply Exists.intro
  apply Exists.intro
  refine ⟨fun w' hC => ?_, fun w' hC => ?_, ?_⟩
  · have hcell := below_cells hC
    clear hC
    go_simp
    exact ⟨rfl, rfl⟩
  · exact lawformR_c s (mulm (pr s) 1 b) Hy4.out _
  try simp only [Act.put, List.setIfInBounds_toArray, List.set_cons_zero, List.set_cons_succ, List.tail_cons]
  with_reducible apply grow_m
  · rfl
  · rfl
  · rfl
  refine ⟨fun w' hC => ?_, fun b6 => ?_⟩
  · clear hC
    go_simp
  try dsimp only
  try simp only [Act.put, List.setIfInBounds_toArray, List.set_cons_zero, List.set_cons_succ, List.tail_cons]
  with_reducible apply grow_m
  · rfl
  · rfl
  · rfl
  refine ⟨fun w' hC => ?_, fun b7 => ?_⟩
  · clear hC
    go_simp
  try dsimp only
  try simp only [Act.put, List.setIfInBounds_toArray, List.set_cons_zero, List.set_cons_succ, List.tail_cons]
  refine grow_end ?_
  intro wg2 hg2
  obtain ⟨cg2, fg2, sg2⟩ := bfacts hg2.grows
  try simp only [World.size_alloc, World.size_setCell, size_drew, size_drewN] at sg2
  obtain ⟨kb6, fb6, lb6⟩ := has_cells (hg2.has (b6, Obj.cells #[.int .u64 0, .int .u64 0, .int .u64 0, .int .u64 0] 24) (by simp only [List.mem_cons, true_or, or_true]))
  have nb6 := hg2.new (b6, Obj.cells #[.int .u64 0, .int .u64 0, .int .u64 0, .int .u64 0] 24) (by simp only [List.mem_cons, true_or, or_true])
  try simp only [World.size_alloc, World.size_setCell, size_drew, size_drewN] at nb6
  have kb6_0 := kb6 0 _ rfl
  have kb6_1 := kb6 1 _ rfl
  have kb6_2 := kb6 2 _ rfl
  have kb6_3 := kb6 3 _ rfl
  clear kb6
  obtain ⟨kb7, fb7, lb7⟩ := has_cells (hg2.has (b7, Obj.cells #[.int .u64 0, .int .u64 0, .int .u64 0, .int .u64 0] 24) (by simp only [List.mem_cons, true_or, or_true]))
  have nb7 := hg2.new (b7, Obj.cells #[.int .u64 0, .int .u64 0, .int .u64 0, .int .u64 0] 24) (by simp only [List.mem_cons, true_or, or_true])
  try simp only [World.size_alloc, World.size_setCell, size_drew, size_drewN] at nb7
  have kb7_0 := kb7 0 _ rfl
  have kb7_1 := kb7 1 _ rfl
  have kb7_2 := kb7 2 _ rfl
  have kb7_3 := kb7 3 _ rfl
  clear kb7
  have nd6_7 : b6 ≠ b7 := by have := hg2.nodup; simp only [List.map_cons, List.map_nil, List.nodup_cons, List.mem_cons, List.not_mem_nil, or_false, not_or] at this; omega
  have nd7_6 : b7 ≠ b6 := Ne.symm nd6_7
  have Hg2 : Below _ _ wg2 := hg2.grows
  clear hg2
  simp only [List.drop_succ_cons, List.drop_zero]
  go_wp2_with fail
  refine held_begin 40 [w1.heap.size, w1.heap.size + 1, w1.heap.size + 1 + 1, w1.heap.size + 1 + 1 + 1, b6, b7] (by kernel_rfl) rfl (by intro _ _ d _ _ h; cases d <;> exact h) ?_
  intro hQ hK
  with_reducible apply held_call (n := 39) 0
  · rfl
  · kernel_rfl
  · rfl
  · with_reducible exact hK
  apply Exists.intro
  apply Exists.intro
  apply Exists.intro
  refine ⟨?_, ?_, ?_, ?_⟩
  · go_simp
    exact ⟨rfl, rfl⟩
  · exact lawalive_c _ (HL.out.step (by repeat first | with_reducible exact Below.refl _ _ | with_reducible refine Below.drew ?_ | with_reducible refine below_dN ?_ | with_reducible refine Below.alloc ?_ (by first | omega | (simp; done) | (simp; omega)) _ | with_reducible refine Below.setCell ?_ (by first | omega | (simp; done) | (simp; omega)) _ | with_reducible refine Below.trans ?_ (Below.mono (by assumption) (by first | omega | (simp; done) | (simp; omega)))))
  · intro b hb
    simp only [List.mem_cons, List.not_mem_nil, or_false] at hb
    rcases hb with rfl | rfl | rfl | rfl | rfl | rfl <;> first | omega | (simp; done) | (simp; omega)
  intro v0 h0 hK
  obtain ⟨c0, f0, s0⟩ := bfacts h0
  try simp only [World.size_alloc, World.size_setCell, size_drew, size_drewN] at s0
  try simp only [Act.put, List.setIfInBounds_toArray, List.set_cons_zero, List.set_cons_succ, List.tail_cons]
  with_reducible apply held_v (n := 38) 1
  · rfl
  · kernel_rfl
  · kernel_rfl
  · kernel_rfl
  · exact hQ
  · with_reducible exact hK
  · rfl
  apply Exists.intro
  refine ⟨fun w' hC => ?_, ?_⟩
  · have k0_ := hC (w1.heap.size) (by simp only [List.mem_cons, true_or, or_true])
    have k1_ := hC (w1.heap.size + 1) (by simp only [List.mem_cons, true_or, or_true])
    have k2_ := hC (w1.heap.size + 1 + 1) (by simp only [List.mem_cons, true_or, or_true])
    have k3_ := hC (w1.heap.size + 1 + 1 + 1) (by simp only [List.mem_cons, true_or, or_true])
    have k4_ := hC (b6) (by simp only [List.mem_cons, true_or, or_true])
    have k5_ := hC (b7) (by simp only [List.mem_cons, true_or, or_true])
    clear hC
    go_simp
    rfl
  try simp only [Act.put, List.setIfInBounds_toArray, List.set_cons_zero, List.set_cons_succ, List.tail_cons]
  first
    | (with_reducible apply held_v (n := 37) 2
       · rfl
       · kernel_rfl
       · kernel_rfl
       · kernel_rfl
       · exact hQ
       · with_reducible exact hK
       · rfl
       apply Exists.intro
       refine ⟨fun w' hC => ?_, ?_⟩
       · have k0_ := hC (w1.heap.size) (by simp only [List.mem_cons, true_or, or_true])
         have k1_ := hC (w1.heap.size + 1) (by simp only [List.mem_cons, true_or, or_true])
         have k2_ := hC (w1.heap.size + 1 + 1) (by simp only [List.mem_cons, true_or, or_true])
         have k3_ := hC (w1.heap.size + 1 + 1 + 1) (by simp only [List.mem_cons, true_or, or_true])
         have k4_ := hC (b6) (by simp only [List.mem_cons, true_or, or_true])
         have k5_ := hC (b7) (by simp only [List.mem_cons, true_or, or_true])
         clear hC
         go_simp
         rfl)
    | (with_reducible apply held_s (n := 37) 2
       · rfl
       · kernel_rfl
       · kernel_rfl
       · kernel_rfl
       · exact hQ
       · with_reducible exact hK
       · rfl)
  try simp only [Act.put, List.setIfInBounds_toArray, List.set_cons_zero, List.set_cons_succ, List.tail_cons]
  first
    | (with_reducible apply held_v (n := 36) 3
       · rfl
       · kernel_rfl
       · kernel_rfl
       · kernel_rfl
       · exact hQ
       · with_reducible exact hK
       · rfl
       apply Exists.intro
       refine ⟨fun w' hC => ?_, ?_⟩
       · have k0_ := hC (w1.heap.size) (by simp only [List.mem_cons, true_or, or_true])
         have k1_ := hC (w1.heap.size + 1) (by simp only [List.mem_cons, true_or, or_true])
         have k2_ := hC (w1.heap.size + 1 + 1) (by simp only [List.mem_cons, true_or, or_true])
         have k3_ := hC (w1.heap.size + 1 + 1 + 1) (by simp only [List.mem_cons, true_or, or_true])
         have k4_ := hC (b6) (by simp only [List.mem_cons, true_or, or_true])
         have k5_ := hC (b7) (by simp only [List.mem_cons, true_or, or_true])
         clear hC
         go_simp
         rfl)
    | (with_reducible apply held_s (n := 36) 3
       · rfl
       · kernel_rfl
       · kernel_rfl
       · kernel_rfl
       · exact hQ
       · with_reducible exact hK
       · rfl)
  try simp only [Act.put, List.setIfInBounds_toArray, List.set_cons_zero, List.set_cons_succ, List.tail_cons]
  first
    | (with_reducible apply held_v (n := 35) 4
       · rfl
       · kernel_rfl
       · kernel_rfl
       · kernel_rfl
       · exact hQ
       · with_reducible exact hK
       · rfl
       apply Exists.intro
       refine ⟨fun w' hC => ?_, ?_⟩
       · have k0_ := hC (w1.heap.size) (by simp only [List.mem_cons, true_or, or_true])
         have k1_ := hC (w1.heap.size + 1) (by simp only [List.mem_cons, true_or, or_true])
         have k2_ := hC (w1.heap.size + 1 + 1) (by simp only [List.mem_cons, true_or, or_true])
         have k3_ := hC (w1.heap.size + 1 + 1 + 1) (by simp only [List.mem_cons, true_or, or_true])
         have k4_ := hC (b6) (by simp only [List.mem_cons, true_or, or_true])
         have k5_ := hC (b7) (by simp only [List.mem_cons, true_or, or_true])
         clear hC
         go_simp
         rfl)
    | (with_reducible apply held_s (n := 35) 4
       · rfl
       · kernel_rfl
       · kernel_rfl
       · kernel_rfl
       · exact hQ
       · with_reducible exact hK
       · rfl)
  try simp only [Act.put, List.setIfInBounds_toArray, List.set_cons_zero, List.set_cons_succ, List.tail_cons]
  first
    | (with_reducible apply held_v (n := 34) 6
       · rfl
       · kernel_rfl
       · kernel_rfl
       · kernel_rfl
       · exact hQ
       · with_reducible exact hK
       · rfl
       apply Exists.intro
       refine ⟨fun w' hC => ?_, ?_⟩
       · have k0_ := hC (w1.heap.size) (by simp only [List.mem_cons, true_or, or_true])
         have k1_ := hC (w1.heap.size + 1) (by simp only [List.mem_cons, true_or, or_true])
         have k2_ := hC (w1.heap.size + 1 + 1) (by simp only [List.mem_cons, true_or, or_true])
         have k3_ := hC (w1.heap.size + 1 + 1 + 1) (by simp only [List.mem_cons, true_or, or_true])
         have k4_ := hC (b6) (by simp only [List.mem_cons, true_or, or_true])
         have k5_ := hC (b7) (by simp only [List.mem_cons, true_or, or_true])
         clear hC
         go_simp
         rfl)
    | (with_reducible apply held_s (n := 34) 6
       · rfl
       · kernel_rfl
       · kernel_rfl
       · kernel_rfl
       · exact hQ
       · with_reducible exact hK
       · rfl)
  try simp only [Act.put, List.setIfInBounds_toArray, List.set_cons_zero, List.set_cons_succ, List.tail_cons]
  first
    | (with_reducible apply held_v (n := 33) 7
       · rfl
       · kernel_rfl
       · kernel_rfl
       · kernel_rfl
       · exact hQ
       · with_reducible exact hK
       · rfl
       apply Exists.intro
       refine ⟨fun w' hC => ?_, ?_⟩
       · have k0_ := hC (w1.heap.size) (by simp only [List.mem_cons, true_or, or_true])
         have k1_ := hC (w1.heap.size + 1) (by simp only [List.mem_cons, true_or, or_true])
         have k2_ := hC (w1.heap.size + 1 + 1) (by simp only [List.mem_cons, true_or, or_true])
         have k3_ := hC (w1.heap.size + 1 + 1 + 1) (by simp only [List.mem_cons, true_or, or_true])
         have k4_ := hC (b6) (by simp only [List.mem_cons, true_or, or_true])
         have k5_ := hC (b7) (by simp only [List.mem_cons, true_or, or_true])
         clear hC
         go_simp
         rfl)
    | (with_reducible apply held_s (n := 33) 7
       · rfl
       · kernel_rfl
       · kernel_rfl
       · kernel_rfl
       · exact hQ
       · with_reducible exact hK
       · rfl)
  try simp only [Act.put, List.setIfInBounds_toArray, List.set_cons_zero, List.set_cons_succ, List.tail_cons]
  first
    | (with_reducible apply held_v (n := 32) 8
       · rfl
       · kernel_rfl
       · kernel_rfl
       · kernel_rfl
       · exact hQ
       · with_reducible exact hK
       · rfl
       apply Exists.intro
       refine ⟨fun w' hC => ?_, ?_⟩
       · have k0_ := hC (w1.heap.size) (by simp only [List.mem_cons, true_or, or_true])
         have k1_ := hC (w1.heap.size + 1) (by simp only [List.mem_cons, true_or, or_true])
         have k2_ := hC (w1.heap.size + 1 + 1) (by simp only [List.mem_cons, true_or, or_true])
         have k3_ := hC (w1.heap.size + 1 + 1 + 1) (by simp only [List.mem_cons, true_or, or_true])
         have k4_ := hC (b6) (by simp only [List.mem_cons, true_or, or_true])
         have k5_ := hC (b7) (by simp only [List.mem_cons, true_or, or_true])
         clear hC
         go_simp
         rfl)
    | (with_reducible apply held_s (n := 32) 8
       · rfl
       · kernel_rfl
       · kernel_rfl
       · kernel_rfl
       · exact hQ
       · with_reducible exact hK
       · rfl)
  try simp only [Act.put, List.setIfInBounds_toArray, List.set_cons_zero, List.set_cons_succ, List.tail_cons]
  first
    | (with_reducible apply held_v (n := 31) 9
       · rfl
       · kernel_rfl
       · kernel_rfl
       · kernel_rfl
       · exact hQ
       · with_reducible exact hK
       · rfl
       apply Exists.intro
       refine ⟨fun w' hC => ?_, ?_⟩
       · have k0_ := hC (w1.heap.size) (by simp only [List.mem_cons, true_or, or_true])
         have k1_ := hC (w1.heap.size + 1) (by simp only [List.mem_cons, true_or, or_true])
         have k2_ := hC (w1.heap.size + 1 + 1) (by simp only [List.mem_cons, true_or, or_true])
         have k3_ := hC (w1.heap.size + 1 + 1 + 1) (by simp only [List.mem_cons, true_or, or_true])
         have k4_ := hC (b6) (by simp only [List.mem_cons, true_or, or_true])
         have k5_ := hC (b7) (by simp only [List.mem_cons, true_or, or_true])
         clear hC
         go_simp
         rfl)
    | (with_reducible apply held_s (n := 31) 9
       · rfl
       · kernel_rfl
       · kernel_rfl
       · kernel_rfl
       · exact hQ
       · with_reducible exact hK
       · rfl)
  try simp only [Act.put, List.setIfInBounds_toArray, List.set_cons_zero, List.set_cons_succ, List.tail_cons]
  with_reducible apply held_call (n := 30) 5
  · rfl
  · kernel_rfl
  · rfl
  · with_reducible exact hK
  apply Exists.intro
  apply Exists.intro
  apply Exists.intro
  refine ⟨?_, ?_, ?_, ?_⟩
  · go_simp
    exact ⟨rfl, rfl⟩
  · exact Hadd.out _
  · intro b hb
    simp only [List.mem_cons, List.not_mem_nil, or_false] at hb
    rcases hb with rfl | rfl | rfl | rfl | rfl | rfl <;> first | omega | (simp; done) | (simp; omega)
  intro v5 h5 hK
  obtain ⟨c5, f5, s5⟩ := bfacts h5
  try simp only [World.size_alloc, World.size_setCell, size_drew, size_drewN] at s5
  try simp only [Act.put, List.setIfInBounds_toArray, List.set_cons_zero, List.set_cons_succ, List.tail_cons]
  with_reducible apply held_call (n := 29) 10
  · rfl
  · kernel_rfl
  · rfl
  · with_reducible exact hK
  apply Exists.intro
  apply Exists.intro
  apply Exists.intro
  refine ⟨?_, ?_, ?_, ?_⟩
  · go_simp
    exact ⟨rfl, rfl⟩
  · exact refAdd_c (pr s) (mulm (pr s) 1 a) (mulm (pr s) 1 b) Hp.out Hx.out Hy.out _
  · intro b hb
    simp only [List.mem_cons, List.not_mem_nil, or_false] at hb
    rcases hb with rfl | rfl | rfl | rfl | rfl | rfl <;> first | omega | (simp; done) | (simp; omega)
  intro v10 h10 hK
  obtain ⟨c10, f10, s10⟩ := bfacts h10
  try simp only [World.size_alloc, World.size_setCell, size_drew, size_drewN] at s10
  try simp only [Act.put, List.setIfInBounds_toArray, List.set_cons_zero, List.set_cons_succ, List.tail_cons]
  with_reducible apply held_call (n := 28) 11
  · rfl
  · kernel_rfl
  · rfl
  · with_reducible exact hK
  apply Exists.intro
  apply Exists.intro
  apply Exists.intro
  refine ⟨?_, ?_, ?_, ?_⟩
  · go_simp
    exact ⟨rfl, rfl⟩
  · exact lawformR_c s _ (Nat.lt_trans (addm_lt Hp0.out _ _) Hp.out) _
  · intro b hb
    simp only [List.mem_cons, List.not_mem_nil, or_false] at hb
    rcases hb with rfl | rfl | rfl | rfl | rfl | rfl <;> first | omega | (simp; done) | (simp; omega)
  intro v11 h11 hK
  obtain ⟨c11, f11, s11⟩ := bfacts h11
  try simp only [World.size_alloc, World.size_setCell, size_drew, size_drewN] at s11
  try simp only [Act.put, List.setIfInBounds_toArray, List.set_cons_zero, List.set_cons_succ, List.tail_cons]
  first
    | (with_reducible apply held_v (n := 27) 12
       · rfl
       · kernel_rfl
       · kernel_rfl
       · kernel_rfl
       · exact hQ
       · with_reducible exact hK
       · rfl
       apply Exists.intro
       refine ⟨fun w' hC => ?_, ?_⟩
       · have k0_ := hC (w1.heap.size) (by simp only [List.mem_cons, true_or, or_true])
         have k1_ := hC (w1.heap.size + 1) (by simp only [List.mem_cons, true_or, or_true])
         have k2_ := hC (w1.heap.size + 1 + 1) (by simp only [List.mem_cons, true_or, or_true])
         have k3_ := hC (w1.heap.size + 1 + 1 + 1) (by simp only [List.mem_cons, true_or, or_true])
         have k4_ := hC (b6) (by simp only [List.mem_cons, true_or, or_true])
         have k5_ := hC (b7) (by simp only [List.mem_cons, true_or, or_true])
         clear hC
         go_simp
         rfl)
    | (with_reducible apply held_s (n := 27) 12
       · rfl
       · kernel_rfl
       · kernel_rfl
       · kernel_rfl
       · exact hQ
       · with_reducible exact hK
       · rfl)
  try simp only [Act.put, List.setIfInBounds_toArray, List.set_cons_zero, List.set_cons_succ, List.tail_cons]
  with_reducible apply held_v (n := 26) 13
  · rfl
  · kernel_rfl
  · kernel_rfl
  · kernel_rfl
  · exact hQ
  · with_reducible exact hK
  · rfl
  apply Exists.intro
  refine ⟨fun w' hC => ?_, ?_⟩
  · have k0_ := hC (w1.heap.size) (by simp only [List.mem_cons, true_or, or_true])
    have k1_ := hC (w1.heap.size + 1) (by simp only [List.mem_cons, true_or, or_true])
    have k2_ := hC (w1.heap.size + 1 + 1) (by simp only [List.mem_cons, true_or, or_true])
    have k3_ := hC (w1.heap.size + 1 + 1 + 1) (by simp only [List.mem_cons, true_or, or_true])
    have k4_ := hC (b6) (by simp only [List.mem_cons, true_or, or_true])
    have k5_ := hC (b7) (by simp only [List.mem_cons, true_or, or_true])
    clear hC
    go_simp
    rfl
  try simp only [Act.put, List.setIfInBounds_toArray, List.set_cons_zero, List.set_cons_succ, List.tail_cons]
  with_reducible apply held_v (n := 25) 14
  · rfl
  · kernel_rfl
  · kernel_rfl
  · kernel_rfl
  · exact hQ
  · with_reducible exact hK
  · rfl
  apply Exists.intro
  refine ⟨fun w' hC => ?_, ?_⟩
  · have k0_ := hC (w1.heap.size) (by simp only [List.mem_cons, true_or, or_true])
    have k1_ := hC (w1.heap.size + 1) (by simp only [List.mem_cons, true_or, or_true])
    have k2_ := hC (w1.heap.size + 1 + 1) (by simp only [List.mem_cons, true_or, or_true])
    have k3_ := hC (w1.heap.size + 1 + 1 + 1) (by simp only [List.mem_cons, true_or, or_true])
    have k4_ := hC (b6) (by simp only [List.mem_cons, true_or, or_true])
    have k5_ := hC (b7) (by simp only [List.mem_cons, true_or, or_true])
    clear hC
    go_simp
    rfl
  try simp only [Act.put, List.setIfInBounds_toArray, List.set_cons_zero, List.set_cons_succ, List.tail_cons]
  first
    | (with_reducible apply held_v (n := 24) 15
       · rfl
       · kernel_rfl
       · kernel_rfl
       · kernel_rfl
       · exact hQ
       · with_reducible exact hK
       · rfl
       apply Exists.intro
       refine ⟨fun w' hC => ?_, ?_⟩
       · have k0_ := hC (w1.heap.size) (by simp only [List.mem_cons, true_or, or_true])
         have k1_ := hC (w1.heap.size + 1) (by simp only [List.mem_cons, true_or, or_true])
         have k2_ := hC (w1.heap.size + 1 + 1) (by simp only [List.mem_cons, true_or, or_true])
         have k3_ := hC (w1.heap.size + 1 + 1 + 1) (by simp only [List.mem_cons, true_or, or_true])
         have k4_ := hC (b6) (by simp only [List.mem_cons, true_or, or_true])
         have k5_ := hC (b7) (by simp only [List.mem_cons, true_or, or_true])
         clear hC
         go_simp
         rfl)
    | (with_reducible apply held_s (n := 24) 15
       · rfl
       · kernel_rfl
       · kernel_rfl
       · kernel_rfl
       · exact hQ
       · with_reducible exact hK
       · rfl)
  try simp only [Act.put, List.setIfInBounds_toArray, List.set_cons_zero, List.set_cons_succ, List.tail_cons]
  first
    | (with_reducible apply held_v (n := 23) 16
       · rfl
       · kernel_rfl
       · kernel_rfl
       · kernel_rfl
       · exact hQ
       · with_reducible exact hK
       · rfl
       apply Exists.intro
       refine ⟨fun w' hC => ?_, ?_⟩
       · have k0_ := hC (w1.heap.size) (by simp only [List.mem_cons, true_or, or_true])
         have k1_ := hC (w1.heap.size + 1) (by simp only [List.mem_cons, true_or, or_true])
         have k2_ := hC (w1.heap.size + 1 + 1) (by simp only [List.mem_cons, true_or, or_true])
         have k3_ := hC (w1.heap.size + 1 + 1 + 1) (by simp only [List.mem_cons, true_or, or_true])
         have k4_ := hC (b6) (by simp only [List.mem_cons, true_or, or_true])
         have k5_ := hC (b7) (by simp only [List.mem_cons, true_or, or_true])
         clear hC
         go_simp
         rfl)
    | (with_reducible apply held_s (n := 23) 16
       · rfl
       · kernel_rfl
       · kernel_rfl
       · kernel_rfl
       · exact hQ
       · with_reducible exact hK
       · rfl)
  try simp only [Act.put, List.setIfInBounds_toArray, List.set_cons_zero, List.set_cons_succ, List.tail_cons]
  first
    | (with_reducible apply held_v (n := 22) 17
       · rfl
       · kernel_rfl
       · kernel_rfl
       · kernel_rfl
       · exact hQ
       · with_reducible exact hK
       · rfl
       apply Exists.intro
       refine ⟨fun w' hC => ?_, ?_⟩
       · have k0_ := hC (w1.heap.size) (by simp only [List.mem_cons, true_or, or_true])
         have k1_ := hC (w1.heap.size + 1) (by simp only [List.mem_cons, true_or, or_true])
         have k2_ := hC (w1.heap.size + 1 + 1) (by simp only [List.mem_cons, true_or, or_true])
         have k3_ := hC (w1.heap.size + 1 + 1 + 1) (by simp only [List.mem_cons, true_or, or_true])
         have k4_ := hC (b6) (by simp only [List.mem_cons, true_or, or_true])
         have k5_ := hC (b7) (by simp only [List.mem_cons, true_or, or_true])
         clear hC
         go_simp
         rfl)
    | (with_reducible apply held_s (n := 22) 17
       · rfl
       · kernel_rfl
       · kernel_rfl
       · kernel_rfl
       · exact hQ
       · with_reducible exact hK
       · rfl)
  try simp only [Act.put, List.setIfInBounds_toArray, List.set_cons_zero, List.set_cons_succ, List.tail_cons]
  first
    | (with_reducible apply held_v (n := 21) 19
       · rfl
       · kernel_rfl
       · kernel_rfl
       · kernel_rfl
       · exact hQ
       · with_reducible exact hK
       · rfl
       apply Exists.intro
       refine ⟨fun w' hC => ?_, ?_⟩
       · have k0_ := hC (w1.heap.size) (by simp only [List.mem_cons, true_or, or_true])
         have k1_ := hC (w1.heap.size + 1) (by simp only [List.mem_cons, true_or, or_true])
         have k2_ := hC (w1.heap.size + 1 + 1) (by simp only [List.mem_cons, true_or, or_true])
         have k3_ := hC (w1.heap.size + 1 + 1 + 1) (by simp only [List.mem_cons, true_or, or_true])
         have k4_ := hC (b6) (by simp only [List.mem_cons, true_or, or_true])
         have k5_ := hC (b7) (by simp only [List.mem_cons, true_or, or_true])
         clear hC
         go_simp
         rfl)
    | (with_reducible apply held_s (n := 21) 19
       · rfl
       · kernel_rfl
       · kernel_rfl
       · kernel_rfl
       · exact hQ
       · with_reducible exact hK
       · rfl)
  try simp only [Act.put, List.setIfInBounds_toArray, List.set_cons_zero, List.set_cons_succ, List.tail_cons]
  first
    | (with_reducible apply held_v (n := 20) 20
       · rfl
       · kernel_rfl
       · kernel_rfl
       · kernel_rfl
       · exact hQ
       · with_reducible exact hK
       · rfl
       apply Exists.intro
       refine ⟨fun w' hC => ?_, ?_⟩
       · have k0_ := hC (w1.heap.size) (by simp only [List.mem_cons, true_or, or_true])
         have k1_ := hC (w1.heap.size + 1) (by simp only [List.mem_cons, true_or, or_true])
         have k2_ := hC (w1.heap.size + 1 + 1) (by simp only [List.mem_cons, true_or, or_true])
         have k3_ := hC (w1.heap.size + 1 + 1 + 1) (by simp only [List.mem_cons, true_or, or_true])
         have k4_ := hC (b6) (by simp only [List.mem_cons, true_or, or_true])
         have k5_ := hC (b7) (by simp only [List.mem_cons, true_or, or_true])
         clear hC
         go_simp
         rfl)
    | (with_reducible apply held_s (n := 20) 20
       · rfl
       · kernel_rfl
       · kernel_rfl
       · kernel_rfl
       · exact hQ
       · with_reducible exact hK
       · rfl)
  try simp only [Act.put, List.setIfInBounds_toArray, List.set_cons_zero, List.set_cons_succ, List.tail_cons]
  first
    | (with_reducible apply held_v (n := 19) 21
       · rfl
       · kernel_rfl
       · kernel_rfl
       · kernel_rfl
       · exact hQ
       · with_reducible exact hK
       · rfl
       apply Exists.intro
       refine ⟨fun w' hC => ?_, ?_⟩
       · have k0_ := hC (w1.heap.size) (by simp only [List.mem_cons, true_or, or_true])
         have k1_ := hC (w1.heap.size + 1) (by simp only [List.mem_cons, true_or, or_true])
         have k2_ := hC (w1.heap.size + 1 + 1) (by simp only [List.mem_cons, true_or, or_true])
         have k3_ := hC (w1.heap.size + 1 + 1 + 1) (by simp only [List.mem_cons, true_or, or_true])
         have k4_ := hC (b6) (by simp only [List.mem_cons, true_or, or_true])
         have k5_ := hC (b7) (by simp only [List.mem_cons, true_or, or_true])
         clear hC
         go_simp
         rfl)
    | (with_reducible apply held_s (n := 19) 21
       · rfl
       · kernel_rfl
       · kernel_rfl
       · kernel_rfl
       · exact hQ
       · with_reducible exact hK
       · rfl)
  try simp only [Act.put, List.setIfInBounds_toArray, List.set_cons_zero, List.set_cons_succ, List.tail_cons]
  first
    | (with_reducible apply held_v (n := 18) 22
       · rfl
       · kernel_rfl
       · kernel_rfl
       · kernel_rfl
       · exact hQ
       · with_reducible exact hK
       · rfl
       apply Exists.intro
       refine ⟨fun w' hC => ?_, ?_⟩
       · have k0_ := hC (w1.heap.size) (by simp only [List.mem_cons, true_or, or_true])
         have k1_ := hC (w1.heap.size + 1) (by simp only [List.mem_cons, true_or, or_true])
         have k2_ := hC (w1.heap.size + 1 + 1) (by simp only [List.mem_cons, true_or, or_true])
         have k3_ := hC (w1.heap.size + 1 + 1 + 1) (by simp only [List.mem_cons, true_or, or_true])
         have k4_ := hC (b6) (by simp only [List.mem_cons, true_or, or_true])
         have k5_ := hC (b7) (by simp only [List.mem_cons, true_or, or_true])
         clear hC
         go_simp
         rfl)
    | (with_reducible apply held_s (n := 18) 22
       · rfl
       · kernel_rfl
       · kernel_rfl
       · kernel_rfl
       · exact hQ
       · with_reducible exact hK
       · rfl)
  try simp only [Act.put, List.setIfInBounds_toArray, List.set_cons_zero, List.set_cons_succ, List.tail_cons]
  with_reducible apply held_call (n := 17) 18
  · rfl
  · kernel_rfl
  · rfl
  · with_reducible exact hK
  apply Exists.intro
  apply Exists.intro
  apply Exists.intro
  refine ⟨?_, ?_, ?_, ?_⟩
  · go_simp
    exact ⟨rfl, rfl⟩
  · exact Hsub.out _
  · intro b hb
    simp only [List.mem_cons, List.not_mem_nil, or_false] at hb
    rcases hb with rfl | rfl | rfl | rfl | rfl | rfl <;> first | omega | (simp; done) | (simp; omega)
  intro v18 h18 hK
  obtain ⟨c18, f18, s18⟩ := bfacts h18
  try simp only [World.size_alloc, World.size_setCell, size_drew, size_drewN] at s18
  try simp only [Act.put, List.setIfInBounds_toArray, List.set_cons_zero, List.set_cons_succ, List.tail_cons]
  with_reducible apply held_call (n := 16) 23
  · rfl
  · kernel_rfl
  · rfl
  · with_reducible exact hK
  apply Exists.intro
  apply Exists.intro
  apply Exists.intro
  refine ⟨?_, ?_, ?_, ?_⟩
  · go_simp
    exact ⟨rfl, rfl⟩
  · exact refSub_c (pr s) (mulm (pr s) 1 a) (mulm (pr s) 1 b) Hp.out Hx.out Hy.out _
  · intro b hb
    simp only [List.mem_cons, List.not_mem_nil, or_false] at hb
    rcases hb with rfl | rfl | rfl | rfl | rfl | rfl <;> first | omega | (simp; done) | (simp; omega)
  intro v23 h23 hK
  obtain ⟨c23, f23, s23⟩ := bfacts h23
  try simp only [World.size_alloc, World.size_setCell, size_drew, size_drewN] at s23
  try simp only [Act.put, List.setIfInBounds_toArray, List.set_cons_zero, List.set_cons_succ, List.tail_cons]
  with_reducible apply held_call (n := 15) 24
  · rfl
  · kernel_rfl
  · rfl
  · with_reducible exact hK
  apply Exists.intro
  apply Exists.intro
  apply Exists.intro
  refine ⟨?_, ?_, ?_, ?_⟩
  · go_simp
    exact ⟨rfl, rfl⟩
  · exact lawformR_c s _ (Nat.lt_trans (subm_lt Hp0.out _ _) Hp.out) _
  · intro b hb
    simp only [List.mem_cons, List.not_mem_nil, or_false] at hb
    rcases hb with rfl | rfl | rfl | rfl | rfl | rfl <;> first | omega | (simp; done) | (simp; omega)
  intro v24 h24 hK
  obtain ⟨c24, f24, s24⟩ := bfacts h24
  try simp only [World.size_alloc, World.size_setCell, size_drew, size_drewN] at s24
  try simp only [Act.put, List.setIfInBounds_toArray, List.set_cons_zero, List.set_cons_succ, List.tail_cons]
  first
    | (with_reducible apply held_v (n := 14) 25
       · rfl
       · kernel_rfl
       · kernel_rfl
       · kernel_rfl
       · exact hQ
       · with_reducible exact hK
       · rfl
       apply Exists.intro
       refine ⟨fun w' hC => ?_, ?_⟩
       · have k0_ := hC (w1.heap.size) (by simp only [List.mem_cons, true_or, or_true])
         have k1_ := hC (w1.heap.size + 1) (by simp only [List.mem_cons, true_or, or_true])
         have k2_ := hC (w1.heap.size + 1 + 1) (by simp only [List.mem_cons, true_or, or_true])
         have k3_ := hC (w1.heap.size + 1 + 1 + 1) (by simp only [List.mem_cons, true_or, or_true])
         have k4_ := hC (b6) (by simp only [List.mem_cons, true_or, or_true])
         have k5_ := hC (b7) (by simp only [List.mem_cons, true_or, or_true])
         clear hC
         go_simp
         rfl)
    | (with_reducible apply held_s (n := 14) 25
       · rfl
       · kernel_rfl
       · kernel_rfl
       · kernel_rfl
       · exact hQ
       · with_reducible exact hK
       · rfl)
  try simp only [Act.put, List.setIfInBounds_toArray, List.set_cons_zero, List.set_cons_succ, List.tail_cons]
  with_reducible apply held_v (n := 13) 26
  · rfl
  · kernel_rfl
  · kernel_rfl
  · kernel_rfl
  · exact hQ
  · with_reducible exact hK
  · rfl
  apply Exists.intro
  refine ⟨fun w' hC => ?_, ?_⟩
  · have k0_ := hC (w1.heap.size) (by simp only [List.mem_cons, true_or, or_true])
    have k1_ := hC (w1.heap.size + 1) (by simp only [List.mem_cons, true_or, or_true])
    have k2_ := hC (w1.heap.size + 1 + 1) (by simp only [List.mem_cons, true_or, or_true])
    have k3_ := hC (w1.heap.size + 1 + 1 + 1) (by simp only [List.mem_cons, true_or, or_true])
    have k4_ := hC (b6) (by simp only [List.mem_cons, true_or, or_true])
    have k5_ := hC (b7) (by simp only [List.mem_cons, true_or, or_true])
    clear hC
    go_simp
    rfl
  try simp only [Act.put, List.setIfInBounds_toArray, List.set_cons_zero, List.set_cons_succ, List.tail_cons]
  with_reducible apply held_v (n := 12) 27
  · rfl
  · kernel_rfl
  · kernel_rfl
  · kernel_rfl
  · exact hQ
  · with_reducible exact hK
  · rfl
  apply Exists.intro
  refine ⟨fun w' hC => ?_, ?_⟩
  · have k0_ := hC (w1.heap.size) (by simp only [List.mem_cons, true_or, or_true])
    have k1_ := hC (w1.heap.size + 1) (by simp only [List.mem_cons, true_or, or_true])
    have k2_ := hC (w1.heap.size + 1 + 1) (by simp only [List.mem_cons, true_or, or_true])
    have k3_ := hC (w1.heap.size + 1 + 1 + 1) (by simp only [List.mem_cons, true_or, or_true])
    have k4_ := hC (b6) (by simp only [List.mem_cons, true_or, or_true])
    have k5_ := hC (b7) (by simp only [List.mem_cons, true_or, or_true])
    clear hC
    go_simp
    rfl
  try simp only [Act.put, List.setIfInBounds_toArray, List.set_cons_zero, List.set_cons_succ, List.tail_cons]
  first
    | (with_reducible apply held_v (n := 11) 28
       · rfl
       · kernel_rfl
       · kernel_rfl
       · kernel_rfl
       · exact hQ
       · with_reducible exact hK
       · rfl
       apply Exists.intro
       refine ⟨fun w' hC => ?_, ?_⟩
       · have k0_ := hC (w1.heap.size) (by simp only [List.mem_cons, true_or, or_true])
         have k1_ := hC (w1.heap.size + 1) (by simp only [List.mem_cons, true_or, or_true])
         have k2_ := hC (w1.heap.size + 1 + 1) (by simp only [List.mem_cons, true_or, or_true])
         have k3_ := hC (w1.heap.size + 1 + 1 + 1) (by simp only [List.mem_cons, true_or, or_true])
         have k4_ := hC (b6) (by simp only [List.mem_cons, true_or, or_true])
         have k5_ := hC (b7) (by simp only [List.mem_cons, true_or, or_true])
         clear hC
         go_simp
         rfl)
    | (with_reducible apply held_s (n := 11) 28
       · rfl
       · kernel_rfl
       · kernel_rfl
       · kernel_rfl
       · exact hQ
       · with_reducible exact hK
       · rfl)
  try simp only [Act.put, List.setIfInBounds_toArray, List.set_cons_zero, List.set_cons_succ, List.tail_cons]
  first
    | (with_reducible apply held_v (n := 10) 29
       · rfl
       · kernel_rfl
       · kernel_rfl
       · kernel_rfl
       · exact hQ
       · with_reducible exact hK
       · rfl
       apply Exists.intro
       refine ⟨fun w' hC => ?_, ?_⟩
       · have k0_ := hC (w1.heap.size) (by simp only [List.mem_cons, true_or, or_true])
         have k1_ := hC (w1.heap.size + 1) (by simp only [List.mem_cons, true_or, or_true])
         have k2_ := hC (w1.heap.size + 1 + 1) (by simp only [List.mem_cons, true_or, or_true])
         have k3_ := hC (w1.heap.size + 1 + 1 + 1) (by simp only [List.mem_cons, true_or, or_true])
         have k4_ := hC (b6) (by simp only [List.mem_cons, true_or, or_true])
         have k5_ := hC (b7) (by simp only [List.mem_cons, true_or, or_true])
         clear hC
         go_simp
         rfl)
    | (with_reducible apply held_s (n := 10) 29
       · rfl
       · kernel_rfl
       · kernel_rfl
       · kernel_rfl
       · exact hQ
       · with_reducible exact hK
       · rfl)
  try simp only [Act.put, List.setIfInBounds_toArray, List.set_cons_zero, List.set_cons_succ, List.tail_cons]
  first
    | (with_reducible apply held_v (n := 9) 31
       · rfl
       · kernel_rfl
       · kernel_rfl
       · kernel_rfl
       · exact hQ
       · with_reducible exact hK
       · rfl
       apply Exists.intro
       refine ⟨fun w' hC => ?_, ?_⟩
       · have k0_ := hC (w1.heap.size) (by simp only [List.mem_cons, true_or, or_true])
         have k1_ := hC (w1.heap.size + 1) (by simp only [List.mem_cons, true_or, or_true])
         have k2_ := hC (w1.heap.size + 1 + 1) (by simp only [List.mem_cons, true_or, or_true])
         have k3_ := hC (w1.heap.size + 1 + 1 + 1) (by simp only [List.mem_cons, true_or, or_true])
         have k4_ := hC (b6) (by simp only [List.mem_cons, true_or, or_true])
         have k5_ := hC (b7) (by simp only [List.mem_cons, true_or, or_true])
         clear hC
         go_simp
         rfl)
    | (with_reducible apply held_s (n := 9) 31
       · rfl
       · kernel_rfl
       · kernel_rfl
       · kernel_rfl
       · exact hQ
       · with_reducible exact hK
       · rfl)
  try simp only [Act.put, List.setIfInBounds_toArray, List.set_cons_zero, List.set_cons_succ, List.tail_cons]
  first
    | (with_reducible apply held_v (n := 8) 32
       · rfl
       · kernel_rfl
       · kernel_rfl
       · kernel_rfl
       · exact hQ
       · with_reducible exact hK
       · rfl
       apply Exists.intro
       refine ⟨fun w' hC => ?_, ?_⟩
       · have k0_ := hC (w1.heap.size) (by simp only [List.mem_cons, true_or, or_true])
         have k1_ := hC (w1.heap.size + 1) (by simp only [List.mem_cons, true_or, or_true])
         have k2_ := hC (w1.heap.size + 1 + 1) (by simp only [List.mem_cons, true_or, or_true])
         have k3_ := hC (w1.heap.size + 1 + 1 + 1) (by simp only [List.mem_cons, true_or, or_true])
         have k4_ := hC (b6) (by simp only [List.mem_cons, true_or, or_true])
         have k5_ := hC (b7) (by simp only [List.mem_cons, true_or, or_true])
         clear hC
         go_simp
         rfl)
    | (with_reducible apply held_s (n := 8) 32
       · rfl
       · kernel_rfl
       · kernel_rfl
       · kernel_rfl
       · exact hQ
       · with_reducible exact hK
       · rfl)
  try simp only [Act.put, List.setIfInBounds_toArray, List.set_cons_zero, List.set_cons_succ, List.tail_cons]
  first
    | (with_reducible apply held_v (n := 7) 33
       · rfl
       · kernel_rfl
       · kernel_rfl
       · kernel_rfl
       · exact hQ
       · with_reducible exact hK
       · rfl
       apply Exists.intro
       refine ⟨fun w' hC => ?_, ?_⟩
       · have k0_ := hC (w1.heap.size) (by simp only [List.mem_cons, true_or, or_true])
         have k1_ := hC (w1.heap.size + 1) (by simp only [List.mem_cons, true_or, or_true])
         have k2_ := hC (w1.heap.size + 1 + 1) (by simp only [List.mem_cons, true_or, or_true])
         have k3_ := hC (w1.heap.size + 1 + 1 + 1) (by simp only [List.mem_cons, true_or, or_true])
         have k4_ := hC (b6) (by simp only [List.mem_cons, true_or, or_true])
         have k5_ := hC (b7) (by simp only [List.mem_cons, true_or, or_true])
         clear hC
         go_simp
         rfl)
    | (with_reducible apply held_s (n := 7) 33
       · rfl
       · kernel_rfl
       · kernel_rfl
       · kernel_rfl
       · exact hQ
       · with_reducible exact hK
       · rfl)
  try simp only [Act.put, List.setIfInBounds_toArray, List.set_cons_zero, List.set_cons_succ, List.tail_cons]
  first
    | (with_reducible apply held_v (n := 6) 34
       · rfl
       · kernel_rfl
       · kernel_rfl
       · kernel_rfl
       · exact hQ
       · with_reducible exact hK
       · rfl
       apply Exists.intro
       refine ⟨fun w' hC => ?_, ?_⟩
       · have k0_ := hC (w1.heap.size) (by simp only [List.mem_cons, true_or, or_true])
         have k1_ := hC (w1.heap.size + 1) (by simp only [List.mem_cons, true_or, or_true])
         have k2_ := hC (w1.heap.size + 1 + 1) (by simp only [List.mem_cons, true_or, or_true])
         have k3_ := hC (w1.heap.size + 1 + 1 + 1) (by simp only [List.mem_cons, true_or, or_true])
         have k4_ := hC (b6) (by simp only [List.mem_cons, true_or, or_true])
         have k5_ := hC (b7) (by simp only [List.mem_cons, true_or, or_true])
         clear hC
         go_simp
         rfl)
    | (with_reducible apply held_s (n := 6) 34
       · rfl
       · kernel_rfl
       · kernel_rfl
       · kernel_rfl
       · exact hQ
       · with_reducible exact hK
       · rfl)
  try simp only [Act.put, List.setIfInBounds_toArray, List.set_cons_zero, List.set_cons_succ, List.tail_cons]
  with_reducible apply held_call (n := 5) 30
  · rfl
  · kernel_rfl
  · rfl
  · with_reducible exact hK
  apply Exists.intro
  apply Exists.intro
  apply Exists.intro
  refine ⟨?_, ?_, ?_, ?_⟩
  · go_simp
    exact ⟨rfl, rfl⟩
  · exact Hneg.out _
  · intro b hb
    simp only [List.mem_cons, List.not_mem_nil, or_false] at hb
    rcases hb with rfl | rfl | rfl | rfl | rfl | rfl <;> first | omega | (simp; done) | (simp; omega)
  intro v30 h30 hK
  obtain ⟨c30, f30, s30⟩ := bfacts h30
  try simp only [World.size_alloc, World.size_setCell, size_drew, size_drewN] at s30
  try simp only [Act.put, List.setIfInBounds_toArray, List.set_cons_zero, List.set_cons_succ, List.tail_cons]
  with_reducible apply held_call (n := 4) 35
  · rfl
  · kernel_rfl
  · rfl
  · with_reducible exact hK
  apply Exists.intro
  apply Exists.intro
  apply Exists.intro
  refine ⟨?_, ?_, ?_, ?_⟩
  · go_simp
    exact ⟨rfl, rfl⟩
  · exact refSub_c (pr s) 0 (mulm (pr s) 1 a) Hp.out Hp0.out Hx.out _
  · intro b hb
    simp only [List.mem_cons, List.not_mem_nil, or_false] at hb
    rcases hb with rfl | rfl | rfl | rfl | rfl | rfl <;> first | omega | (simp; done) | (simp; omega)
  intro v35 h35 hK
  obtain ⟨c35, f35, s35⟩ := bfacts h35
  try simp only [World.size_alloc, World.size_setCell, size_drew, size_drewN] at s35
  try simp only [Act.put, List.setIfInBounds_toArray, List.set_cons_zero, List.set_cons_succ, List.tail_cons]
  with_reducible apply held_call (n := 3) 36
  · rfl
  · kernel_rfl
  · rfl
  · with_reducible exact hK
  apply Exists.intro
  apply Exists.intro
  apply Exists.intro
  refine ⟨?_, ?_, ?_, ?_⟩
  · go_simp
    exact ⟨rfl, rfl⟩
  · exact lawformR_c s _ (Nat.lt_trans (subm_lt Hp0.out _ _) Hp.out) _
  · intro b hb
    simp only [List.mem_cons, List.not_mem_nil, or_false] at hb
    rcases hb with rfl | rfl | rfl | rfl | rfl | rfl <;> first | omega | (simp; done) | (simp; omega)
  intro v36 h36 hK
  obtain ⟨c36, f36, s36⟩ := bfacts h36
  try simp only [World.size_alloc, World.size_setCell, size_drew, size_drewN] at s36
  try simp only [Act.put, List.setIfInBounds_toArray, List.set_cons_zero, List.set_cons_succ, List.tail_cons]
  first
    | (with_reducible apply held_v (n := 2) 37
       · rfl
       · kernel_rfl
       · kernel_rfl
       · kernel_rfl
       · exact hQ
       · with_reducible exact hK
       · rfl
       apply Exists.intro
       refine ⟨fun w' hC => ?_, ?_⟩
       · have k0_ := hC (w1.heap.size) (by simp only [List.mem_cons, true_or, or_true])
         have k1_ := hC (w1.heap.size + 1) (by simp only [List.mem_cons, true_or, or_true])
         have k2_ := hC (w1.heap.size + 1 + 1) (by simp only [List.mem_cons, true_or, or_true])
         have k3_ := hC (w1.heap.size + 1 + 1 + 1) (by simp only [List.mem_cons, true_or, or_true])
         have k4_ := hC (b6) (by simp only [List.mem_cons, true_or, or_true])
         have k5_ := hC (b7) (by simp only [List.mem_cons, true_or, or_true])
         clear hC
         go_simp
         rfl)
    | (with_reducible apply held_s (n := 2) 37
       · rfl
       · kernel_rfl
       · kernel_rfl
       · kernel_rfl
       · exact hQ
       · with_reducible exact hK
       · rfl)
  try simp only [Act.put, List.setIfInBounds_toArray, List.set_cons_zero, List.set_cons_succ, List.tail_cons]
  with_reducible apply held_v (n := 1) 38
  · rfl
  · kernel_rfl
  · kernel_rfl
  · kernel_rfl
  · exact hQ
  · with_reducible exact hK
  · rfl
  apply Exists.intro
  refine ⟨fun w' hC => ?_, ?_⟩
  · have k0_ := hC (w1.heap.size) (by simp only [List.mem_cons, true_or, or_true])
    have k1_ := hC (w1.heap.size + 1) (by simp only [List.mem_cons, true_or, or_true])
    have k2_ := hC (w1.heap.size + 1 + 1) (by simp only [List.mem_cons, true_or, or_true])
    have k3_ := hC (w1.heap.size + 1 + 1 + 1) (by simp only [List.mem_cons, true_or, or_true])
    have k4_ := hC (b6) (by simp only [List.mem_cons, true_or, or_true])
    have k5_ := hC (b7) (by simp only [List.mem_cons, true_or, or_true])
    clear hC
    go_simp
    rfl
  try simp only [Act.put, List.setIfInBounds_toArray, List.set_cons_zero, List.set_cons_succ, List.tail_cons]
  with_reducible apply held_v (n := 0) 39
  · rfl
  · kernel_rfl
  · kernel_rfl
  · kernel_rfl
  · exact hQ
  · with_reducible exact hK
  · rfl
  apply Exists.intro
  refine ⟨fun w' hC => ?_, ?_⟩
  · have k0_ := hC (w1.heap.size) (by simp only [List.mem_cons, true_or, or_true])
    have k1_ := hC (w1.heap.size + 1) (by simp only [List.mem_cons, true_or, or_true])
    have k2_ := hC (w1.heap.size + 1 + 1) (by simp only [List.mem_cons, true_or, or_true])
    have k3_ := hC (w1.heap.size + 1 + 1 + 1) (by simp only [List.mem_cons, true_or, or_true])
    have k4_ := hC (b6) (by simp only [List.mem_cons, true_or, or_true])
    have k5_ := hC (b7) (by simp only [List.mem_cons, true_or, or_true])
    clear hC
    go_simp
    rfl
  try simp only [Act.put, List.setIfInBounds_toArray, List.set_cons_zero, List.set_cons_succ, List.tail_cons]
  refine held_end (by kernel_rfl) ?_
  clear hK hQ
  go_wp2_with fail
  refine bodyPost_ret (v := .bool true) (by simp only [results, Tryd.results3]; go_simp) rfl ⟨rfl, ?_⟩
  repeat first
    | with_reducible exact Below.refl _ _
    | with_reducible refine Below.drew ?_
    | with_reducible refine below_dN ?_
    | with_reducible refine Below.alloc ?_ (by first | omega | (simp; done) | (simp; omega)) _
    | with_reducible refine Below.setCell ?_ (by first | omega | (simp; done) | (simp; omega)) _
    | with_reducible refine Below.trans ?_ (Below.mono (by assumption) (by first | omega | (simp; done) | (simp; omega)))
end Go.Proofs.YtpebojiijgkadaaDoor
