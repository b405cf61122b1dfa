/- The walk of law 5's MontStaysBelow. -/
import Derived.Test.YtpebojiijgkadaaDoorLawOps
namespace Go.Proofs.YtpebojiijgkadaaDoor
set_option linter.all false
open Go.RowKit

set_option maxRecDepth 100000 in
set_option maxHeartbeats 16000000 in
theorem montStaysBelow_c (s : Bool) (a b : Nat) (ha : a < R4) (hb : b < R4) (w : World) (hL : Laid w) :
    Calls Tryd.prog 7 #[.bool s, vec a, vec b] w fun e w' => e = .returned (.bool true) ∧ Below w.heap.size w w' := by
  have Hp := Lib.hid (pr_lt s)
  have Hp0 := Lib.hid (pr_pos s)
  have HL := Lib.hid hL
  have Hx := Lib.hid (red_lt s a)
  have Hy := Lib.hid (red_lt s b)
  have Hx4 := Lib.hid (Nat.lt_trans Hx.out Hp.out)
  have Hy4 := Lib.hid (Nat.lt_trans Hy.out Hp.out)
  have Ha := Lib.hid ha
  go_enter Tryd.func7, Tryd.ntmps7
  go_wp2_with fail
  refine Calls.mono (lawpair_c s a b ha hb _ (hL.step (by repeat first | with_reducible exact Below.refl _ _ | with_reducible refine Below.drew ?_ | with_reducible refine below_dN ?_ | with_reducible refine Below.alloc ?_ (by first | omega | (simp; done) | (simp; omega)) _ | with_reducible refine Below.setCell ?_ (by first | omega | (simp; done) | (simp; omega)) _ | with_reducible refine Below.trans ?_ (Below.mono (by assumption) (by first | omega | (simp; done) | (simp; omega)))))) ?_
  rintro _ w1 ⟨rfl, h1⟩
  obtain ⟨c1, f1, s1⟩ := bfacts h1
  try simp only [World.size_alloc, World.size_setCell, size_drew, size_drewN] at s1
  have lp_w_w1_0 : w.heap.size < w1.heap.size := by omega
  have lp_w_w1_1 : w.heap.size < w1.heap.size + 1 := by omega
  have lp_w_w1_2 : w.heap.size < w1.heap.size + 1 + 1 := by omega
  have lp_w_w1_3 : w.heap.size < w1.heap.size + 1 + 1 + 1 := by omega
  have lp_w_w1_4 : w.heap.size < w1.heap.size + 1 + 1 + 1 + 1 := by omega
  go_wp2_with fail
  refine region_grow 8 [0, 1, 2, 3, 4, 5, 6, 7] [(6, (fun b => Value.pointer (some ⟨b, 0, Option.none⟩)), (Obj.cells #[.int .u64 0, .int .u64 0, .int .u64 0, .int .u64 0] 24)), (7, (fun b => Value.pointer (some ⟨b, 0, Option.none⟩)), (Obj.cells #[.int .u64 0, .int .u64 0, .int .u64 0, .int .u64 0] 24))] [2, 5] (by kernel_rfl) (by kernel_rfl) ?_
  with_reducible apply grow_v
  · rfl
  · rfl
  · rfl
  apply Exists.intro
  refine ⟨fun w' hC => ?_, ?_⟩
  · have hcell := below_cells hC
    clear hC
    go_simp
    rfl
  try simp only [Act.put, List.setIfInBounds_toArray, List.set_cons_zero, List.set_cons_succ, List.tail_cons]
  with_reducible apply grow_v
  · rfl
  · rfl
  · rfl
  apply Exists.intro
  refine ⟨fun w' hC => ?_, ?_⟩
  · have hcell := below_cells hC
    clear hC
    go_simp
    rfl
  try simp only [Act.put, List.setIfInBounds_toArray, List.set_cons_zero, List.set_cons_succ, List.tail_cons]
  with_reducible apply grow_c
  · rfl
  · rfl
  · rfl
  · rfl
  apply Exists.intro
  apply Exists.intro
  apply Exists.intro
  refine ⟨fun w' hC => ?_, fun w' hC => ?_, ?_⟩
  · have hcell := below_cells hC
    clear hC
    go_simp
    exact ⟨rfl, rfl⟩
  · exact lawformR_c s (mulm (pr s) 1 a) Hx4.out _
  try simp only [Act.put, List.setIfInBounds_toArray, List.set_cons_zero, List.set_cons_succ, List.tail_cons]
  with_reducible apply grow_v
  · rfl
  · rfl
  · rfl
  apply Exists.intro
  refine ⟨fun w' hC => ?_, ?_⟩
  · have hcell := below_cells hC
    clear hC
    go_simp
    rfl
  try simp only [Act.put, List.setIfInBounds_toArray, List.set_cons_zero, List.set_cons_succ, List.tail_cons]
  with_reducible apply grow_v
  · rfl
  · rfl
  · rfl
  apply Exists.intro
  refine ⟨fun w' hC => ?_, ?_⟩
  · have hcell := below_cells hC
    clear hC
    go_simp
    rfl
  try simp only [Act.put, List.setIfInBounds_toArray, List.set_cons_zero, List.set_cons_succ, List.tail_cons]
  with_reducible apply grow_c
  · rfl
  · rfl
  · rfl
  · rfl
  apply Exists.intro
  apply Exists.intro
  apply Exists.intro
  refine ⟨fun w' hC => ?_, fun w' hC => ?_, ?_⟩
  · have hcell := below_cells hC
    clear hC
    go_simp
    exact ⟨rfl, rfl⟩
  · exact lawformR_c s (mulm (pr s) 1 b) Hy4.out _
  try simp only [Act.put, List.setIfInBounds_toArray, List.set_cons_zero, List.set_cons_succ, List.tail_cons]
  with_reducible apply grow_m
  · rfl
  · rfl
  · rfl
  refine ⟨fun w' hC => ?_, fun b6 => ?_⟩
  · clear hC
    go_simp
  try dsimp only
  try simp only [Act.put, List.setIfInBounds_toArray, List.set_cons_zero, List.set_cons_succ, List.tail_cons]
  with_reducible apply grow_m
  · rfl
  · rfl
  · rfl
  refine ⟨fun w' hC => ?_, fun b7 => ?_⟩
  · clear hC
    go_simp
  try dsimp only
  try simp only [Act.put, List.setIfInBounds_toArray, List.set_cons_zero, List.set_cons_succ, List.tail_cons]
  refine grow_end ?_
  intro wg2 hg2
  obtain ⟨cg2, fg2, sg2⟩ := bfacts hg2.grows
  try simp only [World.size_alloc, World.size_setCell, size_drew, size_drewN] at sg2
  obtain ⟨kb6, fb6, lb6⟩ := has_cells (hg2.has (b6, Obj.cells #[.int .u64 0, .int .u64 0, .int .u64 0, .int .u64 0] 24) (by simp only [List.mem_cons, true_or, or_true]))
  have nb6 := hg2.new (b6, Obj.cells #[.int .u64 0, .int .u64 0, .int .u64 0, .int .u64 0] 24) (by simp only [List.mem_cons, true_or, or_true])
  try simp only [World.size_alloc, World.size_setCell, size_drew, size_drewN] at nb6
  have kb6_0 := kb6 0 _ rfl
  have kb6_1 := kb6 1 _ rfl
  have kb6_2 := kb6 2 _ rfl
  have kb6_3 := kb6 3 _ rfl
  clear kb6
  obtain ⟨kb7, fb7, lb7⟩ := has_cells (hg2.has (b7, Obj.cells #[.int .u64 0, .int .u64 0, .int .u64 0, .int .u64 0] 24) (by simp only [List.mem_cons, true_or, or_true]))
  have nb7 := hg2.new (b7, Obj.cells #[.int .u64 0, .int .u64 0, .int .u64 0, .int .u64 0] 24) (by simp only [List.mem_cons, true_or, or_true])
  try simp only [World.size_alloc, World.size_setCell, size_drew, size_drewN] at nb7
  have kb7_0 := kb7 0 _ rfl
  have kb7_1 := kb7 1 _ rfl
  have kb7_2 := kb7 2 _ rfl
  have kb7_3 := kb7 3 _ rfl
  clear kb7
  have nd6_7 : b6 ≠ b7 := by have := hg2.nodup; simp only [List.map_cons, List.map_nil, List.nodup_cons, List.mem_cons, List.not_mem_nil, or_false, not_or] at this; omega
  have nd7_6 : b7 ≠ b6 := Ne.symm nd6_7
  have Hg2 : Below _ _ wg2 := hg2.grows
  clear hg2
  simp only [List.drop_succ_cons, List.drop_zero]
  go_wp2_with fail
  refine held_begin 27 [w.heap.size, w1.heap.size, b6, b7] (by kernel_rfl) rfl (by intro _ _ d _ _ h; cases d <;> exact h) ?_
  intro hQ hK
  with_reducible apply held_v (n := 26) 0
  · rfl
  · kernel_rfl
  · kernel_rfl
  · kernel_rfl
  · exact hQ
  · with_reducible exact hK
  · rfl
  apply Exists.intro
  refine ⟨fun w' hC => ?_, ?_⟩
  · have k0_ := hC (w.heap.size) (by simp only [List.mem_cons, true_or, or_true])
    have k1_ := hC (w1.heap.size) (by simp only [List.mem_cons, true_or, or_true])
    have k2_ := hC (b6) (by simp only [List.mem_cons, true_or, or_true])
    have k3_ := hC (b7) (by simp only [List.mem_cons, true_or, or_true])
    clear hC
    go_simp
    rfl
  try simp only [Act.put, List.setIfInBounds_toArray, List.set_cons_zero, List.set_cons_succ, List.tail_cons]
  with_reducible apply held_v (n := 25) 1
  · rfl
  · kernel_rfl
  · kernel_rfl
  · kernel_rfl
  · exact hQ
  · with_reducible exact hK
  · rfl
  apply Exists.intro
  refine ⟨fun w' hC => ?_, ?_⟩
  · have k0_ := hC (w.heap.size) (by simp only [List.mem_cons, true_or, or_true])
    have k1_ := hC (w1.heap.size) (by simp only [List.mem_cons, true_or, or_true])
    have k2_ := hC (b6) (by simp only [List.mem_cons, true_or, or_true])
    have k3_ := hC (b7) (by simp only [List.mem_cons, true_or, or_true])
    clear hC
    go_simp
    rfl
  try simp only [Act.put, List.setIfInBounds_toArray, List.set_cons_zero, List.set_cons_succ, List.tail_cons]
  with_reducible apply held_v (n := 24) 2
  · rfl
  · kernel_rfl
  · kernel_rfl
  · kernel_rfl
  · exact hQ
  · with_reducible exact hK
  · rfl
  apply Exists.intro
  refine ⟨fun w' hC => ?_, ?_⟩
  · have k0_ := hC (w.heap.size) (by simp only [List.mem_cons, true_or, or_true])
    have k1_ := hC (w1.heap.size) (by simp only [List.mem_cons, true_or, or_true])
    have k2_ := hC (b6) (by simp only [List.mem_cons, true_or, or_true])
    have k3_ := hC (b7) (by simp only [List.mem_cons, true_or, or_true])
    clear hC
    go_simp
    rfl
  try simp only [Act.put, List.setIfInBounds_toArray, List.set_cons_zero, List.set_cons_succ, List.tail_cons]
  with_reducible apply held_v (n := 23) 4
  · rfl
  · kernel_rfl
  · kernel_rfl
  · kernel_rfl
  · exact hQ
  · with_reducible exact hK
  · rfl
  apply Exists.intro
  refine ⟨fun w' hC => ?_, ?_⟩
  · have k0_ := hC (w.heap.size) (by simp only [List.mem_cons, true_or, or_true])
    have k1_ := hC (w1.heap.size) (by simp only [List.mem_cons, true_or, or_true])
    have k2_ := hC (b6) (by simp only [List.mem_cons, true_or, or_true])
    have k3_ := hC (b7) (by simp only [List.mem_cons, true_or, or_true])
    clear hC
    go_simp
    rfl
  try simp only [Act.put, List.setIfInBounds_toArray, List.set_cons_zero, List.set_cons_succ, List.tail_cons]
  with_reducible apply held_v (n := 22) 5
  · rfl
  · kernel_rfl
  · kernel_rfl
  · kernel_rfl
  · exact hQ
  · with_reducible exact hK
  · rfl
  apply Exists.intro
  refine ⟨fun w' hC => ?_, ?_⟩
  · have k0_ := hC (w.heap.size) (by simp only [List.mem_cons, true_or, or_true])
    have k1_ := hC (w1.heap.size) (by simp only [List.mem_cons, true_or, or_true])
    have k2_ := hC (b6) (by simp only [List.mem_cons, true_or, or_true])
    have k3_ := hC (b7) (by simp only [List.mem_cons, true_or, or_true])
    clear hC
    go_simp
    rfl
  try simp only [Act.put, List.setIfInBounds_toArray, List.set_cons_zero, List.set_cons_succ, List.tail_cons]
  with_reducible apply held_v (n := 21) 6
  · rfl
  · kernel_rfl
  · kernel_rfl
  · kernel_rfl
  · exact hQ
  · with_reducible exact hK
  · rfl
  apply Exists.intro
  refine ⟨fun w' hC => ?_, ?_⟩
  · have k0_ := hC (w.heap.size) (by simp only [List.mem_cons, true_or, or_true])
    have k1_ := hC (w1.heap.size) (by simp only [List.mem_cons, true_or, or_true])
    have k2_ := hC (b6) (by simp only [List.mem_cons, true_or, or_true])
    have k3_ := hC (b7) (by simp only [List.mem_cons, true_or, or_true])
    clear hC
    go_simp
    rfl
  try simp only [Act.put, List.setIfInBounds_toArray, List.set_cons_zero, List.set_cons_succ, List.tail_cons]
  with_reducible apply held_v (n := 20) 8
  · rfl
  · kernel_rfl
  · kernel_rfl
  · kernel_rfl
  · exact hQ
  · with_reducible exact hK
  · rfl
  apply Exists.intro
  refine ⟨fun w' hC => ?_, ?_⟩
  · have k0_ := hC (w.heap.size) (by simp only [List.mem_cons, true_or, or_true])
    have k1_ := hC (w1.heap.size) (by simp only [List.mem_cons, true_or, or_true])
    have k2_ := hC (b6) (by simp only [List.mem_cons, true_or, or_true])
    have k3_ := hC (b7) (by simp only [List.mem_cons, true_or, or_true])
    clear hC
    go_simp
    rfl
  try simp only [Act.put, List.setIfInBounds_toArray, List.set_cons_zero, List.set_cons_succ, List.tail_cons]
  with_reducible apply held_v (n := 19) 9
  · rfl
  · kernel_rfl
  · kernel_rfl
  · kernel_rfl
  · exact hQ
  · with_reducible exact hK
  · rfl
  apply Exists.intro
  refine ⟨fun w' hC => ?_, ?_⟩
  · have k0_ := hC (w.heap.size) (by simp only [List.mem_cons, true_or, or_true])
    have k1_ := hC (w1.heap.size) (by simp only [List.mem_cons, true_or, or_true])
    have k2_ := hC (b6) (by simp only [List.mem_cons, true_or, or_true])
    have k3_ := hC (b7) (by simp only [List.mem_cons, true_or, or_true])
    clear hC
    go_simp
    rfl
  try simp only [Act.put, List.setIfInBounds_toArray, List.set_cons_zero, List.set_cons_succ, List.tail_cons]
  with_reducible apply held_v (n := 18) 10
  · rfl
  · kernel_rfl
  · kernel_rfl
  · kernel_rfl
  · exact hQ
  · with_reducible exact hK
  · rfl
  apply Exists.intro
  refine ⟨fun w' hC => ?_, ?_⟩
  · have k0_ := hC (w.heap.size) (by simp only [List.mem_cons, true_or, or_true])
    have k1_ := hC (w1.heap.size) (by simp only [List.mem_cons, true_or, or_true])
    have k2_ := hC (b6) (by simp only [List.mem_cons, true_or, or_true])
    have k3_ := hC (b7) (by simp only [List.mem_cons, true_or, or_true])
    clear hC
    go_simp
    rfl
  try simp only [Act.put, List.setIfInBounds_toArray, List.set_cons_zero, List.set_cons_succ, List.tail_cons]
  with_reducible apply held_v (n := 17) 12
  · rfl
  · kernel_rfl
  · kernel_rfl
  · kernel_rfl
  · exact hQ
  · with_reducible exact hK
  · rfl
  apply Exists.intro
  refine ⟨fun w' hC => ?_, ?_⟩
  · have k0_ := hC (w.heap.size) (by simp only [List.mem_cons, true_or, or_true])
    have k1_ := hC (w1.heap.size) (by simp only [List.mem_cons, true_or, or_true])
    have k2_ := hC (b6) (by simp only [List.mem_cons, true_or, or_true])
    have k3_ := hC (b7) (by simp only [List.mem_cons, true_or, or_true])
    clear hC
    go_simp
    rfl
  try simp only [Act.put, List.setIfInBounds_toArray, List.set_cons_zero, List.set_cons_succ, List.tail_cons]
  with_reducible apply held_v (n := 16) 13
  · rfl
  · kernel_rfl
  · kernel_rfl
  · kernel_rfl
  · exact hQ
  · with_reducible exact hK
  · rfl
  apply Exists.intro
  refine ⟨fun w' hC => ?_, ?_⟩
  · have k0_ := hC (w.heap.size) (by simp only [List.mem_cons, true_or, or_true])
    have k1_ := hC (w1.heap.size) (by simp only [List.mem_cons, true_or, or_true])
    have k2_ := hC (b6) (by simp only [List.mem_cons, true_or, or_true])
    have k3_ := hC (b7) (by simp only [List.mem_cons, true_or, or_true])
    clear hC
    go_simp
    rfl
  try simp only [Act.put, List.setIfInBounds_toArray, List.set_cons_zero, List.set_cons_succ, List.tail_cons]
  with_reducible apply held_v (n := 15) 15
  · rfl
  · kernel_rfl
  · kernel_rfl
  · kernel_rfl
  · exact hQ
  · with_reducible exact hK
  · rfl
  apply Exists.intro
  refine ⟨fun w' hC => ?_, ?_⟩
  · have k0_ := hC (w.heap.size) (by simp only [List.mem_cons, true_or, or_true])
    have k1_ := hC (w1.heap.size) (by simp only [List.mem_cons, true_or, or_true])
    have k2_ := hC (b6) (by simp only [List.mem_cons, true_or, or_true])
    have k3_ := hC (b7) (by simp only [List.mem_cons, true_or, or_true])
    clear hC
    go_simp
    rfl
  try simp only [Act.put, List.setIfInBounds_toArray, List.set_cons_zero, List.set_cons_succ, List.tail_cons]
  with_reducible apply held_v (n := 14) 16
  · rfl
  · kernel_rfl
  · kernel_rfl
  · kernel_rfl
  · exact hQ
  · with_reducible exact hK
  · rfl
  apply Exists.intro
  refine ⟨fun w' hC => ?_, ?_⟩
  · have k0_ := hC (w.heap.size) (by simp only [List.mem_cons, true_or, or_true])
    have k1_ := hC (w1.heap.size) (by simp only [List.mem_cons, true_or, or_true])
    have k2_ := hC (b6) (by simp only [List.mem_cons, true_or, or_true])
    have k3_ := hC (b7) (by simp only [List.mem_cons, true_or, or_true])
    clear hC
    go_simp
    rfl
  try simp only [Act.put, List.setIfInBounds_toArray, List.set_cons_zero, List.set_cons_succ, List.tail_cons]
  with_reducible apply held_v (n := 13) 18
  · rfl
  · kernel_rfl
  · kernel_rfl
  · kernel_rfl
  · exact hQ
  · with_reducible exact hK
  · rfl
  apply Exists.intro
  refine ⟨fun w' hC => ?_, ?_⟩
  · have k0_ := hC (w.heap.size) (by simp only [List.mem_cons, true_or, or_true])
    have k1_ := hC (w1.heap.size) (by simp only [List.mem_cons, true_or, or_true])
    have k2_ := hC (b6) (by simp only [List.mem_cons, true_or, or_true])
    have k3_ := hC (b7) (by simp only [List.mem_cons, true_or, or_true])
    clear hC
    go_simp
    rfl
  try simp only [Act.put, List.setIfInBounds_toArray, List.set_cons_zero, List.set_cons_succ, List.tail_cons]
  with_reducible apply held_v (n := 12) 19
  · rfl
  · kernel_rfl
  · kernel_rfl
  · kernel_rfl
  · exact hQ
  · with_reducible exact hK
  · rfl
  apply Exists.intro
  refine ⟨fun w' hC => ?_, ?_⟩
  · have k0_ := hC (w.heap.size) (by simp only [List.mem_cons, true_or, or_true])
    have k1_ := hC (w1.heap.size) (by simp only [List.mem_cons, true_or, or_true])
    have k2_ := hC (b6) (by simp only [List.mem_cons, true_or, or_true])
    have k3_ := hC (b7) (by simp only [List.mem_cons, true_or, or_true])
    clear hC
    go_simp
    rfl
  try simp only [Act.put, List.setIfInBounds_toArray, List.set_cons_zero, List.set_cons_succ, List.tail_cons]
  with_reducible apply held_v (n := 11) 21
  · rfl
  · kernel_rfl
  · kernel_rfl
  · kernel_rfl
  · exact hQ
  · with_reducible exact hK
  · rfl
  apply Exists.intro
  refine ⟨fun w' hC => ?_, ?_⟩
  · have k0_ := hC (w.heap.size) (by simp only [List.mem_cons, true_or, or_true])
    have k1_ := hC (w1.heap.size) (by simp only [List.mem_cons, true_or, or_true])
    have k2_ := hC (b6) (by simp only [List.mem_cons, true_or, or_true])
    have k3_ := hC (b7) (by simp only [List.mem_cons, true_or, or_true])
    clear hC
    go_simp
    rfl
  try simp only [Act.put, List.setIfInBounds_toArray, List.set_cons_zero, List.set_cons_succ, List.tail_cons]
  with_reducible apply held_v (n := 10) 22
  · rfl
  · kernel_rfl
  · kernel_rfl
  · kernel_rfl
  · exact hQ
  · with_reducible exact hK
  · rfl
  apply Exists.intro
  refine ⟨fun w' hC => ?_, ?_⟩
  · have k0_ := hC (w.heap.size) (by simp only [List.mem_cons, true_or, or_true])
    have k1_ := hC (w1.heap.size) (by simp only [List.mem_cons, true_or, or_true])
    have k2_ := hC (b6) (by simp only [List.mem_cons, true_or, or_true])
    have k3_ := hC (b7) (by simp only [List.mem_cons, true_or, or_true])
    clear hC
    go_simp
    rfl
  try simp only [Act.put, List.setIfInBounds_toArray, List.set_cons_zero, List.set_cons_succ, List.tail_cons]
  with_reducible apply held_v (n := 9) 26
  · rfl
  · kernel_rfl
  · kernel_rfl
  · kernel_rfl
  · exact hQ
  · with_reducible exact hK
  · rfl
  apply Exists.intro
  refine ⟨fun w' hC => ?_, ?_⟩
  · have k0_ := hC (w.heap.size) (by simp only [List.mem_cons, true_or, or_true])
    have k1_ := hC (w1.heap.size) (by simp only [List.mem_cons, true_or, or_true])
    have k2_ := hC (b6) (by simp only [List.mem_cons, true_or, or_true])
    have k3_ := hC (b7) (by simp only [List.mem_cons, true_or, or_true])
    clear hC
    go_simp
    rfl
  try simp only [Act.put, List.setIfInBounds_toArray, List.set_cons_zero, List.set_cons_succ, List.tail_cons]
  with_reducible apply held_call (n := 8) 3
  · rfl
  · kernel_rfl
  · rfl
  · with_reducible exact hK
  apply Exists.intro
  apply Exists.intro
  apply Exists.intro
  refine ⟨?_, ?_, ?_, ?_⟩
  · go_simp
    exact ⟨rfl, rfl⟩
  · exact mulR_c s _ _ _
  · intro b hb
    simp only [List.mem_cons, List.not_mem_nil, or_false] at hb
    rcases hb with rfl | rfl | rfl | rfl <;> first | omega | (simp; done) | (simp; omega)
  intro v3 h3 hK
  obtain ⟨c3, f3, s3⟩ := bfacts h3
  try simp only [World.size_alloc, World.size_setCell, size_drew, size_drewN] at s3
  try simp only [Act.put, List.setIfInBounds_toArray, List.set_cons_zero, List.set_cons_succ, List.tail_cons]
  with_reducible apply held_call (n := 7) 7
  · rfl
  · kernel_rfl
  · rfl
  · with_reducible exact hK
  apply Exists.intro
  apply Exists.intro
  apply Exists.intro
  refine ⟨?_, ?_, ?_, ?_⟩
  · go_simp
    exact ⟨rfl, rfl⟩
  · exact addR_c s _ _ _
  · intro b hb
    simp only [List.mem_cons, List.not_mem_nil, or_false] at hb
    rcases hb with rfl | rfl | rfl | rfl <;> first | omega | (simp; done) | (simp; omega)
  intro v7 h7 hK
  obtain ⟨c7, f7, s7⟩ := bfacts h7
  try simp only [World.size_alloc, World.size_setCell, size_drew, size_drewN] at s7
  try simp only [Act.put, List.setIfInBounds_toArray, List.set_cons_zero, List.set_cons_succ, List.tail_cons]
  with_reducible apply held_call (n := 6) 11
  · rfl
  · kernel_rfl
  · rfl
  · with_reducible exact hK
  apply Exists.intro
  apply Exists.intro
  apply Exists.intro
  refine ⟨?_, ?_, ?_, ?_⟩
  · go_simp
    exact ⟨rfl, rfl⟩
  · exact subR_c s _ _ Hx.out Hy.out _
  · intro b hb
    simp only [List.mem_cons, List.not_mem_nil, or_false] at hb
    rcases hb with rfl | rfl | rfl | rfl <;> first | omega | (simp; done) | (simp; omega)
  intro v11 h11 hK
  obtain ⟨c11, f11, s11⟩ := bfacts h11
  try simp only [World.size_alloc, World.size_setCell, size_drew, size_drewN] at s11
  try simp only [Act.put, List.setIfInBounds_toArray, List.set_cons_zero, List.set_cons_succ, List.tail_cons]
  with_reducible apply held_call (n := 5) 14
  · rfl
  · kernel_rfl
  · rfl
  · with_reducible exact hK
  apply Exists.intro
  apply Exists.intro
  apply Exists.intro
  refine ⟨?_, ?_, ?_, ?_⟩
  · go_simp
    exact ⟨rfl, rfl⟩
  · exact negR_c s _ Hx.out _
  · intro b hb
    simp only [List.mem_cons, List.not_mem_nil, or_false] at hb
    rcases hb with rfl | rfl | rfl | rfl <;> first | omega | (simp; done) | (simp; omega)
  intro v14 h14 hK
  obtain ⟨c14, f14, s14⟩ := bfacts h14
  try simp only [World.size_alloc, World.size_setCell, size_drew, size_drewN] at s14
  try simp only [Act.put, List.setIfInBounds_toArray, List.set_cons_zero, List.set_cons_succ, List.tail_cons]
  with_reducible apply held_call (n := 4) 17
  · rfl
  · kernel_rfl
  · rfl
  · with_reducible exact hK
  apply Exists.intro
  apply Exists.intro
  apply Exists.intro
  refine ⟨?_, ?_, ?_, ?_⟩
  · go_simp
    exact ⟨rfl, rfl⟩
  · exact squareR_c s _ _
  · intro b hb
    simp only [List.mem_cons, List.not_mem_nil, or_false] at hb
    rcases hb with rfl | rfl | rfl | rfl <;> first | omega | (simp; done) | (simp; omega)
  intro v17 h17 hK
  obtain ⟨c17, f17, s17⟩ := bfacts h17
  try simp only [World.size_alloc, World.size_setCell, size_drew, size_drewN] at s17
  try simp only [Act.put, List.setIfInBounds_toArray, List.set_cons_zero, List.set_cons_succ, List.tail_cons]
  with_reducible apply held_call (n := 3) 20
  · rfl
  · kernel_rfl
  · rfl
  · with_reducible exact hK
  apply Exists.intro
  apply Exists.intro
  apply Exists.intro
  refine ⟨?_, ?_, ?_, ?_⟩
  · go_simp
    exact ⟨rfl, rfl⟩
  · exact toR_c s a Ha.out _
  · intro b hb
    simp only [List.mem_cons, List.not_mem_nil, or_false] at hb
    rcases hb with rfl | rfl | rfl | rfl <;> first | omega | (simp; done) | (simp; omega)
  intro v20 h20 hK
  obtain ⟨c20, f20, s20⟩ := bfacts h20
  try simp only [World.size_alloc, World.size_setCell, size_drew, size_drewN] at s20
  try simp only [Act.put, List.setIfInBounds_toArray, List.set_cons_zero, List.set_cons_succ, List.tail_cons]
  with_reducible apply held_call (n := 2) 23
  · rfl
  · kernel_rfl
  · rfl
  · with_reducible exact hK
  apply Exists.intro
  apply Exists.intro
  apply Exists.intro
  refine ⟨?_, ?_, ?_, ?_⟩
  · go_simp
    exact ⟨rfl, rfl⟩
  · exact fromR_c s _ Hx.out _
  · intro b hb
    simp only [List.mem_cons, List.not_mem_nil, or_false] at hb
    rcases hb with rfl | rfl | rfl | rfl <;> first | omega | (simp; done) | (simp; omega)
  intro v23 h23 hK
  obtain ⟨c23, f23, s23⟩ := bfacts h23
  try simp only [World.size_alloc, World.size_setCell, size_drew, size_drewN] at s23
  try simp only [Act.put, List.setIfInBounds_toArray, List.set_cons_zero, List.set_cons_succ, List.tail_cons]
  with_reducible apply held_o (n := 1) 24
  · rfl
  · kernel_rfl
  · rfl
  apply Exists.intro
  apply Exists.intro
  refine ⟨?_, ?_, ?_⟩
  · go_simp
    exact ⟨rfl, rfl⟩
  · repeat first
      | with_reducible exact hK
      | with_reducible refine KeepL.drewN ?_ _
      | with_reducible (refine KeepL.set ?_ _ _ (by intro b hb; simp only [List.mem_cons, List.not_mem_nil, or_false] at hb; rcases hb with rfl | rfl | rfl | rfl <;> (first | omega | (simp; done) | (simp; omega))))
      | with_reducible (refine KeepL.alloc ?_ _ (by intro b hb; simp only [List.mem_cons, List.not_mem_nil, or_false] at hb; rcases hb with rfl | rfl | rfl | rfl <;> (first | omega | (simp; done) | (simp; omega))))
  intro hK
  try simp only [Act.put, List.setIfInBounds_toArray, List.set_cons_zero, List.set_cons_succ, List.tail_cons]
  with_reducible apply held_o (n := 0) 25
  · rfl
  · kernel_rfl
  · rfl
  apply Exists.intro
  apply Exists.intro
  refine ⟨?_, ?_, ?_⟩
  · go_simp
    exact ⟨rfl, rfl⟩
  · repeat first
      | with_reducible exact hK
      | with_reducible refine KeepL.drewN ?_ _
      | with_reducible (refine KeepL.set ?_ _ _ (by intro b hb; simp only [List.mem_cons, List.not_mem_nil, or_false] at hb; rcases hb with rfl | rfl | rfl | rfl <;> (first | omega | (simp; done) | (simp; omega))))
      | with_reducible (refine KeepL.alloc ?_ _ (by intro b hb; simp only [List.mem_cons, List.not_mem_nil, or_false] at hb; rcases hb with rfl | rfl | rfl | rfl <;> (first | omega | (simp; done) | (simp; omega))))
  intro hK
  try simp only [Act.put, List.setIfInBounds_toArray, List.set_cons_zero, List.set_cons_succ, List.tail_cons]
  refine held_end (by kernel_rfl) ?_
  have kz3x0 := hK (w.heap.size) (by simp only [List.mem_cons, true_or, or_true])
  have kz3x1 := hK (w1.heap.size) (by simp only [List.mem_cons, true_or, or_true])
  have kz3x2 := hK (b6) (by simp only [List.mem_cons, true_or, or_true])
  have kz3x3 := hK (b7) (by simp only [List.mem_cons, true_or, or_true])
  clear hK hQ
  go_wp2_with fail
  have lp_w1_v23_0 : w1.heap.size < v23.heap.size := by omega
  have lp_w1_v23_1 : w1.heap.size < v23.heap.size + 1 := by omega
  have lp_w1_v23_2 : w1.heap.size < v23.heap.size + 1 + 1 := by omega
  have lp_w1_v23_3 : w1.heap.size < v23.heap.size + 1 + 1 + 1 := by omega
  refine wp_loop_rounds 8 ?_
  rw [rounds_succ]
  go_wp2_with fail
  refine Calls.mono (containsT_c s _ (RR_lt s _) _) ?_
  rintro _ w90 ⟨rfl, h90⟩
  obtain ⟨c90, f90, s90⟩ := bfacts h90
  try simp only [World.size_alloc, World.size_setCell, size_drew, size_drewN] at s90
  have lp_w1_w90_0 : w1.heap.size < w90.heap.size := by omega
  have lp_w1_w90_1 : w1.heap.size < w90.heap.size + 1 := by omega
  have lp_w1_w90_2 : w1.heap.size < w90.heap.size + 1 + 1 := by omega
  have lp_v23_w90_0 : v23.heap.size < w90.heap.size := by omega
  have lp_v23_w90_1 : v23.heap.size < w90.heap.size + 1 := by omega
  have lp_v23_w90_2 : v23.heap.size < w90.heap.size + 1 + 1 := by omega
  go_wp2_with fail
  rw [rounds_succ]
  go_wp2_with fail
  refine Calls.mono (containsT_c s _ (RR_lt s _) _) ?_
  rintro _ w91 ⟨rfl, h91⟩
  obtain ⟨c91, f91, s91⟩ := bfacts h91
  try simp only [World.size_alloc, World.size_setCell, size_drew, size_drewN] at s91
  have lp_w1_w91_0 : w1.heap.size < w91.heap.size := by omega
  have lp_w1_w91_1 : w1.heap.size < w91.heap.size + 1 := by omega
  have lp_w1_w91_2 : w1.heap.size < w91.heap.size + 1 + 1 := by omega
  have lp_v23_w91_0 : v23.heap.size < w91.heap.size := by omega
  have lp_v23_w91_1 : v23.heap.size < w91.heap.size + 1 := by omega
  have lp_v23_w91_2 : v23.heap.size < w91.heap.size + 1 + 1 := by omega
  go_wp2_with fail
  rw [rounds_succ]
  go_wp2_with fail
  refine Calls.mono (containsT_c s _ (RR_lt s _) _) ?_
  rintro _ w92 ⟨rfl, h92⟩
  obtain ⟨c92, f92, s92⟩ := bfacts h92
  try simp only [World.size_alloc, World.size_setCell, size_drew, size_drewN] at s92
  have lp_w1_w92_0 : w1.heap.size < w92.heap.size := by omega
  have lp_w1_w92_1 : w1.heap.size < w92.heap.size + 1 := by omega
  have lp_w1_w92_2 : w1.heap.size < w92.heap.size + 1 + 1 := by omega
  have lp_v23_w92_0 : v23.heap.size < w92.heap.size := by omega
  have lp_v23_w92_1 : v23.heap.size < w92.heap.size + 1 := by omega
  have lp_v23_w92_2 : v23.heap.size < w92.heap.size + 1 + 1 := by omega
  go_wp2_with fail
  rw [rounds_succ]
  go_wp2_with fail
  refine Calls.mono (containsT_c s _ (RR_lt s _) _) ?_
  rintro _ w93 ⟨rfl, h93⟩
  obtain ⟨c93, f93, s93⟩ := bfacts h93
  try simp only [World.size_alloc, World.size_setCell, size_drew, size_drewN] at s93
  have lp_w1_w93_0 : w1.heap.size < w93.heap.size := by omega
  have lp_w1_w93_1 : w1.heap.size < w93.heap.size + 1 := by omega
  have lp_w1_w93_2 : w1.heap.size < w93.heap.size + 1 + 1 := by omega
  have lp_v23_w93_0 : v23.heap.size < w93.heap.size := by omega
  have lp_v23_w93_1 : v23.heap.size < w93.heap.size + 1 := by omega
  have lp_v23_w93_2 : v23.heap.size < w93.heap.size + 1 + 1 := by omega
  go_wp2_with fail
  rw [rounds_succ]
  go_wp2_with fail
  refine Calls.mono (containsT_c s _ (RR_lt s _) _) ?_
  rintro _ w94 ⟨rfl, h94⟩
  obtain ⟨c94, f94, s94⟩ := bfacts h94
  try simp only [World.size_alloc, World.size_setCell, size_drew, size_drewN] at s94
  have lp_w1_w94_0 : w1.heap.size < w94.heap.size := by omega
  have lp_w1_w94_1 : w1.heap.size < w94.heap.size + 1 := by omega
  have lp_w1_w94_2 : w1.heap.size < w94.heap.size + 1 + 1 := by omega
  have lp_v23_w94_0 : v23.heap.size < w94.heap.size := by omega
  have lp_v23_w94_1 : v23.heap.size < w94.heap.size + 1 := by omega
  have lp_v23_w94_2 : v23.heap.size < w94.heap.size + 1 + 1 := by omega
  go_wp2_with fail
  rw [rounds_succ]
  go_wp2_with fail
  refine Calls.mono (containsT_c s _ (RR_lt s _) _) ?_
  rintro _ w95 ⟨rfl, h95⟩
  obtain ⟨c95, f95, s95⟩ := bfacts h95
  try simp only [World.size_alloc, World.size_setCell, size_drew, size_drewN] at s95
  have lp_w1_w95_0 : w1.heap.size < w95.heap.size := by omega
  have lp_w1_w95_1 : w1.heap.size < w95.heap.size + 1 := by omega
  have lp_w1_w95_2 : w1.heap.size < w95.heap.size + 1 + 1 := by omega
  have lp_v23_w95_0 : v23.heap.size < w95.heap.size := by omega
  have lp_v23_w95_1 : v23.heap.size < w95.heap.size + 1 := by omega
  have lp_v23_w95_2 : v23.heap.size < w95.heap.size + 1 + 1 := by omega
  go_wp2_with fail
  rw [rounds_succ]
  go_wp2_with fail
  refine Calls.mono (containsT_c s _ Hx.out _) ?_
  rintro _ w96 ⟨rfl, h96⟩
  obtain ⟨c96, f96, s96⟩ := bfacts h96
  try simp only [World.size_alloc, World.size_setCell, size_drew, size_drewN] at s96
  have lp_w1_w96_0 : w1.heap.size < w96.heap.size := by omega
  have lp_w1_w96_1 : w1.heap.size < w96.heap.size + 1 := by omega
  have lp_w1_w96_2 : w1.heap.size < w96.heap.size + 1 + 1 := by omega
  have lp_v23_w96_0 : v23.heap.size < w96.heap.size := by omega
  have lp_v23_w96_1 : v23.heap.size < w96.heap.size + 1 := by omega
  have lp_v23_w96_2 : v23.heap.size < w96.heap.size + 1 + 1 := by omega
  go_wp2_with fail
  rw [rounds_succ]
  go_wp2_with fail
  refine Calls.mono (lawalive_c _ (HL.out.step (by repeat first | with_reducible exact Below.refl _ _ | with_reducible refine Below.drew ?_ | with_reducible refine below_dN ?_ | with_reducible refine Below.alloc ?_ (by first | omega | (simp; done) | (simp; omega)) _ | with_reducible refine Below.setCell ?_ (by first | omega | (simp; done) | (simp; omega)) _ | with_reducible refine Below.trans ?_ (Below.mono (by assumption) (by first | omega | (simp; done) | (simp; omega)))))) ?_
  rintro _ w99 ⟨rfl, h99⟩
  obtain ⟨c99, f99, s99⟩ := bfacts h99
  try simp only [World.size_alloc, World.size_setCell, size_drew, size_drewN] at s99
  go_wp2_with fail
  refine bodyPost_ret (v := .bool true) (by simp only [results, Tryd.results7]; go_simp) rfl ⟨rfl, ?_⟩
  repeat first
    | with_reducible exact Below.refl _ _
    | with_reducible refine Below.drew ?_
    | with_reducible refine below_dN ?_
    | with_reducible refine Below.alloc ?_ (by first | omega | (simp; done) | (simp; omega)) _
    | with_reducible refine Below.setCell ?_ (by first | omega | (simp; done) | (simp; omega)) _
    | with_reducible refine Below.trans ?_ (Below.mono (by assumption) (by first | omega | (simp; done) | (simp; omega)))
end Go.Proofs.YtpebojiijgkadaaDoor
