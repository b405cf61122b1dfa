/- The walk of law 5's MontIsRing. -/
import Derived.Test.YtpebojiijgkadaaDoorLawOps
import Derived.Test.YtpebojiijgkadaaDoorHeldM
namespace Go.Proofs.YtpebojiijgkadaaDoor
set_option linter.all false
open Go.RowKit

abbrev vec2 (a b : Nat) : Value := .agg #[.int .u64 ((dg 0 a : Nat) : Int), .int .u64 ((dg 1 a : Nat) : Int), .int .u64 ((dg 2 a : Nat) : Int), .int .u64 ((dg 3 a : Nat) : Int), .int .u64 ((dg 0 b : Nat) : Int), .int .u64 ((dg 1 b : Nat) : Int), .int .u64 ((dg 2 b : Nat) : Int), .int .u64 ((dg 3 b : Nat) : Int)]
theorem v0 : vec 0 = .agg #[.int .u64 0, .int .u64 0, .int .u64 0, .int .u64 0] := vec_of (a := 0) (b := 0) (c := 0) (d := 0) (by decide) (by decide) (by decide) (by decide)

set_option maxRecDepth 100000 in
set_option maxHeartbeats 16000000 in
theorem ring_walk (s : Bool) (a b c x y z u v t a1 l m1 m2 m3 k d n : Nat) (w : World) (HL : Hid (Laid w))
    (hp : Hid (∀ w, Laid w → Calls Tryd.prog 15 #[.bool s, vec a, vec b] w fun e w' => e = .returned (.tuple #[fieldV s, vec (pr s), vec x, vec y]) ∧ Below w.heap.size w w'))
    (hu : Hid (∀ w, Calls Tryd.prog 16 #[vec (pr s), vec x] w fun e w' => e = .returned (vec u) ∧ Below w.heap.size w w'))
    (hv : Hid (∀ w, Calls Tryd.prog 16 #[vec (pr s), vec y] w fun e w' => e = .returned (vec v) ∧ Below w.heap.size w w'))
    (hz : Hid (∀ w, Calls Tryd.prog 25 #[vec (pr s), vec c] w fun e w' => e = .returned (vec z) ∧ Below w.heap.size w w'))
    (ht : Hid (∀ w, Calls Tryd.prog 16 #[vec (pr s), vec z] w fun e w' => e = .returned (vec t) ∧ Below w.heap.size w w'))
    (ha1 : Hid (∀ w, Calls Tryd.prog 18 #[fieldV s, vec v, vec t] w fun e w' => e = .returned (vec a1) ∧ Below w.heap.size w w'))
    (hl : Hid (∀ w, Calls Tryd.prog 26 #[fieldV s, vec u, vec a1] w fun e w' => e = .returned (vec l) ∧ Below w.heap.size w w'))
    (hm1 : Hid (∀ w, Calls Tryd.prog 26 #[fieldV s, vec u, vec v] w fun e w' => e = .returned (vec m1) ∧ Below w.heap.size w w'))
    (hm2 : Hid (∀ w, Calls Tryd.prog 26 #[fieldV s, vec u, vec t] w fun e w' => e = .returned (vec m2) ∧ Below w.heap.size w w'))
    (hl2 : Hid (∀ w, Calls Tryd.prog 18 #[fieldV s, vec m1, vec m2] w fun e w' => e = .returned (vec l) ∧ Below w.heap.size w w'))
    (hk1 : Hid (∀ w, Calls Tryd.prog 26 #[fieldV s, vec m1, vec t] w fun e w' => e = .returned (vec k) ∧ Below w.heap.size w w'))
    (hm3 : Hid (∀ w, Calls Tryd.prog 26 #[fieldV s, vec v, vec t] w fun e w' => e = .returned (vec m3) ∧ Below w.heap.size w w'))
    (hk2 : Hid (∀ w, Calls Tryd.prog 26 #[fieldV s, vec u, vec m3] w fun e w' => e = .returned (vec k) ∧ Below w.heap.size w w'))
    (hcm : Hid (∀ w, Calls Tryd.prog 26 #[fieldV s, vec v, vec u] w fun e w' => e = .returned (vec m1) ∧ Below w.heap.size w w'))
    (hon : Hid (∀ w, Calls Tryd.prog 26 #[fieldV s, vec u, vec (rone s)] w fun e w' => e = .returned (vec u) ∧ Below w.heap.size w w'))
    (hd : Hid (∀ w, Calls Tryd.prog 20 #[fieldV s, vec u, vec v] w fun e w' => e = .returned (vec d) ∧ Below w.heap.size w w'))
    (hdu : Hid (∀ w, Calls Tryd.prog 18 #[fieldV s, vec d, vec v] w fun e w' => e = .returned (vec u) ∧ Below w.heap.size w w'))
    (hng : Hid (∀ w, Calls Tryd.prog 22 #[fieldV s, vec u] w fun e w' => e = .returned (vec n) ∧ Below w.heap.size w w'))
    (hun : Hid (∀ w, Calls Tryd.prog 18 #[fieldV s, vec u, vec n] w fun e w' => e = .returned (.agg #[.int .u64 0, .int .u64 0, .int .u64 0, .int .u64 0]) ∧ Below w.heap.size w w')) :
    Calls Tryd.prog 5 #[.bool s, vec2 a b, vec c] w fun e w' => e = .returned (.bool true) ∧ Below w.heap.size w w' := by
  go_enter Tryd.func5, Tryd.ntmps5
  go_wp2_with fail
  refine Calls.mono (hp.out _ (HL.out.step (by repeat first | with_reducible exact Below.refl _ _ | with_reducible refine Below.drew ?_ | with_reducible refine below_dN ?_ | with_reducible refine Below.alloc ?_ (by first | omega | (simp; done) | (simp; omega)) _ | with_reducible refine Below.setCell ?_ (by first | omega | (simp; done) | (simp; omega)) _ | with_reducible refine Below.trans ?_ (Below.mono (by assumption) (by first | omega | (simp; done) | (simp; omega)))))) ?_
  rintro _ w1 ⟨rfl, h1⟩
  obtain ⟨c1, f1, s1⟩ := bfacts h1
  try simp only [World.size_alloc, World.size_setCell, size_drew, size_drewN] at s1
  have lp_w_w1_0 : w.heap.size < w1.heap.size := by omega
  have lp_w_w1_1 : w.heap.size < w1.heap.size + 1 := by omega
  have lp_w_w1_2 : w.heap.size < w1.heap.size + 1 + 1 := by omega
  have lp_w_w1_3 : w.heap.size < w1.heap.size + 1 + 1 + 1 := by omega
  have lp_w_w1_4 : w.heap.size < w1.heap.size + 1 + 1 + 1 + 1 := by omega
  have lq0 : w.heap.size + 1 < w1.heap.size := by omega
  have lq1 : w.heap.size + 1 < w1.heap.size + 1 := by omega
  have lq2 : w.heap.size + 1 < w1.heap.size + 1 + 1 := by omega
  have lq3 : w.heap.size + 1 < w1.heap.size + 1 + 1 + 1 := by omega
  have lq4 : w.heap.size + 1 < w1.heap.size + 1 + 1 + 1 + 1 := by omega
  go_wp2_with fail
  refine region_grow 14 [0, 1, 2, 3, 4, 5, 6, 7, 8, 9, 10, 11, 12, 13] [(11, (fun b => Value.pointer (some ⟨b, 0, Option.none⟩)), (Obj.cells #[.int .u64 0, .int .u64 0, .int .u64 0, .int .u64 0] 24)), (12, (fun b => Value.pointer (some ⟨b, 0, Option.none⟩)), (Obj.cells #[.int .u64 0, .int .u64 0, .int .u64 0, .int .u64 0] 24)), (13, (fun b => Value.pointer (some ⟨b, 0, Option.none⟩)), (Obj.cells #[.int .u64 0, .int .u64 0, .int .u64 0, .int .u64 0] 24))] [2, 5, 9, 10] (by kernel_rfl) (by kernel_rfl) ?_
  with_reducible apply grow_v
  · rfl
  · rfl
  · rfl
  apply Exists.intro
  refine ⟨fun w' hC => ?_, ?_⟩
  · have hcell := below_cells hC
    clear hC
    go_simp
    rfl
  try simp only [Act.put, List.setIfInBounds_toArray, List.set_cons_zero, List.set_cons_succ, List.tail_cons]
  with_reducible apply grow_v
  · rfl
  · rfl
  · rfl
  apply Exists.intro
  refine ⟨fun w' hC => ?_, ?_⟩
  · have hcell := below_cells hC
    clear hC
    go_simp
    rfl
  try simp only [Act.put, List.setIfInBounds_toArray, List.set_cons_zero, List.set_cons_succ, List.tail_cons]
  with_reducible apply grow_c
  · rfl
  · rfl
  · rfl
  · rfl
  apply Exists.intro
  apply Exists.intro
  apply Exists.intro
  refine ⟨fun w' hC => ?_, fun w' hC => ?_, ?_⟩
  · have hcell := below_cells hC
    clear hC
    go_simp
    exact ⟨rfl, rfl⟩
  · exact hu.out _
  try simp only [Act.put, List.setIfInBounds_toArray, List.set_cons_zero, List.set_cons_succ, List.tail_cons]
  with_reducible apply grow_v
  · rfl
  · rfl
  · rfl
  apply Exists.intro
  refine ⟨fun w' hC => ?_, ?_⟩
  · have hcell := below_cells hC
    clear hC
    go_simp
    rfl
  try simp only [Act.put, List.setIfInBounds_toArray, List.set_cons_zero, List.set_cons_succ, List.tail_cons]
  with_reducible apply grow_v
  · rfl
  · rfl
  · rfl
  apply Exists.intro
  refine ⟨fun w' hC => ?_, ?_⟩
  · have hcell := below_cells hC
    clear hC
    go_simp
    rfl
  try simp only [Act.put, List.setIfInBounds_toArray, List.set_cons_zero, List.set_cons_succ, List.tail_cons]
  with_reducible apply grow_c
  · rfl
  · rfl
  · rfl
  · rfl
  apply Exists.intro
  apply Exists.intro
  apply Exists.intro
  refine ⟨fun w' hC => ?_, fun w' hC => ?_, ?_⟩
  · have hcell := below_cells hC
    clear hC
    go_simp
    exact ⟨rfl, rfl⟩
  · exact hv.out _
  try simp only [Act.put, List.setIfInBounds_toArray, List.set_cons_zero, List.set_cons_succ, List.tail_cons]
  with_reducible apply grow_v
  · rfl
  · rfl
  · rfl
  apply Exists.intro
  refine ⟨fun w' hC => ?_, ?_⟩
  · have hcell := below_cells hC
    clear hC
    go_simp
    rfl
  try simp only [Act.put, List.setIfInBounds_toArray, List.set_cons_zero, List.set_cons_succ, List.tail_cons]
  with_reducible apply grow_v
  · rfl
  · rfl
  · rfl
  apply Exists.intro
  refine ⟨fun w' hC => ?_, ?_⟩
  · have hcell := below_cells hC
    clear hC
    go_simp
    rfl
  try simp only [Act.put, List.setIfInBounds_toArray, List.set_cons_zero, List.set_cons_succ, List.tail_cons]
  with_reducible apply grow_v
  · rfl
  · rfl
  · rfl
  apply Exists.intro
  refine ⟨fun w' hC => ?_, ?_⟩
  · have hcell := below_cells hC
    clear hC
    go_simp
    rfl
  try simp only [Act.put, List.setIfInBounds_toArray, List.set_cons_zero, List.set_cons_succ, List.tail_cons]
  with_reducible apply grow_c
  · rfl
  · rfl
  · rfl
  · rfl
  apply Exists.intro
  apply Exists.intro
  apply Exists.intro
  refine ⟨fun w' hC => ?_, fun w' hC => ?_, ?_⟩
  · have hcell := below_cells hC
    clear hC
    go_simp
    exact ⟨rfl, rfl⟩
  · exact hz.out _
  try simp only [Act.put, List.setIfInBounds_toArray, List.set_cons_zero, List.set_cons_succ, List.tail_cons]
  with_reducible apply grow_c
  · rfl
  · rfl
  · rfl
  · rfl
  apply Exists.intro
  apply Exists.intro
  apply Exists.intro
  refine ⟨fun w' hC => ?_, fun w' hC => ?_, ?_⟩
  · have hcell := below_cells hC
    clear hC
    go_simp
    exact ⟨rfl, rfl⟩
  · exact ht.out _
  try simp only [Act.put, List.setIfInBounds_toArray, List.set_cons_zero, List.set_cons_succ, List.tail_cons]
  with_reducible apply grow_m
  · rfl
  · rfl
  · rfl
  refine ⟨fun w' hC => ?_, fun b11 => ?_⟩
  · clear hC
    go_simp
  try dsimp only
  try simp only [Act.put, List.setIfInBounds_toArray, List.set_cons_zero, List.set_cons_succ, List.tail_cons]
  with_reducible apply grow_m
  · rfl
  · rfl
  · rfl
  refine ⟨fun w' hC => ?_, fun b12 => ?_⟩
  · clear hC
    go_simp
  try dsimp only
  try simp only [Act.put, List.setIfInBounds_toArray, List.set_cons_zero, List.set_cons_succ, List.tail_cons]
  with_reducible apply grow_m
  · rfl
  · rfl
  · rfl
  refine ⟨fun w' hC => ?_, fun b13 => ?_⟩
  · clear hC
    go_simp
  try dsimp only
  try simp only [Act.put, List.setIfInBounds_toArray, List.set_cons_zero, List.set_cons_succ, List.tail_cons]
  refine grow_end ?_
  intro wg2 hg2
  obtain ⟨cg2, fg2, sg2⟩ := bfacts hg2.grows
  try simp only [World.size_alloc, World.size_setCell, size_drew, size_drewN] at sg2
  obtain ⟨kb11, fb11, lb11⟩ := has_cells (hg2.has (b11, Obj.cells #[.int .u64 0, .int .u64 0, .int .u64 0, .int .u64 0] 24) (by simp only [List.mem_cons, true_or, or_true]))
  have nb11 := hg2.new (b11, Obj.cells #[.int .u64 0, .int .u64 0, .int .u64 0, .int .u64 0] 24) (by simp only [List.mem_cons, true_or, or_true])
  try simp only [World.size_alloc, World.size_setCell, size_drew, size_drewN] at nb11
  have kb11_0 := kb11 0 _ rfl
  have kb11_1 := kb11 1 _ rfl
  have kb11_2 := kb11 2 _ rfl
  have kb11_3 := kb11 3 _ rfl
  clear kb11
  obtain ⟨kb12, fb12, lb12⟩ := has_cells (hg2.has (b12, Obj.cells #[.int .u64 0, .int .u64 0, .int .u64 0, .int .u64 0] 24) (by simp only [List.mem_cons, true_or, or_true]))
  have nb12 := hg2.new (b12, Obj.cells #[.int .u64 0, .int .u64 0, .int .u64 0, .int .u64 0] 24) (by simp only [List.mem_cons, true_or, or_true])
  try simp only [World.size_alloc, World.size_setCell, size_drew, size_drewN] at nb12
  have kb12_0 := kb12 0 _ rfl
  have kb12_1 := kb12 1 _ rfl
  have kb12_2 := kb12 2 _ rfl
  have kb12_3 := kb12 3 _ rfl
  clear kb12
  obtain ⟨kb13, fb13, lb13⟩ := has_cells (hg2.has (b13, Obj.cells #[.int .u64 0, .int .u64 0, .int .u64 0, .int .u64 0] 24) (by simp only [List.mem_cons, true_or, or_true]))
  have nb13 := hg2.new (b13, Obj.cells #[.int .u64 0, .int .u64 0, .int .u64 0, .int .u64 0] 24) (by simp only [List.mem_cons, true_or, or_true])
  try simp only [World.size_alloc, World.size_setCell, size_drew, size_drewN] at nb13
  have kb13_0 := kb13 0 _ rfl
  have kb13_1 := kb13 1 _ rfl
  have kb13_2 := kb13 2 _ rfl
  have kb13_3 := kb13 3 _ rfl
  clear kb13
  have nd11_12 : b11 ≠ b12 := by have := hg2.nodup; simp only [List.map_cons, List.map_nil, List.nodup_cons, List.mem_cons, List.not_mem_nil, or_false, not_or] at this; omega
  have nd12_11 : b12 ≠ b11 := Ne.symm nd11_12
  have nd11_13 : b11 ≠ b13 := by have := hg2.nodup; simp only [List.map_cons, List.map_nil, List.nodup_cons, List.mem_cons, List.not_mem_nil, or_false, not_or] at this; omega
  have nd13_11 : b13 ≠ b11 := Ne.symm nd11_13
  have nd12_13 : b12 ≠ b13 := by have := hg2.nodup; simp only [List.map_cons, List.map_nil, List.nodup_cons, List.mem_cons, List.not_mem_nil, or_false, not_or] at this; omega
  have nd13_12 : b13 ≠ b12 := Ne.symm nd12_13
  have Hg2 : Below _ _ wg2 := hg2.grows
  clear hg2
  simp only [List.drop_succ_cons, List.drop_zero]
  go_wp2_with fail
  have l_w_wg2_0 : w.heap.size < wg2.heap.size := by omega
  have l_w_wg2_1 : w.heap.size + 1 < wg2.heap.size := by omega
  have l_w1_wg2_0 : w1.heap.size < wg2.heap.size := by omega
  have l_w1_wg2_1 : w1.heap.size + 1 < wg2.heap.size := by omega
  have l_w1_wg2_2 : w1.heap.size + 1 + 1 < wg2.heap.size := by omega
  have l_w1_wg2_3 : w1.heap.size + 1 + 1 + 1 < wg2.heap.size := by omega
  have ne_b11_0 : ¬ b11 = w1.heap.size := by omega
  have en_b11_0 : ¬ w1.heap.size = b11 := by omega
  have ne_b11_1 : ¬ b11 = w.heap.size := by omega
  have en_b11_1 : ¬ w.heap.size = b11 := by omega
  have ne_b12_0 : ¬ b12 = w1.heap.size := by omega
  have en_b12_0 : ¬ w1.heap.size = b12 := by omega
  have ne_b12_1 : ¬ b12 = w.heap.size := by omega
  have en_b12_1 : ¬ w.heap.size = b12 := by omega
  have ne_b13_0 : ¬ b13 = w1.heap.size := by omega
  have en_b13_0 : ¬ w1.heap.size = b13 := by omega
  have ne_b13_1 : ¬ b13 = w.heap.size := by omega
  have en_b13_1 : ¬ w.heap.size = b13 := by omega
  refine wp_name ?_
  intro wA hN
  have hB_wA : Below w.heap.size w wA := by rw [hN]; exact (by repeat first | with_reducible exact Below.refl _ _ | with_reducible refine Below.drew ?_ | with_reducible refine below_dN ?_ | with_reducible refine Below.alloc ?_ (by first | omega | (simp; done) | (simp; omega)) _ | with_reducible refine Below.setCell ?_ (by first | omega | (simp; done) | (simp; omega)) _ | with_reducible refine Below.trans ?_ (Below.mono (by assumption) (by first | omega | (simp; done) | (simp; omega))))
  have pzwA0x0 : wA.cell? ⟨w1.heap.size, 0, none⟩ = some (.int .i64 (fid s)) := by rw [hN]; go_simp
  have pzwA0x1 : wA.cell? ⟨w1.heap.size, 1, none⟩ = some (.int .u64 ((dg 0 (pr s) : Nat) : Int)) := by rw [hN]; go_simp
  have pzwA0x2 : wA.cell? ⟨w1.heap.size, 2, none⟩ = some (.int .u64 ((dg 1 (pr s) : Nat) : Int)) := by rw [hN]; go_simp
  have pzwA0x3 : wA.cell? ⟨w1.heap.size, 3, none⟩ = some (.int .u64 ((dg 2 (pr s) : Nat) : Int)) := by rw [hN]; go_simp
  have pzwA0x4 : wA.cell? ⟨w1.heap.size, 4, none⟩ = some (.int .u64 ((dg 3 (pr s) : Nat) : Int)) := by rw [hN]; go_simp
  have pzwA0x5 : wA.cell? ⟨w1.heap.size, 5, none⟩ = some (.int .u64 ((ninv s : Nat) : Int)) := by rw [hN]; go_simp
  have pzwA0x6 : wA.cell? ⟨w1.heap.size, 6, none⟩ = some (.int .u64 ((dg 0 (rone s) : Nat) : Int)) := by rw [hN]; go_simp
  have pzwA0x7 : wA.cell? ⟨w1.heap.size, 7, none⟩ = some (.int .u64 ((dg 1 (rone s) : Nat) : Int)) := by rw [hN]; go_simp
  have pzwA0x8 : wA.cell? ⟨w1.heap.size, 8, none⟩ = some (.int .u64 ((dg 2 (rone s) : Nat) : Int)) := by rw [hN]; go_simp
  have pzwA0x9 : wA.cell? ⟨w1.heap.size, 9, none⟩ = some (.int .u64 ((dg 3 (rone s) : Nat) : Int)) := by rw [hN]; go_simp
  have pzwA0x10 : wA.cell? ⟨w1.heap.size, 10, none⟩ = some (.int .u64 ((dg 0 (rsq s) : Nat) : Int)) := by rw [hN]; go_simp
  have pzwA0x11 : wA.cell? ⟨w1.heap.size, 11, none⟩ = some (.int .u64 ((dg 1 (rsq s) : Nat) : Int)) := by rw [hN]; go_simp
  have pzwA0x12 : wA.cell? ⟨w1.heap.size, 12, none⟩ = some (.int .u64 ((dg 2 (rsq s) : Nat) : Int)) := by rw [hN]; go_simp
  have pzwA0x13 : wA.cell? ⟨w1.heap.size, 13, none⟩ = some (.int .u64 ((dg 3 (rsq s) : Nat) : Int)) := by rw [hN]; go_simp
  have pswA0 : w1.heap.size < wA.heap.size := by rw [hN]; first | omega | (simp; done) | (simp; omega)
  have pzwA1x0 : wA.cell? ⟨b11, 0, none⟩ = some (.int .u64 ((dg 0 (u) : Nat) : Int)) := by rw [hN]; go_simp
  have pzwA1x1 : wA.cell? ⟨b11, 1, none⟩ = some (.int .u64 ((dg 1 (u) : Nat) : Int)) := by rw [hN]; go_simp
  have pzwA1x2 : wA.cell? ⟨b11, 2, none⟩ = some (.int .u64 ((dg 2 (u) : Nat) : Int)) := by rw [hN]; go_simp
  have pzwA1x3 : wA.cell? ⟨b11, 3, none⟩ = some (.int .u64 ((dg 3 (u) : Nat) : Int)) := by rw [hN]; go_simp
  have pswA1 : b11 < wA.heap.size := by rw [hN]; first | omega | (simp; done) | (simp; omega)
  have pzwA2x0 : wA.cell? ⟨b12, 0, none⟩ = some (.int .u64 ((dg 0 (v) : Nat) : Int)) := by rw [hN]; go_simp
  have pzwA2x1 : wA.cell? ⟨b12, 1, none⟩ = some (.int .u64 ((dg 1 (v) : Nat) : Int)) := by rw [hN]; go_simp
  have pzwA2x2 : wA.cell? ⟨b12, 2, none⟩ = some (.int .u64 ((dg 2 (v) : Nat) : Int)) := by rw [hN]; go_simp
  have pzwA2x3 : wA.cell? ⟨b12, 3, none⟩ = some (.int .u64 ((dg 3 (v) : Nat) : Int)) := by rw [hN]; go_simp
  have pswA2 : b12 < wA.heap.size := by rw [hN]; first | omega | (simp; done) | (simp; omega)
  have pzwA3x0 : wA.cell? ⟨b13, 0, none⟩ = some (.int .u64 ((dg 0 (t) : Nat) : Int)) := by rw [hN]; go_simp
  have pzwA3x1 : wA.cell? ⟨b13, 1, none⟩ = some (.int .u64 ((dg 1 (t) : Nat) : Int)) := by rw [hN]; go_simp
  have pzwA3x2 : wA.cell? ⟨b13, 2, none⟩ = some (.int .u64 ((dg 2 (t) : Nat) : Int)) := by rw [hN]; go_simp
  have pzwA3x3 : wA.cell? ⟨b13, 3, none⟩ = some (.int .u64 ((dg 3 (t) : Nat) : Int)) := by rw [hN]; go_simp
  have pswA3 : b13 < wA.heap.size := by rw [hN]; first | omega | (simp; done) | (simp; omega)
  clear hN
  as_aux_lemma =>
    clear c1 f1 s1 h1 cg2 fg2 sg2 Hg2
    refine region_grow 8 [0, 1, 2, 3, 4, 5, 6, 7] [(7, (fun b => Value.pointer (some ⟨b, 0, Option.none⟩)), (Obj.cells #[.int .u64 0, .int .u64 0, .int .u64 0, .int .u64 0] 24))] [5, 6] (by kernel_rfl) (by kernel_rfl) ?_
    with_reducible apply grow_v
    · rfl
    · rfl
    · rfl
    apply Exists.intro
    refine ⟨fun w' hC => ?_, ?_⟩
    · have hcell := below_cells hC
      clear hC
      simp only [World.size_drew] at hcell
      go_simp
      rfl
    try simp only [Act.put, List.setIfInBounds_toArray, List.set_cons_zero, List.set_cons_succ, List.tail_cons]
    with_reducible apply grow_v
    · rfl
    · rfl
    · rfl
    apply Exists.intro
    refine ⟨fun w' hC => ?_, ?_⟩
    · have hcell := below_cells hC
      clear hC
      simp only [World.size_drew] at hcell
      go_simp
      rfl
    try simp only [Act.put, List.setIfInBounds_toArray, List.set_cons_zero, List.set_cons_succ, List.tail_cons]
    with_reducible apply grow_v
    · rfl
    · rfl
    · rfl
    apply Exists.intro
    refine ⟨fun w' hC => ?_, ?_⟩
    · have hcell := below_cells hC
      clear hC
      simp only [World.size_drew] at hcell
      go_simp
      rfl
    try simp only [Act.put, List.setIfInBounds_toArray, List.set_cons_zero, List.set_cons_succ, List.tail_cons]
    with_reducible apply grow_v
    · rfl
    · rfl
    · rfl
    apply Exists.intro
    refine ⟨fun w' hC => ?_, ?_⟩
    · have hcell := below_cells hC
      clear hC
      simp only [World.size_drew] at hcell
      go_simp
      rfl
    try simp only [Act.put, List.setIfInBounds_toArray, List.set_cons_zero, List.set_cons_succ, List.tail_cons]
    with_reducible apply grow_v
    · rfl
    · rfl
    · rfl
    apply Exists.intro
    refine ⟨fun w' hC => ?_, ?_⟩
    · have hcell := below_cells hC
      clear hC
      simp only [World.size_drew] at hcell
      go_simp
      rfl
    try simp only [Act.put, List.setIfInBounds_toArray, List.set_cons_zero, List.set_cons_succ, List.tail_cons]
    with_reducible apply grow_c
    · rfl
    · rfl
    · rfl
    · rfl
    apply Exists.intro
    apply Exists.intro
    apply Exists.intro
    refine ⟨fun w' hC => ?_, fun w' hC => ?_, ?_⟩
    · have hcell := below_cells hC
      clear hC
      go_simp
      exact ⟨rfl, rfl⟩
    · exact ha1.out _
    try simp only [Act.put, List.setIfInBounds_toArray, List.set_cons_zero, List.set_cons_succ, List.tail_cons]
    with_reducible apply grow_c
    · rfl
    · rfl
    · rfl
    · rfl
    apply Exists.intro
    apply Exists.intro
    apply Exists.intro
    refine ⟨fun w' hC => ?_, fun w' hC => ?_, ?_⟩
    · have hcell := below_cells hC
      clear hC
      go_simp
      exact ⟨rfl, rfl⟩
    · exact hl.out _
    try simp only [Act.put, List.setIfInBounds_toArray, List.set_cons_zero, List.set_cons_succ, List.tail_cons]
    with_reducible apply grow_m
    · rfl
    · rfl
    · rfl
    refine ⟨fun w' hC => ?_, fun b7 => ?_⟩
    · clear hC
      go_simp
    try dsimp only
    try simp only [Act.put, List.setIfInBounds_toArray, List.set_cons_zero, List.set_cons_succ, List.tail_cons]
    refine grow_end ?_
    intro wg3 hg3
    obtain ⟨cg3, fg3, sg3⟩ := bfacts hg3.grows
    try simp only [World.size_alloc, World.size_setCell, size_drew, size_drewN] at sg3
    obtain ⟨kb7, fb7, lb7⟩ := has_cells (hg3.has (b7, Obj.cells #[.int .u64 0, .int .u64 0, .int .u64 0, .int .u64 0] 24) (by simp only [List.mem_cons, true_or, or_true]))
    have nb7 := hg3.new (b7, Obj.cells #[.int .u64 0, .int .u64 0, .int .u64 0, .int .u64 0] 24) (by simp only [List.mem_cons, true_or, or_true])
    try simp only [World.size_alloc, World.size_setCell, size_drew, size_drewN] at nb7
    have kb7_0 := kb7 0 _ rfl
    have kb7_1 := kb7 1 _ rfl
    have kb7_2 := kb7 2 _ rfl
    have kb7_3 := kb7 3 _ rfl
    clear kb7
    have Hg3 : Below _ _ wg3 := hg3.grows
    clear hg3
    simp only [List.drop_succ_cons, List.drop_zero]
    simp only [World.size_drew] at cg3 fg3
    go_wp2_with fail
    have l_w1_wg3_0 : w1.heap.size < wg3.heap.size := by omega
    have lb_wg3_b11 : b11 < wg3.heap.size := by omega
    have lb_wg3_b12 : b12 < wg3.heap.size := by omega
    have lb_wg3_b13 : b13 < wg3.heap.size := by omega
    have ne_b7_0 : ¬ b7 = w1.heap.size := by omega
    have en_b7_0 : ¬ w1.heap.size = b7 := by omega
    have ne_b7_1 : ¬ b7 = b11 := by omega
    have en_b7_1 : ¬ b11 = b7 := by omega
    have ne_b7_2 : ¬ b7 = b12 := by omega
    have en_b7_2 : ¬ b12 = b7 := by omega
    have ne_b7_3 : ¬ b7 = b13 := by omega
    have en_b7_3 : ¬ b13 = b7 := by omega
    refine wp_name ?_
    intro wB hN
    have hB_wB : Below w.heap.size w wB := by rw [hN]; exact (by repeat first | with_reducible exact Below.refl _ _ | with_reducible refine Below.drew ?_ | with_reducible refine below_dN ?_ | with_reducible refine Below.alloc ?_ (by first | omega | (simp; done) | (simp; omega)) _ | with_reducible refine Below.setCell ?_ (by first | omega | (simp; done) | (simp; omega)) _ | with_reducible refine Below.trans ?_ (Below.mono (by assumption) (by first | omega | (simp; done) | (simp; omega))))
    have pzwB0x0 : wB.cell? ⟨w1.heap.size, 0, none⟩ = some (.int .i64 (fid s)) := by rw [hN]; go_simp
    have pzwB0x1 : wB.cell? ⟨w1.heap.size, 1, none⟩ = some (.int .u64 ((dg 0 (pr s) : Nat) : Int)) := by rw [hN]; go_simp
    have pzwB0x2 : wB.cell? ⟨w1.heap.size, 2, none⟩ = some (.int .u64 ((dg 1 (pr s) : Nat) : Int)) := by rw [hN]; go_simp
    have pzwB0x3 : wB.cell? ⟨w1.heap.size, 3, none⟩ = some (.int .u64 ((dg 2 (pr s) : Nat) : Int)) := by rw [hN]; go_simp
    have pzwB0x4 : wB.cell? ⟨w1.heap.size, 4, none⟩ = some (.int .u64 ((dg 3 (pr s) : Nat) : Int)) := by rw [hN]; go_simp
    have pzwB0x5 : wB.cell? ⟨w1.heap.size, 5, none⟩ = some (.int .u64 ((ninv s : Nat) : Int)) := by rw [hN]; go_simp
    have pzwB0x6 : wB.cell? ⟨w1.heap.size, 6, none⟩ = some (.int .u64 ((dg 0 (rone s) : Nat) : Int)) := by rw [hN]; go_simp
    have pzwB0x7 : wB.cell? ⟨w1.heap.size, 7, none⟩ = some (.int .u64 ((dg 1 (rone s) : Nat) : Int)) := by rw [hN]; go_simp
    have pzwB0x8 : wB.cell? ⟨w1.heap.size, 8, none⟩ = some (.int .u64 ((dg 2 (rone s) : Nat) : Int)) := by rw [hN]; go_simp
    have pzwB0x9 : wB.cell? ⟨w1.heap.size, 9, none⟩ = some (.int .u64 ((dg 3 (rone s) : Nat) : Int)) := by rw [hN]; go_simp
    have pzwB0x10 : wB.cell? ⟨w1.heap.size, 10, none⟩ = some (.int .u64 ((dg 0 (rsq s) : Nat) : Int)) := by rw [hN]; go_simp
    have pzwB0x11 : wB.cell? ⟨w1.heap.size, 11, none⟩ = some (.int .u64 ((dg 1 (rsq s) : Nat) : Int)) := by rw [hN]; go_simp
    have pzwB0x12 : wB.cell? ⟨w1.heap.size, 12, none⟩ = some (.int .u64 ((dg 2 (rsq s) : Nat) : Int)) := by rw [hN]; go_simp
    have pzwB0x13 : wB.cell? ⟨w1.heap.size, 13, none⟩ = some (.int .u64 ((dg 3 (rsq s) : Nat) : Int)) := by rw [hN]; go_simp
    have pswB0 : w1.heap.size < wB.heap.size := by rw [hN]; first | omega | (simp; done) | (simp; omega)
    have pzwB1x0 : wB.cell? ⟨b11, 0, none⟩ = some (.int .u64 ((dg 0 (u) : Nat) : Int)) := by rw [hN]; go_simp
    have pzwB1x1 : wB.cell? ⟨b11, 1, none⟩ = some (.int .u64 ((dg 1 (u) : Nat) : Int)) := by rw [hN]; go_simp
    have pzwB1x2 : wB.cell? ⟨b11, 2, none⟩ = some (.int .u64 ((dg 2 (u) : Nat) : Int)) := by rw [hN]; go_simp
    have pzwB1x3 : wB.cell? ⟨b11, 3, none⟩ = some (.int .u64 ((dg 3 (u) : Nat) : Int)) := by rw [hN]; go_simp
    have pswB1 : b11 < wB.heap.size := by rw [hN]; first | omega | (simp; done) | (simp; omega)
    have pzwB2x0 : wB.cell? ⟨b12, 0, none⟩ = some (.int .u64 ((dg 0 (v) : Nat) : Int)) := by rw [hN]; go_simp
    have pzwB2x1 : wB.cell? ⟨b12, 1, none⟩ = some (.int .u64 ((dg 1 (v) : Nat) : Int)) := by rw [hN]; go_simp
    have pzwB2x2 : wB.cell? ⟨b12, 2, none⟩ = some (.int .u64 ((dg 2 (v) : Nat) : Int)) := by rw [hN]; go_simp
    have pzwB2x3 : wB.cell? ⟨b12, 3, none⟩ = some (.int .u64 ((dg 3 (v) : Nat) : Int)) := by rw [hN]; go_simp
    have pswB2 : b12 < wB.heap.size := by rw [hN]; first | omega | (simp; done) | (simp; omega)
    have pzwB3x0 : wB.cell? ⟨b13, 0, none⟩ = some (.int .u64 ((dg 0 (t) : Nat) : Int)) := by rw [hN]; go_simp
    have pzwB3x1 : wB.cell? ⟨b13, 1, none⟩ = some (.int .u64 ((dg 1 (t) : Nat) : Int)) := by rw [hN]; go_simp
    have pzwB3x2 : wB.cell? ⟨b13, 2, none⟩ = some (.int .u64 ((dg 2 (t) : Nat) : Int)) := by rw [hN]; go_simp
    have pzwB3x3 : wB.cell? ⟨b13, 3, none⟩ = some (.int .u64 ((dg 3 (t) : Nat) : Int)) := by rw [hN]; go_simp
    have pswB3 : b13 < wB.heap.size := by rw [hN]; first | omega | (simp; done) | (simp; omega)
    have pzwB4x0 : wB.cell? ⟨b7, 0, none⟩ = some (.int .u64 ((dg 0 (l) : Nat) : Int)) := by rw [hN]; go_simp
    have pzwB4x1 : wB.cell? ⟨b7, 1, none⟩ = some (.int .u64 ((dg 1 (l) : Nat) : Int)) := by rw [hN]; go_simp
    have pzwB4x2 : wB.cell? ⟨b7, 2, none⟩ = some (.int .u64 ((dg 2 (l) : Nat) : Int)) := by rw [hN]; go_simp
    have pzwB4x3 : wB.cell? ⟨b7, 3, none⟩ = some (.int .u64 ((dg 3 (l) : Nat) : Int)) := by rw [hN]; go_simp
    have pswB4 : b7 < wB.heap.size := by rw [hN]; first | omega | (simp; done) | (simp; omega)
    clear hN
    as_aux_lemma =>
      clear cg3 fg3 sg3 Hg3 hB_wA
      refine region_grow 11 [0, 1, 2, 3, 4, 5, 6, 7, 8, 9, 10] [(10, (fun b => Value.pointer (some ⟨b, 0, Option.none⟩)), (Obj.cells #[.int .u64 0, .int .u64 0, .int .u64 0, .int .u64 0] 24))] [4, 8, 9] (by kernel_rfl) (by kernel_rfl) ?_
      with_reducible apply grow_v
      · rfl
      · rfl
      · rfl
      apply Exists.intro
      refine ⟨fun w' hC => ?_, ?_⟩
      · have hcell := below_cells hC
        clear hC
        simp only [World.size_drew] at hcell
        go_simp
        rfl
      try simp only [Act.put, List.setIfInBounds_toArray, List.set_cons_zero, List.set_cons_succ, List.tail_cons]
      with_reducible apply grow_v
      · rfl
      · rfl
      · rfl
      apply Exists.intro
      refine ⟨fun w' hC => ?_, ?_⟩
      · have hcell := below_cells hC
        clear hC
        simp only [World.size_drew] at hcell
        go_simp
        rfl
      try simp only [Act.put, List.setIfInBounds_toArray, List.set_cons_zero, List.set_cons_succ, List.tail_cons]
      with_reducible apply grow_v
      · rfl
      · rfl
      · rfl
      apply Exists.intro
      refine ⟨fun w' hC => ?_, ?_⟩
      · have hcell := below_cells hC
        clear hC
        simp only [World.size_drew] at hcell
        go_simp
        rfl
      try simp only [Act.put, List.setIfInBounds_toArray, List.set_cons_zero, List.set_cons_succ, List.tail_cons]
      with_reducible apply grow_v
      · rfl
      · rfl
      · rfl
      apply Exists.intro
      refine ⟨fun w' hC => ?_, ?_⟩
      · have hcell := below_cells hC
        clear hC
        simp only [World.size_drew] at hcell
        go_simp
        rfl
      try simp only [Act.put, List.setIfInBounds_toArray, List.set_cons_zero, List.set_cons_succ, List.tail_cons]
      with_reducible apply grow_c
      · rfl
      · rfl
      · rfl
      · rfl
      apply Exists.intro
      apply Exists.intro
      apply Exists.intro
      refine ⟨fun w' hC => ?_, fun w' hC => ?_, ?_⟩
      · have hcell := below_cells hC
        clear hC
        go_simp
        exact ⟨rfl, rfl⟩
      · exact hm1.out _
      try simp only [Act.put, List.setIfInBounds_toArray, List.set_cons_zero, List.set_cons_succ, List.tail_cons]
      with_reducible apply grow_v
      · rfl
      · rfl
      · rfl
      apply Exists.intro
      refine ⟨fun w' hC => ?_, ?_⟩
      · have hcell := below_cells hC
        clear hC
        simp only [World.size_drew] at hcell
        go_simp
        rfl
      try simp only [Act.put, List.setIfInBounds_toArray, List.set_cons_zero, List.set_cons_succ, List.tail_cons]
      with_reducible apply grow_v
      · rfl
      · rfl
      · rfl
      apply Exists.intro
      refine ⟨fun w' hC => ?_, ?_⟩
      · have hcell := below_cells hC
        clear hC
        simp only [World.size_drew] at hcell
        go_simp
        rfl
      try simp only [Act.put, List.setIfInBounds_toArray, List.set_cons_zero, List.set_cons_succ, List.tail_cons]
      with_reducible apply grow_v
      · rfl
      · rfl
      · rfl
      apply Exists.intro
      refine ⟨fun w' hC => ?_, ?_⟩
      · have hcell := below_cells hC
        clear hC
        simp only [World.size_drew] at hcell
        go_simp
        rfl
      try simp only [Act.put, List.setIfInBounds_toArray, List.set_cons_zero, List.set_cons_succ, List.tail_cons]
      with_reducible apply grow_c
      · rfl
      · rfl
      · rfl
      · rfl
      apply Exists.intro
      apply Exists.intro
      apply Exists.intro
      refine ⟨fun w' hC => ?_, fun w' hC => ?_, ?_⟩
      · have hcell := below_cells hC
        clear hC
        go_simp
        exact ⟨rfl, rfl⟩
      · exact hm2.out _
      try simp only [Act.put, List.setIfInBounds_toArray, List.set_cons_zero, List.set_cons_succ, List.tail_cons]
      with_reducible apply grow_c
      · rfl
      · rfl
      · rfl
      · rfl
      apply Exists.intro
      apply Exists.intro
      apply Exists.intro
      refine ⟨fun w' hC => ?_, fun w' hC => ?_, ?_⟩
      · have hcell := below_cells hC
        clear hC
        go_simp
        exact ⟨rfl, rfl⟩
      · exact hl2.out _
      try simp only [Act.put, List.setIfInBounds_toArray, List.set_cons_zero, List.set_cons_succ, List.tail_cons]
      with_reducible apply grow_m
      · rfl
      · rfl
      · rfl
      refine ⟨fun w' hC => ?_, fun b10 => ?_⟩
      · clear hC
        go_simp
      try dsimp only
      try simp only [Act.put, List.setIfInBounds_toArray, List.set_cons_zero, List.set_cons_succ, List.tail_cons]
      refine grow_end ?_
      intro wg4 hg4
      obtain ⟨cg4, fg4, sg4⟩ := bfacts hg4.grows
      try simp only [World.size_alloc, World.size_setCell, size_drew, size_drewN] at sg4
      obtain ⟨kb10, fb10, lb10⟩ := has_cells (hg4.has (b10, Obj.cells #[.int .u64 0, .int .u64 0, .int .u64 0, .int .u64 0] 24) (by simp only [List.mem_cons, true_or, or_true]))
      have nb10 := hg4.new (b10, Obj.cells #[.int .u64 0, .int .u64 0, .int .u64 0, .int .u64 0] 24) (by simp only [List.mem_cons, true_or, or_true])
      try simp only [World.size_alloc, World.size_setCell, size_drew, size_drewN] at nb10
      have kb10_0 := kb10 0 _ rfl
      have kb10_1 := kb10 1 _ rfl
      have kb10_2 := kb10 2 _ rfl
      have kb10_3 := kb10 3 _ rfl
      clear kb10
      have Hg4 : Below _ _ wg4 := hg4.grows
      clear hg4
      simp only [List.drop_succ_cons, List.drop_zero]
      simp only [World.size_drew] at cg4 fg4
      go_wp2_with fail
      have l_w1_wg4_0 : w1.heap.size < wg4.heap.size := by omega
      have lb_wg4_b11 : b11 < wg4.heap.size := by omega
      have lb_wg4_b12 : b12 < wg4.heap.size := by omega
      have lb_wg4_b13 : b13 < wg4.heap.size := by omega
      have lb_wg4_b7 : b7 < wg4.heap.size := by omega
      have ne_b10_0 : ¬ b10 = w1.heap.size := by omega
      have en_b10_0 : ¬ w1.heap.size = b10 := by omega
      have ne_b10_1 : ¬ b10 = b11 := by omega
      have en_b10_1 : ¬ b11 = b10 := by omega
      have ne_b10_2 : ¬ b10 = b12 := by omega
      have en_b10_2 : ¬ b12 = b10 := by omega
      have ne_b10_3 : ¬ b10 = b13 := by omega
      have en_b10_3 : ¬ b13 = b10 := by omega
      have ne_b10_4 : ¬ b10 = b7 := by omega
      have en_b10_4 : ¬ b7 = b10 := by omega
      refine wp_name ?_
      intro wS hN
      have hB_wS : Below w.heap.size w wS := by rw [hN]; exact (by repeat first | with_reducible exact Below.refl _ _ | with_reducible refine Below.drew ?_ | with_reducible refine below_dN ?_ | with_reducible refine Below.alloc ?_ (by first | omega | (simp; done) | (simp; omega)) _ | with_reducible refine Below.setCell ?_ (by first | omega | (simp; done) | (simp; omega)) _ | with_reducible refine Below.trans ?_ (Below.mono (by assumption) (by first | omega | (simp; done) | (simp; omega))))
      have pzwS0x0 : wS.cell? ⟨w1.heap.size, 0, none⟩ = some (.int .i64 (fid s)) := by rw [hN]; go_simp
      have pzwS0x1 : wS.cell? ⟨w1.heap.size, 1, none⟩ = some (.int .u64 ((dg 0 (pr s) : Nat) : Int)) := by rw [hN]; go_simp
      have pzwS0x2 : wS.cell? ⟨w1.heap.size, 2, none⟩ = some (.int .u64 ((dg 1 (pr s) : Nat) : Int)) := by rw [hN]; go_simp
      have pzwS0x3 : wS.cell? ⟨w1.heap.size, 3, none⟩ = some (.int .u64 ((dg 2 (pr s) : Nat) : Int)) := by rw [hN]; go_simp
      have pzwS0x4 : wS.cell? ⟨w1.heap.size, 4, none⟩ = some (.int .u64 ((dg 3 (pr s) : Nat) : Int)) := by rw [hN]; go_simp
      have pzwS0x5 : wS.cell? ⟨w1.heap.size, 5, none⟩ = some (.int .u64 ((ninv s : Nat) : Int)) := by rw [hN]; go_simp
      have pzwS0x6 : wS.cell? ⟨w1.heap.size, 6, none⟩ = some (.int .u64 ((dg 0 (rone s) : Nat) : Int)) := by rw [hN]; go_simp
      have pzwS0x7 : wS.cell? ⟨w1.heap.size, 7, none⟩ = some (.int .u64 ((dg 1 (rone s) : Nat) : Int)) := by rw [hN]; go_simp
      have pzwS0x8 : wS.cell? ⟨w1.heap.size, 8, none⟩ = some (.int .u64 ((dg 2 (rone s) : Nat) : Int)) := by rw [hN]; go_simp
      have pzwS0x9 : wS.cell? ⟨w1.heap.size, 9, none⟩ = some (.int .u64 ((dg 3 (rone s) : Nat) : Int)) := by rw [hN]; go_simp
      have pzwS0x10 : wS.cell? ⟨w1.heap.size, 10, none⟩ = some (.int .u64 ((dg 0 (rsq s) : Nat) : Int)) := by rw [hN]; go_simp
      have pzwS0x11 : wS.cell? ⟨w1.heap.size, 11, none⟩ = some (.int .u64 ((dg 1 (rsq s) : Nat) : Int)) := by rw [hN]; go_simp
      have pzwS0x12 : wS.cell? ⟨w1.heap.size, 12, none⟩ = some (.int .u64 ((dg 2 (rsq s) : Nat) : Int)) := by rw [hN]; go_simp
      have pzwS0x13 : wS.cell? ⟨w1.heap.size, 13, none⟩ = some (.int .u64 ((dg 3 (rsq s) : Nat) : Int)) := by rw [hN]; go_simp
      have pswS0 : w1.heap.size < wS.heap.size := by rw [hN]; first | omega | (simp; done) | (simp; omega)
      have pzwS1x0 : wS.cell? ⟨b11, 0, none⟩ = some (.int .u64 ((dg 0 (u) : Nat) : Int)) := by rw [hN]; go_simp
      have pzwS1x1 : wS.cell? ⟨b11, 1, none⟩ = some (.int .u64 ((dg 1 (u) : Nat) : Int)) := by rw [hN]; go_simp
      have pzwS1x2 : wS.cell? ⟨b11, 2, none⟩ = some (.int .u64 ((dg 2 (u) : Nat) : Int)) := by rw [hN]; go_simp
      have pzwS1x3 : wS.cell? ⟨b11, 3, none⟩ = some (.int .u64 ((dg 3 (u) : Nat) : Int)) := by rw [hN]; go_simp
      have pswS1 : b11 < wS.heap.size := by rw [hN]; first | omega | (simp; done) | (simp; omega)
      have pzwS2x0 : wS.cell? ⟨b12, 0, none⟩ = some (.int .u64 ((dg 0 (v) : Nat) : Int)) := by rw [hN]; go_simp
      have pzwS2x1 : wS.cell? ⟨b12, 1, none⟩ = some (.int .u64 ((dg 1 (v) : Nat) : Int)) := by rw [hN]; go_simp
      have pzwS2x2 : wS.cell? ⟨b12, 2, none⟩ = some (.int .u64 ((dg 2 (v) : Nat) : Int)) := by rw [hN]; go_simp
      have pzwS2x3 : wS.cell? ⟨b12, 3, none⟩ = some (.int .u64 ((dg 3 (v) : Nat) : Int)) := by rw [hN]; go_simp
      have pswS2 : b12 < wS.heap.size := by rw [hN]; first | omega | (simp; done) | (simp; omega)
      have pzwS3x0 : wS.cell? ⟨b13, 0, none⟩ = some (.int .u64 ((dg 0 (t) : Nat) : Int)) := by rw [hN]; go_simp
      have pzwS3x1 : wS.cell? ⟨b13, 1, none⟩ = some (.int .u64 ((dg 1 (t) : Nat) : Int)) := by rw [hN]; go_simp
      have pzwS3x2 : wS.cell? ⟨b13, 2, none⟩ = some (.int .u64 ((dg 2 (t) : Nat) : Int)) := by rw [hN]; go_simp
      have pzwS3x3 : wS.cell? ⟨b13, 3, none⟩ = some (.int .u64 ((dg 3 (t) : Nat) : Int)) := by rw [hN]; go_simp
      have pswS3 : b13 < wS.heap.size := by rw [hN]; first | omega | (simp; done) | (simp; omega)
      have pzwS4x0 : wS.cell? ⟨b7, 0, none⟩ = some (.int .u64 ((dg 0 (l) : Nat) : Int)) := by rw [hN]; go_simp
      have pzwS4x1 : wS.cell? ⟨b7, 1, none⟩ = some (.int .u64 ((dg 1 (l) : Nat) : Int)) := by rw [hN]; go_simp
      have pzwS4x2 : wS.cell? ⟨b7, 2, none⟩ = some (.int .u64 ((dg 2 (l) : Nat) : Int)) := by rw [hN]; go_simp
      have pzwS4x3 : wS.cell? ⟨b7, 3, none⟩ = some (.int .u64 ((dg 3 (l) : Nat) : Int)) := by rw [hN]; go_simp
      have pswS4 : b7 < wS.heap.size := by rw [hN]; first | omega | (simp; done) | (simp; omega)
      have pzwS5x0 : wS.cell? ⟨b10, 0, none⟩ = some (.int .u64 ((dg 0 (l) : Nat) : Int)) := by rw [hN]; go_simp
      have pzwS5x1 : wS.cell? ⟨b10, 1, none⟩ = some (.int .u64 ((dg 1 (l) : Nat) : Int)) := by rw [hN]; go_simp
      have pzwS5x2 : wS.cell? ⟨b10, 2, none⟩ = some (.int .u64 ((dg 2 (l) : Nat) : Int)) := by rw [hN]; go_simp
      have pzwS5x3 : wS.cell? ⟨b10, 3, none⟩ = some (.int .u64 ((dg 3 (l) : Nat) : Int)) := by rw [hN]; go_simp
      have pswS5 : b10 < wS.heap.size := by rw [hN]; first | omega | (simp; done) | (simp; omega)
      clear hN
      as_aux_lemma =>
        clear cg4 fg4 sg4 Hg4 hB_wB
        refine heldm_begin 65 [w1.heap.size, b11, b12, b13, b7, b10] (by kernel_rfl) rfl (by intro _ _ d _ _ h; cases d <;> exact h) ?_
        intro hQ hK
        with_reducible apply heldm_call (n := 64) (m' := 1) 0
        · exact Nat.le_of_ble_eq_true (by kernel_rfl)
        · rfl
        · kernel_rfl
        · kernel_rfl
        · kernel_rfl
        · kernel_rfl
        · kernel_rfl
        · rfl
        · with_reducible exact hK
        apply Exists.intro
        apply Exists.intro
        apply Exists.intro
        refine ⟨?_, ?_, ?_, ?_⟩
        · go_simp
          exact ⟨rfl, rfl⟩
        · exact lawalive_c _ (HL.out.step (by repeat first | with_reducible exact Below.refl _ _ | with_reducible refine Below.drew ?_ | with_reducible refine below_dN ?_ | with_reducible refine Below.alloc ?_ (by first | omega | (simp; done) | (simp; omega)) _ | with_reducible refine Below.setCell ?_ (by first | omega | (simp; done) | (simp; omega)) _ | with_reducible refine Below.trans ?_ (Below.mono (by assumption) (by first | omega | (simp; done) | (simp; omega)))))
        · intro b hb
          simp only [List.mem_cons, List.not_mem_nil, or_false] at hb
          rcases hb with rfl | rfl | rfl | rfl | rfl | rfl <;> first | omega | (simp; done) | (simp; omega)
        intro v0 h0 hK
        obtain ⟨c0, f0, s0⟩ := bfacts h0
        try simp only [World.size_alloc, World.size_setCell, size_drew, size_drewN] at s0
        try simp only [Act.put, List.setIfInBounds_toArray, List.set_cons_zero, List.set_cons_succ, List.tail_cons]
        with_reducible apply heldm_v (n := 63) (m' := 3) 1
        · exact Nat.le_of_ble_eq_true (by kernel_rfl)
        · rfl
        · kernel_rfl
        · kernel_rfl
        · kernel_rfl
        · kernel_rfl
        · kernel_rfl
        · kernel_rfl
        · exact hQ
        · with_reducible exact hK
        · rfl
        apply Exists.intro
        refine ⟨fun w' hC => ?_, ?_⟩
        · have k0_ := hC (w1.heap.size) (by simp only [List.mem_cons, true_or, or_true])
          have k1_ := hC (b11) (by simp only [List.mem_cons, true_or, or_true])
          have k2_ := hC (b12) (by simp only [List.mem_cons, true_or, or_true])
          have k3_ := hC (b13) (by simp only [List.mem_cons, true_or, or_true])
          have k4_ := hC (b7) (by simp only [List.mem_cons, true_or, or_true])
          have k5_ := hC (b10) (by simp only [List.mem_cons, true_or, or_true])
          clear hC
          go_simp
          rfl
        try simp only [Act.put, List.setIfInBounds_toArray, List.set_cons_zero, List.set_cons_succ, List.tail_cons]
        first
          | (with_reducible apply heldm_v (n := 62) (m' := 7) 2
             · exact Nat.le_of_ble_eq_true (by kernel_rfl)
             · rfl
             · kernel_rfl
             · kernel_rfl
             · kernel_rfl
             · kernel_rfl
             · kernel_rfl
             · kernel_rfl
             · exact hQ
             · with_reducible exact hK
             · rfl
             apply Exists.intro
             refine ⟨fun w' hC => ?_, ?_⟩
             · have k0_ := hC (w1.heap.size) (by simp only [List.mem_cons, true_or, or_true])
               have k1_ := hC (b11) (by simp only [List.mem_cons, true_or, or_true])
               have k2_ := hC (b12) (by simp only [List.mem_cons, true_or, or_true])
               have k3_ := hC (b13) (by simp only [List.mem_cons, true_or, or_true])
               have k4_ := hC (b7) (by simp only [List.mem_cons, true_or, or_true])
               have k5_ := hC (b10) (by simp only [List.mem_cons, true_or, or_true])
               clear hC
               go_simp
               rfl)
          | (with_reducible apply heldm_s (n := 62) (m' := 7) 2
             · exact Nat.le_of_ble_eq_true (by kernel_rfl)
             · rfl
             · kernel_rfl
             · kernel_rfl
             · kernel_rfl
             · kernel_rfl
             · kernel_rfl
             · kernel_rfl
             · exact hQ
             · with_reducible exact hK
             · rfl)
        try simp only [Act.put, List.setIfInBounds_toArray, List.set_cons_zero, List.set_cons_succ, List.tail_cons]
        first
          | (with_reducible apply heldm_v (n := 61) (m' := 15) 3
             · exact Nat.le_of_ble_eq_true (by kernel_rfl)
             · rfl
             · kernel_rfl
             · kernel_rfl
             · kernel_rfl
             · kernel_rfl
             · kernel_rfl
             · kernel_rfl
             · exact hQ
             · with_reducible exact hK
             · rfl
             apply Exists.intro
             refine ⟨fun w' hC => ?_, ?_⟩
             · have k0_ := hC (w1.heap.size) (by simp only [List.mem_cons, true_or, or_true])
               have k1_ := hC (b11) (by simp only [List.mem_cons, true_or, or_true])
               have k2_ := hC (b12) (by simp only [List.mem_cons, true_or, or_true])
               have k3_ := hC (b13) (by simp only [List.mem_cons, true_or, or_true])
               have k4_ := hC (b7) (by simp only [List.mem_cons, true_or, or_true])
               have k5_ := hC (b10) (by simp only [List.mem_cons, true_or, or_true])
               clear hC
               go_simp
               rfl)
          | (with_reducible apply heldm_s (n := 61) (m' := 15) 3
             · exact Nat.le_of_ble_eq_true (by kernel_rfl)
             · rfl
             · kernel_rfl
             · kernel_rfl
             · kernel_rfl
             · kernel_rfl
             · kernel_rfl
             · kernel_rfl
             · exact hQ
             · with_reducible exact hK
             · rfl)
        try simp only [Act.put, List.setIfInBounds_toArray, List.set_cons_zero, List.set_cons_succ, List.tail_cons]
        first
          | (with_reducible apply heldm_v (n := 60) (m' := 31) 4
             · exact Nat.le_of_ble_eq_true (by kernel_rfl)
             · rfl
             · kernel_rfl
             · kernel_rfl
             · kernel_rfl
             · kernel_rfl
             · kernel_rfl
             · kernel_rfl
             · exact hQ
             · with_reducible exact hK
             · rfl
             apply Exists.intro
             refine ⟨fun w' hC => ?_, ?_⟩
             · have k0_ := hC (w1.heap.size) (by simp only [List.mem_cons, true_or, or_true])
               have k1_ := hC (b11) (by simp only [List.mem_cons, true_or, or_true])
               have k2_ := hC (b12) (by simp only [List.mem_cons, true_or, or_true])
               have k3_ := hC (b13) (by simp only [List.mem_cons, true_or, or_true])
               have k4_ := hC (b7) (by simp only [List.mem_cons, true_or, or_true])
               have k5_ := hC (b10) (by simp only [List.mem_cons, true_or, or_true])
               clear hC
               go_simp
               rfl)
          | (with_reducible apply heldm_s (n := 60) (m' := 31) 4
             · exact Nat.le_of_ble_eq_true (by kernel_rfl)
             · rfl
             · kernel_rfl
             · kernel_rfl
             · kernel_rfl
             · kernel_rfl
             · kernel_rfl
             · kernel_rfl
             · exact hQ
             · with_reducible exact hK
             · rfl)
        try simp only [Act.put, List.setIfInBounds_toArray, List.set_cons_zero, List.set_cons_succ, List.tail_cons]
        with_reducible apply heldm_v (n := 59) (m' := 63) 5
        · exact Nat.le_of_ble_eq_true (by kernel_rfl)
        · rfl
        · kernel_rfl
        · kernel_rfl
        · kernel_rfl
        · kernel_rfl
        · kernel_rfl
        · kernel_rfl
        · exact hQ
        · with_reducible exact hK
        · rfl
        apply Exists.intro
        refine ⟨fun w' hC => ?_, ?_⟩
        · have k0_ := hC (w1.heap.size) (by simp only [List.mem_cons, true_or, or_true])
          have k1_ := hC (b11) (by simp only [List.mem_cons, true_or, or_true])
          have k2_ := hC (b12) (by simp only [List.mem_cons, true_or, or_true])
          have k3_ := hC (b13) (by simp only [List.mem_cons, true_or, or_true])
          have k4_ := hC (b7) (by simp only [List.mem_cons, true_or, or_true])
          have k5_ := hC (b10) (by simp only [List.mem_cons, true_or, or_true])
          clear hC
          go_simp
          rfl
        try simp only [Act.put, List.setIfInBounds_toArray, List.set_cons_zero, List.set_cons_succ, List.tail_cons]
        with_reducible apply heldm_v (n := 58) (m' := 127) 6
        · exact Nat.le_of_ble_eq_true (by kernel_rfl)
        · rfl
        · kernel_rfl
        · kernel_rfl
        · kernel_rfl
        · kernel_rfl
        · kernel_rfl
        · kernel_rfl
        · exact hQ
        · with_reducible exact hK
        · rfl
        apply Exists.intro
        refine ⟨fun w' hC => ?_, ?_⟩
        · have k0_ := hC (w1.heap.size) (by simp only [List.mem_cons, true_or, or_true])
          have k1_ := hC (b11) (by simp only [List.mem_cons, true_or, or_true])
          have k2_ := hC (b12) (by simp only [List.mem_cons, true_or, or_true])
          have k3_ := hC (b13) (by simp only [List.mem_cons, true_or, or_true])
          have k4_ := hC (b7) (by simp only [List.mem_cons, true_or, or_true])
          have k5_ := hC (b10) (by simp only [List.mem_cons, true_or, or_true])
          clear hC
          go_simp
          rfl
        try simp only [Act.put, List.setIfInBounds_toArray, List.set_cons_zero, List.set_cons_succ, List.tail_cons]
        first
          | (with_reducible apply heldm_v (n := 57) (m' := 255) 7
             · exact Nat.le_of_ble_eq_true (by kernel_rfl)
             · rfl
             · kernel_rfl
             · kernel_rfl
             · kernel_rfl
             · kernel_rfl
             · kernel_rfl
             · kernel_rfl
             · exact hQ
             · with_reducible exact hK
             · rfl
             apply Exists.intro
             refine ⟨fun w' hC => ?_, ?_⟩
             · have k0_ := hC (w1.heap.size) (by simp only [List.mem_cons, true_or, or_true])
               have k1_ := hC (b11) (by simp only [List.mem_cons, true_or, or_true])
               have k2_ := hC (b12) (by simp only [List.mem_cons, true_or, or_true])
               have k3_ := hC (b13) (by simp only [List.mem_cons, true_or, or_true])
               have k4_ := hC (b7) (by simp only [List.mem_cons, true_or, or_true])
               have k5_ := hC (b10) (by simp only [List.mem_cons, true_or, or_true])
               clear hC
               go_simp
               rfl)
          | (with_reducible apply heldm_s (n := 57) (m' := 255) 7
             · exact Nat.le_of_ble_eq_true (by kernel_rfl)
             · rfl
             · kernel_rfl
             · kernel_rfl
             · kernel_rfl
             · kernel_rfl
             · kernel_rfl
             · kernel_rfl
             · exact hQ
             · with_reducible exact hK
             · rfl)
        try simp only [Act.put, List.setIfInBounds_toArray, List.set_cons_zero, List.set_cons_succ, List.tail_cons]
        first
          | (with_reducible apply heldm_v (n := 56) (m' := 511) 8
             · exact Nat.le_of_ble_eq_true (by kernel_rfl)
             · rfl
             · kernel_rfl
             · kernel_rfl
             · kernel_rfl
             · kernel_rfl
             · kernel_rfl
             · kernel_rfl
             · exact hQ
             · with_reducible exact hK
             · rfl
             apply Exists.intro
             refine ⟨fun w' hC => ?_, ?_⟩
             · have k0_ := hC (w1.heap.size) (by simp only [List.mem_cons, true_or, or_true])
               have k1_ := hC (b11) (by simp only [List.mem_cons, true_or, or_true])
               have k2_ := hC (b12) (by simp only [List.mem_cons, true_or, or_true])
               have k3_ := hC (b13) (by simp only [List.mem_cons, true_or, or_true])
               have k4_ := hC (b7) (by simp only [List.mem_cons, true_or, or_true])
               have k5_ := hC (b10) (by simp only [List.mem_cons, true_or, or_true])
               clear hC
               go_simp
               rfl)
          | (with_reducible apply heldm_s (n := 56) (m' := 511) 8
             · exact Nat.le_of_ble_eq_true (by kernel_rfl)
             · rfl
             · kernel_rfl
             · kernel_rfl
             · kernel_rfl
             · kernel_rfl
             · kernel_rfl
             · kernel_rfl
             · exact hQ
             · with_reducible exact hK
             · rfl)
        try simp only [Act.put, List.setIfInBounds_toArray, List.set_cons_zero, List.set_cons_succ, List.tail_cons]
        first
          | (with_reducible apply heldm_v (n := 55) (m' := 1023) 9
             · exact Nat.le_of_ble_eq_true (by kernel_rfl)
             · rfl
             · kernel_rfl
             · kernel_rfl
             · kernel_rfl
             · kernel_rfl
             · kernel_rfl
             · kernel_rfl
             · exact hQ
             · with_reducible exact hK
             · rfl
             apply Exists.intro
             refine ⟨fun w' hC => ?_, ?_⟩
             · have k0_ := hC (w1.heap.size) (by simp only [List.mem_cons, true_or, or_true])
               have k1_ := hC (b11) (by simp only [List.mem_cons, true_or, or_true])
               have k2_ := hC (b12) (by simp only [List.mem_cons, true_or, or_true])
               have k3_ := hC (b13) (by simp only [List.mem_cons, true_or, or_true])
               have k4_ := hC (b7) (by simp only [List.mem_cons, true_or, or_true])
               have k5_ := hC (b10) (by simp only [List.mem_cons, true_or, or_true])
               clear hC
               go_simp
               rfl)
          | (with_reducible apply heldm_s (n := 55) (m' := 1023) 9
             · exact Nat.le_of_ble_eq_true (by kernel_rfl)
             · rfl
             · kernel_rfl
             · kernel_rfl
             · kernel_rfl
             · kernel_rfl
             · kernel_rfl
             · kernel_rfl
             · exact hQ
             · with_reducible exact hK
             · rfl)
        try simp only [Act.put, List.setIfInBounds_toArray, List.set_cons_zero, List.set_cons_succ, List.tail_cons]
        first
          | (with_reducible apply heldm_v (n := 54) (m' := 2047) 10
             · exact Nat.le_of_ble_eq_true (by kernel_rfl)
             · rfl
             · kernel_rfl
             · kernel_rfl
             · kernel_rfl
             · kernel_rfl
             · kernel_rfl
             · kernel_rfl
             · exact hQ
             · with_reducible exact hK
             · rfl
             apply Exists.intro
             refine ⟨fun w' hC => ?_, ?_⟩
             · have k0_ := hC (w1.heap.size) (by simp only [List.mem_cons, true_or, or_true])
               have k1_ := hC (b11) (by simp only [List.mem_cons, true_or, or_true])
               have k2_ := hC (b12) (by simp only [List.mem_cons, true_or, or_true])
               have k3_ := hC (b13) (by simp only [List.mem_cons, true_or, or_true])
               have k4_ := hC (b7) (by simp only [List.mem_cons, true_or, or_true])
               have k5_ := hC (b10) (by simp only [List.mem_cons, true_or, or_true])
               clear hC
               go_simp
               rfl)
          | (with_reducible apply heldm_s (n := 54) (m' := 2047) 10
             · exact Nat.le_of_ble_eq_true (by kernel_rfl)
             · rfl
             · kernel_rfl
             · kernel_rfl
             · kernel_rfl
             · kernel_rfl
             · kernel_rfl
             · kernel_rfl
             · exact hQ
             · with_reducible exact hK
             · rfl)
        try simp only [Act.put, List.setIfInBounds_toArray, List.set_cons_zero, List.set_cons_succ, List.tail_cons]
        first
          | (with_reducible apply heldm_v (n := 53) (m' := 6143) 12
             · exact Nat.le_of_ble_eq_true (by kernel_rfl)
             · rfl
             · kernel_rfl
             · kernel_rfl
             · kernel_rfl
             · kernel_rfl
             · kernel_rfl
             · kernel_rfl
             · exact hQ
             · with_reducible exact hK
             · rfl
             apply Exists.intro
             refine ⟨fun w' hC => ?_, ?_⟩
             · have k0_ := hC (w1.heap.size) (by simp only [List.mem_cons, true_or, or_true])
               have k1_ := hC (b11) (by simp only [List.mem_cons, true_or, or_true])
               have k2_ := hC (b12) (by simp only [List.mem_cons, true_or, or_true])
               have k3_ := hC (b13) (by simp only [List.mem_cons, true_or, or_true])
               have k4_ := hC (b7) (by simp only [List.mem_cons, true_or, or_true])
               have k5_ := hC (b10) (by simp only [List.mem_cons, true_or, or_true])
               clear hC
               go_simp
               rfl)
          | (with_reducible apply heldm_s (n := 53) (m' := 6143) 12
             · exact Nat.le_of_ble_eq_true (by kernel_rfl)
             · rfl
             · kernel_rfl
             · kernel_rfl
             · kernel_rfl
             · kernel_rfl
             · kernel_rfl
             · kernel_rfl
             · exact hQ
             · with_reducible exact hK
             · rfl)
        try simp only [Act.put, List.setIfInBounds_toArray, List.set_cons_zero, List.set_cons_succ, List.tail_cons]
        first
          | (with_reducible apply heldm_v (n := 52) (m' := 22527) 14
             · exact Nat.le_of_ble_eq_true (by kernel_rfl)
             · rfl
             · kernel_rfl
             · kernel_rfl
             · kernel_rfl
             · kernel_rfl
             · kernel_rfl
             · kernel_rfl
             · exact hQ
             · with_reducible exact hK
             · rfl
             apply Exists.intro
             refine ⟨fun w' hC => ?_, ?_⟩
             · have k0_ := hC (w1.heap.size) (by simp only [List.mem_cons, true_or, or_true])
               have k1_ := hC (b11) (by simp only [List.mem_cons, true_or, or_true])
               have k2_ := hC (b12) (by simp only [List.mem_cons, true_or, or_true])
               have k3_ := hC (b13) (by simp only [List.mem_cons, true_or, or_true])
               have k4_ := hC (b7) (by simp only [List.mem_cons, true_or, or_true])
               have k5_ := hC (b10) (by simp only [List.mem_cons, true_or, or_true])
               clear hC
               go_simp
               rfl)
          | (with_reducible apply heldm_s (n := 52) (m' := 22527) 14
             · exact Nat.le_of_ble_eq_true (by kernel_rfl)
             · rfl
             · kernel_rfl
             · kernel_rfl
             · kernel_rfl
             · kernel_rfl
             · kernel_rfl
             · kernel_rfl
             · exact hQ
             · with_reducible exact hK
             · rfl)
        try simp only [Act.put, List.setIfInBounds_toArray, List.set_cons_zero, List.set_cons_succ, List.tail_cons]
        first
          | (with_reducible apply heldm_v (n := 51) (m' := 55295) 15
             · exact Nat.le_of_ble_eq_true (by kernel_rfl)
             · rfl
             · kernel_rfl
             · kernel_rfl
             · kernel_rfl
             · kernel_rfl
             · kernel_rfl
             · kernel_rfl
             · exact hQ
             · with_reducible exact hK
             · rfl
             apply Exists.intro
             refine ⟨fun w' hC => ?_, ?_⟩
             · have k0_ := hC (w1.heap.size) (by simp only [List.mem_cons, true_or, or_true])
               have k1_ := hC (b11) (by simp only [List.mem_cons, true_or, or_true])
               have k2_ := hC (b12) (by simp only [List.mem_cons, true_or, or_true])
               have k3_ := hC (b13) (by simp only [List.mem_cons, true_or, or_true])
               have k4_ := hC (b7) (by simp only [List.mem_cons, true_or, or_true])
               have k5_ := hC (b10) (by simp only [List.mem_cons, true_or, or_true])
               clear hC
               go_simp
               rfl)
          | (with_reducible apply heldm_s (n := 51) (m' := 55295) 15
             · exact Nat.le_of_ble_eq_true (by kernel_rfl)
             · rfl
             · kernel_rfl
             · kernel_rfl
             · kernel_rfl
             · kernel_rfl
             · kernel_rfl
             · kernel_rfl
             · exact hQ
             · with_reducible exact hK
             · rfl)
        try simp only [Act.put, List.setIfInBounds_toArray, List.set_cons_zero, List.set_cons_succ, List.tail_cons]
        first
          | (with_reducible apply heldm_v (n := 50) (m' := 120831) 16
             · exact Nat.le_of_ble_eq_true (by kernel_rfl)
             · rfl
             · kernel_rfl
             · kernel_rfl
             · kernel_rfl
             · kernel_rfl
             · kernel_rfl
             · kernel_rfl
             · exact hQ
             · with_reducible exact hK
             · rfl
             apply Exists.intro
             refine ⟨fun w' hC => ?_, ?_⟩
             · have k0_ := hC (w1.heap.size) (by simp only [List.mem_cons, true_or, or_true])
               have k1_ := hC (b11) (by simp only [List.mem_cons, true_or, or_true])
               have k2_ := hC (b12) (by simp only [List.mem_cons, true_or, or_true])
               have k3_ := hC (b13) (by simp only [List.mem_cons, true_or, or_true])
               have k4_ := hC (b7) (by simp only [List.mem_cons, true_or, or_true])
               have k5_ := hC (b10) (by simp only [List.mem_cons, true_or, or_true])
               clear hC
               go_simp
               rfl)
          | (with_reducible apply heldm_s (n := 50) (m' := 120831) 16
             · exact Nat.le_of_ble_eq_true (by kernel_rfl)
             · rfl
             · kernel_rfl
             · kernel_rfl
             · kernel_rfl
             · kernel_rfl
             · kernel_rfl
             · kernel_rfl
             · exact hQ
             · with_reducible exact hK
             · rfl)
        try simp only [Act.put, List.setIfInBounds_toArray, List.set_cons_zero, List.set_cons_succ, List.tail_cons]
        first
          | (with_reducible apply heldm_v (n := 49) (m' := 251903) 17
             · exact Nat.le_of_ble_eq_true (by kernel_rfl)
             · rfl
             · kernel_rfl
             · kernel_rfl
             · kernel_rfl
             · kernel_rfl
             · kernel_rfl
             · kernel_rfl
             · exact hQ
             · with_reducible exact hK
             · rfl
             apply Exists.intro
             refine ⟨fun w' hC => ?_, ?_⟩
             · have k0_ := hC (w1.heap.size) (by simp only [List.mem_cons, true_or, or_true])
               have k1_ := hC (b11) (by simp only [List.mem_cons, true_or, or_true])
               have k2_ := hC (b12) (by simp only [List.mem_cons, true_or, or_true])
               have k3_ := hC (b13) (by simp only [List.mem_cons, true_or, or_true])
               have k4_ := hC (b7) (by simp only [List.mem_cons, true_or, or_true])
               have k5_ := hC (b10) (by simp only [List.mem_cons, true_or, or_true])
               clear hC
               go_simp
               rfl)
          | (with_reducible apply heldm_s (n := 49) (m' := 251903) 17
             · exact Nat.le_of_ble_eq_true (by kernel_rfl)
             · rfl
             · kernel_rfl
             · kernel_rfl
             · kernel_rfl
             · kernel_rfl
             · kernel_rfl
             · kernel_rfl
             · exact hQ
             · with_reducible exact hK
             · rfl)
        try simp only [Act.put, List.setIfInBounds_toArray, List.set_cons_zero, List.set_cons_succ, List.tail_cons]
        first
          | (with_reducible apply heldm_v (n := 48) (m' := 514047) 18
             · exact Nat.le_of_ble_eq_true (by kernel_rfl)
             · rfl
             · kernel_rfl
             · kernel_rfl
             · kernel_rfl
             · kernel_rfl
             · kernel_rfl
             · kernel_rfl
             · exact hQ
             · with_reducible exact hK
             · rfl
             apply Exists.intro
             refine ⟨fun w' hC => ?_, ?_⟩
             · have k0_ := hC (w1.heap.size) (by simp only [List.mem_cons, true_or, or_true])
               have k1_ := hC (b11) (by simp only [List.mem_cons, true_or, or_true])
               have k2_ := hC (b12) (by simp only [List.mem_cons, true_or, or_true])
               have k3_ := hC (b13) (by simp only [List.mem_cons, true_or, or_true])
               have k4_ := hC (b7) (by simp only [List.mem_cons, true_or, or_true])
               have k5_ := hC (b10) (by simp only [List.mem_cons, true_or, or_true])
               clear hC
               go_simp
               rfl)
          | (with_reducible apply heldm_s (n := 48) (m' := 514047) 18
             · exact Nat.le_of_ble_eq_true (by kernel_rfl)
             · rfl
             · kernel_rfl
             · kernel_rfl
             · kernel_rfl
             · kernel_rfl
             · kernel_rfl
             · kernel_rfl
             · exact hQ
             · with_reducible exact hK
             · rfl)
        try simp only [Act.put, List.setIfInBounds_toArray, List.set_cons_zero, List.set_cons_succ, List.tail_cons]
        with_reducible apply heldm_call (n := 47) (m' := 516095) 11
        · exact Nat.le_of_ble_eq_true (by kernel_rfl)
        · rfl
        · kernel_rfl
        · kernel_rfl
        · kernel_rfl
        · kernel_rfl
        · kernel_rfl
        · rfl
        · with_reducible exact hK
        apply Exists.intro
        apply Exists.intro
        apply Exists.intro
        refine ⟨?_, ?_, ?_, ?_⟩
        · go_simp
          exact ⟨rfl, rfl⟩
        · exact hm1.out _
        · intro b hb
          simp only [List.mem_cons, List.not_mem_nil, or_false] at hb
          rcases hb with rfl | rfl | rfl | rfl | rfl | rfl <;> first | omega | (simp; done) | (simp; omega)
        intro v11 h11 hK
        obtain ⟨c11, f11, s11⟩ := bfacts h11
        try simp only [World.size_alloc, World.size_setCell, size_drew, size_drewN] at s11
        try simp only [Act.put, List.setIfInBounds_toArray, List.set_cons_zero, List.set_cons_succ, List.tail_cons]
        with_reducible apply heldm_call (n := 46) (m' := 524287) 13
        · exact Nat.le_of_ble_eq_true (by kernel_rfl)
        · rfl
        · kernel_rfl
        · kernel_rfl
        · kernel_rfl
        · kernel_rfl
        · kernel_rfl
        · rfl
        · with_reducible exact hK
        apply Exists.intro
        apply Exists.intro
        apply Exists.intro
        refine ⟨?_, ?_, ?_, ?_⟩
        · go_simp
          exact ⟨rfl, rfl⟩
        · exact hk1.out _
        · intro b hb
          simp only [List.mem_cons, List.not_mem_nil, or_false] at hb
          rcases hb with rfl | rfl | rfl | rfl | rfl | rfl <;> first | omega | (simp; done) | (simp; omega)
        intro v13 h13 hK
        obtain ⟨c13, f13, s13⟩ := bfacts h13
        try simp only [World.size_alloc, World.size_setCell, size_drew, size_drewN] at s13
        try simp only [Act.put, List.setIfInBounds_toArray, List.set_cons_zero, List.set_cons_succ, List.tail_cons]
        with_reducible apply heldm_call (n := 45) (m' := 1048575) 19
        · exact Nat.le_of_ble_eq_true (by kernel_rfl)
        · rfl
        · kernel_rfl
        · kernel_rfl
        · kernel_rfl
        · kernel_rfl
        · kernel_rfl
        · rfl
        · with_reducible exact hK
        apply Exists.intro
        apply Exists.intro
        apply Exists.intro
        refine ⟨?_, ?_, ?_, ?_⟩
        · go_simp
          exact ⟨rfl, rfl⟩
        · exact hm3.out _
        · intro b hb
          simp only [List.mem_cons, List.not_mem_nil, or_false] at hb
          rcases hb with rfl | rfl | rfl | rfl | rfl | rfl <;> first | omega | (simp; done) | (simp; omega)
        intro v19 h19 hK
        obtain ⟨c19, f19, s19⟩ := bfacts h19
        try simp only [World.size_alloc, World.size_setCell, size_drew, size_drewN] at s19
        try simp only [Act.put, List.setIfInBounds_toArray, List.set_cons_zero, List.set_cons_succ, List.tail_cons]
        with_reducible apply heldm_call (n := 44) (m' := 2097151) 20
        · exact Nat.le_of_ble_eq_true (by kernel_rfl)
        · rfl
        · kernel_rfl
        · kernel_rfl
        · kernel_rfl
        · kernel_rfl
        · kernel_rfl
        · rfl
        · with_reducible exact hK
        apply Exists.intro
        apply Exists.intro
        apply Exists.intro
        refine ⟨?_, ?_, ?_, ?_⟩
        · go_simp
          exact ⟨rfl, rfl⟩
        · exact hk2.out _
        · intro b hb
          simp only [List.mem_cons, List.not_mem_nil, or_false] at hb
          rcases hb with rfl | rfl | rfl | rfl | rfl | rfl <;> first | omega | (simp; done) | (simp; omega)
        intro v20 h20 hK
        obtain ⟨c20, f20, s20⟩ := bfacts h20
        try simp only [World.size_alloc, World.size_setCell, size_drew, size_drewN] at s20
        try simp only [Act.put, List.setIfInBounds_toArray, List.set_cons_zero, List.set_cons_succ, List.tail_cons]
        first
          | (with_reducible apply heldm_v (n := 43) (m' := 4194303) 21
             · exact Nat.le_of_ble_eq_true (by kernel_rfl)
             · rfl
             · kernel_rfl
             · kernel_rfl
             · kernel_rfl
             · kernel_rfl
             · kernel_rfl
             · kernel_rfl
             · exact hQ
             · with_reducible exact hK
             · rfl
             apply Exists.intro
             refine ⟨fun w' hC => ?_, ?_⟩
             · have k0_ := hC (w1.heap.size) (by simp only [List.mem_cons, true_or, or_true])
               have k1_ := hC (b11) (by simp only [List.mem_cons, true_or, or_true])
               have k2_ := hC (b12) (by simp only [List.mem_cons, true_or, or_true])
               have k3_ := hC (b13) (by simp only [List.mem_cons, true_or, or_true])
               have k4_ := hC (b7) (by simp only [List.mem_cons, true_or, or_true])
               have k5_ := hC (b10) (by simp only [List.mem_cons, true_or, or_true])
               clear hC
               go_simp
               rfl)
          | (with_reducible apply heldm_s (n := 43) (m' := 4194303) 21
             · exact Nat.le_of_ble_eq_true (by kernel_rfl)
             · rfl
             · kernel_rfl
             · kernel_rfl
             · kernel_rfl
             · kernel_rfl
             · kernel_rfl
             · kernel_rfl
             · exact hQ
             · with_reducible exact hK
             · rfl)
        try simp only [Act.put, List.setIfInBounds_toArray, List.set_cons_zero, List.set_cons_succ, List.tail_cons]
        with_reducible apply heldm_v (n := 42) (m' := 8388607) 22
        · exact Nat.le_of_ble_eq_true (by kernel_rfl)
        · rfl
        · kernel_rfl
        · kernel_rfl
        · kernel_rfl
        · kernel_rfl
        · kernel_rfl
        · kernel_rfl
        · exact hQ
        · with_reducible exact hK
        · rfl
        apply Exists.intro
        refine ⟨fun w' hC => ?_, ?_⟩
        · have k0_ := hC (w1.heap.size) (by simp only [List.mem_cons, true_or, or_true])
          have k1_ := hC (b11) (by simp only [List.mem_cons, true_or, or_true])
          have k2_ := hC (b12) (by simp only [List.mem_cons, true_or, or_true])
          have k3_ := hC (b13) (by simp only [List.mem_cons, true_or, or_true])
          have k4_ := hC (b7) (by simp only [List.mem_cons, true_or, or_true])
          have k5_ := hC (b10) (by simp only [List.mem_cons, true_or, or_true])
          clear hC
          go_simp
          rfl
        try simp only [Act.put, List.setIfInBounds_toArray, List.set_cons_zero, List.set_cons_succ, List.tail_cons]
        with_reducible apply heldm_v (n := 41) (m' := 16777215) 23
        · exact Nat.le_of_ble_eq_true (by kernel_rfl)
        · rfl
        · kernel_rfl
        · kernel_rfl
        · kernel_rfl
        · kernel_rfl
        · kernel_rfl
        · kernel_rfl
        · exact hQ
        · with_reducible exact hK
        · rfl
        apply Exists.intro
        refine ⟨fun w' hC => ?_, ?_⟩
        · have k0_ := hC (w1.heap.size) (by simp only [List.mem_cons, true_or, or_true])
          have k1_ := hC (b11) (by simp only [List.mem_cons, true_or, or_true])
          have k2_ := hC (b12) (by simp only [List.mem_cons, true_or, or_true])
          have k3_ := hC (b13) (by simp only [List.mem_cons, true_or, or_true])
          have k4_ := hC (b7) (by simp only [List.mem_cons, true_or, or_true])
          have k5_ := hC (b10) (by simp only [List.mem_cons, true_or, or_true])
          clear hC
          go_simp
          rfl
        try simp only [Act.put, List.setIfInBounds_toArray, List.set_cons_zero, List.set_cons_succ, List.tail_cons]
        first
          | (with_reducible apply heldm_v (n := 40) (m' := 33554431) 24
             · exact Nat.le_of_ble_eq_true (by kernel_rfl)
             · rfl
             · kernel_rfl
             · kernel_rfl
             · kernel_rfl
             · kernel_rfl
             · kernel_rfl
             · kernel_rfl
             · exact hQ
             · with_reducible exact hK
             · rfl
             apply Exists.intro
             refine ⟨fun w' hC => ?_, ?_⟩
             · have k0_ := hC (w1.heap.size) (by simp only [List.mem_cons, true_or, or_true])
               have k1_ := hC (b11) (by simp only [List.mem_cons, true_or, or_true])
               have k2_ := hC (b12) (by simp only [List.mem_cons, true_or, or_true])
               have k3_ := hC (b13) (by simp only [List.mem_cons, true_or, or_true])
               have k4_ := hC (b7) (by simp only [List.mem_cons, true_or, or_true])
               have k5_ := hC (b10) (by simp only [List.mem_cons, true_or, or_true])
               clear hC
               go_simp
               rfl)
          | (with_reducible apply heldm_s (n := 40) (m' := 33554431) 24
             · exact Nat.le_of_ble_eq_true (by kernel_rfl)
             · rfl
             · kernel_rfl
             · kernel_rfl
             · kernel_rfl
             · kernel_rfl
             · kernel_rfl
             · kernel_rfl
             · exact hQ
             · with_reducible exact hK
             · rfl)
        try simp only [Act.put, List.setIfInBounds_toArray, List.set_cons_zero, List.set_cons_succ, List.tail_cons]
        first
          | (with_reducible apply heldm_v (n := 39) (m' := 67108863) 25
             · exact Nat.le_of_ble_eq_true (by kernel_rfl)
             · rfl
             · kernel_rfl
             · kernel_rfl
             · kernel_rfl
             · kernel_rfl
             · kernel_rfl
             · kernel_rfl
             · exact hQ
             · with_reducible exact hK
             · rfl
             apply Exists.intro
             refine ⟨fun w' hC => ?_, ?_⟩
             · have k0_ := hC (w1.heap.size) (by simp only [List.mem_cons, true_or, or_true])
               have k1_ := hC (b11) (by simp only [List.mem_cons, true_or, or_true])
               have k2_ := hC (b12) (by simp only [List.mem_cons, true_or, or_true])
               have k3_ := hC (b13) (by simp only [List.mem_cons, true_or, or_true])
               have k4_ := hC (b7) (by simp only [List.mem_cons, true_or, or_true])
               have k5_ := hC (b10) (by simp only [List.mem_cons, true_or, or_true])
               clear hC
               go_simp
               rfl)
          | (with_reducible apply heldm_s (n := 39) (m' := 67108863) 25
             · exact Nat.le_of_ble_eq_true (by kernel_rfl)
             · rfl
             · kernel_rfl
             · kernel_rfl
             · kernel_rfl
             · kernel_rfl
             · kernel_rfl
             · kernel_rfl
             · exact hQ
             · with_reducible exact hK
             · rfl)
        try simp only [Act.put, List.setIfInBounds_toArray, List.set_cons_zero, List.set_cons_succ, List.tail_cons]
        first
          | (with_reducible apply heldm_v (n := 38) (m' := 134217727) 26
             · exact Nat.le_of_ble_eq_true (by kernel_rfl)
             · rfl
             · kernel_rfl
             · kernel_rfl
             · kernel_rfl
             · kernel_rfl
             · kernel_rfl
             · kernel_rfl
             · exact hQ
             · with_reducible exact hK
             · rfl
             apply Exists.intro
             refine ⟨fun w' hC => ?_, ?_⟩
             · have k0_ := hC (w1.heap.size) (by simp only [List.mem_cons, true_or, or_true])
               have k1_ := hC (b11) (by simp only [List.mem_cons, true_or, or_true])
               have k2_ := hC (b12) (by simp only [List.mem_cons, true_or, or_true])
               have k3_ := hC (b13) (by simp only [List.mem_cons, true_or, or_true])
               have k4_ := hC (b7) (by simp only [List.mem_cons, true_or, or_true])
               have k5_ := hC (b10) (by simp only [List.mem_cons, true_or, or_true])
               clear hC
               go_simp
               rfl)
          | (with_reducible apply heldm_s (n := 38) (m' := 134217727) 26
             · exact Nat.le_of_ble_eq_true (by kernel_rfl)
             · rfl
             · kernel_rfl
             · kernel_rfl
             · kernel_rfl
             · kernel_rfl
             · kernel_rfl
             · kernel_rfl
             · exact hQ
             · with_reducible exact hK
             · rfl)
        try simp only [Act.put, List.setIfInBounds_toArray, List.set_cons_zero, List.set_cons_succ, List.tail_cons]
        first
          | (with_reducible apply heldm_v (n := 37) (m' := 402653183) 28
             · exact Nat.le_of_ble_eq_true (by kernel_rfl)
             · rfl
             · kernel_rfl
             · kernel_rfl
             · kernel_rfl
             · kernel_rfl
             · kernel_rfl
             · kernel_rfl
             · exact hQ
             · with_reducible exact hK
             · rfl
             apply Exists.intro
             refine ⟨fun w' hC => ?_, ?_⟩
             · have k0_ := hC (w1.heap.size) (by simp only [List.mem_cons, true_or, or_true])
               have k1_ := hC (b11) (by simp only [List.mem_cons, true_or, or_true])
               have k2_ := hC (b12) (by simp only [List.mem_cons, true_or, or_true])
               have k3_ := hC (b13) (by simp only [List.mem_cons, true_or, or_true])
               have k4_ := hC (b7) (by simp only [List.mem_cons, true_or, or_true])
               have k5_ := hC (b10) (by simp only [List.mem_cons, true_or, or_true])
               clear hC
               go_simp
               rfl)
          | (with_reducible apply heldm_s (n := 37) (m' := 402653183) 28
             · exact Nat.le_of_ble_eq_true (by kernel_rfl)
             · rfl
             · kernel_rfl
             · kernel_rfl
             · kernel_rfl
             · kernel_rfl
             · kernel_rfl
             · kernel_rfl
             · exact hQ
             · with_reducible exact hK
             · rfl)
        try simp only [Act.put, List.setIfInBounds_toArray, List.set_cons_zero, List.set_cons_succ, List.tail_cons]
        first
          | (with_reducible apply heldm_v (n := 36) (m' := 939524095) 29
             · exact Nat.le_of_ble_eq_true (by kernel_rfl)
             · rfl
             · kernel_rfl
             · kernel_rfl
             · kernel_rfl
             · kernel_rfl
             · kernel_rfl
             · kernel_rfl
             · exact hQ
             · with_reducible exact hK
             · rfl
             apply Exists.intro
             refine ⟨fun w' hC => ?_, ?_⟩
             · have k0_ := hC (w1.heap.size) (by simp only [List.mem_cons, true_or, or_true])
               have k1_ := hC (b11) (by simp only [List.mem_cons, true_or, or_true])
               have k2_ := hC (b12) (by simp only [List.mem_cons, true_or, or_true])
               have k3_ := hC (b13) (by simp only [List.mem_cons, true_or, or_true])
               have k4_ := hC (b7) (by simp only [List.mem_cons, true_or, or_true])
               have k5_ := hC (b10) (by simp only [List.mem_cons, true_or, or_true])
               clear hC
               go_simp
               rfl)
          | (with_reducible apply heldm_s (n := 36) (m' := 939524095) 29
             · exact Nat.le_of_ble_eq_true (by kernel_rfl)
             · rfl
             · kernel_rfl
             · kernel_rfl
             · kernel_rfl
             · kernel_rfl
             · kernel_rfl
             · kernel_rfl
             · exact hQ
             · with_reducible exact hK
             · rfl)
        try simp only [Act.put, List.setIfInBounds_toArray, List.set_cons_zero, List.set_cons_succ, List.tail_cons]
        first
          | (with_reducible apply heldm_v (n := 35) (m' := 2013265919) 30
             · exact Nat.le_of_ble_eq_true (by kernel_rfl)
             · rfl
             · kernel_rfl
             · kernel_rfl
             · kernel_rfl
             · kernel_rfl
             · kernel_rfl
             · kernel_rfl
             · exact hQ
             · with_reducible exact hK
             · rfl
             apply Exists.intro
             refine ⟨fun w' hC => ?_, ?_⟩
             · have k0_ := hC (w1.heap.size) (by simp only [List.mem_cons, true_or, or_true])
               have k1_ := hC (b11) (by simp only [List.mem_cons, true_or, or_true])
               have k2_ := hC (b12) (by simp only [List.mem_cons, true_or, or_true])
               have k3_ := hC (b13) (by simp only [List.mem_cons, true_or, or_true])
               have k4_ := hC (b7) (by simp only [List.mem_cons, true_or, or_true])
               have k5_ := hC (b10) (by simp only [List.mem_cons, true_or, or_true])
               clear hC
               go_simp
               rfl)
          | (with_reducible apply heldm_s (n := 35) (m' := 2013265919) 30
             · exact Nat.le_of_ble_eq_true (by kernel_rfl)
             · rfl
             · kernel_rfl
             · kernel_rfl
             · kernel_rfl
             · kernel_rfl
             · kernel_rfl
             · kernel_rfl
             · exact hQ
             · with_reducible exact hK
             · rfl)
        try simp only [Act.put, List.setIfInBounds_toArray, List.set_cons_zero, List.set_cons_succ, List.tail_cons]
        with_reducible apply heldm_call (n := 34) (m' := 2147483647) 27
        · exact Nat.le_of_ble_eq_true (by kernel_rfl)
        · rfl
        · kernel_rfl
        · kernel_rfl
        · kernel_rfl
        · kernel_rfl
        · kernel_rfl
        · rfl
        · with_reducible exact hK
        apply Exists.intro
        apply Exists.intro
        apply Exists.intro
        refine ⟨?_, ?_, ?_, ?_⟩
        · go_simp
          exact ⟨rfl, rfl⟩
        · exact hm1.out _
        · intro b hb
          simp only [List.mem_cons, List.not_mem_nil, or_false] at hb
          rcases hb with rfl | rfl | rfl | rfl | rfl | rfl <;> first | omega | (simp; done) | (simp; omega)
        intro v27 h27 hK
        obtain ⟨c27, f27, s27⟩ := bfacts h27
        try simp only [World.size_alloc, World.size_setCell, size_drew, size_drewN] at s27
        try simp only [Act.put, List.setIfInBounds_toArray, List.set_cons_zero, List.set_cons_succ, List.tail_cons]
        with_reducible apply heldm_call (n := 33) (m' := 4294967295) 31
        · exact Nat.le_of_ble_eq_true (by kernel_rfl)
        · rfl
        · kernel_rfl
        · kernel_rfl
        · kernel_rfl
        · kernel_rfl
        · kernel_rfl
        · rfl
        · with_reducible exact hK
        apply Exists.intro
        apply Exists.intro
        apply Exists.intro
        refine ⟨?_, ?_, ?_, ?_⟩
        · go_simp
          exact ⟨rfl, rfl⟩
        · exact hcm.out _
        · intro b hb
          simp only [List.mem_cons, List.not_mem_nil, or_false] at hb
          rcases hb with rfl | rfl | rfl | rfl | rfl | rfl <;> first | omega | (simp; done) | (simp; omega)
        intro v31 h31 hK
        obtain ⟨c31, f31, s31⟩ := bfacts h31
        try simp only [World.size_alloc, World.size_setCell, size_drew, size_drewN] at s31
        try simp only [Act.put, List.setIfInBounds_toArray, List.set_cons_zero, List.set_cons_succ, List.tail_cons]
        first
          | (with_reducible apply heldm_v (n := 32) (m' := 8589934591) 32
             · exact Nat.le_of_ble_eq_true (by kernel_rfl)
             · rfl
             · kernel_rfl
             · kernel_rfl
             · kernel_rfl
             · kernel_rfl
             · kernel_rfl
             · kernel_rfl
             · exact hQ
             · with_reducible exact hK
             · rfl
             apply Exists.intro
             refine ⟨fun w' hC => ?_, ?_⟩
             · have k0_ := hC (w1.heap.size) (by simp only [List.mem_cons, true_or, or_true])
               have k1_ := hC (b11) (by simp only [List.mem_cons, true_or, or_true])
               have k2_ := hC (b12) (by simp only [List.mem_cons, true_or, or_true])
               have k3_ := hC (b13) (by simp only [List.mem_cons, true_or, or_true])
               have k4_ := hC (b7) (by simp only [List.mem_cons, true_or, or_true])
               have k5_ := hC (b10) (by simp only [List.mem_cons, true_or, or_true])
               clear hC
               go_simp
               rfl)
          | (with_reducible apply heldm_s (n := 32) (m' := 8589934591) 32
             · exact Nat.le_of_ble_eq_true (by kernel_rfl)
             · rfl
             · kernel_rfl
             · kernel_rfl
             · kernel_rfl
             · kernel_rfl
             · kernel_rfl
             · kernel_rfl
             · exact hQ
             · with_reducible exact hK
             · rfl)
        try simp only [Act.put, List.setIfInBounds_toArray, List.set_cons_zero, List.set_cons_succ, List.tail_cons]
        with_reducible apply heldm_v (n := 31) (m' := 17179869183) 33
        · exact Nat.le_of_ble_eq_true (by kernel_rfl)
        · rfl
        · kernel_rfl
        · kernel_rfl
        · kernel_rfl
        · kernel_rfl
        · kernel_rfl
        · kernel_rfl
        · exact hQ
        · with_reducible exact hK
        · rfl
        apply Exists.intro
        refine ⟨fun w' hC => ?_, ?_⟩
        · have k0_ := hC (w1.heap.size) (by simp only [List.mem_cons, true_or, or_true])
          have k1_ := hC (b11) (by simp only [List.mem_cons, true_or, or_true])
          have k2_ := hC (b12) (by simp only [List.mem_cons, true_or, or_true])
          have k3_ := hC (b13) (by simp only [List.mem_cons, true_or, or_true])
          have k4_ := hC (b7) (by simp only [List.mem_cons, true_or, or_true])
          have k5_ := hC (b10) (by simp only [List.mem_cons, true_or, or_true])
          clear hC
          go_simp
          rfl
        try simp only [Act.put, List.setIfInBounds_toArray, List.set_cons_zero, List.set_cons_succ, List.tail_cons]
        with_reducible apply heldm_v (n := 30) (m' := 34359738367) 34
        · exact Nat.le_of_ble_eq_true (by kernel_rfl)
        · rfl
        · kernel_rfl
        · kernel_rfl
        · kernel_rfl
        · kernel_rfl
        · kernel_rfl
        · kernel_rfl
        · exact hQ
        · with_reducible exact hK
        · rfl
        apply Exists.intro
        refine ⟨fun w' hC => ?_, ?_⟩
        · have k0_ := hC (w1.heap.size) (by simp only [List.mem_cons, true_or, or_true])
          have k1_ := hC (b11) (by simp only [List.mem_cons, true_or, or_true])
          have k2_ := hC (b12) (by simp only [List.mem_cons, true_or, or_true])
          have k3_ := hC (b13) (by simp only [List.mem_cons, true_or, or_true])
          have k4_ := hC (b7) (by simp only [List.mem_cons, true_or, or_true])
          have k5_ := hC (b10) (by simp only [List.mem_cons, true_or, or_true])
          clear hC
          go_simp
          rfl
        try simp only [Act.put, List.setIfInBounds_toArray, List.set_cons_zero, List.set_cons_succ, List.tail_cons]
        first
          | (with_reducible apply heldm_v (n := 29) (m' := 68719476735) 35
             · exact Nat.le_of_ble_eq_true (by kernel_rfl)
             · rfl
             · kernel_rfl
             · kernel_rfl
             · kernel_rfl
             · kernel_rfl
             · kernel_rfl
             · kernel_rfl
             · exact hQ
             · with_reducible exact hK
             · rfl
             apply Exists.intro
             refine ⟨fun w' hC => ?_, ?_⟩
             · have k0_ := hC (w1.heap.size) (by simp only [List.mem_cons, true_or, or_true])
               have k1_ := hC (b11) (by simp only [List.mem_cons, true_or, or_true])
               have k2_ := hC (b12) (by simp only [List.mem_cons, true_or, or_true])
               have k3_ := hC (b13) (by simp only [List.mem_cons, true_or, or_true])
               have k4_ := hC (b7) (by simp only [List.mem_cons, true_or, or_true])
               have k5_ := hC (b10) (by simp only [List.mem_cons, true_or, or_true])
               clear hC
               go_simp
               rfl)
          | (with_reducible apply heldm_s (n := 29) (m' := 68719476735) 35
             · exact Nat.le_of_ble_eq_true (by kernel_rfl)
             · rfl
             · kernel_rfl
             · kernel_rfl
             · kernel_rfl
             · kernel_rfl
             · kernel_rfl
             · kernel_rfl
             · exact hQ
             · with_reducible exact hK
             · rfl)
        try simp only [Act.put, List.setIfInBounds_toArray, List.set_cons_zero, List.set_cons_succ, List.tail_cons]
        first
          | (with_reducible apply heldm_v (n := 28) (m' := 137438953471) 36
             · exact Nat.le_of_ble_eq_true (by kernel_rfl)
             · rfl
             · kernel_rfl
             · kernel_rfl
             · kernel_rfl
             · kernel_rfl
             · kernel_rfl
             · kernel_rfl
             · exact hQ
             · with_reducible exact hK
             · rfl
             apply Exists.intro
             refine ⟨fun w' hC => ?_, ?_⟩
             · have k0_ := hC (w1.heap.size) (by simp only [List.mem_cons, true_or, or_true])
               have k1_ := hC (b11) (by simp only [List.mem_cons, true_or, or_true])
               have k2_ := hC (b12) (by simp only [List.mem_cons, true_or, or_true])
               have k3_ := hC (b13) (by simp only [List.mem_cons, true_or, or_true])
               have k4_ := hC (b7) (by simp only [List.mem_cons, true_or, or_true])
               have k5_ := hC (b10) (by simp only [List.mem_cons, true_or, or_true])
               clear hC
               go_simp
               rfl)
          | (with_reducible apply heldm_s (n := 28) (m' := 137438953471) 36
             · exact Nat.le_of_ble_eq_true (by kernel_rfl)
             · rfl
             · kernel_rfl
             · kernel_rfl
             · kernel_rfl
             · kernel_rfl
             · kernel_rfl
             · kernel_rfl
             · exact hQ
             · with_reducible exact hK
             · rfl)
        try simp only [Act.put, List.setIfInBounds_toArray, List.set_cons_zero, List.set_cons_succ, List.tail_cons]
        first
          | (with_reducible apply heldm_v (n := 27) (m' := 274877906943) 37
             · exact Nat.le_of_ble_eq_true (by kernel_rfl)
             · rfl
             · kernel_rfl
             · kernel_rfl
             · kernel_rfl
             · kernel_rfl
             · kernel_rfl
             · kernel_rfl
             · exact hQ
             · with_reducible exact hK
             · rfl
             apply Exists.intro
             refine ⟨fun w' hC => ?_, ?_⟩
             · have k0_ := hC (w1.heap.size) (by simp only [List.mem_cons, true_or, or_true])
               have k1_ := hC (b11) (by simp only [List.mem_cons, true_or, or_true])
               have k2_ := hC (b12) (by simp only [List.mem_cons, true_or, or_true])
               have k3_ := hC (b13) (by simp only [List.mem_cons, true_or, or_true])
               have k4_ := hC (b7) (by simp only [List.mem_cons, true_or, or_true])
               have k5_ := hC (b10) (by simp only [List.mem_cons, true_or, or_true])
               clear hC
               go_simp
               rfl)
          | (with_reducible apply heldm_s (n := 27) (m' := 274877906943) 37
             · exact Nat.le_of_ble_eq_true (by kernel_rfl)
             · rfl
             · kernel_rfl
             · kernel_rfl
             · kernel_rfl
             · kernel_rfl
             · kernel_rfl
             · kernel_rfl
             · exact hQ
             · with_reducible exact hK
             · rfl)
        try simp only [Act.put, List.setIfInBounds_toArray, List.set_cons_zero, List.set_cons_succ, List.tail_cons]
        first
          | (with_reducible apply heldm_v (n := 26) (m' := 549755813887) 38
             · exact Nat.le_of_ble_eq_true (by kernel_rfl)
             · rfl
             · kernel_rfl
             · kernel_rfl
             · kernel_rfl
             · kernel_rfl
             · kernel_rfl
             · kernel_rfl
             · exact hQ
             · with_reducible exact hK
             · rfl
             apply Exists.intro
             refine ⟨fun w' hC => ?_, ?_⟩
             · have k0_ := hC (w1.heap.size) (by simp only [List.mem_cons, true_or, or_true])
               have k1_ := hC (b11) (by simp only [List.mem_cons, true_or, or_true])
               have k2_ := hC (b12) (by simp only [List.mem_cons, true_or, or_true])
               have k3_ := hC (b13) (by simp only [List.mem_cons, true_or, or_true])
               have k4_ := hC (b7) (by simp only [List.mem_cons, true_or, or_true])
               have k5_ := hC (b10) (by simp only [List.mem_cons, true_or, or_true])
               clear hC
               go_simp
               rfl)
          | (with_reducible apply heldm_s (n := 26) (m' := 549755813887) 38
             · exact Nat.le_of_ble_eq_true (by kernel_rfl)
             · rfl
             · kernel_rfl
             · kernel_rfl
             · kernel_rfl
             · kernel_rfl
             · kernel_rfl
             · kernel_rfl
             · exact hQ
             · with_reducible exact hK
             · rfl)
        try simp only [Act.put, List.setIfInBounds_toArray, List.set_cons_zero, List.set_cons_succ, List.tail_cons]
        first
          | (with_reducible apply heldm_v (n := 25) (m' := 1649267441663) 40
             · exact Nat.le_of_ble_eq_true (by kernel_rfl)
             · rfl
             · kernel_rfl
             · kernel_rfl
             · kernel_rfl
             · kernel_rfl
             · kernel_rfl
             · kernel_rfl
             · exact hQ
             · with_reducible exact hK
             · rfl
             apply Exists.intro
             refine ⟨fun w' hC => ?_, ?_⟩
             · have k0_ := hC (w1.heap.size) (by simp only [List.mem_cons, true_or, or_true])
               have k1_ := hC (b11) (by simp only [List.mem_cons, true_or, or_true])
               have k2_ := hC (b12) (by simp only [List.mem_cons, true_or, or_true])
               have k3_ := hC (b13) (by simp only [List.mem_cons, true_or, or_true])
               have k4_ := hC (b7) (by simp only [List.mem_cons, true_or, or_true])
               have k5_ := hC (b10) (by simp only [List.mem_cons, true_or, or_true])
               clear hC
               go_simp
               rfl)
          | (with_reducible apply heldm_s (n := 25) (m' := 1649267441663) 40
             · exact Nat.le_of_ble_eq_true (by kernel_rfl)
             · rfl
             · kernel_rfl
             · kernel_rfl
             · kernel_rfl
             · kernel_rfl
             · kernel_rfl
             · kernel_rfl
             · exact hQ
             · with_reducible exact hK
             · rfl)
        try simp only [Act.put, List.setIfInBounds_toArray, List.set_cons_zero, List.set_cons_succ, List.tail_cons]
        with_reducible apply heldm_call (n := 24) (m' := 2199023255551) 39
        · exact Nat.le_of_ble_eq_true (by kernel_rfl)
        · rfl
        · kernel_rfl
        · kernel_rfl
        · kernel_rfl
        · kernel_rfl
        · kernel_rfl
        · rfl
        · with_reducible exact hK
        apply Exists.intro
        apply Exists.intro
        apply Exists.intro
        refine ⟨?_, ?_, ?_, ?_⟩
        · go_simp
          exact ⟨rfl, rfl⟩
        · exact hon.out _
        · intro b hb
          simp only [List.mem_cons, List.not_mem_nil, or_false] at hb
          rcases hb with rfl | rfl | rfl | rfl | rfl | rfl <;> first | omega | (simp; done) | (simp; omega)
        intro v39 h39 hK
        obtain ⟨c39, f39, s39⟩ := bfacts h39
        try simp only [World.size_alloc, World.size_setCell, size_drew, size_drewN] at s39
        try simp only [Act.put, List.setIfInBounds_toArray, List.set_cons_zero, List.set_cons_succ, List.tail_cons]
        first
          | (with_reducible apply heldm_v (n := 23) (m' := 4398046511103) 41
             · exact Nat.le_of_ble_eq_true (by kernel_rfl)
             · rfl
             · kernel_rfl
             · kernel_rfl
             · kernel_rfl
             · kernel_rfl
             · kernel_rfl
             · kernel_rfl
             · exact hQ
             · with_reducible exact hK
             · rfl
             apply Exists.intro
             refine ⟨fun w' hC => ?_, ?_⟩
             · have k0_ := hC (w1.heap.size) (by simp only [List.mem_cons, true_or, or_true])
               have k1_ := hC (b11) (by simp only [List.mem_cons, true_or, or_true])
               have k2_ := hC (b12) (by simp only [List.mem_cons, true_or, or_true])
               have k3_ := hC (b13) (by simp only [List.mem_cons, true_or, or_true])
               have k4_ := hC (b7) (by simp only [List.mem_cons, true_or, or_true])
               have k5_ := hC (b10) (by simp only [List.mem_cons, true_or, or_true])
               clear hC
               go_simp
               rfl)
          | (with_reducible apply heldm_s (n := 23) (m' := 4398046511103) 41
             · exact Nat.le_of_ble_eq_true (by kernel_rfl)
             · rfl
             · kernel_rfl
             · kernel_rfl
             · kernel_rfl
             · kernel_rfl
             · kernel_rfl
             · kernel_rfl
             · exact hQ
             · with_reducible exact hK
             · rfl)
        try simp only [Act.put, List.setIfInBounds_toArray, List.set_cons_zero, List.set_cons_succ, List.tail_cons]
        with_reducible apply heldm_v (n := 22) (m' := 8796093022207) 42
        · exact Nat.le_of_ble_eq_true (by kernel_rfl)
        · rfl
        · kernel_rfl
        · kernel_rfl
        · kernel_rfl
        · kernel_rfl
        · kernel_rfl
        · kernel_rfl
        · exact hQ
        · with_reducible exact hK
        · rfl
        apply Exists.intro
        refine ⟨fun w' hC => ?_, ?_⟩
        · have k0_ := hC (w1.heap.size) (by simp only [List.mem_cons, true_or, or_true])
          have k1_ := hC (b11) (by simp only [List.mem_cons, true_or, or_true])
          have k2_ := hC (b12) (by simp only [List.mem_cons, true_or, or_true])
          have k3_ := hC (b13) (by simp only [List.mem_cons, true_or, or_true])
          have k4_ := hC (b7) (by simp only [List.mem_cons, true_or, or_true])
          have k5_ := hC (b10) (by simp only [List.mem_cons, true_or, or_true])
          clear hC
          go_simp
          rfl
        try simp only [Act.put, List.setIfInBounds_toArray, List.set_cons_zero, List.set_cons_succ, List.tail_cons]
        with_reducible apply heldm_v (n := 21) (m' := 17592186044415) 43
        · exact Nat.le_of_ble_eq_true (by kernel_rfl)
        · rfl
        · kernel_rfl
        · kernel_rfl
        · kernel_rfl
        · kernel_rfl
        · kernel_rfl
        · kernel_rfl
        · exact hQ
        · with_reducible exact hK
        · rfl
        apply Exists.intro
        refine ⟨fun w' hC => ?_, ?_⟩
        · have k0_ := hC (w1.heap.size) (by simp only [List.mem_cons, true_or, or_true])
          have k1_ := hC (b11) (by simp only [List.mem_cons, true_or, or_true])
          have k2_ := hC (b12) (by simp only [List.mem_cons, true_or, or_true])
          have k3_ := hC (b13) (by simp only [List.mem_cons, true_or, or_true])
          have k4_ := hC (b7) (by simp only [List.mem_cons, true_or, or_true])
          have k5_ := hC (b10) (by simp only [List.mem_cons, true_or, or_true])
          clear hC
          go_simp
          rfl
        try simp only [Act.put, List.setIfInBounds_toArray, List.set_cons_zero, List.set_cons_succ, List.tail_cons]
        first
          | (with_reducible apply heldm_v (n := 20) (m' := 35184372088831) 44
             · exact Nat.le_of_ble_eq_true (by kernel_rfl)
             · rfl
             · kernel_rfl
             · kernel_rfl
             · kernel_rfl
             · kernel_rfl
             · kernel_rfl
             · kernel_rfl
             · exact hQ
             · with_reducible exact hK
             · rfl
             apply Exists.intro
             refine ⟨fun w' hC => ?_, ?_⟩
             · have k0_ := hC (w1.heap.size) (by simp only [List.mem_cons, true_or, or_true])
               have k1_ := hC (b11) (by simp only [List.mem_cons, true_or, or_true])
               have k2_ := hC (b12) (by simp only [List.mem_cons, true_or, or_true])
               have k3_ := hC (b13) (by simp only [List.mem_cons, true_or, or_true])
               have k4_ := hC (b7) (by simp only [List.mem_cons, true_or, or_true])
               have k5_ := hC (b10) (by simp only [List.mem_cons, true_or, or_true])
               clear hC
               go_simp
               rfl)
          | (with_reducible apply heldm_s (n := 20) (m' := 35184372088831) 44
             · exact Nat.le_of_ble_eq_true (by kernel_rfl)
             · rfl
             · kernel_rfl
             · kernel_rfl
             · kernel_rfl
             · kernel_rfl
             · kernel_rfl
             · kernel_rfl
             · exact hQ
             · with_reducible exact hK
             · rfl)
        try simp only [Act.put, List.setIfInBounds_toArray, List.set_cons_zero, List.set_cons_succ, List.tail_cons]
        first
          | (with_reducible apply heldm_v (n := 19) (m' := 70368744177663) 45
             · exact Nat.le_of_ble_eq_true (by kernel_rfl)
             · rfl
             · kernel_rfl
             · kernel_rfl
             · kernel_rfl
             · kernel_rfl
             · kernel_rfl
             · kernel_rfl
             · exact hQ
             · with_reducible exact hK
             · rfl
             apply Exists.intro
             refine ⟨fun w' hC => ?_, ?_⟩
             · have k0_ := hC (w1.heap.size) (by simp only [List.mem_cons, true_or, or_true])
               have k1_ := hC (b11) (by simp only [List.mem_cons, true_or, or_true])
               have k2_ := hC (b12) (by simp only [List.mem_cons, true_or, or_true])
               have k3_ := hC (b13) (by simp only [List.mem_cons, true_or, or_true])
               have k4_ := hC (b7) (by simp only [List.mem_cons, true_or, or_true])
               have k5_ := hC (b10) (by simp only [List.mem_cons, true_or, or_true])
               clear hC
               go_simp
               rfl)
          | (with_reducible apply heldm_s (n := 19) (m' := 70368744177663) 45
             · exact Nat.le_of_ble_eq_true (by kernel_rfl)
             · rfl
             · kernel_rfl
             · kernel_rfl
             · kernel_rfl
             · kernel_rfl
             · kernel_rfl
             · kernel_rfl
             · exact hQ
             · with_reducible exact hK
             · rfl)
        try simp only [Act.put, List.setIfInBounds_toArray, List.set_cons_zero, List.set_cons_succ, List.tail_cons]
        first
          | (with_reducible apply heldm_v (n := 18) (m' := 140737488355327) 46
             · exact Nat.le_of_ble_eq_true (by kernel_rfl)
             · rfl
             · kernel_rfl
             · kernel_rfl
             · kernel_rfl
             · kernel_rfl
             · kernel_rfl
             · kernel_rfl
             · exact hQ
             · with_reducible exact hK
             · rfl
             apply Exists.intro
             refine ⟨fun w' hC => ?_, ?_⟩
             · have k0_ := hC (w1.heap.size) (by simp only [List.mem_cons, true_or, or_true])
               have k1_ := hC (b11) (by simp only [List.mem_cons, true_or, or_true])
               have k2_ := hC (b12) (by simp only [List.mem_cons, true_or, or_true])
               have k3_ := hC (b13) (by simp only [List.mem_cons, true_or, or_true])
               have k4_ := hC (b7) (by simp only [List.mem_cons, true_or, or_true])
               have k5_ := hC (b10) (by simp only [List.mem_cons, true_or, or_true])
               clear hC
               go_simp
               rfl)
          | (with_reducible apply heldm_s (n := 18) (m' := 140737488355327) 46
             · exact Nat.le_of_ble_eq_true (by kernel_rfl)
             · rfl
             · kernel_rfl
             · kernel_rfl
             · kernel_rfl
             · kernel_rfl
             · kernel_rfl
             · kernel_rfl
             · exact hQ
             · with_reducible exact hK
             · rfl)
        try simp only [Act.put, List.setIfInBounds_toArray, List.set_cons_zero, List.set_cons_succ, List.tail_cons]
        first
          | (with_reducible apply heldm_v (n := 17) (m' := 281474976710655) 47
             · exact Nat.le_of_ble_eq_true (by kernel_rfl)
             · rfl
             · kernel_rfl
             · kernel_rfl
             · kernel_rfl
             · kernel_rfl
             · kernel_rfl
             · kernel_rfl
             · exact hQ
             · with_reducible exact hK
             · rfl
             apply Exists.intro
             refine ⟨fun w' hC => ?_, ?_⟩
             · have k0_ := hC (w1.heap.size) (by simp only [List.mem_cons, true_or, or_true])
               have k1_ := hC (b11) (by simp only [List.mem_cons, true_or, or_true])
               have k2_ := hC (b12) (by simp only [List.mem_cons, true_or, or_true])
               have k3_ := hC (b13) (by simp only [List.mem_cons, true_or, or_true])
               have k4_ := hC (b7) (by simp only [List.mem_cons, true_or, or_true])
               have k5_ := hC (b10) (by simp only [List.mem_cons, true_or, or_true])
               clear hC
               go_simp
               rfl)
          | (with_reducible apply heldm_s (n := 17) (m' := 281474976710655) 47
             · exact Nat.le_of_ble_eq_true (by kernel_rfl)
             · rfl
             · kernel_rfl
             · kernel_rfl
             · kernel_rfl
             · kernel_rfl
             · kernel_rfl
             · kernel_rfl
             · exact hQ
             · with_reducible exact hK
             · rfl)
        try simp only [Act.put, List.setIfInBounds_toArray, List.set_cons_zero, List.set_cons_succ, List.tail_cons]
        first
          | (with_reducible apply heldm_v (n := 16) (m' := 844424930131967) 49
             · exact Nat.le_of_ble_eq_true (by kernel_rfl)
             · rfl
             · kernel_rfl
             · kernel_rfl
             · kernel_rfl
             · kernel_rfl
             · kernel_rfl
             · kernel_rfl
             · exact hQ
             · with_reducible exact hK
             · rfl
             apply Exists.intro
             refine ⟨fun w' hC => ?_, ?_⟩
             · have k0_ := hC (w1.heap.size) (by simp only [List.mem_cons, true_or, or_true])
               have k1_ := hC (b11) (by simp only [List.mem_cons, true_or, or_true])
               have k2_ := hC (b12) (by simp only [List.mem_cons, true_or, or_true])
               have k3_ := hC (b13) (by simp only [List.mem_cons, true_or, or_true])
               have k4_ := hC (b7) (by simp only [List.mem_cons, true_or, or_true])
               have k5_ := hC (b10) (by simp only [List.mem_cons, true_or, or_true])
               clear hC
               go_simp
               rfl)
          | (with_reducible apply heldm_s (n := 16) (m' := 844424930131967) 49
             · exact Nat.le_of_ble_eq_true (by kernel_rfl)
             · rfl
             · kernel_rfl
             · kernel_rfl
             · kernel_rfl
             · kernel_rfl
             · kernel_rfl
             · kernel_rfl
             · exact hQ
             · with_reducible exact hK
             · rfl)
        try simp only [Act.put, List.setIfInBounds_toArray, List.set_cons_zero, List.set_cons_succ, List.tail_cons]
        first
          | (with_reducible apply heldm_v (n := 15) (m' := 3096224743817215) 51
             · exact Nat.le_of_ble_eq_true (by kernel_rfl)
             · rfl
             · kernel_rfl
             · kernel_rfl
             · kernel_rfl
             · kernel_rfl
             · kernel_rfl
             · kernel_rfl
             · exact hQ
             · with_reducible exact hK
             · rfl
             apply Exists.intro
             refine ⟨fun w' hC => ?_, ?_⟩
             · have k0_ := hC (w1.heap.size) (by simp only [List.mem_cons, true_or, or_true])
               have k1_ := hC (b11) (by simp only [List.mem_cons, true_or, or_true])
               have k2_ := hC (b12) (by simp only [List.mem_cons, true_or, or_true])
               have k3_ := hC (b13) (by simp only [List.mem_cons, true_or, or_true])
               have k4_ := hC (b7) (by simp only [List.mem_cons, true_or, or_true])
               have k5_ := hC (b10) (by simp only [List.mem_cons, true_or, or_true])
               clear hC
               go_simp
               rfl)
          | (with_reducible apply heldm_s (n := 15) (m' := 3096224743817215) 51
             · exact Nat.le_of_ble_eq_true (by kernel_rfl)
             · rfl
             · kernel_rfl
             · kernel_rfl
             · kernel_rfl
             · kernel_rfl
             · kernel_rfl
             · kernel_rfl
             · exact hQ
             · with_reducible exact hK
             · rfl)
        try simp only [Act.put, List.setIfInBounds_toArray, List.set_cons_zero, List.set_cons_succ, List.tail_cons]
        with_reducible apply heldm_call (n := 14) (m' := 3377699720527871) 48
        · exact Nat.le_of_ble_eq_true (by kernel_rfl)
        · rfl
        · kernel_rfl
        · kernel_rfl
        · kernel_rfl
        · kernel_rfl
        · kernel_rfl
        · rfl
        · with_reducible exact hK
        apply Exists.intro
        apply Exists.intro
        apply Exists.intro
        refine ⟨?_, ?_, ?_, ?_⟩
        · go_simp
          exact ⟨rfl, rfl⟩
        · exact hd.out _
        · intro b hb
          simp only [List.mem_cons, List.not_mem_nil, or_false] at hb
          rcases hb with rfl | rfl | rfl | rfl | rfl | rfl <;> first | omega | (simp; done) | (simp; omega)
        intro v48 h48 hK
        obtain ⟨c48, f48, s48⟩ := bfacts h48
        try simp only [World.size_alloc, World.size_setCell, size_drew, size_drewN] at s48
        try simp only [Act.put, List.setIfInBounds_toArray, List.set_cons_zero, List.set_cons_succ, List.tail_cons]
        with_reducible apply heldm_call (n := 13) (m' := 4503599627370495) 50
        · exact Nat.le_of_ble_eq_true (by kernel_rfl)
        · rfl
        · kernel_rfl
        · kernel_rfl
        · kernel_rfl
        · kernel_rfl
        · kernel_rfl
        · rfl
        · with_reducible exact hK
        apply Exists.intro
        apply Exists.intro
        apply Exists.intro
        refine ⟨?_, ?_, ?_, ?_⟩
        · go_simp
          exact ⟨rfl, rfl⟩
        · exact hdu.out _
        · intro b hb
          simp only [List.mem_cons, List.not_mem_nil, or_false] at hb
          rcases hb with rfl | rfl | rfl | rfl | rfl | rfl <;> first | omega | (simp; done) | (simp; omega)
        intro v50 h50 hK
        obtain ⟨c50, f50, s50⟩ := bfacts h50
        try simp only [World.size_alloc, World.size_setCell, size_drew, size_drewN] at s50
        try simp only [Act.put, List.setIfInBounds_toArray, List.set_cons_zero, List.set_cons_succ, List.tail_cons]
        first
          | (with_reducible apply heldm_v (n := 12) (m' := 9007199254740991) 52
             · exact Nat.le_of_ble_eq_true (by kernel_rfl)
             · rfl
             · kernel_rfl
             · kernel_rfl
             · kernel_rfl
             · kernel_rfl
             · kernel_rfl
             · kernel_rfl
             · exact hQ
             · with_reducible exact hK
             · rfl
             apply Exists.intro
             refine ⟨fun w' hC => ?_, ?_⟩
             · have k0_ := hC (w1.heap.size) (by simp only [List.mem_cons, true_or, or_true])
               have k1_ := hC (b11) (by simp only [List.mem_cons, true_or, or_true])
               have k2_ := hC (b12) (by simp only [List.mem_cons, true_or, or_true])
               have k3_ := hC (b13) (by simp only [List.mem_cons, true_or, or_true])
               have k4_ := hC (b7) (by simp only [List.mem_cons, true_or, or_true])
               have k5_ := hC (b10) (by simp only [List.mem_cons, true_or, or_true])
               clear hC
               go_simp
               rfl)
          | (with_reducible apply heldm_s (n := 12) (m' := 9007199254740991) 52
             · exact Nat.le_of_ble_eq_true (by kernel_rfl)
             · rfl
             · kernel_rfl
             · kernel_rfl
             · kernel_rfl
             · kernel_rfl
             · kernel_rfl
             · kernel_rfl
             · exact hQ
             · with_reducible exact hK
             · rfl)
        try simp only [Act.put, List.setIfInBounds_toArray, List.set_cons_zero, List.set_cons_succ, List.tail_cons]
        with_reducible apply heldm_v (n := 11) (m' := 18014398509481983) 53
        · exact Nat.le_of_ble_eq_true (by kernel_rfl)
        · rfl
        · kernel_rfl
        · kernel_rfl
        · kernel_rfl
        · kernel_rfl
        · kernel_rfl
        · kernel_rfl
        · exact hQ
        · with_reducible exact hK
        · rfl
        apply Exists.intro
        refine ⟨fun w' hC => ?_, ?_⟩
        · have k0_ := hC (w1.heap.size) (by simp only [List.mem_cons, true_or, or_true])
          have k1_ := hC (b11) (by simp only [List.mem_cons, true_or, or_true])
          have k2_ := hC (b12) (by simp only [List.mem_cons, true_or, or_true])
          have k3_ := hC (b13) (by simp only [List.mem_cons, true_or, or_true])
          have k4_ := hC (b7) (by simp only [List.mem_cons, true_or, or_true])
          have k5_ := hC (b10) (by simp only [List.mem_cons, true_or, or_true])
          clear hC
          go_simp
          rfl
        try simp only [Act.put, List.setIfInBounds_toArray, List.set_cons_zero, List.set_cons_succ, List.tail_cons]
        with_reducible apply heldm_v (n := 10) (m' := 36028797018963967) 54
        · exact Nat.le_of_ble_eq_true (by kernel_rfl)
        · rfl
        · kernel_rfl
        · kernel_rfl
        · kernel_rfl
        · kernel_rfl
        · kernel_rfl
        · kernel_rfl
        · exact hQ
        · with_reducible exact hK
        · rfl
        apply Exists.intro
        refine ⟨fun w' hC => ?_, ?_⟩
        · have k0_ := hC (w1.heap.size) (by simp only [List.mem_cons, true_or, or_true])
          have k1_ := hC (b11) (by simp only [List.mem_cons, true_or, or_true])
          have k2_ := hC (b12) (by simp only [List.mem_cons, true_or, or_true])
          have k3_ := hC (b13) (by simp only [List.mem_cons, true_or, or_true])
          have k4_ := hC (b7) (by simp only [List.mem_cons, true_or, or_true])
          have k5_ := hC (b10) (by simp only [List.mem_cons, true_or, or_true])
          clear hC
          go_simp
          rfl
        try simp only [Act.put, List.setIfInBounds_toArray, List.set_cons_zero, List.set_cons_succ, List.tail_cons]
        first
          | (with_reducible apply heldm_v (n := 9) (m' := 72057594037927935) 55
             · exact Nat.le_of_ble_eq_true (by kernel_rfl)
             · rfl
             · kernel_rfl
             · kernel_rfl
             · kernel_rfl
             · kernel_rfl
             · kernel_rfl
             · kernel_rfl
             · exact hQ
             · with_reducible exact hK
             · rfl
             apply Exists.intro
             refine ⟨fun w' hC => ?_, ?_⟩
             · have k0_ := hC (w1.heap.size) (by simp only [List.mem_cons, true_or, or_true])
               have k1_ := hC (b11) (by simp only [List.mem_cons, true_or, or_true])
               have k2_ := hC (b12) (by simp only [List.mem_cons, true_or, or_true])
               have k3_ := hC (b13) (by simp only [List.mem_cons, true_or, or_true])
               have k4_ := hC (b7) (by simp only [List.mem_cons, true_or, or_true])
               have k5_ := hC (b10) (by simp only [List.mem_cons, true_or, or_true])
               clear hC
               go_simp
               rfl)
          | (with_reducible apply heldm_s (n := 9) (m' := 72057594037927935) 55
             · exact Nat.le_of_ble_eq_true (by kernel_rfl)
             · rfl
             · kernel_rfl
             · kernel_rfl
             · kernel_rfl
             · kernel_rfl
             · kernel_rfl
             · kernel_rfl
             · exact hQ
             · with_reducible exact hK
             · rfl)
        try simp only [Act.put, List.setIfInBounds_toArray, List.set_cons_zero, List.set_cons_succ, List.tail_cons]
        first
          | (with_reducible apply heldm_v (n := 8) (m' := 144115188075855871) 56
             · exact Nat.le_of_ble_eq_true (by kernel_rfl)
             · rfl
             · kernel_rfl
             · kernel_rfl
             · kernel_rfl
             · kernel_rfl
             · kernel_rfl
             · kernel_rfl
             · exact hQ
             · with_reducible exact hK
             · rfl
             apply Exists.intro
             refine ⟨fun w' hC => ?_, ?_⟩
             · have k0_ := hC (w1.heap.size) (by simp only [List.mem_cons, true_or, or_true])
               have k1_ := hC (b11) (by simp only [List.mem_cons, true_or, or_true])
               have k2_ := hC (b12) (by simp only [List.mem_cons, true_or, or_true])
               have k3_ := hC (b13) (by simp only [List.mem_cons, true_or, or_true])
               have k4_ := hC (b7) (by simp only [List.mem_cons, true_or, or_true])
               have k5_ := hC (b10) (by simp only [List.mem_cons, true_or, or_true])
               clear hC
               go_simp
               rfl)
          | (with_reducible apply heldm_s (n := 8) (m' := 144115188075855871) 56
             · exact Nat.le_of_ble_eq_true (by kernel_rfl)
             · rfl
             · kernel_rfl
             · kernel_rfl
             · kernel_rfl
             · kernel_rfl
             · kernel_rfl
             · kernel_rfl
             · exact hQ
             · with_reducible exact hK
             · rfl)
        try simp only [Act.put, List.setIfInBounds_toArray, List.set_cons_zero, List.set_cons_succ, List.tail_cons]
        first
          | (with_reducible apply heldm_v (n := 7) (m' := 288230376151711743) 57
             · exact Nat.le_of_ble_eq_true (by kernel_rfl)
             · rfl
             · kernel_rfl
             · kernel_rfl
             · kernel_rfl
             · kernel_rfl
             · kernel_rfl
             · kernel_rfl
             · exact hQ
             · with_reducible exact hK
             · rfl
             apply Exists.intro
             refine ⟨fun w' hC => ?_, ?_⟩
             · have k0_ := hC (w1.heap.size) (by simp only [List.mem_cons, true_or, or_true])
               have k1_ := hC (b11) (by simp only [List.mem_cons, true_or, or_true])
               have k2_ := hC (b12) (by simp only [List.mem_cons, true_or, or_true])
               have k3_ := hC (b13) (by simp only [List.mem_cons, true_or, or_true])
               have k4_ := hC (b7) (by simp only [List.mem_cons, true_or, or_true])
               have k5_ := hC (b10) (by simp only [List.mem_cons, true_or, or_true])
               clear hC
               go_simp
               rfl)
          | (with_reducible apply heldm_s (n := 7) (m' := 288230376151711743) 57
             · exact Nat.le_of_ble_eq_true (by kernel_rfl)
             · rfl
             · kernel_rfl
             · kernel_rfl
             · kernel_rfl
             · kernel_rfl
             · kernel_rfl
             · kernel_rfl
             · exact hQ
             · with_reducible exact hK
             · rfl)
        try simp only [Act.put, List.setIfInBounds_toArray, List.set_cons_zero, List.set_cons_succ, List.tail_cons]
        first
          | (with_reducible apply heldm_v (n := 6) (m' := 576460752303423487) 58
             · exact Nat.le_of_ble_eq_true (by kernel_rfl)
             · rfl
             · kernel_rfl
             · kernel_rfl
             · kernel_rfl
             · kernel_rfl
             · kernel_rfl
             · kernel_rfl
             · exact hQ
             · with_reducible exact hK
             · rfl
             apply Exists.intro
             refine ⟨fun w' hC => ?_, ?_⟩
             · have k0_ := hC (w1.heap.size) (by simp only [List.mem_cons, true_or, or_true])
               have k1_ := hC (b11) (by simp only [List.mem_cons, true_or, or_true])
               have k2_ := hC (b12) (by simp only [List.mem_cons, true_or, or_true])
               have k3_ := hC (b13) (by simp only [List.mem_cons, true_or, or_true])
               have k4_ := hC (b7) (by simp only [List.mem_cons, true_or, or_true])
               have k5_ := hC (b10) (by simp only [List.mem_cons, true_or, or_true])
               clear hC
               go_simp
               rfl)
          | (with_reducible apply heldm_s (n := 6) (m' := 576460752303423487) 58
             · exact Nat.le_of_ble_eq_true (by kernel_rfl)
             · rfl
             · kernel_rfl
             · kernel_rfl
             · kernel_rfl
             · kernel_rfl
             · kernel_rfl
             · kernel_rfl
             · exact hQ
             · with_reducible exact hK
             · rfl)
        try simp only [Act.put, List.setIfInBounds_toArray, List.set_cons_zero, List.set_cons_succ, List.tail_cons]
        first
          | (with_reducible apply heldm_v (n := 5) (m' := 2882303761517117439) 61
             · exact Nat.le_of_ble_eq_true (by kernel_rfl)
             · rfl
             · kernel_rfl
             · kernel_rfl
             · kernel_rfl
             · kernel_rfl
             · kernel_rfl
             · kernel_rfl
             · exact hQ
             · with_reducible exact hK
             · rfl
             apply Exists.intro
             refine ⟨fun w' hC => ?_, ?_⟩
             · have k0_ := hC (w1.heap.size) (by simp only [List.mem_cons, true_or, or_true])
               have k1_ := hC (b11) (by simp only [List.mem_cons, true_or, or_true])
               have k2_ := hC (b12) (by simp only [List.mem_cons, true_or, or_true])
               have k3_ := hC (b13) (by simp only [List.mem_cons, true_or, or_true])
               have k4_ := hC (b7) (by simp only [List.mem_cons, true_or, or_true])
               have k5_ := hC (b10) (by simp only [List.mem_cons, true_or, or_true])
               clear hC
               go_simp
               rfl)
          | (with_reducible apply heldm_s (n := 5) (m' := 2882303761517117439) 61
             · exact Nat.le_of_ble_eq_true (by kernel_rfl)
             · rfl
             · kernel_rfl
             · kernel_rfl
             · kernel_rfl
             · kernel_rfl
             · kernel_rfl
             · kernel_rfl
             · exact hQ
             · with_reducible exact hK
             · rfl)
        try simp only [Act.put, List.setIfInBounds_toArray, List.set_cons_zero, List.set_cons_succ, List.tail_cons]
        with_reducible apply heldm_call (n := 4) (m' := 3458764513820540927) 59
        · exact Nat.le_of_ble_eq_true (by kernel_rfl)
        · rfl
        · kernel_rfl
        · kernel_rfl
        · kernel_rfl
        · kernel_rfl
        · kernel_rfl
        · rfl
        · with_reducible exact hK
        apply Exists.intro
        apply Exists.intro
        apply Exists.intro
        refine ⟨?_, ?_, ?_, ?_⟩
        · go_simp
          exact ⟨rfl, rfl⟩
        · exact hng.out _
        · intro b hb
          simp only [List.mem_cons, List.not_mem_nil, or_false] at hb
          rcases hb with rfl | rfl | rfl | rfl | rfl | rfl <;> first | omega | (simp; done) | (simp; omega)
        intro v59 h59 hK
        obtain ⟨c59, f59, s59⟩ := bfacts h59
        try simp only [World.size_alloc, World.size_setCell, size_drew, size_drewN] at s59
        try simp only [Act.put, List.setIfInBounds_toArray, List.set_cons_zero, List.set_cons_succ, List.tail_cons]
        with_reducible apply heldm_call (n := 3) (m' := 4611686018427387903) 60
        · exact Nat.le_of_ble_eq_true (by kernel_rfl)
        · rfl
        · kernel_rfl
        · kernel_rfl
        · kernel_rfl
        · kernel_rfl
        · kernel_rfl
        · rfl
        · with_reducible exact hK
        apply Exists.intro
        apply Exists.intro
        apply Exists.intro
        refine ⟨?_, ?_, ?_, ?_⟩
        · go_simp
          exact ⟨rfl, rfl⟩
        · exact hun.out _
        · intro b hb
          simp only [List.mem_cons, List.not_mem_nil, or_false] at hb
          rcases hb with rfl | rfl | rfl | rfl | rfl | rfl <;> first | omega | (simp; done) | (simp; omega)
        intro v60 h60 hK
        obtain ⟨c60, f60, s60⟩ := bfacts h60
        try simp only [World.size_alloc, World.size_setCell, size_drew, size_drewN] at s60
        try simp only [Act.put, List.setIfInBounds_toArray, List.set_cons_zero, List.set_cons_succ, List.tail_cons]
        first
          | (with_reducible apply heldm_v (n := 2) (m' := 9223372036854775807) 62
             · exact Nat.le_of_ble_eq_true (by kernel_rfl)
             · rfl
             · kernel_rfl
             · kernel_rfl
             · kernel_rfl
             · kernel_rfl
             · kernel_rfl
             · kernel_rfl
             · exact hQ
             · with_reducible exact hK
             · rfl
             apply Exists.intro
             refine ⟨fun w' hC => ?_, ?_⟩
             · have k0_ := hC (w1.heap.size) (by simp only [List.mem_cons, true_or, or_true])
               have k1_ := hC (b11) (by simp only [List.mem_cons, true_or, or_true])
               have k2_ := hC (b12) (by simp only [List.mem_cons, true_or, or_true])
               have k3_ := hC (b13) (by simp only [List.mem_cons, true_or, or_true])
               have k4_ := hC (b7) (by simp only [List.mem_cons, true_or, or_true])
               have k5_ := hC (b10) (by simp only [List.mem_cons, true_or, or_true])
               clear hC
               go_simp
               rfl)
          | (with_reducible apply heldm_s (n := 2) (m' := 9223372036854775807) 62
             · exact Nat.le_of_ble_eq_true (by kernel_rfl)
             · rfl
             · kernel_rfl
             · kernel_rfl
             · kernel_rfl
             · kernel_rfl
             · kernel_rfl
             · kernel_rfl
             · exact hQ
             · with_reducible exact hK
             · rfl)
        try simp only [Act.put, List.setIfInBounds_toArray, List.set_cons_zero, List.set_cons_succ, List.tail_cons]
        with_reducible apply heldm_v (n := 1) (m' := 18446744073709551615) 63
        · exact Nat.le_of_ble_eq_true (by kernel_rfl)
        · rfl
        · kernel_rfl
        · kernel_rfl
        · kernel_rfl
        · kernel_rfl
        · kernel_rfl
        · kernel_rfl
        · exact hQ
        · with_reducible exact hK
        · rfl
        apply Exists.intro
        refine ⟨fun w' hC => ?_, ?_⟩
        · have k0_ := hC (w1.heap.size) (by simp only [List.mem_cons, true_or, or_true])
          have k1_ := hC (b11) (by simp only [List.mem_cons, true_or, or_true])
          have k2_ := hC (b12) (by simp only [List.mem_cons, true_or, or_true])
          have k3_ := hC (b13) (by simp only [List.mem_cons, true_or, or_true])
          have k4_ := hC (b7) (by simp only [List.mem_cons, true_or, or_true])
          have k5_ := hC (b10) (by simp only [List.mem_cons, true_or, or_true])
          clear hC
          go_simp
          rfl
        try simp only [Act.put, List.setIfInBounds_toArray, List.set_cons_zero, List.set_cons_succ, List.tail_cons]
        with_reducible apply heldm_v (n := 0) (m' := 36893488147419103231) 64
        · exact Nat.le_of_ble_eq_true (by kernel_rfl)
        · rfl
        · kernel_rfl
        · kernel_rfl
        · kernel_rfl
        · kernel_rfl
        · kernel_rfl
        · kernel_rfl
        · exact hQ
        · with_reducible exact hK
        · rfl
        apply Exists.intro
        refine ⟨fun w' hC => ?_, ?_⟩
        · have k0_ := hC (w1.heap.size) (by simp only [List.mem_cons, true_or, or_true])
          have k1_ := hC (b11) (by simp only [List.mem_cons, true_or, or_true])
          have k2_ := hC (b12) (by simp only [List.mem_cons, true_or, or_true])
          have k3_ := hC (b13) (by simp only [List.mem_cons, true_or, or_true])
          have k4_ := hC (b7) (by simp only [List.mem_cons, true_or, or_true])
          have k5_ := hC (b10) (by simp only [List.mem_cons, true_or, or_true])
          clear hC
          go_simp
          rfl
        try simp only [Act.put, List.setIfInBounds_toArray, List.set_cons_zero, List.set_cons_succ, List.tail_cons]
        refine heldm_end (Nat.le_of_ble_eq_true (by kernel_rfl)) (by kernel_rfl) ?_
        clear hK hQ
        go_wp2_with fail
        refine bodyPost_ret (v := .bool true) (by simp only [results, Tryd.results5]; go_simp) rfl ⟨rfl, ?_⟩
        repeat first
          | with_reducible exact Below.refl _ _
          | with_reducible refine Below.drew ?_
          | with_reducible refine below_dN ?_
          | with_reducible refine Below.alloc ?_ (by first | omega | (simp; done) | (simp; omega)) _
          | with_reducible refine Below.setCell ?_ (by first | omega | (simp; done) | (simp; omega)) _
          | with_reducible refine Below.trans ?_ (Below.mono (by assumption) (by first | omega | (simp; done) | (simp; omega)))

theorem montIsRing_c (s : Bool) (a b c : Nat) (ha : a < R4) (hb : b < R4) (hc : c < R4) (w : World) (hL : Laid w) :
    Calls Tryd.prog 5 #[.bool s, vec2 a b, vec c] w fun e w' => e = .returned (.bool true) ∧ Below w.heap.size w w' := by
  have Hx := red_lt s a
  have Hy := red_lt s b
  have Hz := red_lt s c
  have l := fun n => Nat.lt_trans (red_lt s n) (pr_lt s)
  obtain ⟨x, hx⟩ : ∃ x, x = mulm (pr s) 1 a := ⟨_, rfl⟩
  obtain ⟨y, hy⟩ : ∃ y, y = mulm (pr s) 1 b := ⟨_, rfl⟩
  obtain ⟨z, hz⟩ : ∃ z, z = mulm (pr s) 1 c := ⟨_, rfl⟩
  have lx := l a
  have ly := l b
  have lz := l c
  have hp := fun w hL => lawpair_c s a b ha hb w hL
  have hm := fun w => refMod_c (pr s) c (pr_lt s) (pr_gt1 s) hc w
  rw [← hx] at Hx lx hp
  rw [← hy] at Hy ly hp
  rw [← hz] at Hz lz hm
  clear hx hy hz l
  refine ring_walk s a b c x y z (RR s x) (RR s y) (RR s z) (RR s (addm (pr s) y z)) (RR s (mulm (pr s) x (addm (pr s) y z))) (RR s (mulm (pr s) x y)) (RR s (mulm (pr s) x z)) (RR s (mulm (pr s) y z)) (RR s (mulm (pr s) (mulm (pr s) x y) z))
    (RR s (subm (pr s) x y)) (RR s (subm (pr s) 0 x)) w (Lib.hid hL) (Lib.hid hp) (Lib.hid (lawformR_c s x lx)) (Lib.hid (lawformR_c s y ly)) (Lib.hid hm) (Lib.hid (lawformR_c s z lz)) (Lib.hid (addR_c s y z)) (Lib.hid (mulR_c s x _)) (Lib.hid (mulR_c s x y)) (Lib.hid (mulR_c s x z)) (Lib.hid fun w => ?_)
    (Lib.hid (mulR_c s _ z)) (Lib.hid (mulR_c s y z)) (Lib.hid fun w => ?_) (Lib.hid fun w => ?_) (Lib.hid (oneR_c s x Hx)) (Lib.hid (subR_c s x y Hx Hy)) (Lib.hid fun w => ?_) (Lib.hid (negR_c s x Hx)) (Lib.hid fun w => ?_)
  · have h := addR_c s (mulm (pr s) x y) (mulm (pr s) x z) w
    rwa [mulm_addm] at h
  · have h := mulR_c s x (mulm (pr s) y z) w
    rwa [mulm_assoc] at h
  · have h := mulR_c s y x w
    rwa [mulm_comm] at h
  · have h := addR_c s (subm (pr s) x y) y w
    rwa [add_subm Hx Hy] at h
  · have h := addR_c s x (subm (pr s) 0 x) w
    rwa [add_neg Hx, RR_zero, v0] at h
end Go.Proofs.YtpebojiijgkadaaDoor
