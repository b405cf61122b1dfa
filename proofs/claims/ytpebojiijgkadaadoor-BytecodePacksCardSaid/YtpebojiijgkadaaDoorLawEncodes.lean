/- The walks of law 7's BytecodeEncodes and BytecodeDecodes. -/
import Derived.Test.YtpebojiijgkadaaDoorSevenD
namespace Go.Proofs.YtpebojiijgkadaaDoor
set_option linter.all false
open Go Go.RowKit

theorem refEncode_r (v : Nat) (w : World) :
    Calls Tryd.prog 42 #[vec v] w fun e w' => (∃ r, e = .returned r ∧ EncR w.heap.size v r w') ∧ Below w.heap.size w w' := by
  refine (refEncode_at v w).mono ?_
  rintro e w' ⟨⟨g, c, rfl, h⟩, hb⟩
  exact ⟨⟨_, rfl, g, c, rfl, h⟩, hb⟩

set_option maxRecDepth 100000 in
set_option maxHeartbeats 8000000 in
theorem encodes_walk (s : Bool) (a v x : Nat) (w : World) (HL : Hid (Laid w))
    (hm : Hid (∀ w, Calls Tryd.prog 25 #[vec (pr s), vec a] w fun e w' => e = .returned (vec v) ∧ Below w.heap.size w w'))
    (hf : Hid (∀ w, Calls Tryd.prog 37 #[vec (pr s), vec v] w fun e w' => e = .returned (vec x) ∧ Below w.heap.size w w'))
    (hen : Hid (∀ w, Calls Tryd.prog 39 #[fieldV s, vec x] w fun e w' => (∃ r, e = .returned r ∧ EncR w.heap.size v r w') ∧ Below w.heap.size w w'))
    (hd : Hid (∀ g c w, BytesAt w g 0 32 (byt v) → Calls Tryd.prog 40 #[fieldV s, .slice (some ⟨g, 0, none⟩) 32 c] w fun e w' => e = .returned (.tuple #[vec x, .int .i64 0]) ∧ Below w.heap.size w w')) :
    Calls Tryd.prog 11 #[.bool s, vec a] w fun e w' => e = .returned (.bool true) ∧ Below w.heap.size w w' := by
  go_enter Tryd.func11, Tryd.ntmps11
  go_wp2_with fail
  refine Calls.mono (get7_c s _ (HL.out.step (by repeat first | with_reducible exact Below.refl _ _ | with_reducible refine Below.drew ?_ | with_reducible refine below_dN ?_ | with_reducible refine Below.alloc ?_ (by first | omega | (simp; done) | (simp; omega)) _ | with_reducible refine Below.setCell ?_ (by first | omega | (simp; done) | (simp; omega)) _ | with_reducible refine Below.trans ?_ (Below.mono (by assumption) (by first | omega | (simp; done) | (simp; omega)))))) ?_
  rintro _ w1 ⟨rfl, h1⟩
  obtain ⟨c1, f1, s1⟩ := bfacts h1
  try simp only [World.size_alloc, World.size_setCell, size_drew, size_drewN] at s1
  have l_w_w1_0 : w.heap.size < w1.heap.size := by omega
  have lp_w_w1_0 : w.heap.size < w1.heap.size := by omega
  have lp_w_w1_1 : w.heap.size < w1.heap.size + 1 := by omega
  have lp_w_w1_2 : w.heap.size < w1.heap.size + 1 + 1 := by omega
  have lp_w_w1_3 : w.heap.size < w1.heap.size + 1 + 1 + 1 := by omega
  go_wp2_with fail
  refine Calls.mono (hm.out _) ?_
  rintro _ w2 ⟨rfl, h2⟩
  obtain ⟨c2, f2, s2⟩ := bfacts h2
  try simp only [World.size_alloc, World.size_setCell, size_drew, size_drewN] at s2
  have l_w1_w2_0 : w1.heap.size < w2.heap.size := by omega
  have l_w1_w2_1 : w1.heap.size + 1 < w2.heap.size := by omega
  go_wp2_with fail
  refine held_begin 6 [w1.heap.size, w1.heap.size + 1, w2.heap.size] (by kernel_rfl) rfl (by intro _ _ d _ _ h; cases d <;> exact h) ?_
  intro hQ hK
  with_reducible apply held_v (n := 5) 0
  · rfl
  · kernel_rfl
  · kernel_rfl
  · kernel_rfl
  · exact hQ
  · with_reducible exact hK
  · rfl
  apply Exists.intro
  refine ⟨fun w' hC => ?_, ?_⟩
  · have k0_ := hC (w1.heap.size) (by simp only [List.mem_cons, true_or, or_true])
    have k1_ := hC (w1.heap.size + 1) (by simp only [List.mem_cons, true_or, or_true])
    have k2_ := hC (w2.heap.size) (by simp only [List.mem_cons, true_or, or_true])
    clear hC
    go_simp
    rfl
  try simp only [Act.put, List.setIfInBounds_toArray, List.set_cons_zero, List.set_cons_succ, List.tail_cons]
  with_reducible apply held_v (n := 4) 1
  · rfl
  · kernel_rfl
  · kernel_rfl
  · kernel_rfl
  · exact hQ
  · with_reducible exact hK
  · rfl
  apply Exists.intro
  refine ⟨fun w' hC => ?_, ?_⟩
  · have k0_ := hC (w1.heap.size) (by simp only [List.mem_cons, true_or, or_true])
    have k1_ := hC (w1.heap.size + 1) (by simp only [List.mem_cons, true_or, or_true])
    have k2_ := hC (w2.heap.size) (by simp only [List.mem_cons, true_or, or_true])
    clear hC
    go_simp
    rfl
  try simp only [Act.put, List.setIfInBounds_toArray, List.set_cons_zero, List.set_cons_succ, List.tail_cons]
  with_reducible apply held_v (n := 3) 2
  · rfl
  · kernel_rfl
  · kernel_rfl
  · kernel_rfl
  · exact hQ
  · with_reducible exact hK
  · rfl
  apply Exists.intro
  refine ⟨fun w' hC => ?_, ?_⟩
  · have k0_ := hC (w1.heap.size) (by simp only [List.mem_cons, true_or, or_true])
    have k1_ := hC (w1.heap.size + 1) (by simp only [List.mem_cons, true_or, or_true])
    have k2_ := hC (w2.heap.size) (by simp only [List.mem_cons, true_or, or_true])
    clear hC
    go_simp
    rfl
  try simp only [Act.put, List.setIfInBounds_toArray, List.set_cons_zero, List.set_cons_succ, List.tail_cons]
  with_reducible apply held_call (n := 2) 3
  · rfl
  · kernel_rfl
  · rfl
  · with_reducible exact hK
  apply Exists.intro
  apply Exists.intro
  apply Exists.intro
  refine ⟨?_, ?_, ?_, ?_⟩
  · go_simp
    exact ⟨rfl, rfl⟩
  · exact hf.out _
  · intro b hb
    simp only [List.mem_cons, List.not_mem_nil, or_false] at hb
    rcases hb with rfl | rfl | rfl <;> first | omega | (simp; done) | (simp; omega)
  intro v3 h3 hK
  obtain ⟨c3, f3, s3⟩ := bfacts h3
  try simp only [World.size_alloc, World.size_setCell, size_drew, size_drewN] at s3
  have l_w1_v3_0 : w1.heap.size < v3.heap.size := by omega
  have l_w1_v3_1 : w1.heap.size + 1 < v3.heap.size := by omega
  have l_w2_v3_0 : w2.heap.size < v3.heap.size := by omega
  try simp only [Act.put, List.setIfInBounds_toArray, List.set_cons_zero, List.set_cons_succ, List.tail_cons]
  with_reducible apply held_callx (n := 1) 4
  · rfl
  · kernel_rfl
  · rfl
  · with_reducible exact hK
  apply Exists.intro
  apply Exists.intro
  apply Exists.intro
  refine ⟨?_, ?_, ?_, ?_⟩
  · go_simp
    exact ⟨rfl, rfl⟩
  · exact hen.out _
  · intro b hb
    simp only [List.mem_cons, List.not_mem_nil, or_false] at hb
    rcases hb with rfl | rfl | rfl <;> first | omega | (simp; done) | (simp; omega)
  rintro r4 v4 ⟨g, c, rfl, hg, hc, hB⟩ h4 hK
  obtain ⟨c4, f4, s4⟩ := bfacts h4
  try simp only [World.size_alloc, World.size_setCell, size_drew, size_drewN] at s4
  have l_w1_v4_0 : w1.heap.size < v4.heap.size := by omega
  have l_w1_v4_1 : w1.heap.size + 1 < v4.heap.size := by omega
  have l_w2_v4_0 : w2.heap.size < v4.heap.size := by omega
  try simp only [Act.put, List.setIfInBounds_toArray, List.set_cons_zero, List.set_cons_succ, List.tail_cons]
  with_reducible apply held_v (n := 0) 5
  · rfl
  · kernel_rfl
  · kernel_rfl
  · kernel_rfl
  · exact hQ
  · with_reducible exact hK
  · rfl
  apply Exists.intro
  refine ⟨fun w' hC => ?_, ?_⟩
  · have k0_ := hC (w1.heap.size) (by simp only [List.mem_cons, true_or, or_true])
    have k1_ := hC (w1.heap.size + 1) (by simp only [List.mem_cons, true_or, or_true])
    have k2_ := hC (w2.heap.size) (by simp only [List.mem_cons, true_or, or_true])
    clear hC
    go_simp
    rfl
  try simp only [Act.put, List.setIfInBounds_toArray, List.set_cons_zero, List.set_cons_succ, List.tail_cons]
  refine held_end (by kernel_rfl) ?_
  clear hK hQ
  have HB := Lib.hid hB
  have hgb : g < v4.heap.size := hB.blk
  clear hB hg hc
  go_wp2_with fail
  refine Calls.mono (hd.out _ _ _ (HB.out.below (by repeat first | with_reducible exact Below.refl _ _ | with_reducible refine Below.drew ?_ | with_reducible refine below_dN ?_ | with_reducible refine Below.alloc ?_ (by first | omega | (simp; done) | (simp; omega)) _ | with_reducible refine Below.setCell ?_ (by first | omega | (simp; done) | (simp; omega)) _ | with_reducible refine Below.trans ?_ (Below.mono (by assumption) (by first | omega | (simp; done) | (simp; omega)))))) ?_
  rintro _ w5 ⟨rfl, h5⟩
  obtain ⟨c5, f5, s5⟩ := bfacts h5
  try simp only [World.size_alloc, World.size_setCell, size_drew, size_drewN] at s5
  have l_w1_w5_0 : w1.heap.size < w5.heap.size := by omega
  have l_w1_w5_1 : w1.heap.size + 1 < w5.heap.size := by omega
  have l_w2_w5_0 : w2.heap.size < w5.heap.size := by omega
  have lb_w5_g : g < w5.heap.size := by omega
  go_wp2_with fail
  refine held_begin 19 [w1.heap.size + 1, w2.heap.size, w5.heap.size] (by kernel_rfl) rfl (by intro _ _ d _ _ h; cases d <;> exact h) ?_
  intro hQ hK
  with_reducible apply held_call (n := 18) 0
  · rfl
  · kernel_rfl
  · rfl
  · with_reducible exact hK
  apply Exists.intro
  apply Exists.intro
  apply Exists.intro
  refine ⟨?_, ?_, ?_, ?_⟩
  · go_simp
    exact ⟨rfl, rfl⟩
  · exact alive7_c _ (HL.out.step (by repeat first | with_reducible exact Below.refl _ _ | with_reducible refine Below.drew ?_ | with_reducible refine below_dN ?_ | with_reducible refine Below.alloc ?_ (by first | omega | (simp; done) | (simp; omega)) _ | with_reducible refine Below.setCell ?_ (by first | omega | (simp; done) | (simp; omega)) _ | with_reducible refine Below.trans ?_ (Below.mono (by assumption) (by first | omega | (simp; done) | (simp; omega)))))
  · intro b hb
    simp only [List.mem_cons, List.not_mem_nil, or_false] at hb
    rcases hb with rfl | rfl | rfl <;> first | omega | (simp; done) | (simp; omega)
  intro v0 h0 hK
  obtain ⟨c0, f0, s0⟩ := bfacts h0
  try simp only [World.size_alloc, World.size_setCell, size_drew, size_drewN] at s0
  have l_w1_v0_0 : w1.heap.size < v0.heap.size := by omega
  have l_w1_v0_1 : w1.heap.size + 1 < v0.heap.size := by omega
  have l_w2_v0_0 : w2.heap.size < v0.heap.size := by omega
  have l_w5_v0_0 : w5.heap.size < v0.heap.size := by omega
  try simp only [Act.put, List.setIfInBounds_toArray, List.set_cons_zero, List.set_cons_succ, List.tail_cons]
  with_reducible apply held_v (n := 17) 1
  · rfl
  · kernel_rfl
  · kernel_rfl
  · kernel_rfl
  · exact hQ
  · with_reducible exact hK
  · rfl
  apply Exists.intro
  refine ⟨fun w' hC => ?_, ?_⟩
  · have k0_ := hC (w1.heap.size + 1) (by simp only [List.mem_cons, true_or, or_true])
    have k1_ := hC (w2.heap.size) (by simp only [List.mem_cons, true_or, or_true])
    have k2_ := hC (w5.heap.size) (by simp only [List.mem_cons, true_or, or_true])
    clear hC
    go_simp
    rfl
  try simp only [Act.put, List.setIfInBounds_toArray, List.set_cons_zero, List.set_cons_succ, List.tail_cons]
  first
    | (with_reducible apply held_v (n := 16) 2
       · rfl
       · kernel_rfl
       · kernel_rfl
       · kernel_rfl
       · exact hQ
       · with_reducible exact hK
       · rfl
       apply Exists.intro
       refine ⟨fun w' hC => ?_, ?_⟩
       · have k0_ := hC (w1.heap.size + 1) (by simp only [List.mem_cons, true_or, or_true])
         have k1_ := hC (w2.heap.size) (by simp only [List.mem_cons, true_or, or_true])
         have k2_ := hC (w5.heap.size) (by simp only [List.mem_cons, true_or, or_true])
         clear hC
         go_simp
         rfl)
    | (with_reducible apply held_s (n := 16) 2
       · rfl
       · kernel_rfl
       · kernel_rfl
       · kernel_rfl
       · exact hQ
       · with_reducible exact hK
       · rfl)
  try simp only [Act.put, List.setIfInBounds_toArray, List.set_cons_zero, List.set_cons_succ, List.tail_cons]
  first
    | (with_reducible apply held_v (n := 15) 3
       · rfl
       · kernel_rfl
       · kernel_rfl
       · kernel_rfl
       · exact hQ
       · with_reducible exact hK
       · rfl
       apply Exists.intro
       refine ⟨fun w' hC => ?_, ?_⟩
       · have k0_ := hC (w1.heap.size + 1) (by simp only [List.mem_cons, true_or, or_true])
         have k1_ := hC (w2.heap.size) (by simp only [List.mem_cons, true_or, or_true])
         have k2_ := hC (w5.heap.size) (by simp only [List.mem_cons, true_or, or_true])
         clear hC
         go_simp
         rfl)
    | (with_reducible apply held_s (n := 15) 3
       · rfl
       · kernel_rfl
       · kernel_rfl
       · kernel_rfl
       · exact hQ
       · with_reducible exact hK
       · rfl)
  try simp only [Act.put, List.setIfInBounds_toArray, List.set_cons_zero, List.set_cons_succ, List.tail_cons]
  with_reducible apply held_callx (n := 14) 4
  · rfl
  · kernel_rfl
  · rfl
  · with_reducible exact hK
  apply Exists.intro
  apply Exists.intro
  apply Exists.intro
  refine ⟨?_, ?_, ?_, ?_⟩
  · go_simp
    exact ⟨rfl, rfl⟩
  · exact refEncode_r v _
  · intro b hb
    simp only [List.mem_cons, List.not_mem_nil, or_false] at hb
    rcases hb with rfl | rfl | rfl <;> first | omega | (simp; done) | (simp; omega)
  rintro r4 v4 ⟨g2, c2, rfl, hg2, hc2, hB2⟩ h4 hK
  obtain ⟨c4, f4, s4⟩ := bfacts h4
  try simp only [World.size_alloc, World.size_setCell, size_drew, size_drewN] at s4
  have l_w1_v4_0 : w1.heap.size < v4.heap.size := by omega
  have l_w1_v4_1 : w1.heap.size + 1 < v4.heap.size := by omega
  have l_w2_v4_0 : w2.heap.size < v4.heap.size := by omega
  have l_w5_v4_0 : w5.heap.size < v4.heap.size := by omega
  try simp only [Act.put, List.setIfInBounds_toArray, List.set_cons_zero, List.set_cons_succ, List.tail_cons]
  with_reducible apply held_call (n := 13) 5
  · rfl
  · kernel_rfl
  · rfl
  · with_reducible exact hK
  apply Exists.intro
  apply Exists.intro
  apply Exists.intro
  refine ⟨?_, ?_, ?_, ?_⟩
  · go_simp
    exact ⟨rfl, rfl⟩
  · exact bytesEq_c _ (some ⟨g, 0, none⟩) (some ⟨g2, 0, none⟩) 32 c c2 (byt v) (byt v) (HB.out.below (by repeat first | with_reducible exact Below.refl _ _ | with_reducible refine Below.drew ?_ | with_reducible refine below_dN ?_ | with_reducible refine Below.alloc ?_ (by first | omega | (simp; done) | (simp; omega)) _ | with_reducible refine Below.setCell ?_ (by first | omega | (simp; done) | (simp; omega)) _ | with_reducible refine Below.trans ?_ (Below.mono (by assumption) (by first | omega | (simp; done) | (simp; omega))))).slice hB2.slice (fun _ _ => rfl)
  · intro b hb
    simp only [List.mem_cons, List.not_mem_nil, or_false] at hb
    rcases hb with rfl | rfl | rfl <;> first | omega | (simp; done) | (simp; omega)
  intro v5 h5 hK
  obtain ⟨c5, f5, s5⟩ := bfacts h5
  try simp only [World.size_alloc, World.size_setCell, size_drew, size_drewN] at s5
  have l_w1_v5_0 : w1.heap.size < v5.heap.size := by omega
  have l_w1_v5_1 : w1.heap.size + 1 < v5.heap.size := by omega
  have l_w2_v5_0 : w2.heap.size < v5.heap.size := by omega
  have l_w5_v5_0 : w5.heap.size < v5.heap.size := by omega
  try simp only [Act.put, List.setIfInBounds_toArray, List.set_cons_zero, List.set_cons_succ, List.tail_cons]
  with_reducible apply held_v (n := 12) 6
  · rfl
  · kernel_rfl
  · kernel_rfl
  · kernel_rfl
  · exact hQ
  · with_reducible exact hK
  · rfl
  apply Exists.intro
  refine ⟨fun w' hC => ?_, ?_⟩
  · have k0_ := hC (w1.heap.size + 1) (by simp only [List.mem_cons, true_or, or_true])
    have k1_ := hC (w2.heap.size) (by simp only [List.mem_cons, true_or, or_true])
    have k2_ := hC (w5.heap.size) (by simp only [List.mem_cons, true_or, or_true])
    clear hC
    go_simp
    rfl
  try simp only [Act.put, List.setIfInBounds_toArray, List.set_cons_zero, List.set_cons_succ, List.tail_cons]
  with_reducible apply held_v (n := 11) 7
  · rfl
  · kernel_rfl
  · kernel_rfl
  · kernel_rfl
  · exact hQ
  · with_reducible exact hK
  · rfl
  apply Exists.intro
  refine ⟨fun w' hC => ?_, ?_⟩
  · have k0_ := hC (w1.heap.size + 1) (by simp only [List.mem_cons, true_or, or_true])
    have k1_ := hC (w2.heap.size) (by simp only [List.mem_cons, true_or, or_true])
    have k2_ := hC (w5.heap.size) (by simp only [List.mem_cons, true_or, or_true])
    clear hC
    go_simp
    rfl
  try simp only [Act.put, List.setIfInBounds_toArray, List.set_cons_zero, List.set_cons_succ, List.tail_cons]
  first
    | (with_reducible apply held_v (n := 10) 8
       · rfl
       · kernel_rfl
       · kernel_rfl
       · kernel_rfl
       · exact hQ
       · with_reducible exact hK
       · rfl
       apply Exists.intro
       refine ⟨fun w' hC => ?_, ?_⟩
       · have k0_ := hC (w1.heap.size + 1) (by simp only [List.mem_cons, true_or, or_true])
         have k1_ := hC (w2.heap.size) (by simp only [List.mem_cons, true_or, or_true])
         have k2_ := hC (w5.heap.size) (by simp only [List.mem_cons, true_or, or_true])
         clear hC
         go_simp
         rfl)
    | (with_reducible apply held_s (n := 10) 8
       · rfl
       · kernel_rfl
       · kernel_rfl
       · kernel_rfl
       · exact hQ
       · with_reducible exact hK
       · rfl)
  try simp only [Act.put, List.setIfInBounds_toArray, List.set_cons_zero, List.set_cons_succ, List.tail_cons]
  first
    | (with_reducible apply held_v (n := 9) 9
       · rfl
       · kernel_rfl
       · kernel_rfl
       · kernel_rfl
       · exact hQ
       · with_reducible exact hK
       · rfl
       apply Exists.intro
       refine ⟨fun w' hC => ?_, ?_⟩
       · have k0_ := hC (w1.heap.size + 1) (by simp only [List.mem_cons, true_or, or_true])
         have k1_ := hC (w2.heap.size) (by simp only [List.mem_cons, true_or, or_true])
         have k2_ := hC (w5.heap.size) (by simp only [List.mem_cons, true_or, or_true])
         clear hC
         go_simp
         rfl)
    | (with_reducible apply held_s (n := 9) 9
       · rfl
       · kernel_rfl
       · kernel_rfl
       · kernel_rfl
       · exact hQ
       · with_reducible exact hK
       · rfl)
  try simp only [Act.put, List.setIfInBounds_toArray, List.set_cons_zero, List.set_cons_succ, List.tail_cons]
  first
    | (with_reducible apply held_v (n := 8) 10
       · rfl
       · kernel_rfl
       · kernel_rfl
       · kernel_rfl
       · exact hQ
       · with_reducible exact hK
       · rfl
       apply Exists.intro
       refine ⟨fun w' hC => ?_, ?_⟩
       · have k0_ := hC (w1.heap.size + 1) (by simp only [List.mem_cons, true_or, or_true])
         have k1_ := hC (w2.heap.size) (by simp only [List.mem_cons, true_or, or_true])
         have k2_ := hC (w5.heap.size) (by simp only [List.mem_cons, true_or, or_true])
         clear hC
         go_simp
         rfl)
    | (with_reducible apply held_s (n := 8) 10
       · rfl
       · kernel_rfl
       · kernel_rfl
       · kernel_rfl
       · exact hQ
       · with_reducible exact hK
       · rfl)
  try simp only [Act.put, List.setIfInBounds_toArray, List.set_cons_zero, List.set_cons_succ, List.tail_cons]
  with_reducible apply held_call (n := 7) 11
  · rfl
  · kernel_rfl
  · rfl
  · with_reducible exact hK
  apply Exists.intro
  apply Exists.intro
  apply Exists.intro
  refine ⟨?_, ?_, ?_, ?_⟩
  · go_simp
    exact ⟨rfl, rfl⟩
  · exact hf.out _
  · intro b hb
    simp only [List.mem_cons, List.not_mem_nil, or_false] at hb
    rcases hb with rfl | rfl | rfl <;> first | omega | (simp; done) | (simp; omega)
  intro v11 h11 hK
  obtain ⟨c11, f11, s11⟩ := bfacts h11
  try simp only [World.size_alloc, World.size_setCell, size_drew, size_drewN] at s11
  try simp only [Act.put, List.setIfInBounds_toArray, List.set_cons_zero, List.set_cons_succ, List.tail_cons]
  first
    | (with_reducible apply held_v (n := 6) 12
       · rfl
       · kernel_rfl
       · kernel_rfl
       · kernel_rfl
       · exact hQ
       · with_reducible exact hK
       · rfl
       apply Exists.intro
       refine ⟨fun w' hC => ?_, ?_⟩
       · have k0_ := hC (w1.heap.size + 1) (by simp only [List.mem_cons, true_or, or_true])
         have k1_ := hC (w2.heap.size) (by simp only [List.mem_cons, true_or, or_true])
         have k2_ := hC (w5.heap.size) (by simp only [List.mem_cons, true_or, or_true])
         clear hC
         go_simp
         rfl)
    | (with_reducible apply held_s (n := 6) 12
       · rfl
       · kernel_rfl
       · kernel_rfl
       · kernel_rfl
       · exact hQ
       · with_reducible exact hK
       · rfl)
  try simp only [Act.put, List.setIfInBounds_toArray, List.set_cons_zero, List.set_cons_succ, List.tail_cons]
  with_reducible apply held_v (n := 5) 13
  · rfl
  · kernel_rfl
  · kernel_rfl
  · kernel_rfl
  · exact hQ
  · with_reducible exact hK
  · rfl
  apply Exists.intro
  refine ⟨fun w' hC => ?_, ?_⟩
  · have k0_ := hC (w1.heap.size + 1) (by simp only [List.mem_cons, true_or, or_true])
    have k1_ := hC (w2.heap.size) (by simp only [List.mem_cons, true_or, or_true])
    have k2_ := hC (w5.heap.size) (by simp only [List.mem_cons, true_or, or_true])
    clear hC
    go_simp
    rfl
  try simp only [Act.put, List.setIfInBounds_toArray, List.set_cons_zero, List.set_cons_succ, List.tail_cons]
  with_reducible apply held_v (n := 4) 14
  · rfl
  · kernel_rfl
  · kernel_rfl
  · kernel_rfl
  · exact hQ
  · with_reducible exact hK
  · rfl
  apply Exists.intro
  refine ⟨fun w' hC => ?_, ?_⟩
  · have k0_ := hC (w1.heap.size + 1) (by simp only [List.mem_cons, true_or, or_true])
    have k1_ := hC (w2.heap.size) (by simp only [List.mem_cons, true_or, or_true])
    have k2_ := hC (w5.heap.size) (by simp only [List.mem_cons, true_or, or_true])
    clear hC
    go_simp
    rfl
  try simp only [Act.put, List.setIfInBounds_toArray, List.set_cons_zero, List.set_cons_succ, List.tail_cons]
  first
    | (with_reducible apply held_v (n := 3) 15
       · rfl
       · kernel_rfl
       · kernel_rfl
       · kernel_rfl
       · exact hQ
       · with_reducible exact hK
       · rfl
       apply Exists.intro
       refine ⟨fun w' hC => ?_, ?_⟩
       · have k0_ := hC (w1.heap.size + 1) (by simp only [List.mem_cons, true_or, or_true])
         have k1_ := hC (w2.heap.size) (by simp only [List.mem_cons, true_or, or_true])
         have k2_ := hC (w5.heap.size) (by simp only [List.mem_cons, true_or, or_true])
         clear hC
         go_simp
         rfl)
    | (with_reducible apply held_s (n := 3) 15
       · rfl
       · kernel_rfl
       · kernel_rfl
       · kernel_rfl
       · exact hQ
       · with_reducible exact hK
       · rfl)
  try simp only [Act.put, List.setIfInBounds_toArray, List.set_cons_zero, List.set_cons_succ, List.tail_cons]
  first
    | (with_reducible apply held_v (n := 2) 16
       · rfl
       · kernel_rfl
       · kernel_rfl
       · kernel_rfl
       · exact hQ
       · with_reducible exact hK
       · rfl
       apply Exists.intro
       refine ⟨fun w' hC => ?_, ?_⟩
       · have k0_ := hC (w1.heap.size + 1) (by simp only [List.mem_cons, true_or, or_true])
         have k1_ := hC (w2.heap.size) (by simp only [List.mem_cons, true_or, or_true])
         have k2_ := hC (w5.heap.size) (by simp only [List.mem_cons, true_or, or_true])
         clear hC
         go_simp
         rfl)
    | (with_reducible apply held_s (n := 2) 16
       · rfl
       · kernel_rfl
       · kernel_rfl
       · kernel_rfl
       · exact hQ
       · with_reducible exact hK
       · rfl)
  try simp only [Act.put, List.setIfInBounds_toArray, List.set_cons_zero, List.set_cons_succ, List.tail_cons]
  with_reducible apply held_v (n := 1) 17
  · rfl
  · kernel_rfl
  · kernel_rfl
  · kernel_rfl
  · exact hQ
  · with_reducible exact hK
  · rfl
  apply Exists.intro
  refine ⟨fun w' hC => ?_, ?_⟩
  · have k0_ := hC (w1.heap.size + 1) (by simp only [List.mem_cons, true_or, or_true])
    have k1_ := hC (w2.heap.size) (by simp only [List.mem_cons, true_or, or_true])
    have k2_ := hC (w5.heap.size) (by simp only [List.mem_cons, true_or, or_true])
    clear hC
    go_simp
    rfl
  try simp only [Act.put, List.setIfInBounds_toArray, List.set_cons_zero, List.set_cons_succ, List.tail_cons]
  with_reducible apply held_v (n := 0) 18
  · rfl
  · kernel_rfl
  · kernel_rfl
  · kernel_rfl
  · exact hQ
  · with_reducible exact hK
  · rfl
  apply Exists.intro
  refine ⟨fun w' hC => ?_, ?_⟩
  · have k0_ := hC (w1.heap.size + 1) (by simp only [List.mem_cons, true_or, or_true])
    have k1_ := hC (w2.heap.size) (by simp only [List.mem_cons, true_or, or_true])
    have k2_ := hC (w5.heap.size) (by simp only [List.mem_cons, true_or, or_true])
    clear hC
    go_simp
    rfl
  try simp only [Act.put, List.setIfInBounds_toArray, List.set_cons_zero, List.set_cons_succ, List.tail_cons]
  refine held_end (by kernel_rfl) ?_
  clear hK hQ
  go_wp2_with fail
  refine bodyPost_ret (v := .bool true) (by simp only [results, Tryd.results11]; go_simp) rfl ⟨rfl, ?_⟩
  repeat first
    | with_reducible exact Below.refl _ _
    | with_reducible refine Below.drew ?_
    | with_reducible refine below_dN ?_
    | with_reducible refine Below.alloc ?_ (by first | omega | (simp; done) | (simp; omega)) _
    | with_reducible refine Below.setCell ?_ (by first | omega | (simp; done) | (simp; omega)) _
    | with_reducible refine Below.trans ?_ (Below.mono (by assumption) (by first | omega | (simp; done) | (simp; omega)))

theorem le_byt32 {v : Nat} (h : v < R4) : le (byt v) 32 = v := by
  rw [le_byt, show (256 : Nat) ^ 32 = R4 by decide]
  exact Nat.mod_eq_of_lt h

theorem bytecodeEncodes_c (s : Bool) (a : Nat) (ha : a < R4) (w : World) (hL : Laid w) :
    Calls Tryd.prog 11 #[.bool s, vec a] w fun e w' => e = .returned (.bool true) ∧ Below w.heap.size w w' := by
  have hv := red_lt s a
  have hm := refMod_c (pr s) a (pr_lt s) (pr_gt1 s) ha
  obtain ⟨v, e⟩ : ∃ v, v = mulm (pr s) 1 a := ⟨_, rfl⟩
  rw [← e] at hv hm
  clear e
  have hv4 := Nat.lt_trans hv (pr_lt s)
  refine encodes_walk s a v (RR s v) w (Lib.hid hL) (Lib.hid hm) (Lib.hid (form7_c s v hv4)) (Lib.hid (encode_r s v hv)) (Lib.hid fun g c w hB => ?_)
  have h := decode_ok s g 0 c (byt v) w hB (by rw [le_byt32 hv4]; exact hv)
  rwa [le_byt32 hv4] at h

set_option maxRecDepth 100000 in
set_option maxHeartbeats 8000000 in
theorem decodes_big (s : Bool) (a : Option Addr) (n c : Nat) (hn : 500 < n) (w : World) (HL : Hid (Laid w)) :
    Calls Tryd.prog 12 #[.bool s, .slice a n c] w fun e w' => e = .returned (.bool true) ∧ Below w.heap.size w w' := by
  have hn2 : (500 : Int) < (n : Int) := by omega
  clear hn
  go_enter Tryd.func12, Tryd.ntmps12
  go_wp2_with fail
  refine Calls.mono (alive7_c _ (HL.out.step (by repeat first | with_reducible exact Below.refl _ _ | with_reducible refine Below.drew ?_ | with_reducible refine below_dN ?_ | with_reducible refine Below.alloc ?_ (by first | omega | (simp; done) | (simp; omega)) _ | with_reducible refine Below.setCell ?_ (by first | omega | (simp; done) | (simp; omega)) _ | with_reducible refine Below.trans ?_ (Below.mono (by assumption) (by first | omega | (simp; done) | (simp; omega)))))) ?_
  rintro _ w1 ⟨rfl, h1⟩
  obtain ⟨c1, f1, s1⟩ := bfacts h1
  try simp only [World.size_alloc, World.size_setCell, size_drew, size_drewN] at s1
  go_wp2_with fail
  refine bodyPost_ret (v := .bool true) (by simp only [results, Tryd.results12]; go_simp) rfl ⟨rfl, ?_⟩
  repeat first
    | with_reducible exact Below.refl _ _
    | with_reducible refine Below.drew ?_
    | with_reducible refine below_dN ?_
    | with_reducible refine Below.alloc ?_ (by first | omega | (simp; done) | (simp; omega)) _
    | with_reducible refine Below.setCell ?_ (by first | omega | (simp; done) | (simp; omega)) _
    | with_reducible refine Below.trans ?_ (Below.mono (by assumption) (by first | omega | (simp; done) | (simp; omega)))

set_option maxRecDepth 100000 in
set_option maxHeartbeats 8000000 in
theorem decodes_bad (s : Bool) (a : Option Addr) (n c : Nat) (g : Nat) (hg : (g = 8 ∨ g = 9)) (hn : n ≤ 500) (w : World) (HL : Hid (Laid w))
    (hq1 : Hid (∀ w', Below w.heap.size w w' → Calls Tryd.prog 40 #[fieldV s, .slice a n c] w' fun e w'' => e = .returned (.tuple #[.agg #[.int .u64 0, .int .u64 0, .int .u64 0, .int .u64 0], .int .i64 (g : Int)]) ∧ Below w'.heap.size w' w''))
    (hq2 : Hid (∀ w', Below w.heap.size w w' → Calls Tryd.prog 43 #[vec (pr s), .slice a n c] w' fun e w'' => e = .returned (.tuple #[.agg #[.int .u64 0, .int .u64 0, .int .u64 0, .int .u64 0], .int .i64 (g : Int)]) ∧ Below w'.heap.size w' w'')) :
    Calls Tryd.prog 12 #[.bool s, .slice a n c] w fun e w' => e = .returned (.bool true) ∧ Below w.heap.size w w' := by
  have hn2 : ¬ (500 : Int) < (n : Int) := by omega
  have hg0 : (((g : Nat) : Int) != 0) = true := by rw [bne_iff_ne]; omega
  clear hn hg
  go_enter Tryd.func12, Tryd.ntmps12
  go_wp2_with fail
  refine Calls.mono (get7_c s _ (HL.out.step (by repeat first | with_reducible exact Below.refl _ _ | with_reducible refine Below.drew ?_ | with_reducible refine below_dN ?_ | with_reducible refine Below.alloc ?_ (by first | omega | (simp; done) | (simp; omega)) _ | with_reducible refine Below.setCell ?_ (by first | omega | (simp; done) | (simp; omega)) _ | with_reducible refine Below.trans ?_ (Below.mono (by assumption) (by first | omega | (simp; done) | (simp; omega)))))) ?_
  rintro _ w1 ⟨rfl, h1⟩
  obtain ⟨c1, f1, s1⟩ := bfacts h1
  try simp only [World.size_alloc, World.size_setCell, size_drew, size_drewN] at s1
  go_wp2_with fail
  refine Calls.mono (hq1.out _ (by repeat first | with_reducible exact Below.refl _ _ | with_reducible refine Below.drew ?_ | with_reducible refine below_dN ?_ | with_reducible refine Below.alloc ?_ (by first | omega | (simp; done) | (simp; omega)) _ | with_reducible refine Below.setCell ?_ (by first | omega | (simp; done) | (simp; omega)) _ | with_reducible refine Below.trans ?_ (Below.mono (by assumption) (by first | omega | (simp; done) | (simp; omega))))) ?_
  rintro _ w2 ⟨rfl, h2⟩
  obtain ⟨c2, f2, s2⟩ := bfacts h2
  try simp only [World.size_alloc, World.size_setCell, size_drew, size_drewN] at s2
  have l_w1_w2_0 : w1.heap.size < w2.heap.size := by omega
  have l_w1_w2_1 : w1.heap.size + 1 < w2.heap.size := by omega
  go_wp2_with fail
  refine Calls.mono (hq2.out _ (by repeat first | with_reducible exact Below.refl _ _ | with_reducible refine Below.drew ?_ | with_reducible refine below_dN ?_ | with_reducible refine Below.alloc ?_ (by first | omega | (simp; done) | (simp; omega)) _ | with_reducible refine Below.setCell ?_ (by first | omega | (simp; done) | (simp; omega)) _ | with_reducible refine Below.trans ?_ (Below.mono (by assumption) (by first | omega | (simp; done) | (simp; omega))))) ?_
  rintro _ w3 ⟨rfl, h3⟩
  obtain ⟨c3, f3, s3⟩ := bfacts h3
  try simp only [World.size_alloc, World.size_setCell, size_drew, size_drewN] at s3
  have l_w1_w3_0 : w1.heap.size < w3.heap.size := by omega
  have l_w1_w3_1 : w1.heap.size + 1 < w3.heap.size := by omega
  have l_w2_w3_0 : w2.heap.size < w3.heap.size := by omega
  go_wp2_with fail
  refine Calls.mono (alive7_c _ (HL.out.step (by repeat first | with_reducible exact Below.refl _ _ | with_reducible refine Below.drew ?_ | with_reducible refine below_dN ?_ | with_reducible refine Below.alloc ?_ (by first | omega | (simp; done) | (simp; omega)) _ | with_reducible refine Below.setCell ?_ (by first | omega | (simp; done) | (simp; omega)) _ | with_reducible refine Below.trans ?_ (Below.mono (by assumption) (by first | omega | (simp; done) | (simp; omega)))))) ?_
  rintro _ w4 ⟨rfl, h4⟩
  obtain ⟨c4, f4, s4⟩ := bfacts h4
  try simp only [World.size_alloc, World.size_setCell, size_drew, size_drewN] at s4
  have l_w2_w4_0 : w2.heap.size < w4.heap.size := by omega
  have l_w3_w4_0 : w3.heap.size < w4.heap.size := by omega
  go_wp2_with fail
  refine bodyPost_ret (v := .bool true) (by simp only [results, Tryd.results12]; go_simp) rfl ⟨rfl, ?_⟩
  repeat first
    | with_reducible exact Below.refl _ _
    | with_reducible refine Below.drew ?_
    | with_reducible refine below_dN ?_
    | with_reducible refine Below.alloc ?_ (by first | omega | (simp; done) | (simp; omega)) _
    | with_reducible refine Below.setCell ?_ (by first | omega | (simp; done) | (simp; omega)) _
    | with_reducible refine Below.trans ?_ (Below.mono (by assumption) (by first | omega | (simp; done) | (simp; omega)))

set_option maxRecDepth 100000 in
set_option maxHeartbeats 8000000 in
theorem decodes_ok (s : Bool) (b off c x v : Nat) (f : Nat → Nat) (w : World) (HL : Hid (Laid w)) (HB : Hid (BytesAt w b off 32 f)) (hfv : Hid (∀ j, j < 32 → byt v j = f j))
    (hq1 : Hid (∀ w', Below w.heap.size w w' → Calls Tryd.prog 40 #[fieldV s, .slice (some ⟨b, off, none⟩) 32 c] w' fun e w'' => e = .returned (.tuple #[vec x, .int .i64 0]) ∧ Below w'.heap.size w' w''))
    (hq2 : Hid (∀ w', Below w.heap.size w w' → Calls Tryd.prog 43 #[vec (pr s), .slice (some ⟨b, off, none⟩) 32 c] w' fun e w'' => e = .returned (.tuple #[vec v, .int .i64 0]) ∧ Below w'.heap.size w' w''))
    (hf : Hid (∀ w, Calls Tryd.prog 37 #[vec (pr s), vec v] w fun e w' => e = .returned (vec x) ∧ Below w.heap.size w w'))
    (hen : Hid (∀ w, Calls Tryd.prog 39 #[fieldV s, vec x] w fun e w' => (∃ r, e = .returned r ∧ EncR w.heap.size v r w') ∧ Below w.heap.size w w')) :
    Calls Tryd.prog 12 #[.bool s, .slice (some ⟨b, off, none⟩) 32 c] w fun e w' => e = .returned (.bool true) ∧ Below w.heap.size w w' := by
  go_enter Tryd.func12, Tryd.ntmps12
  go_wp2_with fail
  refine Calls.mono (get7_c s _ (HL.out.step (by repeat first | with_reducible exact Below.refl _ _ | with_reducible refine Below.drew ?_ | with_reducible refine below_dN ?_ | with_reducible refine Below.alloc ?_ (by first | omega | (simp; done) | (simp; omega)) _ | with_reducible refine Below.setCell ?_ (by first | omega | (simp; done) | (simp; omega)) _ | with_reducible refine Below.trans ?_ (Below.mono (by assumption) (by first | omega | (simp; done) | (simp; omega)))))) ?_
  rintro _ w1 ⟨rfl, h1⟩
  obtain ⟨c1, f1, s1⟩ := bfacts h1
  try simp only [World.size_alloc, World.size_setCell, size_drew, size_drewN] at s1
  go_wp2_with fail
  refine Calls.mono (hq1.out _ (by repeat first | with_reducible exact Below.refl _ _ | with_reducible refine Below.drew ?_ | with_reducible refine below_dN ?_ | with_reducible refine Below.alloc ?_ (by first | omega | (simp; done) | (simp; omega)) _ | with_reducible refine Below.setCell ?_ (by first | omega | (simp; done) | (simp; omega)) _ | with_reducible refine Below.trans ?_ (Below.mono (by assumption) (by first | omega | (simp; done) | (simp; omega))))) ?_
  rintro _ w2 ⟨rfl, h2⟩
  obtain ⟨c2, f2, s2⟩ := bfacts h2
  try simp only [World.size_alloc, World.size_setCell, size_drew, size_drewN] at s2
  have l_w1_w2_0 : w1.heap.size < w2.heap.size := by omega
  have l_w1_w2_1 : w1.heap.size + 1 < w2.heap.size := by omega
  go_wp2_with fail
  refine Calls.mono (hq2.out _ (by repeat first | with_reducible exact Below.refl _ _ | with_reducible refine Below.drew ?_ | with_reducible refine below_dN ?_ | with_reducible refine Below.alloc ?_ (by first | omega | (simp; done) | (simp; omega)) _ | with_reducible refine Below.setCell ?_ (by first | omega | (simp; done) | (simp; omega)) _ | with_reducible refine Below.trans ?_ (Below.mono (by assumption) (by first | omega | (simp; done) | (simp; omega))))) ?_
  rintro _ w3 ⟨rfl, h3⟩
  obtain ⟨c3, f3, s3⟩ := bfacts h3
  try simp only [World.size_alloc, World.size_setCell, size_drew, size_drewN] at s3
  have l_w1_w3_0 : w1.heap.size < w3.heap.size := by omega
  have l_w1_w3_1 : w1.heap.size + 1 < w3.heap.size := by omega
  have l_w2_w3_0 : w2.heap.size < w3.heap.size := by omega
  go_wp2_with fail
  refine held_begin 20 [w1.heap.size, w1.heap.size + 1, w2.heap.size, w3.heap.size] (by kernel_rfl) rfl (by intro _ _ d _ _ h; cases d <;> exact h) ?_
  intro hQ hK
  with_reducible apply held_call (n := 19) 0
  · rfl
  · kernel_rfl
  · rfl
  · with_reducible exact hK
  apply Exists.intro
  apply Exists.intro
  apply Exists.intro
  refine ⟨?_, ?_, ?_, ?_⟩
  · go_simp
    exact ⟨rfl, rfl⟩
  · exact alive7_c _ (HL.out.step (by repeat first | with_reducible exact Below.refl _ _ | with_reducible refine Below.drew ?_ | with_reducible refine below_dN ?_ | with_reducible refine Below.alloc ?_ (by first | omega | (simp; done) | (simp; omega)) _ | with_reducible refine Below.setCell ?_ (by first | omega | (simp; done) | (simp; omega)) _ | with_reducible refine Below.trans ?_ (Below.mono (by assumption) (by first | omega | (simp; done) | (simp; omega)))))
  · intro b hb
    simp only [List.mem_cons, List.not_mem_nil, or_false] at hb
    rcases hb with rfl | rfl | rfl | rfl <;> first | omega | (simp; done) | (simp; omega)
  intro v0 h0 hK
  obtain ⟨c0, f0, s0⟩ := bfacts h0
  try simp only [World.size_alloc, World.size_setCell, size_drew, size_drewN] at s0
  have l_w1_v0_0 : w1.heap.size < v0.heap.size := by omega
  have l_w1_v0_1 : w1.heap.size + 1 < v0.heap.size := by omega
  have l_w2_v0_0 : w2.heap.size < v0.heap.size := by omega
  have l_w3_v0_0 : w3.heap.size < v0.heap.size := by omega
  try simp only [Act.put, List.setIfInBounds_toArray, List.set_cons_zero, List.set_cons_succ, List.tail_cons]
  with_reducible apply held_v (n := 18) 1
  · rfl
  · kernel_rfl
  · kernel_rfl
  · kernel_rfl
  · exact hQ
  · with_reducible exact hK
  · rfl
  apply Exists.intro
  refine ⟨fun w' hC => ?_, ?_⟩
  · have k0_ := hC (w1.heap.size) (by simp only [List.mem_cons, true_or, or_true])
    have k1_ := hC (w1.heap.size + 1) (by simp only [List.mem_cons, true_or, or_true])
    have k2_ := hC (w2.heap.size) (by simp only [List.mem_cons, true_or, or_true])
    have k3_ := hC (w3.heap.size) (by simp only [List.mem_cons, true_or, or_true])
    clear hC
    go_simp
    rfl
  try simp only [Act.put, List.setIfInBounds_toArray, List.set_cons_zero, List.set_cons_succ, List.tail_cons]
  first
    | (with_reducible apply held_v (n := 17) 2
       · rfl
       · kernel_rfl
       · kernel_rfl
       · kernel_rfl
       · exact hQ
       · with_reducible exact hK
       · rfl
       apply Exists.intro
       refine ⟨fun w' hC => ?_, ?_⟩
       · have k0_ := hC (w1.heap.size) (by simp only [List.mem_cons, true_or, or_true])
         have k1_ := hC (w1.heap.size + 1) (by simp only [List.mem_cons, true_or, or_true])
         have k2_ := hC (w2.heap.size) (by simp only [List.mem_cons, true_or, or_true])
         have k3_ := hC (w3.heap.size) (by simp only [List.mem_cons, true_or, or_true])
         clear hC
         go_simp
         rfl)
    | (with_reducible apply held_s (n := 17) 2
       · rfl
       · kernel_rfl
       · kernel_rfl
       · kernel_rfl
       · exact hQ
       · with_reducible exact hK
       · rfl)
  try simp only [Act.put, List.setIfInBounds_toArray, List.set_cons_zero, List.set_cons_succ, List.tail_cons]
  first
    | (with_reducible apply held_v (n := 16) 3
       · rfl
       · kernel_rfl
       · kernel_rfl
       · kernel_rfl
       · exact hQ
       · with_reducible exact hK
       · rfl
       apply Exists.intro
       refine ⟨fun w' hC => ?_, ?_⟩
       · have k0_ := hC (w1.heap.size) (by simp only [List.mem_cons, true_or, or_true])
         have k1_ := hC (w1.heap.size + 1) (by simp only [List.mem_cons, true_or, or_true])
         have k2_ := hC (w2.heap.size) (by simp only [List.mem_cons, true_or, or_true])
         have k3_ := hC (w3.heap.size) (by simp only [List.mem_cons, true_or, or_true])
         clear hC
         go_simp
         rfl)
    | (with_reducible apply held_s (n := 16) 3
       · rfl
       · kernel_rfl
       · kernel_rfl
       · kernel_rfl
       · exact hQ
       · with_reducible exact hK
       · rfl)
  try simp only [Act.put, List.setIfInBounds_toArray, List.set_cons_zero, List.set_cons_succ, List.tail_cons]
  first
    | (with_reducible apply held_v (n := 15) 4
       · rfl
       · kernel_rfl
       · kernel_rfl
       · kernel_rfl
       · exact hQ
       · with_reducible exact hK
       · rfl
       apply Exists.intro
       refine ⟨fun w' hC => ?_, ?_⟩
       · have k0_ := hC (w1.heap.size) (by simp only [List.mem_cons, true_or, or_true])
         have k1_ := hC (w1.heap.size + 1) (by simp only [List.mem_cons, true_or, or_true])
         have k2_ := hC (w2.heap.size) (by simp only [List.mem_cons, true_or, or_true])
         have k3_ := hC (w3.heap.size) (by simp only [List.mem_cons, true_or, or_true])
         clear hC
         go_simp
         rfl)
    | (with_reducible apply held_s (n := 15) 4
       · rfl
       · kernel_rfl
       · kernel_rfl
       · kernel_rfl
       · exact hQ
       · with_reducible exact hK
       · rfl)
  try simp only [Act.put, List.setIfInBounds_toArray, List.set_cons_zero, List.set_cons_succ, List.tail_cons]
  with_reducible apply held_call (n := 14) 5
  · rfl
  · kernel_rfl
  · rfl
  · with_reducible exact hK
  apply Exists.intro
  apply Exists.intro
  apply Exists.intro
  refine ⟨?_, ?_, ?_, ?_⟩
  · go_simp
    exact ⟨rfl, rfl⟩
  · exact hf.out _
  · intro b hb
    simp only [List.mem_cons, List.not_mem_nil, or_false] at hb
    rcases hb with rfl | rfl | rfl | rfl <;> first | omega | (simp; done) | (simp; omega)
  intro v5 h5 hK
  obtain ⟨c5, f5, s5⟩ := bfacts h5
  try simp only [World.size_alloc, World.size_setCell, size_drew, size_drewN] at s5
  have l_w1_v5_0 : w1.heap.size < v5.heap.size := by omega
  have l_w1_v5_1 : w1.heap.size + 1 < v5.heap.size := by omega
  have l_w2_v5_0 : w2.heap.size < v5.heap.size := by omega
  have l_w3_v5_0 : w3.heap.size < v5.heap.size := by omega
  try simp only [Act.put, List.setIfInBounds_toArray, List.set_cons_zero, List.set_cons_succ, List.tail_cons]
  first
    | (with_reducible apply held_v (n := 13) 6
       · rfl
       · kernel_rfl
       · kernel_rfl
       · kernel_rfl
       · exact hQ
       · with_reducible exact hK
       · rfl
       apply Exists.intro
       refine ⟨fun w' hC => ?_, ?_⟩
       · have k0_ := hC (w1.heap.size) (by simp only [List.mem_cons, true_or, or_true])
         have k1_ := hC (w1.heap.size + 1) (by simp only [List.mem_cons, true_or, or_true])
         have k2_ := hC (w2.heap.size) (by simp only [List.mem_cons, true_or, or_true])
         have k3_ := hC (w3.heap.size) (by simp only [List.mem_cons, true_or, or_true])
         clear hC
         go_simp
         rfl)
    | (with_reducible apply held_s (n := 13) 6
       · rfl
       · kernel_rfl
       · kernel_rfl
       · kernel_rfl
       · exact hQ
       · with_reducible exact hK
       · rfl)
  try simp only [Act.put, List.setIfInBounds_toArray, List.set_cons_zero, List.set_cons_succ, List.tail_cons]
  with_reducible apply held_v (n := 12) 7
  · rfl
  · kernel_rfl
  · kernel_rfl
  · kernel_rfl
  · exact hQ
  · with_reducible exact hK
  · rfl
  apply Exists.intro
  refine ⟨fun w' hC => ?_, ?_⟩
  · have k0_ := hC (w1.heap.size) (by simp only [List.mem_cons, true_or, or_true])
    have k1_ := hC (w1.heap.size + 1) (by simp only [List.mem_cons, true_or, or_true])
    have k2_ := hC (w2.heap.size) (by simp only [List.mem_cons, true_or, or_true])
    have k3_ := hC (w3.heap.size) (by simp only [List.mem_cons, true_or, or_true])
    clear hC
    go_simp
    rfl
  try simp only [Act.put, List.setIfInBounds_toArray, List.set_cons_zero, List.set_cons_succ, List.tail_cons]
  with_reducible apply held_v (n := 11) 8
  · rfl
  · kernel_rfl
  · kernel_rfl
  · kernel_rfl
  · exact hQ
  · with_reducible exact hK
  · rfl
  apply Exists.intro
  refine ⟨fun w' hC => ?_, ?_⟩
  · have k0_ := hC (w1.heap.size) (by simp only [List.mem_cons, true_or, or_true])
    have k1_ := hC (w1.heap.size + 1) (by simp only [List.mem_cons, true_or, or_true])
    have k2_ := hC (w2.heap.size) (by simp only [List.mem_cons, true_or, or_true])
    have k3_ := hC (w3.heap.size) (by simp only [List.mem_cons, true_or, or_true])
    clear hC
    go_simp
    rfl
  try simp only [Act.put, List.setIfInBounds_toArray, List.set_cons_zero, List.set_cons_succ, List.tail_cons]
  first
    | (with_reducible apply held_v (n := 10) 9
       · rfl
       · kernel_rfl
       · kernel_rfl
       · kernel_rfl
       · exact hQ
       · with_reducible exact hK
       · rfl
       apply Exists.intro
       refine ⟨fun w' hC => ?_, ?_⟩
       · have k0_ := hC (w1.heap.size) (by simp only [List.mem_cons, true_or, or_true])
         have k1_ := hC (w1.heap.size + 1) (by simp only [List.mem_cons, true_or, or_true])
         have k2_ := hC (w2.heap.size) (by simp only [List.mem_cons, true_or, or_true])
         have k3_ := hC (w3.heap.size) (by simp only [List.mem_cons, true_or, or_true])
         clear hC
         go_simp
         rfl)
    | (with_reducible apply held_s (n := 10) 9
       · rfl
       · kernel_rfl
       · kernel_rfl
       · kernel_rfl
       · exact hQ
       · with_reducible exact hK
       · rfl)
  try simp only [Act.put, List.setIfInBounds_toArray, List.set_cons_zero, List.set_cons_succ, List.tail_cons]
  first
    | (with_reducible apply held_v (n := 9) 10
       · rfl
       · kernel_rfl
       · kernel_rfl
       · kernel_rfl
       · exact hQ
       · with_reducible exact hK
       · rfl
       apply Exists.intro
       refine ⟨fun w' hC => ?_, ?_⟩
       · have k0_ := hC (w1.heap.size) (by simp only [List.mem_cons, true_or, or_true])
         have k1_ := hC (w1.heap.size + 1) (by simp only [List.mem_cons, true_or, or_true])
         have k2_ := hC (w2.heap.size) (by simp only [List.mem_cons, true_or, or_true])
         have k3_ := hC (w3.heap.size) (by simp only [List.mem_cons, true_or, or_true])
         clear hC
         go_simp
         rfl)
    | (with_reducible apply held_s (n := 9) 10
       · rfl
       · kernel_rfl
       · kernel_rfl
       · kernel_rfl
       · exact hQ
       · with_reducible exact hK
       · rfl)
  try simp only [Act.put, List.setIfInBounds_toArray, List.set_cons_zero, List.set_cons_succ, List.tail_cons]
  with_reducible apply held_v (n := 8) 11
  · rfl
  · kernel_rfl
  · kernel_rfl
  · kernel_rfl
  · exact hQ
  · with_reducible exact hK
  · rfl
  apply Exists.intro
  refine ⟨fun w' hC => ?_, ?_⟩
  · have k0_ := hC (w1.heap.size) (by simp only [List.mem_cons, true_or, or_true])
    have k1_ := hC (w1.heap.size + 1) (by simp only [List.mem_cons, true_or, or_true])
    have k2_ := hC (w2.heap.size) (by simp only [List.mem_cons, true_or, or_true])
    have k3_ := hC (w3.heap.size) (by simp only [List.mem_cons, true_or, or_true])
    clear hC
    go_simp
    rfl
  try simp only [Act.put, List.setIfInBounds_toArray, List.set_cons_zero, List.set_cons_succ, List.tail_cons]
  with_reducible apply held_v (n := 7) 12
  · rfl
  · kernel_rfl
  · kernel_rfl
  · kernel_rfl
  · exact hQ
  · with_reducible exact hK
  · rfl
  apply Exists.intro
  refine ⟨fun w' hC => ?_, ?_⟩
  · have k0_ := hC (w1.heap.size) (by simp only [List.mem_cons, true_or, or_true])
    have k1_ := hC (w1.heap.size + 1) (by simp only [List.mem_cons, true_or, or_true])
    have k2_ := hC (w2.heap.size) (by simp only [List.mem_cons, true_or, or_true])
    have k3_ := hC (w3.heap.size) (by simp only [List.mem_cons, true_or, or_true])
    clear hC
    go_simp
    rfl
  try simp only [Act.put, List.setIfInBounds_toArray, List.set_cons_zero, List.set_cons_succ, List.tail_cons]
  first
    | (with_reducible apply held_v (n := 6) 13
       · rfl
       · kernel_rfl
       · kernel_rfl
       · kernel_rfl
       · exact hQ
       · with_reducible exact hK
       · rfl
       apply Exists.intro
       refine ⟨fun w' hC => ?_, ?_⟩
       · have k0_ := hC (w1.heap.size) (by simp only [List.mem_cons, true_or, or_true])
         have k1_ := hC (w1.heap.size + 1) (by simp only [List.mem_cons, true_or, or_true])
         have k2_ := hC (w2.heap.size) (by simp only [List.mem_cons, true_or, or_true])
         have k3_ := hC (w3.heap.size) (by simp only [List.mem_cons, true_or, or_true])
         clear hC
         go_simp
         rfl)
    | (with_reducible apply held_s (n := 6) 13
       · rfl
       · kernel_rfl
       · kernel_rfl
       · kernel_rfl
       · exact hQ
       · with_reducible exact hK
       · rfl)
  try simp only [Act.put, List.setIfInBounds_toArray, List.set_cons_zero, List.set_cons_succ, List.tail_cons]
  first
    | (with_reducible apply held_v (n := 5) 14
       · rfl
       · kernel_rfl
       · kernel_rfl
       · kernel_rfl
       · exact hQ
       · with_reducible exact hK
       · rfl
       apply Exists.intro
       refine ⟨fun w' hC => ?_, ?_⟩
       · have k0_ := hC (w1.heap.size) (by simp only [List.mem_cons, true_or, or_true])
         have k1_ := hC (w1.heap.size + 1) (by simp only [List.mem_cons, true_or, or_true])
         have k2_ := hC (w2.heap.size) (by simp only [List.mem_cons, true_or, or_true])
         have k3_ := hC (w3.heap.size) (by simp only [List.mem_cons, true_or, or_true])
         clear hC
         go_simp
         rfl)
    | (with_reducible apply held_s (n := 5) 14
       · rfl
       · kernel_rfl
       · kernel_rfl
       · kernel_rfl
       · exact hQ
       · with_reducible exact hK
       · rfl)
  try simp only [Act.put, List.setIfInBounds_toArray, List.set_cons_zero, List.set_cons_succ, List.tail_cons]
  first
    | (with_reducible apply held_v (n := 4) 16
       · rfl
       · kernel_rfl
       · kernel_rfl
       · kernel_rfl
       · exact hQ
       · with_reducible exact hK
       · rfl
       apply Exists.intro
       refine ⟨fun w' hC => ?_, ?_⟩
       · have k0_ := hC (w1.heap.size) (by simp only [List.mem_cons, true_or, or_true])
         have k1_ := hC (w1.heap.size + 1) (by simp only [List.mem_cons, true_or, or_true])
         have k2_ := hC (w2.heap.size) (by simp only [List.mem_cons, true_or, or_true])
         have k3_ := hC (w3.heap.size) (by simp only [List.mem_cons, true_or, or_true])
         clear hC
         go_simp
         rfl)
    | (with_reducible apply held_s (n := 4) 16
       · rfl
       · kernel_rfl
       · kernel_rfl
       · kernel_rfl
       · exact hQ
       · with_reducible exact hK
       · rfl)
  try simp only [Act.put, List.setIfInBounds_toArray, List.set_cons_zero, List.set_cons_succ, List.tail_cons]
  with_reducible apply held_callx (n := 3) 15
  · rfl
  · kernel_rfl
  · rfl
  · with_reducible exact hK
  apply Exists.intro
  apply Exists.intro
  apply Exists.intro
  refine ⟨?_, ?_, ?_, ?_⟩
  · go_simp
    exact ⟨rfl, rfl⟩
  · exact hen.out _
  · intro b hb
    simp only [List.mem_cons, List.not_mem_nil, or_false] at hb
    rcases hb with rfl | rfl | rfl | rfl <;> first | omega | (simp; done) | (simp; omega)
  rintro r15 v15 ⟨g2, c2, rfl, hg2, hc2, hB2⟩ h15 hK
  obtain ⟨c15, f15, s15⟩ := bfacts h15
  try simp only [World.size_alloc, World.size_setCell, size_drew, size_drewN] at s15
  have l_w1_v15_0 : w1.heap.size < v15.heap.size := by omega
  have l_w1_v15_1 : w1.heap.size + 1 < v15.heap.size := by omega
  have l_w2_v15_0 : w2.heap.size < v15.heap.size := by omega
  have l_w3_v15_0 : w3.heap.size < v15.heap.size := by omega
  try simp only [Act.put, List.setIfInBounds_toArray, List.set_cons_zero, List.set_cons_succ, List.tail_cons]
  with_reducible apply held_call (n := 2) 17
  · rfl
  · kernel_rfl
  · rfl
  · with_reducible exact hK
  apply Exists.intro
  apply Exists.intro
  apply Exists.intro
  refine ⟨?_, ?_, ?_, ?_⟩
  · go_simp
    exact ⟨rfl, rfl⟩
  · exact bytesEq_c _ (some ⟨g2, 0, none⟩) (some ⟨b, off, none⟩) 32 c2 c (byt v) f hB2.slice (HB.out.below (by repeat first | with_reducible exact Below.refl _ _ | with_reducible refine Below.drew ?_ | with_reducible refine below_dN ?_ | with_reducible refine Below.alloc ?_ (by first | omega | (simp; done) | (simp; omega)) _ | with_reducible refine Below.setCell ?_ (by first | omega | (simp; done) | (simp; omega)) _ | with_reducible refine Below.trans ?_ (Below.mono (by assumption) (by first | omega | (simp; done) | (simp; omega))))).slice hfv.out
  · intro b hb
    simp only [List.mem_cons, List.not_mem_nil, or_false] at hb
    rcases hb with rfl | rfl | rfl | rfl <;> first | omega | (simp; done) | (simp; omega)
  intro v17 h17 hK
  obtain ⟨c17, f17, s17⟩ := bfacts h17
  try simp only [World.size_alloc, World.size_setCell, size_drew, size_drewN] at s17
  try simp only [Act.put, List.setIfInBounds_toArray, List.set_cons_zero, List.set_cons_succ, List.tail_cons]
  with_reducible apply held_v (n := 1) 18
  · rfl
  · kernel_rfl
  · kernel_rfl
  · kernel_rfl
  · exact hQ
  · with_reducible exact hK
  · rfl
  apply Exists.intro
  refine ⟨fun w' hC => ?_, ?_⟩
  · have k0_ := hC (w1.heap.size) (by simp only [List.mem_cons, true_or, or_true])
    have k1_ := hC (w1.heap.size + 1) (by simp only [List.mem_cons, true_or, or_true])
    have k2_ := hC (w2.heap.size) (by simp only [List.mem_cons, true_or, or_true])
    have k3_ := hC (w3.heap.size) (by simp only [List.mem_cons, true_or, or_true])
    clear hC
    go_simp
    rfl
  try simp only [Act.put, List.setIfInBounds_toArray, List.set_cons_zero, List.set_cons_succ, List.tail_cons]
  with_reducible apply held_v (n := 0) 19
  · rfl
  · kernel_rfl
  · kernel_rfl
  · kernel_rfl
  · exact hQ
  · with_reducible exact hK
  · rfl
  apply Exists.intro
  refine ⟨fun w' hC => ?_, ?_⟩
  · have k0_ := hC (w1.heap.size) (by simp only [List.mem_cons, true_or, or_true])
    have k1_ := hC (w1.heap.size + 1) (by simp only [List.mem_cons, true_or, or_true])
    have k2_ := hC (w2.heap.size) (by simp only [List.mem_cons, true_or, or_true])
    have k3_ := hC (w3.heap.size) (by simp only [List.mem_cons, true_or, or_true])
    clear hC
    go_simp
    rfl
  try simp only [Act.put, List.setIfInBounds_toArray, List.set_cons_zero, List.set_cons_succ, List.tail_cons]
  refine held_end (by kernel_rfl) ?_
  clear hK hQ
  go_wp2_with fail
  refine bodyPost_ret (v := .bool true) (by simp only [results, Tryd.results12]; go_simp) rfl ⟨rfl, ?_⟩
  repeat first
    | with_reducible exact Below.refl _ _
    | with_reducible refine Below.drew ?_
    | with_reducible refine below_dN ?_
    | with_reducible refine Below.alloc ?_ (by first | omega | (simp; done) | (simp; omega)) _
    | with_reducible refine Below.setCell ?_ (by first | omega | (simp; done) | (simp; omega)) _
    | with_reducible refine Below.trans ?_ (Below.mono (by assumption) (by first | omega | (simp; done) | (simp; omega)))

theorem bytecodeDecodes_c (w : World) (s : Bool) (a : Option Addr) (n c : Nat) (f : Nat → Nat) (h : BytesArg w a n c f) (hL : Laid w) :
    Calls Tryd.prog 12 #[.bool s, .slice a n c] w fun e w' => e = .returned (.bool true) ∧ Below w.heap.size w w' := by
  by_cases h5 : 500 < n
  · exact decodes_big s a n c h5 w (Lib.hid hL)
  · by_cases h6 : n = 32
    · subst h6
      obtain ⟨b, off, rfl, hB⟩ := h.at_.pos (by decide)
      have h4 := le32_lt hB.lt
      by_cases hp : le f 32 < pr s
      · exact decodes_ok s b off c (RR s (le f 32)) (le f 32) f w (Lib.hid hL) (Lib.hid hB) (Lib.hid fun j hj => byt_le hB.lt hj) (Lib.hid fun w' hb => decode_ok s b off c f w' (hB.below hb) hp)
          (Lib.hid fun w' hb => refDecode_ok (pr s) b off c f w' (pr_lt s) (hB.below hb) hp) (Lib.hid (form7_c s _ h4)) (Lib.hid (encode_r s _ hp))
      · have e1 := fun w' hb => decode_big s b off c f w' (hB.below hb) hp
        have e2 := fun w' hb => refDecode_big (pr s) b off c f w' (pr_lt s) (pr_pos s) (hB.below hb) hp
        rw [z4] at e1 e2
        exact decodes_bad s _ 32 c 9 (.inr rfl) (by decide) w (Lib.hid hL) (Lib.hid e1) (Lib.hid e2)
    · have e1 := fun w' (_ : Below w.heap.size w w') => decode_len s a n c h6 w'
      have e2 := fun w' (_ : Below w.heap.size w w') => refDecode_len (pr s) a n c h6 w'
      rw [z4] at e1 e2
      exact decodes_bad s a n c 8 (.inl rfl) (by omega) w (Lib.hid hL) (Lib.hid e1) (Lib.hid e2)
end Go.Proofs.YtpebojiijgkadaaDoor
