/- The walk of law 5's MontChooses. -/
import Derived.Test.YtpebojiijgkadaaDoorLawOps
namespace Go.Proofs.YtpebojiijgkadaaDoor
set_option linter.all false
open Go.RowKit

set_option maxRecDepth 100000 in
set_option maxHeartbeats 16000000 in
theorem montChooses_c (m a b : Nat) (hm : m < W) (ha : a < R4) (hb : b < R4) (w : World) (hL : Laid w) :
    Calls Tryd.prog 8 #[.int .u64 (m : Int), vec a, vec b] w fun e w' => e = .returned (.bool true) ∧ Below w.heap.size w w' := by
  have HL := Lib.hid hL
  have hz : (((dg 0 a : Nat) : Int) == 0 && ((dg 1 a : Nat) : Int) == 0 && ((dg 2 a : Nat) : Int) == 0 && ((dg 3 a : Nat) : Int) == 0) = decide (a = 0) := by
    by_cases h : a = 0
    · subst h; rfl
    · rw [decide_eq_false h, Bool.eq_false_iff]
      intro hh
      simp only [Bool.and_eq_true, beq_iff_eq] at hh
      apply h
      have := val4_dg ha
      rw [show dg 0 a = 0 by omega, show dg 1 a = 0 by omega, show dg 2 a = 0 by omega, show dg 3 a = 0 by omega] at this
      exact this.symm
  have hmask := fun w => refMask_c (decide (a = 0)) w
  rw [← hz] at hmask
  have hv : (if decide (a = 0) = true then (18446744073709551615 : Int) else 0) = ((mb (isz a) : Nat) : Int) := by
    by_cases h : a = 0
    · subst h; rfl
    · simp [h, isz, mb]
  rw [hz, hv, ← hz] at hmask
  have Hmask := Lib.hid hmask
  clear hmask hz hv
  have hch := fun w => montChoose_c m a b hm ha hb w
  by_cases hbit : m % 2 = 1
  · have e : sel m a b = a := if_pos hbit
    rw [e] at hch
    have Hch := Lib.hid hch
    have Hz := Lib.hid (montIsZero_c a ha)
    clear hch e
    go_enter Tryd.func8, Tryd.ntmps8
    go_wp2_with fail
    refine held_begin 19 [w.heap.size, w.heap.size + 1, w.heap.size + 1 + 1] (by kernel_rfl) rfl (by intro _ _ d _ _ h; cases d <;> exact h) ?_
    intro hQ hK
    with_reducible apply held_call (n := 18) 0
    · rfl
    · kernel_rfl
    · rfl
    · with_reducible exact hK
    apply Exists.intro
    apply Exists.intro
    apply Exists.intro
    refine ⟨?_, ?_, ?_, ?_⟩
    · go_simp
      exact ⟨rfl, rfl⟩
    · exact lawalive_c _ (HL.out.step (by repeat first | with_reducible exact Below.refl _ _ | with_reducible refine Below.drew ?_ | with_reducible refine below_dN ?_ | with_reducible refine Below.alloc ?_ (by first | omega | (simp; done) | (simp; omega)) _ | with_reducible refine Below.setCell ?_ (by first | omega | (simp; done) | (simp; omega)) _ | with_reducible refine Below.trans ?_ (Below.mono (by assumption) (by first | omega | (simp; done) | (simp; omega)))))
    · intro b hb
      simp only [List.mem_cons, List.not_mem_nil, or_false] at hb
      rcases hb with rfl | rfl | rfl <;> first | omega | (simp; done) | (simp; omega)
    intro v0 h0 hK
    obtain ⟨c0, f0, s0⟩ := bfacts h0
    try simp only [World.size_alloc, World.size_setCell, size_drew, size_drewN] at s0
    try simp only [Act.put, List.setIfInBounds_toArray, List.set_cons_zero, List.set_cons_succ, List.tail_cons]
    with_reducible apply held_v (n := 17) 1
    · rfl
    · kernel_rfl
    · kernel_rfl
    · kernel_rfl
    · exact hQ
    · with_reducible exact hK
    · rfl
    apply Exists.intro
    refine ⟨fun w' hC => ?_, ?_⟩
    · have k0_ := hC (w.heap.size) (by simp only [List.mem_cons, true_or, or_true])
      have k1_ := hC (w.heap.size + 1) (by simp only [List.mem_cons, true_or, or_true])
      have k2_ := hC (w.heap.size + 1 + 1) (by simp only [List.mem_cons, true_or, or_true])
      clear hC
      go_simp
      rfl
    try simp only [Act.put, List.setIfInBounds_toArray, List.set_cons_zero, List.set_cons_succ, List.tail_cons]
    first
      | (with_reducible apply held_v (n := 16) 2
         · rfl
         · kernel_rfl
         · kernel_rfl
         · kernel_rfl
         · exact hQ
         · with_reducible exact hK
         · rfl
         apply Exists.intro
         refine ⟨fun w' hC => ?_, ?_⟩
         · have k0_ := hC (w.heap.size) (by simp only [List.mem_cons, true_or, or_true])
           have k1_ := hC (w.heap.size + 1) (by simp only [List.mem_cons, true_or, or_true])
           have k2_ := hC (w.heap.size + 1 + 1) (by simp only [List.mem_cons, true_or, or_true])
           clear hC
           go_simp
           rfl)
      | (with_reducible apply held_s (n := 16) 2
         · rfl
         · kernel_rfl
         · kernel_rfl
         · kernel_rfl
         · exact hQ
         · with_reducible exact hK
         · rfl)
    try simp only [Act.put, List.setIfInBounds_toArray, List.set_cons_zero, List.set_cons_succ, List.tail_cons]
    first
      | (with_reducible apply held_v (n := 15) 3
         · rfl
         · kernel_rfl
         · kernel_rfl
         · kernel_rfl
         · exact hQ
         · with_reducible exact hK
         · rfl
         apply Exists.intro
         refine ⟨fun w' hC => ?_, ?_⟩
         · have k0_ := hC (w.heap.size) (by simp only [List.mem_cons, true_or, or_true])
           have k1_ := hC (w.heap.size + 1) (by simp only [List.mem_cons, true_or, or_true])
           have k2_ := hC (w.heap.size + 1 + 1) (by simp only [List.mem_cons, true_or, or_true])
           clear hC
           go_simp
           rfl)
      | (with_reducible apply held_s (n := 15) 3
         · rfl
         · kernel_rfl
         · kernel_rfl
         · kernel_rfl
         · exact hQ
         · with_reducible exact hK
         · rfl)
    try simp only [Act.put, List.setIfInBounds_toArray, List.set_cons_zero, List.set_cons_succ, List.tail_cons]
    first
      | (with_reducible apply held_v (n := 14) 4
         · rfl
         · kernel_rfl
         · kernel_rfl
         · kernel_rfl
         · exact hQ
         · with_reducible exact hK
         · rfl
         apply Exists.intro
         refine ⟨fun w' hC => ?_, ?_⟩
         · have k0_ := hC (w.heap.size) (by simp only [List.mem_cons, true_or, or_true])
           have k1_ := hC (w.heap.size + 1) (by simp only [List.mem_cons, true_or, or_true])
           have k2_ := hC (w.heap.size + 1 + 1) (by simp only [List.mem_cons, true_or, or_true])
           clear hC
           go_simp
           rfl)
      | (with_reducible apply held_s (n := 14) 4
         · rfl
         · kernel_rfl
         · kernel_rfl
         · kernel_rfl
         · exact hQ
         · with_reducible exact hK
         · rfl)
    try simp only [Act.put, List.setIfInBounds_toArray, List.set_cons_zero, List.set_cons_succ, List.tail_cons]
    first
      | (with_reducible apply held_v (n := 13) 6
         · rfl
         · kernel_rfl
         · kernel_rfl
         · kernel_rfl
         · exact hQ
         · with_reducible exact hK
         · rfl
         apply Exists.intro
         refine ⟨fun w' hC => ?_, ?_⟩
         · have k0_ := hC (w.heap.size) (by simp only [List.mem_cons, true_or, or_true])
           have k1_ := hC (w.heap.size + 1) (by simp only [List.mem_cons, true_or, or_true])
           have k2_ := hC (w.heap.size + 1 + 1) (by simp only [List.mem_cons, true_or, or_true])
           clear hC
           go_simp
           rfl)
      | (with_reducible apply held_s (n := 13) 6
         · rfl
         · kernel_rfl
         · kernel_rfl
         · kernel_rfl
         · exact hQ
         · with_reducible exact hK
         · rfl)
    try simp only [Act.put, List.setIfInBounds_toArray, List.set_cons_zero, List.set_cons_succ, List.tail_cons]
    with_reducible apply held_call (n := 12) 5
    · rfl
    · kernel_rfl
    · rfl
    · with_reducible exact hK
    apply Exists.intro
    apply Exists.intro
    apply Exists.intro
    refine ⟨?_, ?_, ?_, ?_⟩
    · go_simp
      exact ⟨rfl, rfl⟩
    · exact Hch.out _
    · intro b hb
      simp only [List.mem_cons, List.not_mem_nil, or_false] at hb
      rcases hb with rfl | rfl | rfl <;> first | omega | (simp; done) | (simp; omega)
    intro v5 h5 hK
    obtain ⟨c5, f5, s5⟩ := bfacts h5
    try simp only [World.size_alloc, World.size_setCell, size_drew, size_drewN] at s5
    try simp only [Act.put, List.setIfInBounds_toArray, List.set_cons_zero, List.set_cons_succ, List.tail_cons]
    first
      | (with_reducible apply held_v (n := 11) 7
         · rfl
         · kernel_rfl
         · kernel_rfl
         · kernel_rfl
         · exact hQ
         · with_reducible exact hK
         · rfl
         apply Exists.intro
         refine ⟨fun w' hC => ?_, ?_⟩
         · have k0_ := hC (w.heap.size) (by simp only [List.mem_cons, true_or, or_true])
           have k1_ := hC (w.heap.size + 1) (by simp only [List.mem_cons, true_or, or_true])
           have k2_ := hC (w.heap.size + 1 + 1) (by simp only [List.mem_cons, true_or, or_true])
           clear hC
           go_simp
           rfl)
      | (with_reducible apply held_s (n := 11) 7
         · rfl
         · kernel_rfl
         · kernel_rfl
         · kernel_rfl
         · exact hQ
         · with_reducible exact hK
         · rfl)
    try simp only [Act.put, List.setIfInBounds_toArray, List.set_cons_zero, List.set_cons_succ, List.tail_cons]
    with_reducible apply held_v (n := 10) 8
    · rfl
    · kernel_rfl
    · kernel_rfl
    · kernel_rfl
    · exact hQ
    · with_reducible exact hK
    · rfl
    apply Exists.intro
    refine ⟨fun w' hC => ?_, ?_⟩
    · have k0_ := hC (w.heap.size) (by simp only [List.mem_cons, true_or, or_true])
      have k1_ := hC (w.heap.size + 1) (by simp only [List.mem_cons, true_or, or_true])
      have k2_ := hC (w.heap.size + 1 + 1) (by simp only [List.mem_cons, true_or, or_true])
      clear hC
      go_simp
      rfl
    try simp only [Act.put, List.setIfInBounds_toArray, List.set_cons_zero, List.set_cons_succ, List.tail_cons]
    with_reducible apply held_v (n := 9) 9
    · rfl
    · kernel_rfl
    · kernel_rfl
    · kernel_rfl
    · exact hQ
    · with_reducible exact hK
    · rfl
    apply Exists.intro
    refine ⟨fun w' hC => ?_, ?_⟩
    · have k0_ := hC (w.heap.size) (by simp only [List.mem_cons, true_or, or_true])
      have k1_ := hC (w.heap.size + 1) (by simp only [List.mem_cons, true_or, or_true])
      have k2_ := hC (w.heap.size + 1 + 1) (by simp only [List.mem_cons, true_or, or_true])
      clear hC
      go_simp
      rfl
    try simp only [Act.put, List.setIfInBounds_toArray, List.set_cons_zero, List.set_cons_succ, List.tail_cons]
    first
      | (with_reducible apply held_v (n := 8) 10
         · rfl
         · kernel_rfl
         · kernel_rfl
         · kernel_rfl
         · exact hQ
         · with_reducible exact hK
         · rfl
         apply Exists.intro
         refine ⟨fun w' hC => ?_, ?_⟩
         · have k0_ := hC (w.heap.size) (by simp only [List.mem_cons, true_or, or_true])
           have k1_ := hC (w.heap.size + 1) (by simp only [List.mem_cons, true_or, or_true])
           have k2_ := hC (w.heap.size + 1 + 1) (by simp only [List.mem_cons, true_or, or_true])
           clear hC
           go_simp
           rfl)
      | (with_reducible apply held_s (n := 8) 10
         · rfl
         · kernel_rfl
         · kernel_rfl
         · kernel_rfl
         · exact hQ
         · with_reducible exact hK
         · rfl)
    try simp only [Act.put, List.setIfInBounds_toArray, List.set_cons_zero, List.set_cons_succ, List.tail_cons]
    first
      | (with_reducible apply held_v (n := 7) 12
         · rfl
         · kernel_rfl
         · kernel_rfl
         · kernel_rfl
         · exact hQ
         · with_reducible exact hK
         · rfl
         apply Exists.intro
         refine ⟨fun w' hC => ?_, ?_⟩
         · have k0_ := hC (w.heap.size) (by simp only [List.mem_cons, true_or, or_true])
           have k1_ := hC (w.heap.size + 1) (by simp only [List.mem_cons, true_or, or_true])
           have k2_ := hC (w.heap.size + 1 + 1) (by simp only [List.mem_cons, true_or, or_true])
           clear hC
           go_simp
           rfl)
      | (with_reducible apply held_s (n := 7) 12
         · rfl
         · kernel_rfl
         · kernel_rfl
         · kernel_rfl
         · exact hQ
         · with_reducible exact hK
         · rfl)
    try simp only [Act.put, List.setIfInBounds_toArray, List.set_cons_zero, List.set_cons_succ, List.tail_cons]
    first
      | (with_reducible apply held_v (n := 6) 13
         · rfl
         · kernel_rfl
         · kernel_rfl
         · kernel_rfl
         · exact hQ
         · with_reducible exact hK
         · rfl
         apply Exists.intro
         refine ⟨fun w' hC => ?_, ?_⟩
         · have k0_ := hC (w.heap.size) (by simp only [List.mem_cons, true_or, or_true])
           have k1_ := hC (w.heap.size + 1) (by simp only [List.mem_cons, true_or, or_true])
           have k2_ := hC (w.heap.size + 1 + 1) (by simp only [List.mem_cons, true_or, or_true])
           clear hC
           go_simp
           rfl)
      | (with_reducible apply held_s (n := 6) 13
         · rfl
         · kernel_rfl
         · kernel_rfl
         · kernel_rfl
         · exact hQ
         · with_reducible exact hK
         · rfl)
    try simp only [Act.put, List.setIfInBounds_toArray, List.set_cons_zero, List.set_cons_succ, List.tail_cons]
    first
      | (with_reducible apply held_v (n := 5) 14
         · rfl
         · kernel_rfl
         · kernel_rfl
         · kernel_rfl
         · exact hQ
         · with_reducible exact hK
         · rfl
         apply Exists.intro
         refine ⟨fun w' hC => ?_, ?_⟩
         · have k0_ := hC (w.heap.size) (by simp only [List.mem_cons, true_or, or_true])
           have k1_ := hC (w.heap.size + 1) (by simp only [List.mem_cons, true_or, or_true])
           have k2_ := hC (w.heap.size + 1 + 1) (by simp only [List.mem_cons, true_or, or_true])
           clear hC
           go_simp
           rfl)
      | (with_reducible apply held_s (n := 5) 14
         · rfl
         · kernel_rfl
         · kernel_rfl
         · kernel_rfl
         · exact hQ
         · with_reducible exact hK
         · rfl)
    try simp only [Act.put, List.setIfInBounds_toArray, List.set_cons_zero, List.set_cons_succ, List.tail_cons]
    with_reducible apply held_call (n := 4) 11
    · rfl
    · kernel_rfl
    · rfl
    · with_reducible exact hK
    apply Exists.intro
    apply Exists.intro
    apply Exists.intro
    refine ⟨?_, ?_, ?_, ?_⟩
    · go_simp
      exact ⟨rfl, rfl⟩
    · exact Hz.out _
    · intro b hb
      simp only [List.mem_cons, List.not_mem_nil, or_false] at hb
      rcases hb with rfl | rfl | rfl <;> first | omega | (simp; done) | (simp; omega)
    intro v11 h11 hK
    obtain ⟨c11, f11, s11⟩ := bfacts h11
    try simp only [World.size_alloc, World.size_setCell, size_drew, size_drewN] at s11
    try simp only [Act.put, List.setIfInBounds_toArray, List.set_cons_zero, List.set_cons_succ, List.tail_cons]
    with_reducible apply held_call (n := 3) 15
    · rfl
    · kernel_rfl
    · rfl
    · with_reducible exact hK
    apply Exists.intro
    apply Exists.intro
    apply Exists.intro
    refine ⟨?_, ?_, ?_, ?_⟩
    · go_simp
      exact ⟨rfl, rfl⟩
    · exact still_below (Hmask.out _)
    · intro b hb
      simp only [List.mem_cons, List.not_mem_nil, or_false] at hb
      rcases hb with rfl | rfl | rfl <;> first | omega | (simp; done) | (simp; omega)
    intro v15 h15 hK
    obtain ⟨c15, f15, s15⟩ := bfacts h15
    try simp only [World.size_alloc, World.size_setCell, size_drew, size_drewN] at s15
    try simp only [Act.put, List.setIfInBounds_toArray, List.set_cons_zero, List.set_cons_succ, List.tail_cons]
    first
      | (with_reducible apply held_v (n := 2) 16
         · rfl
         · kernel_rfl
         · kernel_rfl
         · kernel_rfl
         · exact hQ
         · with_reducible exact hK
         · rfl
         apply Exists.intro
         refine ⟨fun w' hC => ?_, ?_⟩
         · have k0_ := hC (w.heap.size) (by simp only [List.mem_cons, true_or, or_true])
           have k1_ := hC (w.heap.size + 1) (by simp only [List.mem_cons, true_or, or_true])
           have k2_ := hC (w.heap.size + 1 + 1) (by simp only [List.mem_cons, true_or, or_true])
           clear hC
           go_simp
           rfl)
      | (with_reducible apply held_s (n := 2) 16
         · rfl
         · kernel_rfl
         · kernel_rfl
         · kernel_rfl
         · exact hQ
         · with_reducible exact hK
         · rfl)
    try simp only [Act.put, List.setIfInBounds_toArray, List.set_cons_zero, List.set_cons_succ, List.tail_cons]
    with_reducible apply held_v (n := 1) 17
    · rfl
    · kernel_rfl
    · kernel_rfl
    · kernel_rfl
    · exact hQ
    · with_reducible exact hK
    · rfl
    apply Exists.intro
    refine ⟨fun w' hC => ?_, ?_⟩
    · have k0_ := hC (w.heap.size) (by simp only [List.mem_cons, true_or, or_true])
      have k1_ := hC (w.heap.size + 1) (by simp only [List.mem_cons, true_or, or_true])
      have k2_ := hC (w.heap.size + 1 + 1) (by simp only [List.mem_cons, true_or, or_true])
      clear hC
      go_simp
      rfl
    try simp only [Act.put, List.setIfInBounds_toArray, List.set_cons_zero, List.set_cons_succ, List.tail_cons]
    with_reducible apply held_v (n := 0) 18
    · rfl
    · kernel_rfl
    · kernel_rfl
    · kernel_rfl
    · exact hQ
    · with_reducible exact hK
    · rfl
    apply Exists.intro
    refine ⟨fun w' hC => ?_, ?_⟩
    · have k0_ := hC (w.heap.size) (by simp only [List.mem_cons, true_or, or_true])
      have k1_ := hC (w.heap.size + 1) (by simp only [List.mem_cons, true_or, or_true])
      have k2_ := hC (w.heap.size + 1 + 1) (by simp only [List.mem_cons, true_or, or_true])
      clear hC
      go_simp
      rfl
    try simp only [Act.put, List.setIfInBounds_toArray, List.set_cons_zero, List.set_cons_succ, List.tail_cons]
    refine held_end (by kernel_rfl) ?_
    clear hK hQ
    go_wp2_with fail
    refine bodyPost_ret (v := .bool true) (by simp only [results, Tryd.results8]; go_simp) rfl ⟨rfl, ?_⟩
    repeat first
      | with_reducible exact Below.refl _ _
      | with_reducible refine Below.drew ?_
      | with_reducible refine below_dN ?_
      | with_reducible refine Below.alloc ?_ (by first | omega | (simp; done) | (simp; omega)) _
      | with_reducible refine Below.setCell ?_ (by first | omega | (simp; done) | (simp; omega)) _
      | with_reducible refine Below.trans ?_ (Below.mono (by assumption) (by first | omega | (simp; done) | (simp; omega)))
  · have e : sel m a b = b := if_neg hbit
    rw [e] at hch
    have Hch := Lib.hid hch
    have Hz := Lib.hid (montIsZero_c a ha)
    clear hch e
    go_enter Tryd.func8, Tryd.ntmps8
    go_wp2_with fail
    refine held_begin 19 [w.heap.size, w.heap.size + 1, w.heap.size + 1 + 1] (by kernel_rfl) rfl (by intro _ _ d _ _ h; cases d <;> exact h) ?_
    intro hQ hK
    with_reducible apply held_call (n := 18) 0
    · rfl
    · kernel_rfl
    · rfl
    · with_reducible exact hK
    apply Exists.intro
    apply Exists.intro
    apply Exists.intro
    refine ⟨?_, ?_, ?_, ?_⟩
    · go_simp
      exact ⟨rfl, rfl⟩
    · exact lawalive_c _ (HL.out.step (by repeat first | with_reducible exact Below.refl _ _ | with_reducible refine Below.drew ?_ | with_reducible refine below_dN ?_ | with_reducible refine Below.alloc ?_ (by first | omega | (simp; done) | (simp; omega)) _ | with_reducible refine Below.setCell ?_ (by first | omega | (simp; done) | (simp; omega)) _ | with_reducible refine Below.trans ?_ (Below.mono (by assumption) (by first | omega | (simp; done) | (simp; omega)))))
    · intro b hb
      simp only [List.mem_cons, List.not_mem_nil, or_false] at hb
      rcases hb with rfl | rfl | rfl <;> first | omega | (simp; done) | (simp; omega)
    intro v0 h0 hK
    obtain ⟨c0, f0, s0⟩ := bfacts h0
    try simp only [World.size_alloc, World.size_setCell, size_drew, size_drewN] at s0
    try simp only [Act.put, List.setIfInBounds_toArray, List.set_cons_zero, List.set_cons_succ, List.tail_cons]
    with_reducible apply held_v (n := 17) 1
    · rfl
    · kernel_rfl
    · kernel_rfl
    · kernel_rfl
    · exact hQ
    · with_reducible exact hK
    · rfl
    apply Exists.intro
    refine ⟨fun w' hC => ?_, ?_⟩
    · have k0_ := hC (w.heap.size) (by simp only [List.mem_cons, true_or, or_true])
      have k1_ := hC (w.heap.size + 1) (by simp only [List.mem_cons, true_or, or_true])
      have k2_ := hC (w.heap.size + 1 + 1) (by simp only [List.mem_cons, true_or, or_true])
      clear hC
      go_simp
      rfl
    try simp only [Act.put, List.setIfInBounds_toArray, List.set_cons_zero, List.set_cons_succ, List.tail_cons]
    first
      | (with_reducible apply held_v (n := 16) 2
         · rfl
         · kernel_rfl
         · kernel_rfl
         · kernel_rfl
         · exact hQ
         · with_reducible exact hK
         · rfl
         apply Exists.intro
         refine ⟨fun w' hC => ?_, ?_⟩
         · have k0_ := hC (w.heap.size) (by simp only [List.mem_cons, true_or, or_true])
           have k1_ := hC (w.heap.size + 1) (by simp only [List.mem_cons, true_or, or_true])
           have k2_ := hC (w.heap.size + 1 + 1) (by simp only [List.mem_cons, true_or, or_true])
           clear hC
           go_simp
           rfl)
      | (with_reducible apply held_s (n := 16) 2
         · rfl
         · kernel_rfl
         · kernel_rfl
         · kernel_rfl
         · exact hQ
         · with_reducible exact hK
         · rfl)
    try simp only [Act.put, List.setIfInBounds_toArray, List.set_cons_zero, List.set_cons_succ, List.tail_cons]
    first
      | (with_reducible apply held_v (n := 15) 3
         · rfl
         · kernel_rfl
         · kernel_rfl
         · kernel_rfl
         · exact hQ
         · with_reducible exact hK
         · rfl
         apply Exists.intro
         refine ⟨fun w' hC => ?_, ?_⟩
         · have k0_ := hC (w.heap.size) (by simp only [List.mem_cons, true_or, or_true])
           have k1_ := hC (w.heap.size + 1) (by simp only [List.mem_cons, true_or, or_true])
           have k2_ := hC (w.heap.size + 1 + 1) (by simp only [List.mem_cons, true_or, or_true])
           clear hC
           go_simp
           rfl)
      | (with_reducible apply held_s (n := 15) 3
         · rfl
         · kernel_rfl
         · kernel_rfl
         · kernel_rfl
         · exact hQ
         · with_reducible exact hK
         · rfl)
    try simp only [Act.put, List.setIfInBounds_toArray, List.set_cons_zero, List.set_cons_succ, List.tail_cons]
    first
      | (with_reducible apply held_v (n := 14) 4
         · rfl
         · kernel_rfl
         · kernel_rfl
         · kernel_rfl
         · exact hQ
         · with_reducible exact hK
         · rfl
         apply Exists.intro
         refine ⟨fun w' hC => ?_, ?_⟩
         · have k0_ := hC (w.heap.size) (by simp only [List.mem_cons, true_or, or_true])
           have k1_ := hC (w.heap.size + 1) (by simp only [List.mem_cons, true_or, or_true])
           have k2_ := hC (w.heap.size + 1 + 1) (by simp only [List.mem_cons, true_or, or_true])
           clear hC
           go_simp
           rfl)
      | (with_reducible apply held_s (n := 14) 4
         · rfl
         · kernel_rfl
         · kernel_rfl
         · kernel_rfl
         · exact hQ
         · with_reducible exact hK
         · rfl)
    try simp only [Act.put, List.setIfInBounds_toArray, List.set_cons_zero, List.set_cons_succ, List.tail_cons]
    first
      | (with_reducible apply held_v (n := 13) 6
         · rfl
         · kernel_rfl
         · kernel_rfl
         · kernel_rfl
         · exact hQ
         · with_reducible exact hK
         · rfl
         apply Exists.intro
         refine ⟨fun w' hC => ?_, ?_⟩
         · have k0_ := hC (w.heap.size) (by simp only [List.mem_cons, true_or, or_true])
           have k1_ := hC (w.heap.size + 1) (by simp only [List.mem_cons, true_or, or_true])
           have k2_ := hC (w.heap.size + 1 + 1) (by simp only [List.mem_cons, true_or, or_true])
           clear hC
           go_simp
           rfl)
      | (with_reducible apply held_s (n := 13) 6
         · rfl
         · kernel_rfl
         · kernel_rfl
         · kernel_rfl
         · exact hQ
         · with_reducible exact hK
         · rfl)
    try simp only [Act.put, List.setIfInBounds_toArray, List.set_cons_zero, List.set_cons_succ, List.tail_cons]
    with_reducible apply held_call (n := 12) 5
    · rfl
    · kernel_rfl
    · rfl
    · with_reducible exact hK
    apply Exists.intro
    apply Exists.intro
    apply Exists.intro
    refine ⟨?_, ?_, ?_, ?_⟩
    · go_simp
      exact ⟨rfl, rfl⟩
    · exact Hch.out _
    · intro b hb
      simp only [List.mem_cons, List.not_mem_nil, or_false] at hb
      rcases hb with rfl | rfl | rfl <;> first | omega | (simp; done) | (simp; omega)
    intro v5 h5 hK
    obtain ⟨c5, f5, s5⟩ := bfacts h5
    try simp only [World.size_alloc, World.size_setCell, size_drew, size_drewN] at s5
    try simp only [Act.put, List.setIfInBounds_toArray, List.set_cons_zero, List.set_cons_succ, List.tail_cons]
    first
      | (with_reducible apply held_v (n := 11) 7
         · rfl
         · kernel_rfl
         · kernel_rfl
         · kernel_rfl
         · exact hQ
         · with_reducible exact hK
         · rfl
         apply Exists.intro
         refine ⟨fun w' hC => ?_, ?_⟩
         · have k0_ := hC (w.heap.size) (by simp only [List.mem_cons, true_or, or_true])
           have k1_ := hC (w.heap.size + 1) (by simp only [List.mem_cons, true_or, or_true])
           have k2_ := hC (w.heap.size + 1 + 1) (by simp only [List.mem_cons, true_or, or_true])
           clear hC
           go_simp
           rfl)
      | (with_reducible apply held_s (n := 11) 7
         · rfl
         · kernel_rfl
         · kernel_rfl
         · kernel_rfl
         · exact hQ
         · with_reducible exact hK
         · rfl)
    try simp only [Act.put, List.setIfInBounds_toArray, List.set_cons_zero, List.set_cons_succ, List.tail_cons]
    with_reducible apply held_v (n := 10) 8
    · rfl
    · kernel_rfl
    · kernel_rfl
    · kernel_rfl
    · exact hQ
    · with_reducible exact hK
    · rfl
    apply Exists.intro
    refine ⟨fun w' hC => ?_, ?_⟩
    · have k0_ := hC (w.heap.size) (by simp only [List.mem_cons, true_or, or_true])
      have k1_ := hC (w.heap.size + 1) (by simp only [List.mem_cons, true_or, or_true])
      have k2_ := hC (w.heap.size + 1 + 1) (by simp only [List.mem_cons, true_or, or_true])
      clear hC
      go_simp
      rfl
    try simp only [Act.put, List.setIfInBounds_toArray, List.set_cons_zero, List.set_cons_succ, List.tail_cons]
    with_reducible apply held_v (n := 9) 9
    · rfl
    · kernel_rfl
    · kernel_rfl
    · kernel_rfl
    · exact hQ
    · with_reducible exact hK
    · rfl
    apply Exists.intro
    refine ⟨fun w' hC => ?_, ?_⟩
    · have k0_ := hC (w.heap.size) (by simp only [List.mem_cons, true_or, or_true])
      have k1_ := hC (w.heap.size + 1) (by simp only [List.mem_cons, true_or, or_true])
      have k2_ := hC (w.heap.size + 1 + 1) (by simp only [List.mem_cons, true_or, or_true])
      clear hC
      go_simp
      rfl
    try simp only [Act.put, List.setIfInBounds_toArray, List.set_cons_zero, List.set_cons_succ, List.tail_cons]
    first
      | (with_reducible apply held_v (n := 8) 10
         · rfl
         · kernel_rfl
         · kernel_rfl
         · kernel_rfl
         · exact hQ
         · with_reducible exact hK
         · rfl
         apply Exists.intro
         refine ⟨fun w' hC => ?_, ?_⟩
         · have k0_ := hC (w.heap.size) (by simp only [List.mem_cons, true_or, or_true])
           have k1_ := hC (w.heap.size + 1) (by simp only [List.mem_cons, true_or, or_true])
           have k2_ := hC (w.heap.size + 1 + 1) (by simp only [List.mem_cons, true_or, or_true])
           clear hC
           go_simp
           rfl)
      | (with_reducible apply held_s (n := 8) 10
         · rfl
         · kernel_rfl
         · kernel_rfl
         · kernel_rfl
         · exact hQ
         · with_reducible exact hK
         · rfl)
    try simp only [Act.put, List.setIfInBounds_toArray, List.set_cons_zero, List.set_cons_succ, List.tail_cons]
    first
      | (with_reducible apply held_v (n := 7) 12
         · rfl
         · kernel_rfl
         · kernel_rfl
         · kernel_rfl
         · exact hQ
         · with_reducible exact hK
         · rfl
         apply Exists.intro
         refine ⟨fun w' hC => ?_, ?_⟩
         · have k0_ := hC (w.heap.size) (by simp only [List.mem_cons, true_or, or_true])
           have k1_ := hC (w.heap.size + 1) (by simp only [List.mem_cons, true_or, or_true])
           have k2_ := hC (w.heap.size + 1 + 1) (by simp only [List.mem_cons, true_or, or_true])
           clear hC
           go_simp
           rfl)
      | (with_reducible apply held_s (n := 7) 12
         · rfl
         · kernel_rfl
         · kernel_rfl
         · kernel_rfl
         · exact hQ
         · with_reducible exact hK
         · rfl)
    try simp only [Act.put, List.setIfInBounds_toArray, List.set_cons_zero, List.set_cons_succ, List.tail_cons]
    first
      | (with_reducible apply held_v (n := 6) 13
         · rfl
         · kernel_rfl
         · kernel_rfl
         · kernel_rfl
         · exact hQ
         · with_reducible exact hK
         · rfl
         apply Exists.intro
         refine ⟨fun w' hC => ?_, ?_⟩
         · have k0_ := hC (w.heap.size) (by simp only [List.mem_cons, true_or, or_true])
           have k1_ := hC (w.heap.size + 1) (by simp only [List.mem_cons, true_or, or_true])
           have k2_ := hC (w.heap.size + 1 + 1) (by simp only [List.mem_cons, true_or, or_true])
           clear hC
           go_simp
           rfl)
      | (with_reducible apply held_s (n := 6) 13
         · rfl
         · kernel_rfl
         · kernel_rfl
         · kernel_rfl
         · exact hQ
         · with_reducible exact hK
         · rfl)
    try simp only [Act.put, List.setIfInBounds_toArray, List.set_cons_zero, List.set_cons_succ, List.tail_cons]
    first
      | (with_reducible apply held_v (n := 5) 14
         · rfl
         · kernel_rfl
         · kernel_rfl
         · kernel_rfl
         · exact hQ
         · with_reducible exact hK
         · rfl
         apply Exists.intro
         refine ⟨fun w' hC => ?_, ?_⟩
         · have k0_ := hC (w.heap.size) (by simp only [List.mem_cons, true_or, or_true])
           have k1_ := hC (w.heap.size + 1) (by simp only [List.mem_cons, true_or, or_true])
           have k2_ := hC (w.heap.size + 1 + 1) (by simp only [List.mem_cons, true_or, or_true])
           clear hC
           go_simp
           rfl)
      | (with_reducible apply held_s (n := 5) 14
         · rfl
         · kernel_rfl
         · kernel_rfl
         · kernel_rfl
         · exact hQ
         · with_reducible exact hK
         · rfl)
    try simp only [Act.put, List.setIfInBounds_toArray, List.set_cons_zero, List.set_cons_succ, List.tail_cons]
    with_reducible apply held_call (n := 4) 11
    · rfl
    · kernel_rfl
    · rfl
    · with_reducible exact hK
    apply Exists.intro
    apply Exists.intro
    apply Exists.intro
    refine ⟨?_, ?_, ?_, ?_⟩
    · go_simp
      exact ⟨rfl, rfl⟩
    · exact Hz.out _
    · intro b hb
      simp only [List.mem_cons, List.not_mem_nil, or_false] at hb
      rcases hb with rfl | rfl | rfl <;> first | omega | (simp; done) | (simp; omega)
    intro v11 h11 hK
    obtain ⟨c11, f11, s11⟩ := bfacts h11
    try simp only [World.size_alloc, World.size_setCell, size_drew, size_drewN] at s11
    try simp only [Act.put, List.setIfInBounds_toArray, List.set_cons_zero, List.set_cons_succ, List.tail_cons]
    with_reducible apply held_call (n := 3) 15
    · rfl
    · kernel_rfl
    · rfl
    · with_reducible exact hK
    apply Exists.intro
    apply Exists.intro
    apply Exists.intro
    refine ⟨?_, ?_, ?_, ?_⟩
    · go_simp
      exact ⟨rfl, rfl⟩
    · exact still_below (Hmask.out _)
    · intro b hb
      simp only [List.mem_cons, List.not_mem_nil, or_false] at hb
      rcases hb with rfl | rfl | rfl <;> first | omega | (simp; done) | (simp; omega)
    intro v15 h15 hK
    obtain ⟨c15, f15, s15⟩ := bfacts h15
    try simp only [World.size_alloc, World.size_setCell, size_drew, size_drewN] at s15
    try simp only [Act.put, List.setIfInBounds_toArray, List.set_cons_zero, List.set_cons_succ, List.tail_cons]
    first
      | (with_reducible apply held_v (n := 2) 16
         · rfl
         · kernel_rfl
         · kernel_rfl
         · kernel_rfl
         · exact hQ
         · with_reducible exact hK
         · rfl
         apply Exists.intro
         refine ⟨fun w' hC => ?_, ?_⟩
         · have k0_ := hC (w.heap.size) (by simp only [List.mem_cons, true_or, or_true])
           have k1_ := hC (w.heap.size + 1) (by simp only [List.mem_cons, true_or, or_true])
           have k2_ := hC (w.heap.size + 1 + 1) (by simp only [List.mem_cons, true_or, or_true])
           clear hC
           go_simp
           rfl)
      | (with_reducible apply held_s (n := 2) 16
         · rfl
         · kernel_rfl
         · kernel_rfl
         · kernel_rfl
         · exact hQ
         · with_reducible exact hK
         · rfl)
    try simp only [Act.put, List.setIfInBounds_toArray, List.set_cons_zero, List.set_cons_succ, List.tail_cons]
    with_reducible apply held_v (n := 1) 17
    · rfl
    · kernel_rfl
    · kernel_rfl
    · kernel_rfl
    · exact hQ
    · with_reducible exact hK
    · rfl
    apply Exists.intro
    refine ⟨fun w' hC => ?_, ?_⟩
    · have k0_ := hC (w.heap.size) (by simp only [List.mem_cons, true_or, or_true])
      have k1_ := hC (w.heap.size + 1) (by simp only [List.mem_cons, true_or, or_true])
      have k2_ := hC (w.heap.size + 1 + 1) (by simp only [List.mem_cons, true_or, or_true])
      clear hC
      go_simp
      rfl
    try simp only [Act.put, List.setIfInBounds_toArray, List.set_cons_zero, List.set_cons_succ, List.tail_cons]
    with_reducible apply held_v (n := 0) 18
    · rfl
    · kernel_rfl
    · kernel_rfl
    · kernel_rfl
    · exact hQ
    · with_reducible exact hK
    · rfl
    apply Exists.intro
    refine ⟨fun w' hC => ?_, ?_⟩
    · have k0_ := hC (w.heap.size) (by simp only [List.mem_cons, true_or, or_true])
      have k1_ := hC (w.heap.size + 1) (by simp only [List.mem_cons, true_or, or_true])
      have k2_ := hC (w.heap.size + 1 + 1) (by simp only [List.mem_cons, true_or, or_true])
      clear hC
      go_simp
      rfl
    try simp only [Act.put, List.setIfInBounds_toArray, List.set_cons_zero, List.set_cons_succ, List.tail_cons]
    refine held_end (by kernel_rfl) ?_
    clear hK hQ
    go_wp2_with fail
    refine bodyPost_ret (v := .bool true) (by simp only [results, Tryd.results8]; go_simp) rfl ⟨rfl, ?_⟩
    repeat first
      | with_reducible exact Below.refl _ _
      | with_reducible refine Below.drew ?_
      | with_reducible refine below_dN ?_
      | with_reducible refine Below.alloc ?_ (by first | omega | (simp; done) | (simp; omega)) _
      | with_reducible refine Below.setCell ?_ (by first | omega | (simp; done) | (simp; omega)) _
      | with_reducible refine Below.trans ?_ (Below.mono (by assumption) (by first | omega | (simp; done) | (simp; omega)))
end Go.Proofs.YtpebojiijgkadaaDoor
