/- The contract of law 5's pair. -/
import Derived.Test.YtpebojiijgkadaaDoorLawForm
import Derived.Test.YtpebojiijgkadaaDoorRefMask
import Derived.Test.YtpebojiijgkadaaDoorHeld
namespace Go.Proofs.YtpebojiijgkadaaDoor
set_option linter.all false
open Go.RowKit

theorem pr_gt1 (s : Bool) : 1 < pr s := by cases s <;> decide

set_option maxRecDepth 100000 in
set_option maxHeartbeats 4000000 in
theorem lawpair_c (s : Bool) (a b : Nat) (ha : a < R4) (hb : b < R4) (w : World) (hL : Laid w) :
    Calls Tryd.prog 15 #[.bool s, vec a, vec b] w fun e w' => e = .returned (.tuple #[fieldV s, vec (pr s), vec (mulm (pr s) 1 a), vec (mulm (pr s) 1 b)]) ∧ Below w.heap.size w w' := by
  have Hp := Lib.hid (pr_lt s)
  have H1 := Lib.hid (pr_gt1 s)
  go_enter Tryd.func15, Tryd.ntmps15
  go_wp2_with fail
  refine Calls.mono (lawID_c s _) ?_
  rintro _ _ ⟨rfl, rfl⟩
  go_wp2_with fail
  refine Calls.mono (get_c s _ (hL.step (by repeat first | exact Below.refl _ _ | refine Below.alloc ?_ (by first | omega | (simp; done) | (simp; omega)) _))) ?_
  rintro _ w1 ⟨rfl, h1⟩
  obtain ⟨c1, f1, s1⟩ := bfacts h1
  try simp only [World.size_alloc, World.size_setCell, size_drew, size_drewN] at s1
  have l_w_w1_0 : w.heap.size < w1.heap.size := by omega
  have l_w_w1_1 : w.heap.size + 1 < w1.heap.size := by omega
  have l_w_w1_2 : w.heap.size + 1 + 1 < w1.heap.size := by omega
  have l_w_w1_3 : w.heap.size + 1 + 1 + 1 < w1.heap.size := by omega
  have l_w_w1_4 : w.heap.size + 1 + 1 + 1 + 1 < w1.heap.size := by omega
  have l_w_w1_5 : w.heap.size + 1 + 1 + 1 + 1 + 1 < w1.heap.size := by omega
  go_wp2_with fail
  refine Calls.mono (lawID_c s _) ?_
  rintro _ _ ⟨rfl, rfl⟩
  go_wp2_with fail
  refine Calls.mono (refModulus_c s _) ?_
  rintro _ w2 ⟨rfl, h2⟩
  obtain ⟨c2, f2, s2⟩ := bfacts h2
  try simp only [World.size_alloc, World.size_setCell, size_drew, size_drewN] at s2
  have l_w_w2_0 : w.heap.size < w2.heap.size := by omega
  have l_w_w2_1 : w.heap.size + 1 < w2.heap.size := by omega
  have l_w_w2_2 : w.heap.size + 1 + 1 < w2.heap.size := by omega
  have l_w_w2_3 : w.heap.size + 1 + 1 + 1 < w2.heap.size := by omega
  have l_w_w2_4 : w.heap.size + 1 + 1 + 1 + 1 < w2.heap.size := by omega
  have l_w_w2_5 : w.heap.size + 1 + 1 + 1 + 1 + 1 < w2.heap.size := by omega
  have l_w1_w2_0 : w1.heap.size < w2.heap.size := by omega
  go_wp2_with fail
  refine held_begin 12 [w.heap.size, w.heap.size + 1, w1.heap.size, w2.heap.size] (by kernel_rfl) rfl (by intro _ _ d _ _ h; cases d <;> exact h) ?_
  intro hQ hK
  with_reducible apply held_v (n := 11) 0
  · rfl
  · kernel_rfl
  · kernel_rfl
  · kernel_rfl
  · exact hQ
  · with_reducible exact hK
  · rfl
  apply Exists.intro
  refine ⟨fun w' hC => ?_, ?_⟩
  · have k0_ := hC (w.heap.size) (by simp only [List.mem_cons, true_or, or_true])
    have k1_ := hC (w.heap.size + 1) (by simp only [List.mem_cons, true_or, or_true])
    have k2_ := hC (w1.heap.size) (by simp only [List.mem_cons, true_or, or_true])
    have k3_ := hC (w2.heap.size) (by simp only [List.mem_cons, true_or, or_true])
    clear hC
    go_simp
    rfl
  try simp only [Act.put, List.setIfInBounds_toArray, List.set_cons_zero, List.set_cons_succ, List.tail_cons]
  with_reducible apply held_v (n := 10) 1
  · rfl
  · kernel_rfl
  · kernel_rfl
  · kernel_rfl
  · exact hQ
  · with_reducible exact hK
  · rfl
  apply Exists.intro
  refine ⟨fun w' hC => ?_, ?_⟩
  · have k0_ := hC (w.heap.size) (by simp only [List.mem_cons, true_or, or_true])
    have k1_ := hC (w.heap.size + 1) (by simp only [List.mem_cons, true_or, or_true])
    have k2_ := hC (w1.heap.size) (by simp only [List.mem_cons, true_or, or_true])
    have k3_ := hC (w2.heap.size) (by simp only [List.mem_cons, true_or, or_true])
    clear hC
    go_simp
    rfl
  try simp only [Act.put, List.setIfInBounds_toArray, List.set_cons_zero, List.set_cons_succ, List.tail_cons]
  with_reducible apply held_v (n := 9) 2
  · rfl
  · kernel_rfl
  · kernel_rfl
  · kernel_rfl
  · exact hQ
  · with_reducible exact hK
  · rfl
  apply Exists.intro
  refine ⟨fun w' hC => ?_, ?_⟩
  · have k0_ := hC (w.heap.size) (by simp only [List.mem_cons, true_or, or_true])
    have k1_ := hC (w.heap.size + 1) (by simp only [List.mem_cons, true_or, or_true])
    have k2_ := hC (w1.heap.size) (by simp only [List.mem_cons, true_or, or_true])
    have k3_ := hC (w2.heap.size) (by simp only [List.mem_cons, true_or, or_true])
    clear hC
    go_simp
    rfl
  try simp only [Act.put, List.setIfInBounds_toArray, List.set_cons_zero, List.set_cons_succ, List.tail_cons]
  with_reducible apply held_v (n := 8) 3
  · rfl
  · kernel_rfl
  · kernel_rfl
  · kernel_rfl
  · exact hQ
  · with_reducible exact hK
  · rfl
  apply Exists.intro
  refine ⟨fun w' hC => ?_, ?_⟩
  · have k0_ := hC (w.heap.size) (by simp only [List.mem_cons, true_or, or_true])
    have k1_ := hC (w.heap.size + 1) (by simp only [List.mem_cons, true_or, or_true])
    have k2_ := hC (w1.heap.size) (by simp only [List.mem_cons, true_or, or_true])
    have k3_ := hC (w2.heap.size) (by simp only [List.mem_cons, true_or, or_true])
    clear hC
    go_simp
    rfl
  try simp only [Act.put, List.setIfInBounds_toArray, List.set_cons_zero, List.set_cons_succ, List.tail_cons]
  with_reducible apply held_v (n := 7) 5
  · rfl
  · kernel_rfl
  · kernel_rfl
  · kernel_rfl
  · exact hQ
  · with_reducible exact hK
  · rfl
  apply Exists.intro
  refine ⟨fun w' hC => ?_, ?_⟩
  · have k0_ := hC (w.heap.size) (by simp only [List.mem_cons, true_or, or_true])
    have k1_ := hC (w.heap.size + 1) (by simp only [List.mem_cons, true_or, or_true])
    have k2_ := hC (w1.heap.size) (by simp only [List.mem_cons, true_or, or_true])
    have k3_ := hC (w2.heap.size) (by simp only [List.mem_cons, true_or, or_true])
    clear hC
    go_simp
    rfl
  try simp only [Act.put, List.setIfInBounds_toArray, List.set_cons_zero, List.set_cons_succ, List.tail_cons]
  with_reducible apply held_v (n := 6) 6
  · rfl
  · kernel_rfl
  · kernel_rfl
  · kernel_rfl
  · exact hQ
  · with_reducible exact hK
  · rfl
  apply Exists.intro
  refine ⟨fun w' hC => ?_, ?_⟩
  · have k0_ := hC (w.heap.size) (by simp only [List.mem_cons, true_or, or_true])
    have k1_ := hC (w.heap.size + 1) (by simp only [List.mem_cons, true_or, or_true])
    have k2_ := hC (w1.heap.size) (by simp only [List.mem_cons, true_or, or_true])
    have k3_ := hC (w2.heap.size) (by simp only [List.mem_cons, true_or, or_true])
    clear hC
    go_simp
    rfl
  try simp only [Act.put, List.setIfInBounds_toArray, List.set_cons_zero, List.set_cons_succ, List.tail_cons]
  with_reducible apply held_call (n := 5) 4
  · rfl
  · kernel_rfl
  · rfl
  · with_reducible exact hK
  apply Exists.intro
  apply Exists.intro
  apply Exists.intro
  refine ⟨?_, ?_, ?_, ?_⟩
  · go_simp
    exact ⟨rfl, rfl⟩
  · exact refMod_c (pr s) a Hp.out H1.out ha _
  · intro b hb
    simp only [List.mem_cons, List.not_mem_nil, or_false] at hb
    rcases hb with rfl | rfl | rfl | rfl <;> first | omega | (simp; done) | (simp; omega)
  intro v4 h4 hK
  obtain ⟨c4, f4, s4⟩ := bfacts h4
  try simp only [World.size_alloc, World.size_setCell, size_drew, size_drewN] at s4
  have l_w_v4_0 : w.heap.size < v4.heap.size := by omega
  have l_w_v4_1 : w.heap.size + 1 < v4.heap.size := by omega
  have l_w_v4_2 : w.heap.size + 1 + 1 < v4.heap.size := by omega
  have l_w_v4_3 : w.heap.size + 1 + 1 + 1 < v4.heap.size := by omega
  have l_w_v4_4 : w.heap.size + 1 + 1 + 1 + 1 < v4.heap.size := by omega
  have l_w_v4_5 : w.heap.size + 1 + 1 + 1 + 1 + 1 < v4.heap.size := by omega
  try simp only [Act.put, List.setIfInBounds_toArray, List.set_cons_zero, List.set_cons_succ, List.tail_cons]
  with_reducible apply held_call (n := 4) 7
  · rfl
  · kernel_rfl
  · rfl
  · with_reducible exact hK
  apply Exists.intro
  apply Exists.intro
  apply Exists.intro
  refine ⟨?_, ?_, ?_, ?_⟩
  · go_simp
    exact ⟨rfl, rfl⟩
  · exact refMod_c (pr s) b Hp.out H1.out hb _
  · intro b hb
    simp only [List.mem_cons, List.not_mem_nil, or_false] at hb
    rcases hb with rfl | rfl | rfl | rfl <;> first | omega | (simp; done) | (simp; omega)
  intro v7 h7 hK
  obtain ⟨c7, f7, s7⟩ := bfacts h7
  try simp only [World.size_alloc, World.size_setCell, size_drew, size_drewN] at s7
  have l_w_v7_0 : w.heap.size < v7.heap.size := by omega
  have l_w_v7_1 : w.heap.size + 1 < v7.heap.size := by omega
  have l_w_v7_2 : w.heap.size + 1 + 1 < v7.heap.size := by omega
  have l_w_v7_3 : w.heap.size + 1 + 1 + 1 < v7.heap.size := by omega
  have l_w_v7_4 : w.heap.size + 1 + 1 + 1 + 1 < v7.heap.size := by omega
  have l_w_v7_5 : w.heap.size + 1 + 1 + 1 + 1 + 1 < v7.heap.size := by omega
  try simp only [Act.put, List.setIfInBounds_toArray, List.set_cons_zero, List.set_cons_succ, List.tail_cons]
  with_reducible apply held_t (n := 3) 8
  · rfl
  · kernel_rfl
  · rfl
  apply Exists.intro
  refine ⟨?_, ?_, ?_⟩
  · go_simp
    rfl
  · repeat first
      | with_reducible exact hK
      | with_reducible refine KeepL.drewN ?_ _
      | with_reducible (refine KeepL.set ?_ _ _ (by intro b hb; simp only [List.mem_cons, List.not_mem_nil, or_false] at hb; rcases hb with rfl | rfl | rfl | rfl <;> (first | omega | (simp; done) | (simp; omega))))
      | with_reducible (refine KeepL.alloc ?_ _ (by intro b hb; simp only [List.mem_cons, List.not_mem_nil, or_false] at hb; rcases hb with rfl | rfl | rfl | rfl <;> (first | omega | (simp; done) | (simp; omega))))
  intro hK
  try simp only [Act.put, List.setIfInBounds_toArray, List.set_cons_zero, List.set_cons_succ, List.tail_cons]
  with_reducible apply held_t (n := 2) 9
  · rfl
  · kernel_rfl
  · rfl
  apply Exists.intro
  refine ⟨?_, ?_, ?_⟩
  · go_simp
    rfl
  · repeat first
      | with_reducible exact hK
      | with_reducible refine KeepL.drewN ?_ _
      | with_reducible (refine KeepL.set ?_ _ _ (by intro b hb; simp only [List.mem_cons, List.not_mem_nil, or_false] at hb; rcases hb with rfl | rfl | rfl | rfl <;> (first | omega | (simp; done) | (simp; omega))))
      | with_reducible (refine KeepL.alloc ?_ _ (by intro b hb; simp only [List.mem_cons, List.not_mem_nil, or_false] at hb; rcases hb with rfl | rfl | rfl | rfl <;> (first | omega | (simp; done) | (simp; omega))))
  intro hK
  try simp only [Act.put, List.setIfInBounds_toArray, List.set_cons_zero, List.set_cons_succ, List.tail_cons]
  with_reducible apply held_t (n := 1) 10
  · rfl
  · kernel_rfl
  · rfl
  apply Exists.intro
  refine ⟨?_, ?_, ?_⟩
  · go_simp
    rfl
  · repeat first
      | with_reducible exact hK
      | with_reducible refine KeepL.drewN ?_ _
      | with_reducible (refine KeepL.set ?_ _ _ (by intro b hb; simp only [List.mem_cons, List.not_mem_nil, or_false] at hb; rcases hb with rfl | rfl | rfl | rfl <;> (first | omega | (simp; done) | (simp; omega))))
      | with_reducible (refine KeepL.alloc ?_ _ (by intro b hb; simp only [List.mem_cons, List.not_mem_nil, or_false] at hb; rcases hb with rfl | rfl | rfl | rfl <;> (first | omega | (simp; done) | (simp; omega))))
  intro hK
  try simp only [Act.put, List.setIfInBounds_toArray, List.set_cons_zero, List.set_cons_succ, List.tail_cons]
  with_reducible apply held_t (n := 0) 11
  · rfl
  · kernel_rfl
  · rfl
  apply Exists.intro
  refine ⟨?_, ?_, ?_⟩
  · go_simp
    rfl
  · repeat first
      | with_reducible exact hK
      | with_reducible refine KeepL.drewN ?_ _
      | with_reducible (refine KeepL.set ?_ _ _ (by intro b hb; simp only [List.mem_cons, List.not_mem_nil, or_false] at hb; rcases hb with rfl | rfl | rfl | rfl <;> (first | omega | (simp; done) | (simp; omega))))
      | with_reducible (refine KeepL.alloc ?_ _ (by intro b hb; simp only [List.mem_cons, List.not_mem_nil, or_false] at hb; rcases hb with rfl | rfl | rfl | rfl <;> (first | omega | (simp; done) | (simp; omega))))
  intro hK
  try simp only [Act.put, List.setIfInBounds_toArray, List.set_cons_zero, List.set_cons_succ, List.tail_cons]
  refine held_end (by kernel_rfl) ?_
  clear hK hQ
  go_wp2_with fail
  refine bodyPost_ret (v := .tuple #[fieldV s, vec (pr s), vec (mulm (pr s) 1 a), vec (mulm (pr s) 1 b)]) (by simp only [results, Tryd.results15]; go_simp) rfl ⟨rfl, ?_⟩
  repeat first
    | with_reducible exact Below.refl _ _
    | with_reducible refine Below.drew ?_
    | with_reducible refine below_dN ?_
    | with_reducible refine Below.alloc ?_ (by first | omega | (simp; done) | (simp; omega)) _
    | with_reducible refine Below.setCell ?_ (by first | omega | (simp; done) | (simp; omega)) _
    | with_reducible refine Below.trans ?_ (Below.mono (by assumption) (by first | omega | (simp; done) | (simp; omega)))
end Go.Proofs.YtpebojiijgkadaaDoor
