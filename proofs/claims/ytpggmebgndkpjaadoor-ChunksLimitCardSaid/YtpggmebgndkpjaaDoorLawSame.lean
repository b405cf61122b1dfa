/- The contract of law 13's same, on elements that are the forms of the values. -/
import Derived.Test.YtpggmebgndkpjaaDoorRefChunks
import Derived.Test.YtpggmebgndkpjaaDoorAliveThirteen
namespace Go.Proofs.YtpggmebgndkpjaaDoor
set_option linter.all false
open Go Go.RowKit Go.Shelf

set_option maxRecDepth 100000 in
set_option maxHeartbeats 8000000 in
theorem same_c (s : Bool) (a b : Option Addr) (n c d : Nat) (X V : Nat → Nat) (hn : n ≤ 70000) (w : World) (HX : Hid (VecsAt w a n X)) (HV : Hid (VecsAt w b n V)) (HE : Hid (∀ i, i < n → V i < R4 ∧ X i = RR s (V i)))
    (hform : Hid (∀ x w, x < R4 → Calls Tryd.prog 63 #[vec (pr s), vec x] w fun e w' => e = .returned (vec (RR s x)) ∧ Below w.heap.size w w')) :
    Calls Tryd.prog 36 #[vec (pr s), .slice a n c, .slice b n d] w fun e w' => e = .returned (.bool true) ∧ Below w.heap.size w w' := by
  go_enter Tryd.func36, Tryd.ntmps36
  go_wp2_with fail
  go_loopw [15] (fun i wr => ∃ k : Nat, k ≤ n ∧ i = .int .i64 (k : Int) ∧ Below (w.heap.size + 1) (w.alloc (.cells #[.int .u64 ((dg 0 (pr s) : Nat) : Int), .int .u64 ((dg 1 (pr s) : Nat) : Int), .int .u64 ((dg 2 (pr s) : Nat) : Int), .int .u64 ((dg 3 (pr s) : Nat) : Int)] 44)) wr) (fun i _ => n - (intOf i).toNat)
  case atStart => exact ⟨0, Nat.zero_le _, rfl, Below.refl _ _⟩
  case round =>
    obtain ⟨k, hk, rfl, hbel⟩ := hrel
    have Hbel := Lib.hid hbel
    by_cases hlt : k < n
    · obtain ⟨ba, oa, rfl, hba, hca⟩ := HX.out.at_.resolve_left (by omega)
      obtain ⟨bb, ob, rfl, hbb, hcb⟩ := HV.out.at_.resolve_left (by omega)
      obtain ⟨hv4, hxe⟩ := HE.out k hlt
      have hk7 : (k : Int) < (n : Int) := by omega
      have hwa : Below w.heap.size w wr := ((Below.refl _ w).alloc (Nat.le_refl _) _).trans (Below.mono hbel (Nat.le_succ _))
      have hsz := hbel.size
      simp only [World.size_alloc] at hsz
      have Hca := Lib.hid (fun j hj => by rw [← hxe]; exact (hwa.cell (p := ⟨ba, oa + k * 4 + j, none⟩) hba).trans (hca k hlt j hj) : ∀ j, j < 4 → wr.cell? ⟨ba, oa + k * 4 + j, none⟩ = some (.int .u64 ((dg j (RR s (V k)) : Nat) : Int)))
      have Hcb := Lib.hid (fun j hj => (hwa.cell (p := ⟨bb, ob + k * 4 + j, none⟩) hbb).trans (hcb k hlt j hj) : ∀ j, j < 4 → wr.cell? ⟨bb, ob + k * 4 + j, none⟩ = some (.int .u64 ((dg j (V k) : Nat) : Int)))
      have Hb0 := Lib.hid (fun j hj => by
        rw [Nat.zero_add, hbel.cell (p := ⟨w.heap.size, j, none⟩) (Nat.lt_succ_self _), cell_of_row _ w.heap.size j _ _ _ (heap_alloc_new w _)]
        have h : j = 0 ∨ j = 1 ∨ j = 2 ∨ j = 3 := by omega
        rcases h with rfl | rfl | rfl | rfl <;> rfl : ∀ j, j < 4 → wr.cell? ⟨w.heap.size, 0 + j, none⟩ = some (.int .u64 ((dg j (pr s) : Nat) : Int)))
      have hla : ba < wr.heap.size := by omega
      have hlb : bb < wr.heap.size := by omega
      have hl0 : w.heap.size < wr.heap.size := by omega
      clear hca hcb hwa hbel hsz hxe
      go_wp2_with fail
      refine held_begin 11 [w.heap.size, ba, bb] (by kernel_rfl) rfl (by intro _ _ d _ _ h; cases d <;> exact h) ?_
      intro hQ hK
      with_reducible apply held_v (n := 10) 0
      · rfl
      · kernel_rfl
      · kernel_rfl
      · kernel_rfl
      · exact hQ
      · with_reducible exact hK
      · rfl
      apply Exists.intro
      refine ⟨fun w' hC => ?_, ?_⟩
      · have k0_ := hC (w.heap.size) (by simp only [List.mem_cons, true_or, or_true])
        have k1_ := hC (ba) (by simp only [List.mem_cons, true_or, or_true])
        have k2_ := hC (bb) (by simp only [List.mem_cons, true_or, or_true])
        clear hC
        go_simp
        rfl
      try simp only [Act.put, List.setIfInBounds_toArray, List.set_cons_zero, List.set_cons_succ, List.tail_cons]
      with_reducible apply held_v (n := 9) 1
      · rfl
      · kernel_rfl
      · kernel_rfl
      · kernel_rfl
      · exact hQ
      · with_reducible exact hK
      · rfl
      apply Exists.intro
      refine ⟨fun w' hC => ?_, ?_⟩
      · have k0_ := hC (w.heap.size) (by simp only [List.mem_cons, true_or, or_true])
        have k1_ := hC (ba) (by simp only [List.mem_cons, true_or, or_true])
        have k2_ := hC (bb) (by simp only [List.mem_cons, true_or, or_true])
        clear hC
        go_simp
        rfl
      try simp only [Act.put, List.setIfInBounds_toArray, List.set_cons_zero, List.set_cons_succ, List.tail_cons]
      with_reducible apply held_v (n := 8) 2
      · rfl
      · kernel_rfl
      · kernel_rfl
      · kernel_rfl
      · exact hQ
      · with_reducible exact hK
      · rfl
      apply Exists.intro
      refine ⟨fun w' hC => ?_, ?_⟩
      · have k0_ := hC (w.heap.size) (by simp only [List.mem_cons, true_or, or_true])
        have k1_ := hC (ba) (by simp only [List.mem_cons, true_or, or_true])
        have k2_ := hC (bb) (by simp only [List.mem_cons, true_or, or_true])
        clear hC
        go_simp
        rfl
      try simp only [Act.put, List.setIfInBounds_toArray, List.set_cons_zero, List.set_cons_succ, List.tail_cons]
      with_reducible apply held_v (n := 7) 3
      · rfl
      · kernel_rfl
      · kernel_rfl
      · kernel_rfl
      · exact hQ
      · with_reducible exact hK
      · rfl
      apply Exists.intro
      refine ⟨fun w' hC => ?_, ?_⟩
      · have k0_ := hC (w.heap.size) (by simp only [List.mem_cons, true_or, or_true])
        have k1_ := hC (ba) (by simp only [List.mem_cons, true_or, or_true])
        have k2_ := hC (bb) (by simp only [List.mem_cons, true_or, or_true])
        clear hC
        have hl := load_elem (W := w') (b := ba) (p := oa + k * 4) (x := RR s (V k)) (fun j hj => (k1_ (oa + k * 4 + j)).trans (Hca.out j hj))
        exact exec_load rfl rfl hl
      try simp only [Act.put, List.setIfInBounds_toArray, List.set_cons_zero, List.set_cons_succ, List.tail_cons]
      with_reducible apply held_v (n := 6) 4
      · rfl
      · kernel_rfl
      · kernel_rfl
      · kernel_rfl
      · exact hQ
      · with_reducible exact hK
      · rfl
      apply Exists.intro
      refine ⟨fun w' hC => ?_, ?_⟩
      · have k0_ := hC (w.heap.size) (by simp only [List.mem_cons, true_or, or_true])
        have k1_ := hC (ba) (by simp only [List.mem_cons, true_or, or_true])
        have k2_ := hC (bb) (by simp only [List.mem_cons, true_or, or_true])
        clear hC
        have hl := load_vec (W := w') (b := w.heap.size) (p := 0) (x := pr s) (fun j hj => (k0_ (0 + j)).trans (Hb0.out j hj))
        exact exec_load rfl rfl hl
      try simp only [Act.put, List.setIfInBounds_toArray, List.set_cons_zero, List.set_cons_succ, List.tail_cons]
      with_reducible apply held_v (n := 5) 5
      · rfl
      · kernel_rfl
      · kernel_rfl
      · kernel_rfl
      · exact hQ
      · with_reducible exact hK
      · rfl
      apply Exists.intro
      refine ⟨fun w' hC => ?_, ?_⟩
      · have k0_ := hC (w.heap.size) (by simp only [List.mem_cons, true_or, or_true])
        have k1_ := hC (ba) (by simp only [List.mem_cons, true_or, or_true])
        have k2_ := hC (bb) (by simp only [List.mem_cons, true_or, or_true])
        clear hC
        go_simp
        rfl
      try simp only [Act.put, List.setIfInBounds_toArray, List.set_cons_zero, List.set_cons_succ, List.tail_cons]
      with_reducible apply held_v (n := 4) 6
      · rfl
      · kernel_rfl
      · kernel_rfl
      · kernel_rfl
      · exact hQ
      · with_reducible exact hK
      · rfl
      apply Exists.intro
      refine ⟨fun w' hC => ?_, ?_⟩
      · have k0_ := hC (w.heap.size) (by simp only [List.mem_cons, true_or, or_true])
        have k1_ := hC (ba) (by simp only [List.mem_cons, true_or, or_true])
        have k2_ := hC (bb) (by simp only [List.mem_cons, true_or, or_true])
        clear hC
        go_simp
        rfl
      try simp only [Act.put, List.setIfInBounds_toArray, List.set_cons_zero, List.set_cons_succ, List.tail_cons]
      with_reducible apply held_v (n := 3) 7
      · rfl
      · kernel_rfl
      · kernel_rfl
      · kernel_rfl
      · exact hQ
      · with_reducible exact hK
      · rfl
      apply Exists.intro
      refine ⟨fun w' hC => ?_, ?_⟩
      · have k0_ := hC (w.heap.size) (by simp only [List.mem_cons, true_or, or_true])
        have k1_ := hC (ba) (by simp only [List.mem_cons, true_or, or_true])
        have k2_ := hC (bb) (by simp only [List.mem_cons, true_or, or_true])
        clear hC
        go_simp
        rfl
      try simp only [Act.put, List.setIfInBounds_toArray, List.set_cons_zero, List.set_cons_succ, List.tail_cons]
      with_reducible apply held_v (n := 2) 8
      · rfl
      · kernel_rfl
      · kernel_rfl
      · kernel_rfl
      · exact hQ
      · with_reducible exact hK
      · rfl
      apply Exists.intro
      refine ⟨fun w' hC => ?_, ?_⟩
      · have k0_ := hC (w.heap.size) (by simp only [List.mem_cons, true_or, or_true])
        have k1_ := hC (ba) (by simp only [List.mem_cons, true_or, or_true])
        have k2_ := hC (bb) (by simp only [List.mem_cons, true_or, or_true])
        clear hC
        have hl := load_vec (W := w') (b := bb) (p := ob + k * 4) (x := V k) (fun j hj => (k2_ (ob + k * 4 + j)).trans (Hcb.out j hj))
        exact exec_load rfl rfl hl
      try simp only [Act.put, List.setIfInBounds_toArray, List.set_cons_zero, List.set_cons_succ, List.tail_cons]
      with_reducible apply held_call (n := 1) 9
      · rfl
      · kernel_rfl
      · rfl
      · with_reducible exact hK
      apply Exists.intro
      apply Exists.intro
      apply Exists.intro
      refine ⟨?_, ?_, ?_, ?_⟩
      · go_simp
        exact ⟨rfl, rfl⟩
      · exact hform.out _ _ hv4
      · intro b hb
        simp only [List.mem_cons, List.not_mem_nil, or_false] at hb
        rcases hb with rfl | rfl | rfl <;> first | omega | (simp; done) | (simp; omega)
      intro v9 h9 hK
      obtain ⟨c9, f9, s9⟩ := bfacts h9
      try simp only [World.size_alloc, World.size_setCell, size_drew, size_drewN] at s9
      try simp only [Act.put, List.setIfInBounds_toArray, List.set_cons_zero, List.set_cons_succ, List.tail_cons]
      with_reducible apply held_v (n := 0) 10
      · rfl
      · kernel_rfl
      · kernel_rfl
      · kernel_rfl
      · exact hQ
      · with_reducible exact hK
      · rfl
      apply Exists.intro
      refine ⟨fun w' hC => ?_, ?_⟩
      · have k0_ := hC (w.heap.size) (by simp only [List.mem_cons, true_or, or_true])
        have k1_ := hC (ba) (by simp only [List.mem_cons, true_or, or_true])
        have k2_ := hC (bb) (by simp only [List.mem_cons, true_or, or_true])
        clear hC
        go_simp
        rfl
      try simp only [Act.put, List.setIfInBounds_toArray, List.set_cons_zero, List.set_cons_succ, List.tail_cons]
      refine held_end (by kernel_rfl) ?_
      clear hK hQ
      have hb9 : Below wr.heap.size wr v9 := (by repeat first | with_reducible exact Below.refl _ _ | with_reducible refine Below.drew ?_ | with_reducible refine below_dN ?_ | with_reducible refine Below.alloc ?_ (by first | omega | (simp; done) | (simp; omega)) _ | with_reducible refine Below.setCell ?_ (by first | omega | (simp; done) | (simp; omega)) _ | with_reducible refine Below.trans ?_ (Below.mono (by assumption) (by first | omega | (simp; done) | (simp; omega))))
      have R := Lib.hid (Hbel.out.trans (Below.mono hb9 (by have := Hbel.out.size; simp only [World.size_alloc] at this; omega)))
      go_wp2_with fail
      go_roundw
      case rel => exact ⟨k + 1, by omega, by go_num, R.out⟩
      case measure => simp [intOf]; omega
    · obtain rfl : k = n := by omega
      go_wp2_with fail
      refine bodyPost_ret (v := .bool true) (by simp only [results, Tryd.results36]; go_simp) rfl ⟨rfl, ?_⟩
      exact ((Below.refl _ w).alloc (Nat.le_refl _) _).trans (Below.mono Hbel.out (Nat.le_succ _))
end Go.Proofs.YtpggmebgndkpjaaDoor
