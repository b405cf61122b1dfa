/- The contracts of Clone and Len. -/
import Derived.Test.YtdaggankfokloaaDoorWrite
import Derived.Test.YtdaggankfokloaaDoorHeldM
namespace Go.Proofs.YtdaggankfokloaaDoor
set_option linter.all false
open Go Go.RowKit

set_option maxRecDepth 100000 in
set_option maxHeartbeats 8000000 in
theorem cloneH_walk (C p n : Nat) (f : Nat → Nat) (S : St) (ra : Option Addr) (rc : Nat) (w : World) (GH : Hid (HeadAt w p S n)) (hr : w.cell? ⟨p, 8, none⟩ = some (.slice ra (n % 64) rc))
    (hcl : Hid (∀ w', Below w.heap.size w w' → Calls Tryd.prog 23 #[.slice ra (n % 64) rc] w' fun e w'' => (∃ r, e = .returned r ∧ w''.ownsRow w'.heap.size 5 1 r (n % 64) (fl f (n % 64))) ∧ Below w'.heap.size w' w'')) :
    Calls Tryd.prog 18 #[.pointer (some ⟨p, 0, none⟩)] w fun e w' => (∃ w1 a c, w1.ownsRow w.heap.size 5 1 (.slice a (n % 64) c) (n % 64) (fl f (n % 64)) ∧ Below w.heap.size w w1 ∧ e = .returned (.pointer (some ⟨w1.heap.size, 0, none⟩)) ∧
      w' = w1.alloc (.cells #[.int .u32 ((S.a : Nat) : Int), .int .u32 ((S.b : Nat) : Int), .int .u32 ((S.c : Nat) : Int), .int .u32 ((S.d : Nat) : Int), .int .u32 ((S.e : Nat) : Int), .int .u32 ((S.f : Nat) : Int), .int .u32 ((S.g : Nat) : Int), .int .u32 ((S.h : Nat) : Int), .slice a (n % 64) c, .int .i64 (n : Int)] 46)) := by
  have lp := GH.out.blk
  have k0 : w.cell? ⟨p, 0, none⟩ = some (.int .u32 ((S.a : Nat) : Int)) := GH.out.st 0 (by decide)
  have k1 : w.cell? ⟨p, 1, none⟩ = some (.int .u32 ((S.b : Nat) : Int)) := GH.out.st 1 (by decide)
  have k2 : w.cell? ⟨p, 2, none⟩ = some (.int .u32 ((S.c : Nat) : Int)) := GH.out.st 2 (by decide)
  have k3 : w.cell? ⟨p, 3, none⟩ = some (.int .u32 ((S.d : Nat) : Int)) := GH.out.st 3 (by decide)
  have k4 : w.cell? ⟨p, 4, none⟩ = some (.int .u32 ((S.e : Nat) : Int)) := GH.out.st 4 (by decide)
  have k5 : w.cell? ⟨p, 5, none⟩ = some (.int .u32 ((S.f : Nat) : Int)) := GH.out.st 5 (by decide)
  have k6 : w.cell? ⟨p, 6, none⟩ = some (.int .u32 ((S.g : Nat) : Int)) := GH.out.st 6 (by decide)
  have k7 : w.cell? ⟨p, 7, none⟩ = some (.int .u32 ((S.h : Nat) : Int)) := GH.out.st 7 (by decide)
  have k9 := GH.out.c9
  go_enter Tryd.func18, Tryd.ntmps18
  go_wp2_with fail
  refine heldm_begin 16 [p] (by kernel_rfl) rfl (by intro _ _ d _ _ h; cases d <;> exact h) ?_
  intro hQ hK
  with_reducible apply heldm_v (n := 15) (m' := 1) 0
  · exact Nat.le_of_ble_eq_true (by kernel_rfl)
  · rfl
  · kernel_rfl
  · kernel_rfl
  · kernel_rfl
  · kernel_rfl
  · kernel_rfl
  · kernel_rfl
  · exact hQ
  · with_reducible exact hK
  · rfl
  apply Exists.intro
  refine ⟨fun w' hC => ?_, ?_⟩
  · have k0_ := hC (p) (by simp only [List.mem_cons, true_or, or_true])
    clear hC
    go_simp
    rfl
  try simp only [Act.put, List.setIfInBounds_toArray, List.set_cons_zero, List.set_cons_succ, List.tail_cons]
  with_reducible apply heldm_v (n := 14) (m' := 3) 1
  · exact Nat.le_of_ble_eq_true (by kernel_rfl)
  · rfl
  · kernel_rfl
  · kernel_rfl
  · kernel_rfl
  · kernel_rfl
  · kernel_rfl
  · kernel_rfl
  · exact hQ
  · with_reducible exact hK
  · rfl
  apply Exists.intro
  refine ⟨fun w' hC => ?_, ?_⟩
  · have k0_ := hC (p) (by simp only [List.mem_cons, true_or, or_true])
    clear hC
    go_simp
    rfl
  try simp only [Act.put, List.setIfInBounds_toArray, List.set_cons_zero, List.set_cons_succ, List.tail_cons]
  with_reducible apply heldm_v (n := 13) (m' := 7) 2
  · exact Nat.le_of_ble_eq_true (by kernel_rfl)
  · rfl
  · kernel_rfl
  · kernel_rfl
  · kernel_rfl
  · kernel_rfl
  · kernel_rfl
  · kernel_rfl
  · exact hQ
  · with_reducible exact hK
  · rfl
  apply Exists.intro
  refine ⟨fun w' hC => ?_, ?_⟩
  · have k0_ := hC (p) (by simp only [List.mem_cons, true_or, or_true])
    clear hC
    go_simp
    rfl
  try simp only [Act.put, List.setIfInBounds_toArray, List.set_cons_zero, List.set_cons_succ, List.tail_cons]
  with_reducible apply heldm_v (n := 12) (m' := 15) 3
  · exact Nat.le_of_ble_eq_true (by kernel_rfl)
  · rfl
  · kernel_rfl
  · kernel_rfl
  · kernel_rfl
  · kernel_rfl
  · kernel_rfl
  · kernel_rfl
  · exact hQ
  · with_reducible exact hK
  · rfl
  apply Exists.intro
  refine ⟨fun w' hC => ?_, ?_⟩
  · have k0_ := hC (p) (by simp only [List.mem_cons, true_or, or_true])
    clear hC
    go_simp
    rfl
  try simp only [Act.put, List.setIfInBounds_toArray, List.set_cons_zero, List.set_cons_succ, List.tail_cons]
  with_reducible apply heldm_v (n := 11) (m' := 31) 4
  · exact Nat.le_of_ble_eq_true (by kernel_rfl)
  · rfl
  · kernel_rfl
  · kernel_rfl
  · kernel_rfl
  · kernel_rfl
  · kernel_rfl
  · kernel_rfl
  · exact hQ
  · with_reducible exact hK
  · rfl
  apply Exists.intro
  refine ⟨fun w' hC => ?_, ?_⟩
  · have k0_ := hC (p) (by simp only [List.mem_cons, true_or, or_true])
    clear hC
    go_simp
    rfl
  try simp only [Act.put, List.setIfInBounds_toArray, List.set_cons_zero, List.set_cons_succ, List.tail_cons]
  with_reducible apply heldm_v (n := 10) (m' := 63) 5
  · exact Nat.le_of_ble_eq_true (by kernel_rfl)
  · rfl
  · kernel_rfl
  · kernel_rfl
  · kernel_rfl
  · kernel_rfl
  · kernel_rfl
  · kernel_rfl
  · exact hQ
  · with_reducible exact hK
  · rfl
  apply Exists.intro
  refine ⟨fun w' hC => ?_, ?_⟩
  · have k0_ := hC (p) (by simp only [List.mem_cons, true_or, or_true])
    clear hC
    go_simp
    rfl
  try simp only [Act.put, List.setIfInBounds_toArray, List.set_cons_zero, List.set_cons_succ, List.tail_cons]
  with_reducible apply heldm_v (n := 9) (m' := 127) 6
  · exact Nat.le_of_ble_eq_true (by kernel_rfl)
  · rfl
  · kernel_rfl
  · kernel_rfl
  · kernel_rfl
  · kernel_rfl
  · kernel_rfl
  · kernel_rfl
  · exact hQ
  · with_reducible exact hK
  · rfl
  apply Exists.intro
  refine ⟨fun w' hC => ?_, ?_⟩
  · have k0_ := hC (p) (by simp only [List.mem_cons, true_or, or_true])
    clear hC
    go_simp
    rfl
  try simp only [Act.put, List.setIfInBounds_toArray, List.set_cons_zero, List.set_cons_succ, List.tail_cons]
  with_reducible apply heldm_v (n := 8) (m' := 255) 7
  · exact Nat.le_of_ble_eq_true (by kernel_rfl)
  · rfl
  · kernel_rfl
  · kernel_rfl
  · kernel_rfl
  · kernel_rfl
  · kernel_rfl
  · kernel_rfl
  · exact hQ
  · with_reducible exact hK
  · rfl
  apply Exists.intro
  refine ⟨fun w' hC => ?_, ?_⟩
  · have k0_ := hC (p) (by simp only [List.mem_cons, true_or, or_true])
    clear hC
    go_simp
    rfl
  try simp only [Act.put, List.setIfInBounds_toArray, List.set_cons_zero, List.set_cons_succ, List.tail_cons]
  with_reducible apply heldm_v (n := 7) (m' := 767) 9
  · exact Nat.le_of_ble_eq_true (by kernel_rfl)
  · rfl
  · kernel_rfl
  · kernel_rfl
  · kernel_rfl
  · kernel_rfl
  · kernel_rfl
  · kernel_rfl
  · exact hQ
  · with_reducible exact hK
  · rfl
  apply Exists.intro
  refine ⟨fun w' hC => ?_, ?_⟩
  · have k0_ := hC (p) (by simp only [List.mem_cons, true_or, or_true])
    clear hC
    go_simp
    rfl
  try simp only [Act.put, List.setIfInBounds_toArray, List.set_cons_zero, List.set_cons_succ, List.tail_cons]
  with_reducible apply heldm_v (n := 6) (m' := 1791) 10
  · exact Nat.le_of_ble_eq_true (by kernel_rfl)
  · rfl
  · kernel_rfl
  · kernel_rfl
  · kernel_rfl
  · kernel_rfl
  · kernel_rfl
  · kernel_rfl
  · exact hQ
  · with_reducible exact hK
  · rfl
  apply Exists.intro
  refine ⟨fun w' hC => ?_, ?_⟩
  · have k0_ := hC (p) (by simp only [List.mem_cons, true_or, or_true])
    clear hC
    go_simp
    rfl
  try simp only [Act.put, List.setIfInBounds_toArray, List.set_cons_zero, List.set_cons_succ, List.tail_cons]
  with_reducible apply heldm_v (n := 5) (m' := 3839) 11
  · exact Nat.le_of_ble_eq_true (by kernel_rfl)
  · rfl
  · kernel_rfl
  · kernel_rfl
  · kernel_rfl
  · kernel_rfl
  · kernel_rfl
  · kernel_rfl
  · exact hQ
  · with_reducible exact hK
  · rfl
  apply Exists.intro
  refine ⟨fun w' hC => ?_, ?_⟩
  · have k0_ := hC (p) (by simp only [List.mem_cons, true_or, or_true])
    clear hC
    go_simp
    rfl
  try simp only [Act.put, List.setIfInBounds_toArray, List.set_cons_zero, List.set_cons_succ, List.tail_cons]
  with_reducible apply heldm_v (n := 4) (m' := 7935) 12
  · exact Nat.le_of_ble_eq_true (by kernel_rfl)
  · rfl
  · kernel_rfl
  · kernel_rfl
  · kernel_rfl
  · kernel_rfl
  · kernel_rfl
  · kernel_rfl
  · exact hQ
  · with_reducible exact hK
  · rfl
  apply Exists.intro
  refine ⟨fun w' hC => ?_, ?_⟩
  · have k0_ := hC (p) (by simp only [List.mem_cons, true_or, or_true])
    clear hC
    go_simp
    rfl
  try simp only [Act.put, List.setIfInBounds_toArray, List.set_cons_zero, List.set_cons_succ, List.tail_cons]
  with_reducible apply heldm_callx (n := 3) (m' := 8191) 8
  · exact Nat.le_of_ble_eq_true (by kernel_rfl)
  · rfl
  · kernel_rfl
  · kernel_rfl
  · kernel_rfl
  · kernel_rfl
  · kernel_rfl
  · rfl
  · with_reducible exact hK
  apply Exists.intro
  apply Exists.intro
  apply Exists.intro
  refine ⟨?_, ?_, ?_, ?_⟩
  · go_simp
    exact ⟨rfl, rfl⟩
  · exact hcl.out _ (by repeat first | with_reducible exact Below.refl _ _ | with_reducible refine Below.drew ?_ | with_reducible refine below_dN ?_ | with_reducible refine Below.alloc ?_ (by first | omega | (simp; done) | (simp; omega)) _ | with_reducible refine Below.setCell ?_ (by first | omega | (simp; done) | (simp; omega)) _ | with_reducible refine Below.trans ?_ (Below.mono (by assumption) (by first | omega | (simp; done) | (simp; omega))))
  · intro b hb
    simp only [List.mem_cons, List.not_mem_nil, or_false] at hb
    rcases hb with rfl <;> first | omega | (simp; done) | (simp; omega)
  rintro r8 v8 hho h8 hK
  obtain ⟨c8, f8, s8⟩ := bfacts h8
  try simp only [World.size_alloc, World.size_setCell, size_drew, size_drewN] at s8
  obtain ⟨a2, c2, rfl⟩ := row_slice2 hho
  try simp only [Act.put, List.setIfInBounds_toArray, List.set_cons_zero, List.set_cons_succ, List.tail_cons]
  with_reducible apply heldm_v (n := 2) (m' := 16383) 13
  · exact Nat.le_of_ble_eq_true (by kernel_rfl)
  · rfl
  · kernel_rfl
  · kernel_rfl
  · kernel_rfl
  · kernel_rfl
  · kernel_rfl
  · kernel_rfl
  · exact hQ
  · with_reducible exact hK
  · rfl
  apply Exists.intro
  refine ⟨fun w' hC => ?_, ?_⟩
  · have k0_ := hC (p) (by simp only [List.mem_cons, true_or, or_true])
    clear hC
    go_simp
    rfl
  try simp only [Act.put, List.setIfInBounds_toArray, List.set_cons_zero, List.set_cons_succ, List.tail_cons]
  with_reducible apply heldm_o (n := 1) (m' := 32767) 14
  · exact Nat.le_of_ble_eq_true (by kernel_rfl)
  · rfl
  · kernel_rfl
  · kernel_rfl
  · kernel_rfl
  · kernel_rfl
  · kernel_rfl
  · rfl
  apply Exists.intro
  apply Exists.intro
  refine ⟨?_, ?_, ?_⟩
  · go_simp
    exact ⟨rfl, rfl⟩
  · repeat first
      | with_reducible exact hK
      | with_reducible refine KeepL.drewN ?_ _
      | with_reducible refine KeepL.drew ?_
      | exact fun _ _ _ => rfl
      | with_reducible (refine KeepL.set ?_ _ _ (by intro b hb; simp only [List.mem_cons, List.not_mem_nil, or_false] at hb; rcases hb with rfl <;> (first | omega | (simp; done) | (simp; omega))))
      | with_reducible (refine KeepL.alloc ?_ _ (by intro b hb; simp only [List.mem_cons, List.not_mem_nil, or_false] at hb; rcases hb with rfl <;> (first | omega | (simp; done) | (simp; omega))))
  intro hK
  try simp only [Act.put, List.setIfInBounds_toArray, List.set_cons_zero, List.set_cons_succ, List.tail_cons]
  with_reducible apply heldm_v (n := 0) (m' := 65535) 15
  · exact Nat.le_of_ble_eq_true (by kernel_rfl)
  · rfl
  · kernel_rfl
  · kernel_rfl
  · kernel_rfl
  · kernel_rfl
  · kernel_rfl
  · kernel_rfl
  · exact hQ
  · with_reducible exact hK
  · rfl
  apply Exists.intro
  refine ⟨fun w' hC => ?_, ?_⟩
  · have k0_ := hC (p) (by simp only [List.mem_cons, true_or, or_true])
    clear hC
    go_simp
    rfl
  try simp only [Act.put, List.setIfInBounds_toArray, List.set_cons_zero, List.set_cons_succ, List.tail_cons]
  refine heldm_end (Nat.le_of_ble_eq_true (by kernel_rfl)) (by kernel_rfl) ?_
  clear hK hQ
  have HH := Lib.hid hho
  have H8 := Lib.hid (show Below w.heap.size w v8 from ⟨h8.os, h8.tape, h8.output, h8.size, h8.block⟩)
  clear hho h8 c8 f8
  go_wp2_with fail
  exact bodyPost_ret (v := .pointer (some ⟨v8.heap.size, 0, none⟩)) (by simp only [results, Tryd.results18]; go_simp) rfl ⟨v8, a2, c2, HH.out, H8.out, rfl, rfl⟩

theorem clone_hash {n D : Nat} {f : Nat → Nat} {w : World} {a : Option Addr} {c : Nat} (S : St) (hS : S = hs K s0 f (n / 64)) (hf : ∀ j, f j < 256) (hD : D ≤ w.heap.size)
    (ho : w.ownsRow D 5 1 (.slice a (n % 64) c) (n % 64) (fl (fun j => f (64 * (n / 64) + j)) (n % 64))) :
    HashAt (w.alloc (.cells #[.int .u32 ((S.a : Nat) : Int), .int .u32 ((S.b : Nat) : Int), .int .u32 ((S.c : Nat) : Int), .int .u32 ((S.d : Nat) : Int), .int .u32 ((S.e : Nat) : Int), .int .u32 ((S.f : Nat) : Int), .int .u32 ((S.g : Nat) : Int), .int .u32 ((S.h : Nat) : Int), .slice a (n % 64) c, .int .i64 (n : Int)] 46)) D w.heap.size f n := by
  have hk := heap_alloc_new w (.cells #[.int .u32 ((S.a : Nat) : Int), .int .u32 ((S.b : Nat) : Int), .int .u32 ((S.c : Nat) : Int), .int .u32 ((S.d : Nat) : Int), .int .u32 ((S.e : Nat) : Int), .int .u32 ((S.f : Nat) : Int), .int .u32 ((S.g : Nat) : Int), .int .u32 ((S.h : Nat) : Int), .slice a (n % 64) c, .int .i64 (n : Int)] 46)
  refine ⟨hf, hD, by simp only [World.size_alloc]; omega, fun j hj => ?_, ⟨.slice a (n % 64) c, ?_, ho.alloc _, fun e => ?_⟩, ?_, fun j => frozen_of_row _ w.heap.size j _ _ hk⟩
  · rw [← hS, cell_of_row _ w.heap.size j _ _ _ hk]
    clear hS hk
    have h : j = 0 ∨ j = 1 ∨ j = 2 ∨ j = 3 ∨ j = 4 ∨ j = 5 ∨ j = 6 ∨ j = 7 := by omega
    rcases h with rfl | rfl | rfl | rfl | rfl | rfl | rfl | rfl <;> rfl
  · rw [cell_of_row _ w.heap.size 8 _ _ _ hk]; rfl
  · have := (ho.lt _ e).2; omega
  · rw [cell_of_row _ w.heap.size 9 _ _ _ hk]; rfl

/-- Clone: another hash of the same bytes. -/
theorem cloneH_c (C p n : Nat) (f : Nat → Nat) (hn : n ≤ 1000000) (w : World) (h : HashAt w C p f n) :
    Calls Tryd.prog 18 #[.pointer (some ⟨p, 0, none⟩)] w fun e w' => (∃ q, e = .returned (.pointer (some ⟨q, 0, none⟩)) ∧ HashAt w' w.heap.size q f n) ∧ Below w.heap.size w w' := by
  obtain ⟨r, hr, hown, hrp⟩ := h.rest
  obtain ⟨ra, rc, rfl⟩ := row_slice2 hown
  have hsl := row_sliceAt (F := fun j => f (64 * (n / 64) + j)) hown (fun j => h.lt _)
  have hH : HeadAt w p (hs K s0 f (n / 64)) n := ⟨h.blk, h.st, by rw [hr]; rfl, h.len, h.fz⟩
  refine (cloneH_walk C p n (fun j => f (64 * (n / 64) + j)) (hs K s0 f (n / 64)) ra rc w (Lib.hid hH) hr (Lib.hid fun w' hb => clone_c w' ra (n % 64) rc _ (by omega) (hsl.below hb))).mono ?_
  rintro e w' ⟨w1, a, c, ho, hb, rfl, rfl⟩
  exact ⟨⟨_, rfl, clone_hash _ rfl h.lt hb.size ho⟩, hb.alloc hb.size _⟩
end Go.Proofs.YtdaggankfokloaaDoor
