/- The contract of law 12's alive: the examples of the chapter hold. -/
import Derived.Test.YtdaggankfokloaaDoorEq32
import Derived.Test.YtdaggankfokloaaDoorShaTop
import Derived.Test.YtdaggankfokloaaDoorAliveNum
import Derived.Test.YtdaggankfokloaaDoorHeld
import Derived.Test.YtdaggankfokloaaDoorHeldM
import Derived.Lib.SlBytesConst
namespace Go.Proofs.YtdaggankfokloaaDoor
set_option linter.all false
open Go Go.RowKit

theorem abc_lt (j : Nat) : abc j < 256 := by unfold abc; repeat (first | decide | split)
theorem sb_first (S : St) (x : Nat) (h : S.a = x) : sb S 0 = x / 16777216 % 256 ∧ sb S 1 = x / 65536 % 256 ∧ sb S 2 = x / 256 % 256 ∧ sb S 3 = x % 256 := by
  subst h
  refine ⟨rfl, rfl, rfl, ?_⟩
  show S.a / 2 ^ 0 % 256 = _
  rw [Nat.pow_zero, Nat.div_one]

theorem abc_at {w : World} {T : TypeId} {m : Nat × Nat} : SliceAt (w.alloc (.cells #[.int .u8 97, .int .u8 98, .int .u8 99] T m)) (some ⟨w.heap.size, 0, none⟩) 3 3 abc :=
  ⟨abc_lt, Nat.le_refl _, .inr ⟨_, rfl, fun _ => ⟨_, _, rfl, abc_lt, by simp only [World.size_alloc]; omega, fun j hj => by
    have h := heap_alloc_new w (.cells #[.int .u8 97, .int .u8 98, .int .u8 99] T m)
    rw [cell_of_row _ w.heap.size (0 + j) _ _ _ h]
    have hj : j = 0 ∨ j = 1 ∨ j = 2 := by omega
    rcases hj with rfl | rfl | rfl <;> rfl⟩⟩⟩

theorem there_other {w : World} {b p n : Nat} (h : w.there b 0 n) (hp : b ≠ p) (vs : List Value) : (w.setCells p 0 vs).there b 0 n := fun j hj => by
  rw [World.frozen?_setCells, World.cell?_setCells_out p vs 0 w ⟨b, 0 + j, none⟩ (fun e => absurd e hp)]
  exact h j hj
theorem stored_of {w : World} {b n : Nat} {g g' : Nat → Nat} (h : w.there b 0 (fl g' n).toArray.size) : ∀ j, j < n → (w.setCells b 0 (fl g n)).cell? ⟨b, j, none⟩ = some (.int .u8 ((g j : Nat) : Int)) := fun j hj => by
  have := World.rangeAt_setCells_same w b 0 (fl g n) (by rw [List.size_toArray, fl_len] at h; rwa [fl_len]) j _ (fl_get g n j hj)
  rwa [Nat.zero_add] at this

def pre0 (j : Nat) : Nat := if j = 0 then 227 else if j = 1 then 176 else if j = 2 then 196 else 66
def pre1 (j : Nat) : Nat := if j = 0 then 186 else if j = 1 then 120 else if j = 2 then 22 else 191
theorem pre0_lt (j : Nat) : pre0 j < 256 := by unfold pre0; repeat (first | decide | split)
theorem pre1_lt (j : Nat) : pre1 j < 256 := by unfold pre1; repeat (first | decide | split)
theorem pre0_at {w : World} {b : Nat} {T : TypeId} {m : Nat × Nat} (h : w.heap[b]? = some (.cells #[.int .u8 227, .int .u8 176, .int .u8 196, .int .u8 66] T m)) : SliceAt w (some ⟨b, 0, none⟩) 4 4 pre0 :=
  ⟨pre0_lt, Nat.le_refl _, .inr ⟨_, rfl, fun _ => ⟨_, _, rfl, pre0_lt, (Array.getElem?_eq_some_iff.1 h).1, fun j hj => by
    rw [cell_of_row _ b (0 + j) _ _ _ h]
    have hj : j = 0 ∨ j = 1 ∨ j = 2 ∨ j = 3 := by omega
    rcases hj with rfl | rfl | rfl | rfl <;> rfl⟩⟩⟩
theorem pre1_at {w : World} {b : Nat} {T : TypeId} {m : Nat × Nat} (h : w.heap[b]? = some (.cells #[.int .u8 186, .int .u8 120, .int .u8 22, .int .u8 191] T m)) : SliceAt w (some ⟨b, 0, none⟩) 4 4 pre1 :=
  ⟨pre1_lt, Nat.le_refl _, .inr ⟨_, rfl, fun _ => ⟨_, _, rfl, pre1_lt, (Array.getElem?_eq_some_iff.1 h).1, fun j hj => by
    rw [cell_of_row _ b (0 + j) _ _ _ h]
    have hj : j = 0 ∨ j = 1 ∨ j = 2 ∨ j = 3 := by omega
    rcases hj with rfl | rfl | rfl | rfl <;> rfl⟩⟩⟩
theorem zero_row1 {Z : Array Value} {T : TypeId} {O : Obj} (w : World) (h : Z = (fl (fun _ => 0) 32).toArray) : RowB ((w.alloc (.cells Z T)).alloc O) w.heap.size 32 (fun _ => 0) T := by
  subst h
  exact RowB.below (C := w.heap.size + 1) (heap_alloc_new w _) ((Below.refl _ _).alloc (by simp) _) (Nat.lt_succ_self _)
theorem zero_row2 {Z : Array Value} {T : TypeId} {O : Obj} (w : World) (h : Z = (fl (fun _ => 0) 32).toArray) : RowB ((w.alloc O).alloc (.cells Z T)) (w.heap.size + 1) 32 (fun _ => 0) T := by
  subst h
  have := heap_alloc_new (w.alloc O) (.cells (fl (fun _ => 0) 32).toArray T)
  rw [World.size_alloc] at this
  exact this

set_option maxRecDepth 100000 in
set_option maxHeartbeats 8000000 in
theorem alive_walk (F G : Nat → Nat) (hF : ∀ j, F j < 256) (hG : ∀ j, G j < 256) (w : World) (HL : Hid (Laid w))
    (hs0 : ∀ w', Below w.heap.size w w' → Calls Tryd.prog 11 #[.slice none 0 0] w' fun e w'' => e = .returned (.agg (fl F 32).toArray) ∧ Below w'.heap.size w' w'')
    (hs1 : ∀ w' a, SliceAt w' a 3 3 abc → Below w.heap.size w w' → Calls Tryd.prog 11 #[.slice a 3 3] w' fun e w'' => e = .returned (.agg (fl G 32).toArray) ∧ Below w'.heap.size w' w'')
    (hs2 : ∀ w', Laid w' → ∀ C p, HashAt w' C p (fun _ => 0) 0 → Calls Tryd.prog 16 #[.pointer (some ⟨p, 0, none⟩)] w' fun e w'' => e = .returned (.agg (fl F 32).toArray) ∧ Below w'.heap.size w' w'')
    (he0 : ∀ j, j < 4 → F j = pre0 j) (he1 : ∀ j, j < 4 → G j = pre1 j) :
    Calls Tryd.prog 9 #[] w fun e w' => e = .returned (.bool true) ∧ Below w.heap.size w w' := by
  have Hs0 := Lib.hid hs0
  have Hs1 := Lib.hid hs1
  have HF := Lib.hid hF
  have HG := Lib.hid hG
  have Hs2 := Lib.hid hs2
  have HE0 := Lib.hid he0
  have HE1 := Lib.hid he1
  clear hs0 hs1 hs2 he0 he1 hF hG
  have kc := fun (w : World) (C : Array Value) (n c : Nat) => Lib.run_convert_bytes_const (P := Tryd.prog) w 22 5 C n c Tryd.underlying22 Tryd.underlying5
  go_enter Tryd.func9, Tryd.ntmps9
  go_wp2_with fail
  refine Calls.mono (Hs0.out _ (Below.refl _ _)) ?_
  rintro _ w1 ⟨rfl, h1⟩
  obtain ⟨c1, f1, s1⟩ := bfacts h1
  try simp only [World.size_alloc, World.size_setCell, size_drew, size_drewN] at s1
  go_wp2_with fail
  refine Calls.mono (Hs1.out _ _ abc_at (by repeat first | with_reducible exact Below.refl _ _ | with_reducible refine Below.drew ?_ | with_reducible refine below_dN ?_ | with_reducible refine Below.alloc ?_ (by first | omega | (simp; done) | (simp; omega)) _ | with_reducible refine Below.setCell ?_ (by first | omega | (simp; done) | (simp; omega)) _ | with_reducible refine Below.trans ?_ (Below.mono (by assumption) (by first | omega | (simp; done) | (simp; omega))))) ?_
  rintro _ w2 ⟨rfl, h2⟩
  obtain ⟨c2, f2, s2⟩ := bfacts h2
  try simp only [World.size_alloc, World.size_setCell, size_drew, size_drewN] at s2
  have hR1 : RowB ((w2.alloc (.cells #[.int .u8 0, .int .u8 0, .int .u8 0, .int .u8 0, .int .u8 0, .int .u8 0, .int .u8 0, .int .u8 0, .int .u8 0, .int .u8 0, .int .u8 0, .int .u8 0, .int .u8 0, .int .u8 0, .int .u8 0, .int .u8 0, .int .u8 0, .int .u8 0, .int .u8 0, .int .u8 0, .int .u8 0, .int .u8 0, .int .u8 0, .int .u8 0, .int .u8 0, .int .u8 0, .int .u8 0, .int .u8 0, .int .u8 0, .int .u8 0, .int .u8 0, .int .u8 0] 25)).alloc (.cells #[.int .u8 0, .int .u8 0, .int .u8 0, .int .u8 0, .int .u8 0, .int .u8 0, .int .u8 0, .int .u8 0, .int .u8 0, .int .u8 0, .int .u8 0, .int .u8 0, .int .u8 0, .int .u8 0, .int .u8 0, .int .u8 0, .int .u8 0, .int .u8 0, .int .u8 0, .int .u8 0, .int .u8 0, .int .u8 0, .int .u8 0, .int .u8 0, .int .u8 0, .int .u8 0, .int .u8 0, .int .u8 0, .int .u8 0, .int .u8 0, .int .u8 0, .int .u8 0] 25)) w2.heap.size 32 (fun _ => 0) 25 := zero_row1 w2 rfl
  have hR2 : RowB ((w2.alloc (.cells #[.int .u8 0, .int .u8 0, .int .u8 0, .int .u8 0, .int .u8 0, .int .u8 0, .int .u8 0, .int .u8 0, .int .u8 0, .int .u8 0, .int .u8 0, .int .u8 0, .int .u8 0, .int .u8 0, .int .u8 0, .int .u8 0, .int .u8 0, .int .u8 0, .int .u8 0, .int .u8 0, .int .u8 0, .int .u8 0, .int .u8 0, .int .u8 0, .int .u8 0, .int .u8 0, .int .u8 0, .int .u8 0, .int .u8 0, .int .u8 0, .int .u8 0, .int .u8 0] 25)).alloc (.cells #[.int .u8 0, .int .u8 0, .int .u8 0, .int .u8 0, .int .u8 0, .int .u8 0, .int .u8 0, .int .u8 0, .int .u8 0, .int .u8 0, .int .u8 0, .int .u8 0, .int .u8 0, .int .u8 0, .int .u8 0, .int .u8 0, .int .u8 0, .int .u8 0, .int .u8 0, .int .u8 0, .int .u8 0, .int .u8 0, .int .u8 0, .int .u8 0, .int .u8 0, .int .u8 0, .int .u8 0, .int .u8 0, .int .u8 0, .int .u8 0, .int .u8 0, .int .u8 0] 25)) (w2.heap.size + 1) 32 (fun _ => 0) 25 := zero_row2 w2 rfl
  have HR1 := Lib.hid hR1
  have HR2 := Lib.hid hR2
  have HB2 := Lib.hid (show Below w.heap.size w w2 from (by repeat first | with_reducible exact Below.refl _ _ | with_reducible refine Below.drew ?_ | with_reducible refine below_dN ?_ | with_reducible refine Below.alloc ?_ (by first | omega | (simp; done) | (simp; omega)) _ | with_reducible refine Below.setCell ?_ (by first | omega | (simp; done) | (simp; omega)) _ | with_reducible refine Below.trans ?_ (Below.mono (by assumption) (by first | omega | (simp; done) | (simp; omega)))))
  have hs2 := HB2.out.size
  clear hR1 hR2 h1 h2 c1 c2 f1 f2 s1 s2 kc
  go_wp2_with (first
    | ((with_reducible show wpList _ _ _ (⟨none, Op.store _ (.tmp 1) _, _, _, _, _⟩ :: _) _ _); refine wpl_name ?_; intro wA hA; have HtA : Hid (wA.there w2.heap.size 0 (fl F 32).toArray.size) := Lib.hid (by rw [hA]; exact HR1.out.there); have HtB : Hid (wA.there (w2.heap.size + 1) 0 (fl G 32).toArray.size) := Lib.hid (by rw [hA]; exact HR2.out.there); have HBA : Hid (Below w.heap.size w wA) := Lib.hid (by rw [hA]; exact (HB2.out.alloc hs2 _).alloc (by simp only [World.size_alloc]; omega) _); have hsA : w2.heap.size + 2 = wA.heap.size := (by rw [hA]; simp only [World.size_alloc]); clear hA HR1 HR2; refine wpList_store_mid rfl 25 (.tmp 1) (.tmp 4) rfl w2.heap.size 0 (fl F 32).toArray rfl rfl HtA.out (info_fl (by kernel_rfl)) (fl_oneA F 32) ?_; simp only [Act.put, List.setIfInBounds_toArray, List.set_cons_zero, List.set_cons_succ, List.tail_cons])
    | ((with_reducible show wpList _ _ _ (⟨none, Op.store _ (.tmp 2) _, _, _, _, _⟩ :: _) _ _); refine wpl_name ?_; intro wB hB; have HcF : Hid (∀ j, j < 32 → wB.cell? ⟨w2.heap.size, j, none⟩ = some (.int .u8 ((F j : Nat) : Int))) := Lib.hid (by rw [hB]; exact stored_of HtA.out); have HtB' : Hid (wB.there (w2.heap.size + 1) 0 (fl G 32).toArray.size) := Lib.hid (by rw [hB]; exact there_other HtB.out (by omega) _); have HBB : Hid (Below w.heap.size w wB) := Lib.hid (by rw [hB]; exact below_setCells hs2 _ _ _ _ HBA.out); have hsB : w2.heap.size + 2 = wB.heap.size := (by rw [hB, size_setCells]; exact hsA); clear hB HtA HtB HBA hsA; refine wpList_store_mid rfl 25 (.tmp 2) (.tmp 7) rfl (w2.heap.size + 1) 0 (fl G 32).toArray rfl rfl HtB'.out (info_fl (by kernel_rfl)) (fl_oneA G 32) ?_; refine wpl_name ?_; intro wC hC; have HcF' : Hid (∀ j, j < 32 → wC.cell? ⟨w2.heap.size, j, none⟩ = some (.int .u8 ((F j : Nat) : Int))) := Lib.hid (fun j hj => (by rw [hC, World.cell?_setCells_out (w2.heap.size + 1) _ 0 wB ⟨w2.heap.size, j, none⟩ (fun e => absurd e (by simp))]; exact HcF.out j hj)); have HcG : Hid (∀ j, j < 32 → wC.cell? ⟨w2.heap.size + 1, j, none⟩ = some (.int .u8 ((G j : Nat) : Int))) := Lib.hid (by rw [hC]; exact stored_of HtB'.out); have HBC : Hid (Below w.heap.size w wC) := Lib.hid (by rw [hC]; exact below_setCells (Nat.le_succ_of_le hs2) _ _ _ _ HBB.out); have hsC : w2.heap.size + 2 ≤ wC.heap.size := (by rw [hC, size_setCells]; omega); clear hC HtB' HBB hsB HcF; simp only [Act.put, List.setIfInBounds_toArray, List.set_cons_zero, List.set_cons_succ, List.tail_cons]))
  have hs3 : ∀ C, w.heap.size ≤ C → w.heap.size ≤ C := fun _ h => h
  clear hs3
  refine Calls.mono (new_c (fun _ => 0) (fun _ => by decide) _ (HL.out.step HBC.out)) ?_
  rintro _ w3 ⟨⟨p, rfl, hp⟩, h3⟩
  obtain ⟨c3, f3, s3⟩ := bfacts h3
  try simp only [World.size_alloc, World.size_setCell, size_drew, size_drewN] at s3
  have HF3 : Hid (SliceAt w3 (some ⟨w2.heap.size, 0, none⟩) 32 32 F) := SliceAt.below ⟨HF.out, Nat.le_refl _, .inr ⟨_, rfl, fun _ => ⟨_, _, rfl, HF.out, by omega, fun j hj => by rw [Nat.zero_add]; exact HcF'.out j hj⟩⟩⟩ h3
  have HG3 : Hid (SliceAt w3 (some ⟨w2.heap.size + 1, 0, none⟩) 32 32 G) := SliceAt.below ⟨HG.out, Nat.le_refl _, .inr ⟨_, rfl, fun _ => ⟨_, _, rfl, HG.out, by omega, fun j hj => by rw [Nat.zero_add]; exact HcG.out j hj⟩⟩⟩ h3
  have Hp3 := Lib.hid hp
  have HB3 := Lib.hid (HBC.out.trans (Below.mono h3 HBC.out.size))
  have hF3 : ∀ j, j < 32 → w3.cell? ⟨w2.heap.size, j, none⟩ = some (.int .u8 ((F j : Nat) : Int)) := fun j hj => (h3.cell (p := ⟨w2.heap.size, j, none⟩) (by show w2.heap.size < _; omega)).trans (HcF'.out j hj)
  have HcF3 := Lib.hid hF3
  have lp3 := hp.blk
  clear hp hF3 HcF' HcG HBC c3 f3
  go_wp2_with fail
  refine held_begin 19 [w2.heap.size, w2.heap.size + 1] (by kernel_rfl) rfl (by intro _ _ d _ _ h; cases d <;> exact h) ?_
  intro hQ hK
  with_reducible apply held_v (n := 18) 0
  · rfl
  · kernel_rfl
  · kernel_rfl
  · kernel_rfl
  · exact hQ
  · with_reducible exact hK
  · rfl
  apply Exists.intro
  refine ⟨fun w' hC => ?_, ?_⟩
  · have k0_ := hC (w2.heap.size) (by simp only [List.mem_cons, true_or, or_true])
    have k1_ := hC (w2.heap.size + 1) (by simp only [List.mem_cons, true_or, or_true])
    clear hC
    go_simp
    rfl
  try simp only [Act.put, List.setIfInBounds_toArray, List.set_cons_zero, List.set_cons_succ, List.tail_cons]
  with_reducible apply held_o (n := 17) 1
  · rfl
  · kernel_rfl
  · rfl
  apply Exists.intro
  apply Exists.intro
  refine ⟨?_, ?_, ?_⟩
  · go_simp
    exact ⟨rfl, rfl⟩
  · repeat first
      | with_reducible exact hK
      | with_reducible refine KeepL.drewN ?_ _
      | with_reducible refine KeepL.drew ?_
      | exact fun _ _ _ => rfl
      | with_reducible (refine KeepL.set ?_ _ _ (by intro b hb; simp only [List.mem_cons, List.not_mem_nil, or_false] at hb; rcases hb with rfl | rfl <;> (first | omega | (simp; done) | (simp; omega))))
      | with_reducible (refine KeepL.alloc ?_ _ (by intro b hb; simp only [List.mem_cons, List.not_mem_nil, or_false] at hb; rcases hb with rfl | rfl <;> (first | omega | (simp; done) | (simp; omega))))
  intro hK
  try simp only [Act.put, List.setIfInBounds_toArray, List.set_cons_zero, List.set_cons_succ, List.tail_cons]
  with_reducible apply held_call (n := 16) 2
  · rfl
  · kernel_rfl
  · rfl
  · with_reducible exact hK
  apply Exists.intro
  apply Exists.intro
  apply Exists.intro
  refine ⟨?_, ?_, ?_, ?_⟩
  · go_simp
    exact ⟨rfl, rfl⟩
  · exact bytesPre_c _ _ _ 32 32 4 4 F pre0 (by decide) (by decide) (HF3.out.below (by repeat first | with_reducible exact Below.refl _ _ | with_reducible refine Below.drew ?_ | with_reducible refine below_dN ?_ | with_reducible refine Below.alloc ?_ (by first | omega | (simp; done) | (simp; omega)) _ | with_reducible refine Below.setCell ?_ (by first | omega | (simp; done) | (simp; omega)) _ | with_reducible refine Below.trans ?_ (Below.mono (by assumption) (by first | omega | (simp; done) | (simp; omega))))) (pre0_at (heap_alloc_new _ _)) HE0.out
  · intro b hb
    simp only [List.mem_cons, List.not_mem_nil, or_false] at hb
    rcases hb with rfl | rfl <;> first | omega | (simp; done) | (simp; omega)
  intro v2 h2 hK
  obtain ⟨c2, f2, s2⟩ := bfacts h2
  try simp only [World.size_alloc, World.size_setCell, size_drew, size_drewN] at s2
  try simp only [Act.put, List.setIfInBounds_toArray, List.set_cons_zero, List.set_cons_succ, List.tail_cons]
  with_reducible apply held_v (n := 15) 3
  · rfl
  · kernel_rfl
  · kernel_rfl
  · kernel_rfl
  · exact hQ
  · with_reducible exact hK
  · rfl
  apply Exists.intro
  refine ⟨fun w' hC => ?_, ?_⟩
  · have k0_ := hC (w2.heap.size) (by simp only [List.mem_cons, true_or, or_true])
    have k1_ := hC (w2.heap.size + 1) (by simp only [List.mem_cons, true_or, or_true])
    clear hC
    go_simp
    rfl
  try simp only [Act.put, List.setIfInBounds_toArray, List.set_cons_zero, List.set_cons_succ, List.tail_cons]
  first
    | (with_reducible apply held_v (n := 14) 4
       · rfl
       · kernel_rfl
       · kernel_rfl
       · kernel_rfl
       · exact hQ
       · with_reducible exact hK
       · rfl
       apply Exists.intro
       refine ⟨fun w' hC => ?_, ?_⟩
       · have k0_ := hC (w2.heap.size) (by simp only [List.mem_cons, true_or, or_true])
         have k1_ := hC (w2.heap.size + 1) (by simp only [List.mem_cons, true_or, or_true])
         clear hC
         go_simp
         rfl)
    | (with_reducible apply held_s (n := 14) 4
       · rfl
       · kernel_rfl
       · kernel_rfl
       · kernel_rfl
       · exact hQ
       · with_reducible exact hK
       · rfl)
  try simp only [Act.put, List.setIfInBounds_toArray, List.set_cons_zero, List.set_cons_succ, List.tail_cons]
  with_reducible apply held_o (n := 13) 5
  · rfl
  · kernel_rfl
  · rfl
  apply Exists.intro
  apply Exists.intro
  refine ⟨?_, ?_, ?_⟩
  · go_simp
    exact ⟨rfl, rfl⟩
  · repeat first
      | with_reducible exact hK
      | with_reducible refine KeepL.drewN ?_ _
      | with_reducible refine KeepL.drew ?_
      | exact fun _ _ _ => rfl
      | with_reducible (refine KeepL.set ?_ _ _ (by intro b hb; simp only [List.mem_cons, List.not_mem_nil, or_false] at hb; rcases hb with rfl | rfl <;> (first | omega | (simp; done) | (simp; omega))))
      | with_reducible (refine KeepL.alloc ?_ _ (by intro b hb; simp only [List.mem_cons, List.not_mem_nil, or_false] at hb; rcases hb with rfl | rfl <;> (first | omega | (simp; done) | (simp; omega))))
  intro hK
  try simp only [Act.put, List.setIfInBounds_toArray, List.set_cons_zero, List.set_cons_succ, List.tail_cons]
  with_reducible apply held_call (n := 12) 6
  · rfl
  · kernel_rfl
  · rfl
  · with_reducible exact hK
  apply Exists.intro
  apply Exists.intro
  apply Exists.intro
  refine ⟨?_, ?_, ?_, ?_⟩
  · go_simp
    exact ⟨rfl, rfl⟩
  · exact bytesPre_c _ _ _ 32 32 4 4 G pre1 (by decide) (by decide) (HG3.out.below (by repeat first | with_reducible exact Below.refl _ _ | with_reducible refine Below.drew ?_ | with_reducible refine below_dN ?_ | with_reducible refine Below.alloc ?_ (by first | omega | (simp; done) | (simp; omega)) _ | with_reducible refine Below.setCell ?_ (by first | omega | (simp; done) | (simp; omega)) _ | with_reducible refine Below.trans ?_ (Below.mono (by assumption) (by first | omega | (simp; done) | (simp; omega))))) (pre1_at (heap_alloc_new _ _)) HE1.out
  · intro b hb
    simp only [List.mem_cons, List.not_mem_nil, or_false] at hb
    rcases hb with rfl | rfl <;> first | omega | (simp; done) | (simp; omega)
  intro v6 h6 hK
  obtain ⟨c6, f6, s6⟩ := bfacts h6
  try simp only [World.size_alloc, World.size_setCell, size_drew, size_drewN] at s6
  try simp only [Act.put, List.setIfInBounds_toArray, List.set_cons_zero, List.set_cons_succ, List.tail_cons]
  with_reducible apply held_v (n := 11) 7
  · rfl
  · kernel_rfl
  · kernel_rfl
  · kernel_rfl
  · exact hQ
  · with_reducible exact hK
  · rfl
  apply Exists.intro
  refine ⟨fun w' hC => ?_, ?_⟩
  · have k0_ := hC (w2.heap.size) (by simp only [List.mem_cons, true_or, or_true])
    have k1_ := hC (w2.heap.size + 1) (by simp only [List.mem_cons, true_or, or_true])
    clear hC
    go_simp
    rfl
  try simp only [Act.put, List.setIfInBounds_toArray, List.set_cons_zero, List.set_cons_succ, List.tail_cons]
  with_reducible apply held_v (n := 10) 8
  · rfl
  · kernel_rfl
  · kernel_rfl
  · kernel_rfl
  · exact hQ
  · with_reducible exact hK
  · rfl
  apply Exists.intro
  refine ⟨fun w' hC => ?_, ?_⟩
  · have k0_ := hC (w2.heap.size) (by simp only [List.mem_cons, true_or, or_true])
    have k1_ := hC (w2.heap.size + 1) (by simp only [List.mem_cons, true_or, or_true])
    clear hC
    go_simp
    rfl
  try simp only [Act.put, List.setIfInBounds_toArray, List.set_cons_zero, List.set_cons_succ, List.tail_cons]
  first
    | (with_reducible apply held_v (n := 9) 9
       · rfl
       · kernel_rfl
       · kernel_rfl
       · kernel_rfl
       · exact hQ
       · with_reducible exact hK
       · rfl
       apply Exists.intro
       refine ⟨fun w' hC => ?_, ?_⟩
       · have k0_ := hC (w2.heap.size) (by simp only [List.mem_cons, true_or, or_true])
         have k1_ := hC (w2.heap.size + 1) (by simp only [List.mem_cons, true_or, or_true])
         clear hC
         go_simp
         rfl)
    | (with_reducible apply held_s (n := 9) 9
       · rfl
       · kernel_rfl
       · kernel_rfl
       · kernel_rfl
       · exact hQ
       · with_reducible exact hK
       · rfl)
  try simp only [Act.put, List.setIfInBounds_toArray, List.set_cons_zero, List.set_cons_succ, List.tail_cons]
  first
    | (with_reducible apply held_v (n := 8) 10
       · rfl
       · kernel_rfl
       · kernel_rfl
       · kernel_rfl
       · exact hQ
       · with_reducible exact hK
       · rfl
       apply Exists.intro
       refine ⟨fun w' hC => ?_, ?_⟩
       · have k0_ := hC (w2.heap.size) (by simp only [List.mem_cons, true_or, or_true])
         have k1_ := hC (w2.heap.size + 1) (by simp only [List.mem_cons, true_or, or_true])
         clear hC
         go_simp
         rfl)
    | (with_reducible apply held_s (n := 8) 10
       · rfl
       · kernel_rfl
       · kernel_rfl
       · kernel_rfl
       · exact hQ
       · with_reducible exact hK
       · rfl)
  try simp only [Act.put, List.setIfInBounds_toArray, List.set_cons_zero, List.set_cons_succ, List.tail_cons]
  with_reducible apply held_v (n := 7) 11
  · rfl
  · kernel_rfl
  · kernel_rfl
  · kernel_rfl
  · exact hQ
  · with_reducible exact hK
  · rfl
  apply Exists.intro
  refine ⟨fun w' hC => ?_, ?_⟩
  · have k0_ := hC (w2.heap.size) (by simp only [List.mem_cons, true_or, or_true])
    have k1_ := hC (w2.heap.size + 1) (by simp only [List.mem_cons, true_or, or_true])
    clear hC
    go_simp
    rfl
  try simp only [Act.put, List.setIfInBounds_toArray, List.set_cons_zero, List.set_cons_succ, List.tail_cons]
  with_reducible apply held_v (n := 6) 12
  · rfl
  · kernel_rfl
  · kernel_rfl
  · kernel_rfl
  · exact hQ
  · with_reducible exact hK
  · rfl
  apply Exists.intro
  refine ⟨fun w' hC => ?_, ?_⟩
  · have k0_ := hC (w2.heap.size) (by simp only [List.mem_cons, true_or, or_true])
    have k1_ := hC (w2.heap.size + 1) (by simp only [List.mem_cons, true_or, or_true])
    clear hC
    go_simp
    rfl
  try simp only [Act.put, List.setIfInBounds_toArray, List.set_cons_zero, List.set_cons_succ, List.tail_cons]
  first
    | (with_reducible apply held_v (n := 5) 13
       · rfl
       · kernel_rfl
       · kernel_rfl
       · kernel_rfl
       · exact hQ
       · with_reducible exact hK
       · rfl
       apply Exists.intro
       refine ⟨fun w' hC => ?_, ?_⟩
       · have k0_ := hC (w2.heap.size) (by simp only [List.mem_cons, true_or, or_true])
         have k1_ := hC (w2.heap.size + 1) (by simp only [List.mem_cons, true_or, or_true])
         clear hC
         go_simp
         rfl)
    | (with_reducible apply held_s (n := 5) 13
       · rfl
       · kernel_rfl
       · kernel_rfl
       · kernel_rfl
       · exact hQ
       · with_reducible exact hK
       · rfl)
  try simp only [Act.put, List.setIfInBounds_toArray, List.set_cons_zero, List.set_cons_succ, List.tail_cons]
  first
    | (with_reducible apply held_v (n := 4) 15
       · rfl
       · kernel_rfl
       · kernel_rfl
       · kernel_rfl
       · exact hQ
       · with_reducible exact hK
       · rfl
       apply Exists.intro
       refine ⟨fun w' hC => ?_, ?_⟩
       · have k0_ := hC (w2.heap.size) (by simp only [List.mem_cons, true_or, or_true])
         have k1_ := hC (w2.heap.size + 1) (by simp only [List.mem_cons, true_or, or_true])
         clear hC
         have hl := load_bytes (w := w') (g := F) (n := 32) (fun j hj => (k0_ j).trans (HcF3.out j hj)) Tryd.underlying25 (by kernel_rfl)
         exact exec_load rfl rfl hl)
    | (with_reducible apply held_s (n := 4) 15
       · rfl
       · kernel_rfl
       · kernel_rfl
       · kernel_rfl
       · exact hQ
       · with_reducible exact hK
       · rfl)
  try simp only [Act.put, List.setIfInBounds_toArray, List.set_cons_zero, List.set_cons_succ, List.tail_cons]
  with_reducible apply held_call (n := 3) 14
  · rfl
  · kernel_rfl
  · rfl
  · with_reducible exact hK
  apply Exists.intro
  apply Exists.intro
  apply Exists.intro
  refine ⟨?_, ?_, ?_, ?_⟩
  · go_simp
    exact ⟨rfl, rfl⟩
  · exact Hs2.out _ (HL.out.step (HB3.out.trans (Below.mono (by repeat first | with_reducible exact Below.refl _ _ | with_reducible refine Below.drew ?_ | with_reducible refine below_dN ?_ | with_reducible refine Below.alloc ?_ (by first | omega | (simp; done) | (simp; omega)) _ | with_reducible refine Below.setCell ?_ (by first | omega | (simp; done) | (simp; omega)) _ | with_reducible refine Below.trans ?_ (Below.mono (by assumption) (by first | omega | (simp; done) | (simp; omega)))) HB3.out.size))) _ _ (Hp3.out.kept (by repeat first | with_reducible exact Below.refl _ _ | with_reducible refine Below.drew ?_ | with_reducible refine below_dN ?_ | with_reducible refine Below.alloc ?_ (by first | omega | (simp; done) | (simp; omega)) _ | with_reducible refine Below.setCell ?_ (by first | omega | (simp; done) | (simp; omega)) _ | with_reducible refine Below.trans ?_ (Below.mono (by assumption) (by first | omega | (simp; done) | (simp; omega)))))
  · intro b hb
    simp only [List.mem_cons, List.not_mem_nil, or_false] at hb
    rcases hb with rfl | rfl <;> first | omega | (simp; done) | (simp; omega)
  intro v14 h14 hK
  obtain ⟨c14, f14, s14⟩ := bfacts h14
  try simp only [World.size_alloc, World.size_setCell, size_drew, size_drewN] at s14
  try simp only [Act.put, List.setIfInBounds_toArray, List.set_cons_zero, List.set_cons_succ, List.tail_cons]
  first
    | (with_reducible apply held_v (n := 2) 16
       · rfl
       · kernel_rfl
       · kernel_rfl
       · kernel_rfl
       · exact hQ
       · with_reducible exact hK
       · rfl
       apply Exists.intro
       refine ⟨fun w' hC => ?_, ?_⟩
       · have k0_ := hC (w2.heap.size) (by simp only [List.mem_cons, true_or, or_true])
         have k1_ := hC (w2.heap.size + 1) (by simp only [List.mem_cons, true_or, or_true])
         clear hC
         have he := eqF_refl F 32
         go_simp
         rfl)
    | (with_reducible apply held_s (n := 2) 16
       · rfl
       · kernel_rfl
       · kernel_rfl
       · kernel_rfl
       · exact hQ
       · with_reducible exact hK
       · rfl)
  try simp only [Act.put, List.setIfInBounds_toArray, List.set_cons_zero, List.set_cons_succ, List.tail_cons]
  with_reducible apply held_v (n := 1) 17
  · rfl
  · kernel_rfl
  · kernel_rfl
  · kernel_rfl
  · exact hQ
  · with_reducible exact hK
  · rfl
  apply Exists.intro
  refine ⟨fun w' hC => ?_, ?_⟩
  · have k0_ := hC (w2.heap.size) (by simp only [List.mem_cons, true_or, or_true])
    have k1_ := hC (w2.heap.size + 1) (by simp only [List.mem_cons, true_or, or_true])
    clear hC
    go_simp
    rfl
  try simp only [Act.put, List.setIfInBounds_toArray, List.set_cons_zero, List.set_cons_succ, List.tail_cons]
  with_reducible apply held_v (n := 0) 18
  · rfl
  · kernel_rfl
  · kernel_rfl
  · kernel_rfl
  · exact hQ
  · with_reducible exact hK
  · rfl
  apply Exists.intro
  refine ⟨fun w' hC => ?_, ?_⟩
  · have k0_ := hC (w2.heap.size) (by simp only [List.mem_cons, true_or, or_true])
    have k1_ := hC (w2.heap.size + 1) (by simp only [List.mem_cons, true_or, or_true])
    clear hC
    go_simp
    rfl
  try simp only [Act.put, List.setIfInBounds_toArray, List.set_cons_zero, List.set_cons_succ, List.tail_cons]
  refine held_end (by kernel_rfl) ?_
  clear hK hQ
  go_wp2_with fail
  go_ret
  exact ⟨rfl, HB3.out.trans (Below.mono (by repeat first | with_reducible exact Below.refl _ _ | with_reducible refine Below.drew ?_ | with_reducible refine below_dN ?_ | with_reducible refine Below.alloc ?_ (by first | omega | (simp; done) | (simp; omega)) _ | with_reducible refine Below.setCell ?_ (by first | omega | (simp; done) | (simp; omega)) _ | with_reducible refine Below.trans ?_ (Below.mono (by assumption) (by first | omega | (simp; done) | (simp; omega)))) HB3.out.size)⟩
theorem lawalive_c (w : World) (hL : Laid w) :
    Calls Tryd.prog 9 #[] w fun e w' => e = .returned (.bool true) ∧ Below w.heap.size w w' := by
  have e0 := sb_first _ _ sum_none
  have e1 := sb_first _ _ sum_abc
  refine alive_walk (sb (sumS K s0 (fun _ => 0) 0)) (sb (sumS K s0 abc 3)) (sb_lt _) (sb_lt _) w (Lib.hid hL) (fun w' hb => ?_) (fun w' a ha hb => ?_) (fun w' hL' C p h => sum_walk C p 0 _ (by decide) w' (Lib.hid hL') (Lib.hid h)) (fun j hj => ?_) (fun j hj => ?_)
  · exact shaSum_c 0 0 none _ (by decide) w' (hL.step hb) ⟨fun _ => by decide, Nat.le_refl _, .inl ⟨rfl, rfl, rfl⟩⟩ (fun ad e => by cases e)
  · exact shaSum_c 3 3 a _ (by decide) w' (hL.step hb) ha (fun ad e _ => by
      rcases ha.at_ with ⟨_, h, _⟩ | ⟨ad', e', k⟩
      · omega
      · obtain ⟨b, off, e2, hB⟩ := k (by omega)
        subst e2
        rw [e] at e'
        cases e'
        exact hB.blk)
  · have hj : j = 0 ∨ j = 1 ∨ j = 2 ∨ j = 3 := by omega
    rcases hj with rfl | rfl | rfl | rfl
    · rw [e0.1]; decide
    · rw [e0.2.1]; decide
    · rw [e0.2.2.1]; decide
    · rw [e0.2.2.2]; decide
  · have hj : j = 0 ∨ j = 1 ∨ j = 2 ∨ j = 3 := by omega
    rcases hj with rfl | rfl | rfl | rfl
    · rw [e1.1]; decide
    · rw [e1.2.1]; decide
    · rw [e1.2.2.1]; decide
    · rw [e1.2.2.2]; decide
end Go.Proofs.YtdaggankfokloaaDoor
