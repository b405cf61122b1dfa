/- The contract of the compression of one block. -/
import Derived.Test.YtdaggankfokloaaDoorSched
import Derived.Test.YtdaggankfokloaaDoorConst
import Derived.Test.YtdaggankfokloaaDoorGrow
namespace Go.Proofs.YtdaggankfokloaaDoor
set_option linter.all false
open Go Go.RowKit

theorem S1_val {e : Nat} (he : e < B) : bits BinOp.xor IntKind.u32 (bits BinOp.xor IntKind.u32 ((rr 6 e : Nat) : Int) ((rr 11 e : Nat) : Int)) ((rr 25 e : Nat) : Int) = ((S1 e : Nat) : Int) := by
  have l1 := rr_lt (n := 6) (by decide) he
  have l2 := rr_lt (n := 11) (by decide) he
  rw [xor_val l1 l2, xor_val (xor_lt l1 l2) (rr_lt (n := 25) (by decide) he)]
  rfl
theorem S0_val {a : Nat} (ha : a < B) : bits BinOp.xor IntKind.u32 (bits BinOp.xor IntKind.u32 ((rr 2 a : Nat) : Int) ((rr 13 a : Nat) : Int)) ((rr 22 a : Nat) : Int) = ((S0 a : Nat) : Int) := by
  have l1 := rr_lt (n := 2) (by decide) ha
  have l2 := rr_lt (n := 13) (by decide) ha
  rw [xor_val l1 l2, xor_val (xor_lt l1 l2) (rr_lt (n := 22) (by decide) ha)]
  rfl
theorem ch_val {e f g : Nat} (he : e < B) (hf : f < B) (hg : g < B) :
    bits BinOp.xor IntKind.u32 ((g : Nat) : Int) (bits BinOp.and IntKind.u32 ((e : Nat) : Int) (bits BinOp.xor IntKind.u32 ((f : Nat) : Int) ((g : Nat) : Int))) = ((ch e f g : Nat) : Int) := by
  rw [xor_val hf hg, u32_and_nat e (f ^^^ g) he (xor_lt hf hg), xor_val hg (and_lt (xor_lt hf hg))]
  rfl
theorem mj_val {a b c : Nat} (ha : a < B) (hb : b < B) (hc : c < B) :
    bits BinOp.or IntKind.u32 (bits BinOp.and IntKind.u32 ((a : Nat) : Int) ((b : Nat) : Int)) (bits BinOp.and IntKind.u32 (bits BinOp.or IntKind.u32 ((a : Nat) : Int) ((b : Nat) : Int)) ((c : Nat) : Int)) = ((mj a b c : Nat) : Int) := by
  rw [u32_and_nat a b ha hb, u32_or_nat a b ha hb, u32_and_nat (a ||| b) c (or_lt ha hb) hc, u32_or_nat (a &&& b) ((a ||| b) &&& c) (and_lt hb) (and_lt hc)]
  rfl
theorem new_a (h s1 c k x s0 m : Nat) : (((h : Nat) : Int) + ((s1 : Nat) : Int) + ((c : Nat) : Int) + ((k : Nat) : Int) + ((x : Nat) : Int) + (((s0 : Nat) : Int) + ((m : Nat) : Int))) % 4294967296 = ((ad (ad (ad (ad (ad h s1) c) k) x) (ad s0 m) : Nat) : Int) := by
  unfold ad B
  omega
theorem new_e (d h s1 c k x : Nat) : (((d : Nat) : Int) + (((h : Nat) : Int) + ((s1 : Nat) : Int) + ((c : Nat) : Int) + ((k : Nat) : Int) + ((x : Nat) : Int))) % 4294967296 = ((ad d (ad (ad (ad (ad h s1) c) k) x) : Nat) : Int) := by
  unfold ad B
  omega
def shf (g : Nat → Nat) (j : Nat) : Nat := if j = 0 then g 0 else g (j - 1)
theorem step_at (k x : Nat) (S : St) (A E : Nat) (hA : A = ad (t1 k x S) (t2 S)) (hE : E = ad S.d (t1 k x S)) (j : Nat) (hj : j < 8) : upd (upd (shf S.at) 0 A) 4 E j = (step k x S).at j := by
  unfold step
  rw [← hA, ← hE]
  clear hA hE
  have h : j = 0 ∨ j = 1 ∨ j = 2 ∨ j = 3 ∨ j = 4 ∨ j = 5 ∨ j = 6 ∨ j = 7 := by omega
  rcases h with rfl | rfl | rfl | rfl | rfl | rfl | rfl | rfl <;> rfl
theorem add2_val (x y : Nat) : (((x : Nat) : Int) + ((y : Nat) : Int)) % 4294967296 = ((ad x y : Nat) : Int) := by
  unfold ad B
  omega
theorem addS_at (v s : St) (j : Nat) (hj : j < 8) : (addS v s).at j = ad (v.at j) (s.at j) := by
  have h : j = 0 ∨ j = 1 ∨ j = 2 ∨ j = 3 ∨ j = 4 ∨ j = 5 ∨ j = 6 ∨ j = 7 := by omega
  rcases h with rfl | rfl | rfl | rfl | rfl | rfl | rfl | rfl <;> rfl
theorem shift_row {w : World} {b : Nat} {g : Nat → Nat} {T : TypeId} (h : w.heap[b]? = some (.cells (splice (ws g 8) 1 (ws g 7)).toArray T (0, 0))) : RowW w b 8 (shf g) T := h
theorem wordCells : (Tryd.prog.info? 42).map (·.size) = some 1 := by kernel_rfl
theorem ws_oneL (g : Nat → Nat) (n : Nat) : ∀ v ∈ ws g n, v.oneCell' = true := fun v hv => by
  simp only [ws, List.mem_map] at hv
  obtain ⟨j, _, rfl⟩ := hv
  rfl
theorem copy_src {w : World} {b : Nat} {g : Nat → Nat} {T : TypeId} (h : RowW w b 8 g T) : ∀ j v, (ws g 7)[j]? = some v → w.cell? ((⟨b, 0, none⟩ : Addr).add j) = some v := fun j v hv => by
  have hj : j < 7 := by have := (List.getElem?_eq_some_iff.1 hv).1; rwa [ws_len] at this
  rw [ws_get g 7 j hj] at hv
  cases hv
  have e : (⟨b, 0, none⟩ : Addr).add j = ⟨b, 0 + j, none⟩ := by unfold Addr.add; split <;> simp_all
  rw [e, Nat.zero_add]
  exact h.words.cell j (by omega)

set_option maxRecDepth 100000 in
set_option maxHeartbeats 16000000 in
theorem after_walk (f : Nat → Nat) (b off c : Nat) (s : St) (w : World) (HO : Hid s.Ok) (HL : Hid (Laid w)) (hf : Hid (∀ j, f j < 256))
    (hsch : Hid (∀ w', Below w.heap.size w w' → Calls Tryd.prog 28 #[.slice (some ⟨b, off, none⟩) 64 c] w' fun e w'' => e = .returned (.agg (ws (wv f) 64).toArray) ∧ Below w'.heap.size w' w'')) :
    Calls Tryd.prog 22 #[stV s, .slice (some ⟨b, off, none⟩) 64 c] w fun e w' => e = .returned (stV (blk K s f)) ∧ Below w.heap.size w w' := by
  go_enter Tryd.func22, Tryd.ntmps22
  go_wp2_with fail
  refine Calls.mono (hsch.out _ (by repeat first | with_reducible exact Below.refl _ _ | with_reducible refine Below.drew ?_ | with_reducible refine below_dN ?_ | with_reducible refine Below.alloc ?_ (by first | omega | (simp; done) | (simp; omega)) _ | with_reducible refine Below.setCell ?_ (by first | omega | (simp; done) | (simp; omega)) _ | with_reducible refine Below.trans ?_ (Below.mono (by assumption) (by first | omega | (simp; done) | (simp; omega))))) ?_
  rintro _ w1 ⟨rfl, h1⟩
  obtain ⟨c1, f1, s1⟩ := bfacts h1
  try simp only [World.size_alloc, World.size_setCell, size_drew, size_drewN] at s1
  have l_w_w1_0 : w.heap.size < w1.heap.size := by omega
  have l_w_w1_1 : w.heap.size + 1 < w1.heap.size := by omega
  have l_w_w1_2 : w.heap.size + 1 + 1 < w1.heap.size := by omega
  have hrow : RowW w1 (w.heap.size + 1 + 1) 8 s.at 44 := (h1.block _ (by simp only [World.size_alloc]; omega)).trans (heap_alloc_at (by simp only [World.size_alloc]))
  have hsb : RowW w1 w.heap.size 8 s.at 44 := (h1.block _ (by simp only [World.size_alloc]; omega)).trans (by
    refine (Below.heap_alloc _ _ _ (by simp only [World.size_alloc]; omega)).trans ?_
    refine (Below.heap_alloc _ _ _ (by simp only [World.size_alloc]; omega)).trans ?_
    exact heap_alloc_at rfl)
  have Hsb := Lib.hid hsb
  have hres : RowW w1 (w.heap.size + 1) 8 (fun _ => 0) 44 := (h1.block _ (by simp only [World.size_alloc]; omega)).trans (by
    refine (Below.heap_alloc _ _ _ (by simp only [World.size_alloc]; omega)).trans ?_
    exact heap_alloc_at (by simp only [World.size_alloc]))
  have Hres := Lib.hid hres
  have HL1 := Lib.hid (HL.out.step (show Below w.heap.size w w1 from (by repeat first | with_reducible exact Below.refl _ _ | with_reducible refine Below.drew ?_ | with_reducible refine below_dN ?_ | with_reducible refine Below.alloc ?_ (by first | omega | (simp; done) | (simp; omega)) _ | with_reducible refine Below.setCell ?_ (by first | omega | (simp; done) | (simp; omega)) _ | with_reducible refine Below.trans ?_ (Below.mono (by assumption) (by first | omega | (simp; done) | (simp; omega))))))
  have Hrow := Lib.hid hrow
  have HB1 := Lib.hid (show Below w.heap.size w w1 from (by repeat first | with_reducible exact Below.refl _ _ | with_reducible refine Below.drew ?_ | with_reducible refine below_dN ?_ | with_reducible refine Below.alloc ?_ (by first | omega | (simp; done) | (simp; omega)) _ | with_reducible refine Below.setCell ?_ (by first | omega | (simp; done) | (simp; omega)) _ | with_reducible refine Below.trans ?_ (Below.mono (by assumption) (by first | omega | (simp; done) | (simp; omega)))))
  have hws : w.heap.size + 1 + 1 < w1.heap.size := l_w_w1_2
  clear hrow hsb hres h1 c1 f1
  go_wp2_with fail
  go_loopw [16] (fun i wr => ∃ (t : Nat) (S : St), t ≤ 64 ∧ i = .int .i64 (t : Int) ∧ Hid (S = rnd K (wv f) s t ∧ S.Ok ∧ RowW wr (w.heap.size + 1 + 1) 8 S.at 44 ∧ Below (w.heap.size + 1 + 1) w1 wr)) (fun i _ => 64 - (intOf i).toNat)
  case atStart => exact ⟨0, s, by omega, rfl, rfl, HO.out, Hrow.out, Below.refl _ _⟩
  case round =>
    obtain ⟨t, S, ht, rfl, H⟩ := hrel
    have HLr : Hid (Laid wr) := HL1.out.kept H.out.2.2.2 (Nat.lt_of_lt_of_le (lt_of_cell (HL.out.k 0 (by decide))) (by omega)) (Nat.lt_of_lt_of_le (lt_of_cell (HL.out.s 0 (by decide))) (by omega))
    by_cases hlt : t < 64
    · have hlt2 : (t : Int) < 64 := by omega
      obtain ⟨a, b', c', d, e, f', g, h⟩ := S
      have c0 : wr.cell? ⟨w.heap.size + 1 + 1, 0, none⟩ = some (.int .u32 ((a : Nat) : Int)) := H.out.2.2.1.words.cell 0 (by decide)
      have c1 : wr.cell? ⟨w.heap.size + 1 + 1, 1, none⟩ = some (.int .u32 ((b' : Nat) : Int)) := H.out.2.2.1.words.cell 1 (by decide)
      have c2 : wr.cell? ⟨w.heap.size + 1 + 1, 2, none⟩ = some (.int .u32 ((c' : Nat) : Int)) := H.out.2.2.1.words.cell 2 (by decide)
      have c3 : wr.cell? ⟨w.heap.size + 1 + 1, 3, none⟩ = some (.int .u32 ((d : Nat) : Int)) := H.out.2.2.1.words.cell 3 (by decide)
      have c4 : wr.cell? ⟨w.heap.size + 1 + 1, 4, none⟩ = some (.int .u32 ((e : Nat) : Int)) := H.out.2.2.1.words.cell 4 (by decide)
      have c5 : wr.cell? ⟨w.heap.size + 1 + 1, 5, none⟩ = some (.int .u32 ((f' : Nat) : Int)) := H.out.2.2.1.words.cell 5 (by decide)
      have c6 : wr.cell? ⟨w.heap.size + 1 + 1, 6, none⟩ = some (.int .u32 ((g : Nat) : Int)) := H.out.2.2.1.words.cell 6 (by decide)
      have c7 : wr.cell? ⟨w.heap.size + 1 + 1, 7, none⟩ = some (.int .u32 ((h : Nat) : Int)) := H.out.2.2.1.words.cell 7 (by decide)
      have hk : wr.cell? ⟨1, t, none⟩ = some (.int .u32 ((K t : Nat) : Int)) := HLr.out.k t hlt
      obtain ⟨k, ek⟩ : ∃ k, k = K t := ⟨_, rfl⟩
      rw [← ek] at hk
      have Ek := Lib.hid ek
      clear ek
      have la : Hid (a < B) := H.out.2.1.a
      have le : Hid (e < B) := H.out.2.1.e
      go_wp2_with (refine wpList_index_of rfl 52 (.tmp 15) (.tmp 16) rfl (.agg (ws (wv f) 64).toArray) (.int .i64 (t : Int)) (.int .u32 ((wv f t : Nat) : Int)) rfl rfl (run_index_ws (wv f) t hlt Tryd.underlying52 _) ?_; simp only [Act.put, List.setIfInBounds_toArray, List.set_cons_zero, List.set_cons_succ, List.tail_cons])
      obtain ⟨x, ex⟩ : ∃ x, x = wv f t := ⟨_, rfl⟩
      rw [← ex]
      have Ex := Lib.hid ex
      clear ex
      refine region_mix 5 [false, false, false, false, false] (fun w' => w' = World.drew _) (by kernel_rfl) (by kernel_rfl) (by intro _ _ d _ _ h; cases d <;> exact h) rfl ?_
      simp only [List.take_succ_cons, List.take_zero, List.drop_succ_cons, List.drop_zero]
      with_reducible refine mix_v ?_ ?_ ?_
      · rfl
      · rfl
      apply Exists.intro
      refine ⟨fun w' hC => ?_, ?_⟩
      · subst hC
        go_simp
        rfl
      try simp only [Act.put, List.setIfInBounds_toArray, List.set_cons_zero, List.set_cons_succ, List.tail_cons]
      with_reducible refine mix_v ?_ ?_ ?_
      · rfl
      · rfl
      apply Exists.intro
      refine ⟨fun w' hC => ?_, ?_⟩
      · subst hC
        go_simp
        rfl
      try simp only [Act.put, List.setIfInBounds_toArray, List.set_cons_zero, List.set_cons_succ, List.tail_cons]
      with_reducible refine mix_v ?_ ?_ ?_
      · rfl
      · rfl
      apply Exists.intro
      refine ⟨fun w' hC => ?_, ?_⟩
      · subst hC
        go_simp
        rfl
      try simp only [Act.put, List.setIfInBounds_toArray, List.set_cons_zero, List.set_cons_succ, List.tail_cons]
      with_reducible refine mix_v ?_ ?_ ?_
      · rfl
      · rfl
      apply Exists.intro
      refine ⟨fun w' hC => ?_, ?_⟩
      · subst hC
        go_simp
        rfl
      try simp only [Act.put, List.setIfInBounds_toArray, List.set_cons_zero, List.set_cons_succ, List.tail_cons]
      with_reducible refine mix_v ?_ ?_ ?_
      · rfl
      · rfl
      apply Exists.intro
      refine ⟨fun w' hC => ?_, ?_⟩
      · subst hC
        go_simp
        rfl
      try simp only [Act.put, List.setIfInBounds_toArray, List.set_cons_zero, List.set_cons_succ, List.tail_cons]
      refine mix_nil ?_
      rintro _ rfl
      go_wp2_with fail
      refine region_mix 28 [false, false, false, false, false, false, false, false, false, false, false, false, false, false, false, false, false, false, false, false, false, false, false, false, false, false, false, false] (fun w' => w' = World.drew _) (by kernel_rfl) (by kernel_rfl) (by intro _ _ d _ _ h; cases d <;> exact h) rfl ?_
      simp only [List.take_succ_cons, List.take_zero, List.drop_succ_cons, List.drop_zero]
      with_reducible refine mix_v ?_ ?_ ?_
      · rfl
      · rfl
      apply Exists.intro
      refine ⟨fun w' hC => ?_, ?_⟩
      · subst hC
        go_simp
        rfl
      try simp only [Act.put, List.setIfInBounds_toArray, List.set_cons_zero, List.set_cons_succ, List.tail_cons]
      with_reducible refine mix_v ?_ ?_ ?_
      · rfl
      · rfl
      apply Exists.intro
      refine ⟨fun w' hC => ?_, ?_⟩
      · subst hC
        go_simp
        rfl
      try simp only [Act.put, List.setIfInBounds_toArray, List.set_cons_zero, List.set_cons_succ, List.tail_cons]
      with_reducible refine mix_v ?_ ?_ ?_
      · rfl
      · rfl
      apply Exists.intro
      refine ⟨fun w' hC => ?_, ?_⟩
      · subst hC
        go_simp
        rfl
      try simp only [Act.put, List.setIfInBounds_toArray, List.set_cons_zero, List.set_cons_succ, List.tail_cons]
      with_reducible refine mix_c ?_ ?_ ?_
      · rfl
      · rfl
      apply Exists.intro
      apply Exists.intro
      apply Exists.intro
      refine ⟨fun w' hC => ?_, fun w' hC => ?_, ?_⟩
      · subst hC
        go_simp
        exact ⟨rfl, rfl⟩
      · subst hC
        exact same_of (rot_c 6 e (by decide) (by decide) le.out _)
      try simp only [Act.put, List.setIfInBounds_toArray, List.set_cons_zero, List.set_cons_succ, List.tail_cons]
      with_reducible refine mix_v ?_ ?_ ?_
      · rfl
      · rfl
      apply Exists.intro
      refine ⟨fun w' hC => ?_, ?_⟩
      · subst hC
        go_simp
        rfl
      try simp only [Act.put, List.setIfInBounds_toArray, List.set_cons_zero, List.set_cons_succ, List.tail_cons]
      with_reducible refine mix_c ?_ ?_ ?_
      · rfl
      · rfl
      apply Exists.intro
      apply Exists.intro
      apply Exists.intro
      refine ⟨fun w' hC => ?_, fun w' hC => ?_, ?_⟩
      · subst hC
        go_simp
        exact ⟨rfl, rfl⟩
      · subst hC
        exact same_of (rot_c 11 e (by decide) (by decide) le.out _)
      try simp only [Act.put, List.setIfInBounds_toArray, List.set_cons_zero, List.set_cons_succ, List.tail_cons]
      with_reducible refine mix_v ?_ ?_ ?_
      · rfl
      · rfl
      apply Exists.intro
      refine ⟨fun w' hC => ?_, ?_⟩
      · subst hC
        go_simp
        rfl
      try simp only [Act.put, List.setIfInBounds_toArray, List.set_cons_zero, List.set_cons_succ, List.tail_cons]
      with_reducible refine mix_v ?_ ?_ ?_
      · rfl
      · rfl
      apply Exists.intro
      refine ⟨fun w' hC => ?_, ?_⟩
      · subst hC
        go_simp
        rfl
      try simp only [Act.put, List.setIfInBounds_toArray, List.set_cons_zero, List.set_cons_succ, List.tail_cons]
      with_reducible refine mix_c ?_ ?_ ?_
      · rfl
      · rfl
      apply Exists.intro
      apply Exists.intro
      apply Exists.intro
      refine ⟨fun w' hC => ?_, fun w' hC => ?_, ?_⟩
      · subst hC
        go_simp
        exact ⟨rfl, rfl⟩
      · subst hC
        exact same_of (rot_c 25 e (by decide) (by decide) le.out _)
      try simp only [Act.put, List.setIfInBounds_toArray, List.set_cons_zero, List.set_cons_succ, List.tail_cons]
      with_reducible refine mix_v ?_ ?_ ?_
      · rfl
      · rfl
      apply Exists.intro
      refine ⟨fun w' hC => ?_, ?_⟩
      · subst hC
        go_simp
        rfl
      try simp only [Act.put, List.setIfInBounds_toArray, List.set_cons_zero, List.set_cons_succ, List.tail_cons]
      with_reducible refine mix_v ?_ ?_ ?_
      · rfl
      · rfl
      apply Exists.intro
      refine ⟨fun w' hC => ?_, ?_⟩
      · subst hC
        go_simp
        rfl
      try simp only [Act.put, List.setIfInBounds_toArray, List.set_cons_zero, List.set_cons_succ, List.tail_cons]
      with_reducible refine mix_v ?_ ?_ ?_
      · rfl
      · rfl
      apply Exists.intro
      refine ⟨fun w' hC => ?_, ?_⟩
      · subst hC
        go_simp
        rfl
      try simp only [Act.put, List.setIfInBounds_toArray, List.set_cons_zero, List.set_cons_succ, List.tail_cons]
      with_reducible refine mix_v ?_ ?_ ?_
      · rfl
      · rfl
      apply Exists.intro
      refine ⟨fun w' hC => ?_, ?_⟩
      · subst hC
        go_simp
        rfl
      try simp only [Act.put, List.setIfInBounds_toArray, List.set_cons_zero, List.set_cons_succ, List.tail_cons]
      with_reducible refine mix_v ?_ ?_ ?_
      · rfl
      · rfl
      apply Exists.intro
      refine ⟨fun w' hC => ?_, ?_⟩
      · subst hC
        go_simp
        rfl
      try simp only [Act.put, List.setIfInBounds_toArray, List.set_cons_zero, List.set_cons_succ, List.tail_cons]
      with_reducible refine mix_v ?_ ?_ ?_
      · rfl
      · rfl
      apply Exists.intro
      refine ⟨fun w' hC => ?_, ?_⟩
      · subst hC
        go_simp
        rfl
      try simp only [Act.put, List.setIfInBounds_toArray, List.set_cons_zero, List.set_cons_succ, List.tail_cons]
      with_reducible refine mix_v ?_ ?_ ?_
      · rfl
      · rfl
      apply Exists.intro
      refine ⟨fun w' hC => ?_, ?_⟩
      · subst hC
        go_simp
        rfl
      try simp only [Act.put, List.setIfInBounds_toArray, List.set_cons_zero, List.set_cons_succ, List.tail_cons]
      with_reducible refine mix_v ?_ ?_ ?_
      · rfl
      · rfl
      apply Exists.intro
      refine ⟨fun w' hC => ?_, ?_⟩
      · subst hC
        go_simp
        rfl
      try simp only [Act.put, List.setIfInBounds_toArray, List.set_cons_zero, List.set_cons_succ, List.tail_cons]
      with_reducible refine mix_v ?_ ?_ ?_
      · rfl
      · rfl
      apply Exists.intro
      refine ⟨fun w' hC => ?_, ?_⟩
      · subst hC
        go_simp
        rfl
      try simp only [Act.put, List.setIfInBounds_toArray, List.set_cons_zero, List.set_cons_succ, List.tail_cons]
      with_reducible refine mix_v ?_ ?_ ?_
      · rfl
      · rfl
      apply Exists.intro
      refine ⟨fun w' hC => ?_, ?_⟩
      · subst hC
        go_simp
        rfl
      try simp only [Act.put, List.setIfInBounds_toArray, List.set_cons_zero, List.set_cons_succ, List.tail_cons]
      with_reducible refine mix_v ?_ ?_ ?_
      · rfl
      · rfl
      apply Exists.intro
      refine ⟨fun w' hC => ?_, ?_⟩
      · subst hC
        go_simp
        rfl
      try simp only [Act.put, List.setIfInBounds_toArray, List.set_cons_zero, List.set_cons_succ, List.tail_cons]
      with_reducible refine mix_v ?_ ?_ ?_
      · rfl
      · rfl
      apply Exists.intro
      refine ⟨fun w' hC => ?_, ?_⟩
      · subst hC
        go_simp
        rfl
      try simp only [Act.put, List.setIfInBounds_toArray, List.set_cons_zero, List.set_cons_succ, List.tail_cons]
      with_reducible refine mix_v ?_ ?_ ?_
      · rfl
      · rfl
      apply Exists.intro
      refine ⟨fun w' hC => ?_, ?_⟩
      · subst hC
        go_simp
        rfl
      try simp only [Act.put, List.setIfInBounds_toArray, List.set_cons_zero, List.set_cons_succ, List.tail_cons]
      with_reducible refine mix_v ?_ ?_ ?_
      · rfl
      · rfl
      apply Exists.intro
      refine ⟨fun w' hC => ?_, ?_⟩
      · subst hC
        go_simp
        rfl
      try simp only [Act.put, List.setIfInBounds_toArray, List.set_cons_zero, List.set_cons_succ, List.tail_cons]
      with_reducible refine mix_v ?_ ?_ ?_
      · rfl
      · rfl
      apply Exists.intro
      refine ⟨fun w' hC => ?_, ?_⟩
      · subst hC
        go_simp
        rfl
      try simp only [Act.put, List.setIfInBounds_toArray, List.set_cons_zero, List.set_cons_succ, List.tail_cons]
      with_reducible refine mix_v ?_ ?_ ?_
      · rfl
      · rfl
      apply Exists.intro
      refine ⟨fun w' hC => ?_, ?_⟩
      · subst hC
        go_simp
        rfl
      try simp only [Act.put, List.setIfInBounds_toArray, List.set_cons_zero, List.set_cons_succ, List.tail_cons]
      with_reducible refine mix_v ?_ ?_ ?_
      · rfl
      · rfl
      apply Exists.intro
      refine ⟨fun w' hC => ?_, ?_⟩
      · subst hC
        go_simp
        rfl
      try simp only [Act.put, List.setIfInBounds_toArray, List.set_cons_zero, List.set_cons_succ, List.tail_cons]
      with_reducible refine mix_v ?_ ?_ ?_
      · rfl
      · rfl
      apply Exists.intro
      refine ⟨fun w' hC => ?_, ?_⟩
      · subst hC
        go_simp
        rfl
      try simp only [Act.put, List.setIfInBounds_toArray, List.set_cons_zero, List.set_cons_succ, List.tail_cons]
      with_reducible refine mix_v ?_ ?_ ?_
      · rfl
      · rfl
      apply Exists.intro
      refine ⟨fun w' hC => ?_, ?_⟩
      · subst hC
        go_simp
        rfl
      try simp only [Act.put, List.setIfInBounds_toArray, List.set_cons_zero, List.set_cons_succ, List.tail_cons]
      refine mix_nil ?_
      rintro _ rfl
      go_wp2_with fail
      refine region_mix 21 [false, false, false, false, false, false, false, false, false, false, false, false, false, false, false, false, false, false, false, false, false] (fun w' => w' = World.drew _) (by kernel_rfl) (by kernel_rfl) (by intro _ _ d _ _ h; cases d <;> exact h) rfl ?_
      simp only [List.take_succ_cons, List.take_zero, List.drop_succ_cons, List.drop_zero]
      with_reducible refine mix_v ?_ ?_ ?_
      · rfl
      · rfl
      apply Exists.intro
      refine ⟨fun w' hC => ?_, ?_⟩
      · subst hC
        go_simp
        rfl
      try simp only [Act.put, List.setIfInBounds_toArray, List.set_cons_zero, List.set_cons_succ, List.tail_cons]
      with_reducible refine mix_c ?_ ?_ ?_
      · rfl
      · rfl
      apply Exists.intro
      apply Exists.intro
      apply Exists.intro
      refine ⟨fun w' hC => ?_, fun w' hC => ?_, ?_⟩
      · subst hC
        go_simp
        exact ⟨rfl, rfl⟩
      · subst hC
        exact same_of (rot_c 2 a (by decide) (by decide) la.out _)
      try simp only [Act.put, List.setIfInBounds_toArray, List.set_cons_zero, List.set_cons_succ, List.tail_cons]
      with_reducible refine mix_v ?_ ?_ ?_
      · rfl
      · rfl
      apply Exists.intro
      refine ⟨fun w' hC => ?_, ?_⟩
      · subst hC
        go_simp
        rfl
      try simp only [Act.put, List.setIfInBounds_toArray, List.set_cons_zero, List.set_cons_succ, List.tail_cons]
      with_reducible refine mix_c ?_ ?_ ?_
      · rfl
      · rfl
      apply Exists.intro
      apply Exists.intro
      apply Exists.intro
      refine ⟨fun w' hC => ?_, fun w' hC => ?_, ?_⟩
      · subst hC
        go_simp
        exact ⟨rfl, rfl⟩
      · subst hC
        exact same_of (rot_c 13 a (by decide) (by decide) la.out _)
      try simp only [Act.put, List.setIfInBounds_toArray, List.set_cons_zero, List.set_cons_succ, List.tail_cons]
      with_reducible refine mix_v ?_ ?_ ?_
      · rfl
      · rfl
      apply Exists.intro
      refine ⟨fun w' hC => ?_, ?_⟩
      · subst hC
        go_simp
        rfl
      try simp only [Act.put, List.setIfInBounds_toArray, List.set_cons_zero, List.set_cons_succ, List.tail_cons]
      with_reducible refine mix_v ?_ ?_ ?_
      · rfl
      · rfl
      apply Exists.intro
      refine ⟨fun w' hC => ?_, ?_⟩
      · subst hC
        go_simp
        rfl
      try simp only [Act.put, List.setIfInBounds_toArray, List.set_cons_zero, List.set_cons_succ, List.tail_cons]
      with_reducible refine mix_c ?_ ?_ ?_
      · rfl
      · rfl
      apply Exists.intro
      apply Exists.intro
      apply Exists.intro
      refine ⟨fun w' hC => ?_, fun w' hC => ?_, ?_⟩
      · subst hC
        go_simp
        exact ⟨rfl, rfl⟩
      · subst hC
        exact same_of (rot_c 22 a (by decide) (by decide) la.out _)
      try simp only [Act.put, List.setIfInBounds_toArray, List.set_cons_zero, List.set_cons_succ, List.tail_cons]
      with_reducible refine mix_v ?_ ?_ ?_
      · rfl
      · rfl
      apply Exists.intro
      refine ⟨fun w' hC => ?_, ?_⟩
      · subst hC
        go_simp
        rfl
      try simp only [Act.put, List.setIfInBounds_toArray, List.set_cons_zero, List.set_cons_succ, List.tail_cons]
      with_reducible refine mix_v ?_ ?_ ?_
      · rfl
      · rfl
      apply Exists.intro
      refine ⟨fun w' hC => ?_, ?_⟩
      · subst hC
        go_simp
        rfl
      try simp only [Act.put, List.setIfInBounds_toArray, List.set_cons_zero, List.set_cons_succ, List.tail_cons]
      with_reducible refine mix_v ?_ ?_ ?_
      · rfl
      · rfl
      apply Exists.intro
      refine ⟨fun w' hC => ?_, ?_⟩
      · subst hC
        go_simp
        rfl
      try simp only [Act.put, List.setIfInBounds_toArray, List.set_cons_zero, List.set_cons_succ, List.tail_cons]
      with_reducible refine mix_v ?_ ?_ ?_
      · rfl
      · rfl
      apply Exists.intro
      refine ⟨fun w' hC => ?_, ?_⟩
      · subst hC
        go_simp
        rfl
      try simp only [Act.put, List.setIfInBounds_toArray, List.set_cons_zero, List.set_cons_succ, List.tail_cons]
      with_reducible refine mix_v ?_ ?_ ?_
      · rfl
      · rfl
      apply Exists.intro
      refine ⟨fun w' hC => ?_, ?_⟩
      · subst hC
        go_simp
        rfl
      try simp only [Act.put, List.setIfInBounds_toArray, List.set_cons_zero, List.set_cons_succ, List.tail_cons]
      with_reducible refine mix_v ?_ ?_ ?_
      · rfl
      · rfl
      apply Exists.intro
      refine ⟨fun w' hC => ?_, ?_⟩
      · subst hC
        go_simp
        rfl
      try simp only [Act.put, List.setIfInBounds_toArray, List.set_cons_zero, List.set_cons_succ, List.tail_cons]
      with_reducible refine mix_v ?_ ?_ ?_
      · rfl
      · rfl
      apply Exists.intro
      refine ⟨fun w' hC => ?_, ?_⟩
      · subst hC
        go_simp
        rfl
      try simp only [Act.put, List.setIfInBounds_toArray, List.set_cons_zero, List.set_cons_succ, List.tail_cons]
      with_reducible refine mix_v ?_ ?_ ?_
      · rfl
      · rfl
      apply Exists.intro
      refine ⟨fun w' hC => ?_, ?_⟩
      · subst hC
        go_simp
        rfl
      try simp only [Act.put, List.setIfInBounds_toArray, List.set_cons_zero, List.set_cons_succ, List.tail_cons]
      with_reducible refine mix_v ?_ ?_ ?_
      · rfl
      · rfl
      apply Exists.intro
      refine ⟨fun w' hC => ?_, ?_⟩
      · subst hC
        go_simp
        rfl
      try simp only [Act.put, List.setIfInBounds_toArray, List.set_cons_zero, List.set_cons_succ, List.tail_cons]
      with_reducible refine mix_v ?_ ?_ ?_
      · rfl
      · rfl
      apply Exists.intro
      refine ⟨fun w' hC => ?_, ?_⟩
      · subst hC
        go_simp
        rfl
      try simp only [Act.put, List.setIfInBounds_toArray, List.set_cons_zero, List.set_cons_succ, List.tail_cons]
      with_reducible refine mix_v ?_ ?_ ?_
      · rfl
      · rfl
      apply Exists.intro
      refine ⟨fun w' hC => ?_, ?_⟩
      · subst hC
        go_simp
        rfl
      try simp only [Act.put, List.setIfInBounds_toArray, List.set_cons_zero, List.set_cons_succ, List.tail_cons]
      with_reducible refine mix_v ?_ ?_ ?_
      · rfl
      · rfl
      apply Exists.intro
      refine ⟨fun w' hC => ?_, ?_⟩
      · subst hC
        go_simp
        rfl
      try simp only [Act.put, List.setIfInBounds_toArray, List.set_cons_zero, List.set_cons_succ, List.tail_cons]
      with_reducible refine mix_v ?_ ?_ ?_
      · rfl
      · rfl
      apply Exists.intro
      refine ⟨fun w' hC => ?_, ?_⟩
      · subst hC
        go_simp
        rfl
      try simp only [Act.put, List.setIfInBounds_toArray, List.set_cons_zero, List.set_cons_succ, List.tail_cons]
      with_reducible refine mix_v ?_ ?_ ?_
      · rfl
      · rfl
      apply Exists.intro
      refine ⟨fun w' hC => ?_, ?_⟩
      · subst hC
        go_simp
        rfl
      try simp only [Act.put, List.setIfInBounds_toArray, List.set_cons_zero, List.set_cons_succ, List.tail_cons]
      refine mix_nil ?_
      rintro _ rfl
      go_wp2_with fail
      have hbw : w.heap.size + 1 + 1 < wr.heap.size := H.out.2.2.1.words.blk
      refine region_grow 2 [0, 1] [] [] (by kernel_rfl) (by kernel_rfl) ?_
      with_reducible apply grow_v
      · rfl
      · rfl
      · rfl
      apply Exists.intro
      refine ⟨fun w' hC => ?_, ?_⟩
      · have hcell := below_cells hC
        clear hC
        go_simp
        rfl
      try simp only [Act.put, List.setIfInBounds_toArray, List.set_cons_zero, List.set_cons_succ, List.tail_cons]
      with_reducible apply grow_v
      · rfl
      · rfl
      · rfl
      apply Exists.intro
      refine ⟨fun w' hC => ?_, ?_⟩
      · have hcell := below_cells hC
        clear hC
        go_simp
        rfl
      try simp only [Act.put, List.setIfInBounds_toArray, List.set_cons_zero, List.set_cons_succ, List.tail_cons]
      refine grow_end ?_
      intro wg8 hg8
      obtain ⟨cg8, fg8, sg8⟩ := bfacts hg8.grows
      try simp only [World.size_alloc, World.size_setCell, size_drew, size_drewN] at sg8
      have Hg8 : Below _ _ wg8 := hg8.grows
      clear hg8
      simp only [List.drop_succ_cons, List.drop_zero]
      have Hr8 : Hid (RowW wg8 (w.heap.size + 1 + 1) 8 (St.at ⟨a, b', c', d, e, f', g, h⟩) 44) := (Hg8.block _ hbw).trans H.out.2.2.1
      have Hb8 := Lib.hid (show Below (w.heap.size + 1 + 1) w1 wg8 from H.out.2.2.2.trans (Below.mono (⟨Hg8.os, Hg8.tape, Hg8.output, Hg8.size, Hg8.block⟩ : Below wr.heap.size wr wg8) (Nat.le_of_lt hbw)))
      clear cg8 fg8 sg8 Hg8 c0 c1 c2 c3 c4 c5 c6 c7 hk
      go_wp2_with ((with_reducible show wpList _ _ _ (⟨some 75, _, _, _, _, _⟩ :: []) _ _); refine wpList_copy_row (by rfl) (.tmp 73) (.tmp 74) 39 39 (by rfl) 42 Tryd.underlying39 wordCells (w.heap.size + 1 + 1) 1 7 7 ⟨w.heap.size + 1 + 1, 0, none⟩ 7 8 (by rfl) (by rfl) (ws (St.at ⟨a, b', c', d, e, f', g, h⟩) 8) 44 Hr8.out (ws (St.at ⟨a, b', c', d, e, f', g, h⟩) 7) (by rw [ws_len]; rfl) (copy_src Hr8.out) (by rw [ws_len, ws_len]; decide) (ws_oneL _ _) ?_; intro wc hgc _ hsc hbc; have Rc := Lib.hid (shift_row hgc.out); have d0 : wc.cell? ⟨w.heap.size + 1 + 1, 0, none⟩ = some (.int .u32 ((a : Nat) : Int)) := Rc.out.words.cell 0 (by decide); have d4 : wc.cell? ⟨w.heap.size + 1 + 1, 4, none⟩ = some (.int .u32 ((d : Nat) : Int)) := Rc.out.words.cell 4 (by decide); have z0 := Rc.out.words.fz 0; have z4 := Rc.out.words.fz 4; clear hgc)
      go_roundw
      case rel =>
        rw [S1_val le.out, ch_val (e := e) (f := f') (g := g) le.out H.out.2.1.f H.out.2.1.g, S0_val la.out, mj_val (a := a) (b := b') (c := c') la.out H.out.2.1.b H.out.2.1.c]
        rw [new_a h (S1 e) (ch e f' g) k x (S0 a) (mj a b' c'), new_e d h (S1 e) (ch e f' g) k x]
        refine ⟨t + 1, step k x ⟨a, b', c', d, e, f', g, h⟩, by omega, by go_num, ?_, step_ok H.out.2.1, ((Rc.out.set (i := 0) (by decide) _).set (i := 4) (by decide) _).congr (fun j hj => ?_), ((Hb8.out.trans (hbc.out _ (Nat.le_refl _))).setCell (Nat.le_refl _) _).setCell (Nat.le_refl _) _⟩
        · rw [Ek.out, Ex.out, H.out.1]; rfl
        · exact step_at k x ⟨a, b', c', d, e, f', g, h⟩ _ _ rfl rfl j hj
      case measure => simp [intOf]; omega
    · obtain rfl : t = 64 := by omega
      clear hlt ht HLr
      go_wp2_with fail
      go_loopw [86] (fun i wr => ∃ (i' : Nat) (g : Nat → Nat), i' ≤ 8 ∧ i = .int .i64 (i' : Int) ∧ Hid (RowW wr (w.heap.size + 1 + 1) 8 g 44 ∧ (∀ j, g j = if j < i' then ad (S.at j) (s.at j) else S.at j) ∧ Below (w.heap.size + 1 + 1) w1 wr)) (fun i _ => 8 - (intOf i).toNat)
      case atStart => exact ⟨0, S.at, by omega, rfl, H.out.2.2.1, fun j => by rw [if_neg (Nat.not_lt_zero _)], H.out.2.2.2⟩
      case round =>
        obtain ⟨i, g, hi, rfl, G⟩ := hrel
        by_cases hlt : i < 8
        · have hlt2 : (i : Int) < 8 := by omega
          have cv := G.out.1.words.cell i hlt
          have hfz := G.out.1.words.fz i
          have cs : wr.cell? ⟨w.heap.size, i, none⟩ = some (.int .u32 ((s.at i : Nat) : Int)) := (Hsb.out.below G.out.2.2 (by omega)).words.cell i hlt
          obtain ⟨gv, eg⟩ : ∃ x, x = g i := ⟨_, rfl⟩
          obtain ⟨sv, es⟩ : ∃ x, x = s.at i := ⟨_, rfl⟩
          rw [← eg] at cv
          rw [← es] at cs
          have Eg := Lib.hid eg
          have Es := Lib.hid es
          clear eg es
          go_wp2_with fail
          refine region_mix 8 [false, false, false, false, false, false, false, false] (fun w' => w' = World.drew _) (by kernel_rfl) (by kernel_rfl) (by intro _ _ d _ _ h; cases d <;> exact h) rfl ?_
          simp only [List.take_succ_cons, List.take_zero, List.drop_succ_cons, List.drop_zero]
          with_reducible refine mix_v ?_ ?_ ?_
          · rfl
          · rfl
          apply Exists.intro
          refine ⟨fun w' hC => ?_, ?_⟩
          · subst hC
            go_simp
            rfl
          try simp only [Act.put, List.setIfInBounds_toArray, List.set_cons_zero, List.set_cons_succ, List.tail_cons]
          with_reducible refine mix_v ?_ ?_ ?_
          · rfl
          · rfl
          apply Exists.intro
          refine ⟨fun w' hC => ?_, ?_⟩
          · subst hC
            go_simp
            rfl
          try simp only [Act.put, List.setIfInBounds_toArray, List.set_cons_zero, List.set_cons_succ, List.tail_cons]
          with_reducible refine mix_v ?_ ?_ ?_
          · rfl
          · rfl
          apply Exists.intro
          refine ⟨fun w' hC => ?_, ?_⟩
          · subst hC
            go_simp
            rfl
          try simp only [Act.put, List.setIfInBounds_toArray, List.set_cons_zero, List.set_cons_succ, List.tail_cons]
          with_reducible refine mix_v ?_ ?_ ?_
          · rfl
          · rfl
          apply Exists.intro
          refine ⟨fun w' hC => ?_, ?_⟩
          · subst hC
            go_simp
            rfl
          try simp only [Act.put, List.setIfInBounds_toArray, List.set_cons_zero, List.set_cons_succ, List.tail_cons]
          with_reducible refine mix_v ?_ ?_ ?_
          · rfl
          · rfl
          apply Exists.intro
          refine ⟨fun w' hC => ?_, ?_⟩
          · subst hC
            go_simp
            rfl
          try simp only [Act.put, List.setIfInBounds_toArray, List.set_cons_zero, List.set_cons_succ, List.tail_cons]
          with_reducible refine mix_v ?_ ?_ ?_
          · rfl
          · rfl
          apply Exists.intro
          refine ⟨fun w' hC => ?_, ?_⟩
          · subst hC
            go_simp
            rfl
          try simp only [Act.put, List.setIfInBounds_toArray, List.set_cons_zero, List.set_cons_succ, List.tail_cons]
          with_reducible refine mix_v ?_ ?_ ?_
          · rfl
          · rfl
          apply Exists.intro
          refine ⟨fun w' hC => ?_, ?_⟩
          · subst hC
            go_simp
            rfl
          try simp only [Act.put, List.setIfInBounds_toArray, List.set_cons_zero, List.set_cons_succ, List.tail_cons]
          with_reducible refine mix_v ?_ ?_ ?_
          · rfl
          · rfl
          apply Exists.intro
          refine ⟨fun w' hC => ?_, ?_⟩
          · subst hC
            go_simp
            rfl
          try simp only [Act.put, List.setIfInBounds_toArray, List.set_cons_zero, List.set_cons_succ, List.tail_cons]
          refine mix_nil ?_
          rintro _ rfl
          go_wp2_with fail
          go_roundw
          case rel =>
            rw [add2_val gv sv]
            refine ⟨i + 1, upd g i (ad gv sv), by omega, by go_num, (G.out.1.set hlt _).drew, fun j => ?_, (G.out.2.2.setCell (Nat.le_refl _) _).drew⟩
            unfold upd
            by_cases e : j = i
            · subst e
              rw [if_pos rfl, if_pos (Nat.lt_succ_self _), Eg.out, Es.out, G.out.2.1, if_neg (Nat.lt_irrefl _)]
            · rw [if_neg e, G.out.2.1 j]
              by_cases h : j < i
              · rw [if_pos h, if_pos (by omega)]
              · rw [if_neg h, if_neg (by omega)]
          case measure => simp [intOf]; omega
        · obtain rfl : i = 8 := by omega
          clear hlt hi
          go_wp2_with (first
            | (refine wpList_load_of rfl 44 (.tmp 5) rfl (.pointer (some ⟨w.heap.size + 1 + 1, 0, none⟩)) (.agg (ws g 8).toArray) rfl (load_words G.out.1.words Tryd.underlying44 (by kernel_rfl)) ?_; simp only [Act.put, List.setIfInBounds_toArray, List.set_cons_zero, List.set_cons_succ, List.tail_cons])
            | ((with_reducible show wpList _ _ _ (⟨none, _, _, _, _, _⟩ :: []) _ _); refine wpList_store_mid rfl 44 (.tmp 4) (.tmp 98) rfl (w.heap.size + 1) 0 (ws g 8).toArray rfl rfl (there_ws (Hres.out.below G.out.2.2 (by omega)).words) (info_ws (by kernel_rfl)) (ws_one g 8) ?_; simp only [Act.put, List.setIfInBounds_toArray, List.set_cons_zero, List.set_cons_succ, List.tail_cons]))
          have E := Lib.hid (show stV (blk K s f) = .agg (ws g 8).toArray by
            rw [stV_ws, ws_congr (g := (blk K s f).at) (g' := g) (n := 8) (fun j hj => by rw [G.out.2.1 j, if_pos hj, H.out.1]; exact addS_at _ _ j hj)])
          exact bodyPost_ret (v := stV (blk K s f)) (by rw [E.out]; exact results_words (g := g) (b := w.heap.size + 1) rfl rfl (Hres.out.below G.out.2.2 (by omega)).words.stored Tryd.underlying44 (by kernel_rfl)) rfl ⟨rfl, below_setCells (by omega) _ _ _ _ (HB1.out.trans (Below.mono G.out.2.2 (by omega)))⟩
end Go.Proofs.YtdaggankfokloaaDoor
