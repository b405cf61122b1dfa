/- The contract of schedule. -/
import Derived.Test.YtdaggankfokloaaDoorMem
namespace Go.Proofs.YtdaggankfokloaaDoor
set_option linter.all false
open Go Go.RowKit

theorem pb_or {f : Nat → Nat} (hf : ∀ j, f j < 256) (t : Nat) {n : Nat} (hn : n < 4) :
    bits BinOp.or IntKind.u32 (((pb f t n : Nat) : Int) * 256 % 4294967296) (((f (4 * t + n) : Nat) : Int) % 4294967296) = ((pb f t (n + 1) : Nat) : Int) := by
  have h1 := hf (4 * t + n)
  have h2 := pb_B hf t (k := n + 1) (by omega)
  have e : pb f t (n + 1) = pb f t n * 256 + f (4 * t + n) := rfl
  rw [e] at h2 ⊢
  clear e
  generalize pb f t n = p at h2 ⊢
  generalize f (4 * t + n) = q at h1 h2 ⊢
  unfold B at h2
  have l1 : p * 256 < 4294967296 := Nat.lt_of_le_of_lt (Nat.le_add_right _ q) h2
  have l2 : q < 4294967296 := Nat.lt_of_le_of_lt (Nat.le_add_left q _) h2
  have e1 : ((p : Int) * 256 % 4294967296) = ((p * 256 : Nat) : Int) := by
    rw [Int.emod_eq_of_lt (by omega) (by omega)]; rfl
  have e2 : ((q : Int) % 4294967296) = ((q : Nat) : Int) := Int.emod_eq_of_lt (by omega) (by omega)
  rw [e1, e2, u32_or_nat (p * 256) q l1 l2]
  have := Nat.two_pow_add_eq_or_of_lt (b := q) (i := 8) (by omega) p
  rw [show (p * 256 : Nat) = 2 ^ 8 * p by omega, ← this]

theorem xor_val {x y : Nat} (hx : x < B) (hy : y < B) : bits BinOp.xor IntKind.u32 ((x : Nat) : Int) ((y : Nat) : Int) = ((x ^^^ y : Nat) : Int) := u32_xor_nat x y hx hy
theorem add4_val (p q r s : Nat) : (((p : Nat) : Int) + ((q : Nat) : Int) + ((r : Nat) : Int) + ((s : Nat) : Int)) % 4294967296 = ((ad (ad (ad p q) r) s : Nat) : Int) := by
  unfold ad B
  omega
theorem div_val (x n : Nat) : ((x : Nat) : Int) / ((n : Nat) : Int) = ((x / n : Nat) : Int) := rfl
theorem sched_val {x14 x9 x1 x0 : Nat} (h14 : x14 < B) (h1 : x1 < B) :
    (bits BinOp.xor IntKind.u32 (bits BinOp.xor IntKind.u32 ((rr 17 x14 : Nat) : Int) ((rr 19 x14 : Nat) : Int)) (((x14 : Nat) : Int) / 1024) + ((x9 : Nat) : Int) +
      bits BinOp.xor IntKind.u32 (bits BinOp.xor IntKind.u32 ((rr 7 x1 : Nat) : Int) ((rr 18 x1 : Nat) : Int)) (((x1 : Nat) : Int) / 8) + ((x0 : Nat) : Int)) % 4294967296 = ((ad (ad (ad (sg1 x14) x9) (sg0 x1)) x0 : Nat) : Int) := by
  have l17 := rr_lt (n := 17) (by decide) h14
  have l19 := rr_lt (n := 19) (by decide) h14
  have l7 := rr_lt (n := 7) (by decide) h1
  have l18 := rr_lt (n := 18) (by decide) h1
  have e1 : (((x14 : Nat) : Int) / 1024) = ((x14 / 1024 : Nat) : Int) := rfl
  have e2 : (((x1 : Nat) : Int) / 8) = ((x1 / 8 : Nat) : Int) := rfl
  rw [e1, e2, xor_val l17 l19, xor_val (xor_lt l17 l19) (Nat.lt_of_le_of_lt (Nat.div_le_self _ _) h14), xor_val l7 l18, xor_val (xor_lt l7 l18) (Nat.lt_of_le_of_lt (Nat.div_le_self _ _) h1)]
  exact add4_val (sg1 x14) x9 (sg0 x1) x0

set_option maxRecDepth 100000 in
set_option maxHeartbeats 8000000 in
theorem schedule_c (f : Nat → Nat) (b off c : Nat) (hc : 64 ≤ c) (w : World) (hB : BytesAt w b off 64 f) :
    Calls Tryd.prog 28 #[.slice (some ⟨b, off, none⟩) 64 c] w fun e w' => e = .returned (.agg (ws (wv f) 64).toArray) ∧ Below w.heap.size w w' := by
  have HB := Lib.hid hB
  clear hB
  go_enter Tryd.func28, Tryd.ntmps28
  go_wp2_with fail
  go_loopw [8] (fun i wr => ∃ (t : Nat) (g : Nat → Nat), t ≤ 64 ∧ i = .int .i64 (t : Int) ∧ Hid (WordsAt wr w.heap.size 64 g ∧ (∀ j, j < t → g j = wv f j) ∧ (∀ j, t ≤ j → g j = 0) ∧ Below w.heap.size w wr)) (fun i _ => 64 - (intOf i).toNat)
  case atStart =>
    refine ⟨0, fun _ => 0, by omega, rfl, words_lit (heap_alloc_new w _) (fun j hj => ?_), fun j hj => absurd hj (Nat.not_lt_zero _), fun _ _ => rfl, (Below.refl _ _).alloc (Nat.le_refl _) _⟩
    show (List.replicate 64 (Value.int .u32 0))[j]? = _
    rw [List.getElem?_replicate, if_pos hj]
    rfl
  case round =>
    obtain ⟨t, g, ht, rfl, H⟩ := hrel
    by_cases h16 : t < 16
    · have h4 : (4 * (t : Int) + 4) ≤ (c : Int) := by omega
      have h64 : (t : Int) < 64 := by omega
      go_wp2_with fail
      have hdk : decide ((t : Int) < 16) = true := decide_eq_true (by omega)
      simp only [hdk]
      clear hdk h4
      go_loopw [21] (fun i wr => ∃ (n : Nat) (g : Nat → Nat), n ≤ 4 ∧ i = .int .i64 (n : Int) ∧ Hid (WordsAt wr w.heap.size 64 g ∧ (∀ j, j < t → g j = wv f j) ∧ g t = pb f t n ∧ (∀ j, t < j → g j = 0) ∧ Below w.heap.size w wr)) (fun i _ => 4 - (intOf i).toNat)
      case atStart => exact ⟨0, g, by omega, rfl, H.out.1, H.out.2.1, H.out.2.2.1 t (Nat.le_refl _), fun j hj => H.out.2.2.1 j (by omega), H.out.2.2.2⟩
      case round =>
        obtain ⟨n, g', hn, rfl, H2⟩ := hrel
        by_cases hlt : n < 4
        · have hcell : wr.cell? ⟨b, off + 4 * t + n, none⟩ = some (.int .u8 ((f (4 * t + n) : Nat) : Int)) := by
            rw [Nat.add_assoc]
            exact (H2.out.2.2.2.2.cell (p := ⟨b, off + (4 * t + n), none⟩) HB.out.blk).trans (HB.out.cell _ (by omega))
          have hw := H2.out.1.cell t (by omega)
          rw [H2.out.2.2.1] at hw
          have hfz := H2.out.1.fz t
          have hq := pb_or HB.out.lt t hlt
          go_wp2_with fail
          go_roundw
          case rel =>
            refine ⟨n + 1, upd g' t (pb f t (n + 1)), by omega, by go_num, H2.out.1.set (by omega) _, fun j hj => ?_, ?_, fun j hj => ?_, H2.out.2.2.2.2.setCell (Nat.le_refl _) _⟩
            · unfold upd; rw [if_neg (by omega)]; exact H2.out.2.1 j hj
            · unfold upd; rw [if_pos rfl]
            · unfold upd; rw [if_neg (by omega)]; exact H2.out.2.2.2.1 j hj
          case measure => simp [intOf]; omega
        · obtain rfl : n = 4 := by omega
          go_wp2_with fail
          go_roundw
          case rel =>
            refine ⟨t + 1, g', by omega, by go_num, H2.out.1, fun j hj => ?_, fun j hj => H2.out.2.2.2.1 j (by omega), H2.out.2.2.2.2⟩
            by_cases e : j = t
            · subst e; rw [H2.out.2.2.1, pb_four, wv_lo f h16]
            · exact H2.out.2.1 j (by omega)
          case measure => simp [intOf]; omega
    · by_cases hlt : t < 64
      · obtain ⟨a, rfl⟩ : ∃ a, t = a + 16 := ⟨t - 16, by omega⟩
        have ha : (a : Int) < 48 := by omega
        have c14 := H.out.1.cell (a + 14) (by omega)
        have c9 := H.out.1.cell (a + 9) (by omega)
        have c1 := H.out.1.cell (a + 1) (by omega)
        have c0 := H.out.1.cell a (by omega)
        rw [H.out.2.1 _ (by omega)] at c14 c9 c1 c0
        obtain ⟨p14, q14⟩ : ∃ p, p = a + 14 := ⟨_, rfl⟩
        obtain ⟨p9, q9⟩ : ∃ p, p = a + 9 := ⟨_, rfl⟩
        obtain ⟨p1, q1⟩ : ∃ p, p = a + 1 := ⟨_, rfl⟩
        have w14 : IntKind.i64.wrap ((a : Int) + 16 - 2) = (p14 : Int) := by rw [q14, IntKind.wrap_i64]; omega
        have w9 : IntKind.i64.wrap ((a : Int) + 16 - 7) = (p9 : Int) := by rw [q9, IntKind.wrap_i64]; omega
        have w1 : IntKind.i64.wrap ((a : Int) + 16 - 15) = (p1 : Int) := by rw [q1, IntKind.wrap_i64]; omega
        have w0 : IntKind.i64.wrap (a : Int) = (a : Int) := by rw [IntKind.wrap_i64]; omega
        have b14 : (p14 : Int) < 64 := by omega
        have b9 : (p9 : Int) < 64 := by omega
        have b1 : (p1 : Int) < 64 := by omega
        have b0 : (a : Int) < 64 := by omega
        rw [← q14] at c14
        rw [← q9] at c9
        rw [← q1] at c1
        have Q14 := Lib.hid q14
        have Q9 := Lib.hid q9
        have Q1 := Lib.hid q1
        clear q14 q9 q1
        have hw := H.out.1.cell (a + 16) (by omega)
        have hfz := H.out.1.fz (a + 16)
        have hfd : wr.drew.drew.frozen? ⟨w.heap.size, a + 16, none⟩ = false := hfz
        obtain ⟨x14, e14⟩ : ∃ x, x = wv f p14 := ⟨_, rfl⟩
        obtain ⟨x9, e9⟩ : ∃ x, x = wv f p9 := ⟨_, rfl⟩
        obtain ⟨x1, e1⟩ : ∃ x, x = wv f p1 := ⟨_, rfl⟩
        obtain ⟨x0, e0⟩ : ∃ x, x = wv f a := ⟨_, rfl⟩
        rw [← e14] at c14
        rw [← e9] at c9
        rw [← e1] at c1
        rw [← e0] at c0
        have E14 := Lib.hid e14
        have E9 := Lib.hid e9
        have E1 := Lib.hid e1
        have E0 := Lib.hid e0
        have l14 : Hid (x14 < B) := by rw [e14]; exact wv_lt HB.out.lt _
        have l9 : Hid (x9 < B) := by rw [e9]; exact wv_lt HB.out.lt _
        have l1 : Hid (x1 < B) := by rw [e1]; exact wv_lt HB.out.lt _
        have l0 : Hid (x0 < B) := by rw [e0]; exact wv_lt HB.out.lt _
        clear e14 e9 e1 e0
        go_wp2_with fail
        refine region_mix 9 [false, false, false, false, false, false, false, false, false] (fun w' => w' = World.drew _) (by kernel_rfl) (by kernel_rfl) (by intro _ _ d _ _ h; cases d <;> exact h) rfl ?_
        simp only [List.take_succ_cons, List.take_zero, List.drop_succ_cons, List.drop_zero]
        with_reducible refine mix_v ?_ ?_ ?_
        · rfl
        · rfl
        apply Exists.intro
        refine ⟨fun w' hC => ?_, ?_⟩
        · subst hC
          go_simp
          rfl
        try simp only [Act.put, List.setIfInBounds_toArray, List.set_cons_zero, List.set_cons_succ, List.tail_cons]
        with_reducible refine mix_v ?_ ?_ ?_
        · rfl
        · rfl
        apply Exists.intro
        refine ⟨fun w' hC => ?_, ?_⟩
        · subst hC
          go_simp
          rfl
        try simp only [Act.put, List.setIfInBounds_toArray, List.set_cons_zero, List.set_cons_succ, List.tail_cons]
        with_reducible refine mix_v ?_ ?_ ?_
        · rfl
        · rfl
        apply Exists.intro
        refine ⟨fun w' hC => ?_, ?_⟩
        · subst hC
          go_simp
          rfl
        try simp only [Act.put, List.setIfInBounds_toArray, List.set_cons_zero, List.set_cons_succ, List.tail_cons]
        with_reducible refine mix_v ?_ ?_ ?_
        · rfl
        · rfl
        apply Exists.intro
        refine ⟨fun w' hC => ?_, ?_⟩
        · subst hC
          go_simp
          rfl
        try simp only [Act.put, List.setIfInBounds_toArray, List.set_cons_zero, List.set_cons_succ, List.tail_cons]
        with_reducible refine mix_v ?_ ?_ ?_
        · rfl
        · rfl
        apply Exists.intro
        refine ⟨fun w' hC => ?_, ?_⟩
        · subst hC
          go_simp
          rfl
        try simp only [Act.put, List.setIfInBounds_toArray, List.set_cons_zero, List.set_cons_succ, List.tail_cons]
        with_reducible refine mix_v ?_ ?_ ?_
        · rfl
        · rfl
        apply Exists.intro
        refine ⟨fun w' hC => ?_, ?_⟩
        · subst hC
          go_simp
          rfl
        try simp only [Act.put, List.setIfInBounds_toArray, List.set_cons_zero, List.set_cons_succ, List.tail_cons]
        with_reducible refine mix_v ?_ ?_ ?_
        · rfl
        · rfl
        apply Exists.intro
        refine ⟨fun w' hC => ?_, ?_⟩
        · subst hC
          go_simp
          rfl
        try simp only [Act.put, List.setIfInBounds_toArray, List.set_cons_zero, List.set_cons_succ, List.tail_cons]
        with_reducible refine mix_v ?_ ?_ ?_
        · rfl
        · rfl
        apply Exists.intro
        refine ⟨fun w' hC => ?_, ?_⟩
        · subst hC
          go_simp
          rfl
        try simp only [Act.put, List.setIfInBounds_toArray, List.set_cons_zero, List.set_cons_succ, List.tail_cons]
        with_reducible refine mix_v ?_ ?_ ?_
        · rfl
        · rfl
        apply Exists.intro
        refine ⟨fun w' hC => ?_, ?_⟩
        · subst hC
          go_simp
          rfl
        try simp only [Act.put, List.setIfInBounds_toArray, List.set_cons_zero, List.set_cons_succ, List.tail_cons]
        refine mix_nil ?_
        rintro _ rfl
        go_wp2_with fail
        refine region_mix 29 [false, false, false, false, false, false, false, false, false, false, false, false, false, false, false, false, false, false, false, false, false, false, false, false, false, false, false, false, false] (fun w' => w' = World.drew _) (by kernel_rfl) (by kernel_rfl) (by intro _ _ d _ _ h; cases d <;> exact h) rfl ?_
        simp only [List.take_succ_cons, List.take_zero, List.drop_succ_cons, List.drop_zero]
        with_reducible refine mix_v ?_ ?_ ?_
        · rfl
        · rfl
        apply Exists.intro
        refine ⟨fun w' hC => ?_, ?_⟩
        · subst hC
          go_simp
          rfl
        try simp only [Act.put, List.setIfInBounds_toArray, List.set_cons_zero, List.set_cons_succ, List.tail_cons]
        with_reducible refine mix_v ?_ ?_ ?_
        · rfl
        · rfl
        apply Exists.intro
        refine ⟨fun w' hC => ?_, ?_⟩
        · subst hC
          go_simp
          rfl
        try simp only [Act.put, List.setIfInBounds_toArray, List.set_cons_zero, List.set_cons_succ, List.tail_cons]
        with_reducible refine mix_c ?_ ?_ ?_
        · rfl
        · rfl
        apply Exists.intro
        apply Exists.intro
        apply Exists.intro
        refine ⟨fun w' hC => ?_, fun w' hC => ?_, ?_⟩
        · subst hC
          go_simp
          exact ⟨rfl, rfl⟩
        · subst hC
          exact same_of (rot_c 17 x14 (by decide) (by decide) l14.out _)
        try simp only [Act.put, List.setIfInBounds_toArray, List.set_cons_zero, List.set_cons_succ, List.tail_cons]
        with_reducible refine mix_v ?_ ?_ ?_
        · rfl
        · rfl
        apply Exists.intro
        refine ⟨fun w' hC => ?_, ?_⟩
        · subst hC
          go_simp
          rfl
        try simp only [Act.put, List.setIfInBounds_toArray, List.set_cons_zero, List.set_cons_succ, List.tail_cons]
        with_reducible refine mix_c ?_ ?_ ?_
        · rfl
        · rfl
        apply Exists.intro
        apply Exists.intro
        apply Exists.intro
        refine ⟨fun w' hC => ?_, fun w' hC => ?_, ?_⟩
        · subst hC
          go_simp
          exact ⟨rfl, rfl⟩
        · subst hC
          exact same_of (rot_c 19 x14 (by decide) (by decide) l14.out _)
        try simp only [Act.put, List.setIfInBounds_toArray, List.set_cons_zero, List.set_cons_succ, List.tail_cons]
        with_reducible refine mix_v ?_ ?_ ?_
        · rfl
        · rfl
        apply Exists.intro
        refine ⟨fun w' hC => ?_, ?_⟩
        · subst hC
          go_simp
          rfl
        try simp only [Act.put, List.setIfInBounds_toArray, List.set_cons_zero, List.set_cons_succ, List.tail_cons]
        with_reducible refine mix_v ?_ ?_ ?_
        · rfl
        · rfl
        apply Exists.intro
        refine ⟨fun w' hC => ?_, ?_⟩
        · subst hC
          go_simp
          rfl
        try simp only [Act.put, List.setIfInBounds_toArray, List.set_cons_zero, List.set_cons_succ, List.tail_cons]
        with_reducible refine mix_v ?_ ?_ ?_
        · rfl
        · rfl
        apply Exists.intro
        refine ⟨fun w' hC => ?_, ?_⟩
        · subst hC
          go_simp
          rfl
        try simp only [Act.put, List.setIfInBounds_toArray, List.set_cons_zero, List.set_cons_succ, List.tail_cons]
        with_reducible refine mix_v ?_ ?_ ?_
        · rfl
        · rfl
        apply Exists.intro
        refine ⟨fun w' hC => ?_, ?_⟩
        · subst hC
          go_simp
          rfl
        try simp only [Act.put, List.setIfInBounds_toArray, List.set_cons_zero, List.set_cons_succ, List.tail_cons]
        with_reducible refine mix_v ?_ ?_ ?_
        · rfl
        · rfl
        apply Exists.intro
        refine ⟨fun w' hC => ?_, ?_⟩
        · subst hC
          go_simp
          rfl
        try simp only [Act.put, List.setIfInBounds_toArray, List.set_cons_zero, List.set_cons_succ, List.tail_cons]
        with_reducible refine mix_v ?_ ?_ ?_
        · rfl
        · rfl
        apply Exists.intro
        refine ⟨fun w' hC => ?_, ?_⟩
        · subst hC
          go_simp
          rfl
        try simp only [Act.put, List.setIfInBounds_toArray, List.set_cons_zero, List.set_cons_succ, List.tail_cons]
        with_reducible refine mix_v ?_ ?_ ?_
        · rfl
        · rfl
        apply Exists.intro
        refine ⟨fun w' hC => ?_, ?_⟩
        · subst hC
          go_simp
          rfl
        try simp only [Act.put, List.setIfInBounds_toArray, List.set_cons_zero, List.set_cons_succ, List.tail_cons]
        with_reducible refine mix_v ?_ ?_ ?_
        · rfl
        · rfl
        apply Exists.intro
        refine ⟨fun w' hC => ?_, ?_⟩
        · subst hC
          go_simp
          rfl
        try simp only [Act.put, List.setIfInBounds_toArray, List.set_cons_zero, List.set_cons_succ, List.tail_cons]
        with_reducible refine mix_v ?_ ?_ ?_
        · rfl
        · rfl
        apply Exists.intro
        refine ⟨fun w' hC => ?_, ?_⟩
        · subst hC
          go_simp
          rfl
        try simp only [Act.put, List.setIfInBounds_toArray, List.set_cons_zero, List.set_cons_succ, List.tail_cons]
        with_reducible refine mix_v ?_ ?_ ?_
        · rfl
        · rfl
        apply Exists.intro
        refine ⟨fun w' hC => ?_, ?_⟩
        · subst hC
          go_simp
          rfl
        try simp only [Act.put, List.setIfInBounds_toArray, List.set_cons_zero, List.set_cons_succ, List.tail_cons]
        with_reducible refine mix_c ?_ ?_ ?_
        · rfl
        · rfl
        apply Exists.intro
        apply Exists.intro
        apply Exists.intro
        refine ⟨fun w' hC => ?_, fun w' hC => ?_, ?_⟩
        · subst hC
          go_simp
          exact ⟨rfl, rfl⟩
        · subst hC
          exact same_of (rot_c 7 x1 (by decide) (by decide) l1.out _)
        try simp only [Act.put, List.setIfInBounds_toArray, List.set_cons_zero, List.set_cons_succ, List.tail_cons]
        with_reducible refine mix_v ?_ ?_ ?_
        · rfl
        · rfl
        apply Exists.intro
        refine ⟨fun w' hC => ?_, ?_⟩
        · subst hC
          go_simp
          rfl
        try simp only [Act.put, List.setIfInBounds_toArray, List.set_cons_zero, List.set_cons_succ, List.tail_cons]
        with_reducible refine mix_c ?_ ?_ ?_
        · rfl
        · rfl
        apply Exists.intro
        apply Exists.intro
        apply Exists.intro
        refine ⟨fun w' hC => ?_, fun w' hC => ?_, ?_⟩
        · subst hC
          go_simp
          exact ⟨rfl, rfl⟩
        · subst hC
          exact same_of (rot_c 18 x1 (by decide) (by decide) l1.out _)
        try simp only [Act.put, List.setIfInBounds_toArray, List.set_cons_zero, List.set_cons_succ, List.tail_cons]
        with_reducible refine mix_v ?_ ?_ ?_
        · rfl
        · rfl
        apply Exists.intro
        refine ⟨fun w' hC => ?_, ?_⟩
        · subst hC
          go_simp
          rfl
        try simp only [Act.put, List.setIfInBounds_toArray, List.set_cons_zero, List.set_cons_succ, List.tail_cons]
        with_reducible refine mix_v ?_ ?_ ?_
        · rfl
        · rfl
        apply Exists.intro
        refine ⟨fun w' hC => ?_, ?_⟩
        · subst hC
          go_simp
          rfl
        try simp only [Act.put, List.setIfInBounds_toArray, List.set_cons_zero, List.set_cons_succ, List.tail_cons]
        with_reducible refine mix_v ?_ ?_ ?_
        · rfl
        · rfl
        apply Exists.intro
        refine ⟨fun w' hC => ?_, ?_⟩
        · subst hC
          go_simp
          rfl
        try simp only [Act.put, List.setIfInBounds_toArray, List.set_cons_zero, List.set_cons_succ, List.tail_cons]
        with_reducible refine mix_v ?_ ?_ ?_
        · rfl
        · rfl
        apply Exists.intro
        refine ⟨fun w' hC => ?_, ?_⟩
        · subst hC
          go_simp
          rfl
        try simp only [Act.put, List.setIfInBounds_toArray, List.set_cons_zero, List.set_cons_succ, List.tail_cons]
        with_reducible refine mix_v ?_ ?_ ?_
        · rfl
        · rfl
        apply Exists.intro
        refine ⟨fun w' hC => ?_, ?_⟩
        · subst hC
          go_simp
          rfl
        try simp only [Act.put, List.setIfInBounds_toArray, List.set_cons_zero, List.set_cons_succ, List.tail_cons]
        with_reducible refine mix_v ?_ ?_ ?_
        · rfl
        · rfl
        apply Exists.intro
        refine ⟨fun w' hC => ?_, ?_⟩
        · subst hC
          go_simp
          rfl
        try simp only [Act.put, List.setIfInBounds_toArray, List.set_cons_zero, List.set_cons_succ, List.tail_cons]
        with_reducible refine mix_v ?_ ?_ ?_
        · rfl
        · rfl
        apply Exists.intro
        refine ⟨fun w' hC => ?_, ?_⟩
        · subst hC
          go_simp
          rfl
        try simp only [Act.put, List.setIfInBounds_toArray, List.set_cons_zero, List.set_cons_succ, List.tail_cons]
        with_reducible refine mix_v ?_ ?_ ?_
        · rfl
        · rfl
        apply Exists.intro
        refine ⟨fun w' hC => ?_, ?_⟩
        · subst hC
          go_simp
          rfl
        try simp only [Act.put, List.setIfInBounds_toArray, List.set_cons_zero, List.set_cons_succ, List.tail_cons]
        with_reducible refine mix_v ?_ ?_ ?_
        · rfl
        · rfl
        apply Exists.intro
        refine ⟨fun w' hC => ?_, ?_⟩
        · subst hC
          go_simp
          rfl
        try simp only [Act.put, List.setIfInBounds_toArray, List.set_cons_zero, List.set_cons_succ, List.tail_cons]
        with_reducible refine mix_v ?_ ?_ ?_
        · rfl
        · rfl
        apply Exists.intro
        refine ⟨fun w' hC => ?_, ?_⟩
        · subst hC
          go_simp
          rfl
        try simp only [Act.put, List.setIfInBounds_toArray, List.set_cons_zero, List.set_cons_succ, List.tail_cons]
        with_reducible refine mix_v ?_ ?_ ?_
        · rfl
        · rfl
        apply Exists.intro
        refine ⟨fun w' hC => ?_, ?_⟩
        · subst hC
          go_simp
          rfl
        try simp only [Act.put, List.setIfInBounds_toArray, List.set_cons_zero, List.set_cons_succ, List.tail_cons]
        refine mix_nil ?_
        rintro _ rfl
        go_wp2_with fail
        any_goals (first | (rename_i h; exact absurd (hfz.symm.trans h) Bool.false_ne_true) | fail)
        go_roundw
        case rel =>
          rw [sched_val l14.out l1.out]
          refine ⟨a + 16 + 1, upd g (a + 16) (ad (ad (ad (sg1 x14) x9) (sg0 x1)) x0), by omega, by go_num, (H.out.1.set (by omega) _).drew.drew, fun j hj => ?_, fun j hj => ?_, ((H.out.2.2.2.setCell (Nat.le_refl _) _).drew).drew⟩
          · unfold upd
            by_cases e : j = a + 16
            · subst e
              rw [if_pos rfl, wv_hi f (t := a + 16) (by omega), E14.out, E9.out, E1.out, E0.out, Q14.out, Q9.out, Q1.out]
              rfl
            · rw [if_neg e]; exact H.out.2.1 j (by omega)
          · unfold upd; rw [if_neg (by omega)]; exact H.out.2.2.1 j (by omega)
        case measure => simp [intOf]; omega
      · obtain rfl : t = 64 := by omega
        clear hlt ht h16
        have e : ws (wv f) 64 = ws g 64 := ws_congr fun j hj => (H.out.2.1 j hj).symm
        have E := Lib.hid e
        clear e
        go_wp2_with (first
          | (refine wpList_load_of rfl 52 (.tmp 2) rfl (.pointer (some ⟨w.heap.size, 0, none⟩)) (.agg (ws g 64).toArray) rfl (load_words H.out.1 Tryd.underlying52 (by kernel_rfl)) ?_; simp only [Act.put, List.setIfInBounds_toArray, List.set_cons_zero, List.set_cons_succ, List.tail_cons])
          | ((with_reducible show wpList _ _ _ (⟨none, _, _, _, _, _⟩ :: []) _ _); refine wpList_store_mid rfl 52 (.tmp 2) (.tmp 73) rfl w.heap.size 0 (ws g 64).toArray rfl rfl (there_ws H.out.1) (info_ws (by kernel_rfl)) (ws_one g 64) ?_; simp only [Act.put, List.setIfInBounds_toArray, List.set_cons_zero, List.set_cons_succ, List.tail_cons]))
        exact bodyPost_ret (v := .agg (ws (wv f) 64).toArray) (by rw [E.out]; exact results_words (g := g) (b := w.heap.size) rfl rfl H.out.1.stored Tryd.underlying52 (by kernel_rfl)) rfl ⟨rfl, below_setCells (Nat.le_refl _) _ _ _ _ H.out.2.2.2⟩
end Go.Proofs.YtdaggankfokloaaDoor
