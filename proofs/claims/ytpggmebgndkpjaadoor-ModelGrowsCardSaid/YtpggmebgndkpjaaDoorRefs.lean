/- Contracts of the reference of layer 4: Sum, sub. The contract of the reference's sub. Contracts of the reference of layer 4: Subtract, Add, Sub, One. The contract of the reference's Sub modulo p. The contract of the reference's Bit. The contract of the reference's Mul modulo p. The contracts of the reference's Radix and Modulus. The contracts of the reference's Mod, Form, Modulus and Mask. The contracts of the reference's Modulus and Mask. -/
import Derived.Test.YtpggmebgndkpjaaDoorLeafs
import Derived.Test.YtpggmebgndkpjaaDoorWalk0
namespace Go.Proofs.YtpggmebgndkpjaaDoor
set_option linter.all false
open Go.RowKit

theorem digit_at (b k : Nat) (h : k < 4) : ∀ h' : k < ([.int .u64 ((dg 0 b : Nat) : Int), .int .u64 ((dg 1 b : Nat) : Int), .int .u64 ((dg 2 b : Nat) : Int), .int .u64 ((dg 3 b : Nat) : Int)] : List Value).length,
    ([.int .u64 ((dg 0 b : Nat) : Int), .int .u64 ((dg 1 b : Nat) : Int), .int .u64 ((dg 2 b : Nat) : Int), .int .u64 ((dg 3 b : Nat) : Int)] : List Value)[k]'h' = .int .u64 ((dg k b : Nat) : Int) := fun h' => by
  rcases k with _ | _ | _ | _ | k <;> first | rfl | omega

set_option maxRecDepth 100000 in
set_option maxHeartbeats 2000000 in
theorem refSum_c (a b : Nat) (ha : a < R4) (hb : b < R4) (w : World) :
    Calls Tryd.prog 120 #[vec a, vec b] w fun e w' => e = .returned (.tuple #[vec (addV a b), .int .u64 ((addC a b : Nat) : Int)]) ∧ Below w.heap.size w w' := by
  have he := Lib.hid (chain_add ha hb)
  have A2 := wrap_add
  clear ha hb
  go_enter Tryd.func120, Tryd.ntmps120
  go_wp2_with fail
  go_loopw [7, 8] (fun c i wr => ∃ (k : Nat), k ≤ 4 ∧ i = .int .i64 (k : Int) ∧ c = .int .u64 ((cyc addHi a b k : Nat) : Int) ∧ wr = (((((w.alloc
      (.cells #[.int .u64 ((dg 0 a : Nat) : Int), .int .u64 ((dg 1 a : Nat) : Int), .int .u64 ((dg 2 a : Nat) : Int), .int .u64 ((dg 3 a : Nat) : Int)] 44)).alloc
      (.cells #[.int .u64 ((dg 0 b : Nat) : Int), .int .u64 ((dg 1 b : Nat) : Int), .int .u64 ((dg 2 b : Nat) : Int), .int .u64 ((dg 3 b : Nat) : Int)] 44)).alloc
      (.cells #[.int .u64 0, .int .u64 0, .int .u64 0, .int .u64 0] 44)).alloc
      (.cells #[.int .u64 ((ow addLo addHi a b 0 k : Nat) : Int), .int .u64 ((ow addLo addHi a b 1 k : Nat) : Int), .int .u64 ((ow addLo addHi a b 2 k : Nat) : Int), .int .u64 ((ow addLo addHi a b 3 k : Nat) : Int)] 44)))) (fun _ i _ => 4 - (intOf i).toNat)
  case atStart => exact ⟨0, by omega, rfl, rfl, rfl⟩
  case round =>
    obtain ⟨k, hk4, rfl, rfl, rfl⟩ := hrel
    by_cases hk : k < 4
    · have d1 := digit_at a k hk
      have d2 := digit_at b k hk
      go_wp2_with fail
      all_goals go_roundw
      all_goals first
        | (simp [intOf]; omega)
        | (have e1 : cyc addHi a b (k + 1) = 1 := sum_one (dg_lt _ _) (dg_lt _ _) (cyc_add_le _ _ _) (by omega)
           exact ⟨k + 1, by omega, by go_num, by rw [e1]; rfl, by rw [ow_set hk (sum_lo _ _ _)]⟩)
        | (have e0 : cyc addHi a b (k + 1) = 0 := sum_zero (dg_lt _ _) (dg_lt _ _) (cyc_add_le _ _ _) (by omega) (by omega)
           exact ⟨k + 1, by omega, by go_num, by rw [e0]; rfl, by rw [ow_set hk (sum_lo _ _ _)]⟩)
    · obtain rfl : k = 4 := by omega
      go_wp2_with fail
      have hv := ow_vec (hi := addHi) addLo_lt a b
      rw [← he.out.1, ← he.out.2, hv, chC_cyc]
      refine bodyPost_ret (v := .tuple #[.agg (ows addLo addHi a b 4).toArray, .int .u64 ((cyc addHi a b 4 : Nat) : Int)]) (by simp only [results, Tryd.results120]; go_simp) rfl ⟨rfl, ?_⟩
      repeat first
        | with_reducible exact Below.refl _ _
        | with_reducible refine Below.drew ?_
        | with_reducible refine below_dN ?_
        | with_reducible refine Below.alloc ?_ (by first | omega | (simp; done) | (simp; omega)) _
        | with_reducible refine Below.setCell ?_ (by first | omega | (simp; done) | (simp; omega)) _
        | with_reducible refine Below.trans ?_ (Below.mono (by assumption) (by first | omega | (simp; done) | (simp; omega)))
end Go.Proofs.YtpggmebgndkpjaaDoor

namespace Go.Proofs.YtpggmebgndkpjaaDoor
set_option linter.all false
open Go.RowKit

set_option maxRecDepth 100000 in
set_option maxHeartbeats 4000000 in
theorem refsub_c (a b : Nat) (ha : a < R4) (hb : b < R4) (w : World) :
    Calls Tryd.prog 126 #[vec a, vec b] w fun e w' => e = .returned (.tuple #[vec (subV a b), .int .u64 ((subC a b : Nat) : Int)]) ∧ Below w.heap.size w w' := by
  have he := Lib.hid (chain_sub ha hb)
  clear ha hb
  go_enter Tryd.func126, Tryd.ntmps126
  go_wp2_with fail
  go_loopw [7, 8] (fun c i wr => ∃ (k n : Nat), k ≤ 4 ∧ i = .int .i64 (k : Int) ∧ c = .int .u64 ((cyc subHi a b k : Nat) : Int) ∧ wr = World.drewN ((((w.alloc
      (.cells #[.int .u64 ((dg 0 a : Nat) : Int), .int .u64 ((dg 1 a : Nat) : Int), .int .u64 ((dg 2 a : Nat) : Int), .int .u64 ((dg 3 a : Nat) : Int)] 44)).alloc
      (.cells #[.int .u64 ((dg 0 b : Nat) : Int), .int .u64 ((dg 1 b : Nat) : Int), .int .u64 ((dg 2 b : Nat) : Int), .int .u64 ((dg 3 b : Nat) : Int)] 44)).alloc
      (.cells #[.int .u64 0, .int .u64 0, .int .u64 0, .int .u64 0] 44)).alloc
      (.cells #[.int .u64 ((ow subLo subHi a b 0 k : Nat) : Int), .int .u64 ((ow subLo subHi a b 1 k : Nat) : Int), .int .u64 ((ow subLo subHi a b 2 k : Nat) : Int), .int .u64 ((ow subLo subHi a b 3 k : Nat) : Int)] 44)) n) (fun _ i _ => 4 - (intOf i).toNat)
  case atStart => exact ⟨0, 0, by omega, rfl, rfl, rfl⟩
  case round =>
    obtain ⟨k, n, hk4, rfl, rfl, rfl⟩ := hrel
    by_cases hk : k < 4
    · have d1 := digit_at a k hk
      have d2 := digit_at b k hk
      have hx := wrap_sub (dg k a) (dg k b) (cyc subHi a b k) (dg_lt _ _) (dg_lt _ _) (cyc_sub_le _ _ _)
      have hlo : subLo (dg k a) (dg k b) (cyc subHi a b k) = subLo (dg k a) (dg k b) (cyc subHi a b k) := rfl
      have Hc := Lib.hid (cyc_sub_le a b k)
      have fin : ∀ (c n' : Nat) (v : Value), v = .int .u64 (c : Int) → c = cyc subHi a b (k + 1) → ∃ (k_1 n_1 : Nat), k_1 ≤ 4 ∧ Value.int IntKind.i64 ((k : Int) + 1) = .int .i64 (k_1 : Int) ∧ v = .int .u64 ((cyc subHi a b k_1 : Nat) : Int) ∧
        World.drewN ((((w.alloc
      (.cells #[.int .u64 ((dg 0 a : Nat) : Int), .int .u64 ((dg 1 a : Nat) : Int), .int .u64 ((dg 2 a : Nat) : Int), .int .u64 ((dg 3 a : Nat) : Int)] 44)).alloc
      (.cells #[.int .u64 ((dg 0 b : Nat) : Int), .int .u64 ((dg 1 b : Nat) : Int), .int .u64 ((dg 2 b : Nat) : Int), .int .u64 ((dg 3 b : Nat) : Int)] 44)).alloc
      (.cells #[.int .u64 0, .int .u64 0, .int .u64 0, .int .u64 0] 44)).alloc
      (.cells ((ows subLo subHi a b k).set k (.int .u64 ((subLo (dg k a) (dg k b) (cyc subHi a b k) : Nat) : Int))).toArray 44)) n' = World.drewN ((((w.alloc
      (.cells #[.int .u64 ((dg 0 a : Nat) : Int), .int .u64 ((dg 1 a : Nat) : Int), .int .u64 ((dg 2 a : Nat) : Int), .int .u64 ((dg 3 a : Nat) : Int)] 44)).alloc
      (.cells #[.int .u64 ((dg 0 b : Nat) : Int), .int .u64 ((dg 1 b : Nat) : Int), .int .u64 ((dg 2 b : Nat) : Int), .int .u64 ((dg 3 b : Nat) : Int)] 44)).alloc
      (.cells #[.int .u64 0, .int .u64 0, .int .u64 0, .int .u64 0] 44)).alloc
      (.cells (ows subLo subHi a b k_1).toArray 44)) n_1 := fun c n' v hv hc => ⟨k + 1, n', by omega, by go_num, by rw [hv, hc], by rw [ow_set hk rfl]⟩
      have Fin := Lib.hid fin
      clear fin hlo
      by_cases h1 : dg k a < dg k b
      · have hc : cyc subHi a b (k + 1) = 1 := (cyc_succ _ _ _ _).trans (sub_one (by omega))
        have HC := Lib.hid hc
        clear hc
        as_aux_lemma =>
          go_wp2_with fail
          refine region_mix 11 [false, false, false, false, false, false, false, false, false, false, false] (fun w' => w' = World.drew _) (by kernel_rfl) (by kernel_rfl) (by intro _ _ d _ _ h; cases d <;> exact h) rfl ?_
          simp only [List.take_succ_cons, List.take_zero, List.drop_succ_cons, List.drop_zero]
          with_reducible refine mix_v ?_ ?_ ?_
          · rfl
          · rfl
          apply Exists.intro
          refine ⟨fun w' hC => ?_, ?_⟩
          · subst hC
            go_simp
            rfl
          try simp only [Act.put, List.setIfInBounds_toArray, List.set_cons_zero, List.set_cons_succ, List.tail_cons]
          with_reducible refine mix_v ?_ ?_ ?_
          · rfl
          · rfl
          apply Exists.intro
          refine ⟨fun w' hC => ?_, ?_⟩
          · subst hC
            go_simp
            rfl
          try simp only [Act.put, List.setIfInBounds_toArray, List.set_cons_zero, List.set_cons_succ, List.tail_cons]
          with_reducible refine mix_v ?_ ?_ ?_
          · rfl
          · rfl
          apply Exists.intro
          refine ⟨fun w' hC => ?_, ?_⟩
          · subst hC
            go_simp
            rfl
          try simp only [Act.put, List.setIfInBounds_toArray, List.set_cons_zero, List.set_cons_succ, List.tail_cons]
          with_reducible refine mix_v ?_ ?_ ?_
          · rfl
          · rfl
          apply Exists.intro
          refine ⟨fun w' hC => ?_, ?_⟩
          · subst hC
            go_simp
            rfl
          try simp only [Act.put, List.setIfInBounds_toArray, List.set_cons_zero, List.set_cons_succ, List.tail_cons]
          with_reducible refine mix_v ?_ ?_ ?_
          · rfl
          · rfl
          apply Exists.intro
          refine ⟨fun w' hC => ?_, ?_⟩
          · subst hC
            go_simp
            rfl
          try simp only [Act.put, List.setIfInBounds_toArray, List.set_cons_zero, List.set_cons_succ, List.tail_cons]
          with_reducible refine mix_v ?_ ?_ ?_
          · rfl
          · rfl
          apply Exists.intro
          refine ⟨fun w' hC => ?_, ?_⟩
          · subst hC
            go_simp
            rfl
          try simp only [Act.put, List.setIfInBounds_toArray, List.set_cons_zero, List.set_cons_succ, List.tail_cons]
          with_reducible refine mix_v ?_ ?_ ?_
          · rfl
          · rfl
          apply Exists.intro
          refine ⟨fun w' hC => ?_, ?_⟩
          · subst hC
            go_simp
            rfl
          try simp only [Act.put, List.setIfInBounds_toArray, List.set_cons_zero, List.set_cons_succ, List.tail_cons]
          with_reducible refine mix_v ?_ ?_ ?_
          · rfl
          · rfl
          apply Exists.intro
          refine ⟨fun w' hC => ?_, ?_⟩
          · subst hC
            go_simp
            rfl
          try simp only [Act.put, List.setIfInBounds_toArray, List.set_cons_zero, List.set_cons_succ, List.tail_cons]
          with_reducible refine mix_v ?_ ?_ ?_
          · rfl
          · rfl
          apply Exists.intro
          refine ⟨fun w' hC => ?_, ?_⟩
          · subst hC
            go_simp
            rfl
          try simp only [Act.put, List.setIfInBounds_toArray, List.set_cons_zero, List.set_cons_succ, List.tail_cons]
          with_reducible refine mix_v ?_ ?_ ?_
          · rfl
          · rfl
          apply Exists.intro
          refine ⟨fun w' hC => ?_, ?_⟩
          · subst hC
            go_simp
            rfl
          try simp only [Act.put, List.setIfInBounds_toArray, List.set_cons_zero, List.set_cons_succ, List.tail_cons]
          with_reducible refine mix_v ?_ ?_ ?_
          · rfl
          · rfl
          apply Exists.intro
          refine ⟨fun w' hC => ?_, ?_⟩
          · subst hC
            go_simp
            rfl
          try simp only [Act.put, List.setIfInBounds_toArray, List.set_cons_zero, List.set_cons_succ, List.tail_cons]
          refine mix_nil ?_
          rintro _ rfl
          go_wp2_with fail
          refine region_quiet (fun w' => w' = World.drew _) (by kernel_rfl) (by kernel_rfl) rfl ?_
          with_reducible refine mix_v ?_ ?_ ?_
          · rfl
          · rfl
          apply Exists.intro
          refine ⟨fun w' hC => ?_, ?_⟩
          · subst hC
            go_simp
            rfl
          try simp only [Act.put, List.setIfInBounds_toArray, List.set_cons_zero, List.set_cons_succ, List.tail_cons]
          with_reducible refine mix_v ?_ ?_ ?_
          · rfl
          · rfl
          apply Exists.intro
          refine ⟨fun w' hC => ?_, ?_⟩
          · subst hC
            go_simp
            rfl
          try simp only [Act.put, List.setIfInBounds_toArray, List.set_cons_zero, List.set_cons_succ, List.tail_cons]
          with_reducible refine mix_v ?_ ?_ ?_
          · rfl
          · rfl
          apply Exists.intro
          refine ⟨fun w' hC => ?_, ?_⟩
          · subst hC
            go_simp
            rfl
          try simp only [Act.put, List.setIfInBounds_toArray, List.set_cons_zero, List.set_cons_succ, List.tail_cons]
          with_reducible refine mix_v ?_ ?_ ?_
          · rfl
          · rfl
          apply Exists.intro
          refine ⟨fun w' hC => ?_, ?_⟩
          · subst hC
            go_simp
            rfl
          try simp only [Act.put, List.setIfInBounds_toArray, List.set_cons_zero, List.set_cons_succ, List.tail_cons]
          with_reducible refine mix_v ?_ ?_ ?_
          · rfl
          · rfl
          apply Exists.intro
          refine ⟨fun w' hC => ?_, ?_⟩
          · subst hC
            go_simp
            rfl
          try simp only [Act.put, List.setIfInBounds_toArray, List.set_cons_zero, List.set_cons_succ, List.tail_cons]
          with_reducible refine mix_v ?_ ?_ ?_
          · rfl
          · rfl
          apply Exists.intro
          refine ⟨fun w' hC => ?_, ?_⟩
          · subst hC
            go_simp
            rfl
          try simp only [Act.put, List.setIfInBounds_toArray, List.set_cons_zero, List.set_cons_succ, List.tail_cons]
          with_reducible refine mix_v ?_ ?_ ?_
          · rfl
          · rfl
          apply Exists.intro
          refine ⟨fun w' hC => ?_, ?_⟩
          · subst hC
            go_simp
            rfl
          try simp only [Act.put, List.setIfInBounds_toArray, List.set_cons_zero, List.set_cons_succ, List.tail_cons]
          with_reducible refine mix_v ?_ ?_ ?_
          · rfl
          · rfl
          apply Exists.intro
          refine ⟨fun w' hC => ?_, ?_⟩
          · subst hC
            go_simp
            rfl
          try simp only [Act.put, List.setIfInBounds_toArray, List.set_cons_zero, List.set_cons_succ, List.tail_cons]
          first
            | (with_reducible refine mix_s ?_ ?_ ?_
               · rfl
               · rfl)
            | (with_reducible refine mix_v ?_ ?_ ?_
               · rfl
               · rfl
               apply Exists.intro
               refine ⟨fun w' hC => ?_, ?_⟩
               · subst hC
                 go_simp
                 rfl)
          try simp only [Act.put, List.setIfInBounds_toArray, List.set_cons_zero, List.set_cons_succ, List.tail_cons]
          first
            | (with_reducible refine mix_s ?_ ?_ ?_
               · rfl
               · rfl)
            | (with_reducible refine mix_v ?_ ?_ ?_
               · rfl
               · rfl
               apply Exists.intro
               refine ⟨fun w' hC => ?_, ?_⟩
               · subst hC
                 go_simp
                 rfl)
          try simp only [Act.put, List.setIfInBounds_toArray, List.set_cons_zero, List.set_cons_succ, List.tail_cons]
          first
            | (with_reducible refine mix_s ?_ ?_ ?_
               · rfl
               · rfl)
            | (with_reducible refine mix_v ?_ ?_ ?_
               · rfl
               · rfl
               apply Exists.intro
               refine ⟨fun w' hC => ?_, ?_⟩
               · subst hC
                 go_simp
                 rfl)
          try simp only [Act.put, List.setIfInBounds_toArray, List.set_cons_zero, List.set_cons_succ, List.tail_cons]
          first
            | (with_reducible refine mix_s ?_ ?_ ?_
               · rfl
               · rfl)
            | (with_reducible refine mix_v ?_ ?_ ?_
               · rfl
               · rfl
               apply Exists.intro
               refine ⟨fun w' hC => ?_, ?_⟩
               · subst hC
                 go_simp
                 rfl)
          try simp only [Act.put, List.setIfInBounds_toArray, List.set_cons_zero, List.set_cons_succ, List.tail_cons]
          first
            | (with_reducible refine mix_s ?_ ?_ ?_
               · rfl
               · rfl)
            | (with_reducible refine mix_v ?_ ?_ ?_
               · rfl
               · rfl
               apply Exists.intro
               refine ⟨fun w' hC => ?_, ?_⟩
               · subst hC
                 go_simp
                 rfl)
          try simp only [Act.put, List.setIfInBounds_toArray, List.set_cons_zero, List.set_cons_succ, List.tail_cons]
          first
            | (with_reducible refine mix_s ?_ ?_ ?_
               · rfl
               · rfl)
            | (with_reducible refine mix_v ?_ ?_ ?_
               · rfl
               · rfl
               apply Exists.intro
               refine ⟨fun w' hC => ?_, ?_⟩
               · subst hC
                 go_simp
                 rfl)
          try simp only [Act.put, List.setIfInBounds_toArray, List.set_cons_zero, List.set_cons_succ, List.tail_cons]
          first
            | (with_reducible refine mix_s ?_ ?_ ?_
               · rfl
               · rfl)
            | (with_reducible refine mix_v ?_ ?_ ?_
               · rfl
               · rfl
               apply Exists.intro
               refine ⟨fun w' hC => ?_, ?_⟩
               · subst hC
                 go_simp
                 rfl)
          try simp only [Act.put, List.setIfInBounds_toArray, List.set_cons_zero, List.set_cons_succ, List.tail_cons]
          first
            | (with_reducible refine mix_s ?_ ?_ ?_
               · rfl
               · rfl)
            | (with_reducible refine mix_v ?_ ?_ ?_
               · rfl
               · rfl
               apply Exists.intro
               refine ⟨fun w' hC => ?_, ?_⟩
               · subst hC
                 go_simp
                 rfl)
          try simp only [Act.put, List.setIfInBounds_toArray, List.set_cons_zero, List.set_cons_succ, List.tail_cons]
          first
            | (with_reducible refine mix_s ?_ ?_ ?_
               · rfl
               · rfl)
            | (with_reducible refine mix_v ?_ ?_ ?_
               · rfl
               · rfl
               apply Exists.intro
               refine ⟨fun w' hC => ?_, ?_⟩
               · subst hC
                 go_simp
                 rfl)
          try simp only [Act.put, List.setIfInBounds_toArray, List.set_cons_zero, List.set_cons_succ, List.tail_cons]
          first
            | (with_reducible refine mix_s ?_ ?_ ?_
               · rfl
               · rfl)
            | (with_reducible refine mix_v ?_ ?_ ?_
               · rfl
               · rfl
               apply Exists.intro
               refine ⟨fun w' hC => ?_, ?_⟩
               · subst hC
                 go_simp
                 rfl)
          try simp only [Act.put, List.setIfInBounds_toArray, List.set_cons_zero, List.set_cons_succ, List.tail_cons]
          first
            | (with_reducible refine mix_s ?_ ?_ ?_
               · rfl
               · rfl)
            | (with_reducible refine mix_v ?_ ?_ ?_
               · rfl
               · rfl
               apply Exists.intro
               refine ⟨fun w' hC => ?_, ?_⟩
               · subst hC
                 go_simp
                 rfl)
          try simp only [Act.put, List.setIfInBounds_toArray, List.set_cons_zero, List.set_cons_succ, List.tail_cons]
          with_reducible refine mix_v ?_ ?_ ?_
          · rfl
          · rfl
          apply Exists.intro
          refine ⟨fun w' hC => ?_, ?_⟩
          · subst hC
            go_simp
            rfl
          try simp only [Act.put, List.setIfInBounds_toArray, List.set_cons_zero, List.set_cons_succ, List.tail_cons]
          refine mix_nil ?_
          rintro _ rfl
          go_wp2_with fail
          go_roundw
          case rel => exact Fin.out 1 _ _ rfl HC.out.symm
          case measure => simp [intOf]; omega
      · by_cases h2 : dg k a = dg k b
        · obtain ⟨e1, e2, e3⟩ := eq_facts h2
          by_cases h3 : cyc subHi a b k = 1
          · have hc : cyc subHi a b (k + 1) = 1 := (cyc_succ _ _ _ _).trans (sub_one (by omega))
            obtain ⟨f1, f2, f3⟩ := eq1_facts h3
            have HC := Lib.hid hc
            have H2 := Lib.hid h2
            have H3 := Lib.hid h3
            clear hc h2 h3
            as_aux_lemma =>
              go_wp2_with fail
              refine region_mix 11 [false, false, false, false, false, false, false, false, false, false, false] (fun w' => w' = World.drew _) (by kernel_rfl) (by kernel_rfl) (by intro _ _ d _ _ h; cases d <;> exact h) rfl ?_
              simp only [List.take_succ_cons, List.take_zero, List.drop_succ_cons, List.drop_zero]
              with_reducible refine mix_v ?_ ?_ ?_
              · rfl
              · rfl
              apply Exists.intro
              refine ⟨fun w' hC => ?_, ?_⟩
              · subst hC
                go_simp
                rfl
              try simp only [Act.put, List.setIfInBounds_toArray, List.set_cons_zero, List.set_cons_succ, List.tail_cons]
              with_reducible refine mix_v ?_ ?_ ?_
              · rfl
              · rfl
              apply Exists.intro
              refine ⟨fun w' hC => ?_, ?_⟩
              · subst hC
                go_simp
                rfl
              try simp only [Act.put, List.setIfInBounds_toArray, List.set_cons_zero, List.set_cons_succ, List.tail_cons]
              with_reducible refine mix_v ?_ ?_ ?_
              · rfl
              · rfl
              apply Exists.intro
              refine ⟨fun w' hC => ?_, ?_⟩
              · subst hC
                go_simp
                rfl
              try simp only [Act.put, List.setIfInBounds_toArray, List.set_cons_zero, List.set_cons_succ, List.tail_cons]
              with_reducible refine mix_v ?_ ?_ ?_
              · rfl
              · rfl
              apply Exists.intro
              refine ⟨fun w' hC => ?_, ?_⟩
              · subst hC
                go_simp
                rfl
              try simp only [Act.put, List.setIfInBounds_toArray, List.set_cons_zero, List.set_cons_succ, List.tail_cons]
              with_reducible refine mix_v ?_ ?_ ?_
              · rfl
              · rfl
              apply Exists.intro
              refine ⟨fun w' hC => ?_, ?_⟩
              · subst hC
                go_simp
                rfl
              try simp only [Act.put, List.setIfInBounds_toArray, List.set_cons_zero, List.set_cons_succ, List.tail_cons]
              with_reducible refine mix_v ?_ ?_ ?_
              · rfl
              · rfl
              apply Exists.intro
              refine ⟨fun w' hC => ?_, ?_⟩
              · subst hC
                go_simp
                rfl
              try simp only [Act.put, List.setIfInBounds_toArray, List.set_cons_zero, List.set_cons_succ, List.tail_cons]
              with_reducible refine mix_v ?_ ?_ ?_
              · rfl
              · rfl
              apply Exists.intro
              refine ⟨fun w' hC => ?_, ?_⟩
              · subst hC
                go_simp
                rfl
              try simp only [Act.put, List.setIfInBounds_toArray, List.set_cons_zero, List.set_cons_succ, List.tail_cons]
              with_reducible refine mix_v ?_ ?_ ?_
              · rfl
              · rfl
              apply Exists.intro
              refine ⟨fun w' hC => ?_, ?_⟩
              · subst hC
                go_simp
                rfl
              try simp only [Act.put, List.setIfInBounds_toArray, List.set_cons_zero, List.set_cons_succ, List.tail_cons]
              with_reducible refine mix_v ?_ ?_ ?_
              · rfl
              · rfl
              apply Exists.intro
              refine ⟨fun w' hC => ?_, ?_⟩
              · subst hC
                go_simp
                rfl
              try simp only [Act.put, List.setIfInBounds_toArray, List.set_cons_zero, List.set_cons_succ, List.tail_cons]
              with_reducible refine mix_v ?_ ?_ ?_
              · rfl
              · rfl
              apply Exists.intro
              refine ⟨fun w' hC => ?_, ?_⟩
              · subst hC
                go_simp
                rfl
              try simp only [Act.put, List.setIfInBounds_toArray, List.set_cons_zero, List.set_cons_succ, List.tail_cons]
              with_reducible refine mix_v ?_ ?_ ?_
              · rfl
              · rfl
              apply Exists.intro
              refine ⟨fun w' hC => ?_, ?_⟩
              · subst hC
                go_simp
                rfl
              try simp only [Act.put, List.setIfInBounds_toArray, List.set_cons_zero, List.set_cons_succ, List.tail_cons]
              refine mix_nil ?_
              rintro _ rfl
              go_wp2_with fail
              refine region_quiet (fun w' => w' = World.drew _) (by kernel_rfl) (by kernel_rfl) rfl ?_
              with_reducible refine mix_v ?_ ?_ ?_
              · rfl
              · rfl
              apply Exists.intro
              refine ⟨fun w' hC => ?_, ?_⟩
              · subst hC
                go_simp
                rfl
              try simp only [Act.put, List.setIfInBounds_toArray, List.set_cons_zero, List.set_cons_succ, List.tail_cons]
              with_reducible refine mix_v ?_ ?_ ?_
              · rfl
              · rfl
              apply Exists.intro
              refine ⟨fun w' hC => ?_, ?_⟩
              · subst hC
                go_simp
                rfl
              try simp only [Act.put, List.setIfInBounds_toArray, List.set_cons_zero, List.set_cons_succ, List.tail_cons]
              with_reducible refine mix_v ?_ ?_ ?_
              · rfl
              · rfl
              apply Exists.intro
              refine ⟨fun w' hC => ?_, ?_⟩
              · subst hC
                go_simp
                rfl
              try simp only [Act.put, List.setIfInBounds_toArray, List.set_cons_zero, List.set_cons_succ, List.tail_cons]
              with_reducible refine mix_v ?_ ?_ ?_
              · rfl
              · rfl
              apply Exists.intro
              refine ⟨fun w' hC => ?_, ?_⟩
              · subst hC
                go_simp
                rfl
              try simp only [Act.put, List.setIfInBounds_toArray, List.set_cons_zero, List.set_cons_succ, List.tail_cons]
              with_reducible refine mix_v ?_ ?_ ?_
              · rfl
              · rfl
              apply Exists.intro
              refine ⟨fun w' hC => ?_, ?_⟩
              · subst hC
                go_simp
                rfl
              try simp only [Act.put, List.setIfInBounds_toArray, List.set_cons_zero, List.set_cons_succ, List.tail_cons]
              with_reducible refine mix_v ?_ ?_ ?_
              · rfl
              · rfl
              apply Exists.intro
              refine ⟨fun w' hC => ?_, ?_⟩
              · subst hC
                go_simp
                rfl
              try simp only [Act.put, List.setIfInBounds_toArray, List.set_cons_zero, List.set_cons_succ, List.tail_cons]
              with_reducible refine mix_v ?_ ?_ ?_
              · rfl
              · rfl
              apply Exists.intro
              refine ⟨fun w' hC => ?_, ?_⟩
              · subst hC
                go_simp
                rfl
              try simp only [Act.put, List.setIfInBounds_toArray, List.set_cons_zero, List.set_cons_succ, List.tail_cons]
              with_reducible refine mix_v ?_ ?_ ?_
              · rfl
              · rfl
              apply Exists.intro
              refine ⟨fun w' hC => ?_, ?_⟩
              · subst hC
                go_simp
                rfl
              try simp only [Act.put, List.setIfInBounds_toArray, List.set_cons_zero, List.set_cons_succ, List.tail_cons]
              first
                | (with_reducible refine mix_s ?_ ?_ ?_
                   · rfl
                   · rfl)
                | (with_reducible refine mix_v ?_ ?_ ?_
                   · rfl
                   · rfl
                   apply Exists.intro
                   refine ⟨fun w' hC => ?_, ?_⟩
                   · subst hC
                     go_simp
                     rfl)
              try simp only [Act.put, List.setIfInBounds_toArray, List.set_cons_zero, List.set_cons_succ, List.tail_cons]
              first
                | (with_reducible refine mix_s ?_ ?_ ?_
                   · rfl
                   · rfl)
                | (with_reducible refine mix_v ?_ ?_ ?_
                   · rfl
                   · rfl
                   apply Exists.intro
                   refine ⟨fun w' hC => ?_, ?_⟩
                   · subst hC
                     go_simp
                     rfl)
              try simp only [Act.put, List.setIfInBounds_toArray, List.set_cons_zero, List.set_cons_succ, List.tail_cons]
              first
                | (with_reducible refine mix_s ?_ ?_ ?_
                   · rfl
                   · rfl)
                | (with_reducible refine mix_v ?_ ?_ ?_
                   · rfl
                   · rfl
                   apply Exists.intro
                   refine ⟨fun w' hC => ?_, ?_⟩
                   · subst hC
                     go_simp
                     rfl)
              try simp only [Act.put, List.setIfInBounds_toArray, List.set_cons_zero, List.set_cons_succ, List.tail_cons]
              first
                | (with_reducible refine mix_s ?_ ?_ ?_
                   · rfl
                   · rfl)
                | (with_reducible refine mix_v ?_ ?_ ?_
                   · rfl
                   · rfl
                   apply Exists.intro
                   refine ⟨fun w' hC => ?_, ?_⟩
                   · subst hC
                     go_simp
                     rfl)
              try simp only [Act.put, List.setIfInBounds_toArray, List.set_cons_zero, List.set_cons_succ, List.tail_cons]
              first
                | (with_reducible refine mix_s ?_ ?_ ?_
                   · rfl
                   · rfl)
                | (with_reducible refine mix_v ?_ ?_ ?_
                   · rfl
                   · rfl
                   apply Exists.intro
                   refine ⟨fun w' hC => ?_, ?_⟩
                   · subst hC
                     go_simp
                     rfl)
              try simp only [Act.put, List.setIfInBounds_toArray, List.set_cons_zero, List.set_cons_succ, List.tail_cons]
              first
                | (with_reducible refine mix_s ?_ ?_ ?_
                   · rfl
                   · rfl)
                | (with_reducible refine mix_v ?_ ?_ ?_
                   · rfl
                   · rfl
                   apply Exists.intro
                   refine ⟨fun w' hC => ?_, ?_⟩
                   · subst hC
                     go_simp
                     rfl)
              try simp only [Act.put, List.setIfInBounds_toArray, List.set_cons_zero, List.set_cons_succ, List.tail_cons]
              first
                | (with_reducible refine mix_s ?_ ?_ ?_
                   · rfl
                   · rfl)
                | (with_reducible refine mix_v ?_ ?_ ?_
                   · rfl
                   · rfl
                   apply Exists.intro
                   refine ⟨fun w' hC => ?_, ?_⟩
                   · subst hC
                     go_simp
                     rfl)
              try simp only [Act.put, List.setIfInBounds_toArray, List.set_cons_zero, List.set_cons_succ, List.tail_cons]
              first
                | (with_reducible refine mix_s ?_ ?_ ?_
                   · rfl
                   · rfl)
                | (with_reducible refine mix_v ?_ ?_ ?_
                   · rfl
                   · rfl
                   apply Exists.intro
                   refine ⟨fun w' hC => ?_, ?_⟩
                   · subst hC
                     go_simp
                     rfl)
              try simp only [Act.put, List.setIfInBounds_toArray, List.set_cons_zero, List.set_cons_succ, List.tail_cons]
              first
                | (with_reducible refine mix_s ?_ ?_ ?_
                   · rfl
                   · rfl)
                | (with_reducible refine mix_v ?_ ?_ ?_
                   · rfl
                   · rfl
                   apply Exists.intro
                   refine ⟨fun w' hC => ?_, ?_⟩
                   · subst hC
                     go_simp
                     rfl)
              try simp only [Act.put, List.setIfInBounds_toArray, List.set_cons_zero, List.set_cons_succ, List.tail_cons]
              first
                | (with_reducible refine mix_s ?_ ?_ ?_
                   · rfl
                   · rfl)
                | (with_reducible refine mix_v ?_ ?_ ?_
                   · rfl
                   · rfl
                   apply Exists.intro
                   refine ⟨fun w' hC => ?_, ?_⟩
                   · subst hC
                     go_simp
                     rfl)
              try simp only [Act.put, List.setIfInBounds_toArray, List.set_cons_zero, List.set_cons_succ, List.tail_cons]
              first
                | (with_reducible refine mix_s ?_ ?_ ?_
                   · rfl
                   · rfl)
                | (with_reducible refine mix_v ?_ ?_ ?_
                   · rfl
                   · rfl
                   apply Exists.intro
                   refine ⟨fun w' hC => ?_, ?_⟩
                   · subst hC
                     go_simp
                     rfl)
              try simp only [Act.put, List.setIfInBounds_toArray, List.set_cons_zero, List.set_cons_succ, List.tail_cons]
              with_reducible refine mix_v ?_ ?_ ?_
              · rfl
              · rfl
              apply Exists.intro
              refine ⟨fun w' hC => ?_, ?_⟩
              · subst hC
                go_simp
                rfl
              try simp only [Act.put, List.setIfInBounds_toArray, List.set_cons_zero, List.set_cons_succ, List.tail_cons]
              refine mix_nil ?_
              rintro _ rfl
              go_wp2_with fail
              go_roundw
              case rel => exact Fin.out 1 _ _ rfl HC.out.symm
              case measure => simp [intOf]; omega
          · have h4 : cyc subHi a b k = 0 := by have := cyc_sub_le a b k; omega
            have hc : cyc subHi a b (k + 1) = 0 := (cyc_succ _ _ _ _).trans (sub_zero (by omega))
            obtain ⟨f1, f2, f3⟩ := ne1_facts h4
            have HC := Lib.hid hc
            have H2 := Lib.hid h2
            clear hc h2 h3 h4
            as_aux_lemma =>
              go_wp2_with fail
              refine region_mix 11 [false, false, false, false, false, false, false, false, false, false, false] (fun w' => w' = World.drew _) (by kernel_rfl) (by kernel_rfl) (by intro _ _ d _ _ h; cases d <;> exact h) rfl ?_
              simp only [List.take_succ_cons, List.take_zero, List.drop_succ_cons, List.drop_zero]
              with_reducible refine mix_v ?_ ?_ ?_
              · rfl
              · rfl
              apply Exists.intro
              refine ⟨fun w' hC => ?_, ?_⟩
              · subst hC
                go_simp
                rfl
              try simp only [Act.put, List.setIfInBounds_toArray, List.set_cons_zero, List.set_cons_succ, List.tail_cons]
              with_reducible refine mix_v ?_ ?_ ?_
              · rfl
              · rfl
              apply Exists.intro
              refine ⟨fun w' hC => ?_, ?_⟩
              · subst hC
                go_simp
                rfl
              try simp only [Act.put, List.setIfInBounds_toArray, List.set_cons_zero, List.set_cons_succ, List.tail_cons]
              with_reducible refine mix_v ?_ ?_ ?_
              · rfl
              · rfl
              apply Exists.intro
              refine ⟨fun w' hC => ?_, ?_⟩
              · subst hC
                go_simp
                rfl
              try simp only [Act.put, List.setIfInBounds_toArray, List.set_cons_zero, List.set_cons_succ, List.tail_cons]
              with_reducible refine mix_v ?_ ?_ ?_
              · rfl
              · rfl
              apply Exists.intro
              refine ⟨fun w' hC => ?_, ?_⟩
              · subst hC
                go_simp
                rfl
              try simp only [Act.put, List.setIfInBounds_toArray, List.set_cons_zero, List.set_cons_succ, List.tail_cons]
              with_reducible refine mix_v ?_ ?_ ?_
              · rfl
              · rfl
              apply Exists.intro
              refine ⟨fun w' hC => ?_, ?_⟩
              · subst hC
                go_simp
                rfl
              try simp only [Act.put, List.setIfInBounds_toArray, List.set_cons_zero, List.set_cons_succ, List.tail_cons]
              with_reducible refine mix_v ?_ ?_ ?_
              · rfl
              · rfl
              apply Exists.intro
              refine ⟨fun w' hC => ?_, ?_⟩
              · subst hC
                go_simp
                rfl
              try simp only [Act.put, List.setIfInBounds_toArray, List.set_cons_zero, List.set_cons_succ, List.tail_cons]
              with_reducible refine mix_v ?_ ?_ ?_
              · rfl
              · rfl
              apply Exists.intro
              refine ⟨fun w' hC => ?_, ?_⟩
              · subst hC
                go_simp
                rfl
              try simp only [Act.put, List.setIfInBounds_toArray, List.set_cons_zero, List.set_cons_succ, List.tail_cons]
              with_reducible refine mix_v ?_ ?_ ?_
              · rfl
              · rfl
              apply Exists.intro
              refine ⟨fun w' hC => ?_, ?_⟩
              · subst hC
                go_simp
                rfl
              try simp only [Act.put, List.setIfInBounds_toArray, List.set_cons_zero, List.set_cons_succ, List.tail_cons]
              with_reducible refine mix_v ?_ ?_ ?_
              · rfl
              · rfl
              apply Exists.intro
              refine ⟨fun w' hC => ?_, ?_⟩
              · subst hC
                go_simp
                rfl
              try simp only [Act.put, List.setIfInBounds_toArray, List.set_cons_zero, List.set_cons_succ, List.tail_cons]
              with_reducible refine mix_v ?_ ?_ ?_
              · rfl
              · rfl
              apply Exists.intro
              refine ⟨fun w' hC => ?_, ?_⟩
              · subst hC
                go_simp
                rfl
              try simp only [Act.put, List.setIfInBounds_toArray, List.set_cons_zero, List.set_cons_succ, List.tail_cons]
              with_reducible refine mix_v ?_ ?_ ?_
              · rfl
              · rfl
              apply Exists.intro
              refine ⟨fun w' hC => ?_, ?_⟩
              · subst hC
                go_simp
                rfl
              try simp only [Act.put, List.setIfInBounds_toArray, List.set_cons_zero, List.set_cons_succ, List.tail_cons]
              refine mix_nil ?_
              rintro _ rfl
              go_wp2_with fail
              refine region_quiet (fun w' => w' = World.drew _) (by kernel_rfl) (by kernel_rfl) rfl ?_
              with_reducible refine mix_v ?_ ?_ ?_
              · rfl
              · rfl
              apply Exists.intro
              refine ⟨fun w' hC => ?_, ?_⟩
              · subst hC
                go_simp
                rfl
              try simp only [Act.put, List.setIfInBounds_toArray, List.set_cons_zero, List.set_cons_succ, List.tail_cons]
              with_reducible refine mix_v ?_ ?_ ?_
              · rfl
              · rfl
              apply Exists.intro
              refine ⟨fun w' hC => ?_, ?_⟩
              · subst hC
                go_simp
                rfl
              try simp only [Act.put, List.setIfInBounds_toArray, List.set_cons_zero, List.set_cons_succ, List.tail_cons]
              with_reducible refine mix_v ?_ ?_ ?_
              · rfl
              · rfl
              apply Exists.intro
              refine ⟨fun w' hC => ?_, ?_⟩
              · subst hC
                go_simp
                rfl
              try simp only [Act.put, List.setIfInBounds_toArray, List.set_cons_zero, List.set_cons_succ, List.tail_cons]
              with_reducible refine mix_v ?_ ?_ ?_
              · rfl
              · rfl
              apply Exists.intro
              refine ⟨fun w' hC => ?_, ?_⟩
              · subst hC
                go_simp
                rfl
              try simp only [Act.put, List.setIfInBounds_toArray, List.set_cons_zero, List.set_cons_succ, List.tail_cons]
              with_reducible refine mix_v ?_ ?_ ?_
              · rfl
              · rfl
              apply Exists.intro
              refine ⟨fun w' hC => ?_, ?_⟩
              · subst hC
                go_simp
                rfl
              try simp only [Act.put, List.setIfInBounds_toArray, List.set_cons_zero, List.set_cons_succ, List.tail_cons]
              with_reducible refine mix_v ?_ ?_ ?_
              · rfl
              · rfl
              apply Exists.intro
              refine ⟨fun w' hC => ?_, ?_⟩
              · subst hC
                go_simp
                rfl
              try simp only [Act.put, List.setIfInBounds_toArray, List.set_cons_zero, List.set_cons_succ, List.tail_cons]
              with_reducible refine mix_v ?_ ?_ ?_
              · rfl
              · rfl
              apply Exists.intro
              refine ⟨fun w' hC => ?_, ?_⟩
              · subst hC
                go_simp
                rfl
              try simp only [Act.put, List.setIfInBounds_toArray, List.set_cons_zero, List.set_cons_succ, List.tail_cons]
              with_reducible refine mix_v ?_ ?_ ?_
              · rfl
              · rfl
              apply Exists.intro
              refine ⟨fun w' hC => ?_, ?_⟩
              · subst hC
                go_simp
                rfl
              try simp only [Act.put, List.setIfInBounds_toArray, List.set_cons_zero, List.set_cons_succ, List.tail_cons]
              first
                | (with_reducible refine mix_s ?_ ?_ ?_
                   · rfl
                   · rfl)
                | (with_reducible refine mix_v ?_ ?_ ?_
                   · rfl
                   · rfl
                   apply Exists.intro
                   refine ⟨fun w' hC => ?_, ?_⟩
                   · subst hC
                     go_simp
                     rfl)
              try simp only [Act.put, List.setIfInBounds_toArray, List.set_cons_zero, List.set_cons_succ, List.tail_cons]
              first
                | (with_reducible refine mix_s ?_ ?_ ?_
                   · rfl
                   · rfl)
                | (with_reducible refine mix_v ?_ ?_ ?_
                   · rfl
                   · rfl
                   apply Exists.intro
                   refine ⟨fun w' hC => ?_, ?_⟩
                   · subst hC
                     go_simp
                     rfl)
              try simp only [Act.put, List.setIfInBounds_toArray, List.set_cons_zero, List.set_cons_succ, List.tail_cons]
              first
                | (with_reducible refine mix_s ?_ ?_ ?_
                   · rfl
                   · rfl)
                | (with_reducible refine mix_v ?_ ?_ ?_
                   · rfl
                   · rfl
                   apply Exists.intro
                   refine ⟨fun w' hC => ?_, ?_⟩
                   · subst hC
                     go_simp
                     rfl)
              try simp only [Act.put, List.setIfInBounds_toArray, List.set_cons_zero, List.set_cons_succ, List.tail_cons]
              first
                | (with_reducible refine mix_s ?_ ?_ ?_
                   · rfl
                   · rfl)
                | (with_reducible refine mix_v ?_ ?_ ?_
                   · rfl
                   · rfl
                   apply Exists.intro
                   refine ⟨fun w' hC => ?_, ?_⟩
                   · subst hC
                     go_simp
                     rfl)
              try simp only [Act.put, List.setIfInBounds_toArray, List.set_cons_zero, List.set_cons_succ, List.tail_cons]
              first
                | (with_reducible refine mix_s ?_ ?_ ?_
                   · rfl
                   · rfl)
                | (with_reducible refine mix_v ?_ ?_ ?_
                   · rfl
                   · rfl
                   apply Exists.intro
                   refine ⟨fun w' hC => ?_, ?_⟩
                   · subst hC
                     go_simp
                     rfl)
              try simp only [Act.put, List.setIfInBounds_toArray, List.set_cons_zero, List.set_cons_succ, List.tail_cons]
              first
                | (with_reducible refine mix_s ?_ ?_ ?_
                   · rfl
                   · rfl)
                | (with_reducible refine mix_v ?_ ?_ ?_
                   · rfl
                   · rfl
                   apply Exists.intro
                   refine ⟨fun w' hC => ?_, ?_⟩
                   · subst hC
                     go_simp
                     rfl)
              try simp only [Act.put, List.setIfInBounds_toArray, List.set_cons_zero, List.set_cons_succ, List.tail_cons]
              first
                | (with_reducible refine mix_s ?_ ?_ ?_
                   · rfl
                   · rfl)
                | (with_reducible refine mix_v ?_ ?_ ?_
                   · rfl
                   · rfl
                   apply Exists.intro
                   refine ⟨fun w' hC => ?_, ?_⟩
                   · subst hC
                     go_simp
                     rfl)
              try simp only [Act.put, List.setIfInBounds_toArray, List.set_cons_zero, List.set_cons_succ, List.tail_cons]
              first
                | (with_reducible refine mix_s ?_ ?_ ?_
                   · rfl
                   · rfl)
                | (with_reducible refine mix_v ?_ ?_ ?_
                   · rfl
                   · rfl
                   apply Exists.intro
                   refine ⟨fun w' hC => ?_, ?_⟩
                   · subst hC
                     go_simp
                     rfl)
              try simp only [Act.put, List.setIfInBounds_toArray, List.set_cons_zero, List.set_cons_succ, List.tail_cons]
              first
                | (with_reducible refine mix_s ?_ ?_ ?_
                   · rfl
                   · rfl)
                | (with_reducible refine mix_v ?_ ?_ ?_
                   · rfl
                   · rfl
                   apply Exists.intro
                   refine ⟨fun w' hC => ?_, ?_⟩
                   · subst hC
                     go_simp
                     rfl)
              try simp only [Act.put, List.setIfInBounds_toArray, List.set_cons_zero, List.set_cons_succ, List.tail_cons]
              first
                | (with_reducible refine mix_s ?_ ?_ ?_
                   · rfl
                   · rfl)
                | (with_reducible refine mix_v ?_ ?_ ?_
                   · rfl
                   · rfl
                   apply Exists.intro
                   refine ⟨fun w' hC => ?_, ?_⟩
                   · subst hC
                     go_simp
                     rfl)
              try simp only [Act.put, List.setIfInBounds_toArray, List.set_cons_zero, List.set_cons_succ, List.tail_cons]
              first
                | (with_reducible refine mix_s ?_ ?_ ?_
                   · rfl
                   · rfl)
                | (with_reducible refine mix_v ?_ ?_ ?_
                   · rfl
                   · rfl
                   apply Exists.intro
                   refine ⟨fun w' hC => ?_, ?_⟩
                   · subst hC
                     go_simp
                     rfl)
              try simp only [Act.put, List.setIfInBounds_toArray, List.set_cons_zero, List.set_cons_succ, List.tail_cons]
              with_reducible refine mix_v ?_ ?_ ?_
              · rfl
              · rfl
              apply Exists.intro
              refine ⟨fun w' hC => ?_, ?_⟩
              · subst hC
                go_simp
                rfl
              try simp only [Act.put, List.setIfInBounds_toArray, List.set_cons_zero, List.set_cons_succ, List.tail_cons]
              refine mix_nil ?_
              rintro _ rfl
              go_wp2_with fail
              go_roundw
              case rel => exact Fin.out 0 _ _ rfl HC.out.symm
              case measure => simp [intOf]; omega
        · have h5 : dg k b < dg k a := by omega
          have hc : cyc subHi a b (k + 1) = 0 := (cyc_succ _ _ _ _).trans (sub_zero (by have := cyc_sub_le a b k; omega))
          obtain ⟨e1, e2, e3⟩ := ne_facts h2
          have HC := Lib.hid hc
          clear hc h2 h5
          as_aux_lemma =>
            go_wp2_with fail
            refine region_mix 11 [false, false, false, false, false, false, false, false, false, false, false] (fun w' => w' = World.drew _) (by kernel_rfl) (by kernel_rfl) (by intro _ _ d _ _ h; cases d <;> exact h) rfl ?_
            simp only [List.take_succ_cons, List.take_zero, List.drop_succ_cons, List.drop_zero]
            with_reducible refine mix_v ?_ ?_ ?_
            · rfl
            · rfl
            apply Exists.intro
            refine ⟨fun w' hC => ?_, ?_⟩
            · subst hC
              go_simp
              rfl
            try simp only [Act.put, List.setIfInBounds_toArray, List.set_cons_zero, List.set_cons_succ, List.tail_cons]
            with_reducible refine mix_v ?_ ?_ ?_
            · rfl
            · rfl
            apply Exists.intro
            refine ⟨fun w' hC => ?_, ?_⟩
            · subst hC
              go_simp
              rfl
            try simp only [Act.put, List.setIfInBounds_toArray, List.set_cons_zero, List.set_cons_succ, List.tail_cons]
            with_reducible refine mix_v ?_ ?_ ?_
            · rfl
            · rfl
            apply Exists.intro
            refine ⟨fun w' hC => ?_, ?_⟩
            · subst hC
              go_simp
              rfl
            try simp only [Act.put, List.setIfInBounds_toArray, List.set_cons_zero, List.set_cons_succ, List.tail_cons]
            with_reducible refine mix_v ?_ ?_ ?_
            · rfl
            · rfl
            apply Exists.intro
            refine ⟨fun w' hC => ?_, ?_⟩
            · subst hC
              go_simp
              rfl
            try simp only [Act.put, List.setIfInBounds_toArray, List.set_cons_zero, List.set_cons_succ, List.tail_cons]
            with_reducible refine mix_v ?_ ?_ ?_
            · rfl
            · rfl
            apply Exists.intro
            refine ⟨fun w' hC => ?_, ?_⟩
            · subst hC
              go_simp
              rfl
            try simp only [Act.put, List.setIfInBounds_toArray, List.set_cons_zero, List.set_cons_succ, List.tail_cons]
            with_reducible refine mix_v ?_ ?_ ?_
            · rfl
            · rfl
            apply Exists.intro
            refine ⟨fun w' hC => ?_, ?_⟩
            · subst hC
              go_simp
              rfl
            try simp only [Act.put, List.setIfInBounds_toArray, List.set_cons_zero, List.set_cons_succ, List.tail_cons]
            with_reducible refine mix_v ?_ ?_ ?_
            · rfl
            · rfl
            apply Exists.intro
            refine ⟨fun w' hC => ?_, ?_⟩
            · subst hC
              go_simp
              rfl
            try simp only [Act.put, List.setIfInBounds_toArray, List.set_cons_zero, List.set_cons_succ, List.tail_cons]
            with_reducible refine mix_v ?_ ?_ ?_
            · rfl
            · rfl
            apply Exists.intro
            refine ⟨fun w' hC => ?_, ?_⟩
            · subst hC
              go_simp
              rfl
            try simp only [Act.put, List.setIfInBounds_toArray, List.set_cons_zero, List.set_cons_succ, List.tail_cons]
            with_reducible refine mix_v ?_ ?_ ?_
            · rfl
            · rfl
            apply Exists.intro
            refine ⟨fun w' hC => ?_, ?_⟩
            · subst hC
              go_simp
              rfl
            try simp only [Act.put, List.setIfInBounds_toArray, List.set_cons_zero, List.set_cons_succ, List.tail_cons]
            with_reducible refine mix_v ?_ ?_ ?_
            · rfl
            · rfl
            apply Exists.intro
            refine ⟨fun w' hC => ?_, ?_⟩
            · subst hC
              go_simp
              rfl
            try simp only [Act.put, List.setIfInBounds_toArray, List.set_cons_zero, List.set_cons_succ, List.tail_cons]
            with_reducible refine mix_v ?_ ?_ ?_
            · rfl
            · rfl
            apply Exists.intro
            refine ⟨fun w' hC => ?_, ?_⟩
            · subst hC
              go_simp
              rfl
            try simp only [Act.put, List.setIfInBounds_toArray, List.set_cons_zero, List.set_cons_succ, List.tail_cons]
            refine mix_nil ?_
            rintro _ rfl
            go_wp2_with fail
            refine region_quiet (fun w' => w' = World.drew _) (by kernel_rfl) (by kernel_rfl) rfl ?_
            with_reducible refine mix_v ?_ ?_ ?_
            · rfl
            · rfl
            apply Exists.intro
            refine ⟨fun w' hC => ?_, ?_⟩
            · subst hC
              go_simp
              rfl
            try simp only [Act.put, List.setIfInBounds_toArray, List.set_cons_zero, List.set_cons_succ, List.tail_cons]
            with_reducible refine mix_v ?_ ?_ ?_
            · rfl
            · rfl
            apply Exists.intro
            refine ⟨fun w' hC => ?_, ?_⟩
            · subst hC
              go_simp
              rfl
            try simp only [Act.put, List.setIfInBounds_toArray, List.set_cons_zero, List.set_cons_succ, List.tail_cons]
            with_reducible refine mix_v ?_ ?_ ?_
            · rfl
            · rfl
            apply Exists.intro
            refine ⟨fun w' hC => ?_, ?_⟩
            · subst hC
              go_simp
              rfl
            try simp only [Act.put, List.setIfInBounds_toArray, List.set_cons_zero, List.set_cons_succ, List.tail_cons]
            with_reducible refine mix_v ?_ ?_ ?_
            · rfl
            · rfl
            apply Exists.intro
            refine ⟨fun w' hC => ?_, ?_⟩
            · subst hC
              go_simp
              rfl
            try simp only [Act.put, List.setIfInBounds_toArray, List.set_cons_zero, List.set_cons_succ, List.tail_cons]
            with_reducible refine mix_v ?_ ?_ ?_
            · rfl
            · rfl
            apply Exists.intro
            refine ⟨fun w' hC => ?_, ?_⟩
            · subst hC
              go_simp
              rfl
            try simp only [Act.put, List.setIfInBounds_toArray, List.set_cons_zero, List.set_cons_succ, List.tail_cons]
            with_reducible refine mix_v ?_ ?_ ?_
            · rfl
            · rfl
            apply Exists.intro
            refine ⟨fun w' hC => ?_, ?_⟩
            · subst hC
              go_simp
              rfl
            try simp only [Act.put, List.setIfInBounds_toArray, List.set_cons_zero, List.set_cons_succ, List.tail_cons]
            with_reducible refine mix_v ?_ ?_ ?_
            · rfl
            · rfl
            apply Exists.intro
            refine ⟨fun w' hC => ?_, ?_⟩
            · subst hC
              go_simp
              rfl
            try simp only [Act.put, List.setIfInBounds_toArray, List.set_cons_zero, List.set_cons_succ, List.tail_cons]
            with_reducible refine mix_v ?_ ?_ ?_
            · rfl
            · rfl
            apply Exists.intro
            refine ⟨fun w' hC => ?_, ?_⟩
            · subst hC
              go_simp
              rfl
            try simp only [Act.put, List.setIfInBounds_toArray, List.set_cons_zero, List.set_cons_succ, List.tail_cons]
            first
              | (with_reducible refine mix_s ?_ ?_ ?_
                 · rfl
                 · rfl)
              | (with_reducible refine mix_v ?_ ?_ ?_
                 · rfl
                 · rfl
                 apply Exists.intro
                 refine ⟨fun w' hC => ?_, ?_⟩
                 · subst hC
                   go_simp
                   rfl)
            try simp only [Act.put, List.setIfInBounds_toArray, List.set_cons_zero, List.set_cons_succ, List.tail_cons]
            first
              | (with_reducible refine mix_s ?_ ?_ ?_
                 · rfl
                 · rfl)
              | (with_reducible refine mix_v ?_ ?_ ?_
                 · rfl
                 · rfl
                 apply Exists.intro
                 refine ⟨fun w' hC => ?_, ?_⟩
                 · subst hC
                   go_simp
                   rfl)
            try simp only [Act.put, List.setIfInBounds_toArray, List.set_cons_zero, List.set_cons_succ, List.tail_cons]
            first
              | (with_reducible refine mix_s ?_ ?_ ?_
                 · rfl
                 · rfl)
              | (with_reducible refine mix_v ?_ ?_ ?_
                 · rfl
                 · rfl
                 apply Exists.intro
                 refine ⟨fun w' hC => ?_, ?_⟩
                 · subst hC
                   go_simp
                   rfl)
            try simp only [Act.put, List.setIfInBounds_toArray, List.set_cons_zero, List.set_cons_succ, List.tail_cons]
            first
              | (with_reducible refine mix_s ?_ ?_ ?_
                 · rfl
                 · rfl)
              | (with_reducible refine mix_v ?_ ?_ ?_
                 · rfl
                 · rfl
                 apply Exists.intro
                 refine ⟨fun w' hC => ?_, ?_⟩
                 · subst hC
                   go_simp
                   rfl)
            try simp only [Act.put, List.setIfInBounds_toArray, List.set_cons_zero, List.set_cons_succ, List.tail_cons]
            first
              | (with_reducible refine mix_s ?_ ?_ ?_
                 · rfl
                 · rfl)
              | (with_reducible refine mix_v ?_ ?_ ?_
                 · rfl
                 · rfl
                 apply Exists.intro
                 refine ⟨fun w' hC => ?_, ?_⟩
                 · subst hC
                   go_simp
                   rfl)
            try simp only [Act.put, List.setIfInBounds_toArray, List.set_cons_zero, List.set_cons_succ, List.tail_cons]
            first
              | (with_reducible refine mix_s ?_ ?_ ?_
                 · rfl
                 · rfl)
              | (with_reducible refine mix_v ?_ ?_ ?_
                 · rfl
                 · rfl
                 apply Exists.intro
                 refine ⟨fun w' hC => ?_, ?_⟩
                 · subst hC
                   go_simp
                   rfl)
            try simp only [Act.put, List.setIfInBounds_toArray, List.set_cons_zero, List.set_cons_succ, List.tail_cons]
            first
              | (with_reducible refine mix_s ?_ ?_ ?_
                 · rfl
                 · rfl)
              | (with_reducible refine mix_v ?_ ?_ ?_
                 · rfl
                 · rfl
                 apply Exists.intro
                 refine ⟨fun w' hC => ?_, ?_⟩
                 · subst hC
                   go_simp
                   rfl)
            try simp only [Act.put, List.setIfInBounds_toArray, List.set_cons_zero, List.set_cons_succ, List.tail_cons]
            first
              | (with_reducible refine mix_s ?_ ?_ ?_
                 · rfl
                 · rfl)
              | (with_reducible refine mix_v ?_ ?_ ?_
                 · rfl
                 · rfl
                 apply Exists.intro
                 refine ⟨fun w' hC => ?_, ?_⟩
                 · subst hC
                   go_simp
                   rfl)
            try simp only [Act.put, List.setIfInBounds_toArray, List.set_cons_zero, List.set_cons_succ, List.tail_cons]
            first
              | (with_reducible refine mix_s ?_ ?_ ?_
                 · rfl
                 · rfl)
              | (with_reducible refine mix_v ?_ ?_ ?_
                 · rfl
                 · rfl
                 apply Exists.intro
                 refine ⟨fun w' hC => ?_, ?_⟩
                 · subst hC
                   go_simp
                   rfl)
            try simp only [Act.put, List.setIfInBounds_toArray, List.set_cons_zero, List.set_cons_succ, List.tail_cons]
            first
              | (with_reducible refine mix_s ?_ ?_ ?_
                 · rfl
                 · rfl)
              | (with_reducible refine mix_v ?_ ?_ ?_
                 · rfl
                 · rfl
                 apply Exists.intro
                 refine ⟨fun w' hC => ?_, ?_⟩
                 · subst hC
                   go_simp
                   rfl)
            try simp only [Act.put, List.setIfInBounds_toArray, List.set_cons_zero, List.set_cons_succ, List.tail_cons]
            first
              | (with_reducible refine mix_s ?_ ?_ ?_
                 · rfl
                 · rfl)
              | (with_reducible refine mix_v ?_ ?_ ?_
                 · rfl
                 · rfl
                 apply Exists.intro
                 refine ⟨fun w' hC => ?_, ?_⟩
                 · subst hC
                   go_simp
                   rfl)
            try simp only [Act.put, List.setIfInBounds_toArray, List.set_cons_zero, List.set_cons_succ, List.tail_cons]
            with_reducible refine mix_v ?_ ?_ ?_
            · rfl
            · rfl
            apply Exists.intro
            refine ⟨fun w' hC => ?_, ?_⟩
            · subst hC
              go_simp
              rfl
            try simp only [Act.put, List.setIfInBounds_toArray, List.set_cons_zero, List.set_cons_succ, List.tail_cons]
            refine mix_nil ?_
            rintro _ rfl
            go_wp2_with fail
            go_roundw
            case rel => exact Fin.out 0 _ _ rfl HC.out.symm
            case measure => simp [intOf]; omega
    · have h4 : k = 4 := by omega
      have hv : vec (subV a b) = .agg (ows subLo subHi a b k).toArray := by subst h4; rw [← he.out.1, ow_vec subLo_lt]
      have hc : subC a b = cyc subHi a b k := by subst h4; rw [← he.out.2, chC_cyc]
      simp only [ows] at hv
      generalize cyc subHi a b k = c at hc ⊢
      generalize ow subLo subHi a b 0 k = o0 at hv ⊢
      generalize ow subLo subHi a b 1 k = o1 at hv ⊢
      generalize ow subLo subHi a b 2 k = o2 at hv ⊢
      generalize ow subLo subHi a b 3 k = o3 at hv ⊢
      have Hv := Lib.hid hv
      have Hc := Lib.hid hc
      clear hv hc
      clear he hk hk4
      subst h4
      go_wp2_with fail
      rw [Hv.out, Hc.out]
      refine bodyPost_ret (v := .tuple #[.agg #[.int .u64 (o0 : Int), .int .u64 (o1 : Int), .int .u64 (o2 : Int), .int .u64 (o3 : Int)], .int .u64 (c : Int)]) (by simp only [results, Tryd.results126]; go_simp) rfl ⟨rfl, ?_⟩
      repeat first
        | with_reducible exact Below.refl _ _
        | with_reducible refine Below.drew ?_
        | with_reducible refine below_dN ?_
        | with_reducible refine Below.alloc ?_ (by first | omega | (simp; done) | (simp; omega)) _
        | with_reducible refine Below.setCell ?_ (by first | omega | (simp; done) | (simp; omega)) _
        | with_reducible refine Below.trans ?_ (Below.mono (by assumption) (by first | omega | (simp; done) | (simp; omega)))
end Go.Proofs.YtpggmebgndkpjaaDoor

namespace Go.Proofs.YtpggmebgndkpjaaDoor
set_option linter.all false
open Go.RowKit

set_option maxRecDepth 100000 in
set_option maxHeartbeats 1000000 in
theorem refOne_c (w : World) :
    Calls Tryd.prog 87 #[] w fun e w' => e = .returned (vec 1) ∧ Below w.heap.size w w' := by
  go_enter Tryd.func87, Tryd.ntmps87
  go_wp2_with fail
  have hv : vec 1 = .agg #[.int .u64 1, .int .u64 0, .int .u64 0, .int .u64 0] := rfl
  rw [hv]
  refine bodyPost_ret (v := .agg #[.int .u64 1, .int .u64 0, .int .u64 0, .int .u64 0]) (by simp only [results, Tryd.results87]; go_simp) rfl ⟨rfl, ?_⟩
  repeat first
    | with_reducible exact Below.refl _ _
    | with_reducible refine Below.drew ?_
    | with_reducible refine below_dN ?_
    | with_reducible refine Below.alloc ?_ (by first | omega | (simp; done) | (simp; omega)) _
    | with_reducible refine Below.setCell ?_ (by first | omega | (simp; done) | (simp; omega)) _
    | with_reducible refine Below.trans ?_ (Below.mono (by assumption) (by first | omega | (simp; done) | (simp; omega)))

set_option maxRecDepth 100000 in
set_option maxHeartbeats 1000000 in
theorem refSubtract_c (m a c : Nat) (hm : m < R4) (ha : a < R4) (w : World) :
    Calls Tryd.prog 121 #[vec m, vec a, .int .u64 (c : Int)] w fun e w' => e = .returned (vec (rdc m a c)) ∧ Below w.heap.size w w' := by
  go_enter Tryd.func121, Tryd.ntmps121
  go_wp2_with fail
  refine Calls.mono (refsub_c a m ha hm _) ?_
  rintro _ w1 ⟨rfl, h1⟩
  obtain ⟨c1, f1, s1⟩ := bfacts h1
  try simp only [World.size_alloc, World.size_setCell, size_drew, size_drewN] at s1
  have l_w_w1_0 : w.heap.size < w1.heap.size := by omega
  have l_w_w1_1 : w.heap.size + 1 < w1.heap.size := by omega
  have l_w_w1_2 : w.heap.size + 1 + 1 < w1.heap.size := by omega
  by_cases h1 : a < m
  · have e1 : subC a m = 1 := if_pos h1
    rw [e1]
    by_cases h2 : c % 2 = 0
    · have E2 := Lib.hid (show vec (rdc m a c) = vec a from congrArg vec (if_pos ⟨h1, h2⟩))
      go_wp2_with fail
      rw [E2.out]
      refine bodyPost_ret (v := vec a) (by simp only [results, Tryd.results121]; go_simp) rfl ⟨rfl, ?_⟩
      repeat first
        | with_reducible exact Below.refl _ _
        | with_reducible refine Below.drew ?_
        | with_reducible refine below_dN ?_
        | with_reducible refine Below.alloc ?_ (by first | omega | (simp; done) | (simp; omega)) _
        | with_reducible refine Below.setCell ?_ (by first | omega | (simp; done) | (simp; omega)) _
        | with_reducible refine Below.trans ?_ (Below.mono (by assumption) (by first | omega | (simp; done) | (simp; omega)))
    · have E2 := Lib.hid (show vec (rdc m a c) = vec (subV a m) from congrArg vec (if_neg (fun e => h2 e.2)))
      go_wp2_with fail
      rw [E2.out]
      refine bodyPost_ret (v := vec (subV a m)) (by simp only [results, Tryd.results121]; go_simp) rfl ⟨rfl, ?_⟩
      repeat first
        | with_reducible exact Below.refl _ _
        | with_reducible refine Below.drew ?_
        | with_reducible refine below_dN ?_
        | with_reducible refine Below.alloc ?_ (by first | omega | (simp; done) | (simp; omega)) _
        | with_reducible refine Below.setCell ?_ (by first | omega | (simp; done) | (simp; omega)) _
        | with_reducible refine Below.trans ?_ (Below.mono (by assumption) (by first | omega | (simp; done) | (simp; omega)))
  · have e1 : subC a m = 0 := if_neg h1
    rw [e1]
    have E2 := Lib.hid (show vec (rdc m a c) = vec (subV a m) from congrArg vec (if_neg (fun e => h1 e.1)))
    by_cases h2 : c % 2 = 0
    · go_wp2_with fail
      rw [E2.out]
      refine bodyPost_ret (v := vec (subV a m)) (by simp only [results, Tryd.results121]; go_simp) rfl ⟨rfl, ?_⟩
      repeat first
        | with_reducible exact Below.refl _ _
        | with_reducible refine Below.drew ?_
        | with_reducible refine below_dN ?_
        | with_reducible refine Below.alloc ?_ (by first | omega | (simp; done) | (simp; omega)) _
        | with_reducible refine Below.setCell ?_ (by first | omega | (simp; done) | (simp; omega)) _
        | with_reducible refine Below.trans ?_ (Below.mono (by assumption) (by first | omega | (simp; done) | (simp; omega)))
    · go_wp2_with fail
      rw [E2.out]
      refine bodyPost_ret (v := vec (subV a m)) (by simp only [results, Tryd.results121]; go_simp) rfl ⟨rfl, ?_⟩
      repeat first
        | with_reducible exact Below.refl _ _
        | with_reducible refine Below.drew ?_
        | with_reducible refine below_dN ?_
        | with_reducible refine Below.alloc ?_ (by first | omega | (simp; done) | (simp; omega)) _
        | with_reducible refine Below.setCell ?_ (by first | omega | (simp; done) | (simp; omega)) _
        | with_reducible refine Below.trans ?_ (Below.mono (by assumption) (by first | omega | (simp; done) | (simp; omega)))

/-- Sum and difference modulo p, of the reference. -/
def addm (p a b : Nat) : Nat := (a + b) % p
def subm (p a b : Nat) : Nat := (a + p - b) % p
theorem addm_lt {p : Nat} (hp : 0 < p) (a b : Nat) : addm p a b < p := Nat.mod_lt _ hp
theorem subm_lt {p : Nat} (hp : 0 < p) (a b : Nat) : subm p a b < p := Nat.mod_lt _ hp
theorem rdc_add {p a b : Nat} (hp : p < R4) (ha : a < p) (hb : b < p) : rdc p (addV a b) (addC a b) = addm p a b := by
  unfold rdc addV addC subV addm
  have h2 : (a + b) / R4 ≤ 1 := by
    have : (a + b) / R4 < 2 := Nat.div_lt_of_lt_mul (by omega)
    omega
  by_cases h3 : a + b < p
  · rw [Nat.mod_eq_of_lt (show a + b < R4 by omega), Nat.div_eq_of_lt (show a + b < R4 by omega), if_pos ⟨h3, rfl⟩, Nat.mod_eq_of_lt h3]
  · have e : (a + b) % p = a + b - p := by rw [Nat.mod_eq_sub_mod (by omega), Nat.mod_eq_of_lt (by omega)]
    rw [e]
    by_cases h4 : a + b < R4
    · rw [Nat.mod_eq_of_lt h4, if_neg (fun x => h3 x.1), Nat.mod_eq_sub_mod (by omega), show a + b + R4 - p - R4 = a + b - p by omega, Nat.mod_eq_of_lt (by omega)]
    · have e5 : (a + b) / R4 = 1 := by
        have := Nat.div_pos (show R4 ≤ a + b by omega) (show 0 < R4 by decide)
        omega
      have e6 : (a + b) % R4 = a + b - R4 := by rw [Nat.mod_eq_sub_mod (by omega), Nat.mod_eq_of_lt (by omega)]
      rw [e5, if_neg (fun x => absurd x.2 (by decide)), e6, show a + b - R4 + R4 - p = a + b - p by omega, Nat.mod_eq_of_lt (by omega)]
theorem sub_borrow {p a b : Nat} (hp : p < R4) (ha : a < p) (hb : b < p) (h : a < b) : addV (subV a b) p = subm p a b := by
  unfold addV subV subm
  rw [Nat.mod_eq_of_lt (show a + R4 - b < R4 by omega), Nat.mod_eq_of_lt (show a + p - b < p by omega), show a + R4 - b + p = (a + p - b) + R4 by omega, Nat.add_mod_right, Nat.mod_eq_of_lt (by omega)]
theorem sub_plain {p a b : Nat} (hp : p < R4) (ha : a < p) (h : ¬ a < b) : subV a b = subm p a b := by
  unfold subV subm
  rw [show a + R4 - b = (a - b) + R4 by omega, Nat.add_mod_right, show a + p - b = (a - b) + p by omega, Nat.add_mod_right, Nat.mod_eq_of_lt (show a - b < R4 by omega), Nat.mod_eq_of_lt (show a - b < p by omega)]

set_option maxRecDepth 100000 in
set_option maxHeartbeats 1000000 in
theorem refAdd_c (p a b : Nat) (hp : p < R4) (ha : a < p) (hb : b < p) (w : World) :
    Calls Tryd.prog 110 #[vec p, vec a, vec b] w fun e w' => e = .returned (vec (addm p a b)) ∧ Below w.heap.size w w' := by
  rw [← rdc_add hp ha hb]
  have ha4 : a < R4 := by omega
  have hb4 : b < R4 := by omega
  clear ha hb
  go_enter Tryd.func110, Tryd.ntmps110
  go_wp2_with fail
  refine Calls.mono (refSum_c a b ha4 hb4 _) ?_
  rintro _ w1 ⟨rfl, h1⟩
  obtain ⟨c1, f1, s1⟩ := bfacts h1
  try simp only [World.size_alloc, World.size_setCell, size_drew, size_drewN] at s1
  have l_w_w1_0 : w.heap.size < w1.heap.size := by omega
  have l_w_w1_1 : w.heap.size + 1 < w1.heap.size := by omega
  have l_w_w1_2 : w.heap.size + 1 + 1 < w1.heap.size := by omega
  have l_w_w1_3 : w.heap.size + 1 + 1 + 1 < w1.heap.size := by omega
  go_wp2_with fail
  refine Calls.mono (refSubtract_c p _ (addC a b) hp (addV_lt a b) _) ?_
  rintro _ w2 ⟨rfl, h2⟩
  obtain ⟨c2, f2, s2⟩ := bfacts h2
  try simp only [World.size_alloc, World.size_setCell, size_drew, size_drewN] at s2
  have l_w_w2_0 : w.heap.size < w2.heap.size := by omega
  have l_w_w2_1 : w.heap.size + 1 < w2.heap.size := by omega
  have l_w_w2_2 : w.heap.size + 1 + 1 < w2.heap.size := by omega
  have l_w_w2_3 : w.heap.size + 1 + 1 + 1 < w2.heap.size := by omega
  go_wp2_with fail
  refine bodyPost_ret (v := vec (rdc p (addV a b) (addC a b))) (by simp only [results, Tryd.results110]; go_simp) rfl ⟨rfl, ?_⟩
  repeat first
    | with_reducible exact Below.refl _ _
    | with_reducible refine Below.drew ?_
    | with_reducible refine below_dN ?_
    | with_reducible refine Below.alloc ?_ (by first | omega | (simp; done) | (simp; omega)) _
    | with_reducible refine Below.setCell ?_ (by first | omega | (simp; done) | (simp; omega)) _
    | with_reducible refine Below.trans ?_ (Below.mono (by assumption) (by first | omega | (simp; done) | (simp; omega)))
end Go.Proofs.YtpggmebgndkpjaaDoor

namespace Go.Proofs.YtpggmebgndkpjaaDoor
set_option linter.all false
open Go.RowKit

end Go.Proofs.YtpggmebgndkpjaaDoor

namespace Go.Proofs.YtpggmebgndkpjaaDoor
set_option linter.all false
open Go.RowKit

def sh (x k : Nat) : Nat := x / 2 ^ k
def bitn (b i : Nat) : Nat := b / 2 ^ i % 2
theorem sh_zero (x : Nat) : sh x 0 = x := by simp [sh]
theorem sh_succ (x k : Nat) : sh x (k + 1) = sh x k / 2 := by
  unfold sh; rw [Nat.pow_succ, Nat.div_div_eq_div_mul]
theorem sh_lt {x : Nat} (h : x < W) (k : Nat) : sh x k < W := Nat.lt_of_le_of_lt (Nat.div_le_self _ _) h
theorem sh_bit (b i : Nat) : sh (dg (i / 64) b) (i % 64) % 2 = bitn b i := by
  unfold sh bitn dg
  have e : W ^ (i / 64) = 2 ^ (64 * (i / 64)) := by rw [Nat.pow_mul]; rfl
  have e2 : W = 2 ^ (i % 64) * 2 ^ (64 - i % 64) := by rw [← Nat.pow_add, show i % 64 + (64 - i % 64) = 64 by omega]; rfl
  have e3 : 2 ^ i = 2 ^ (64 * (i / 64)) * 2 ^ (i % 64) := by rw [← Nat.pow_add, show 64 * (i / 64) + i % 64 = i by omega]
  rw [e, e3, ← Nat.div_div_eq_div_mul]
  generalize b / 2 ^ (64 * (i / 64)) = x
  have h : x % W / 2 ^ (i % 64) = x / 2 ^ (i % 64) % 2 ^ (64 - i % 64) := by
    rw [e2, Nat.mod_mul_right_div_self]
  rw [h]
  obtain ⟨n, hn⟩ : ∃ n, 64 - i % 64 = n + 1 := ⟨63 - i % 64, by omega⟩
  rw [hn, Nat.pow_succ, Nat.mul_comm, Nat.mod_mul_right_mod]

set_option maxRecDepth 100000 in
set_option maxHeartbeats 1000000 in
theorem refBit_c (b i : Nat) (hi : i < 256) (w : World) :
    Calls Tryd.prog 111 #[vec b, .int .i64 (i : Int)] w fun e w' => e = .returned (.int .u64 ((bitn b i : Nat) : Int)) ∧ Below w.heap.size w w' := by
  have hj : i / 64 < 4 := by omega
  have d1 := digit_at b (i / 64) hj
  have hb := Lib.hid (show ((sh (dg (i / 64) b) (i % 64) : Nat) : Int) % 2 = ((bitn b i : Nat) : Int) from by rw [← sh_bit b i]; rfl)
  have hl := sh_lt (dg_lt (i / 64) b)
  go_enter Tryd.func111, Tryd.ntmps111
  go_wp2_with fail
  go_loopw [5, 6] (fun x k wr => ∃ (n : Nat), n ≤ i % 64 ∧ x = .int .u64 ((sh (dg (i / 64) b) n : Nat) : Int) ∧ k = .int .i64 (n : Int) ∧ wr = w.alloc
      (.cells #[.int .u64 ((dg 0 b : Nat) : Int), .int .u64 ((dg 1 b : Nat) : Int), .int .u64 ((dg 2 b : Nat) : Int), .int .u64 ((dg 3 b : Nat) : Int)] 44)) (fun _ k _ => 64 - (intOf k).toNat)
  case atStart => exact ⟨0, by omega, by rw [sh_zero], rfl, rfl⟩
  case round =>
    obtain ⟨n, hn, rfl, rfl, rfl⟩ := hrel
    by_cases hk : n < i % 64
    · go_wp2_with fail
      all_goals go_roundw
      case rel => exact ⟨n + 1, by omega, by rw [sh_succ, IntKind.wrap_u64]; exact congrArg (Value.int .u64) (by have := hl n; unfold W at this; omega), by go_num, trivial⟩
      case measure => simp [intOf]; omega
    · obtain rfl : n = i % 64 := by omega
      go_wp2_with fail
      rw [hb.out]
      refine bodyPost_ret (v := .int .u64 ((bitn b i : Nat) : Int)) (by simp only [results, Tryd.results111]; go_simp) rfl ⟨rfl, ?_⟩
      repeat first
        | with_reducible exact Below.refl _ _
        | with_reducible refine Below.drew ?_
        | with_reducible refine below_dN ?_
        | with_reducible refine Below.alloc ?_ (by first | omega | (simp; done) | (simp; omega)) _
        | with_reducible refine Below.setCell ?_ (by first | omega | (simp; done) | (simp; omega)) _
        | with_reducible refine Below.trans ?_ (Below.mono (by assumption) (by first | omega | (simp; done) | (simp; omega)))
end Go.Proofs.YtpggmebgndkpjaaDoor

namespace Go.Proofs.YtpggmebgndkpjaaDoor
set_option linter.all false
open Go.RowKit

/-- What the product's loop holds before bit i. -/
def hm (p a b i : Nat) : Nat := b / 2 ^ i * a % p
/-- The product modulo p. -/
def mulm (p a b : Nat) : Nat := b * a % p
theorem hm_lt {p : Nat} (hp : 0 < p) (a b i : Nat) : hm p a b i < p := Nat.mod_lt _ hp
theorem mulm_lt {p : Nat} (hp : 0 < p) (a b : Nat) : mulm p a b < p := Nat.mod_lt _ hp
theorem hm_top {p a b : Nat} (hb : b < R4) : hm p a b 256 = 0 := by
  unfold hm
  rw [Nat.div_eq_of_lt (show b < 2 ^ 256 from hb)]; simp
theorem hm_zero (p a b : Nat) : hm p a b 0 = mulm p a b := by simp [hm, mulm]
theorem bit_le (b i : Nat) : bitn b i ≤ 1 := by unfold bitn; omega
theorem hm_half (b i : Nat) : b / 2 ^ i = 2 * (b / 2 ^ (i + 1)) + bitn b i := by
  unfold bitn; rw [Nat.pow_succ, ← Nat.div_div_eq_div_mul]; omega
theorem hm_step0 {p a b i : Nat} (h : bitn b i = 0) : addm p (hm p a b (i + 1)) (hm p a b (i + 1)) = hm p a b i := by
  have e : b / 2 ^ i = 2 * (b / 2 ^ (i + 1)) := by have := hm_half b i; omega
  unfold addm hm
  rw [e, ← Nat.add_mod, ← Nat.two_mul, Nat.mul_assoc]
theorem hm_step1 {p a b i : Nat} (h : bitn b i = 1) : addm p (addm p (hm p a b (i + 1)) (hm p a b (i + 1))) a = hm p a b i := by
  unfold addm hm
  rw [hm_half b i, h, ← Nat.add_mod, Nat.mod_add_mod, Nat.add_mul, Nat.one_mul, ← Nat.two_mul, Nat.mul_assoc]

set_option maxRecDepth 100000 in
set_option maxHeartbeats 2000000 in
theorem refMul_c (p a b : Nat) (hp : p < R4) (ha : a < p) (hb : b < R4) (w : World) :
    Calls Tryd.prog 86 #[vec p, vec a, vec b] w fun e w' => e = .returned (vec (mulm p a b)) ∧ Below w.heap.size w w' := by
  have Hp := Lib.hid hp
  have Ha := Lib.hid ha
  have Hp0 := Lib.hid (show 0 < p by omega)
  have Ht := Lib.hid (hm_top (p := p) (a := a) hb)
  clear hp ha hb
  go_enter Tryd.func86, Tryd.ntmps86
  go_wp2_with fail
  go_loopw [8] (fun i wr => ∃ (k : Nat), k ≤ 256 ∧ i = .int .i64 ((k : Int) - 1) ∧ Below (w.heap.size + 1 + 1 + 1 + 1 + 1) (((((w.alloc
      (.cells #[.int .u64 ((dg 0 p : Nat) : Int), .int .u64 ((dg 1 p : Nat) : Int), .int .u64 ((dg 2 p : Nat) : Int), .int .u64 ((dg 3 p : Nat) : Int)] 44)).alloc
      (.cells #[.int .u64 ((dg 0 a : Nat) : Int), .int .u64 ((dg 1 a : Nat) : Int), .int .u64 ((dg 2 a : Nat) : Int), .int .u64 ((dg 3 a : Nat) : Int)] 44)).alloc
      (.cells #[.int .u64 ((dg 0 b : Nat) : Int), .int .u64 ((dg 1 b : Nat) : Int), .int .u64 ((dg 2 b : Nat) : Int), .int .u64 ((dg 3 b : Nat) : Int)] 44)).alloc
      (.cells #[.int .u64 0, .int .u64 0, .int .u64 0, .int .u64 0] 44)).alloc
      (.cells #[.int .u64 ((dg 0 (hm p a b k) : Nat) : Int), .int .u64 ((dg 1 (hm p a b k) : Nat) : Int), .int .u64 ((dg 2 (hm p a b k) : Nat) : Int), .int .u64 ((dg 3 (hm p a b k) : Nat) : Int)] 44)) wr) (fun i _ => (intOf i + 1).toNat)
  case atStart => exact ⟨256, by omega, rfl, by rw [Ht.out]; exact Below.refl _ _⟩
  case round =>
    obtain ⟨k, hk, rfl, hB⟩ := hrel
    rcases k with _ | k
    · obtain ⟨c1, f1, s1⟩ := bfactsB hB
      simp only [World.size_alloc] at s1
      go_wp2_with fail
      rw [hm_zero]
      refine bodyPost_ret (v := vec (mulm p a b)) (by simp only [results, Tryd.results86]; go_simp) rfl ⟨rfl, ?_⟩
      repeat first
        | with_reducible exact Below.refl _ _
        | with_reducible refine Below.drew ?_
        | with_reducible refine below_dN ?_
        | with_reducible refine Below.alloc ?_ (by first | omega | (simp; done) | (simp; omega)) _
        | with_reducible refine Below.setCell ?_ (by first | omega | (simp; done) | (simp; omega)) _
        | with_reducible refine Below.trans ?_ (Below.mono (by assumption) (by first | omega | (simp; done) | (simp; omega)))
    · obtain ⟨c1, f1, s1⟩ := bfactsB hB
      simp only [World.size_alloc] at s1
      have ek : (((k + 1 : Nat) : Int) - 1) = (k : Int) := by omega
      rw [ek]
      clear ek
      have l_w_wr_0 : w.heap.size < wr.heap.size := by omega
      have l_w_wr_1 : w.heap.size + 1 < wr.heap.size := by omega
      have l_w_wr_2 : w.heap.size + 1 + 1 < wr.heap.size := by omega
      have l_w_wr_3 : w.heap.size + 1 + 1 + 1 < wr.heap.size := by omega
      have l_w_wr_4 : w.heap.size + 1 + 1 + 1 + 1 < wr.heap.size := by omega
      go_wp2_with fail
      refine Calls.mono (refAdd_c p (hm p a b (k + 1)) (hm p a b (k + 1)) Hp.out (hm_lt Hp0.out _ _ _) (hm_lt Hp0.out _ _ _) _) ?_
      rintro _ w2 ⟨rfl, h2⟩
      obtain ⟨c2, f2, s2⟩ := bfacts h2
      try simp only [World.size_alloc, World.size_setCell, size_drew, size_drewN] at s2
      have l_w_w2_0 : w.heap.size < w2.heap.size := by omega
      have l_w_w2_1 : w.heap.size + 1 < w2.heap.size := by omega
      have l_w_w2_2 : w.heap.size + 1 + 1 < w2.heap.size := by omega
      have l_w_w2_3 : w.heap.size + 1 + 1 + 1 < w2.heap.size := by omega
      have l_w_w2_4 : w.heap.size + 1 + 1 + 1 + 1 < w2.heap.size := by omega
      go_wp2_with fail
      refine Calls.mono (refBit_c b k (by omega) _) ?_
      rintro _ w3 ⟨rfl, h3⟩
      obtain ⟨c3, f3, s3⟩ := bfacts h3
      try simp only [World.size_alloc, World.size_setCell, size_drew, size_drewN] at s3
      have l_w_w3_0 : w.heap.size < w3.heap.size := by omega
      have l_w_w3_1 : w.heap.size + 1 < w3.heap.size := by omega
      have l_w_w3_2 : w.heap.size + 1 + 1 < w3.heap.size := by omega
      have l_w_w3_3 : w.heap.size + 1 + 1 + 1 < w3.heap.size := by omega
      have l_w_w3_4 : w.heap.size + 1 + 1 + 1 + 1 < w3.heap.size := by omega
      have hB3 := (below_four (d0 := .int .u64 ((dg 0 (addm p (hm p a b (k + 1)) (hm p a b (k + 1))) : Nat) : Int)) (d1 := .int .u64 ((dg 1 (addm p (hm p a b (k + 1)) (hm p a b (k + 1))) : Nat) : Int)) (d2 := .int .u64 ((dg 2 (addm p (hm p a b (k + 1)) (hm p a b (k + 1))) : Nat) : Int)) (d3 := .int .u64 ((dg 3 (addm p (hm p a b (k + 1)) (hm p a b (k + 1))) : Nat) : Int)) (hB.trans (h2.mono s1)) (n := w.heap.size + 1 + 1 + 1 + 1) (by simp only [World.size_alloc])).trans (h3.mono (by simp only [World.size_setCell, size_drewN, size_drew]; omega))
      have HB3 := Lib.hid hB3
      clear hB3
      by_cases hbit : bitn b k = 1
      · rw [hbit]
        have hs := Lib.hid (hm_step1 (p := p) (a := a) hbit)
        clear hbit
        go_wp2_with fail
        refine Calls.mono (refAdd_c p (addm p (hm p a b (k + 1)) (hm p a b (k + 1))) a Hp.out (addm_lt Hp0.out _ _) Ha.out _) ?_
        rintro _ w4 ⟨rfl, h4⟩
        obtain ⟨c4, f4, s4⟩ := bfacts h4
        try simp only [World.size_alloc, World.size_setCell, size_drew, size_drewN] at s4
        have l_w_w4_0 : w.heap.size < w4.heap.size := by omega
        have l_w_w4_1 : w.heap.size + 1 < w4.heap.size := by omega
        have l_w_w4_2 : w.heap.size + 1 + 1 < w4.heap.size := by omega
        have l_w_w4_3 : w.heap.size + 1 + 1 + 1 < w4.heap.size := by omega
        have l_w_w4_4 : w.heap.size + 1 + 1 + 1 + 1 < w4.heap.size := by omega
        have hB4 := below_four (d0 := .int .u64 ((dg 0 (hm p a b k) : Nat) : Int)) (d1 := .int .u64 ((dg 1 (hm p a b k) : Nat) : Int)) (d2 := .int .u64 ((dg 2 (hm p a b k) : Nat) : Int)) (d3 := .int .u64 ((dg 3 (hm p a b k) : Nat) : Int)) (HB3.out.trans (h4.mono (by omega))) (n := w.heap.size + 1 + 1 + 1 + 1) (by simp only [World.size_alloc])
        have HB4 := Lib.hid hB4
        clear hB4
        rw [hs.out]
        go_wp2_with fail
        go_roundw
        case rel => exact ⟨k, by omega, rfl, HB4.out⟩
        case measure => simp [intOf]
      · have hz : bitn b k = 0 := by have := bit_le b k; omega
        rw [hz]
        have hs := hm_step0 (p := p) (a := a) hz
        rw [hs] at HB3
        have Hs := Lib.hid hs
        clear hbit hz hs
        go_wp2_with fail
        go_roundw
        case rel => exact ⟨k, by omega, rfl, HB3.out⟩
        case measure => simp [intOf]
end Go.Proofs.YtpggmebgndkpjaaDoor

namespace Go.Proofs.YtpggmebgndkpjaaDoor
set_option linter.all false
open Go.RowKit

/-- What Radix holds after i rounds. -/
def rx (p i : Nat) : Nat := 2 ^ i % p
theorem rx_lt {p : Nat} (hp : 0 < p) (i : Nat) : rx p i < p := Nat.mod_lt _ hp
theorem rx_zero {p : Nat} (hp : 1 < p) : rx p 0 = 1 := by simp [rx, Nat.mod_eq_of_lt hp]
theorem rx_succ (p i : Nat) : addm p (rx p i) (rx p i) = rx p (i + 1) := by
  unfold addm rx; rw [← Nat.add_mod, ← Nat.two_mul, Nat.pow_succ, Nat.mul_comm]

set_option maxRecDepth 100000 in
set_option maxHeartbeats 2000000 in
theorem refRadix_c (p : Nat) (hp : p < R4) (hp1 : 1 < p) (w : World) :
    Calls Tryd.prog 93 #[vec p] w fun e w' => e = .returned (vec (R4 % p)) ∧ Below w.heap.size w w' := by
  have Hp := Lib.hid hp
  have Hp0 := Lib.hid (show 0 < p by omega)
  have H1 := Lib.hid (rx_zero hp1)
  have He : rx p 256 = R4 % p := rfl
  rw [← He]
  clear hp hp1 He
  go_enter Tryd.func93, Tryd.ntmps93
  go_wp2_with fail
  refine Calls.mono (refOne_c _) ?_
  rintro _ w1 ⟨rfl, h1⟩
  obtain ⟨c1, f1, s1⟩ := bfacts h1
  try simp only [World.size_alloc, World.size_setCell, size_drew, size_drewN] at s1
  have l_w_w1_0 : w.heap.size < w1.heap.size := by omega
  have l_w_w1_1 : w.heap.size + 1 < w1.heap.size := by omega
  go_wp2_with fail
  go_loopw [4] (fun i wr => ∃ (k : Nat), k ≤ 256 ∧ i = .int .i64 (k : Int) ∧ Below (w1.heap.size + 1) (w1.alloc
      (.cells #[.int .u64 ((dg 0 (rx p k) : Nat) : Int), .int .u64 ((dg 1 (rx p k) : Nat) : Int), .int .u64 ((dg 2 (rx p k) : Nat) : Int), .int .u64 ((dg 3 (rx p k) : Nat) : Int)] 44)) wr) (fun i _ => 256 - (intOf i).toNat)
  case atStart => exact ⟨0, by omega, rfl, by rw [H1.out]; exact Below.refl _ _⟩
  case round =>
    obtain ⟨k, hk, rfl, hB⟩ := hrel
    obtain ⟨c2, f2, s2⟩ := bfactsB hB
    simp only [World.size_alloc] at s2
    have l_w_wr_0 : w.heap.size < wr.heap.size := by omega
    have l_w_wr_1 : w.heap.size + 1 < wr.heap.size := by omega
    have l2 : w1.heap.size < wr.heap.size := by omega
    by_cases hk2 : k < 256
    · go_wp2_with fail
      refine Calls.mono (refAdd_c p (rx p k) (rx p k) Hp.out (rx_lt Hp0.out _) (rx_lt Hp0.out _) _) ?_
      rintro _ w3 ⟨rfl, h3⟩
      obtain ⟨c3, f3, s3⟩ := bfacts h3
      try simp only [World.size_alloc, World.size_setCell, size_drew, size_drewN] at s3
      rw [rx_succ]
      have l_w_w3_0 : w.heap.size < w3.heap.size := by omega
      have l_w_w3_1 : w.heap.size + 1 < w3.heap.size := by omega
      have l3 : w1.heap.size < w3.heap.size := by omega
      have hB4 := below_four (d0 := .int .u64 ((dg 0 (rx p (k + 1)) : Nat) : Int)) (d1 := .int .u64 ((dg 1 (rx p (k + 1)) : Nat) : Int)) (d2 := .int .u64 ((dg 2 (rx p (k + 1)) : Nat) : Int)) (d3 := .int .u64 ((dg 3 (rx p (k + 1)) : Nat) : Int)) (hB.trans (h3.mono s2)) (n := w1.heap.size) rfl
      have HB4 := Lib.hid hB4
      clear hB4
      go_wp2_with fail
      go_roundw
      case rel => exact ⟨k + 1, by omega, by go_num, HB4.out⟩
      case measure => simp [intOf]; omega
    · have e : k = 256 := by omega
      clear hk hk2
      have E2 := Lib.hid (show vec (rx p 256) = vec (rx p k) by rw [e])
      generalize rx p k = x at *
      subst e
      go_wp2_with fail
      rw [E2.out]
      refine bodyPost_ret (v := vec x) (by simp only [results, Tryd.results93]; go_simp) rfl ⟨rfl, ?_⟩
      repeat first
        | with_reducible exact Below.refl _ _
        | with_reducible refine Below.drew ?_
        | with_reducible refine below_dN ?_
        | with_reducible refine Below.alloc ?_ (by first | omega | (simp; done) | (simp; omega)) _
        | with_reducible refine Below.setCell ?_ (by first | omega | (simp; done) | (simp; omega)) _
        | with_reducible refine Below.trans ?_ (Below.mono (by assumption) (by first | omega | (simp; done) | (simp; omega)))
end Go.Proofs.YtpggmebgndkpjaaDoor

namespace Go.Proofs.YtpggmebgndkpjaaDoor
set_option linter.all false
open Go.RowKit

set_option maxRecDepth 100000 in
set_option maxHeartbeats 2000000 in
theorem refMod_c (p b : Nat) (hp : p < R4) (hp1 : 1 < p) (hb : b < R4) (w : World) :
    Calls Tryd.prog 58 #[vec p, vec b] w fun e w' => e = .returned (vec (mulm p 1 b)) ∧ Below w.heap.size w w' := by
  go_enter Tryd.func58, Tryd.ntmps58
  go_wp2_with fail
  refine region_mix 4 [false, false, false, false] (fun w' => Below (w.heap.size + 1 + 1 + 1) _ w') (by kernel_rfl) (by kernel_rfl) (by intro _ _ d _ _ h; cases d <;> exact h) below_drew ?_
  simp only [List.take_succ_cons, List.take_zero, List.drop_succ_cons, List.drop_zero]
  with_reducible refine mix_v ?_ ?_ ?_
  · rfl
  · rfl
  apply Exists.intro
  refine ⟨fun w' hC => ?_, ?_⟩
  · have hcell := below_cells hC
    clear hC
    go_simp
    rfl
  try simp only [Act.put, List.setIfInBounds_toArray, List.set_cons_zero, List.set_cons_succ, List.tail_cons]
  with_reducible refine mix_c ?_ ?_ ?_
  · rfl
  · rfl
  apply Exists.intro
  apply Exists.intro
  apply Exists.intro
  refine ⟨fun w' hC => ?_, fun w' hC => ?_, ?_⟩
  · have hcell := below_cells hC
    clear hC
    go_simp
    exact ⟨rfl, rfl⟩
  · exact below_of hC (by simp) (refOne_c _)
  try simp only [Act.put, List.setIfInBounds_toArray, List.set_cons_zero, List.set_cons_succ, List.tail_cons]
  with_reducible refine mix_v ?_ ?_ ?_
  · rfl
  · rfl
  apply Exists.intro
  refine ⟨fun w' hC => ?_, ?_⟩
  · have hcell := below_cells hC
    clear hC
    go_simp
    rfl
  try simp only [Act.put, List.setIfInBounds_toArray, List.set_cons_zero, List.set_cons_succ, List.tail_cons]
  with_reducible refine mix_c ?_ ?_ ?_
  · rfl
  · rfl
  apply Exists.intro
  apply Exists.intro
  apply Exists.intro
  refine ⟨fun w' hC => ?_, fun w' hC => ?_, ?_⟩
  · have hcell := below_cells hC
    clear hC
    go_simp
    exact ⟨rfl, rfl⟩
  · exact below_of hC (by simp) (refMul_c p 1 b hp hp1 hb _)
  try simp only [Act.put, List.setIfInBounds_toArray, List.set_cons_zero, List.set_cons_succ, List.tail_cons]
  refine mix_nil ?_
  intro w2 h2
  obtain ⟨c2, f2, s2⟩ := bfactsB h2
  try simp only [World.size_alloc, World.size_setCell, size_drew, size_drewN] at s2
  go_wp2_with fail
  refine bodyPost_ret (v := vec (mulm p 1 b)) (by simp only [results, Tryd.results58]; go_simp) rfl ⟨rfl, ?_⟩
  repeat first
    | with_reducible exact Below.refl _ _
    | with_reducible refine Below.drew ?_
    | with_reducible refine below_dN ?_
    | with_reducible refine Below.alloc ?_ (by first | omega | (simp; done) | (simp; omega)) _
    | with_reducible refine Below.setCell ?_ (by first | omega | (simp; done) | (simp; omega)) _
    | with_reducible refine Below.trans ?_ (Below.mono (by assumption) (by first | omega | (simp; done) | (simp; omega)))

set_option maxRecDepth 100000 in
set_option maxHeartbeats 2000000 in
theorem refForm_c (p b : Nat) (hp : p < R4) (hp1 : 1 < p) (hb : b < R4) (w : World) :
    Calls Tryd.prog 63 #[vec p, vec b] w fun e w' => e = .returned (vec (mulm p (R4 % p) b)) ∧ Below w.heap.size w w' := by
  go_enter Tryd.func63, Tryd.ntmps63
  go_wp2_with fail
  refine region_mix 5 [false, false, false, false, false] (fun w' => Below (w.heap.size + 1 + 1 + 1) _ w') (by kernel_rfl) (by kernel_rfl) (by intro _ _ d _ _ h; cases d <;> exact h) below_drew ?_
  simp only [List.take_succ_cons, List.take_zero, List.drop_succ_cons, List.drop_zero]
  with_reducible refine mix_v ?_ ?_ ?_
  · rfl
  · rfl
  apply Exists.intro
  refine ⟨fun w' hC => ?_, ?_⟩
  · have hcell := below_cells hC
    clear hC
    go_simp
    rfl
  try simp only [Act.put, List.setIfInBounds_toArray, List.set_cons_zero, List.set_cons_succ, List.tail_cons]
  with_reducible refine mix_v ?_ ?_ ?_
  · rfl
  · rfl
  apply Exists.intro
  refine ⟨fun w' hC => ?_, ?_⟩
  · have hcell := below_cells hC
    clear hC
    go_simp
    rfl
  try simp only [Act.put, List.setIfInBounds_toArray, List.set_cons_zero, List.set_cons_succ, List.tail_cons]
  with_reducible refine mix_c ?_ ?_ ?_
  · rfl
  · rfl
  apply Exists.intro
  apply Exists.intro
  apply Exists.intro
  refine ⟨fun w' hC => ?_, fun w' hC => ?_, ?_⟩
  · have hcell := below_cells hC
    clear hC
    go_simp
    exact ⟨rfl, rfl⟩
  · exact below_of hC (by simp) (refRadix_c p hp hp1 _)
  try simp only [Act.put, List.setIfInBounds_toArray, List.set_cons_zero, List.set_cons_succ, List.tail_cons]
  with_reducible refine mix_v ?_ ?_ ?_
  · rfl
  · rfl
  apply Exists.intro
  refine ⟨fun w' hC => ?_, ?_⟩
  · have hcell := below_cells hC
    clear hC
    go_simp
    rfl
  try simp only [Act.put, List.setIfInBounds_toArray, List.set_cons_zero, List.set_cons_succ, List.tail_cons]
  with_reducible refine mix_c ?_ ?_ ?_
  · rfl
  · rfl
  apply Exists.intro
  apply Exists.intro
  apply Exists.intro
  refine ⟨fun w' hC => ?_, fun w' hC => ?_, ?_⟩
  · have hcell := below_cells hC
    clear hC
    go_simp
    exact ⟨rfl, rfl⟩
  · exact below_of hC (by simp) (refMul_c p (R4 % p) b hp (Nat.mod_lt _ (by omega)) hb _)
  try simp only [Act.put, List.setIfInBounds_toArray, List.set_cons_zero, List.set_cons_succ, List.tail_cons]
  refine mix_nil ?_
  intro w2 h2
  obtain ⟨c2, f2, s2⟩ := bfactsB h2
  try simp only [World.size_alloc, World.size_setCell, size_drew, size_drewN] at s2
  go_wp2_with fail
  refine bodyPost_ret (v := vec (mulm p (R4 % p) b)) (by simp only [results, Tryd.results63]; go_simp) rfl ⟨rfl, ?_⟩
  repeat first
    | with_reducible exact Below.refl _ _
    | with_reducible refine Below.drew ?_
    | with_reducible refine below_dN ?_
    | with_reducible refine Below.alloc ?_ (by first | omega | (simp; done) | (simp; omega)) _
    | with_reducible refine Below.setCell ?_ (by first | omega | (simp; done) | (simp; omega)) _
    | with_reducible refine Below.trans ?_ (Below.mono (by assumption) (by first | omega | (simp; done) | (simp; omega)))
end Go.Proofs.YtpggmebgndkpjaaDoor

namespace Go.Proofs.YtpggmebgndkpjaaDoor
set_option linter.all false
open Go.RowKit

set_option maxRecDepth 100000 in
set_option maxHeartbeats 2000000 in
theorem refModulus_c (s : Bool) (w : World) :
    Calls Tryd.prog 57 #[.int .i64 (fid s)] w fun e w' => e = .returned (vec (pr s)) ∧ Below w.heap.size w w' := by
  cases s
  · have hv : vec (pr false) = .agg #[.int .u64 18446744073709551597, .int .u64 18446744073709551615, .int .u64 18446744073709551615, .int .u64 9223372036854775807] := rfl
    rw [hv]
    have hf : fid false = 1 := rfl
    rw [hf]
    go_enter Tryd.func57, Tryd.ntmps57
    go_wp2_with fail
    refine bodyPost_ret (v := .agg #[.int .u64 18446744073709551597, .int .u64 18446744073709551615, .int .u64 18446744073709551615, .int .u64 9223372036854775807]) (by simp only [results, Tryd.results57]; go_simp) rfl ⟨rfl, ?_⟩
    repeat first
      | with_reducible exact Below.refl _ _
      | with_reducible refine Below.drew ?_
      | with_reducible refine below_dN ?_
      | with_reducible refine Below.alloc ?_ (by first | omega | (simp; done) | (simp; omega)) _
      | with_reducible refine Below.setCell ?_ (by first | omega | (simp; done) | (simp; omega)) _
      | with_reducible refine Below.trans ?_ (Below.mono (by assumption) (by first | omega | (simp; done) | (simp; omega)))
  · have hv : vec (pr true) = .agg #[.int .u64 17562291160714782033, .int .u64 13611842547513532036, .int .u64 18446744073709551615, .int .u64 18446744069414584320] := rfl
    rw [hv]
    have hf : fid true = 2 := rfl
    rw [hf]
    go_enter Tryd.func57, Tryd.ntmps57
    go_wp2_with fail
    refine bodyPost_ret (v := .agg #[.int .u64 17562291160714782033, .int .u64 13611842547513532036, .int .u64 18446744073709551615, .int .u64 18446744069414584320]) (by simp only [results, Tryd.results57]; go_simp) rfl ⟨rfl, ?_⟩
    repeat first
      | with_reducible exact Below.refl _ _
      | with_reducible refine Below.drew ?_
      | with_reducible refine below_dN ?_
      | with_reducible refine Below.alloc ?_ (by first | omega | (simp; done) | (simp; omega)) _
      | with_reducible refine Below.setCell ?_ (by first | omega | (simp; done) | (simp; omega)) _
      | with_reducible refine Below.trans ?_ (Below.mono (by assumption) (by first | omega | (simp; done) | (simp; omega)))

end Go.Proofs.YtpggmebgndkpjaaDoor
