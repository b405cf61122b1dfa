/- The contract of the reference's sub. -/
import Derived.Test.YtpggmebgndkpjaaDoorRef4
namespace Go.Proofs.YtpggmebgndkpjaaDoor
set_option linter.all false
open Go.RowKit

set_option maxRecDepth 100000 in
set_option maxHeartbeats 4000000 in
theorem refsub_c (a b : Nat) (ha : a < R4) (hb : b < R4) (w : World) :
    Calls Tryd.prog 126 #[vec a, vec b] w fun e w' => e = .returned (.tuple #[vec (subV a b), .int .u64 ((subC a b : Nat) : Int)]) ∧ Below w.heap.size w w' := by
  have he := Lib.hid (chain_sub ha hb)
  clear ha hb
  go_enter Tryd.func126, Tryd.ntmps126
  go_wp2_with fail
  go_loopw [7, 8] (fun c i wr => ∃ (k n : Nat), k ≤ 4 ∧ i = .int .i64 (k : Int) ∧ c = .int .u64 ((cyc subHi a b k : Nat) : Int) ∧ wr = World.drewN ((((w.alloc
      (.cells #[.int .u64 ((dg 0 a : Nat) : Int), .int .u64 ((dg 1 a : Nat) : Int), .int .u64 ((dg 2 a : Nat) : Int), .int .u64 ((dg 3 a : Nat) : Int)] 44)).alloc
      (.cells #[.int .u64 ((dg 0 b : Nat) : Int), .int .u64 ((dg 1 b : Nat) : Int), .int .u64 ((dg 2 b : Nat) : Int), .int .u64 ((dg 3 b : Nat) : Int)] 44)).alloc
      (.cells #[.int .u64 0, .int .u64 0, .int .u64 0, .int .u64 0] 44)).alloc
      (.cells #[.int .u64 ((ow subLo subHi a b 0 k : Nat) : Int), .int .u64 ((ow subLo subHi a b 1 k : Nat) : Int), .int .u64 ((ow subLo subHi a b 2 k : Nat) : Int), .int .u64 ((ow subLo subHi a b 3 k : Nat) : Int)] 44)) n) (fun _ i _ => 4 - (intOf i).toNat)
  case atStart => exact ⟨0, 0, by omega, rfl, rfl, rfl⟩
  case round =>
    obtain ⟨k, n, hk4, rfl, rfl, rfl⟩ := hrel
    by_cases hk : k < 4
    · have d1 := digit_at a k hk
      have d2 := digit_at b k hk
      have hx := wrap_sub (dg k a) (dg k b) (cyc subHi a b k) (dg_lt _ _) (dg_lt _ _) (cyc_sub_le _ _ _)
      have hlo : subLo (dg k a) (dg k b) (cyc subHi a b k) = subLo (dg k a) (dg k b) (cyc subHi a b k) := rfl
      have Hc := Lib.hid (cyc_sub_le a b k)
      have fin : ∀ (c n' : Nat) (v : Value), v = .int .u64 (c : Int) → c = cyc subHi a b (k + 1) → ∃ (k_1 n_1 : Nat), k_1 ≤ 4 ∧ Value.int IntKind.i64 ((k : Int) + 1) = .int .i64 (k_1 : Int) ∧ v = .int .u64 ((cyc subHi a b k_1 : Nat) : Int) ∧
        World.drewN ((((w.alloc
      (.cells #[.int .u64 ((dg 0 a : Nat) : Int), .int .u64 ((dg 1 a : Nat) : Int), .int .u64 ((dg 2 a : Nat) : Int), .int .u64 ((dg 3 a : Nat) : Int)] 44)).alloc
      (.cells #[.int .u64 ((dg 0 b : Nat) : Int), .int .u64 ((dg 1 b : Nat) : Int), .int .u64 ((dg 2 b : Nat) : Int), .int .u64 ((dg 3 b : Nat) : Int)] 44)).alloc
      (.cells #[.int .u64 0, .int .u64 0, .int .u64 0, .int .u64 0] 44)).alloc
      (.cells ((ows subLo subHi a b k).set k (.int .u64 ((subLo (dg k a) (dg k b) (cyc subHi a b k) : Nat) : Int))).toArray 44)) n' = World.drewN ((((w.alloc
      (.cells #[.int .u64 ((dg 0 a : Nat) : Int), .int .u64 ((dg 1 a : Nat) : Int), .int .u64 ((dg 2 a : Nat) : Int), .int .u64 ((dg 3 a : Nat) : Int)] 44)).alloc
      (.cells #[.int .u64 ((dg 0 b : Nat) : Int), .int .u64 ((dg 1 b : Nat) : Int), .int .u64 ((dg 2 b : Nat) : Int), .int .u64 ((dg 3 b : Nat) : Int)] 44)).alloc
      (.cells #[.int .u64 0, .int .u64 0, .int .u64 0, .int .u64 0] 44)).alloc
      (.cells (ows subLo subHi a b k_1).toArray 44)) n_1 := fun c n' v hv hc => ⟨k + 1, n', by omega, by go_num, by rw [hv, hc], by rw [ow_set hk rfl]⟩
      have Fin := Lib.hid fin
      clear fin hlo
      by_cases h1 : dg k a < dg k b
      · have hc : cyc subHi a b (k + 1) = 1 := (cyc_succ _ _ _ _).trans (sub_one (by omega))
        have HC := Lib.hid hc
        clear hc
        as_aux_lemma =>
          go_wp2_with fail
          refine region_mix 11 [false, false, false, false, false, false, false, false, false, false, false] (fun w' => w' = World.drew _) (by kernel_rfl) (by kernel_rfl) (by intro _ _ d _ _ h; cases d <;> exact h) rfl ?_
          simp only [List.take_succ_cons, List.take_zero, List.drop_succ_cons, List.drop_zero]
          with_reducible refine mix_v ?_ ?_ ?_
          · rfl
          · rfl
          apply Exists.intro
          refine ⟨fun w' hC => ?_, ?_⟩
          · subst hC
            go_simp
            rfl
          try simp only [Act.put, List.setIfInBounds_toArray, List.set_cons_zero, List.set_cons_succ, List.tail_cons]
          with_reducible refine mix_v ?_ ?_ ?_
          · rfl
          · rfl
          apply Exists.intro
          refine ⟨fun w' hC => ?_, ?_⟩
          · subst hC
            go_simp
            rfl
          try simp only [Act.put, List.setIfInBounds_toArray, List.set_cons_zero, List.set_cons_succ, List.tail_cons]
          with_reducible refine mix_v ?_ ?_ ?_
          · rfl
          · rfl
          apply Exists.intro
          refine ⟨fun w' hC => ?_, ?_⟩
          · subst hC
            go_simp
            rfl
          try simp only [Act.put, List.setIfInBounds_toArray, List.set_cons_zero, List.set_cons_succ, List.tail_cons]
          with_reducible refine mix_v ?_ ?_ ?_
          · rfl
          · rfl
          apply Exists.intro
          refine ⟨fun w' hC => ?_, ?_⟩
          · subst hC
            go_simp
            rfl
          try simp only [Act.put, List.setIfInBounds_toArray, List.set_cons_zero, List.set_cons_succ, List.tail_cons]
          with_reducible refine mix_v ?_ ?_ ?_
          · rfl
          · rfl
          apply Exists.intro
          refine ⟨fun w' hC => ?_, ?_⟩
          · subst hC
            go_simp
            rfl
          try simp only [Act.put, List.setIfInBounds_toArray, List.set_cons_zero, List.set_cons_succ, List.tail_cons]
          with_reducible refine mix_v ?_ ?_ ?_
          · rfl
          · rfl
          apply Exists.intro
          refine ⟨fun w' hC => ?_, ?_⟩
          · subst hC
            go_simp
            rfl
          try simp only [Act.put, List.setIfInBounds_toArray, List.set_cons_zero, List.set_cons_succ, List.tail_cons]
          with_reducible refine mix_v ?_ ?_ ?_
          · rfl
          · rfl
          apply Exists.intro
          refine ⟨fun w' hC => ?_, ?_⟩
          · subst hC
            go_simp
            rfl
          try simp only [Act.put, List.setIfInBounds_toArray, List.set_cons_zero, List.set_cons_succ, List.tail_cons]
          with_reducible refine mix_v ?_ ?_ ?_
          · rfl
          · rfl
          apply Exists.intro
          refine ⟨fun w' hC => ?_, ?_⟩
          · subst hC
            go_simp
            rfl
          try simp only [Act.put, List.setIfInBounds_toArray, List.set_cons_zero, List.set_cons_succ, List.tail_cons]
          with_reducible refine mix_v ?_ ?_ ?_
          · rfl
          · rfl
          apply Exists.intro
          refine ⟨fun w' hC => ?_, ?_⟩
          · subst hC
            go_simp
            rfl
          try simp only [Act.put, List.setIfInBounds_toArray, List.set_cons_zero, List.set_cons_succ, List.tail_cons]
          with_reducible refine mix_v ?_ ?_ ?_
          · rfl
          · rfl
          apply Exists.intro
          refine ⟨fun w' hC => ?_, ?_⟩
          · subst hC
            go_simp
            rfl
          try simp only [Act.put, List.setIfInBounds_toArray, List.set_cons_zero, List.set_cons_succ, List.tail_cons]
          with_reducible refine mix_v ?_ ?_ ?_
          · rfl
          · rfl
          apply Exists.intro
          refine ⟨fun w' hC => ?_, ?_⟩
          · subst hC
            go_simp
            rfl
          try simp only [Act.put, List.setIfInBounds_toArray, List.set_cons_zero, List.set_cons_succ, List.tail_cons]
          refine mix_nil ?_
          rintro _ rfl
          go_wp2_with fail
          refine region_quiet (fun w' => w' = World.drew _) (by kernel_rfl) (by kernel_rfl) rfl ?_
          with_reducible refine mix_v ?_ ?_ ?_
          · rfl
          · rfl
          apply Exists.intro
          refine ⟨fun w' hC => ?_, ?_⟩
          · subst hC
            go_simp
            rfl
          try simp only [Act.put, List.setIfInBounds_toArray, List.set_cons_zero, List.set_cons_succ, List.tail_cons]
          with_reducible refine mix_v ?_ ?_ ?_
          · rfl
          · rfl
          apply Exists.intro
          refine ⟨fun w' hC => ?_, ?_⟩
          · subst hC
            go_simp
            rfl
          try simp only [Act.put, List.setIfInBounds_toArray, List.set_cons_zero, List.set_cons_succ, List.tail_cons]
          with_reducible refine mix_v ?_ ?_ ?_
          · rfl
          · rfl
          apply Exists.intro
          refine ⟨fun w' hC => ?_, ?_⟩
          · subst hC
            go_simp
            rfl
          try simp only [Act.put, List.setIfInBounds_toArray, List.set_cons_zero, List.set_cons_succ, List.tail_cons]
          with_reducible refine mix_v ?_ ?_ ?_
          · rfl
          · rfl
          apply Exists.intro
          refine ⟨fun w' hC => ?_, ?_⟩
          · subst hC
            go_simp
            rfl
          try simp only [Act.put, List.setIfInBounds_toArray, List.set_cons_zero, List.set_cons_succ, List.tail_cons]
          with_reducible refine mix_v ?_ ?_ ?_
          · rfl
          · rfl
          apply Exists.intro
          refine ⟨fun w' hC => ?_, ?_⟩
          · subst hC
            go_simp
            rfl
          try simp only [Act.put, List.setIfInBounds_toArray, List.set_cons_zero, List.set_cons_succ, List.tail_cons]
          with_reducible refine mix_v ?_ ?_ ?_
          · rfl
          · rfl
          apply Exists.intro
          refine ⟨fun w' hC => ?_, ?_⟩
          · subst hC
            go_simp
            rfl
          try simp only [Act.put, List.setIfInBounds_toArray, List.set_cons_zero, List.set_cons_succ, List.tail_cons]
          with_reducible refine mix_v ?_ ?_ ?_
          · rfl
          · rfl
          apply Exists.intro
          refine ⟨fun w' hC => ?_, ?_⟩
          · subst hC
            go_simp
            rfl
          try simp only [Act.put, List.setIfInBounds_toArray, List.set_cons_zero, List.set_cons_succ, List.tail_cons]
          with_reducible refine mix_v ?_ ?_ ?_
          · rfl
          · rfl
          apply Exists.intro
          refine ⟨fun w' hC => ?_, ?_⟩
          · subst hC
            go_simp
            rfl
          try simp only [Act.put, List.setIfInBounds_toArray, List.set_cons_zero, List.set_cons_succ, List.tail_cons]
          first
            | (with_reducible refine mix_s ?_ ?_ ?_
               · rfl
               · rfl)
            | (with_reducible refine mix_v ?_ ?_ ?_
               · rfl
               · rfl
               apply Exists.intro
               refine ⟨fun w' hC => ?_, ?_⟩
               · subst hC
                 go_simp
                 rfl)
          try simp only [Act.put, List.setIfInBounds_toArray, List.set_cons_zero, List.set_cons_succ, List.tail_cons]
          first
            | (with_reducible refine mix_s ?_ ?_ ?_
               · rfl
               · rfl)
            | (with_reducible refine mix_v ?_ ?_ ?_
               · rfl
               · rfl
               apply Exists.intro
               refine ⟨fun w' hC => ?_, ?_⟩
               · subst hC
                 go_simp
                 rfl)
          try simp only [Act.put, List.setIfInBounds_toArray, List.set_cons_zero, List.set_cons_succ, List.tail_cons]
          first
            | (with_reducible refine mix_s ?_ ?_ ?_
               · rfl
               · rfl)
            | (with_reducible refine mix_v ?_ ?_ ?_
               · rfl
               · rfl
               apply Exists.intro
               refine ⟨fun w' hC => ?_, ?_⟩
               · subst hC
                 go_simp
                 rfl)
          try simp only [Act.put, List.setIfInBounds_toArray, List.set_cons_zero, List.set_cons_succ, List.tail_cons]
          first
            | (with_reducible refine mix_s ?_ ?_ ?_
               · rfl
               · rfl)
            | (with_reducible refine mix_v ?_ ?_ ?_
               · rfl
               · rfl
               apply Exists.intro
               refine ⟨fun w' hC => ?_, ?_⟩
               · subst hC
                 go_simp
                 rfl)
          try simp only [Act.put, List.setIfInBounds_toArray, List.set_cons_zero, List.set_cons_succ, List.tail_cons]
          first
            | (with_reducible refine mix_s ?_ ?_ ?_
               · rfl
               · rfl)
            | (with_reducible refine mix_v ?_ ?_ ?_
               · rfl
               · rfl
               apply Exists.intro
               refine ⟨fun w' hC => ?_, ?_⟩
               · subst hC
                 go_simp
                 rfl)
          try simp only [Act.put, List.setIfInBounds_toArray, List.set_cons_zero, List.set_cons_succ, List.tail_cons]
          first
            | (with_reducible refine mix_s ?_ ?_ ?_
               · rfl
               · rfl)
            | (with_reducible refine mix_v ?_ ?_ ?_
               · rfl
               · rfl
               apply Exists.intro
               refine ⟨fun w' hC => ?_, ?_⟩
               · subst hC
                 go_simp
                 rfl)
          try simp only [Act.put, List.setIfInBounds_toArray, List.set_cons_zero, List.set_cons_succ, List.tail_cons]
          first
            | (with_reducible refine mix_s ?_ ?_ ?_
               · rfl
               · rfl)
            | (with_reducible refine mix_v ?_ ?_ ?_
               · rfl
               · rfl
               apply Exists.intro
               refine ⟨fun w' hC => ?_, ?_⟩
               · subst hC
                 go_simp
                 rfl)
          try simp only [Act.put, List.setIfInBounds_toArray, List.set_cons_zero, List.set_cons_succ, List.tail_cons]
          first
            | (with_reducible refine mix_s ?_ ?_ ?_
               · rfl
               · rfl)
            | (with_reducible refine mix_v ?_ ?_ ?_
               · rfl
               · rfl
               apply Exists.intro
               refine ⟨fun w' hC => ?_, ?_⟩
               · subst hC
                 go_simp
                 rfl)
          try simp only [Act.put, List.setIfInBounds_toArray, List.set_cons_zero, List.set_cons_succ, List.tail_cons]
          first
            | (with_reducible refine mix_s ?_ ?_ ?_
               · rfl
               · rfl)
            | (with_reducible refine mix_v ?_ ?_ ?_
               · rfl
               · rfl
               apply Exists.intro
               refine ⟨fun w' hC => ?_, ?_⟩
               · subst hC
                 go_simp
                 rfl)
          try simp only [Act.put, List.setIfInBounds_toArray, List.set_cons_zero, List.set_cons_succ, List.tail_cons]
          first
            | (with_reducible refine mix_s ?_ ?_ ?_
               · rfl
               · rfl)
            | (with_reducible refine mix_v ?_ ?_ ?_
               · rfl
               · rfl
               apply Exists.intro
               refine ⟨fun w' hC => ?_, ?_⟩
               · subst hC
                 go_simp
                 rfl)
          try simp only [Act.put, List.setIfInBounds_toArray, List.set_cons_zero, List.set_cons_succ, List.tail_cons]
          first
            | (with_reducible refine mix_s ?_ ?_ ?_
               · rfl
               · rfl)
            | (with_reducible refine mix_v ?_ ?_ ?_
               · rfl
               · rfl
               apply Exists.intro
               refine ⟨fun w' hC => ?_, ?_⟩
               · subst hC
                 go_simp
                 rfl)
          try simp only [Act.put, List.setIfInBounds_toArray, List.set_cons_zero, List.set_cons_succ, List.tail_cons]
          with_reducible refine mix_v ?_ ?_ ?_
          · rfl
          · rfl
          apply Exists.intro
          refine ⟨fun w' hC => ?_, ?_⟩
          · subst hC
            go_simp
            rfl
          try simp only [Act.put, List.setIfInBounds_toArray, List.set_cons_zero, List.set_cons_succ, List.tail_cons]
          refine mix_nil ?_
          rintro _ rfl
          go_wp2_with fail
          go_roundw
          case rel => exact Fin.out 1 _ _ rfl HC.out.symm
          case measure => simp [intOf]; omega
      · by_cases h2 : dg k a = dg k b
        · obtain ⟨e1, e2, e3⟩ := eq_facts h2
          by_cases h3 : cyc subHi a b k = 1
          · have hc : cyc subHi a b (k + 1) = 1 := (cyc_succ _ _ _ _).trans (sub_one (by omega))
            obtain ⟨f1, f2, f3⟩ := eq1_facts h3
            have HC := Lib.hid hc
            have H2 := Lib.hid h2
            have H3 := Lib.hid h3
            clear hc h2 h3
            as_aux_lemma =>
              go_wp2_with fail
              refine region_mix 11 [false, false, false, false, false, false, false, false, false, false, false] (fun w' => w' = World.drew _) (by kernel_rfl) (by kernel_rfl) (by intro _ _ d _ _ h; cases d <;> exact h) rfl ?_
              simp only [List.take_succ_cons, List.take_zero, List.drop_succ_cons, List.drop_zero]
              with_reducible refine mix_v ?_ ?_ ?_
              · rfl
              · rfl
              apply Exists.intro
              refine ⟨fun w' hC => ?_, ?_⟩
              · subst hC
                go_simp
                rfl
              try simp only [Act.put, List.setIfInBounds_toArray, List.set_cons_zero, List.set_cons_succ, List.tail_cons]
              with_reducible refine mix_v ?_ ?_ ?_
              · rfl
              · rfl
              apply Exists.intro
              refine ⟨fun w' hC => ?_, ?_⟩
              · subst hC
                go_simp
                rfl
              try simp only [Act.put, List.setIfInBounds_toArray, List.set_cons_zero, List.set_cons_succ, List.tail_cons]
              with_reducible refine mix_v ?_ ?_ ?_
              · rfl
              · rfl
              apply Exists.intro
              refine ⟨fun w' hC => ?_, ?_⟩
              · subst hC
                go_simp
                rfl
              try simp only [Act.put, List.setIfInBounds_toArray, List.set_cons_zero, List.set_cons_succ, List.tail_cons]
              with_reducible refine mix_v ?_ ?_ ?_
              · rfl
              · rfl
              apply Exists.intro
              refine ⟨fun w' hC => ?_, ?_⟩
              · subst hC
                go_simp
                rfl
              try simp only [Act.put, List.setIfInBounds_toArray, List.set_cons_zero, List.set_cons_succ, List.tail_cons]
              with_reducible refine mix_v ?_ ?_ ?_
              · rfl
              · rfl
              apply Exists.intro
              refine ⟨fun w' hC => ?_, ?_⟩
              · subst hC
                go_simp
                rfl
              try simp only [Act.put, List.setIfInBounds_toArray, List.set_cons_zero, List.set_cons_succ, List.tail_cons]
              with_reducible refine mix_v ?_ ?_ ?_
              · rfl
              · rfl
              apply Exists.intro
              refine ⟨fun w' hC => ?_, ?_⟩
              · subst hC
                go_simp
                rfl
              try simp only [Act.put, List.setIfInBounds_toArray, List.set_cons_zero, List.set_cons_succ, List.tail_cons]
              with_reducible refine mix_v ?_ ?_ ?_
              · rfl
              · rfl
              apply Exists.intro
              refine ⟨fun w' hC => ?_, ?_⟩
              · subst hC
                go_simp
                rfl
              try simp only [Act.put, List.setIfInBounds_toArray, List.set_cons_zero, List.set_cons_succ, List.tail_cons]
              with_reducible refine mix_v ?_ ?_ ?_
              · rfl
              · rfl
              apply Exists.intro
              refine ⟨fun w' hC => ?_, ?_⟩
              · subst hC
                go_simp
                rfl
              try simp only [Act.put, List.setIfInBounds_toArray, List.set_cons_zero, List.set_cons_succ, List.tail_cons]
              with_reducible refine mix_v ?_ ?_ ?_
              · rfl
              · rfl
              apply Exists.intro
              refine ⟨fun w' hC => ?_, ?_⟩
              · subst hC
                go_simp
                rfl
              try simp only [Act.put, List.setIfInBounds_toArray, List.set_cons_zero, List.set_cons_succ, List.tail_cons]
              with_reducible refine mix_v ?_ ?_ ?_
              · rfl
              · rfl
              apply Exists.intro
              refine ⟨fun w' hC => ?_, ?_⟩
              · subst hC
                go_simp
                rfl
              try simp only [Act.put, List.setIfInBounds_toArray, List.set_cons_zero, List.set_cons_succ, List.tail_cons]
              with_reducible refine mix_v ?_ ?_ ?_
              · rfl
              · rfl
              apply Exists.intro
              refine ⟨fun w' hC => ?_, ?_⟩
              · subst hC
                go_simp
                rfl
              try simp only [Act.put, List.setIfInBounds_toArray, List.set_cons_zero, List.set_cons_succ, List.tail_cons]
              refine mix_nil ?_
              rintro _ rfl
              go_wp2_with fail
              refine region_quiet (fun w' => w' = World.drew _) (by kernel_rfl) (by kernel_rfl) rfl ?_
              with_reducible refine mix_v ?_ ?_ ?_
              · rfl
              · rfl
              apply Exists.intro
              refine ⟨fun w' hC => ?_, ?_⟩
              · subst hC
                go_simp
                rfl
              try simp only [Act.put, List.setIfInBounds_toArray, List.set_cons_zero, List.set_cons_succ, List.tail_cons]
              with_reducible refine mix_v ?_ ?_ ?_
              · rfl
              · rfl
              apply Exists.intro
              refine ⟨fun w' hC => ?_, ?_⟩
              · subst hC
                go_simp
                rfl
              try simp only [Act.put, List.setIfInBounds_toArray, List.set_cons_zero, List.set_cons_succ, List.tail_cons]
              with_reducible refine mix_v ?_ ?_ ?_
              · rfl
              · rfl
              apply Exists.intro
              refine ⟨fun w' hC => ?_, ?_⟩
              · subst hC
                go_simp
                rfl
              try simp only [Act.put, List.setIfInBounds_toArray, List.set_cons_zero, List.set_cons_succ, List.tail_cons]
              with_reducible refine mix_v ?_ ?_ ?_
              · rfl
              · rfl
              apply Exists.intro
              refine ⟨fun w' hC => ?_, ?_⟩
              · subst hC
                go_simp
                rfl
              try simp only [Act.put, List.setIfInBounds_toArray, List.set_cons_zero, List.set_cons_succ, List.tail_cons]
              with_reducible refine mix_v ?_ ?_ ?_
              · rfl
              · rfl
              apply Exists.intro
              refine ⟨fun w' hC => ?_, ?_⟩
              · subst hC
                go_simp
                rfl
              try simp only [Act.put, List.setIfInBounds_toArray, List.set_cons_zero, List.set_cons_succ, List.tail_cons]
              with_reducible refine mix_v ?_ ?_ ?_
              · rfl
              · rfl
              apply Exists.intro
              refine ⟨fun w' hC => ?_, ?_⟩
              · subst hC
                go_simp
                rfl
              try simp only [Act.put, List.setIfInBounds_toArray, List.set_cons_zero, List.set_cons_succ, List.tail_cons]
              with_reducible refine mix_v ?_ ?_ ?_
              · rfl
              · rfl
              apply Exists.intro
              refine ⟨fun w' hC => ?_, ?_⟩
              · subst hC
                go_simp
                rfl
              try simp only [Act.put, List.setIfInBounds_toArray, List.set_cons_zero, List.set_cons_succ, List.tail_cons]
              with_reducible refine mix_v ?_ ?_ ?_
              · rfl
              · rfl
              apply Exists.intro
              refine ⟨fun w' hC => ?_, ?_⟩
              · subst hC
                go_simp
                rfl
              try simp only [Act.put, List.setIfInBounds_toArray, List.set_cons_zero, List.set_cons_succ, List.tail_cons]
              first
                | (with_reducible refine mix_s ?_ ?_ ?_
                   · rfl
                   · rfl)
                | (with_reducible refine mix_v ?_ ?_ ?_
                   · rfl
                   · rfl
                   apply Exists.intro
                   refine ⟨fun w' hC => ?_, ?_⟩
                   · subst hC
                     go_simp
                     rfl)
              try simp only [Act.put, List.setIfInBounds_toArray, List.set_cons_zero, List.set_cons_succ, List.tail_cons]
              first
                | (with_reducible refine mix_s ?_ ?_ ?_
                   · rfl
                   · rfl)
                | (with_reducible refine mix_v ?_ ?_ ?_
                   · rfl
                   · rfl
                   apply Exists.intro
                   refine ⟨fun w' hC => ?_, ?_⟩
                   · subst hC
                     go_simp
                     rfl)
              try simp only [Act.put, List.setIfInBounds_toArray, List.set_cons_zero, List.set_cons_succ, List.tail_cons]
              first
                | (with_reducible refine mix_s ?_ ?_ ?_
                   · rfl
                   · rfl)
                | (with_reducible refine mix_v ?_ ?_ ?_
                   · rfl
                   · rfl
                   apply Exists.intro
                   refine ⟨fun w' hC => ?_, ?_⟩
                   · subst hC
                     go_simp
                     rfl)
              try simp only [Act.put, List.setIfInBounds_toArray, List.set_cons_zero, List.set_cons_succ, List.tail_cons]
              first
                | (with_reducible refine mix_s ?_ ?_ ?_
                   · rfl
                   · rfl)
                | (with_reducible refine mix_v ?_ ?_ ?_
                   · rfl
                   · rfl
                   apply Exists.intro
                   refine ⟨fun w' hC => ?_, ?_⟩
                   · subst hC
                     go_simp
                     rfl)
              try simp only [Act.put, List.setIfInBounds_toArray, List.set_cons_zero, List.set_cons_succ, List.tail_cons]
              first
                | (with_reducible refine mix_s ?_ ?_ ?_
                   · rfl
                   · rfl)
                | (with_reducible refine mix_v ?_ ?_ ?_
                   · rfl
                   · rfl
                   apply Exists.intro
                   refine ⟨fun w' hC => ?_, ?_⟩
                   · subst hC
                     go_simp
                     rfl)
              try simp only [Act.put, List.setIfInBounds_toArray, List.set_cons_zero, List.set_cons_succ, List.tail_cons]
              first
                | (with_reducible refine mix_s ?_ ?_ ?_
                   · rfl
                   · rfl)
                | (with_reducible refine mix_v ?_ ?_ ?_
                   · rfl
                   · rfl
                   apply Exists.intro
                   refine ⟨fun w' hC => ?_, ?_⟩
                   · subst hC
                     go_simp
                     rfl)
              try simp only [Act.put, List.setIfInBounds_toArray, List.set_cons_zero, List.set_cons_succ, List.tail_cons]
              first
                | (with_reducible refine mix_s ?_ ?_ ?_
                   · rfl
                   · rfl)
                | (with_reducible refine mix_v ?_ ?_ ?_
                   · rfl
                   · rfl
                   apply Exists.intro
                   refine ⟨fun w' hC => ?_, ?_⟩
                   · subst hC
                     go_simp
                     rfl)
              try simp only [Act.put, List.setIfInBounds_toArray, List.set_cons_zero, List.set_cons_succ, List.tail_cons]
              first
                | (with_reducible refine mix_s ?_ ?_ ?_
                   · rfl
                   · rfl)
                | (with_reducible refine mix_v ?_ ?_ ?_
                   · rfl
                   · rfl
                   apply Exists.intro
                   refine ⟨fun w' hC => ?_, ?_⟩
                   · subst hC
                     go_simp
                     rfl)
              try simp only [Act.put, List.setIfInBounds_toArray, List.set_cons_zero, List.set_cons_succ, List.tail_cons]
              first
                | (with_reducible refine mix_s ?_ ?_ ?_
                   · rfl
                   · rfl)
                | (with_reducible refine mix_v ?_ ?_ ?_
                   · rfl
                   · rfl
                   apply Exists.intro
                   refine ⟨fun w' hC => ?_, ?_⟩
                   · subst hC
                     go_simp
                     rfl)
              try simp only [Act.put, List.setIfInBounds_toArray, List.set_cons_zero, List.set_cons_succ, List.tail_cons]
              first
                | (with_reducible refine mix_s ?_ ?_ ?_
                   · rfl
                   · rfl)
                | (with_reducible refine mix_v ?_ ?_ ?_
                   · rfl
                   · rfl
                   apply Exists.intro
                   refine ⟨fun w' hC => ?_, ?_⟩
                   · subst hC
                     go_simp
                     rfl)
              try simp only [Act.put, List.setIfInBounds_toArray, List.set_cons_zero, List.set_cons_succ, List.tail_cons]
              first
                | (with_reducible refine mix_s ?_ ?_ ?_
                   · rfl
                   · rfl)
                | (with_reducible refine mix_v ?_ ?_ ?_
                   · rfl
                   · rfl
                   apply Exists.intro
                   refine ⟨fun w' hC => ?_, ?_⟩
                   · subst hC
                     go_simp
                     rfl)
              try simp only [Act.put, List.setIfInBounds_toArray, List.set_cons_zero, List.set_cons_succ, List.tail_cons]
              with_reducible refine mix_v ?_ ?_ ?_
              · rfl
              · rfl
              apply Exists.intro
              refine ⟨fun w' hC => ?_, ?_⟩
              · subst hC
                go_simp
                rfl
              try simp only [Act.put, List.setIfInBounds_toArray, List.set_cons_zero, List.set_cons_succ, List.tail_cons]
              refine mix_nil ?_
              rintro _ rfl
              go_wp2_with fail
              go_roundw
              case rel => exact Fin.out 1 _ _ rfl HC.out.symm
              case measure => simp [intOf]; omega
          · have h4 : cyc subHi a b k = 0 := by have := cyc_sub_le a b k; omega
            have hc : cyc subHi a b (k + 1) = 0 := (cyc_succ _ _ _ _).trans (sub_zero (by omega))
            obtain ⟨f1, f2, f3⟩ := ne1_facts h4
            have HC := Lib.hid hc
            have H2 := Lib.hid h2
            clear hc h2 h3 h4
            as_aux_lemma =>
              go_wp2_with fail
              refine region_mix 11 [false, false, false, false, false, false, false, false, false, false, false] (fun w' => w' = World.drew _) (by kernel_rfl) (by kernel_rfl) (by intro _ _ d _ _ h; cases d <;> exact h) rfl ?_
              simp only [List.take_succ_cons, List.take_zero, List.drop_succ_cons, List.drop_zero]
              with_reducible refine mix_v ?_ ?_ ?_
              · rfl
              · rfl
              apply Exists.intro
              refine ⟨fun w' hC => ?_, ?_⟩
              · subst hC
                go_simp
                rfl
              try simp only [Act.put, List.setIfInBounds_toArray, List.set_cons_zero, List.set_cons_succ, List.tail_cons]
              with_reducible refine mix_v ?_ ?_ ?_
              · rfl
              · rfl
              apply Exists.intro
              refine ⟨fun w' hC => ?_, ?_⟩
              · subst hC
                go_simp
                rfl
              try simp only [Act.put, List.setIfInBounds_toArray, List.set_cons_zero, List.set_cons_succ, List.tail_cons]
              with_reducible refine mix_v ?_ ?_ ?_
              · rfl
              · rfl
              apply Exists.intro
              refine ⟨fun w' hC => ?_, ?_⟩
              · subst hC
                go_simp
                rfl
              try simp only [Act.put, List.setIfInBounds_toArray, List.set_cons_zero, List.set_cons_succ, List.tail_cons]
              with_reducible refine mix_v ?_ ?_ ?_
              · rfl
              · rfl
              apply Exists.intro
              refine ⟨fun w' hC => ?_, ?_⟩
              · subst hC
                go_simp
                rfl
              try simp only [Act.put, List.setIfInBounds_toArray, List.set_cons_zero, List.set_cons_succ, List.tail_cons]
              with_reducible refine mix_v ?_ ?_ ?_
              · rfl
              · rfl
              apply Exists.intro
              refine ⟨fun w' hC => ?_, ?_⟩
              · subst hC
                go_simp
                rfl
              try simp only [Act.put, List.setIfInBounds_toArray, List.set_cons_zero, List.set_cons_succ, List.tail_cons]
              with_reducible refine mix_v ?_ ?_ ?_
              · rfl
              · rfl
              apply Exists.intro
              refine ⟨fun w' hC => ?_, ?_⟩
              · subst hC
                go_simp
                rfl
              try simp only [Act.put, List.setIfInBounds_toArray, List.set_cons_zero, List.set_cons_succ, List.tail_cons]
              with_reducible refine mix_v ?_ ?_ ?_
              · rfl
              · rfl
              apply Exists.intro
              refine ⟨fun w' hC => ?_, ?_⟩
              · subst hC
                go_simp
                rfl
              try simp only [Act.put, List.setIfInBounds_toArray, List.set_cons_zero, List.set_cons_succ, List.tail_cons]
              with_reducible refine mix_v ?_ ?_ ?_
              · rfl
              · rfl
              apply Exists.intro
              refine ⟨fun w' hC => ?_, ?_⟩
              · subst hC
                go_simp
                rfl
              try simp only [Act.put, List.setIfInBounds_toArray, List.set_cons_zero, List.set_cons_succ, List.tail_cons]
              with_reducible refine mix_v ?_ ?_ ?_
              · rfl
              · rfl
              apply Exists.intro
              refine ⟨fun w' hC => ?_, ?_⟩
              · subst hC
                go_simp
                rfl
              try simp only [Act.put, List.setIfInBounds_toArray, List.set_cons_zero, List.set_cons_succ, List.tail_cons]
              with_reducible refine mix_v ?_ ?_ ?_
              · rfl
              · rfl
              apply Exists.intro
              refine ⟨fun w' hC => ?_, ?_⟩
              · subst hC
                go_simp
                rfl
              try simp only [Act.put, List.setIfInBounds_toArray, List.set_cons_zero, List.set_cons_succ, List.tail_cons]
              with_reducible refine mix_v ?_ ?_ ?_
              · rfl
              · rfl
              apply Exists.intro
              refine ⟨fun w' hC => ?_, ?_⟩
              · subst hC
                go_simp
                rfl
              try simp only [Act.put, List.setIfInBounds_toArray, List.set_cons_zero, List.set_cons_succ, List.tail_cons]
              refine mix_nil ?_
              rintro _ rfl
              go_wp2_with fail
              refine region_quiet (fun w' => w' = World.drew _) (by kernel_rfl) (by kernel_rfl) rfl ?_
              with_reducible refine mix_v ?_ ?_ ?_
              · rfl
              · rfl
              apply Exists.intro
              refine ⟨fun w' hC => ?_, ?_⟩
              · subst hC
                go_simp
                rfl
              try simp only [Act.put, List.setIfInBounds_toArray, List.set_cons_zero, List.set_cons_succ, List.tail_cons]
              with_reducible refine mix_v ?_ ?_ ?_
              · rfl
              · rfl
              apply Exists.intro
              refine ⟨fun w' hC => ?_, ?_⟩
              · subst hC
                go_simp
                rfl
              try simp only [Act.put, List.setIfInBounds_toArray, List.set_cons_zero, List.set_cons_succ, List.tail_cons]
              with_reducible refine mix_v ?_ ?_ ?_
              · rfl
              · rfl
              apply Exists.intro
              refine ⟨fun w' hC => ?_, ?_⟩
              · subst hC
                go_simp
                rfl
              try simp only [Act.put, List.setIfInBounds_toArray, List.set_cons_zero, List.set_cons_succ, List.tail_cons]
              with_reducible refine mix_v ?_ ?_ ?_
              · rfl
              · rfl
              apply Exists.intro
              refine ⟨fun w' hC => ?_, ?_⟩
              · subst hC
                go_simp
                rfl
              try simp only [Act.put, List.setIfInBounds_toArray, List.set_cons_zero, List.set_cons_succ, List.tail_cons]
              with_reducible refine mix_v ?_ ?_ ?_
              · rfl
              · rfl
              apply Exists.intro
              refine ⟨fun w' hC => ?_, ?_⟩
              · subst hC
                go_simp
                rfl
              try simp only [Act.put, List.setIfInBounds_toArray, List.set_cons_zero, List.set_cons_succ, List.tail_cons]
              with_reducible refine mix_v ?_ ?_ ?_
              · rfl
              · rfl
              apply Exists.intro
              refine ⟨fun w' hC => ?_, ?_⟩
              · subst hC
                go_simp
                rfl
              try simp only [Act.put, List.setIfInBounds_toArray, List.set_cons_zero, List.set_cons_succ, List.tail_cons]
              with_reducible refine mix_v ?_ ?_ ?_
              · rfl
              · rfl
              apply Exists.intro
              refine ⟨fun w' hC => ?_, ?_⟩
              · subst hC
                go_simp
                rfl
              try simp only [Act.put, List.setIfInBounds_toArray, List.set_cons_zero, List.set_cons_succ, List.tail_cons]
              with_reducible refine mix_v ?_ ?_ ?_
              · rfl
              · rfl
              apply Exists.intro
              refine ⟨fun w' hC => ?_, ?_⟩
              · subst hC
                go_simp
                rfl
              try simp only [Act.put, List.setIfInBounds_toArray, List.set_cons_zero, List.set_cons_succ, List.tail_cons]
              first
                | (with_reducible refine mix_s ?_ ?_ ?_
                   · rfl
                   · rfl)
                | (with_reducible refine mix_v ?_ ?_ ?_
                   · rfl
                   · rfl
                   apply Exists.intro
                   refine ⟨fun w' hC => ?_, ?_⟩
                   · subst hC
                     go_simp
                     rfl)
              try simp only [Act.put, List.setIfInBounds_toArray, List.set_cons_zero, List.set_cons_succ, List.tail_cons]
              first
                | (with_reducible refine mix_s ?_ ?_ ?_
                   · rfl
                   · rfl)
                | (with_reducible refine mix_v ?_ ?_ ?_
                   · rfl
                   · rfl
                   apply Exists.intro
                   refine ⟨fun w' hC => ?_, ?_⟩
                   · subst hC
                     go_simp
                     rfl)
              try simp only [Act.put, List.setIfInBounds_toArray, List.set_cons_zero, List.set_cons_succ, List.tail_cons]
              first
                | (with_reducible refine mix_s ?_ ?_ ?_
                   · rfl
                   · rfl)
                | (with_reducible refine mix_v ?_ ?_ ?_
                   · rfl
                   · rfl
                   apply Exists.intro
                   refine ⟨fun w' hC => ?_, ?_⟩
                   · subst hC
                     go_simp
                     rfl)
              try simp only [Act.put, List.setIfInBounds_toArray, List.set_cons_zero, List.set_cons_succ, List.tail_cons]
              first
                | (with_reducible refine mix_s ?_ ?_ ?_
                   · rfl
                   · rfl)
                | (with_reducible refine mix_v ?_ ?_ ?_
                   · rfl
                   · rfl
                   apply Exists.intro
                   refine ⟨fun w' hC => ?_, ?_⟩
                   · subst hC
                     go_simp
                     rfl)
              try simp only [Act.put, List.setIfInBounds_toArray, List.set_cons_zero, List.set_cons_succ, List.tail_cons]
              first
                | (with_reducible refine mix_s ?_ ?_ ?_
                   · rfl
                   · rfl)
                | (with_reducible refine mix_v ?_ ?_ ?_
                   · rfl
                   · rfl
                   apply Exists.intro
                   refine ⟨fun w' hC => ?_, ?_⟩
                   · subst hC
                     go_simp
                     rfl)
              try simp only [Act.put, List.setIfInBounds_toArray, List.set_cons_zero, List.set_cons_succ, List.tail_cons]
              first
                | (with_reducible refine mix_s ?_ ?_ ?_
                   · rfl
                   · rfl)
                | (with_reducible refine mix_v ?_ ?_ ?_
                   · rfl
                   · rfl
                   apply Exists.intro
                   refine ⟨fun w' hC => ?_, ?_⟩
                   · subst hC
                     go_simp
                     rfl)
              try simp only [Act.put, List.setIfInBounds_toArray, List.set_cons_zero, List.set_cons_succ, List.tail_cons]
              first
                | (with_reducible refine mix_s ?_ ?_ ?_
                   · rfl
                   · rfl)
                | (with_reducible refine mix_v ?_ ?_ ?_
                   · rfl
                   · rfl
                   apply Exists.intro
                   refine ⟨fun w' hC => ?_, ?_⟩
                   · subst hC
                     go_simp
                     rfl)
              try simp only [Act.put, List.setIfInBounds_toArray, List.set_cons_zero, List.set_cons_succ, List.tail_cons]
              first
                | (with_reducible refine mix_s ?_ ?_ ?_
                   · rfl
                   · rfl)
                | (with_reducible refine mix_v ?_ ?_ ?_
                   · rfl
                   · rfl
                   apply Exists.intro
                   refine ⟨fun w' hC => ?_, ?_⟩
                   · subst hC
                     go_simp
                     rfl)
              try simp only [Act.put, List.setIfInBounds_toArray, List.set_cons_zero, List.set_cons_succ, List.tail_cons]
              first
                | (with_reducible refine mix_s ?_ ?_ ?_
                   · rfl
                   · rfl)
                | (with_reducible refine mix_v ?_ ?_ ?_
                   · rfl
                   · rfl
                   apply Exists.intro
                   refine ⟨fun w' hC => ?_, ?_⟩
                   · subst hC
                     go_simp
                     rfl)
              try simp only [Act.put, List.setIfInBounds_toArray, List.set_cons_zero, List.set_cons_succ, List.tail_cons]
              first
                | (with_reducible refine mix_s ?_ ?_ ?_
                   · rfl
                   · rfl)
                | (with_reducible refine mix_v ?_ ?_ ?_
                   · rfl
                   · rfl
                   apply Exists.intro
                   refine ⟨fun w' hC => ?_, ?_⟩
                   · subst hC
                     go_simp
                     rfl)
              try simp only [Act.put, List.setIfInBounds_toArray, List.set_cons_zero, List.set_cons_succ, List.tail_cons]
              first
                | (with_reducible refine mix_s ?_ ?_ ?_
                   · rfl
                   · rfl)
                | (with_reducible refine mix_v ?_ ?_ ?_
                   · rfl
                   · rfl
                   apply Exists.intro
                   refine ⟨fun w' hC => ?_, ?_⟩
                   · subst hC
                     go_simp
                     rfl)
              try simp only [Act.put, List.setIfInBounds_toArray, List.set_cons_zero, List.set_cons_succ, List.tail_cons]
              with_reducible refine mix_v ?_ ?_ ?_
              · rfl
              · rfl
              apply Exists.intro
              refine ⟨fun w' hC => ?_, ?_⟩
              · subst hC
                go_simp
                rfl
              try simp only [Act.put, List.setIfInBounds_toArray, List.set_cons_zero, List.set_cons_succ, List.tail_cons]
              refine mix_nil ?_
              rintro _ rfl
              go_wp2_with fail
              go_roundw
              case rel => exact Fin.out 0 _ _ rfl HC.out.symm
              case measure => simp [intOf]; omega
        · have h5 : dg k b < dg k a := by omega
          have hc : cyc subHi a b (k + 1) = 0 := (cyc_succ _ _ _ _).trans (sub_zero (by have := cyc_sub_le a b k; omega))
          obtain ⟨e1, e2, e3⟩ := ne_facts h2
          have HC := Lib.hid hc
          clear hc h2 h5
          as_aux_lemma =>
            go_wp2_with fail
            refine region_mix 11 [false, false, false, false, false, false, false, false, false, false, false] (fun w' => w' = World.drew _) (by kernel_rfl) (by kernel_rfl) (by intro _ _ d _ _ h; cases d <;> exact h) rfl ?_
            simp only [List.take_succ_cons, List.take_zero, List.drop_succ_cons, List.drop_zero]
            with_reducible refine mix_v ?_ ?_ ?_
            · rfl
            · rfl
            apply Exists.intro
            refine ⟨fun w' hC => ?_, ?_⟩
            · subst hC
              go_simp
              rfl
            try simp only [Act.put, List.setIfInBounds_toArray, List.set_cons_zero, List.set_cons_succ, List.tail_cons]
            with_reducible refine mix_v ?_ ?_ ?_
            · rfl
            · rfl
            apply Exists.intro
            refine ⟨fun w' hC => ?_, ?_⟩
            · subst hC
              go_simp
              rfl
            try simp only [Act.put, List.setIfInBounds_toArray, List.set_cons_zero, List.set_cons_succ, List.tail_cons]
            with_reducible refine mix_v ?_ ?_ ?_
            · rfl
            · rfl
            apply Exists.intro
            refine ⟨fun w' hC => ?_, ?_⟩
            · subst hC
              go_simp
              rfl
            try simp only [Act.put, List.setIfInBounds_toArray, List.set_cons_zero, List.set_cons_succ, List.tail_cons]
            with_reducible refine mix_v ?_ ?_ ?_
            · rfl
            · rfl
            apply Exists.intro
            refine ⟨fun w' hC => ?_, ?_⟩
            · subst hC
              go_simp
              rfl
            try simp only [Act.put, List.setIfInBounds_toArray, List.set_cons_zero, List.set_cons_succ, List.tail_cons]
            with_reducible refine mix_v ?_ ?_ ?_
            · rfl
            · rfl
            apply Exists.intro
            refine ⟨fun w' hC => ?_, ?_⟩
            · subst hC
              go_simp
              rfl
            try simp only [Act.put, List.setIfInBounds_toArray, List.set_cons_zero, List.set_cons_succ, List.tail_cons]
            with_reducible refine mix_v ?_ ?_ ?_
            · rfl
            · rfl
            apply Exists.intro
            refine ⟨fun w' hC => ?_, ?_⟩
            · subst hC
              go_simp
              rfl
            try simp only [Act.put, List.setIfInBounds_toArray, List.set_cons_zero, List.set_cons_succ, List.tail_cons]
            with_reducible refine mix_v ?_ ?_ ?_
            · rfl
            · rfl
            apply Exists.intro
            refine ⟨fun w' hC => ?_, ?_⟩
            · subst hC
              go_simp
              rfl
            try simp only [Act.put, List.setIfInBounds_toArray, List.set_cons_zero, List.set_cons_succ, List.tail_cons]
            with_reducible refine mix_v ?_ ?_ ?_
            · rfl
            · rfl
            apply Exists.intro
            refine ⟨fun w' hC => ?_, ?_⟩
            · subst hC
              go_simp
              rfl
            try simp only [Act.put, List.setIfInBounds_toArray, List.set_cons_zero, List.set_cons_succ, List.tail_cons]
            with_reducible refine mix_v ?_ ?_ ?_
            · rfl
            · rfl
            apply Exists.intro
            refine ⟨fun w' hC => ?_, ?_⟩
            · subst hC
              go_simp
              rfl
            try simp only [Act.put, List.setIfInBounds_toArray, List.set_cons_zero, List.set_cons_succ, List.tail_cons]
            with_reducible refine mix_v ?_ ?_ ?_
            · rfl
            · rfl
            apply Exists.intro
            refine ⟨fun w' hC => ?_, ?_⟩
            · subst hC
              go_simp
              rfl
            try simp only [Act.put, List.setIfInBounds_toArray, List.set_cons_zero, List.set_cons_succ, List.tail_cons]
            with_reducible refine mix_v ?_ ?_ ?_
            · rfl
            · rfl
            apply Exists.intro
            refine ⟨fun w' hC => ?_, ?_⟩
            · subst hC
              go_simp
              rfl
            try simp only [Act.put, List.setIfInBounds_toArray, List.set_cons_zero, List.set_cons_succ, List.tail_cons]
            refine mix_nil ?_
            rintro _ rfl
            go_wp2_with fail
            refine region_quiet (fun w' => w' = World.drew _) (by kernel_rfl) (by kernel_rfl) rfl ?_
            with_reducible refine mix_v ?_ ?_ ?_
            · rfl
            · rfl
            apply Exists.intro
            refine ⟨fun w' hC => ?_, ?_⟩
            · subst hC
              go_simp
              rfl
            try simp only [Act.put, List.setIfInBounds_toArray, List.set_cons_zero, List.set_cons_succ, List.tail_cons]
            with_reducible refine mix_v ?_ ?_ ?_
            · rfl
            · rfl
            apply Exists.intro
            refine ⟨fun w' hC => ?_, ?_⟩
            · subst hC
              go_simp
              rfl
            try simp only [Act.put, List.setIfInBounds_toArray, List.set_cons_zero, List.set_cons_succ, List.tail_cons]
            with_reducible refine mix_v ?_ ?_ ?_
            · rfl
            · rfl
            apply Exists.intro
            refine ⟨fun w' hC => ?_, ?_⟩
            · subst hC
              go_simp
              rfl
            try simp only [Act.put, List.setIfInBounds_toArray, List.set_cons_zero, List.set_cons_succ, List.tail_cons]
            with_reducible refine mix_v ?_ ?_ ?_
            · rfl
            · rfl
            apply Exists.intro
            refine ⟨fun w' hC => ?_, ?_⟩
            · subst hC
              go_simp
              rfl
            try simp only [Act.put, List.setIfInBounds_toArray, List.set_cons_zero, List.set_cons_succ, List.tail_cons]
            with_reducible refine mix_v ?_ ?_ ?_
            · rfl
            · rfl
            apply Exists.intro
            refine ⟨fun w' hC => ?_, ?_⟩
            · subst hC
              go_simp
              rfl
            try simp only [Act.put, List.setIfInBounds_toArray, List.set_cons_zero, List.set_cons_succ, List.tail_cons]
            with_reducible refine mix_v ?_ ?_ ?_
            · rfl
            · rfl
            apply Exists.intro
            refine ⟨fun w' hC => ?_, ?_⟩
            · subst hC
              go_simp
              rfl
            try simp only [Act.put, List.setIfInBounds_toArray, List.set_cons_zero, List.set_cons_succ, List.tail_cons]
            with_reducible refine mix_v ?_ ?_ ?_
            · rfl
            · rfl
            apply Exists.intro
            refine ⟨fun w' hC => ?_, ?_⟩
            · subst hC
              go_simp
              rfl
            try simp only [Act.put, List.setIfInBounds_toArray, List.set_cons_zero, List.set_cons_succ, List.tail_cons]
            with_reducible refine mix_v ?_ ?_ ?_
            · rfl
            · rfl
            apply Exists.intro
            refine ⟨fun w' hC => ?_, ?_⟩
            · subst hC
              go_simp
              rfl
            try simp only [Act.put, List.setIfInBounds_toArray, List.set_cons_zero, List.set_cons_succ, List.tail_cons]
            first
              | (with_reducible refine mix_s ?_ ?_ ?_
                 · rfl
                 · rfl)
              | (with_reducible refine mix_v ?_ ?_ ?_
                 · rfl
                 · rfl
                 apply Exists.intro
                 refine ⟨fun w' hC => ?_, ?_⟩
                 · subst hC
                   go_simp
                   rfl)
            try simp only [Act.put, List.setIfInBounds_toArray, List.set_cons_zero, List.set_cons_succ, List.tail_cons]
            first
              | (with_reducible refine mix_s ?_ ?_ ?_
                 · rfl
                 · rfl)
              | (with_reducible refine mix_v ?_ ?_ ?_
                 · rfl
                 · rfl
                 apply Exists.intro
                 refine ⟨fun w' hC => ?_, ?_⟩
                 · subst hC
                   go_simp
                   rfl)
            try simp only [Act.put, List.setIfInBounds_toArray, List.set_cons_zero, List.set_cons_succ, List.tail_cons]
            first
              | (with_reducible refine mix_s ?_ ?_ ?_
                 · rfl
                 · rfl)
              | (with_reducible refine mix_v ?_ ?_ ?_
                 · rfl
                 · rfl
                 apply Exists.intro
                 refine ⟨fun w' hC => ?_, ?_⟩
                 · subst hC
                   go_simp
                   rfl)
            try simp only [Act.put, List.setIfInBounds_toArray, List.set_cons_zero, List.set_cons_succ, List.tail_cons]
            first
              | (with_reducible refine mix_s ?_ ?_ ?_
                 · rfl
                 · rfl)
              | (with_reducible refine mix_v ?_ ?_ ?_
                 · rfl
                 · rfl
                 apply Exists.intro
                 refine ⟨fun w' hC => ?_, ?_⟩
                 · subst hC
                   go_simp
                   rfl)
            try simp only [Act.put, List.setIfInBounds_toArray, List.set_cons_zero, List.set_cons_succ, List.tail_cons]
            first
              | (with_reducible refine mix_s ?_ ?_ ?_
                 · rfl
                 · rfl)
              | (with_reducible refine mix_v ?_ ?_ ?_
                 · rfl
                 · rfl
                 apply Exists.intro
                 refine ⟨fun w' hC => ?_, ?_⟩
                 · subst hC
                   go_simp
                   rfl)
            try simp only [Act.put, List.setIfInBounds_toArray, List.set_cons_zero, List.set_cons_succ, List.tail_cons]
            first
              | (with_reducible refine mix_s ?_ ?_ ?_
                 · rfl
                 · rfl)
              | (with_reducible refine mix_v ?_ ?_ ?_
                 · rfl
                 · rfl
                 apply Exists.intro
                 refine ⟨fun w' hC => ?_, ?_⟩
                 · subst hC
                   go_simp
                   rfl)
            try simp only [Act.put, List.setIfInBounds_toArray, List.set_cons_zero, List.set_cons_succ, List.tail_cons]
            first
              | (with_reducible refine mix_s ?_ ?_ ?_
                 · rfl
                 · rfl)
              | (with_reducible refine mix_v ?_ ?_ ?_
                 · rfl
                 · rfl
                 apply Exists.intro
                 refine ⟨fun w' hC => ?_, ?_⟩
                 · subst hC
                   go_simp
                   rfl)
            try simp only [Act.put, List.setIfInBounds_toArray, List.set_cons_zero, List.set_cons_succ, List.tail_cons]
            first
              | (with_reducible refine mix_s ?_ ?_ ?_
                 · rfl
                 · rfl)
              | (with_reducible refine mix_v ?_ ?_ ?_
                 · rfl
                 · rfl
                 apply Exists.intro
                 refine ⟨fun w' hC => ?_, ?_⟩
                 · subst hC
                   go_simp
                   rfl)
            try simp only [Act.put, List.setIfInBounds_toArray, List.set_cons_zero, List.set_cons_succ, List.tail_cons]
            first
              | (with_reducible refine mix_s ?_ ?_ ?_
                 · rfl
                 · rfl)
              | (with_reducible refine mix_v ?_ ?_ ?_
                 · rfl
                 · rfl
                 apply Exists.intro
                 refine ⟨fun w' hC => ?_, ?_⟩
                 · subst hC
                   go_simp
                   rfl)
            try simp only [Act.put, List.setIfInBounds_toArray, List.set_cons_zero, List.set_cons_succ, List.tail_cons]
            first
              | (with_reducible refine mix_s ?_ ?_ ?_
                 · rfl
                 · rfl)
              | (with_reducible refine mix_v ?_ ?_ ?_
                 · rfl
                 · rfl
                 apply Exists.intro
                 refine ⟨fun w' hC => ?_, ?_⟩
                 · subst hC
                   go_simp
                   rfl)
            try simp only [Act.put, List.setIfInBounds_toArray, List.set_cons_zero, List.set_cons_succ, List.tail_cons]
            first
              | (with_reducible refine mix_s ?_ ?_ ?_
                 · rfl
                 · rfl)
              | (with_reducible refine mix_v ?_ ?_ ?_
                 · rfl
                 · rfl
                 apply Exists.intro
                 refine ⟨fun w' hC => ?_, ?_⟩
                 · subst hC
                   go_simp
                   rfl)
            try simp only [Act.put, List.setIfInBounds_toArray, List.set_cons_zero, List.set_cons_succ, List.tail_cons]
            with_reducible refine mix_v ?_ ?_ ?_
            · rfl
            · rfl
            apply Exists.intro
            refine ⟨fun w' hC => ?_, ?_⟩
            · subst hC
              go_simp
              rfl
            try simp only [Act.put, List.setIfInBounds_toArray, List.set_cons_zero, List.set_cons_succ, List.tail_cons]
            refine mix_nil ?_
            rintro _ rfl
            go_wp2_with fail
            go_roundw
            case rel => exact Fin.out 0 _ _ rfl HC.out.symm
            case measure => simp [intOf]; omega
    · have h4 : k = 4 := by omega
      have hv : vec (subV a b) = .agg (ows subLo subHi a b k).toArray := by subst h4; rw [← he.out.1, ow_vec subLo_lt]
      have hc : subC a b = cyc subHi a b k := by subst h4; rw [← he.out.2, chC_cyc]
      simp only [ows] at hv
      generalize cyc subHi a b k = c at hc ⊢
      generalize ow subLo subHi a b 0 k = o0 at hv ⊢
      generalize ow subLo subHi a b 1 k = o1 at hv ⊢
      generalize ow subLo subHi a b 2 k = o2 at hv ⊢
      generalize ow subLo subHi a b 3 k = o3 at hv ⊢
      have Hv := Lib.hid hv
      have Hc := Lib.hid hc
      clear hv hc
      clear he hk hk4
      subst h4
      go_wp2_with fail
      rw [Hv.out, Hc.out]
      refine bodyPost_ret (v := .tuple #[.agg #[.int .u64 (o0 : Int), .int .u64 (o1 : Int), .int .u64 (o2 : Int), .int .u64 (o3 : Int)], .int .u64 (c : Int)]) (by simp only [results, Tryd.results126]; go_simp) rfl ⟨rfl, ?_⟩
      repeat first
        | with_reducible exact Below.refl _ _
        | with_reducible refine Below.drew ?_
        | with_reducible refine below_dN ?_
        | with_reducible refine Below.alloc ?_ (by first | omega | (simp; done) | (simp; omega)) _
        | with_reducible refine Below.setCell ?_ (by first | omega | (simp; done) | (simp; omega)) _
        | with_reducible refine Below.trans ?_ (Below.mono (by assumption) (by first | omega | (simp; done) | (simp; omega)))
end Go.Proofs.YtpggmebgndkpjaaDoor
