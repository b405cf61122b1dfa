/- Contracts of the reference of layer 4: Sum, sub. -/
import Derived.Test.YtpggmebgndkpjaaDoorLeaf
import Derived.Test.YtpggmebgndkpjaaDoorRegion
namespace Go.Proofs.YtpggmebgndkpjaaDoor
set_option linter.all false
open Go.RowKit

theorem digit_at (b k : Nat) (h : k < 4) : ∀ h' : k < ([.int .u64 ((dg 0 b : Nat) : Int), .int .u64 ((dg 1 b : Nat) : Int), .int .u64 ((dg 2 b : Nat) : Int), .int .u64 ((dg 3 b : Nat) : Int)] : List Value).length,
    ([.int .u64 ((dg 0 b : Nat) : Int), .int .u64 ((dg 1 b : Nat) : Int), .int .u64 ((dg 2 b : Nat) : Int), .int .u64 ((dg 3 b : Nat) : Int)] : List Value)[k]'h' = .int .u64 ((dg k b : Nat) : Int) := fun h' => by
  rcases k with _ | _ | _ | _ | k <;> first | rfl | omega

set_option maxRecDepth 100000 in
set_option maxHeartbeats 2000000 in
theorem refSum_c (a b : Nat) (ha : a < R4) (hb : b < R4) (w : World) :
    Calls Tryd.prog 120 #[vec a, vec b] w fun e w' => e = .returned (.tuple #[vec (addV a b), .int .u64 ((addC a b : Nat) : Int)]) ∧ Below w.heap.size w w' := by
  have he := Lib.hid (chain_add ha hb)
  have A2 := wrap_add
  clear ha hb
  go_enter Tryd.func120, Tryd.ntmps120
  go_wp2_with fail
  go_loopw [7, 8] (fun c i wr => ∃ (k : Nat), k ≤ 4 ∧ i = .int .i64 (k : Int) ∧ c = .int .u64 ((cyc addHi a b k : Nat) : Int) ∧ wr = (((((w.alloc
      (.cells #[.int .u64 ((dg 0 a : Nat) : Int), .int .u64 ((dg 1 a : Nat) : Int), .int .u64 ((dg 2 a : Nat) : Int), .int .u64 ((dg 3 a : Nat) : Int)] 44)).alloc
      (.cells #[.int .u64 ((dg 0 b : Nat) : Int), .int .u64 ((dg 1 b : Nat) : Int), .int .u64 ((dg 2 b : Nat) : Int), .int .u64 ((dg 3 b : Nat) : Int)] 44)).alloc
      (.cells #[.int .u64 0, .int .u64 0, .int .u64 0, .int .u64 0] 44)).alloc
      (.cells #[.int .u64 ((ow addLo addHi a b 0 k : Nat) : Int), .int .u64 ((ow addLo addHi a b 1 k : Nat) : Int), .int .u64 ((ow addLo addHi a b 2 k : Nat) : Int), .int .u64 ((ow addLo addHi a b 3 k : Nat) : Int)] 44)))) (fun _ i _ => 4 - (intOf i).toNat)
  case atStart => exact ⟨0, by omega, rfl, rfl, rfl⟩
  case round =>
    obtain ⟨k, hk4, rfl, rfl, rfl⟩ := hrel
    by_cases hk : k < 4
    · have d1 := digit_at a k hk
      have d2 := digit_at b k hk
      go_wp2_with fail
      all_goals go_roundw
      all_goals first
        | (simp [intOf]; omega)
        | (have e1 : cyc addHi a b (k + 1) = 1 := sum_one (dg_lt _ _) (dg_lt _ _) (cyc_add_le _ _ _) (by omega)
           exact ⟨k + 1, by omega, by go_num, by rw [e1]; rfl, by rw [ow_set hk (sum_lo _ _ _)]⟩)
        | (have e0 : cyc addHi a b (k + 1) = 0 := sum_zero (dg_lt _ _) (dg_lt _ _) (cyc_add_le _ _ _) (by omega) (by omega)
           exact ⟨k + 1, by omega, by go_num, by rw [e0]; rfl, by rw [ow_set hk (sum_lo _ _ _)]⟩)
    · obtain rfl : k = 4 := by omega
      go_wp2_with fail
      have hv := ow_vec (hi := addHi) addLo_lt a b
      rw [← he.out.1, ← he.out.2, hv, chC_cyc]
      refine bodyPost_ret (v := .tuple #[.agg (ows addLo addHi a b 4).toArray, .int .u64 ((cyc addHi a b 4 : Nat) : Int)]) (by simp only [results, Tryd.results120]; go_simp) rfl ⟨rfl, ?_⟩
      repeat first
        | with_reducible exact Below.refl _ _
        | with_reducible refine Below.drew ?_
        | with_reducible refine below_dN ?_
        | with_reducible refine Below.alloc ?_ (by first | omega | (simp; done) | (simp; omega)) _
        | with_reducible refine Below.setCell ?_ (by first | omega | (simp; done) | (simp; omega)) _
        | with_reducible refine Below.trans ?_ (Below.mono (by assumption) (by first | omega | (simp; done) | (simp; omega)))
end Go.Proofs.YtpggmebgndkpjaaDoor
