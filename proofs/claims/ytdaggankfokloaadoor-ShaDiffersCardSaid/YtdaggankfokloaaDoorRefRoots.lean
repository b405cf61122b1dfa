/- The contracts of the reference's root and constants. -/
import Derived.Test.YtdaggankfokloaaDoorRefRoot
import Derived.Test.YtdaggankfokloaaDoorConst
namespace Go.Proofs.YtdaggankfokloaaDoor
set_option linter.all false
open Go Go.RowKit

/-- What the loop of root finds: t bits are still open. -/
def rootL (above : Nat → Bool) : Nat → Nat → Nat | 0, x => x | t + 1, x => rootL above t (if above (x + 2 ^ t) then x else x + 2 ^ t)
def rootF (above : Nat → Bool) : Nat := rootL above 37 0 % 4294967296
def half : Nat → Nat | 0 => 0 | t + 1 => 2 ^ t


set_option maxRecDepth 100000 in
set_option maxHeartbeats 4000000 in
theorem root_cube (n : Nat) (hn : n < 1024) (w : World) :
    Calls Tryd.prog 25 #[.int .u64 (n : Int), .bool true] w fun e w' => e = .returned (.int .u32 ((rootF (fun y => cubeF y n) : Nat) : Int)) ∧ w = w' := by
  have Hn := Lib.hid hn
  obtain ⟨ab, hab⟩ : ∃ ab, ab = (fun y => cubeF y n) := ⟨_, rfl⟩
  have Hab : Hid (∀ (y : Nat) (w : World), y < 274877906944 → Calls Tryd.prog 30 #[.int .u64 (y : Int), .int .u64 (n : Int)] w fun e w' => e = .returned (.bool (ab y)) ∧ w = w') := fun y w hy => by have e := cube_c y n hy Hn.out w; rw [hab]; exact e
  rw [← hab]
  clear hab hn
  go_enter Tryd.func25, Tryd.ntmps25
  go_wp2_with fail
  go_loop [5, 6] (fun x b => ∃ y t : Nat, x = .int .u64 (y : Int) ∧ b = .int .u64 ((half t : Nat) : Int) ∧ Hid (y + 2 ^ t ≤ 137438953472 ∧ t ≤ 37 ∧ rootL ab 37 0 = rootL ab t y)) (fun _ b => (intOf b).toNat)
  case atStart => exact ⟨0, 37, rfl, rfl, by decide, by decide, rfl⟩
  case round =>
    obtain ⟨y, t, rfl, rfl, H⟩ := hrel
    rcases t with _ | t
    · have hy : y ≤ 137438953472 := by have := H.out.1; omega
      have e0 : ((half 0 : Nat) : Int) = 0 := rfl
      rw [e0]
      have E : Hid (rootF ab = y % 4294967296) := by show _ = _; unfold rootF; rw [H.out.2.2]; rfl
      clear e0
      go_wp2_with fail
      exact bodyPost_ret (v := .int .u32 ((rootF ab : Nat) : Int)) (by simp only [results, Tryd.results25]; go_simp; rw [E.out]; rfl) rfl ⟨rfl, rfl⟩
    · obtain ⟨b, hb⟩ : ∃ b, b = 2 ^ t := ⟨_, rfl⟩
      have hp : 0 < b := by rw [hb]; exact Nat.pow_pos (by decide)
      have hh : half (t + 1) = b := by rw [hb]; rfl
      have hh2 : b / 2 = half t := by
        rw [hb]
        cases t with
        | zero => rfl
        | succ t => show 2 ^ (t + 1) / 2 = 2 ^ t; rw [Nat.pow_succ]; omega
      have hl : y + 2 * b ≤ 137438953472 := by have := H.out.1; rw [Nat.pow_succ, ← hb] at this; omega
      have hs : rootL ab (t + 1) y = rootL ab t (if ab (y + b) then y else y + b) := by rw [hb]; rfl
      have hlt : half t < b := by omega
      rw [hh]
      have e1 : IntKind.u64.wrap ((y : Int) + (b : Int)) = ((y + b : Nat) : Int) := by rw [IntKind.wrap_u64]; omega
      have e2 : IntKind.u64.wrap ((b : Int) / 2) = ((half t : Nat) : Int) := by rw [IntKind.wrap_u64, ← hh2]; omega
      have Hlt := Lib.hid hlt
      have Hs := Lib.hid hs
      have Hb := Lib.hid hb
      have Hl := Lib.hid hl
      have hp2 : (0 : Int) < (b : Int) := by omega
      obtain ⟨z, hz⟩ : ∃ z, z = y + b := ⟨_, rfl⟩
      rw [← hz] at e1
      have Hz := Lib.hid hz
      clear hlt hs hb hh hh2 hl hp hz
      go_wp2_with fail
      refine Calls.mono (Hab.out z _ (by have := Hl.out; have := Hz.out; omega)) ?_
      rintro _ _ ⟨rfl, rfl⟩
      by_cases ha : ab z = true
      · rw [ha]
        go_wp2_with fail
        go_round
        case rel => exact ⟨y, t, rfl, rfl, by have := Hl.out; rw [← Hb.out]; omega, by have := H.out.2.1; omega, by rw [H.out.2.2, Hs.out, ← Hz.out, if_pos ha]⟩
        case measure => have := Hlt.out; simp [intOf]; omega
      · rw [Bool.eq_false_iff.2 ha]
        go_wp2_with fail
        go_round
        case rel => exact ⟨z, t, rfl, rfl, by have := Hl.out; rw [← Hb.out, Hz.out]; omega, by have := H.out.2.1; omega, by rw [H.out.2.2, Hs.out, ← Hz.out, if_neg ha]⟩
        case measure => have := Hlt.out; simp [intOf]; omega


set_option maxRecDepth 100000 in
set_option maxHeartbeats 4000000 in
theorem root_square (n : Nat) (hn : n < 1024) (w : World) :
    Calls Tryd.prog 25 #[.int .u64 (n : Int), .bool false] w fun e w' => e = .returned (.int .u32 ((rootF (fun y => squareF y n) : Nat) : Int)) ∧ w = w' := by
  have Hn := Lib.hid hn
  obtain ⟨ab, hab⟩ : ∃ ab, ab = (fun y => squareF y n) := ⟨_, rfl⟩
  have Hab : Hid (∀ (y : Nat) (w : World), y < 274877906944 → Calls Tryd.prog 31 #[.int .u64 (y : Int), .int .u64 (n : Int)] w fun e w' => e = .returned (.bool (ab y)) ∧ w = w') := fun y w hy => by have e := square_c y n hy Hn.out w; rw [hab]; exact e
  rw [← hab]
  clear hab hn
  go_enter Tryd.func25, Tryd.ntmps25
  go_wp2_with fail
  go_loop [5, 6] (fun x b => ∃ y t : Nat, x = .int .u64 (y : Int) ∧ b = .int .u64 ((half t : Nat) : Int) ∧ Hid (y + 2 ^ t ≤ 137438953472 ∧ t ≤ 37 ∧ rootL ab 37 0 = rootL ab t y)) (fun _ b => (intOf b).toNat)
  case atStart => exact ⟨0, 37, rfl, rfl, by decide, by decide, rfl⟩
  case round =>
    obtain ⟨y, t, rfl, rfl, H⟩ := hrel
    rcases t with _ | t
    · have hy : y ≤ 137438953472 := by have := H.out.1; omega
      have e0 : ((half 0 : Nat) : Int) = 0 := rfl
      rw [e0]
      have E : Hid (rootF ab = y % 4294967296) := by show _ = _; unfold rootF; rw [H.out.2.2]; rfl
      clear e0
      go_wp2_with fail
      exact bodyPost_ret (v := .int .u32 ((rootF ab : Nat) : Int)) (by simp only [results, Tryd.results25]; go_simp; rw [E.out]; rfl) rfl ⟨rfl, rfl⟩
    · obtain ⟨b, hb⟩ : ∃ b, b = 2 ^ t := ⟨_, rfl⟩
      have hp : 0 < b := by rw [hb]; exact Nat.pow_pos (by decide)
      have hh : half (t + 1) = b := by rw [hb]; rfl
      have hh2 : b / 2 = half t := by
        rw [hb]
        cases t with
        | zero => rfl
        | succ t => show 2 ^ (t + 1) / 2 = 2 ^ t; rw [Nat.pow_succ]; omega
      have hl : y + 2 * b ≤ 137438953472 := by have := H.out.1; rw [Nat.pow_succ, ← hb] at this; omega
      have hs : rootL ab (t + 1) y = rootL ab t (if ab (y + b) then y else y + b) := by rw [hb]; rfl
      have hlt : half t < b := by omega
      rw [hh]
      have e1 : IntKind.u64.wrap ((y : Int) + (b : Int)) = ((y + b : Nat) : Int) := by rw [IntKind.wrap_u64]; omega
      have e2 : IntKind.u64.wrap ((b : Int) / 2) = ((half t : Nat) : Int) := by rw [IntKind.wrap_u64, ← hh2]; omega
      have Hlt := Lib.hid hlt
      have Hs := Lib.hid hs
      have Hb := Lib.hid hb
      have Hl := Lib.hid hl
      have hp2 : (0 : Int) < (b : Int) := by omega
      obtain ⟨z, hz⟩ : ∃ z, z = y + b := ⟨_, rfl⟩
      rw [← hz] at e1
      have Hz := Lib.hid hz
      clear hlt hs hb hh hh2 hl hp hz
      go_wp2_with fail
      refine Calls.mono (Hab.out z _ (by have := Hl.out; have := Hz.out; omega)) ?_
      rintro _ _ ⟨rfl, rfl⟩
      by_cases ha : ab z = true
      · rw [ha]
        go_wp2_with fail
        go_round
        case rel => exact ⟨y, t, rfl, rfl, by have := Hl.out; rw [← Hb.out]; omega, by have := H.out.2.1; omega, by rw [H.out.2.2, Hs.out, ← Hz.out, if_pos ha]⟩
        case measure => have := Hlt.out; simp [intOf]; omega
      · rw [Bool.eq_false_iff.2 ha]
        go_wp2_with fail
        go_round
        case rel => exact ⟨z, t, rfl, rfl, by have := Hl.out; rw [← Hb.out, Hz.out]; omega, by have := H.out.2.1; omega, by rw [H.out.2.2, Hs.out, ← Hz.out, if_neg ha]⟩
        case measure => have := Hlt.out; simp [intOf]; omega

end Go.Proofs.YtdaggankfokloaaDoor
