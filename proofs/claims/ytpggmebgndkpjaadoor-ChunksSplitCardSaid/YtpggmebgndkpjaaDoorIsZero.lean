/- The contracts of mask.IsZero and limb.IsZero. -/
import Derived.Test.YtpggmebgndkpjaaDoorRefOps
namespace Go.Proofs.YtpggmebgndkpjaaDoor
set_option linter.all false
open Go.RowKit

def orv (a : Nat) : Nat → Nat | 0 => 0 | k + 1 => orv a k ||| dg k a
theorem orv_lt (a : Nat) : ∀ k, orv a k < W | 0 => W_pos | k + 1 => or_lt_W (orv_lt a k) (dg_lt _ _)

def isz (z : Nat) : Nat := if z = 0 then 1 else 0
theorem isz_lt (z : Nat) : isz z < W := by unfold isz W; split <;> omega
theorem or_zero {x y : Nat} (h : x ||| y = 0) : x = 0 ∧ y = 0 := by
  have := Nat.left_le_or (n := x) (m := y); have := Nat.right_le_or (n := x) (m := y); omega
theorem orv_isz {a : Nat} (ha : a < R4) : isz (orv a 4) = isz a := by
  unfold isz
  by_cases h : a = 0
  · subst h; rfl
  · rw [if_neg h, if_neg]
    intro e
    apply h
    have h3 := or_zero (x := orv a 3) (y := dg 3 a) e
    have h2 := or_zero (x := orv a 2) (y := dg 2 a) h3.1
    have h1 := or_zero (x := orv a 1) (y := dg 1 a) h2.1
    have h0 := or_zero (x := orv a 0) (y := dg 0 a) h1.1
    have e := val4_dg ha
    rw [h0.2, h1.2, h2.2, h3.2] at e
    rw [← e]; rfl
theorem isz_val {z : Nat} (hz : z < W) : bits BinOp.xor IntKind.u64 IntKind.u64.max (bits BinOp.or IntKind.u64 (z : Int) (IntKind.u64.wrap (-(z : Int)))) / 9223372036854775808 = ((isz z : Nat) : Int) := by
  unfold isz
  by_cases h : z = 0
  · subst h; rfl
  · rw [if_neg h]
    have e1 : IntKind.u64.wrap (-(z : Int)) = ((W - z : Nat) : Int) := by rw [IntKind.wrap_u64]; unfold W at *; omega
    have e2 : IntKind.u64.max = ((W - 1 : Nat) : Int) := rfl
    have l : W - z < W := by omega
    rw [e1, e2, u64_or_nat _ _ hz l, u64_xor_nat _ _ (by decide) (or_lt_W hz l)]
    have g : 2 ^ 63 ≤ z ||| (W - z) := by
      have := Nat.left_le_or (n := z) (m := W - z); have := Nat.right_le_or (n := z) (m := W - z); unfold W at *; omega
    have g2 := or_lt_W hz l
    generalize z ||| (W - z) = x at g g2
    have e3 : ((W - 1) ^^^ x) / 9223372036854775808 = 0 := by
      rw [show (9223372036854775808 : Nat) = 2 ^ 63 from rfl, ← Nat.shiftRight_eq_div_pow, Nat.shiftRight_xor_distrib, Nat.shiftRight_eq_div_pow, Nat.shiftRight_eq_div_pow,
        show x / 2 ^ 63 = 1 by unfold W at g2; omega]
      rfl
    have e4 : (((W - 1) ^^^ x : Nat) : Int) / 9223372036854775808 = ((((W - 1) ^^^ x) / 9223372036854775808 : Nat) : Int) := rfl
    rw [e4, e3]

set_option maxRecDepth 100000 in
set_option maxHeartbeats 2000000 in
theorem maskIsZero_c (a B : Nat) (ha : a < R4) (w : World) (hc : ∀ k, k < 4 → w.cell? ⟨B, k, none⟩ = some (.int .u64 ((dg k a : Nat) : Int))) :
    Calls Tryd.prog 90 #[.slice (some ⟨B, 0, none⟩) 4 4] w fun e w' => e = .returned (.int .u64 ((mb (isz a) : Nat) : Int)) ∧ w = w' := by
  go_enter Tryd.func90, Tryd.ntmps90
  go_wp2_with fail
  go_loopw [3, 8] (fun v i wr => ∃ (k : Nat), k ≤ 4 ∧ i = .int .i64 (k : Int) ∧ v = .int .u64 ((orv a k : Nat) : Int) ∧ wr = w) (fun _ i _ => 4 - (intOf i).toNat)
  case atStart => exact ⟨0, by omega, rfl, rfl, rfl⟩
  case round =>
    obtain ⟨k, hk4, rfl, rfl, rfl⟩ := hrel
    by_cases hk : k < 4
    · have h1 := hc k hk
      go_wp2_with fail
      all_goals go_roundw
      case rel => exact ⟨k + 1, by omega, by go_num, by rw [u64_or_nat _ _ (orv_lt a k) (dg_lt k a)]; rfl, trivial⟩
      case measure => simp [intOf]; omega
    · have e : k = 4 := by omega
      have hi : isz (orv a k) = isz a := by rw [e]; exact orv_isz ha
      have hz := isz_val (orv_lt a k)
      rw [hi] at hz
      have Hz := Lib.hid hz
      clear hz hi
      generalize orv a k = z at Hz ⊢
      subst e
      go_wp2_with fail
      rw [Hz.out]
      refine Calls.mono (fromBit_c _ (isz_lt a) _) ?_
      rintro _ _ ⟨rfl, rfl⟩
      go_wp2_with fail
      exact bodyPost_ret (v := .int .u64 ((mb (isz a) : Nat) : Int)) (by simp only [results, Tryd.results90]; go_simp) rfl ⟨rfl, rfl⟩

end Go.Proofs.YtpggmebgndkpjaaDoor
