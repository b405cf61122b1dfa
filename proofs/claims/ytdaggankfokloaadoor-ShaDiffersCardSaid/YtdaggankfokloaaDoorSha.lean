/- SHA-256 as plain functions of numbers below 2^32. No program in sight. -/
import Derived.WalkKit
import Derived.Laws.BitsAllLaws
import Derived.Lib.Hide
namespace Go.Proofs.YtdaggankfokloaaDoor
set_option linter.all false
open Go.RowKit

def B : Nat := 4294967296
theorem B_pos : 0 < B := by decide
theorem B_pow : B = 2 ^ 32 := by decide
def rr (n x : Nat) : Nat := x / 2 ^ n + x % 2 ^ n * 2 ^ (32 - n)
def ad (x y : Nat) : Nat := (x + y) % B
theorem ad_lt (x y : Nat) : ad x y < B := Nat.mod_lt _ B_pos
theorem xor_lt {x y : Nat} (hx : x < B) (hy : y < B) : x ^^^ y < B := by rw [B_pow] at *; exact Nat.xor_lt_two_pow hx hy
theorem or_lt {x y : Nat} (hx : x < B) (hy : y < B) : x ||| y < B := by rw [B_pow] at *; exact Nat.or_lt_two_pow hx hy
theorem and_lt {x y : Nat} (hy : y < B) : x &&& y < B := Nat.lt_of_le_of_lt Nat.and_le_right hy

/-- 2^32 parted at n. -/
theorem B_part {n : Nat} (hn : n ≤ 32) : B = 2 ^ n * 2 ^ (32 - n) := by rw [B_pow, ← Nat.pow_add]; congr 1; omega
theorem rr_parts {n x : Nat} (hn : n ≤ 32) (hx : x < B) : x / 2 ^ n < 2 ^ (32 - n) := by
  rw [B_part hn] at hx
  exact Nat.div_lt_of_lt_mul hx
theorem rr_lt {n x : Nat} (hn : n ≤ 32) (hx : x < B) : rr n x < B := by
  have h1 := rr_parts hn hx
  have h2 : x % 2 ^ n < 2 ^ n := Nat.mod_lt _ (Nat.pow_pos (by decide))
  rw [B_part hn]
  unfold rr
  generalize x / 2 ^ n = q at h1 ⊢
  generalize x % 2 ^ n = r at h2 ⊢
  generalize 2 ^ (32 - n) = m at h1 ⊢
  generalize 2 ^ n = p at h2 ⊢
  have : (r + 1) * m ≤ p * m := Nat.mul_le_mul_right _ h2
  rw [Nat.add_mul, Nat.one_mul] at this
  omega
/-- The rotation by shifts. -/
theorem rr_or {n x : Nat} (hn : n ≤ 32) (hx : x < B) : (x * 2 ^ (32 - n)) % B ||| x / 2 ^ n = rr n x := by
  have h1 := rr_parts hn hx
  have e : (x * 2 ^ (32 - n)) % B = 2 ^ (32 - n) * (x % 2 ^ n) := by
    rw [B_part hn, Nat.mul_comm x, Nat.mul_comm (2 ^ n), Nat.mul_mod_mul_left]
  rw [e, ← Nat.two_pow_add_eq_or_of_lt h1]
  unfold rr
  rw [Nat.mul_comm, Nat.add_comm]
theorem rr_zero (x : Nat) : rr 0 x = x := by unfold rr; rw [Nat.pow_zero, Nat.div_one, Nat.mod_one]; omega
/-- One place more. -/
theorem rr_succ {n x : Nat} (hn : n < 32) : rr n x / 2 + rr n x % 2 * 2147483648 = rr (n + 1) x := by
  unfold rr
  obtain ⟨m, hm⟩ : ∃ m, m = 2 ^ (31 - n) := ⟨_, rfl⟩
  obtain ⟨p, hp⟩ : ∃ p, p = 2 ^ n := ⟨_, rfl⟩
  have hpos : 0 < p := by rw [hp]; exact Nat.pow_pos (by decide)
  have e1 : 2 ^ (32 - n) = 2 * m := by rw [hm, ← Nat.pow_succ']; congr 1; omega
  have e2 : 2 ^ (32 - (n + 1)) = m := by rw [hm, show 32 - (n + 1) = 31 - n by omega]
  have e3 : 2147483648 = p * m := by rw [hm, hp, ← Nat.pow_add, show n + (31 - n) = 31 by omega]
  rw [e1, e2, e3, Nat.pow_succ, ← hp]
  have hx : x = x % p + p * (x / p) := (Nat.mod_add_div x p).symm
  have hr : x % p < p := Nat.mod_lt _ hpos
  generalize x / p = q at hx ⊢
  generalize x % p = r at hx hr ⊢
  have hd : x / (p * 2) = q / 2 := by rw [← Nat.div_div_eq_div_mul, hx, Nat.add_mul_div_left _ _ hpos, Nat.div_eq_of_lt hr, Nat.zero_add]
  have hmod : x % (p * 2) = r + p * (q % 2) := by rw [Nat.mod_mul, hx, Nat.add_mul_div_left _ _ hpos, Nat.div_eq_of_lt hr, Nat.zero_add, Nat.add_mul_mod_self_left, Nat.mod_eq_of_lt hr]
  rw [hd, hmod, Nat.add_mul, show r * (2 * m) = 2 * (r * m) by rw [Nat.mul_left_comm], Nat.add_mul_div_left _ _ (by decide), Nat.add_mul_mod_self_left, ← Nat.mul_assoc, Nat.mul_comm (q % 2) p]
  omega

def sg0 (x : Nat) : Nat := rr 7 x ^^^ rr 18 x ^^^ x / 8
def sg1 (x : Nat) : Nat := rr 17 x ^^^ rr 19 x ^^^ x / 1024
def S1 (e : Nat) : Nat := rr 6 e ^^^ rr 11 e ^^^ rr 25 e
def S0 (a : Nat) : Nat := rr 2 a ^^^ rr 13 a ^^^ rr 22 a
def ch (e f g : Nat) : Nat := g ^^^ (e &&& (f ^^^ g))
def mj (a b c : Nat) : Nat := a &&& b ||| (a ||| b) &&& c
theorem ch_ref {e f g : Nat} (he : e < B) (hg : g < B) : (e &&& f) ^^^ ((4294967295 ^^^ e) &&& g) = ch e f g := by
  apply Nat.eq_of_testBit_eq
  intro i
  unfold ch
  simp only [Nat.testBit_xor, Nat.testBit_and]
  have h : i < 32 → Nat.testBit 4294967295 i = true := fun hi => by
    rw [show (4294967295 : Nat) = 2 ^ 32 - 1 from rfl, Nat.testBit_two_pow_sub_one]; exact decide_eq_true hi
  by_cases hi : i < 32
  · rw [h hi]; cases e.testBit i <;> cases f.testBit i <;> cases g.testBit i <;> rfl
  · have hb : B ≤ 2 ^ i := by rw [B_pow]; exact Nat.pow_le_pow_right (by decide) (by omega)
    rw [Nat.testBit_lt_two_pow (Nat.lt_of_lt_of_le he hb), Nat.testBit_lt_two_pow (Nat.lt_of_lt_of_le hg hb)]
    simp
theorem mj_ref (a b c : Nat) : (a &&& b) ^^^ (a &&& c) ^^^ (b &&& c) = mj a b c := by
  apply Nat.eq_of_testBit_eq
  intro i
  unfold mj
  simp only [Nat.testBit_xor, Nat.testBit_and, Nat.testBit_or]
  cases a.testBit i <;> cases b.testBit i <;> cases c.testBit i <;> rfl
end Go.Proofs.YtdaggankfokloaaDoor
