/- The program's sha: the walks. -/
import Derived.Test.YtjhfepkpfakemaaDoorProg
import Derived.Test.YtjhfepkpfakemaaDoorShelf
import Derived.Test.YtjhfepkpfakemaaDoorWalk0
import Derived.WalkKit
import Derived.Laws.BitsAllLaws
import Derived.Lib.Hide
import Derived.WalkLawsBesides
import Derived.WalkSpells
import Derived.Deep.DeepFit
import Derived.Deep.RegionHeld3
import Derived.Deep.QuietTactic
import Derived.BigQuiet
import Derived.Deep.MidRow
import Derived.Laws.CopyOwn
import Derived.Maps.AppendAt
import Derived.OwnWalk
import Derived.Laws.Cover3
import Derived.Laws.AppendOwnNone
import Derived.Laws.MakeOwn
namespace Go.Proofs.YtjhfepkpfakemaaDoor.Sh
set_option linter.all false
open Go.RowKit

def B : Nat := 4294967296
theorem B_pos : 0 < B := by decide
theorem B_pow : B = 2 ^ 32 := by decide
def rr (n x : Nat) : Nat := x / 2 ^ n + x % 2 ^ n * 2 ^ (32 - n)
def ad (x y : Nat) : Nat := (x + y) % B
theorem ad_lt (x y : Nat) : ad x y < B := Nat.mod_lt _ B_pos
theorem xor_lt {x y : Nat} (hx : x < B) (hy : y < B) : x ^^^ y < B := by rw [B_pow] at *; exact Nat.xor_lt_two_pow hx hy
theorem or_lt {x y : Nat} (hx : x < B) (hy : y < B) : x ||| y < B := by rw [B_pow] at *; exact Nat.or_lt_two_pow hx hy
theorem and_lt {x y : Nat} (hy : y < B) : x &&& y < B := Nat.lt_of_le_of_lt Nat.and_le_right hy

/-- 2^32 parted at n. -/
theorem B_part {n : Nat} (hn : n ≤ 32) : B = 2 ^ n * 2 ^ (32 - n) := by rw [B_pow, ← Nat.pow_add]; congr 1; omega
theorem rr_parts {n x : Nat} (hn : n ≤ 32) (hx : x < B) : x / 2 ^ n < 2 ^ (32 - n) := by
  rw [B_part hn] at hx
  exact Nat.div_lt_of_lt_mul hx
theorem rr_lt {n x : Nat} (hn : n ≤ 32) (hx : x < B) : rr n x < B := by
  have h1 := rr_parts hn hx
  have h2 : x % 2 ^ n < 2 ^ n := Nat.mod_lt _ (Nat.pow_pos (by decide))
  rw [B_part hn]
  unfold rr
  generalize x / 2 ^ n = q at h1 ⊢
  generalize x % 2 ^ n = r at h2 ⊢
  generalize 2 ^ (32 - n) = m at h1 ⊢
  generalize 2 ^ n = p at h2 ⊢
  have : (r + 1) * m ≤ p * m := Nat.mul_le_mul_right _ h2
  rw [Nat.add_mul, Nat.one_mul] at this
  omega
/-- The rotation by shifts. -/
theorem rr_or {n x : Nat} (hn : n ≤ 32) (hx : x < B) : (x * 2 ^ (32 - n)) % B ||| x / 2 ^ n = rr n x := by
  have h1 := rr_parts hn hx
  have e : (x * 2 ^ (32 - n)) % B = 2 ^ (32 - n) * (x % 2 ^ n) := by
    rw [B_part hn, Nat.mul_comm x, Nat.mul_comm (2 ^ n), Nat.mul_mod_mul_left]
  rw [e, ← Nat.two_pow_add_eq_or_of_lt h1]
  unfold rr
  rw [Nat.mul_comm, Nat.add_comm]
theorem rr_zero (x : Nat) : rr 0 x = x := by unfold rr; rw [Nat.pow_zero, Nat.div_one, Nat.mod_one]; omega
/-- One place more. -/
theorem rr_succ {n x : Nat} (hn : n < 32) : rr n x / 2 + rr n x % 2 * 2147483648 = rr (n + 1) x := by
  unfold rr
  obtain ⟨m, hm⟩ : ∃ m, m = 2 ^ (31 - n) := ⟨_, rfl⟩
  obtain ⟨p, hp⟩ : ∃ p, p = 2 ^ n := ⟨_, rfl⟩
  have hpos : 0 < p := by rw [hp]; exact Nat.pow_pos (by decide)
  have e1 : 2 ^ (32 - n) = 2 * m := by rw [hm, ← Nat.pow_succ']; congr 1; omega
  have e2 : 2 ^ (32 - (n + 1)) = m := by rw [hm, show 32 - (n + 1) = 31 - n by omega]
  have e3 : 2147483648 = p * m := by rw [hm, hp, ← Nat.pow_add, show n + (31 - n) = 31 by omega]
  rw [e1, e2, e3, Nat.pow_succ, ← hp]
  have hx : x = x % p + p * (x / p) := (Nat.mod_add_div x p).symm
  have hr : x % p < p := Nat.mod_lt _ hpos
  generalize x / p = q at hx ⊢
  generalize x % p = r at hx hr ⊢
  have hd : x / (p * 2) = q / 2 := by rw [← Nat.div_div_eq_div_mul, hx, Nat.add_mul_div_left _ _ hpos, Nat.div_eq_of_lt hr, Nat.zero_add]
  have hmod : x % (p * 2) = r + p * (q % 2) := by rw [Nat.mod_mul, hx, Nat.add_mul_div_left _ _ hpos, Nat.div_eq_of_lt hr, Nat.zero_add, Nat.add_mul_mod_self_left, Nat.mod_eq_of_lt hr]
  rw [hd, hmod, Nat.add_mul, show r * (2 * m) = 2 * (r * m) by rw [Nat.mul_left_comm], Nat.add_mul_div_left _ _ (by decide), Nat.add_mul_mod_self_left, ← Nat.mul_assoc, Nat.mul_comm (q % 2) p]
  omega

def sg0 (x : Nat) : Nat := rr 7 x ^^^ rr 18 x ^^^ x / 8
def sg1 (x : Nat) : Nat := rr 17 x ^^^ rr 19 x ^^^ x / 1024
def S1 (e : Nat) : Nat := rr 6 e ^^^ rr 11 e ^^^ rr 25 e
def S0 (a : Nat) : Nat := rr 2 a ^^^ rr 13 a ^^^ rr 22 a
def ch (e f g : Nat) : Nat := g ^^^ (e &&& (f ^^^ g))
def mj (a b c : Nat) : Nat := a &&& b ||| (a ||| b) &&& c
theorem ch_ref {e f g : Nat} (he : e < B) (hg : g < B) : (e &&& f) ^^^ ((4294967295 ^^^ e) &&& g) = ch e f g := by
  apply Nat.eq_of_testBit_eq
  intro i
  unfold ch
  simp only [Nat.testBit_xor, Nat.testBit_and]
  have h : i < 32 → Nat.testBit 4294967295 i = true := fun hi => by
    rw [show (4294967295 : Nat) = 2 ^ 32 - 1 from rfl, Nat.testBit_two_pow_sub_one]; exact decide_eq_true hi
  by_cases hi : i < 32
  · rw [h hi]; cases e.testBit i <;> cases f.testBit i <;> cases g.testBit i <;> rfl
  · have hb : B ≤ 2 ^ i := by rw [B_pow]; exact Nat.pow_le_pow_right (by decide) (by omega)
    rw [Nat.testBit_lt_two_pow (Nat.lt_of_lt_of_le he hb), Nat.testBit_lt_two_pow (Nat.lt_of_lt_of_le hg hb)]
    simp
theorem mj_ref (a b c : Nat) : (a &&& b) ^^^ (a &&& c) ^^^ (b &&& c) = mj a b c := by
  apply Nat.eq_of_testBit_eq
  intro i
  unfold mj
  simp only [Nat.testBit_xor, Nat.testBit_and, Nat.testBit_or]
  cases a.testBit i <;> cases b.testBit i <;> cases c.testBit i <;> rfl
end Go.Proofs.YtjhfepkpfakemaaDoor.Sh

namespace Go.Proofs.YtjhfepkpfakemaaDoor.Sh
set_option linter.all false
open Go Go.RowKit

theorem rot_val {n x : Nat} (hn : n ≤ 32) (hx : x < B) :
    bits BinOp.or IntKind.u32 ((x : Int) * 2 ^ (32 - n) % 4294967296) ((x : Int) / 2 ^ (32 - (32 - n))) = ((rr n x : Nat) : Int) := by
  have h1 := rr_or hn hx
  have l1 : x / 2 ^ n < 4294967296 := Nat.lt_of_le_of_lt (Nat.div_le_self _ _) hx
  rw [show 32 - (32 - n) = n by omega, show ((2 : Int) ^ (32 - n)) = ((2 ^ (32 - n) : Nat) : Int) from (Int.natCast_pow 2 _).symm, show ((2 : Int) ^ n) = ((2 ^ n : Nat) : Int) from (Int.natCast_pow 2 _).symm]
  unfold B at h1
  generalize 2 ^ (32 - n) = p at h1 ⊢
  generalize 2 ^ n = q at h1 l1 ⊢
  rw [show ((x : Int) * (p : Int) % 4294967296) = ((x * p % 4294967296 : Nat) : Int) from rfl, show ((x : Int) / (q : Int)) = ((x / q : Nat) : Int) from rfl, u32_or_nat _ _ (Nat.mod_lt _ (by decide)) l1, h1]

set_option maxRecDepth 100000 in
set_option maxHeartbeats 2000000 in
theorem rotl_c (n x : Nat) (h0 : 0 < n) (hn : n < 32) (hx : x < B) (w : World) :
    Calls Tryd.prog 90 #[.int .u32 (x : Int), .int .i64 (-(n : Int))] w fun e w' => e = .returned (.int .u32 ((rr n x : Nat) : Int)) ∧ w = w' := by
  have e1 : bits BinOp.and IntKind.u64 (IntKind.u64.wrap (-(n : Int))) 31 = ((32 - n : Nat) : Int) := by
    have : n = 1 ∨ n = 2 ∨ n = 3 ∨ n = 4 ∨ n = 5 ∨ n = 6 ∨ n = 7 ∨ n = 8 ∨ n = 9 ∨ n = 10 ∨ n = 11 ∨ n = 12 ∨ n = 13 ∨ n = 14 ∨ n = 15 ∨ n = 16 ∨ n = 17 ∨ n = 18 ∨ n = 19 ∨ n = 20 ∨ n = 21 ∨ n = 22 ∨ n = 23 ∨ n = 24 ∨ n = 25 ∨ n = 26 ∨ n = 27 ∨ n = 28 ∨ n = 29 ∨ n = 30 ∨ n = 31 := by omega
    rcases this with rfl | rfl | rfl | rfl | rfl | rfl | rfl | rfl | rfl | rfl | rfl | rfl | rfl | rfl | rfl | rfl | rfl | rfl | rfl | rfl | rfl | rfl | rfl | rfl | rfl | rfl | rfl | rfl | rfl | rfl | rfl <;> decide
  have Hx := Lib.hid hx
  have Hn := Lib.hid hn
  clear hx hn h0
  go_enter Tryd.func90, Tryd.ntmps90
  go_wp2_with fail
  exact bodyPost_ret (v := .int .u32 ((rr n x : Nat) : Int)) (by simp only [results, Tryd.results90]; go_simp; rw [rot_val (Nat.le_of_lt Hn.out) Hx.out]) rfl ⟨rfl, rfl⟩

set_option maxRecDepth 100000 in
set_option maxHeartbeats 2000000 in
theorem rot_c (n x : Nat) (h0 : 0 < n) (hn : n < 32) (hx : x < B) (w : World) :
    Calls Tryd.prog 86 #[.int .u32 (x : Int), .int .i64 (n : Int)] w fun e w' => e = .returned (.int .u32 ((rr n x : Nat) : Int)) ∧ w = w' := by
  have H := Lib.hid (rotl_c n x h0 hn hx)
  have hneg : IntKind.i64.wrap (-(n : Int)) = -(n : Int) := by rw [IntKind.wrap_i64]; omega
  clear h0 hn hx
  go_enter Tryd.func86, Tryd.ntmps86
  go_wp2_with fail
  refine Calls.mono (H.out _) ?_
  rintro _ _ ⟨rfl, rfl⟩
  go_wp2_with fail
  exact bodyPost_ret (v := .int .u32 ((rr n x : Nat) : Int)) (by simp only [results, Tryd.results86]; go_simp) rfl ⟨rfl, rfl⟩

set_option maxRecDepth 100000 in
set_option maxHeartbeats 2000000 in
theorem refRot_c (n x : Nat) (hn : n < 32) (hx : x < B) (w : World) :
    Calls Tryd.prog 79 #[.int .u32 (x : Int), .int .i64 (n : Int)] w fun e w' => e = .returned (.int .u32 ((rr n x : Nat) : Int)) ∧ w = w' := by
  have hn' := hn
  have Hx := Lib.hid hx
  clear hx
  go_enter Tryd.func79, Tryd.ntmps79
  go_wp2_with fail
  go_loop [0, 5] (fun y i => ∃ k : Nat, k ≤ n ∧ i = .int .i64 (k : Int) ∧ y = .int .u32 ((rr k x : Nat) : Int)) (fun _ i => n - (intOf i).toNat)
  case atStart => exact ⟨0, by omega, rfl, by rw [rr_zero]⟩
  case round =>
    obtain ⟨k, hk, rfl, rfl⟩ := hrel
    by_cases hlt : k < n
    · have hs : rr k x / 2 + rr k x % 2 * 2147483648 = rr (k + 1) x := rr_succ (by omega)
      have hl : rr (k + 1) x < B := rr_lt (by omega) Hx.out
      have hl0 : rr k x < B := rr_lt (by omega) Hx.out
      unfold B at hl hl0
      rw [← hs] at hl
      go_wp2_with fail
      go_round
      case rel => exact ⟨k + 1, by omega, by go_num, by rw [← hs]; go_num⟩
      case measure => simp [intOf]; omega
    · obtain rfl : k = n := by omega
      clear hlt hk hn'
      go_wp2_with fail
      exact bodyPost_ret (v := .int .u32 ((rr k x : Nat) : Int)) (by simp only [results, Tryd.results79]; go_simp) rfl ⟨rfl, rfl⟩

set_option maxRecDepth 100000 in
set_option maxHeartbeats 2000000 in
theorem refShr_c (n x : Nat) (hn : n < 32) (hx : x < B) (w : World) :
    Calls Tryd.prog 80 #[.int .u32 (x : Int), .int .i64 (n : Int)] w fun e w' => e = .returned (.int .u32 ((x / 2 ^ n : Nat) : Int)) ∧ w = w' := by
  have hn' := hn
  have Hx := Lib.hid hx
  clear hx
  obtain ⟨sh, hsh⟩ : ∃ sh : Nat → Nat, sh = fun k => x / 2 ^ k := ⟨_, rfl⟩
  have e0 : sh 0 = x := by rw [hsh]; simp
  have es : ∀ k, sh k / 2 = sh (k + 1) := fun k => by rw [hsh]; simp only; rw [Nat.div_div_eq_div_mul, Nat.pow_succ]
  have el : ∀ k, sh k < 4294967296 := fun k => by rw [hsh]; exact Nat.lt_of_le_of_lt (Nat.div_le_self _ _) Hx.out
  rw [show x / 2 ^ n = sh n by rw [hsh]]
  have Es := Lib.hid es
  have El := Lib.hid el
  have E0 := Lib.hid e0
  clear hsh es el e0 Hx
  go_enter Tryd.func80, Tryd.ntmps80
  go_wp2_with fail
  go_loop [0, 5] (fun y i => ∃ k : Nat, k ≤ n ∧ i = .int .i64 (k : Int) ∧ y = .int .u32 ((sh k : Nat) : Int)) (fun _ i => n - (intOf i).toNat)
  case atStart => exact ⟨0, by omega, rfl, by rw [E0.out]⟩
  case round =>
    obtain ⟨k, hk, rfl, rfl⟩ := hrel
    by_cases hlt : k < n
    · have hl0 := El.out k
      go_wp2_with fail
      go_round
      case rel => exact ⟨k + 1, by omega, by go_num, by rw [← Es.out]; go_num⟩
      case measure => simp [intOf]; omega
    · obtain rfl : k = n := by omega
      clear hlt hk hn'
      go_wp2_with fail
      exact bodyPost_ret (v := .int .u32 ((sh k : Nat) : Int)) (by simp only [results, Tryd.results80]; go_simp) rfl ⟨rfl, rfl⟩
end Go.Proofs.YtjhfepkpfakemaaDoor.Sh

namespace Go.Proofs.YtjhfepkpfakemaaDoor.Sh
set_option linter.all false
open Go.RowKit

def be4 (f : Nat → Nat) (t : Nat) : Nat := f (4 * t) * 16777216 + f (4 * t + 1) * 65536 + f (4 * t + 2) * 256 + f (4 * t + 3)
/-- The number of the first k bytes of word t, the greatest first. -/
def pb (f : Nat → Nat) (t : Nat) : Nat → Nat | 0 => 0 | k + 1 => pb f t k * 256 + f (4 * t + k)
theorem pb_four (f : Nat → Nat) (t : Nat) : pb f t 4 = be4 f t := by unfold be4; simp only [pb, Nat.add_zero]; omega
theorem pb_lt {f : Nat → Nat} (hf : ∀ j, f j < 256) (t : Nat) : ∀ k, pb f t k < 256 ^ k
  | 0 => by simp [pb]
  | k + 1 => by
    have h1 := pb_lt hf t k
    have h2 := hf (4 * t + k)
    unfold pb
    rw [Nat.pow_succ]
    omega
theorem pb_B {f : Nat → Nat} (hf : ∀ j, f j < 256) (t : Nat) {k : Nat} (hk : k ≤ 4) : pb f t k < B :=
  Nat.lt_of_lt_of_le (pb_lt hf t k) (by rw [show B = 256 ^ 4 by decide]; exact Nat.pow_le_pow_right (by decide) hk)
theorem be4_lt {f : Nat → Nat} (hf : ∀ j, f j < 256) (t : Nat) : be4 f t < B := by rw [← pb_four]; exact pb_B hf t (by omega)
def nx (f : Nat → Nat) (t : Nat) (l : List Nat) : Nat :=
  if t < 16 then be4 f t else ad (ad (ad (sg1 (l.getD (t - 2) 0)) (l.getD (t - 7) 0)) (sg0 (l.getD (t - 15) 0))) (l.getD (t - 16) 0)
def wl (f : Nat → Nat) : Nat → List Nat | 0 => [] | t + 1 => wl f t ++ [nx f t (wl f t)]
/-- Word t of the schedule. -/
def wv (f : Nat → Nat) (t : Nat) : Nat := nx f t (wl f t)
theorem wl_len (f : Nat → Nat) : ∀ t, (wl f t).length = t | 0 => rfl | t + 1 => by unfold wl; rw [List.length_append, wl_len f t]; rfl
theorem wl_get (f : Nat → Nat) : ∀ {t j : Nat}, j < t → (wl f t).getD j 0 = wv f j
  | t + 1, j, h => by
    unfold wl
    by_cases e : j = t
    · subst e
      simp [List.getD, List.getElem?_append_right, wl_len, wv]
    · have hj : j < t := by omega
      have := wl_get f hj
      simp only [List.getD] at this ⊢
      rw [List.getElem?_append_left (by rw [wl_len]; exact hj)]
      exact this
theorem wv_lo (f : Nat → Nat) {t : Nat} (h : t < 16) : wv f t = be4 f t := by unfold wv nx; rw [if_pos h]
theorem wv_hi (f : Nat → Nat) {t : Nat} (h : 16 ≤ t) : wv f t = ad (ad (ad (sg1 (wv f (t - 2))) (wv f (t - 7))) (sg0 (wv f (t - 15)))) (wv f (t - 16)) := by
  show nx f t (wl f t) = _
  unfold nx
  rw [if_neg (by omega), wl_get f (by omega), wl_get f (by omega), wl_get f (by omega), wl_get f (by omega)]
theorem wv_lt {f : Nat → Nat} (hf : ∀ j, f j < 256) (t : Nat) : wv f t < B := by
  by_cases h : t < 16
  · rw [wv_lo f h]; exact be4_lt hf t
  · rw [wv_hi f (by omega)]; exact ad_lt _ _

structure St where
  a : Nat
  b : Nat
  c : Nat
  d : Nat
  e : Nat
  f : Nat
  g : Nat
  h : Nat
structure St.Ok (s : St) : Prop where
  a : s.a < B
  b : s.b < B
  c : s.c < B
  d : s.d < B
  e : s.e < B
  f : s.f < B
  g : s.g < B
  h : s.h < B
def t1 (k w : Nat) (s : St) : Nat := ad (ad (ad (ad s.h (S1 s.e)) (ch s.e s.f s.g)) k) w
def t2 (s : St) : Nat := ad (S0 s.a) (mj s.a s.b s.c)
def step (k w : Nat) (s : St) : St := ⟨ad (t1 k w s) (t2 s), s.a, s.b, s.c, ad s.d (t1 k w s), s.e, s.f, s.g⟩
theorem step_ok {k w : Nat} {s : St} (h : s.Ok) : (step k w s).Ok := ⟨ad_lt _ _, h.a, h.b, h.c, ad_lt _ _, h.e, h.f, h.g⟩
def rnd (k w : Nat → Nat) (s : St) : Nat → St | 0 => s | n + 1 => step (k n) (w n) (rnd k w s n)
theorem rnd_ok {k w : Nat → Nat} {s : St} (h : s.Ok) : ∀ n, (rnd k w s n).Ok | 0 => h | n + 1 => step_ok (rnd_ok h n)
def addS (v s : St) : St := ⟨ad v.a s.a, ad v.b s.b, ad v.c s.c, ad v.d s.d, ad v.e s.e, ad v.f s.f, ad v.g s.g, ad v.h s.h⟩
theorem addS_ok (v s : St) : (addS v s).Ok := ⟨ad_lt _ _, ad_lt _ _, ad_lt _ _, ad_lt _ _, ad_lt _ _, ad_lt _ _, ad_lt _ _, ad_lt _ _⟩
/-- The state behind a block. -/
def blk (k : Nat → Nat) (s : St) (f : Nat → Nat) : St := addS (rnd k (wv f) s 64) s
/-- The state behind m blocks. -/
def hs (k : Nat → Nat) (s0 : St) (f : Nat → Nat) : Nat → St | 0 => s0 | m + 1 => blk k (hs k s0 f m) (fun j => f (64 * m + j))
theorem hs_ok {k : Nat → Nat} {s0 : St} {f : Nat → Nat} (h : s0.Ok) : ∀ m, (hs k s0 f m).Ok | 0 => h | _ + 1 => addS_ok _ _
/-- Word i of a state. -/
def St.at (s : St) (i : Nat) : Nat := match i with | 0 => s.a | 1 => s.b | 2 => s.c | 3 => s.d | 4 => s.e | 5 => s.f | 6 => s.g | _ => s.h
theorem St.at_lt {s : St} (h : s.Ok) (i : Nat) : s.at i < B := by
  unfold St.at
  split
  · exact h.a
  · exact h.b
  · exact h.c
  · exact h.d
  · exact h.e
  · exact h.f
  · exact h.g
  · exact h.h
/-- Byte i of a state, the greatest first. -/
def sb (s : St) (i : Nat) : Nat := s.at (i / 4) / 2 ^ (24 - 8 * (i % 4)) % 256
theorem sb_lt (s : St) (i : Nat) : sb s i < 256 := Nat.mod_lt _ (by decide)

/-- The zeros between the mark and the length. -/
def zs (n : Nat) : Nat := (119 - n % 64) % 64
/-- The message of n bytes f, padded. -/
def pd (f : Nat → Nat) (n j : Nat) : Nat := if j < n then f j else if j = n then 128 else if j ≤ n + zs n then 0 else 8 * n / 256 ^ (7 - (j - (n + zs n + 1))) % 256
def blocks (n : Nat) : Nat := (n + zs n + 9) / 64
theorem blocks_eq (n : Nat) : 64 * blocks n = n + zs n + 9 := by unfold blocks zs; omega
/-- The sum, as a state. -/
def sumS (k : Nat → Nat) (s0 : St) (f : Nat → Nat) (n : Nat) : St := hs k s0 (pd f n) (blocks n)

theorem wl_congr {f g : Nat → Nat} (h : ∀ j, j < 64 → f j = g j) : ∀ t, t ≤ 64 → wl f t = wl g t
  | 0, _ => rfl
  | t + 1, ht => by
    have e : nx f t (wl g t) = nx g t (wl g t) := by
      unfold nx
      by_cases h16 : t < 16
      · rw [if_pos h16, if_pos h16]; unfold be4; rw [h (4 * t) (by omega), h (4 * t + 1) (by omega), h (4 * t + 2) (by omega), h (4 * t + 3) (by omega)]
      · rw [if_neg h16, if_neg h16]
    show wl f t ++ [nx f t (wl f t)] = wl g t ++ [nx g t (wl g t)]
    rw [wl_congr h t (by omega), e]
theorem wv_congr {f g : Nat → Nat} (h : ∀ j, j < 64 → f j = g j) {t : Nat} (ht : t < 64) : wv f t = wv g t := by
  have := wl_congr h (t + 1) (by omega)
  have e := congrArg (fun l => l.getD t 0) this
  rwa [wl_get f (Nat.lt_succ_self t), wl_get g (Nat.lt_succ_self t)] at e
theorem rnd_congr {k : Nat → Nat} {s : St} {w w' : Nat → Nat} : ∀ n, (∀ j, j < n → w j = w' j) → rnd k w s n = rnd k w' s n
  | 0, _ => rfl
  | n + 1, h => by unfold rnd; rw [rnd_congr n (fun j hj => h j (by omega)), h n (by omega)]
theorem blk_congr {k : Nat → Nat} {s : St} {f g : Nat → Nat} (h : ∀ j, j < 64 → f j = g j) : blk k s f = blk k s g := by
  unfold blk
  rw [rnd_congr 64 (fun j hj => wv_congr h hj)]
theorem hs_congr {k : Nat → Nat} {s0 : St} {f g : Nat → Nat} : ∀ m, (∀ j, j < 64 * m → f j = g j) → hs k s0 f m = hs k s0 g m
  | 0, _ => rfl
  | m + 1, h => by
    unfold hs
    rw [hs_congr m (fun j hj => h j (by omega))]
    exact blk_congr fun j hj => h _ (by omega)
end Go.Proofs.YtjhfepkpfakemaaDoor.Sh

namespace Go.Proofs.YtjhfepkpfakemaaDoor.Sh
set_option linter.all false
open Go Go.RowKit

/-- n bytes lie behind ⟨b, off⟩. -/
structure BytesAt (w : World) (b off n : Nat) (f : Nat → Nat) : Prop where
  lt : ∀ j, f j < 256
  blk : b < w.heap.size
  cell : ∀ j, j < n → w.cell? ⟨b, off + j, none⟩ = some (.int .u8 ((f j : Nat) : Int))
theorem BytesAt.below {w w' : World} {b off n : Nat} {f : Nat → Nat} (h : BytesAt w b off n f) (hb : Below w.heap.size w w') : BytesAt w' b off n f :=
  ⟨h.lt, Nat.lt_of_lt_of_le h.blk hb.size, fun j hj => (hb.cell (p := ⟨b, off + j, none⟩) h.blk).trans (h.cell j hj)⟩
theorem BytesAt.kept {w w' : World} {C b off n : Nat} {f : Nat → Nat} (h : BytesAt w b off n f) (hb : Below C w w') (hC : b < C) (hs : w.heap.size ≤ w'.heap.size) : BytesAt w' b off n f :=
  ⟨h.lt, Nat.lt_of_lt_of_le h.blk hs, fun j hj => (hb.cell (p := ⟨b, off + j, none⟩) hC).trans (h.cell j hj)⟩
theorem BytesAt.part {w : World} {b off n : Nat} {f : Nat → Nat} (h : BytesAt w b off n f) (k m : Nat) (hk : k + m ≤ n) : BytesAt w b (off + k) m (fun j => f (k + j)) :=
  ⟨fun j => h.lt _, h.blk, fun j hj => by rw [Nat.add_assoc]; exact h.cell (k + j) (by omega)⟩
theorem BytesAt.take {w : World} {b off n : Nat} {f : Nat → Nat} (h : BytesAt w b off n f) (m : Nat) (hk : m ≤ n) : BytesAt w b off m f :=
  ⟨h.lt, h.blk, fun j hj => h.cell j (by omega)⟩

/-- Block b holds the n words g. -/
structure WordsAt (w : World) (b n : Nat) (g : Nat → Nat) : Prop where
  blk : b < w.heap.size
  cell : ∀ j, j < n → w.cell? ⟨b, j, none⟩ = some (.int .u32 ((g j : Nat) : Int))
  fz : ∀ j, w.frozen? ⟨b, j, none⟩ = false
theorem WordsAt.below {w w' : World} {C b n : Nat} {g : Nat → Nat} (h : WordsAt w b n g) (hb : Below C w w') (hC : b < C) (hs : w.heap.size ≤ w'.heap.size) : WordsAt w' b n g :=
  ⟨Nat.lt_of_lt_of_le h.blk hs, fun j hj => (hb.cell (p := ⟨b, j, none⟩) hC).trans (h.cell j hj), fun j => (hb.frozen (p := ⟨b, j, none⟩) hC).trans (h.fz j)⟩
theorem WordsAt.drew {w : World} {b n : Nat} {g : Nat → Nat} (h : WordsAt w b n g) : WordsAt w.drew b n g := ⟨h.blk, h.cell, h.fz⟩
def upd (g : Nat → Nat) (i v j : Nat) : Nat := if j = i then v else g j
theorem WordsAt.set {w : World} {b n i : Nat} {g : Nat → Nat} (h : WordsAt w b n g) (hi : i < n) (v : Nat) : WordsAt (w.setCell ⟨b, i, none⟩ (.int .u32 ((v : Nat) : Int))) b n (upd g i v) := by
  refine ⟨by simpa [World.setCell] using h.blk, fun j hj => ?_, fun j => ?_⟩
  · unfold upd
    by_cases e : j = i
    · subst e
      rw [if_pos rfl]
      exact World.cell?_setCell_same' w _ _ (by rw [h.cell j hj]; rfl)
    · rw [if_neg e]
      rw [World.cell?_setCell_other (w := w) (v := .int .u32 ((v : Nat) : Int)) (a := ⟨b, i, none⟩) (b := ⟨b, j, none⟩) (fun q => e (by injection q with q1 q2; exact q2.symm))]
      exact h.cell j hj
  · rw [World.frozen?_setCell]
    exact h.fz j
/-- n words, as a list of values. -/
def ws (g : Nat → Nat) (n : Nat) : List Value := (List.range n).map fun j => Value.int .u32 ((g j : Nat) : Int)
theorem ws_len (g : Nat → Nat) (n : Nat) : (ws g n).length = n := by simp [ws]
theorem ws_get (g : Nat → Nat) (n j : Nat) (h : j < n) : (ws g n)[j]? = some (.int .u32 ((g j : Nat) : Int)) := by simp [ws, h]
theorem ws_congr {g g' : Nat → Nat} {n : Nat} (h : ∀ j, j < n → g j = g' j) : ws g n = ws g' n := by
  unfold ws
  exact List.map_congr_left fun j hj => by rw [h j (List.mem_range.1 hj)]
theorem heap_alloc_at {w : World} {o : Obj} {g : Nat} (h : w.heap.size = g) : (w.alloc o).heap[g]? = some o := by subst h; exact heap_alloc_new w o
theorem words_lit {w : World} {b n : Nat} {cs : List Value} {t : TypeId} {g : Nat → Nat} (h : w.heap[b]? = some (.cells cs.toArray t (0, 0))) (hc : ∀ j, j < n → cs[j]? = some (.int .u32 ((g j : Nat) : Int))) : WordsAt w b n g := by
  refine ⟨(Array.getElem?_eq_some_iff.1 h).1, fun j hj => ?_, fun j => ?_⟩
  · rw [cell_of_row w b j _ _ _ h, List.getElem?_toArray]
    exact hc j hj
  · exact frozen_of_row w b j _ _ h

theorem run_loadVar_at {P : Program} (w : World) (a : Addr) (ty e : TypeId) (m : Nat) (cs : List Value) (hc : ∀ j v, cs[j]? = some v → w.cell? (a.add j) = some v)
    (hu : P.underlying ty = some (.array m e)) (hi : (P.info? ty).map (·.size) = some cs.length) :
    (loadVar ty a).run P w = .ok (.agg cs.toArray) w := by
  have hl : (loadCells a cs.length).run P w = .ok cs.toArray w := run_loadCells_list (P := P) w a cs hc
  have hagg : (isAgg ty).run P w = .ok true w := by
    unfold isAgg
    rw [Sem.run_bind, run_underlying hu w]
    rfl
  cases hq : P.info? ty with
  | none => rw [hq] at hi; cases hi
  | some i =>
    have hs : i.size = cs.length := by rw [hq] at hi; simpa using hi
    simp [loadVar, Sem.run_bind, hagg, sizeOf, typeInfo, hq, hs, hl]
/-- A whole array of words is read. -/
theorem load_words {w : World} {b n : Nat} {g : Nat → Nat} {ty e : TypeId} {m : Nat} (h : WordsAt w b n g) (hu : Tryd.prog.underlying ty = some (.array m e))
    (hi : (Tryd.prog.info? ty).map (·.size) = some n) : (Instr.loadAt ty (.pointer (some ⟨b, 0, none⟩))).run Tryd.prog w = .ok (.agg (ws g n).toArray) w := by
  have := run_loadVar_at (P := Tryd.prog) w ⟨b, 0, none⟩ ty e m (ws g n) (fun j v hj => by
    have hjn : j < n := by
      have := (List.getElem?_eq_some_iff.1 hj).1
      rwa [ws_len] at this
    rw [ws_get g n j hjn] at hj
    cases hj
    have e : (⟨b, 0, none⟩ : Addr).add j = ⟨b, 0 + j, none⟩ := by unfold Addr.add; split <;> simp_all
    rw [e, Nat.zero_add]
    exact h.cell j hjn) hu (by rw [ws_len]; exact hi)
  simp only [Instr.loadAt, Instr.sureAddr, Sem.run_bind, Sem.run_pure, Result.andThen_ok, this]
theorem WordsAt.there {w : World} {b n : Nat} {g : Nat → Nat} (h : WordsAt w b n g) : w.there b 0 n := fun j hj => by
  rw [Nat.zero_add]
  exact ⟨by rw [h.cell j hj]; rfl, h.fz j⟩
theorem there_ws {w : World} {b n : Nat} {g g' : Nat → Nat} (h : WordsAt w b n g) : w.there b 0 (ws g' n).toArray.size := by rw [List.size_toArray, ws_len]; exact h.there
theorem info_ws {ty : TypeId} {n : Nat} {g : Nat → Nat} (hi : (Tryd.prog.info? ty).map (·.size) = some n) : (Tryd.prog.info? ty).map (·.size) = some (ws g n).toArray.size := by rw [List.size_toArray, ws_len]; exact hi
theorem ws_one (g : Nat → Nat) (n : Nat) : (ws g n).toArray.all (·.oneCell') = true := all_oneCell_toArray fun v hv => by
  simp only [ws, List.mem_map] at hv
  obtain ⟨j, _, rfl⟩ := hv
  rfl
theorem below_setCells {B b : Nat} (hb : B ≤ b) : ∀ (vs : List Value) (o : Nat) (w0 w : World), Below B w0 w → Below B w0 (w.setCells b o vs)
  | [], _, _, _, h => h
  | v :: r, o, w0, w, h => by
    unfold World.setCells
    exact below_setCells hb r _ _ _ (h.setCell hb v)
theorem size_setCells (b : Nat) : ∀ (vs : List Value) (o : Nat) (w : World), (w.setCells b o vs).heap.size = w.heap.size
  | [], _, _ => rfl
  | v :: r, o, w => by
    unfold World.setCells
    rw [size_setCells b r]
    simp [World.setCell]
theorem WordsAt.stored {w : World} {b n : Nat} {g g' : Nat → Nat} (h : WordsAt w b n g') : WordsAt (w.setCells b 0 (ws g n)) b n g := by
  refine ⟨by rw [size_setCells]; exact h.blk, fun j hj => ?_, fun j => ?_⟩
  · have := World.rangeAt_setCells_same w b 0 (ws g n) (by rw [ws_len]; exact h.there) j _ (ws_get g n j hj)
    rwa [Nat.zero_add] at this
  · rw [World.frozen?_setCells]
    exact h.fz j
theorem wpList_load_of {P : Program} {ops : Array Oper} {rest : List Oper} {o : Oper} {a : Act} {w : World} {Q : Exit → Act → World → Prop} (hgd : o.guard = none) (ty : TypeId) (x : Operand) (ho : o.op = .load ty x)
    (p v : Value) (hx : a.eval x = p) (hv : (Instr.loadAt ty p).run P w = .ok v w) (h : wpList P ops Q rest (a.put o.dst v) w) : wpList P ops Q (o :: rest) a w :=
  wpList_plain hgd fun K hK => by
    unfold Oper.wp execOp
    simp only [ho, hx, Sem.run_bind, Sem.run_pure, Result.andThen_ok, hv]
    exact hK _ _ h
theorem exec_load {P : Program} {ρ : Operand → Value} {o : Oper} {w : World} {ty : TypeId} {x : Operand} {p v : Value} (ho : o.op = .load ty x) (hx : ρ x = p) (hv : (Instr.loadAt ty p).run P w = .ok v w) :
    (execOp ρ o).run P w = .ok (.value v) w := by
  unfold execOp
  simp only [ho, hx, Sem.run_bind, Sem.run_pure, Result.andThen_ok, hv]
/-- A function whose one result lies in a cell: an array of words. -/
theorem results_words {fn : Func} {x : Tmp} {ty e : TypeId} {m n b : Nat} {g : Nat → Nat} {w : World} {tmps : Array Value} (hr : fn.results = #[.cell x ty]) (hx : tmps.getD x undef = .pointer (some ⟨b, 0, none⟩)) (h : WordsAt w b n g)
    (hu : Tryd.prog.underlying ty = some (.array m e)) (hi : (Tryd.prog.info? ty).map (·.size) = some n) : (results fn tmps).run Tryd.prog w = .ok (.agg (ws g n).toArray) w := by
  have hl := load_words h hu hi
  simp only [Instr.loadAt, Instr.sureAddr, Sem.run_bind, Sem.run_pure, Result.andThen_ok] at hl
  have hx' : tmps[x]?.getD undef = .pointer (some ⟨b, 0, none⟩) := by simpa using hx
  simp [results, hr, hx', Sem.run_bind, asAddr, hl]
theorem wpList_copy_row {P : Program} {w : World} {ops : Array Oper} {rest : List Oper} {o : Oper} {a : Act} {Q : Exit → Act → World → Prop} (hgd : o.guard = none) (d s : Operand) (dT sT : TypeId)
    (ho : o.op = .call { callee := .builtin .copy, args := #[d, s], argTypes := #[dT, sT] }) (elem : TypeId) (hu : P.underlying dT = some (.slice elem)) (hsz : (P.info? elem).map (·.size) = some 1)
    (g off dLen dCap : Nat) (ad : Addr) (sLen sCap : Nat) (hd : a.eval d = .slice (some ⟨g, off, none⟩) dLen dCap) (hs : a.eval s = .slice (some ad) sLen sCap)
    (cur : List Value) (t : TypeId) (hg : w.heap[g]? = some (.cells cur.toArray t (0, 0))) (cs : List Value) (hn : cs.length = Nat.min sLen dLen)
    (hsrc : ∀ j v, cs[j]? = some v → w.cell? (ad.add j) = some v) (hfit : off + cs.length ≤ cur.length) (h1 : ∀ v ∈ cs, v.oneCell' = true)
    (h : ∀ w', Hid (w'.heap[g]? = some (.cells (splice cur off cs).toArray t (0, 0))) → Hid (∀ k, k ≠ g → w'.heap[k]? = w.heap[k]?) → w'.heap.size = w.heap.size → Hid (∀ B, B ≤ g → Below B w w') → wpList P ops Q rest (a.put o.dst (goInt cs.length)) w') :
    wpList P ops Q (o :: rest) a w := by
  refine wpList_copy_own hgd d s dT sT ho elem hu hsz g off dLen dCap ad sLen sCap hd hs cur.toArray t hg cs hn hsrc (by simpa using hfit) h1 ?_
  refine h _ ?_ (fun k hk => setRow_other w g k _ hk) (by simp [World.setRow]) (fun B hB => below_setRow (Below.refl _ _) hB _)
  show _ = _
  rw [setRow_heap w g _ _ t _ hg]
  simp [splice]


/-- The bytes f, as a list of values. -/
def fl (f : Nat → Nat) (n : Nat) : List Value := (List.range n).map fun j => Value.int .u8 ((f j : Nat) : Int)
theorem fl_len (f : Nat → Nat) (n : Nat) : (fl f n).length = n := by simp [fl]
theorem fl_get (f : Nat → Nat) (n j : Nat) (h : j < n) : (fl f n)[j]? = some (.int .u8 ((f j : Nat) : Int)) := by simp [fl, h]
theorem fl_one (f : Nat → Nat) (n : Nat) : ∀ v ∈ fl f n, v.oneCell' = true := fun v hv => by
  simp only [fl, List.mem_map] at hv
  obtain ⟨j, _, rfl⟩ := hv
  rfl
theorem fl_congr {f g : Nat → Nat} {n : Nat} (h : ∀ j, j < n → f j = g j) : fl f n = fl g n := by
  unfold fl
  exact List.map_congr_left fun j hj => by rw [h j (List.mem_range.1 hj)]
theorem fl_add (f : Nat → Nat) (m n : Nat) : fl f m ++ fl (fun j => f (m + j)) n = fl f (m + n) := by
  apply List.ext_getElem?
  intro j
  by_cases h1 : j < m
  · rw [List.getElem?_append_left (by rw [fl_len]; exact h1), fl_get f m j h1, fl_get f (m + n) j (by omega)]
  · rw [List.getElem?_append_right (by rw [fl_len]; omega), fl_len]
    by_cases h2 : j < m + n
    · rw [fl_get _ n (j - m) (by omega), fl_get f (m + n) j h2, show m + (j - m) = j by omega]
    · rw [List.getElem?_eq_none (by rw [fl_len]; omega), List.getElem?_eq_none (by rw [fl_len]; omega)]

/-- A slice of n bytes: nil, or at an address. -/
structure SliceAt (w : World) (a : Option Addr) (n c : Nat) (f : Nat → Nat) : Prop where
  lt : ∀ j, f j < 256
  cap : n ≤ c
  at_ : (a = none ∧ n = 0 ∧ c = 0) ∨ ∃ ad, a = some ad ∧ (0 < n → ∃ b off, ad = ⟨b, off, none⟩ ∧ BytesAt w b off n f)
theorem SliceAt.below {w w' : World} {a : Option Addr} {n c : Nat} {f : Nat → Nat} (h : SliceAt w a n c f) (hb : Below w.heap.size w w') : SliceAt w' a n c f :=
  ⟨h.lt, h.cap, h.at_.imp id fun ⟨ad, e, k⟩ => ⟨ad, e, fun hn => by obtain ⟨b, off, e2, hB⟩ := k hn; exact ⟨b, off, e2, hB.below hb⟩⟩⟩
theorem BytesAt.src {w : World} {b off n : Nat} {f : Nat → Nat} (h : BytesAt w b off n f) : ∀ j v, (fl f n)[j]? = some v → w.cell? ((⟨b, off, none⟩ : Addr).add j) = some v := fun j v hv => by
  have hj : j < n := by have := (List.getElem?_eq_some_iff.1 hv).1; rwa [fl_len] at this
  rw [fl_get f n j hj] at hv
  cases hv
  have e : (⟨b, off, none⟩ : Addr).add j = ⟨b, off + j, none⟩ := by unfold Addr.add; split <;> simp_all
  rw [e]
  exact h.cell j hj
theorem infoByte : (Tryd.prog.info? 5).map (fun i => (i.zero, i.size, i.bytes)) = some (some (.int .u8 0), 1, 1) := by kernel_rfl
end Go.Proofs.YtjhfepkpfakemaaDoor.Sh

namespace Go.Proofs.YtjhfepkpfakemaaDoor.Sh
set_option linter.all false
open Go Go.RowKit

def Kl : List Nat := [1116352408, 1899447441, 3049323471, 3921009573, 961987163, 1508970993, 2453635748, 2870763221, 3624381080, 310598401, 607225278, 1426881987, 1925078388, 2162078206, 2614888103, 3248222580, 3835390401, 4022224774, 264347078, 604807628, 770255983, 1249150122, 1555081692, 1996064986, 2554220882, 2821834349, 2952996808, 3210313671, 3336571891, 3584528711, 113926993, 338241895, 666307205, 773529912, 1294757372, 1396182291, 1695183700, 1986661051, 2177026350, 2456956037, 2730485921, 2820302411, 3259730800, 3345764771, 3516065817, 3600352804, 4094571909, 275423344, 430227734, 506948616, 659060556, 883997877, 958139571, 1322822218, 1537002063, 1747873779, 1955562222, 2024104815, 2227730452, 2361852424, 2428436474, 2756734187, 3204031479, 3329325298]
/-- Round constant t. -/
def K (t : Nat) : Nat := Kl.getD t 0
theorem K_lt (t : Nat) : K t < B := by
  unfold K
  by_cases h : t < 64
  · have : ∀ t, t < 64 → Kl.getD t 0 < B := by decide
    exact this t h
  · rw [List.getD_eq_getElem?_getD, List.getElem?_eq_none (by show 64 ≤ t; omega)]
    decide
def s0 : St := ⟨1779033703, 3144134277, 1013904242, 2773480762, 1359893119, 2600822924, 528734635, 1541459225⟩
theorem s0_ok : s0.Ok := ⟨by decide, by decide, by decide, by decide, by decide, by decide, by decide, by decide⟩

/-- The two variables of the package hold what the program's text lays. -/
structure Laid (w : World) : Prop where
  k : ∀ j, j < 64 → w.cell? ⟨2, j, none⟩ = some (.int .u32 ((K j : Nat) : Int))
  s : ∀ j, j < 8 → w.cell? ⟨1, j, none⟩ = some (.int .u32 ((s0.at j : Nat) : Int))
theorem lt_of_cell {w : World} {b j : Nat} {v : Value} (h : w.cell? ⟨b, j, none⟩ = some v) : b < w.heap.size := World.block_lt_of_cell? w _ h
theorem Laid.below {C : Nat} {w w' : World} (h : Laid w) (hb : Below C w w') (hC : w.heap.size ≤ C) : Laid w' :=
  ⟨fun j hj => (hb.cell (p := ⟨_, j, none⟩) (Nat.lt_of_lt_of_le (lt_of_cell (h.k j hj)) hC)).trans (h.k j hj), fun j hj => (hb.cell (p := ⟨_, j, none⟩) (Nat.lt_of_lt_of_le (lt_of_cell (h.s j hj)) hC)).trans (h.s j hj)⟩
theorem Laid.step {w w' : World} (h : Laid w) (hb : Below w.heap.size w w') : Laid w' := h.below hb (Nat.le_refl _)
theorem Laid.kept {w w' : World} {C : Nat} (h : Laid w) (hb : Below C w w') (hk : 2 < C) (hs : 1 < C) : Laid w' :=
  ⟨fun j hj => (hb.cell (p := ⟨_, j, none⟩) hk).trans (h.k j hj), fun j hj => (hb.cell (p := ⟨_, j, none⟩) hs).trans (h.s j hj)⟩

/-- A state, as a value. -/
abbrev stV (s : St) : Value := .agg #[.int .u32 ((s.a : Nat) : Int), .int .u32 ((s.b : Nat) : Int), .int .u32 ((s.c : Nat) : Int), .int .u32 ((s.d : Nat) : Int), .int .u32 ((s.e : Nat) : Int), .int .u32 ((s.f : Nat) : Int), .int .u32 ((s.g : Nat) : Int), .int .u32 ((s.h : Nat) : Int)]
theorem stV_ws (s : St) : stV s = .agg (ws s.at 8).toArray := rfl

/-- Word i of an array of words that stands in the frame. -/
theorem size_u32 (w : World) : (sizeOf 93).run Tryd.prog w = .ok 1 w := by kernel_rfl
theorem run_index_ws {ty : TypeId} {n : Nat} (g : Nat → Nat) (k : Nat) (hk : k < n) (hu : Tryd.prog.underlying ty = some (.array n 93)) (w : World) :
    (Instr.index ty (.agg (ws g n).toArray) (.int .i64 (k : Int))).run Tryd.prog w = .ok (.int .u32 ((g k : Nat) : Int)) w := by
  have h0 : (0 : Int) ≤ (k : Int) ∧ (k : Int) < (n : Int) := by omega
  have hg : (ws g n).toArray[k]? = some (.int .u32 ((g k : Nat) : Int)) := by rw [List.getElem?_toArray]; exact ws_get g n k hk
  simp [Instr.index, asIntOf, run_underlying hu, h0.2, size_u32, part, Sem.run_bind, isAgg, run_underlying Tryd.underlying93]
  rw [if_pos hk, ws_get g n k hk]
  rfl
theorem wpList_index_of {P : Program} {ops : Array Oper} {rest : List Oper} {o : Oper} {a : Act} {w : World} {Q : Exit → Act → World → Prop} (hgd : o.guard = none) (ty : TypeId) (x ix : Operand) (ho : o.op = .index ty x ix)
    (p i v : Value) (hx : a.eval x = p) (hi : a.eval ix = i) (hv : (Instr.index ty p i).run P w = .ok v w) (h : wpList P ops Q rest (a.put o.dst v) w) : wpList P ops Q (o :: rest) a w :=
  wpList_plain hgd fun K hK => by
    unfold Oper.wp execOp
    simp only [ho, hx, hi, Sem.run_bind, Sem.run_pure, Result.andThen_ok, hv]
    exact hK _ _ h

/-- Block b is the words g and nothing else. -/
def RowW (w : World) (b n : Nat) (g : Nat → Nat) (T : TypeId) : Prop := w.heap[b]? = some (.cells (ws g n).toArray T (0, 0))
theorem RowW.words {w : World} {b n : Nat} {g : Nat → Nat} {T : TypeId} (h : RowW w b n g T) : WordsAt w b n g := words_lit h (fun j hj => ws_get g n j hj)
theorem RowW.drew {w : World} {b n : Nat} {g : Nat → Nat} {T : TypeId} (h : RowW w b n g T) : RowW w.drew b n g T := h
theorem ws_set (g : Nat → Nat) (n i v : Nat) (hi : i < n) : (ws g n).set i (.int .u32 ((v : Nat) : Int)) = ws (upd g i v) n := by
  apply List.ext_getElem?
  intro j
  by_cases hj : j < n
  · rw [ws_get _ n j hj, List.getElem?_set]
    unfold upd
    by_cases e : i = j
    · subst e; rw [if_pos rfl, if_pos (by rw [ws_len]; exact hi), if_pos rfl]
    · rw [if_neg e, if_neg (fun q => e q.symm), ws_get g n j hj]
  · rw [List.getElem?_eq_none (by rw [List.length_set, ws_len]; omega), List.getElem?_eq_none (by rw [ws_len]; omega)]
theorem RowW.set {w : World} {b n i : Nat} {g : Nat → Nat} {T : TypeId} (h : RowW w b n g T) (hi : i < n) (v : Nat) : RowW (w.setCell ⟨b, i, none⟩ (.int .u32 ((v : Nat) : Int))) b n (upd g i v) T := by
  unfold RowW
  rw [heap_setCell_same w b i _ T _ h, List.setIfInBounds_toArray, ws_set g n i v hi]
theorem RowW.below {w w' : World} {C b n : Nat} {g : Nat → Nat} {T : TypeId} (h : RowW w b n g T) (hb : Below C w w') (hC : b < C) : RowW w' b n g T := (hb.block b hC).trans h
theorem RowW.congr {w : World} {b n : Nat} {g g' : Nat → Nat} {T : TypeId} (h : RowW w b n g T) (e : ∀ j, j < n → g j = g' j) : RowW w b n g' T := by
  unfold RowW at *
  rw [← ws_congr e]
  exact h
end Go.Proofs.YtjhfepkpfakemaaDoor.Sh

namespace Go.Proofs.YtjhfepkpfakemaaDoor.Sh
set_option linter.all false
open Go Go.RowKit

theorem pb_or {f : Nat → Nat} (hf : ∀ j, f j < 256) (t : Nat) {n : Nat} (hn : n < 4) :
    bits BinOp.or IntKind.u32 (((pb f t n : Nat) : Int) * 256 % 4294967296) (((f (4 * t + n) : Nat) : Int) % 4294967296) = ((pb f t (n + 1) : Nat) : Int) := by
  have h1 := hf (4 * t + n)
  have h2 := pb_B hf t (k := n + 1) (by omega)
  have e : pb f t (n + 1) = pb f t n * 256 + f (4 * t + n) := rfl
  rw [e] at h2 ⊢
  clear e
  generalize pb f t n = p at h2 ⊢
  generalize f (4 * t + n) = q at h1 h2 ⊢
  unfold B at h2
  have l1 : p * 256 < 4294967296 := Nat.lt_of_le_of_lt (Nat.le_add_right _ q) h2
  have l2 : q < 4294967296 := Nat.lt_of_le_of_lt (Nat.le_add_left q _) h2
  have e1 : ((p : Int) * 256 % 4294967296) = ((p * 256 : Nat) : Int) := by
    rw [Int.emod_eq_of_lt (by omega) (by omega)]; rfl
  have e2 : ((q : Int) % 4294967296) = ((q : Nat) : Int) := Int.emod_eq_of_lt (by omega) (by omega)
  rw [e1, e2, u32_or_nat (p * 256) q l1 l2]
  have := Nat.two_pow_add_eq_or_of_lt (b := q) (i := 8) (by omega) p
  rw [show (p * 256 : Nat) = 2 ^ 8 * p by omega, ← this]

theorem xor_val {x y : Nat} (hx : x < B) (hy : y < B) : bits BinOp.xor IntKind.u32 ((x : Nat) : Int) ((y : Nat) : Int) = ((x ^^^ y : Nat) : Int) := u32_xor_nat x y hx hy
theorem add4_val (p q r s : Nat) : (((p : Nat) : Int) + ((q : Nat) : Int) + ((r : Nat) : Int) + ((s : Nat) : Int)) % 4294967296 = ((ad (ad (ad p q) r) s : Nat) : Int) := by
  unfold ad B
  omega
theorem div_val (x n : Nat) : ((x : Nat) : Int) / ((n : Nat) : Int) = ((x / n : Nat) : Int) := rfl
theorem sched_val {x14 x9 x1 x0 : Nat} (h14 : x14 < B) (h1 : x1 < B) :
    (bits BinOp.xor IntKind.u32 (bits BinOp.xor IntKind.u32 ((rr 17 x14 : Nat) : Int) ((rr 19 x14 : Nat) : Int)) (((x14 : Nat) : Int) / 1024) + ((x9 : Nat) : Int) +
      bits BinOp.xor IntKind.u32 (bits BinOp.xor IntKind.u32 ((rr 7 x1 : Nat) : Int) ((rr 18 x1 : Nat) : Int)) (((x1 : Nat) : Int) / 8) + ((x0 : Nat) : Int)) % 4294967296 = ((ad (ad (ad (sg1 x14) x9) (sg0 x1)) x0 : Nat) : Int) := by
  have l17 := rr_lt (n := 17) (by decide) h14
  have l19 := rr_lt (n := 19) (by decide) h14
  have l7 := rr_lt (n := 7) (by decide) h1
  have l18 := rr_lt (n := 18) (by decide) h1
  have e1 : (((x14 : Nat) : Int) / 1024) = ((x14 / 1024 : Nat) : Int) := rfl
  have e2 : (((x1 : Nat) : Int) / 8) = ((x1 / 8 : Nat) : Int) := rfl
  rw [e1, e2, xor_val l17 l19, xor_val (xor_lt l17 l19) (Nat.lt_of_le_of_lt (Nat.div_le_self _ _) h14), xor_val l7 l18, xor_val (xor_lt l7 l18) (Nat.lt_of_le_of_lt (Nat.div_le_self _ _) h1)]
  exact add4_val (sg1 x14) x9 (sg0 x1) x0

set_option maxRecDepth 100000 in
set_option maxHeartbeats 8000000 in
theorem schedule_c (f : Nat → Nat) (b off c : Nat) (hc : 64 ≤ c) (w : World) (hB : BytesAt w b off 64 f) :
    Calls Tryd.prog 85 #[.slice (some ⟨b, off, none⟩) 64 c] w fun e w' => e = .returned (.agg (ws (wv f) 64).toArray) ∧ Below w.heap.size w w' := by
  have HB := Lib.hid hB
  clear hB
  go_enter Tryd.func85, Tryd.ntmps85
  go_wp2_with fail
  go_loopw [8] (fun i wr => ∃ (t : Nat) (g : Nat → Nat), t ≤ 64 ∧ i = .int .i64 (t : Int) ∧ Hid (WordsAt wr w.heap.size 64 g ∧ (∀ j, j < t → g j = wv f j) ∧ (∀ j, t ≤ j → g j = 0) ∧ Below w.heap.size w wr)) (fun i _ => 64 - (intOf i).toNat)
  case atStart =>
    refine ⟨0, fun _ => 0, by omega, rfl, words_lit (heap_alloc_new w _) (fun j hj => ?_), fun j hj => absurd hj (Nat.not_lt_zero _), fun _ _ => rfl, (Below.refl _ _).alloc (Nat.le_refl _) _⟩
    show (List.replicate 64 (Value.int .u32 0))[j]? = _
    rw [List.getElem?_replicate, if_pos hj]
    rfl
  case round =>
    obtain ⟨t, g, ht, rfl, H⟩ := hrel
    by_cases h16 : t < 16
    · have h4 : (4 * (t : Int) + 4) ≤ (c : Int) := by omega
      have h64 : (t : Int) < 64 := by omega
      go_wp2_with fail
      have hdk : decide ((t : Int) < 16) = true := decide_eq_true (by omega)
      simp only [hdk]
      clear hdk h4
      go_loopw [21] (fun i wr => ∃ (n : Nat) (g : Nat → Nat), n ≤ 4 ∧ i = .int .i64 (n : Int) ∧ Hid (WordsAt wr w.heap.size 64 g ∧ (∀ j, j < t → g j = wv f j) ∧ g t = pb f t n ∧ (∀ j, t < j → g j = 0) ∧ Below w.heap.size w wr)) (fun i _ => 4 - (intOf i).toNat)
      case atStart => exact ⟨0, g, by omega, rfl, H.out.1, H.out.2.1, H.out.2.2.1 t (Nat.le_refl _), fun j hj => H.out.2.2.1 j (by omega), H.out.2.2.2⟩
      case round =>
        obtain ⟨n, g', hn, rfl, H2⟩ := hrel
        by_cases hlt : n < 4
        · have hcell : wr.cell? ⟨b, off + 4 * t + n, none⟩ = some (.int .u8 ((f (4 * t + n) : Nat) : Int)) := by
            rw [Nat.add_assoc]
            exact (H2.out.2.2.2.2.cell (p := ⟨b, off + (4 * t + n), none⟩) HB.out.blk).trans (HB.out.cell _ (by omega))
          have hw := H2.out.1.cell t (by omega)
          rw [H2.out.2.2.1] at hw
          have hfz := H2.out.1.fz t
          have hq := pb_or HB.out.lt t hlt
          go_wp2_with fail
          go_roundw
          case rel =>
            refine ⟨n + 1, upd g' t (pb f t (n + 1)), by omega, by go_num, H2.out.1.set (by omega) _, fun j hj => ?_, ?_, fun j hj => ?_, H2.out.2.2.2.2.setCell (Nat.le_refl _) _⟩
            · unfold upd; rw [if_neg (by omega)]; exact H2.out.2.1 j hj
            · unfold upd; rw [if_pos rfl]
            · unfold upd; rw [if_neg (by omega)]; exact H2.out.2.2.2.1 j hj
          case measure => simp [intOf]; omega
        · obtain rfl : n = 4 := by omega
          go_wp2_with fail
          go_roundw
          case rel =>
            refine ⟨t + 1, g', by omega, by go_num, H2.out.1, fun j hj => ?_, fun j hj => H2.out.2.2.2.1 j (by omega), H2.out.2.2.2.2⟩
            by_cases e : j = t
            · subst e; rw [H2.out.2.2.1, pb_four, wv_lo f h16]
            · exact H2.out.2.1 j (by omega)
          case measure => simp [intOf]; omega
    · by_cases hlt : t < 64
      · obtain ⟨a, rfl⟩ : ∃ a, t = a + 16 := ⟨t - 16, by omega⟩
        have ha : (a : Int) < 48 := by omega
        have c14 := H.out.1.cell (a + 14) (by omega)
        have c9 := H.out.1.cell (a + 9) (by omega)
        have c1 := H.out.1.cell (a + 1) (by omega)
        have c0 := H.out.1.cell a (by omega)
        rw [H.out.2.1 _ (by omega)] at c14 c9 c1 c0
        obtain ⟨p14, q14⟩ : ∃ p, p = a + 14 := ⟨_, rfl⟩
        obtain ⟨p9, q9⟩ : ∃ p, p = a + 9 := ⟨_, rfl⟩
        obtain ⟨p1, q1⟩ : ∃ p, p = a + 1 := ⟨_, rfl⟩
        have w14 : IntKind.i64.wrap ((a : Int) + 16 - 2) = (p14 : Int) := by rw [q14, IntKind.wrap_i64]; omega
        have w9 : IntKind.i64.wrap ((a : Int) + 16 - 7) = (p9 : Int) := by rw [q9, IntKind.wrap_i64]; omega
        have w1 : IntKind.i64.wrap ((a : Int) + 16 - 15) = (p1 : Int) := by rw [q1, IntKind.wrap_i64]; omega
        have w0 : IntKind.i64.wrap (a : Int) = (a : Int) := by rw [IntKind.wrap_i64]; omega
        have b14 : (p14 : Int) < 64 := by omega
        have b9 : (p9 : Int) < 64 := by omega
        have b1 : (p1 : Int) < 64 := by omega
        have b0 : (a : Int) < 64 := by omega
        rw [← q14] at c14
        rw [← q9] at c9
        rw [← q1] at c1
        have Q14 := Lib.hid q14
        have Q9 := Lib.hid q9
        have Q1 := Lib.hid q1
        clear q14 q9 q1
        have hw := H.out.1.cell (a + 16) (by omega)
        have hfz := H.out.1.fz (a + 16)
        have hfd : wr.drew.drew.frozen? ⟨w.heap.size, a + 16, none⟩ = false := hfz
        obtain ⟨x14, e14⟩ : ∃ x, x = wv f p14 := ⟨_, rfl⟩
        obtain ⟨x9, e9⟩ : ∃ x, x = wv f p9 := ⟨_, rfl⟩
        obtain ⟨x1, e1⟩ : ∃ x, x = wv f p1 := ⟨_, rfl⟩
        obtain ⟨x0, e0⟩ : ∃ x, x = wv f a := ⟨_, rfl⟩
        rw [← e14] at c14
        rw [← e9] at c9
        rw [← e1] at c1
        rw [← e0] at c0
        have E14 := Lib.hid e14
        have E9 := Lib.hid e9
        have E1 := Lib.hid e1
        have E0 := Lib.hid e0
        have l14 : Hid (x14 < B) := by rw [e14]; exact wv_lt HB.out.lt _
        have l9 : Hid (x9 < B) := by rw [e9]; exact wv_lt HB.out.lt _
        have l1 : Hid (x1 < B) := by rw [e1]; exact wv_lt HB.out.lt _
        have l0 : Hid (x0 < B) := by rw [e0]; exact wv_lt HB.out.lt _
        clear e14 e9 e1 e0
        go_wp2_with fail
        refine region_mix 9 [false, false, false, false, false, false, false, false, false] (fun w' => w' = World.drew _) (by kernel_rfl) (by kernel_rfl) (by intro _ _ d _ _ h; cases d <;> exact h) rfl ?_
        simp only [List.take_succ_cons, List.take_zero, List.drop_succ_cons, List.drop_zero]
        with_reducible refine mix_v ?_ ?_ ?_
        · rfl
        · rfl
        apply Exists.intro
        refine ⟨fun w' hC => ?_, ?_⟩
        · subst hC
          go_simp
          rfl
        try simp only [Act.put, List.setIfInBounds_toArray, List.set_cons_zero, List.set_cons_succ, List.tail_cons]
        with_reducible refine mix_v ?_ ?_ ?_
        · rfl
        · rfl
        apply Exists.intro
        refine ⟨fun w' hC => ?_, ?_⟩
        · subst hC
          go_simp
          rfl
        try simp only [Act.put, List.setIfInBounds_toArray, List.set_cons_zero, List.set_cons_succ, List.tail_cons]
        with_reducible refine mix_v ?_ ?_ ?_
        · rfl
        · rfl
        apply Exists.intro
        refine ⟨fun w' hC => ?_, ?_⟩
        · subst hC
          go_simp
          rfl
        try simp only [Act.put, List.setIfInBounds_toArray, List.set_cons_zero, List.set_cons_succ, List.tail_cons]
        with_reducible refine mix_v ?_ ?_ ?_
        · rfl
        · rfl
        apply Exists.intro
        refine ⟨fun w' hC => ?_, ?_⟩
        · subst hC
          go_simp
          rfl
        try simp only [Act.put, List.setIfInBounds_toArray, List.set_cons_zero, List.set_cons_succ, List.tail_cons]
        with_reducible refine mix_v ?_ ?_ ?_
        · rfl
        · rfl
        apply Exists.intro
        refine ⟨fun w' hC => ?_, ?_⟩
        · subst hC
          go_simp
          rfl
        try simp only [Act.put, List.setIfInBounds_toArray, List.set_cons_zero, List.set_cons_succ, List.tail_cons]
        with_reducible refine mix_v ?_ ?_ ?_
        · rfl
        · rfl
        apply Exists.intro
        refine ⟨fun w' hC => ?_, ?_⟩
        · subst hC
          go_simp
          rfl
        try simp only [Act.put, List.setIfInBounds_toArray, List.set_cons_zero, List.set_cons_succ, List.tail_cons]
        with_reducible refine mix_v ?_ ?_ ?_
        · rfl
        · rfl
        apply Exists.intro
        refine ⟨fun w' hC => ?_, ?_⟩
        · subst hC
          go_simp
          rfl
        try simp only [Act.put, List.setIfInBounds_toArray, List.set_cons_zero, List.set_cons_succ, List.tail_cons]
        with_reducible refine mix_v ?_ ?_ ?_
        · rfl
        · rfl
        apply Exists.intro
        refine ⟨fun w' hC => ?_, ?_⟩
        · subst hC
          go_simp
          rfl
        try simp only [Act.put, List.setIfInBounds_toArray, List.set_cons_zero, List.set_cons_succ, List.tail_cons]
        with_reducible refine mix_v ?_ ?_ ?_
        · rfl
        · rfl
        apply Exists.intro
        refine ⟨fun w' hC => ?_, ?_⟩
        · subst hC
          go_simp
          rfl
        try simp only [Act.put, List.setIfInBounds_toArray, List.set_cons_zero, List.set_cons_succ, List.tail_cons]
        refine mix_nil ?_
        rintro _ rfl
        go_wp2_with fail
        refine region_mix 29 [false, false, false, false, false, false, false, false, false, false, false, false, false, false, false, false, false, false, false, false, false, false, false, false, false, false, false, false, false] (fun w' => w' = World.drew _) (by kernel_rfl) (by kernel_rfl) (by intro _ _ d _ _ h; cases d <;> exact h) rfl ?_
        simp only [List.take_succ_cons, List.take_zero, List.drop_succ_cons, List.drop_zero]
        with_reducible refine mix_v ?_ ?_ ?_
        · rfl
        · rfl
        apply Exists.intro
        refine ⟨fun w' hC => ?_, ?_⟩
        · subst hC
          go_simp
          rfl
        try simp only [Act.put, List.setIfInBounds_toArray, List.set_cons_zero, List.set_cons_succ, List.tail_cons]
        with_reducible refine mix_v ?_ ?_ ?_
        · rfl
        · rfl
        apply Exists.intro
        refine ⟨fun w' hC => ?_, ?_⟩
        · subst hC
          go_simp
          rfl
        try simp only [Act.put, List.setIfInBounds_toArray, List.set_cons_zero, List.set_cons_succ, List.tail_cons]
        with_reducible refine mix_c ?_ ?_ ?_
        · rfl
        · rfl
        apply Exists.intro
        apply Exists.intro
        apply Exists.intro
        refine ⟨fun w' hC => ?_, fun w' hC => ?_, ?_⟩
        · subst hC
          go_simp
          exact ⟨rfl, rfl⟩
        · subst hC
          exact same_of (rot_c 17 x14 (by decide) (by decide) l14.out _)
        try simp only [Act.put, List.setIfInBounds_toArray, List.set_cons_zero, List.set_cons_succ, List.tail_cons]
        with_reducible refine mix_v ?_ ?_ ?_
        · rfl
        · rfl
        apply Exists.intro
        refine ⟨fun w' hC => ?_, ?_⟩
        · subst hC
          go_simp
          rfl
        try simp only [Act.put, List.setIfInBounds_toArray, List.set_cons_zero, List.set_cons_succ, List.tail_cons]
        with_reducible refine mix_c ?_ ?_ ?_
        · rfl
        · rfl
        apply Exists.intro
        apply Exists.intro
        apply Exists.intro
        refine ⟨fun w' hC => ?_, fun w' hC => ?_, ?_⟩
        · subst hC
          go_simp
          exact ⟨rfl, rfl⟩
        · subst hC
          exact same_of (rot_c 19 x14 (by decide) (by decide) l14.out _)
        try simp only [Act.put, List.setIfInBounds_toArray, List.set_cons_zero, List.set_cons_succ, List.tail_cons]
        with_reducible refine mix_v ?_ ?_ ?_
        · rfl
        · rfl
        apply Exists.intro
        refine ⟨fun w' hC => ?_, ?_⟩
        · subst hC
          go_simp
          rfl
        try simp only [Act.put, List.setIfInBounds_toArray, List.set_cons_zero, List.set_cons_succ, List.tail_cons]
        with_reducible refine mix_v ?_ ?_ ?_
        · rfl
        · rfl
        apply Exists.intro
        refine ⟨fun w' hC => ?_, ?_⟩
        · subst hC
          go_simp
          rfl
        try simp only [Act.put, List.setIfInBounds_toArray, List.set_cons_zero, List.set_cons_succ, List.tail_cons]
        with_reducible refine mix_v ?_ ?_ ?_
        · rfl
        · rfl
        apply Exists.intro
        refine ⟨fun w' hC => ?_, ?_⟩
        · subst hC
          go_simp
          rfl
        try simp only [Act.put, List.setIfInBounds_toArray, List.set_cons_zero, List.set_cons_succ, List.tail_cons]
        with_reducible refine mix_v ?_ ?_ ?_
        · rfl
        · rfl
        apply Exists.intro
        refine ⟨fun w' hC => ?_, ?_⟩
        · subst hC
          go_simp
          rfl
        try simp only [Act.put, List.setIfInBounds_toArray, List.set_cons_zero, List.set_cons_succ, List.tail_cons]
        with_reducible refine mix_v ?_ ?_ ?_
        · rfl
        · rfl
        apply Exists.intro
        refine ⟨fun w' hC => ?_, ?_⟩
        · subst hC
          go_simp
          rfl
        try simp only [Act.put, List.setIfInBounds_toArray, List.set_cons_zero, List.set_cons_succ, List.tail_cons]
        with_reducible refine mix_v ?_ ?_ ?_
        · rfl
        · rfl
        apply Exists.intro
        refine ⟨fun w' hC => ?_, ?_⟩
        · subst hC
          go_simp
          rfl
        try simp only [Act.put, List.setIfInBounds_toArray, List.set_cons_zero, List.set_cons_succ, List.tail_cons]
        with_reducible refine mix_v ?_ ?_ ?_
        · rfl
        · rfl
        apply Exists.intro
        refine ⟨fun w' hC => ?_, ?_⟩
        · subst hC
          go_simp
          rfl
        try simp only [Act.put, List.setIfInBounds_toArray, List.set_cons_zero, List.set_cons_succ, List.tail_cons]
        with_reducible refine mix_v ?_ ?_ ?_
        · rfl
        · rfl
        apply Exists.intro
        refine ⟨fun w' hC => ?_, ?_⟩
        · subst hC
          go_simp
          rfl
        try simp only [Act.put, List.setIfInBounds_toArray, List.set_cons_zero, List.set_cons_succ, List.tail_cons]
        with_reducible refine mix_v ?_ ?_ ?_
        · rfl
        · rfl
        apply Exists.intro
        refine ⟨fun w' hC => ?_, ?_⟩
        · subst hC
          go_simp
          rfl
        try simp only [Act.put, List.setIfInBounds_toArray, List.set_cons_zero, List.set_cons_succ, List.tail_cons]
        with_reducible refine mix_v ?_ ?_ ?_
        · rfl
        · rfl
        apply Exists.intro
        refine ⟨fun w' hC => ?_, ?_⟩
        · subst hC
          go_simp
          rfl
        try simp only [Act.put, List.setIfInBounds_toArray, List.set_cons_zero, List.set_cons_succ, List.tail_cons]
        with_reducible refine mix_c ?_ ?_ ?_
        · rfl
        · rfl
        apply Exists.intro
        apply Exists.intro
        apply Exists.intro
        refine ⟨fun w' hC => ?_, fun w' hC => ?_, ?_⟩
        · subst hC
          go_simp
          exact ⟨rfl, rfl⟩
        · subst hC
          exact same_of (rot_c 7 x1 (by decide) (by decide) l1.out _)
        try simp only [Act.put, List.setIfInBounds_toArray, List.set_cons_zero, List.set_cons_succ, List.tail_cons]
        with_reducible refine mix_v ?_ ?_ ?_
        · rfl
        · rfl
        apply Exists.intro
        refine ⟨fun w' hC => ?_, ?_⟩
        · subst hC
          go_simp
          rfl
        try simp only [Act.put, List.setIfInBounds_toArray, List.set_cons_zero, List.set_cons_succ, List.tail_cons]
        with_reducible refine mix_c ?_ ?_ ?_
        · rfl
        · rfl
        apply Exists.intro
        apply Exists.intro
        apply Exists.intro
        refine ⟨fun w' hC => ?_, fun w' hC => ?_, ?_⟩
        · subst hC
          go_simp
          exact ⟨rfl, rfl⟩
        · subst hC
          exact same_of (rot_c 18 x1 (by decide) (by decide) l1.out _)
        try simp only [Act.put, List.setIfInBounds_toArray, List.set_cons_zero, List.set_cons_succ, List.tail_cons]
        with_reducible refine mix_v ?_ ?_ ?_
        · rfl
        · rfl
        apply Exists.intro
        refine ⟨fun w' hC => ?_, ?_⟩
        · subst hC
          go_simp
          rfl
        try simp only [Act.put, List.setIfInBounds_toArray, List.set_cons_zero, List.set_cons_succ, List.tail_cons]
        with_reducible refine mix_v ?_ ?_ ?_
        · rfl
        · rfl
        apply Exists.intro
        refine ⟨fun w' hC => ?_, ?_⟩
        · subst hC
          go_simp
          rfl
        try simp only [Act.put, List.setIfInBounds_toArray, List.set_cons_zero, List.set_cons_succ, List.tail_cons]
        with_reducible refine mix_v ?_ ?_ ?_
        · rfl
        · rfl
        apply Exists.intro
        refine ⟨fun w' hC => ?_, ?_⟩
        · subst hC
          go_simp
          rfl
        try simp only [Act.put, List.setIfInBounds_toArray, List.set_cons_zero, List.set_cons_succ, List.tail_cons]
        with_reducible refine mix_v ?_ ?_ ?_
        · rfl
        · rfl
        apply Exists.intro
        refine ⟨fun w' hC => ?_, ?_⟩
        · subst hC
          go_simp
          rfl
        try simp only [Act.put, List.setIfInBounds_toArray, List.set_cons_zero, List.set_cons_succ, List.tail_cons]
        with_reducible refine mix_v ?_ ?_ ?_
        · rfl
        · rfl
        apply Exists.intro
        refine ⟨fun w' hC => ?_, ?_⟩
        · subst hC
          go_simp
          rfl
        try simp only [Act.put, List.setIfInBounds_toArray, List.set_cons_zero, List.set_cons_succ, List.tail_cons]
        with_reducible refine mix_v ?_ ?_ ?_
        · rfl
        · rfl
        apply Exists.intro
        refine ⟨fun w' hC => ?_, ?_⟩
        · subst hC
          go_simp
          rfl
        try simp only [Act.put, List.setIfInBounds_toArray, List.set_cons_zero, List.set_cons_succ, List.tail_cons]
        with_reducible refine mix_v ?_ ?_ ?_
        · rfl
        · rfl
        apply Exists.intro
        refine ⟨fun w' hC => ?_, ?_⟩
        · subst hC
          go_simp
          rfl
        try simp only [Act.put, List.setIfInBounds_toArray, List.set_cons_zero, List.set_cons_succ, List.tail_cons]
        with_reducible refine mix_v ?_ ?_ ?_
        · rfl
        · rfl
        apply Exists.intro
        refine ⟨fun w' hC => ?_, ?_⟩
        · subst hC
          go_simp
          rfl
        try simp only [Act.put, List.setIfInBounds_toArray, List.set_cons_zero, List.set_cons_succ, List.tail_cons]
        with_reducible refine mix_v ?_ ?_ ?_
        · rfl
        · rfl
        apply Exists.intro
        refine ⟨fun w' hC => ?_, ?_⟩
        · subst hC
          go_simp
          rfl
        try simp only [Act.put, List.setIfInBounds_toArray, List.set_cons_zero, List.set_cons_succ, List.tail_cons]
        with_reducible refine mix_v ?_ ?_ ?_
        · rfl
        · rfl
        apply Exists.intro
        refine ⟨fun w' hC => ?_, ?_⟩
        · subst hC
          go_simp
          rfl
        try simp only [Act.put, List.setIfInBounds_toArray, List.set_cons_zero, List.set_cons_succ, List.tail_cons]
        with_reducible refine mix_v ?_ ?_ ?_
        · rfl
        · rfl
        apply Exists.intro
        refine ⟨fun w' hC => ?_, ?_⟩
        · subst hC
          go_simp
          rfl
        try simp only [Act.put, List.setIfInBounds_toArray, List.set_cons_zero, List.set_cons_succ, List.tail_cons]
        refine mix_nil ?_
        rintro _ rfl
        go_wp2_with fail
        any_goals (first | (rename_i h; exact absurd (hfz.symm.trans h) Bool.false_ne_true) | fail)
        go_roundw
        case rel =>
          rw [sched_val l14.out l1.out]
          refine ⟨a + 16 + 1, upd g (a + 16) (ad (ad (ad (sg1 x14) x9) (sg0 x1)) x0), by omega, by go_num, (H.out.1.set (by omega) _).drew.drew, fun j hj => ?_, fun j hj => ?_, ((H.out.2.2.2.setCell (Nat.le_refl _) _).drew).drew⟩
          · unfold upd
            by_cases e : j = a + 16
            · subst e
              rw [if_pos rfl, wv_hi f (t := a + 16) (by omega), E14.out, E9.out, E1.out, E0.out, Q14.out, Q9.out, Q1.out]
              rfl
            · rw [if_neg e]; exact H.out.2.1 j (by omega)
          · unfold upd; rw [if_neg (by omega)]; exact H.out.2.2.1 j (by omega)
        case measure => simp [intOf]; omega
      · obtain rfl : t = 64 := by omega
        clear hlt ht h16
        have e : ws (wv f) 64 = ws g 64 := ws_congr fun j hj => (H.out.2.1 j hj).symm
        have E := Lib.hid e
        clear e
        go_wp2_with (first
          | (refine wpList_load_of rfl 116 (.tmp 2) rfl (.pointer (some ⟨w.heap.size, 0, none⟩)) (.agg (ws g 64).toArray) rfl (load_words H.out.1 Tryd.underlying116 (by kernel_rfl)) ?_; simp only [Act.put, List.setIfInBounds_toArray, List.set_cons_zero, List.set_cons_succ, List.tail_cons])
          | ((with_reducible show wpList _ _ _ (⟨none, _, _, _, _, _⟩ :: []) _ _); refine wpList_store_mid rfl 116 (.tmp 2) (.tmp 73) rfl w.heap.size 0 (ws g 64).toArray rfl rfl (there_ws H.out.1) (info_ws (by kernel_rfl)) (ws_one g 64) ?_; simp only [Act.put, List.setIfInBounds_toArray, List.set_cons_zero, List.set_cons_succ, List.tail_cons]))
        exact bodyPost_ret (v := .agg (ws (wv f) 64).toArray) (by rw [E.out]; exact results_words (g := g) (b := w.heap.size) rfl rfl H.out.1.stored Tryd.underlying116 (by kernel_rfl)) rfl ⟨rfl, below_setCells (Nat.le_refl _) _ _ _ _ H.out.2.2.2⟩
end Go.Proofs.YtjhfepkpfakemaaDoor.Sh

namespace Go.Proofs.YtjhfepkpfakemaaDoor.Sh
set_option linter.all false
open Go Go.RowKit

theorem S1_val {e : Nat} (he : e < B) : bits BinOp.xor IntKind.u32 (bits BinOp.xor IntKind.u32 ((rr 6 e : Nat) : Int) ((rr 11 e : Nat) : Int)) ((rr 25 e : Nat) : Int) = ((S1 e : Nat) : Int) := by
  have l1 := rr_lt (n := 6) (by decide) he
  have l2 := rr_lt (n := 11) (by decide) he
  rw [xor_val l1 l2, xor_val (xor_lt l1 l2) (rr_lt (n := 25) (by decide) he)]
  rfl
theorem S0_val {a : Nat} (ha : a < B) : bits BinOp.xor IntKind.u32 (bits BinOp.xor IntKind.u32 ((rr 2 a : Nat) : Int) ((rr 13 a : Nat) : Int)) ((rr 22 a : Nat) : Int) = ((S0 a : Nat) : Int) := by
  have l1 := rr_lt (n := 2) (by decide) ha
  have l2 := rr_lt (n := 13) (by decide) ha
  rw [xor_val l1 l2, xor_val (xor_lt l1 l2) (rr_lt (n := 22) (by decide) ha)]
  rfl
theorem ch_val {e f g : Nat} (he : e < B) (hf : f < B) (hg : g < B) :
    bits BinOp.xor IntKind.u32 ((g : Nat) : Int) (bits BinOp.and IntKind.u32 ((e : Nat) : Int) (bits BinOp.xor IntKind.u32 ((f : Nat) : Int) ((g : Nat) : Int))) = ((ch e f g : Nat) : Int) := by
  rw [xor_val hf hg, u32_and_nat e (f ^^^ g) he (xor_lt hf hg), xor_val hg (and_lt (xor_lt hf hg))]
  rfl
theorem mj_val {a b c : Nat} (ha : a < B) (hb : b < B) (hc : c < B) :
    bits BinOp.or IntKind.u32 (bits BinOp.and IntKind.u32 ((a : Nat) : Int) ((b : Nat) : Int)) (bits BinOp.and IntKind.u32 (bits BinOp.or IntKind.u32 ((a : Nat) : Int) ((b : Nat) : Int)) ((c : Nat) : Int)) = ((mj a b c : Nat) : Int) := by
  rw [u32_and_nat a b ha hb, u32_or_nat a b ha hb, u32_and_nat (a ||| b) c (or_lt ha hb) hc, u32_or_nat (a &&& b) ((a ||| b) &&& c) (and_lt hb) (and_lt hc)]
  rfl
theorem new_a (h s1 c k x s0 m : Nat) : (((h : Nat) : Int) + ((s1 : Nat) : Int) + ((c : Nat) : Int) + ((k : Nat) : Int) + ((x : Nat) : Int) + (((s0 : Nat) : Int) + ((m : Nat) : Int))) % 4294967296 = ((ad (ad (ad (ad (ad h s1) c) k) x) (ad s0 m) : Nat) : Int) := by
  unfold ad B
  omega
theorem new_e (d h s1 c k x : Nat) : (((d : Nat) : Int) + (((h : Nat) : Int) + ((s1 : Nat) : Int) + ((c : Nat) : Int) + ((k : Nat) : Int) + ((x : Nat) : Int))) % 4294967296 = ((ad d (ad (ad (ad (ad h s1) c) k) x) : Nat) : Int) := by
  unfold ad B
  omega
def shf (g : Nat → Nat) (j : Nat) : Nat := if j = 0 then g 0 else g (j - 1)
theorem step_at (k x : Nat) (S : St) (A E : Nat) (hA : A = ad (t1 k x S) (t2 S)) (hE : E = ad S.d (t1 k x S)) (j : Nat) (hj : j < 8) : upd (upd (shf S.at) 0 A) 4 E j = (step k x S).at j := by
  unfold step
  rw [← hA, ← hE]
  clear hA hE
  have h : j = 0 ∨ j = 1 ∨ j = 2 ∨ j = 3 ∨ j = 4 ∨ j = 5 ∨ j = 6 ∨ j = 7 := by omega
  rcases h with rfl | rfl | rfl | rfl | rfl | rfl | rfl | rfl <;> rfl
theorem add2_val (x y : Nat) : (((x : Nat) : Int) + ((y : Nat) : Int)) % 4294967296 = ((ad x y : Nat) : Int) := by
  unfold ad B
  omega
theorem addS_at (v s : St) (j : Nat) (hj : j < 8) : (addS v s).at j = ad (v.at j) (s.at j) := by
  have h : j = 0 ∨ j = 1 ∨ j = 2 ∨ j = 3 ∨ j = 4 ∨ j = 5 ∨ j = 6 ∨ j = 7 := by omega
  rcases h with rfl | rfl | rfl | rfl | rfl | rfl | rfl | rfl <;> rfl
theorem shift_row {w : World} {b : Nat} {g : Nat → Nat} {T : TypeId} (h : w.heap[b]? = some (.cells (splice (ws g 8) 1 (ws g 7)).toArray T (0, 0))) : RowW w b 8 (shf g) T := h
theorem wordCells : (Tryd.prog.info? 93).map (·.size) = some 1 := by kernel_rfl
theorem ws_oneL (g : Nat → Nat) (n : Nat) : ∀ v ∈ ws g n, v.oneCell' = true := fun v hv => by
  simp only [ws, List.mem_map] at hv
  obtain ⟨j, _, rfl⟩ := hv
  rfl
theorem copy_src {w : World} {b : Nat} {g : Nat → Nat} {T : TypeId} (h : RowW w b 8 g T) : ∀ j v, (ws g 7)[j]? = some v → w.cell? ((⟨b, 0, none⟩ : Addr).add j) = some v := fun j v hv => by
  have hj : j < 7 := by have := (List.getElem?_eq_some_iff.1 hv).1; rwa [ws_len] at this
  rw [ws_get g 7 j hj] at hv
  cases hv
  have e : (⟨b, 0, none⟩ : Addr).add j = ⟨b, 0 + j, none⟩ := by unfold Addr.add; split <;> simp_all
  rw [e, Nat.zero_add]
  exact h.words.cell j (by omega)

set_option maxRecDepth 100000 in
set_option maxHeartbeats 16000000 in
theorem after_walk (f : Nat → Nat) (b off c : Nat) (s : St) (w : World) (HO : Hid s.Ok) (HL : Hid (Laid w)) (hf : Hid (∀ j, f j < 256))
    (hsch : Hid (∀ w', Below w.heap.size w w' → Calls Tryd.prog 85 #[.slice (some ⟨b, off, none⟩) 64 c] w' fun e w'' => e = .returned (.agg (ws (wv f) 64).toArray) ∧ Below w'.heap.size w' w'')) :
    Calls Tryd.prog 74 #[stV s, .slice (some ⟨b, off, none⟩) 64 c] w fun e w' => e = .returned (stV (blk K s f)) ∧ Below w.heap.size w w' := by
  go_enter Tryd.func74, Tryd.ntmps74
  go_wp2_with fail
  refine Calls.mono (hsch.out _ (by repeat first | with_reducible exact Below.refl _ _ | with_reducible refine Below.drew ?_ | with_reducible refine below_dN ?_ | with_reducible refine Below.alloc ?_ (by first | omega | (simp; done) | (simp; omega)) _ | with_reducible refine Below.setCell ?_ (by first | omega | (simp; done) | (simp; omega)) _ | with_reducible refine Below.trans ?_ (Below.mono (by assumption) (by first | omega | (simp; done) | (simp; omega))))) ?_
  rintro _ w1 ⟨rfl, h1⟩
  obtain ⟨c1, f1, s1⟩ := bfacts h1
  try simp only [World.size_alloc, World.size_setCell, size_drew, size_drewN] at s1
  have l_w_w1_0 : w.heap.size < w1.heap.size := by omega
  have l_w_w1_1 : w.heap.size + 1 < w1.heap.size := by omega
  have l_w_w1_2 : w.heap.size + 1 + 1 < w1.heap.size := by omega
  have hrow : RowW w1 (w.heap.size + 1 + 1) 8 s.at 105 := (h1.block _ (by simp only [World.size_alloc]; omega)).trans (heap_alloc_at (by simp only [World.size_alloc]))
  have hsb : RowW w1 w.heap.size 8 s.at 105 := (h1.block _ (by simp only [World.size_alloc]; omega)).trans (by
    refine (Below.heap_alloc _ _ _ (by simp only [World.size_alloc]; omega)).trans ?_
    refine (Below.heap_alloc _ _ _ (by simp only [World.size_alloc]; omega)).trans ?_
    exact heap_alloc_at rfl)
  have Hsb := Lib.hid hsb
  have hres : RowW w1 (w.heap.size + 1) 8 (fun _ => 0) 105 := (h1.block _ (by simp only [World.size_alloc]; omega)).trans (by
    refine (Below.heap_alloc _ _ _ (by simp only [World.size_alloc]; omega)).trans ?_
    exact heap_alloc_at (by simp only [World.size_alloc]))
  have Hres := Lib.hid hres
  have HL1 := Lib.hid (HL.out.step (show Below w.heap.size w w1 from (by repeat first | with_reducible exact Below.refl _ _ | with_reducible refine Below.drew ?_ | with_reducible refine below_dN ?_ | with_reducible refine Below.alloc ?_ (by first | omega | (simp; done) | (simp; omega)) _ | with_reducible refine Below.setCell ?_ (by first | omega | (simp; done) | (simp; omega)) _ | with_reducible refine Below.trans ?_ (Below.mono (by assumption) (by first | omega | (simp; done) | (simp; omega))))))
  have Hrow := Lib.hid hrow
  have HB1 := Lib.hid (show Below w.heap.size w w1 from (by repeat first | with_reducible exact Below.refl _ _ | with_reducible refine Below.drew ?_ | with_reducible refine below_dN ?_ | with_reducible refine Below.alloc ?_ (by first | omega | (simp; done) | (simp; omega)) _ | with_reducible refine Below.setCell ?_ (by first | omega | (simp; done) | (simp; omega)) _ | with_reducible refine Below.trans ?_ (Below.mono (by assumption) (by first | omega | (simp; done) | (simp; omega)))))
  have hws : w.heap.size + 1 + 1 < w1.heap.size := l_w_w1_2
  clear hrow hsb hres h1 c1 f1
  go_wp2_with fail
  go_loopw [16] (fun i wr => ∃ (t : Nat) (S : St), t ≤ 64 ∧ i = .int .i64 (t : Int) ∧ Hid (S = rnd K (wv f) s t ∧ S.Ok ∧ RowW wr (w.heap.size + 1 + 1) 8 S.at 105 ∧ Below (w.heap.size + 1 + 1) w1 wr)) (fun i _ => 64 - (intOf i).toNat)
  case atStart => exact ⟨0, s, by omega, rfl, rfl, HO.out, Hrow.out, Below.refl _ _⟩
  case round =>
    obtain ⟨t, S, ht, rfl, H⟩ := hrel
    have HLr : Hid (Laid wr) := HL1.out.kept H.out.2.2.2 (Nat.lt_of_lt_of_le (lt_of_cell (HL.out.k 0 (by decide))) (by omega)) (Nat.lt_of_lt_of_le (lt_of_cell (HL.out.s 0 (by decide))) (by omega))
    by_cases hlt : t < 64
    · have hlt2 : (t : Int) < 64 := by omega
      obtain ⟨a, b', c', d, e, f', g, h⟩ := S
      have c0 : wr.cell? ⟨w.heap.size + 1 + 1, 0, none⟩ = some (.int .u32 ((a : Nat) : Int)) := H.out.2.2.1.words.cell 0 (by decide)
      have c1 : wr.cell? ⟨w.heap.size + 1 + 1, 1, none⟩ = some (.int .u32 ((b' : Nat) : Int)) := H.out.2.2.1.words.cell 1 (by decide)
      have c2 : wr.cell? ⟨w.heap.size + 1 + 1, 2, none⟩ = some (.int .u32 ((c' : Nat) : Int)) := H.out.2.2.1.words.cell 2 (by decide)
      have c3 : wr.cell? ⟨w.heap.size + 1 + 1, 3, none⟩ = some (.int .u32 ((d : Nat) : Int)) := H.out.2.2.1.words.cell 3 (by decide)
      have c4 : wr.cell? ⟨w.heap.size + 1 + 1, 4, none⟩ = some (.int .u32 ((e : Nat) : Int)) := H.out.2.2.1.words.cell 4 (by decide)
      have c5 : wr.cell? ⟨w.heap.size + 1 + 1, 5, none⟩ = some (.int .u32 ((f' : Nat) : Int)) := H.out.2.2.1.words.cell 5 (by decide)
      have c6 : wr.cell? ⟨w.heap.size + 1 + 1, 6, none⟩ = some (.int .u32 ((g : Nat) : Int)) := H.out.2.2.1.words.cell 6 (by decide)
      have c7 : wr.cell? ⟨w.heap.size + 1 + 1, 7, none⟩ = some (.int .u32 ((h : Nat) : Int)) := H.out.2.2.1.words.cell 7 (by decide)
      have hk : wr.cell? ⟨2, t, none⟩ = some (.int .u32 ((K t : Nat) : Int)) := HLr.out.k t hlt
      obtain ⟨k, ek⟩ : ∃ k, k = K t := ⟨_, rfl⟩
      rw [← ek] at hk
      have Ek := Lib.hid ek
      clear ek
      have la : Hid (a < B) := H.out.2.1.a
      have le : Hid (e < B) := H.out.2.1.e
      go_wp2_with (refine wpList_index_of rfl 116 (.tmp 15) (.tmp 16) rfl (.agg (ws (wv f) 64).toArray) (.int .i64 (t : Int)) (.int .u32 ((wv f t : Nat) : Int)) rfl rfl (run_index_ws (wv f) t hlt Tryd.underlying116 _) ?_; simp only [Act.put, List.setIfInBounds_toArray, List.set_cons_zero, List.set_cons_succ, List.tail_cons])
      obtain ⟨x, ex⟩ : ∃ x, x = wv f t := ⟨_, rfl⟩
      rw [← ex]
      have Ex := Lib.hid ex
      clear ex
      refine region_mix 5 [false, false, false, false, false] (fun w' => w' = World.drew _) (by kernel_rfl) (by kernel_rfl) (by intro _ _ d _ _ h; cases d <;> exact h) rfl ?_
      simp only [List.take_succ_cons, List.take_zero, List.drop_succ_cons, List.drop_zero]
      with_reducible refine mix_v ?_ ?_ ?_
      · rfl
      · rfl
      apply Exists.intro
      refine ⟨fun w' hC => ?_, ?_⟩
      · subst hC
        go_simp
        rfl
      try simp only [Act.put, List.setIfInBounds_toArray, List.set_cons_zero, List.set_cons_succ, List.tail_cons]
      with_reducible refine mix_v ?_ ?_ ?_
      · rfl
      · rfl
      apply Exists.intro
      refine ⟨fun w' hC => ?_, ?_⟩
      · subst hC
        go_simp
        rfl
      try simp only [Act.put, List.setIfInBounds_toArray, List.set_cons_zero, List.set_cons_succ, List.tail_cons]
      with_reducible refine mix_v ?_ ?_ ?_
      · rfl
      · rfl
      apply Exists.intro
      refine ⟨fun w' hC => ?_, ?_⟩
      · subst hC
        go_simp
        rfl
      try simp only [Act.put, List.setIfInBounds_toArray, List.set_cons_zero, List.set_cons_succ, List.tail_cons]
      with_reducible refine mix_v ?_ ?_ ?_
      · rfl
      · rfl
      apply Exists.intro
      refine ⟨fun w' hC => ?_, ?_⟩
      · subst hC
        go_simp
        rfl
      try simp only [Act.put, List.setIfInBounds_toArray, List.set_cons_zero, List.set_cons_succ, List.tail_cons]
      with_reducible refine mix_v ?_ ?_ ?_
      · rfl
      · rfl
      apply Exists.intro
      refine ⟨fun w' hC => ?_, ?_⟩
      · subst hC
        go_simp
        rfl
      try simp only [Act.put, List.setIfInBounds_toArray, List.set_cons_zero, List.set_cons_succ, List.tail_cons]
      refine mix_nil ?_
      rintro _ rfl
      go_wp2_with fail
      refine region_mix 28 [false, false, false, false, false, false, false, false, false, false, false, false, false, false, false, false, false, false, false, false, false, false, false, false, false, false, false, false] (fun w' => w' = World.drew _) (by kernel_rfl) (by kernel_rfl) (by intro _ _ d _ _ h; cases d <;> exact h) rfl ?_
      simp only [List.take_succ_cons, List.take_zero, List.drop_succ_cons, List.drop_zero]
      with_reducible refine mix_v ?_ ?_ ?_
      · rfl
      · rfl
      apply Exists.intro
      refine ⟨fun w' hC => ?_, ?_⟩
      · subst hC
        go_simp
        rfl
      try simp only [Act.put, List.setIfInBounds_toArray, List.set_cons_zero, List.set_cons_succ, List.tail_cons]
      with_reducible refine mix_v ?_ ?_ ?_
      · rfl
      · rfl
      apply Exists.intro
      refine ⟨fun w' hC => ?_, ?_⟩
      · subst hC
        go_simp
        rfl
      try simp only [Act.put, List.setIfInBounds_toArray, List.set_cons_zero, List.set_cons_succ, List.tail_cons]
      with_reducible refine mix_v ?_ ?_ ?_
      · rfl
      · rfl
      apply Exists.intro
      refine ⟨fun w' hC => ?_, ?_⟩
      · subst hC
        go_simp
        rfl
      try simp only [Act.put, List.setIfInBounds_toArray, List.set_cons_zero, List.set_cons_succ, List.tail_cons]
      with_reducible refine mix_c ?_ ?_ ?_
      · rfl
      · rfl
      apply Exists.intro
      apply Exists.intro
      apply Exists.intro
      refine ⟨fun w' hC => ?_, fun w' hC => ?_, ?_⟩
      · subst hC
        go_simp
        exact ⟨rfl, rfl⟩
      · subst hC
        exact same_of (rot_c 6 e (by decide) (by decide) le.out _)
      try simp only [Act.put, List.setIfInBounds_toArray, List.set_cons_zero, List.set_cons_succ, List.tail_cons]
      with_reducible refine mix_v ?_ ?_ ?_
      · rfl
      · rfl
      apply Exists.intro
      refine ⟨fun w' hC => ?_, ?_⟩
      · subst hC
        go_simp
        rfl
      try simp only [Act.put, List.setIfInBounds_toArray, List.set_cons_zero, List.set_cons_succ, List.tail_cons]
      with_reducible refine mix_c ?_ ?_ ?_
      · rfl
      · rfl
      apply Exists.intro
      apply Exists.intro
      apply Exists.intro
      refine ⟨fun w' hC => ?_, fun w' hC => ?_, ?_⟩
      · subst hC
        go_simp
        exact ⟨rfl, rfl⟩
      · subst hC
        exact same_of (rot_c 11 e (by decide) (by decide) le.out _)
      try simp only [Act.put, List.setIfInBounds_toArray, List.set_cons_zero, List.set_cons_succ, List.tail_cons]
      with_reducible refine mix_v ?_ ?_ ?_
      · rfl
      · rfl
      apply Exists.intro
      refine ⟨fun w' hC => ?_, ?_⟩
      · subst hC
        go_simp
        rfl
      try simp only [Act.put, List.setIfInBounds_toArray, List.set_cons_zero, List.set_cons_succ, List.tail_cons]
      with_reducible refine mix_v ?_ ?_ ?_
      · rfl
      · rfl
      apply Exists.intro
      refine ⟨fun w' hC => ?_, ?_⟩
      · subst hC
        go_simp
        rfl
      try simp only [Act.put, List.setIfInBounds_toArray, List.set_cons_zero, List.set_cons_succ, List.tail_cons]
      with_reducible refine mix_c ?_ ?_ ?_
      · rfl
      · rfl
      apply Exists.intro
      apply Exists.intro
      apply Exists.intro
      refine ⟨fun w' hC => ?_, fun w' hC => ?_, ?_⟩
      · subst hC
        go_simp
        exact ⟨rfl, rfl⟩
      · subst hC
        exact same_of (rot_c 25 e (by decide) (by decide) le.out _)
      try simp only [Act.put, List.setIfInBounds_toArray, List.set_cons_zero, List.set_cons_succ, List.tail_cons]
      with_reducible refine mix_v ?_ ?_ ?_
      · rfl
      · rfl
      apply Exists.intro
      refine ⟨fun w' hC => ?_, ?_⟩
      · subst hC
        go_simp
        rfl
      try simp only [Act.put, List.setIfInBounds_toArray, List.set_cons_zero, List.set_cons_succ, List.tail_cons]
      with_reducible refine mix_v ?_ ?_ ?_
      · rfl
      · rfl
      apply Exists.intro
      refine ⟨fun w' hC => ?_, ?_⟩
      · subst hC
        go_simp
        rfl
      try simp only [Act.put, List.setIfInBounds_toArray, List.set_cons_zero, List.set_cons_succ, List.tail_cons]
      with_reducible refine mix_v ?_ ?_ ?_
      · rfl
      · rfl
      apply Exists.intro
      refine ⟨fun w' hC => ?_, ?_⟩
      · subst hC
        go_simp
        rfl
      try simp only [Act.put, List.setIfInBounds_toArray, List.set_cons_zero, List.set_cons_succ, List.tail_cons]
      with_reducible refine mix_v ?_ ?_ ?_
      · rfl
      · rfl
      apply Exists.intro
      refine ⟨fun w' hC => ?_, ?_⟩
      · subst hC
        go_simp
        rfl
      try simp only [Act.put, List.setIfInBounds_toArray, List.set_cons_zero, List.set_cons_succ, List.tail_cons]
      with_reducible refine mix_v ?_ ?_ ?_
      · rfl
      · rfl
      apply Exists.intro
      refine ⟨fun w' hC => ?_, ?_⟩
      · subst hC
        go_simp
        rfl
      try simp only [Act.put, List.setIfInBounds_toArray, List.set_cons_zero, List.set_cons_succ, List.tail_cons]
      with_reducible refine mix_v ?_ ?_ ?_
      · rfl
      · rfl
      apply Exists.intro
      refine ⟨fun w' hC => ?_, ?_⟩
      · subst hC
        go_simp
        rfl
      try simp only [Act.put, List.setIfInBounds_toArray, List.set_cons_zero, List.set_cons_succ, List.tail_cons]
      with_reducible refine mix_v ?_ ?_ ?_
      · rfl
      · rfl
      apply Exists.intro
      refine ⟨fun w' hC => ?_, ?_⟩
      · subst hC
        go_simp
        rfl
      try simp only [Act.put, List.setIfInBounds_toArray, List.set_cons_zero, List.set_cons_succ, List.tail_cons]
      with_reducible refine mix_v ?_ ?_ ?_
      · rfl
      · rfl
      apply Exists.intro
      refine ⟨fun w' hC => ?_, ?_⟩
      · subst hC
        go_simp
        rfl
      try simp only [Act.put, List.setIfInBounds_toArray, List.set_cons_zero, List.set_cons_succ, List.tail_cons]
      with_reducible refine mix_v ?_ ?_ ?_
      · rfl
      · rfl
      apply Exists.intro
      refine ⟨fun w' hC => ?_, ?_⟩
      · subst hC
        go_simp
        rfl
      try simp only [Act.put, List.setIfInBounds_toArray, List.set_cons_zero, List.set_cons_succ, List.tail_cons]
      with_reducible refine mix_v ?_ ?_ ?_
      · rfl
      · rfl
      apply Exists.intro
      refine ⟨fun w' hC => ?_, ?_⟩
      · subst hC
        go_simp
        rfl
      try simp only [Act.put, List.setIfInBounds_toArray, List.set_cons_zero, List.set_cons_succ, List.tail_cons]
      with_reducible refine mix_v ?_ ?_ ?_
      · rfl
      · rfl
      apply Exists.intro
      refine ⟨fun w' hC => ?_, ?_⟩
      · subst hC
        go_simp
        rfl
      try simp only [Act.put, List.setIfInBounds_toArray, List.set_cons_zero, List.set_cons_succ, List.tail_cons]
      with_reducible refine mix_v ?_ ?_ ?_
      · rfl
      · rfl
      apply Exists.intro
      refine ⟨fun w' hC => ?_, ?_⟩
      · subst hC
        go_simp
        rfl
      try simp only [Act.put, List.setIfInBounds_toArray, List.set_cons_zero, List.set_cons_succ, List.tail_cons]
      with_reducible refine mix_v ?_ ?_ ?_
      · rfl
      · rfl
      apply Exists.intro
      refine ⟨fun w' hC => ?_, ?_⟩
      · subst hC
        go_simp
        rfl
      try simp only [Act.put, List.setIfInBounds_toArray, List.set_cons_zero, List.set_cons_succ, List.tail_cons]
      with_reducible refine mix_v ?_ ?_ ?_
      · rfl
      · rfl
      apply Exists.intro
      refine ⟨fun w' hC => ?_, ?_⟩
      · subst hC
        go_simp
        rfl
      try simp only [Act.put, List.setIfInBounds_toArray, List.set_cons_zero, List.set_cons_succ, List.tail_cons]
      with_reducible refine mix_v ?_ ?_ ?_
      · rfl
      · rfl
      apply Exists.intro
      refine ⟨fun w' hC => ?_, ?_⟩
      · subst hC
        go_simp
        rfl
      try simp only [Act.put, List.setIfInBounds_toArray, List.set_cons_zero, List.set_cons_succ, List.tail_cons]
      with_reducible refine mix_v ?_ ?_ ?_
      · rfl
      · rfl
      apply Exists.intro
      refine ⟨fun w' hC => ?_, ?_⟩
      · subst hC
        go_simp
        rfl
      try simp only [Act.put, List.setIfInBounds_toArray, List.set_cons_zero, List.set_cons_succ, List.tail_cons]
      with_reducible refine mix_v ?_ ?_ ?_
      · rfl
      · rfl
      apply Exists.intro
      refine ⟨fun w' hC => ?_, ?_⟩
      · subst hC
        go_simp
        rfl
      try simp only [Act.put, List.setIfInBounds_toArray, List.set_cons_zero, List.set_cons_succ, List.tail_cons]
      with_reducible refine mix_v ?_ ?_ ?_
      · rfl
      · rfl
      apply Exists.intro
      refine ⟨fun w' hC => ?_, ?_⟩
      · subst hC
        go_simp
        rfl
      try simp only [Act.put, List.setIfInBounds_toArray, List.set_cons_zero, List.set_cons_succ, List.tail_cons]
      with_reducible refine mix_v ?_ ?_ ?_
      · rfl
      · rfl
      apply Exists.intro
      refine ⟨fun w' hC => ?_, ?_⟩
      · subst hC
        go_simp
        rfl
      try simp only [Act.put, List.setIfInBounds_toArray, List.set_cons_zero, List.set_cons_succ, List.tail_cons]
      refine mix_nil ?_
      rintro _ rfl
      go_wp2_with fail
      refine region_mix 21 [false, false, false, false, false, false, false, false, false, false, false, false, false, false, false, false, false, false, false, false, false] (fun w' => w' = World.drew _) (by kernel_rfl) (by kernel_rfl) (by intro _ _ d _ _ h; cases d <;> exact h) rfl ?_
      simp only [List.take_succ_cons, List.take_zero, List.drop_succ_cons, List.drop_zero]
      with_reducible refine mix_v ?_ ?_ ?_
      · rfl
      · rfl
      apply Exists.intro
      refine ⟨fun w' hC => ?_, ?_⟩
      · subst hC
        go_simp
        rfl
      try simp only [Act.put, List.setIfInBounds_toArray, List.set_cons_zero, List.set_cons_succ, List.tail_cons]
      with_reducible refine mix_c ?_ ?_ ?_
      · rfl
      · rfl
      apply Exists.intro
      apply Exists.intro
      apply Exists.intro
      refine ⟨fun w' hC => ?_, fun w' hC => ?_, ?_⟩
      · subst hC
        go_simp
        exact ⟨rfl, rfl⟩
      · subst hC
        exact same_of (rot_c 2 a (by decide) (by decide) la.out _)
      try simp only [Act.put, List.setIfInBounds_toArray, List.set_cons_zero, List.set_cons_succ, List.tail_cons]
      with_reducible refine mix_v ?_ ?_ ?_
      · rfl
      · rfl
      apply Exists.intro
      refine ⟨fun w' hC => ?_, ?_⟩
      · subst hC
        go_simp
        rfl
      try simp only [Act.put, List.setIfInBounds_toArray, List.set_cons_zero, List.set_cons_succ, List.tail_cons]
      with_reducible refine mix_c ?_ ?_ ?_
      · rfl
      · rfl
      apply Exists.intro
      apply Exists.intro
      apply Exists.intro
      refine ⟨fun w' hC => ?_, fun w' hC => ?_, ?_⟩
      · subst hC
        go_simp
        exact ⟨rfl, rfl⟩
      · subst hC
        exact same_of (rot_c 13 a (by decide) (by decide) la.out _)
      try simp only [Act.put, List.setIfInBounds_toArray, List.set_cons_zero, List.set_cons_succ, List.tail_cons]
      with_reducible refine mix_v ?_ ?_ ?_
      · rfl
      · rfl
      apply Exists.intro
      refine ⟨fun w' hC => ?_, ?_⟩
      · subst hC
        go_simp
        rfl
      try simp only [Act.put, List.setIfInBounds_toArray, List.set_cons_zero, List.set_cons_succ, List.tail_cons]
      with_reducible refine mix_v ?_ ?_ ?_
      · rfl
      · rfl
      apply Exists.intro
      refine ⟨fun w' hC => ?_, ?_⟩
      · subst hC
        go_simp
        rfl
      try simp only [Act.put, List.setIfInBounds_toArray, List.set_cons_zero, List.set_cons_succ, List.tail_cons]
      with_reducible refine mix_c ?_ ?_ ?_
      · rfl
      · rfl
      apply Exists.intro
      apply Exists.intro
      apply Exists.intro
      refine ⟨fun w' hC => ?_, fun w' hC => ?_, ?_⟩
      · subst hC
        go_simp
        exact ⟨rfl, rfl⟩
      · subst hC
        exact same_of (rot_c 22 a (by decide) (by decide) la.out _)
      try simp only [Act.put, List.setIfInBounds_toArray, List.set_cons_zero, List.set_cons_succ, List.tail_cons]
      with_reducible refine mix_v ?_ ?_ ?_
      · rfl
      · rfl
      apply Exists.intro
      refine ⟨fun w' hC => ?_, ?_⟩
      · subst hC
        go_simp
        rfl
      try simp only [Act.put, List.setIfInBounds_toArray, List.set_cons_zero, List.set_cons_succ, List.tail_cons]
      with_reducible refine mix_v ?_ ?_ ?_
      · rfl
      · rfl
      apply Exists.intro
      refine ⟨fun w' hC => ?_, ?_⟩
      · subst hC
        go_simp
        rfl
      try simp only [Act.put, List.setIfInBounds_toArray, List.set_cons_zero, List.set_cons_succ, List.tail_cons]
      with_reducible refine mix_v ?_ ?_ ?_
      · rfl
      · rfl
      apply Exists.intro
      refine ⟨fun w' hC => ?_, ?_⟩
      · subst hC
        go_simp
        rfl
      try simp only [Act.put, List.setIfInBounds_toArray, List.set_cons_zero, List.set_cons_succ, List.tail_cons]
      with_reducible refine mix_v ?_ ?_ ?_
      · rfl
      · rfl
      apply Exists.intro
      refine ⟨fun w' hC => ?_, ?_⟩
      · subst hC
        go_simp
        rfl
      try simp only [Act.put, List.setIfInBounds_toArray, List.set_cons_zero, List.set_cons_succ, List.tail_cons]
      with_reducible refine mix_v ?_ ?_ ?_
      · rfl
      · rfl
      apply Exists.intro
      refine ⟨fun w' hC => ?_, ?_⟩
      · subst hC
        go_simp
        rfl
      try simp only [Act.put, List.setIfInBounds_toArray, List.set_cons_zero, List.set_cons_succ, List.tail_cons]
      with_reducible refine mix_v ?_ ?_ ?_
      · rfl
      · rfl
      apply Exists.intro
      refine ⟨fun w' hC => ?_, ?_⟩
      · subst hC
        go_simp
        rfl
      try simp only [Act.put, List.setIfInBounds_toArray, List.set_cons_zero, List.set_cons_succ, List.tail_cons]
      with_reducible refine mix_v ?_ ?_ ?_
      · rfl
      · rfl
      apply Exists.intro
      refine ⟨fun w' hC => ?_, ?_⟩
      · subst hC
        go_simp
        rfl
      try simp only [Act.put, List.setIfInBounds_toArray, List.set_cons_zero, List.set_cons_succ, List.tail_cons]
      with_reducible refine mix_v ?_ ?_ ?_
      · rfl
      · rfl
      apply Exists.intro
      refine ⟨fun w' hC => ?_, ?_⟩
      · subst hC
        go_simp
        rfl
      try simp only [Act.put, List.setIfInBounds_toArray, List.set_cons_zero, List.set_cons_succ, List.tail_cons]
      with_reducible refine mix_v ?_ ?_ ?_
      · rfl
      · rfl
      apply Exists.intro
      refine ⟨fun w' hC => ?_, ?_⟩
      · subst hC
        go_simp
        rfl
      try simp only [Act.put, List.setIfInBounds_toArray, List.set_cons_zero, List.set_cons_succ, List.tail_cons]
      with_reducible refine mix_v ?_ ?_ ?_
      · rfl
      · rfl
      apply Exists.intro
      refine ⟨fun w' hC => ?_, ?_⟩
      · subst hC
        go_simp
        rfl
      try simp only [Act.put, List.setIfInBounds_toArray, List.set_cons_zero, List.set_cons_succ, List.tail_cons]
      with_reducible refine mix_v ?_ ?_ ?_
      · rfl
      · rfl
      apply Exists.intro
      refine ⟨fun w' hC => ?_, ?_⟩
      · subst hC
        go_simp
        rfl
      try simp only [Act.put, List.setIfInBounds_toArray, List.set_cons_zero, List.set_cons_succ, List.tail_cons]
      with_reducible refine mix_v ?_ ?_ ?_
      · rfl
      · rfl
      apply Exists.intro
      refine ⟨fun w' hC => ?_, ?_⟩
      · subst hC
        go_simp
        rfl
      try simp only [Act.put, List.setIfInBounds_toArray, List.set_cons_zero, List.set_cons_succ, List.tail_cons]
      with_reducible refine mix_v ?_ ?_ ?_
      · rfl
      · rfl
      apply Exists.intro
      refine ⟨fun w' hC => ?_, ?_⟩
      · subst hC
        go_simp
        rfl
      try simp only [Act.put, List.setIfInBounds_toArray, List.set_cons_zero, List.set_cons_succ, List.tail_cons]
      with_reducible refine mix_v ?_ ?_ ?_
      · rfl
      · rfl
      apply Exists.intro
      refine ⟨fun w' hC => ?_, ?_⟩
      · subst hC
        go_simp
        rfl
      try simp only [Act.put, List.setIfInBounds_toArray, List.set_cons_zero, List.set_cons_succ, List.tail_cons]
      refine mix_nil ?_
      rintro _ rfl
      go_wp2_with fail
      have hbw : w.heap.size + 1 + 1 < wr.heap.size := H.out.2.2.1.words.blk
      refine region_grow 2 [0, 1] [] [] (by kernel_rfl) (by kernel_rfl) ?_
      with_reducible apply grow_v
      · rfl
      · rfl
      · rfl
      apply Exists.intro
      refine ⟨fun w' hC => ?_, ?_⟩
      · have hcell := below_cells hC
        clear hC
        go_simp
        rfl
      try simp only [Act.put, List.setIfInBounds_toArray, List.set_cons_zero, List.set_cons_succ, List.tail_cons]
      with_reducible apply grow_v
      · rfl
      · rfl
      · rfl
      apply Exists.intro
      refine ⟨fun w' hC => ?_, ?_⟩
      · have hcell := below_cells hC
        clear hC
        go_simp
        rfl
      try simp only [Act.put, List.setIfInBounds_toArray, List.set_cons_zero, List.set_cons_succ, List.tail_cons]
      refine grow_end ?_
      intro wg8 hg8
      obtain ⟨cg8, fg8, sg8⟩ := bfacts hg8.grows
      try simp only [World.size_alloc, World.size_setCell, size_drew, size_drewN] at sg8
      have Hg8 : Below _ _ wg8 := hg8.grows
      clear hg8
      simp only [List.drop_succ_cons, List.drop_zero]
      have Hr8 : Hid (RowW wg8 (w.heap.size + 1 + 1) 8 (St.at ⟨a, b', c', d, e, f', g, h⟩) 105) := (Hg8.block _ hbw).trans H.out.2.2.1
      have Hb8 := Lib.hid (show Below (w.heap.size + 1 + 1) w1 wg8 from H.out.2.2.2.trans (Below.mono (⟨Hg8.os, Hg8.tape, Hg8.output, Hg8.size, Hg8.block⟩ : Below wr.heap.size wr wg8) (Nat.le_of_lt hbw)))
      clear cg8 fg8 sg8 Hg8 c0 c1 c2 c3 c4 c5 c6 c7 hk
      go_wp2_with ((with_reducible show wpList _ _ _ (⟨some 75, _, _, _, _, _⟩ :: []) _ _); refine wpList_copy_row (by rfl) (.tmp 73) (.tmp 74) 90 90 (by rfl) 93 Tryd.underlying90 wordCells (w.heap.size + 1 + 1) 1 7 7 ⟨w.heap.size + 1 + 1, 0, none⟩ 7 8 (by rfl) (by rfl) (ws (St.at ⟨a, b', c', d, e, f', g, h⟩) 8) 105 Hr8.out (ws (St.at ⟨a, b', c', d, e, f', g, h⟩) 7) (by rw [ws_len]; rfl) (copy_src Hr8.out) (by rw [ws_len, ws_len]; decide) (ws_oneL _ _) ?_; intro wc hgc _ hsc hbc; have Rc := Lib.hid (shift_row hgc.out); have d0 : wc.cell? ⟨w.heap.size + 1 + 1, 0, none⟩ = some (.int .u32 ((a : Nat) : Int)) := Rc.out.words.cell 0 (by decide); have d4 : wc.cell? ⟨w.heap.size + 1 + 1, 4, none⟩ = some (.int .u32 ((d : Nat) : Int)) := Rc.out.words.cell 4 (by decide); have z0 := Rc.out.words.fz 0; have z4 := Rc.out.words.fz 4; clear hgc)
      go_roundw
      case rel =>
        rw [S1_val le.out, ch_val (e := e) (f := f') (g := g) le.out H.out.2.1.f H.out.2.1.g, S0_val la.out, mj_val (a := a) (b := b') (c := c') la.out H.out.2.1.b H.out.2.1.c]
        rw [new_a h (S1 e) (ch e f' g) k x (S0 a) (mj a b' c'), new_e d h (S1 e) (ch e f' g) k x]
        refine ⟨t + 1, step k x ⟨a, b', c', d, e, f', g, h⟩, by omega, by go_num, ?_, step_ok H.out.2.1, ((Rc.out.set (i := 0) (by decide) _).set (i := 4) (by decide) _).congr (fun j hj => ?_), ((Hb8.out.trans (hbc.out _ (Nat.le_refl _))).setCell (Nat.le_refl _) _).setCell (Nat.le_refl _) _⟩
        · rw [Ek.out, Ex.out, H.out.1]; rfl
        · exact step_at k x ⟨a, b', c', d, e, f', g, h⟩ _ _ rfl rfl j hj
      case measure => simp [intOf]; omega
    · obtain rfl : t = 64 := by omega
      clear hlt ht HLr
      go_wp2_with fail
      go_loopw [86] (fun i wr => ∃ (i' : Nat) (g : Nat → Nat), i' ≤ 8 ∧ i = .int .i64 (i' : Int) ∧ Hid (RowW wr (w.heap.size + 1 + 1) 8 g 105 ∧ (∀ j, g j = if j < i' then ad (S.at j) (s.at j) else S.at j) ∧ Below (w.heap.size + 1 + 1) w1 wr)) (fun i _ => 8 - (intOf i).toNat)
      case atStart => exact ⟨0, S.at, by omega, rfl, H.out.2.2.1, fun j => by rw [if_neg (Nat.not_lt_zero _)], H.out.2.2.2⟩
      case round =>
        obtain ⟨i, g, hi, rfl, G⟩ := hrel
        by_cases hlt : i < 8
        · have hlt2 : (i : Int) < 8 := by omega
          have cv := G.out.1.words.cell i hlt
          have hfz := G.out.1.words.fz i
          have cs : wr.cell? ⟨w.heap.size, i, none⟩ = some (.int .u32 ((s.at i : Nat) : Int)) := (Hsb.out.below G.out.2.2 (by omega)).words.cell i hlt
          obtain ⟨gv, eg⟩ : ∃ x, x = g i := ⟨_, rfl⟩
          obtain ⟨sv, es⟩ : ∃ x, x = s.at i := ⟨_, rfl⟩
          rw [← eg] at cv
          rw [← es] at cs
          have Eg := Lib.hid eg
          have Es := Lib.hid es
          clear eg es
          go_wp2_with fail
          refine region_mix 8 [false, false, false, false, false, false, false, false] (fun w' => w' = World.drew _) (by kernel_rfl) (by kernel_rfl) (by intro _ _ d _ _ h; cases d <;> exact h) rfl ?_
          simp only [List.take_succ_cons, List.take_zero, List.drop_succ_cons, List.drop_zero]
          with_reducible refine mix_v ?_ ?_ ?_
          · rfl
          · rfl
          apply Exists.intro
          refine ⟨fun w' hC => ?_, ?_⟩
          · subst hC
            go_simp
            rfl
          try simp only [Act.put, List.setIfInBounds_toArray, List.set_cons_zero, List.set_cons_succ, List.tail_cons]
          with_reducible refine mix_v ?_ ?_ ?_
          · rfl
          · rfl
          apply Exists.intro
          refine ⟨fun w' hC => ?_, ?_⟩
          · subst hC
            go_simp
            rfl
          try simp only [Act.put, List.setIfInBounds_toArray, List.set_cons_zero, List.set_cons_succ, List.tail_cons]
          with_reducible refine mix_v ?_ ?_ ?_
          · rfl
          · rfl
          apply Exists.intro
          refine ⟨fun w' hC => ?_, ?_⟩
          · subst hC
            go_simp
            rfl
          try simp only [Act.put, List.setIfInBounds_toArray, List.set_cons_zero, List.set_cons_succ, List.tail_cons]
          with_reducible refine mix_v ?_ ?_ ?_
          · rfl
          · rfl
          apply Exists.intro
          refine ⟨fun w' hC => ?_, ?_⟩
          · subst hC
            go_simp
            rfl
          try simp only [Act.put, List.setIfInBounds_toArray, List.set_cons_zero, List.set_cons_succ, List.tail_cons]
          with_reducible refine mix_v ?_ ?_ ?_
          · rfl
          · rfl
          apply Exists.intro
          refine ⟨fun w' hC => ?_, ?_⟩
          · subst hC
            go_simp
            rfl
          try simp only [Act.put, List.setIfInBounds_toArray, List.set_cons_zero, List.set_cons_succ, List.tail_cons]
          with_reducible refine mix_v ?_ ?_ ?_
          · rfl
          · rfl
          apply Exists.intro
          refine ⟨fun w' hC => ?_, ?_⟩
          · subst hC
            go_simp
            rfl
          try simp only [Act.put, List.setIfInBounds_toArray, List.set_cons_zero, List.set_cons_succ, List.tail_cons]
          with_reducible refine mix_v ?_ ?_ ?_
          · rfl
          · rfl
          apply Exists.intro
          refine ⟨fun w' hC => ?_, ?_⟩
          · subst hC
            go_simp
            rfl
          try simp only [Act.put, List.setIfInBounds_toArray, List.set_cons_zero, List.set_cons_succ, List.tail_cons]
          with_reducible refine mix_v ?_ ?_ ?_
          · rfl
          · rfl
          apply Exists.intro
          refine ⟨fun w' hC => ?_, ?_⟩
          · subst hC
            go_simp
            rfl
          try simp only [Act.put, List.setIfInBounds_toArray, List.set_cons_zero, List.set_cons_succ, List.tail_cons]
          refine mix_nil ?_
          rintro _ rfl
          go_wp2_with fail
          go_roundw
          case rel =>
            rw [add2_val gv sv]
            refine ⟨i + 1, upd g i (ad gv sv), by omega, by go_num, (G.out.1.set hlt _).drew, fun j => ?_, (G.out.2.2.setCell (Nat.le_refl _) _).drew⟩
            unfold upd
            by_cases e : j = i
            · subst e
              rw [if_pos rfl, if_pos (Nat.lt_succ_self _), Eg.out, Es.out, G.out.2.1, if_neg (Nat.lt_irrefl _)]
            · rw [if_neg e, G.out.2.1 j]
              by_cases h : j < i
              · rw [if_pos h, if_pos (by omega)]
              · rw [if_neg h, if_neg (by omega)]
          case measure => simp [intOf]; omega
        · obtain rfl : i = 8 := by omega
          clear hlt hi
          go_wp2_with (first
            | (refine wpList_load_of rfl 105 (.tmp 5) rfl (.pointer (some ⟨w.heap.size + 1 + 1, 0, none⟩)) (.agg (ws g 8).toArray) rfl (load_words G.out.1.words Tryd.underlying105 (by kernel_rfl)) ?_; simp only [Act.put, List.setIfInBounds_toArray, List.set_cons_zero, List.set_cons_succ, List.tail_cons])
            | ((with_reducible show wpList _ _ _ (⟨none, _, _, _, _, _⟩ :: []) _ _); refine wpList_store_mid rfl 105 (.tmp 4) (.tmp 98) rfl (w.heap.size + 1) 0 (ws g 8).toArray rfl rfl (there_ws (Hres.out.below G.out.2.2 (by omega)).words) (info_ws (by kernel_rfl)) (ws_one g 8) ?_; simp only [Act.put, List.setIfInBounds_toArray, List.set_cons_zero, List.set_cons_succ, List.tail_cons]))
          have E := Lib.hid (show stV (blk K s f) = .agg (ws g 8).toArray by
            rw [stV_ws, ws_congr (g := (blk K s f).at) (g' := g) (n := 8) (fun j hj => by rw [G.out.2.1 j, if_pos hj, H.out.1]; exact addS_at _ _ j hj)])
          exact bodyPost_ret (v := stV (blk K s f)) (by rw [E.out]; exact results_words (g := g) (b := w.heap.size + 1) rfl rfl (Hres.out.below G.out.2.2 (by omega)).words.stored Tryd.underlying105 (by kernel_rfl)) rfl ⟨rfl, below_setCells (by omega) _ _ _ _ (HB1.out.trans (Below.mono G.out.2.2 (by omega)))⟩
end Go.Proofs.YtjhfepkpfakemaaDoor.Sh

namespace Go.Proofs.YtjhfepkpfakemaaDoor.Sh
set_option linter.all false
open Go Go.RowKit

@[go_sem] theorem eqlSliceNil (a : Option Addr) (l c : Nat) (w : World) : (binOp BinOp.eql 29 (.slice a l c) (.slice none 0 0)).run Tryd.prog w = .ok (.bool a.isNone) w := by
  simp [binOp, Sem.run_bind, run_equal_slice_nil w 29 5 a l c Tryd.underlying29]

set_option maxRecDepth 100000 in
set_option maxHeartbeats 4000000 in
theorem clone_some (ad : Addr) (n c : Nat) (f : Nat → Nat) (hn : n ≤ 1000000) (w : World) (hS : Hid (∀ w', Below w.heap.size w w' → ∀ j v, (fl f n)[j]? = some v → w'.cell? (ad.add j) = some v)) :
    Calls Tryd.prog 75 #[.slice (some ad) n c] w fun e w' => (∃ r, e = .returned r ∧ w'.ownsRow w.heap.size 5 1 r n (fl f n)) ∧ Below w.heap.size w w' := by
  obtain ⟨i0, hi, hz0, hz1, hz2⟩ := info_parts infoByte
  have Hi := Lib.hid hi
  have Hz0 := Lib.hid hz0
  have Hz1 := Lib.hid hz1
  have Hz2 := Lib.hid hz2
  have Hn := Lib.hid hn
  clear hi hz0 hz1 hz2 hn
  have hown : (w.alloc (.cells #[] 5)).ownsRow w.heap.size 5 1 (.slice (some ⟨w.heap.size, 0, none⟩) 0 0) 0 [] := World.ownsRow_made w #[] 0 (Nat.le_refl _) (by unfold maxLen; omega) rfl
  have Hown := Lib.hid hown
  clear hown
  go_enter Tryd.func75, Tryd.ntmps75
  go_wp2_with (at_builtin; refine wpList_append_own _ rfl (.tmp 5) (.tmp 6) 29 rfl w.heap.size 5 i0 (.int .u8 0) 1 1 Tryd.underlying29 Hi.out Hz0.out Hz1.out Hz2.out rfl (by decide) _ _ _ rfl Hown.out ad n c (fl f n) rfl (by rw [fl_len]; omega) (hS.out _ ((Below.refl _ _).alloc (Nat.le_refl _) _)) (fl_one f n) (by have := Hn.out; unfold maxLen; omega) (by have := Hn.out; omega) (by simp only [World.size_alloc]; omega) ?_; intro r' w1' hown' hgrow' _)
  simp only [Nat.zero_add, List.nil_append] at hown'
  have R1 := Lib.hid hown'
  have R2 := Lib.hid (show Below w.heap.size w w1' from ((Below.refl _ _).alloc (Nat.le_refl _) _).grown hgrow' (by simp only [World.size_alloc]; omega) (fun k hk => (Hown.out.lt k hk).1))
  clear hown' hgrow'
  go_wp2_with fail
  exact bodyPost_ret (v := r') (by simp only [results, Tryd.results75]; go_simp) rfl ⟨⟨r', rfl, R1.out⟩, R2.out⟩

set_option maxRecDepth 100000 in
theorem clone_nil (w : World) :
    Calls Tryd.prog 75 #[.slice none 0 0] w fun e w' => (∃ r, e = .returned r ∧ w'.ownsRow w.heap.size 5 1 r 0 []) ∧ Below w.heap.size w w' := by
  go_enter Tryd.func75, Tryd.ntmps75
  go_wp2_with fail
  exact bodyPost_ret (v := .slice none 0 0) (by simp only [results, Tryd.results75]; go_simp) rfl ⟨⟨_, rfl, World.ownsRow_nil _ _ _ _⟩, Below.refl _ _⟩

/-- Clone of n bytes: a slice of its own. -/
theorem clone_c (w : World) (a : Option Addr) (n c : Nat) (f : Nat → Nat) (hn : n ≤ 1000000) (h : SliceAt w a n c f) :
    Calls Tryd.prog 75 #[.slice a n c] w fun e w' => (∃ r, e = .returned r ∧ w'.ownsRow w.heap.size 5 1 r n (fl f n)) ∧ Below w.heap.size w w' := by
  rcases h.at_ with ⟨rfl, rfl, rfl⟩ | ⟨ad, rfl, k⟩
  · exact clone_nil w
  · refine clone_some ad n c f hn w (Lib.hid fun w' hb j v hv => ?_)
    have hj : j < n := by have := (List.getElem?_eq_some_iff.1 hv).1; rwa [fl_len] at this
    obtain ⟨b, off, rfl, hB⟩ := k (by omega)
    exact (hB.below hb).src j v hv
end Go.Proofs.YtjhfepkpfakemaaDoor.Sh

namespace Go.Proofs.YtjhfepkpfakemaaDoor.Sh
set_option linter.all false
open Go Go.RowKit

/-- Block p is a hash of the n bytes f; what it holds of its own lies from C on. -/
structure HashAt (w : World) (C p : Nat) (f : Nat → Nat) (n : Nat) : Prop where
  lt : ∀ j, f j < 256
  own : C ≤ p
  blk : p < w.heap.size
  st : ∀ j, j < 8 → w.cell? ⟨p, j, none⟩ = some (.int .u32 (((hs K s0 f (n / 64)).at j : Nat) : Int))
  rest : ∃ r, w.cell? ⟨p, 8, none⟩ = some r ∧ w.ownsRow C 5 1 r (n % 64) (fl (fun j => f (64 * (n / 64) + j)) (n % 64)) ∧ r.ownBlock ≠ some p
  len : w.cell? ⟨p, 9, none⟩ = some (.int .i64 (n : Int))
  fz : ∀ j, w.frozen? ⟨p, j, none⟩ = false

theorem load_cells {w : World} {b n : Nat} {g : Nat → Nat} {ty e : TypeId} {m : Nat} (h : ∀ j, j < n → w.cell? ⟨b, j, none⟩ = some (.int .u32 ((g j : Nat) : Int))) (hu : Tryd.prog.underlying ty = some (.array m e))
    (hi : (Tryd.prog.info? ty).map (·.size) = some n) : (Instr.loadAt ty (.pointer (some ⟨b, 0, none⟩))).run Tryd.prog w = .ok (.agg (ws g n).toArray) w := by
  have := run_loadVar_at (P := Tryd.prog) w ⟨b, 0, none⟩ ty e m (ws g n) (fun j v hj => by
    have hjn : j < n := by
      have := (List.getElem?_eq_some_iff.1 hj).1
      rwa [ws_len] at this
    rw [ws_get g n j hjn] at hj
    cases hj
    have e : (⟨b, 0, none⟩ : Addr).add j = ⟨b, 0 + j, none⟩ := by unfold Addr.add; split <;> simp_all
    rw [e, Nat.zero_add]
    exact h j hjn) hu (by rw [ws_len]; exact hi)
  simp only [Instr.loadAt, Instr.sureAddr, Sem.run_bind, Sem.run_pure, Result.andThen_ok, this]

set_option maxRecDepth 100000 in
set_option maxHeartbeats 2000000 in
theorem new_walk (S : St) (w : World) (hS : Hid (∀ j, j < 8 → w.cell? ⟨1, j, none⟩ = some (.int .u32 ((S.at j : Nat) : Int)))) :
    Calls Tryd.prog 58 #[] w fun e w' => e = .returned (.pointer (some ⟨w.heap.size, 0, none⟩)) ∧ w' = w.alloc (.cells #[.int .u32 ((S.a : Nat) : Int), .int .u32 ((S.b : Nat) : Int), .int .u32 ((S.c : Nat) : Int), .int .u32 ((S.d : Nat) : Int), .int .u32 ((S.e : Nat) : Int), .int .u32 ((S.f : Nat) : Int), .int .u32 ((S.g : Nat) : Int), .int .u32 ((S.h : Nat) : Int), .slice none 0 0, .int .i64 0] 107) := by
  go_enter Tryd.func58, Tryd.ntmps58
  go_wp2_with (refine wpList_load_of rfl 105 (.global 1) rfl (.pointer (some ⟨1, 0, none⟩)) (stV S) rfl (load_cells (g := S.at) (n := 8) hS.out Tryd.underlying105 (by kernel_rfl)) ?_; simp only [Act.put, List.setIfInBounds_toArray, List.set_cons_zero, List.set_cons_succ, List.tail_cons])
  go_ret
  exact ⟨rfl, rfl⟩

theorem new_c (f : Nat → Nat) (hf : ∀ j, f j < 256) (w : World) (hL : Laid w) :
    Calls Tryd.prog 58 #[] w fun e w' => (∃ p, e = .returned (.pointer (some ⟨p, 0, none⟩)) ∧ HashAt w' w.heap.size p f 0) ∧ Below w.heap.size w w' := by
  refine (new_walk s0 w (Lib.hid hL.s)).mono ?_
  rintro e w' ⟨rfl, rfl⟩
  have hb := heap_alloc_new w (.cells #[.int .u32 ((s0.a : Nat) : Int), .int .u32 ((s0.b : Nat) : Int), .int .u32 ((s0.c : Nat) : Int), .int .u32 ((s0.d : Nat) : Int), .int .u32 ((s0.e : Nat) : Int), .int .u32 ((s0.f : Nat) : Int), .int .u32 ((s0.g : Nat) : Int), .int .u32 ((s0.h : Nat) : Int), .slice none 0 0, .int .i64 0] 107)
  refine ⟨⟨w.heap.size, rfl, hf, Nat.le_refl _, by simp only [World.size_alloc]; omega, fun j hj => ?_, ⟨.slice none 0 0, ?_, ?_, ?_⟩, ?_, fun j => ?_⟩, (Below.refl _ _).alloc (Nat.le_refl _) _⟩
  · rw [cell_of_row _ w.heap.size j _ _ _ hb]
    have h : j = 0 ∨ j = 1 ∨ j = 2 ∨ j = 3 ∨ j = 4 ∨ j = 5 ∨ j = 6 ∨ j = 7 := by omega
    rcases h with rfl | rfl | rfl | rfl | rfl | rfl | rfl | rfl <;> rfl
  · rw [cell_of_row _ w.heap.size 8 _ _ _ hb]; rfl
  · exact World.ownsRow_nil _ _ _ _
  · intro h; cases h
  · rw [cell_of_row _ w.heap.size 9 _ _ _ hb]; rfl
  · exact frozen_of_row _ w.heap.size j _ _ hb
end Go.Proofs.YtjhfepkpfakemaaDoor.Sh

namespace Go.Proofs.YtjhfepkpfakemaaDoor.Sh
set_option linter.all false
open Go Go.RowKit

/-- f up to n, then g. -/
def cat (f : Nat → Nat) (n : Nat) (g : Nat → Nat) (j : Nat) : Nat := if j < n then f j else g (j - n)
theorem cat_lt {f g : Nat → Nat} (hf : ∀ j, f j < 256) (hg : ∀ j, g j < 256) (n j : Nat) : cat f n g j < 256 := by unfold cat; split; exact hf _; exact hg _
theorem cat_rest (f g : Nat → Nat) (n m : Nat) : fl (fun j => f (64 * (n / 64) + j)) (n % 64) ++ fl g m = fl (fun j => cat f n g (64 * (n / 64) + j)) (n % 64 + m) := by
  rw [← fl_add]
  congr 1
  · exact fl_congr fun j hj => by unfold cat; rw [if_pos (by omega)]
  · exact fl_congr fun j _ => by unfold cat; rw [if_neg (by omega)]; congr 1; omega
theorem hs_cat (f g : Nat → Nat) (n : Nat) : hs K s0 f (n / 64) = hs K s0 (cat f n g) (n / 64) := hs_congr _ fun j hj => by unfold cat; rw [if_pos (by omega)]

/-- Of the old blocks only p (and the row r) may have been written. -/
structure Wrote (w w' : World) (p : Nat) (r : Option Nat) : Prop where
  os : w'.os = w.os
  tape : w'.tape = w.tape
  output : w'.output = w.output
  size : w.heap.size ≤ w'.heap.size
  block : ∀ k, k < w.heap.size → k ≠ p → some k ≠ r → w'.heap[k]? = w.heap[k]?
theorem Wrote.below {w w' : World} {p C : Nat} {r : Option Nat} (h : Wrote w w' p r) (hC : C ≤ p) (hw : C ≤ w.heap.size) (hr : ∀ k, r = some k → C ≤ k) : Below C w w' :=
  ⟨h.os, h.tape, h.output, h.size, fun k hk => h.block k (by omega) (by omega) (fun e => by have := hr k e.symm; omega)⟩

theorem Wrote.refl (w : World) (p : Nat) (r : Option Nat) : Wrote w w p r := ⟨rfl, rfl, rfl, Nat.le_refl _, fun _ _ _ _ => rfl⟩
theorem Wrote.step {w a b : World} {p : Nat} {r : Option Nat} (h : Wrote w a p r) (hb : Below a.heap.size a b) : Wrote w b p r :=
  ⟨hb.os.trans h.os, hb.tape.trans h.tape, hb.output.trans h.output, Nat.le_trans h.size hb.size, fun k hk h1 h2 => (hb.block k (Nat.lt_of_lt_of_le hk h.size)).trans (h.block k hk h1 h2)⟩
theorem Wrote.set {w a : World} {p : Nat} {r : Option Nat} (h : Wrote w a p r) (j : Nat) (v : Value) : Wrote w (a.setCell ⟨p, j, none⟩ v) p r :=
  ⟨h.os, h.tape, h.output, by simpa [World.setCell] using h.size, fun k hk h1 h2 => (Below.heap_setCell _ _ _ _ h1).trans (h.block k hk h1 h2)⟩
theorem Wrote.grown {w a b : World} {p : Nat} {r : Option Nat} (h : Wrote w a p r) (hg : a.grownBy b r) : Wrote w b p r :=
  ⟨hg.os.trans h.os, hg.tape.trans h.tape, hg.output.trans h.output, Nat.le_trans h.size hg.size, fun k hk h1 h2 => (hg.block k (Nat.lt_of_lt_of_le hk h.size) h2).trans (h.block k hk h1 h2)⟩

/-- The head of a hash: its state and its count; its slice lies there. -/
structure HeadAt (w : World) (p : Nat) (S : St) (N : Nat) : Prop where
  blk : p < w.heap.size
  st : ∀ j, j < 8 → w.cell? ⟨p, j, none⟩ = some (.int .u32 ((S.at j : Nat) : Int))
  c8 : (w.cell? ⟨p, 8, none⟩).isSome = true
  c9 : w.cell? ⟨p, 9, none⟩ = some (.int .i64 (N : Int))
  fz : ∀ j, w.frozen? ⟨p, j, none⟩ = false
theorem HeadAt.below {w w' : World} {p : Nat} {S : St} {N : Nat} (h : HeadAt w p S N) (hb : Below w.heap.size w w') : HeadAt w' p S N :=
  ⟨Nat.lt_of_lt_of_le h.blk hb.size, fun j hj => (hb.cell (p := ⟨p, j, none⟩) h.blk).trans (h.st j hj), by rw [hb.cell (p := ⟨p, 8, none⟩) h.blk]; exact h.c8,
    (hb.cell (p := ⟨p, 9, none⟩) h.blk).trans h.c9, fun j => (hb.frozen (p := ⟨p, j, none⟩) h.blk).trans (h.fz j)⟩

theorem write_head {C p n m : Nat} {f : Nat → Nat} {w w1 : World} {r : Value} (H : HashAt w C p f n) (hr : w.cell? ⟨p, 8, none⟩ = some r) (hrp : r.ownBlock ≠ some p)
    (hg : (w.setCell ⟨p, 9, none⟩ (.int .i64 ((n : Int) + (m : Int)))).grownBy w1 r.ownBlock) : HeadAt w1 p (hs K s0 f (n / 64)) (n + m) := by
  have hne : some p ≠ r.ownBlock := fun e => hrp e.symm
  have other : ∀ j v, j ≠ 9 → w.cell? ⟨p, j, none⟩ = some v → w1.cell? ⟨p, j, none⟩ = some v := fun j v hj h =>
    hg.cell (a := ⟨p, j, none⟩) ((World.cell?_setCell_other (w := w) (v := .int .i64 ((n : Int) + (m : Int))) (a := ⟨p, 9, none⟩) (b := ⟨p, j, none⟩) (fun e => by injection e with _ e2; omega)).trans h) hne
  refine ⟨Nat.lt_of_lt_of_le (by simpa [World.setCell] using H.blk) hg.size, fun j hj => other j _ (by omega) (H.st j hj), by rw [other 8 _ (by decide) hr]; rfl, ?_, fun j => ?_⟩
  · exact hg.cell (a := ⟨p, 9, none⟩) (World.cell?_setCell_same' w _ _ (by rw [H.len]; rfl)) hne
  · rw [World.frozen?_of_block (w := w.setCell ⟨p, 9, none⟩ (.int .i64 ((n : Int) + (m : Int)))) (hg.block p (by simpa [World.setCell] using H.blk) hne), World.frozen?_setCell]
    exact H.fz j
def lnOf : Value → Nat | .slice _ l _ => l | _ => 0
theorem HeadAt.there {w : World} {p : Nat} {S : St} {N : Nat} {g : Nat → Nat} (h : HeadAt w p S N) : w.there p 0 (ws g 8).toArray.size := by
  rw [List.size_toArray, ws_len]
  exact fun j hj => by rw [Nat.zero_add]; exact ⟨by rw [h.st j hj]; rfl, h.fz j⟩
/-- The state is written anew. -/
theorem HeadAt.stored {w : World} {p : Nat} {S S' : St} {N : Nat} (h : HeadAt w p S N) : HeadAt (w.setCells p 0 (ws S'.at 8)) p S' N := by
  have ht : w.there p 0 8 := fun j hj => by rw [Nat.zero_add]; exact ⟨by rw [h.st j hj]; rfl, h.fz j⟩
  have out : ∀ j, 8 ≤ j → (w.setCells p 0 (ws S'.at 8)).cell? ⟨p, j, none⟩ = w.cell? ⟨p, j, none⟩ := fun j hj =>
    World.cell?_setCells_out p _ 0 w ⟨p, j, none⟩ (fun _ _ => .inr (by rw [ws_len]; simpa using hj))
  refine ⟨by rw [size_setCells]; exact h.blk, fun j hj => ?_, by rw [out 8 (by decide)]; exact h.c8, by rw [out 9 (by decide)]; exact h.c9, fun j => by rw [World.frozen?_setCells]; exact h.fz j⟩
  have := World.rangeAt_setCells_same w p 0 (ws S'.at 8) (by rw [ws_len]; exact ht) j _ (ws_get S'.at 8 j hj)
  rwa [Nat.zero_add] at this

theorem Laid.drew {w : World} (h : Laid w) : Laid w.drew := ⟨h.k, h.s⟩
theorem BytesAt.drew {w : World} {b off n : Nat} {f : Nat → Nat} (h : BytesAt w b off n f) : BytesAt w.drew b off n f := ⟨h.lt, h.blk, h.cell⟩
theorem BytesAt.setCells {w : World} {b off n p : Nat} {f : Nat → Nat} (h : BytesAt w b off n f) (hp : b ≠ p) (vs : List Value) : BytesAt (w.setCells p 0 vs) b off n f :=
  ⟨h.lt, by rw [size_setCells]; exact h.blk, fun j hj => (World.cell?_setCells_out p vs 0 w ⟨b, off + j, none⟩ (fun e => absurd e hp)).trans (h.cell j hj)⟩
theorem Wrote.setCells {w : World} {p : Nat} {r : Option Nat} : ∀ (vs : List Value) (o : Nat) (a : World), Wrote w a p r → Wrote w (a.setCells p o vs) p r
  | [], _, _, h => h
  | v :: l, o, a, h => by
    unfold World.setCells
    exact Wrote.setCells l (o + 1) _ (h.set o v)
theorem after_c (w : World) (b off c : Nat) (f : Nat → Nat) (s : St) (hO : s.Ok) (hL : Laid w) (hB : BytesAt w b off 64 f) (hc : 64 ≤ c) :
    Calls Tryd.prog 74 #[stV s, .slice (some ⟨b, off, none⟩) 64 c] w fun e w' => e = .returned (stV (blk K s f)) ∧ Below w.heap.size w w' :=
  after_walk f b off c s w (Lib.hid hO) (Lib.hid hL) (Lib.hid hB.lt) (Lib.hid fun w' hb => schedule_c f b off c hc w' (hB.below hb))
theorem hash_of {w : World} {C p N k : Nat} {F G : Nat → Nat} {a : Option Addr} {l c : Nat} (hF : ∀ j, F j < 256) (hC : C ≤ p) (hh : HeadAt w p (hs K s0 F (N / 64)) N)
    (ho : w.ownsRow C 5 1 (.slice a l c) k (fl G k)) (hne : (Value.slice a l c).ownBlock ≠ some p) (hk : N % 64 = k) (hG : ∀ j, j < k → G j = F (64 * (N / 64) + j)) :
    HashAt (w.setCell ⟨p, 8, none⟩ (.slice a l c)) C p F N := by
  have out : ∀ j v, j ≠ 8 → w.cell? ⟨p, j, none⟩ = some v → (w.setCell ⟨p, 8, none⟩ (.slice a l c)).cell? ⟨p, j, none⟩ = some v := fun j v hj h =>
    (World.cell?_setCell_other (w := w) (v := .slice a l c) (a := ⟨p, 8, none⟩) (b := ⟨p, j, none⟩) (fun e => by injection e with _ e2; omega)).trans h
  refine ⟨hF, hC, by simpa [World.setCell] using hh.blk, fun j hj => out j _ (by omega) (hh.st j hj), ⟨.slice a l c, World.cell?_setCell_same' w _ _ hh.c8, ?_, hne⟩, out 9 _ (by decide) hh.c9, fun j => by rw [World.frozen?_setCell]; exact hh.fz j⟩
  rw [hk, ← fl_congr hG]
  exact ho.kept (row := some p) ⟨rfl, rfl, rfl, by simp [World.setCell], fun k hk hne => Below.heap_setCell _ _ _ _ (fun e => hne (by rw [e]))⟩ (.inr hne)
theorem row_slice {w : World} {C : Nat} {e : TypeId} {size n : Nat} {v : Value} {xs : List Value} (h : w.ownsRow C e size v n xs) : ∃ a m c, v = .slice a m c := by
  rcases h.2 with ⟨rfl, _⟩ | ⟨g, cap, cur, rfl, _⟩
  · exact ⟨_, _, _, rfl⟩
  · exact ⟨_, _, _, rfl⟩
theorem row_slice2 {w : World} {C : Nat} {e : TypeId} {size n : Nat} {v : Value} {xs : List Value} (h : w.ownsRow C e size v n xs) : ∃ a c, v = .slice a n c := by
  rcases h.2 with ⟨rfl, rfl⟩ | ⟨g, cap, cur, rfl, _⟩
  · exact ⟨_, _, rfl⟩
  · exact ⟨_, _, rfl⟩
theorem row_sliceAt {w : World} {C n c : Nat} {a : Option Addr} {F : Nat → Nat} (h : w.ownsRow C 5 1 (.slice a n c) n (fl F n)) (hF : ∀ j, F j < 256) : SliceAt w a n c F := by
  rcases h.2 with ⟨e, h0⟩ | ⟨g, cap, cur, e, _, hg, hle, _⟩
  · injection e with e1 e2 e3
    subst e1 e3 h0
    exact ⟨hF, Nat.le_refl _, .inl ⟨rfl, rfl, rfl⟩⟩
  · injection e with e1 e2 e3
    subst e1 e3
    refine ⟨hF, hle, .inr ⟨_, rfl, fun _ => ⟨g, 0, rfl, hF, (h.lt g rfl).2, fun j hj => ?_⟩⟩⟩
    have := h.cells (g := g) rfl j _ (fl_get F n j hj)
    have e : (⟨g, 0, none⟩ : Addr).add j = ⟨g, 0 + j, none⟩ := by unfold Addr.add; split <;> simp_all
    rwa [e] at this
theorem HashAt.kept {w w' : World} {C p n : Nat} {f : Nat → Nat} (h : HashAt w C p f n) (hb : Below w.heap.size w w') : HashAt w' C p f n := by
  obtain ⟨r, hr, ho, hne⟩ := h.rest
  refine ⟨h.lt, h.own, Nat.lt_of_lt_of_le h.blk hb.size, fun j hj => (hb.cell (p := ⟨p, j, none⟩) h.blk).trans (h.st j hj), ⟨r, (hb.cell (p := ⟨p, 8, none⟩) h.blk).trans hr, ?_, hne⟩, (hb.cell (p := ⟨p, 9, none⟩) h.blk).trans h.len, fun j => (hb.frozen (p := ⟨p, j, none⟩) h.blk).trans (h.fz j)⟩
  refine ⟨ho.1, ho.2.imp id fun ⟨g, cap, cur, e, hg, hh, k⟩ => ⟨g, cap, cur, e, hg, (hb.block g (Array.getElem?_eq_some_iff.1 hh).1).trans hh, k⟩⟩
/-- Only the first n bytes count. -/
theorem HashAt.congr {w : World} {C p n : Nat} {f g : Nat → Nat} (h : HashAt w C p f n) (hg : ∀ j, g j < 256) (e : ∀ j, j < n → g j = f j) : HashAt w C p g n := by
  refine ⟨hg, h.own, h.blk, fun j hj => ?_, ?_, h.len, h.fz⟩
  · rw [hs_congr (f := g) (g := f) (n / 64) (fun j hj => e j (by omega))]
    exact h.st j hj
  · obtain ⟨r, hr, ho, hne⟩ := h.rest
    refine ⟨r, hr, ?_, hne⟩
    rw [fl_congr (f := fun j => g (64 * (n / 64) + j)) (g := fun j => f (64 * (n / 64) + j)) (fun j hj => e _ (by omega))]
    exact ho
theorem ownsRow_mono {w : World} {C D : Nat} {e : TypeId} {size n : Nat} {v : Value} {xs : List Value} (h : w.ownsRow D e size v n xs) (hC : C ≤ D) : w.ownsRow C e size v n xs :=
  ⟨h.1, h.2.imp id fun ⟨g, cap, cur, e, hb, k⟩ => ⟨g, cap, cur, e, Nat.le_trans hC hb, k⟩⟩
theorem row_bytes {w : World} {C gb n cap : Nat} {F : Nat → Nat} (h : w.ownsRow C 5 1 (.slice (some ⟨gb, 0, none⟩) n cap) n (fl F n)) (hF : ∀ j, F j < 256) : BytesAt w gb 0 n F := by
  refine ⟨hF, (h.lt gb rfl).2, fun j hj => ?_⟩
  have := h.cells (g := gb) rfl j _ (fl_get F n j hj)
  have e : (⟨gb, 0, none⟩ : Addr).add j = ⟨gb, 0 + j, none⟩ := by unfold Addr.add; split <;> simp_all
  rwa [e] at this

set_option maxRecDepth 100000 in
set_option maxHeartbeats 8000000 in
theorem write_walk (C p n m c : Nat) (ad : Addr) (f g : Nat → Nat) (hn : n + m ≤ 1000000) (w : World) (HL : Hid (Laid w)) (H : Hid (HashAt w C p f n)) (hg : Hid (∀ j, g j < 256)) (hB : Hid (0 < m → ∃ b0 off, ad = ⟨b0, off, none⟩ ∧ b0 ≠ p ∧ BytesAt w b0 off m g)) (hC1 : Hid (2 < C)) (hC2 : Hid (1 < C)) :
    Calls Tryd.prog 59 #[.pointer (some ⟨p, 0, none⟩), .slice (some ad) m c] w fun e w' => e = .returned (.tuple #[]) ∧ HashAt w' C p (cat f n g) (n + m) ∧ (∀ r', w'.cell? ⟨p, 8, none⟩ = some r' → ∀ k, r'.ownBlock = some k → w.heap.size ≤ k) ∧ ∀ r, w.cell? ⟨p, 8, none⟩ = some r → Wrote w w' p r.ownBlock := by
  obtain ⟨i0, hi, hz0, hz1, hz2⟩ := info_parts infoByte
  have Hi := Lib.hid hi
  have Hz0 := Lib.hid hz0
  have Hz1 := Lib.hid hz1
  have Hz2 := Lib.hid hz2
  clear hi hz0 hz1 hz2
  obtain ⟨r, hr, hown, hrp⟩ := H.out.rest
  have hlen := H.out.len
  have hfz := H.out.fz 9
  have hnb : (n : Int) + (m : Int) ≤ 1000000 := by omega
  have hown1 := hown.kept (w' := w.setCell ⟨p, 9, none⟩ (.int .i64 ((n : Int) + (m : Int)))) (row := some p) ⟨rfl, rfl, rfl, by simp [World.setCell], fun k hk hne => Below.heap_setCell _ _ _ _ (fun e => hne (by rw [e]))⟩ (.inr hrp)
  have Hown := Lib.hid hown1
  have hsrc : ∀ j v, (fl g m)[j]? = some v → (w.setCell ⟨p, 9, none⟩ (.int .i64 ((n : Int) + (m : Int)))).cell? (ad.add j) = some v := fun j v hv => by
    have hj : j < m := by have := (List.getElem?_eq_some_iff.1 hv).1; rwa [fl_len] at this
    obtain ⟨b0, off, rfl, hb0, hBB⟩ := hB.out (by omega)
    have h := hBB.src j v hv
    have e : (⟨b0, off, none⟩ : Addr).add j = ⟨b0, off + j, none⟩ := by unfold Addr.add; split <;> simp_all
    rw [e] at h ⊢
    rw [World.cell?_setCell_other (w := w) (v := .int .i64 ((n : Int) + (m : Int))) (a := ⟨p, 9, none⟩) (b := ⟨b0, off + j, none⟩) (fun e => by injection e with e1 _; exact hb0 e1.symm)]
    exact h
  have Hsrc := Lib.hid hsrc
  clear hown hown1 hsrc
  go_enter Tryd.func59, Tryd.ntmps59
  go_wp2_with (at_builtin; refine wpList_append_own_at _ rfl (.tmp 19) (.tmp 20) 29 rfl C 5 i0 (.int .u8 0) 1 1 Tryd.underlying29 Hi.out Hz0.out Hz1.out Hz2.out rfl (by decide) r (n % 64) _ rfl Hown.out ad m c (fl g m) rfl (by rw [fl_len]; omega) Hsrc.out (fl_one g m) (by unfold maxLen; omega) (by omega) (by have := H.out.own; have := H.out.blk; simp [World.setCell]; omega) ?_; intro v' w1 hown' hgrow' hnil hat)
  rw [cat_rest] at hown'
  have hvp : v'.ownBlock ≠ some p := by
    rcases hat with e | e
    · rw [e]; exact hrp
    · rw [e]; intro h; have := H.out.blk; simp [World.setCell] at h; omega
  have hW1 := Lib.hid (((Wrote.refl w p r.ownBlock).set 9 (.int .i64 ((n : Int) + (m : Int)))).grown hgrow')
  have hrC : Hid (∀ k, r.ownBlock = some k → C ≤ k) := fun k hk => (Hown.out.lt k hk).1
  have hH1 := Lib.hid (write_head H.out hr hrp hgrow')
  rw [hs_cat f g n] at hH1
  have HL1 := Lib.hid (HL.out.kept (hW1.out.below H.out.own (by have := H.out.own; have := H.out.blk; omega) hrC.out) hC1.out hC2.out)
  have hrowlt := hown'.lt
  obtain ⟨T, eT⟩ : ∃ T, T = n % 64 + m := ⟨_, rfl⟩
  rw [← eT] at hown'
  have hT2 : (n % 64 + m : Nat) = T := eT.symm
  have ET := Lib.hid eT
  obtain ⟨Fs, eF⟩ : ∃ Fs, Fs = fun j => cat f n g (64 * (n / 64) + j) := ⟨_, rfl⟩
  rw [← eF] at hown'
  have EF := Lib.hid eF
  have hFl : Hid (∀ j, Fs j < 256) := fun j => by rw [eF]; exact cat_lt H.out.lt hg.out n _
  have Hvp := Lib.hid hvp
  have Hrow := Lib.hid hown'
  have Hn := Lib.hid hn
  have Hr := Lib.hid hr
  clear hgrow' hnil hat hrp hlen hfz hnb hvp eT eF hr hn
  rcases hown'.2 with ⟨rfl, h0⟩ | ⟨gb, cap, cur, rfl, hCg, hheap, hle, hmx, hsz, htk⟩
  · have hq2 : (n + m) / 64 = n / 64 ∧ (n + m) % 64 = 0 := by have := ET.out; omega
    have Hq2 := Lib.hid hq2
    clear hq2 hown'
    go_wp2_with fail
    go_loopw [4] (fun d wr => d = .slice none 0 0 ∧ wr = w1) (fun _ _ => 0)
    case atStart => exact ⟨rfl, rfl⟩
    case round =>
      obtain ⟨rfl, rfl⟩ := hrel
      go_wp2_with fail
      refine Calls.mono (clone_nil _) ?_
      rintro _ w6 ⟨⟨r2, rfl, ho2⟩, h6⟩
      obtain ⟨c6, f6, s6⟩ := bfacts h6
      try simp only [World.size_alloc, World.size_setCell, size_drew, size_drewN] at s6
      have GH6 := Lib.hid (hH1.out.below h6)
      obtain ⟨v8, k8⟩ := Option.isSome_iff_exists.1 GH6.out.c8
      have z8 := GH6.out.fz 8
      obtain ⟨a2, n2, c2, rfl⟩ := row_slice ho2
      have Ho2 := Lib.hid ho2
      have H6 := Lib.hid h6
      clear ho2 h6 c6 f6
      go_wp2_with fail
      refine bodyPost_end (v := .tuple #[]) (by simp only [results, Tryd.results59]; go_simp) rfl ⟨rfl, ?_, fun r' hr' k hk => ?_, fun r' hr' => ?_⟩
      · refine hash_of (k := 0) (G := fun _ => 0) (cat_lt H.out.lt hg.out n) H.out.own (by rw [Hq2.out.1]; exact GH6.out) (ownsRow_mono Ho2.out (by have := hH1.out.blk; have := H.out.own; omega)) (fun e => ?_) Hq2.out.2 (fun j hj => by omega)
        have := (Ho2.out.lt p e).1
        have := hH1.out.blk
        omega
      · have hcell := World.cell?_setCell_same' w6 ⟨p, 8, none⟩ (.slice a2 n2 c2) GH6.out.c8
        rw [hcell] at hr'
        cases hr'
        exact Nat.le_trans (hW1.size) (Ho2.out.lt k hk).1
      · rw [Hr.out] at hr'
        cases hr'
        exact (hW1.out.step H6.out).set 8 _
  · clear hheap hmx hsz htk hown'
    have hgp : Hid (gb ≠ p) := fun e => Hvp.out (by rw [e]; rfl)
    have hcells : Hid (BytesAt w1 gb 0 T Fs) := row_bytes Hrow.out hFl.out
    go_wp2_with fail
    go_loopw [4] (fun d wr => ∃ q o, 64 * q ≤ T ∧ d = .slice (some ⟨gb, o, none⟩) (T - 64 * q) (cap - 64 * q) ∧ (0 < cap - 64 * q → o = 64 * q) ∧ Hid (HeadAt wr p (hs K s0 (cat f n g) (n / 64 + q)) (n + m) ∧ BytesAt wr gb 0 T Fs ∧ Laid wr ∧ Wrote w wr p r.ownBlock)) (fun d _ => lnOf d)
    case atStart => exact ⟨0, 0, by omega, rfl, fun _ => rfl, hH1.out, hcells.out, HL1.out, hW1.out⟩
    case round =>
      obtain ⟨q, o, hq, rfl, ho, G⟩ := hrel
      by_cases h64 : 64 ≤ T - 64 * q
      · have hi : (64 : Int) ≤ ((T - 64 * q : Nat) : Int) := by omega
        have hcp : 64 ≤ cap - 64 * q := by omega
        obtain rfl := ho (by omega)
        have hci : (64 : Int) ≤ ((cap - 64 * q : Nat) : Int) := by omega
        obtain ⟨S, eS⟩ : ∃ S, S = hs K s0 (cat f n g) (n / 64 + q) := ⟨_, rfl⟩
        have ES := Lib.hid eS
        have HO : Hid S.Ok := by rw [eS]; exact hs_ok s0_ok _
        have GH : Hid (HeadAt wr p S (n + m)) := by rw [eS]; exact G.out.1
        have lp := GH.out.blk
        have k0 : wr.cell? ⟨p, 0, none⟩ = some (.int .u32 ((S.a : Nat) : Int)) := GH.out.st 0 (by decide)
        have k1 : wr.cell? ⟨p, 1, none⟩ = some (.int .u32 ((S.b : Nat) : Int)) := GH.out.st 1 (by decide)
        have k2 : wr.cell? ⟨p, 2, none⟩ = some (.int .u32 ((S.c : Nat) : Int)) := GH.out.st 2 (by decide)
        have k3 : wr.cell? ⟨p, 3, none⟩ = some (.int .u32 ((S.d : Nat) : Int)) := GH.out.st 3 (by decide)
        have k4 : wr.cell? ⟨p, 4, none⟩ = some (.int .u32 ((S.e : Nat) : Int)) := GH.out.st 4 (by decide)
        have k5 : wr.cell? ⟨p, 5, none⟩ = some (.int .u32 ((S.f : Nat) : Int)) := GH.out.st 5 (by decide)
        have k6 : wr.cell? ⟨p, 6, none⟩ = some (.int .u32 ((S.g : Nat) : Int)) := GH.out.st 6 (by decide)
        have k7 : wr.cell? ⟨p, 7, none⟩ = some (.int .u32 ((S.h : Nat) : Int)) := GH.out.st 7 (by decide)
        have HBq := Lib.hid (G.out.2.1.part (64 * q) 64 (by omega))
        obtain ⟨S', eS'⟩ : ∃ S', S' = blk K S (fun j => Fs (64 * q + j)) := ⟨_, rfl⟩
        have haf := fun w hL hB => after_c w gb (64 * q) (cap - 64 * q) (fun j => Fs (64 * q + j)) S HO.out hL hB hcp
        rw [← eS'] at haf
        have Haf := Lib.hid haf
        have ES' := Lib.hid eS'
        clear eS hcp haf eS'
        go_wp2_with fail
        refine region_grow 10 [0, 1, 2, 3, 4, 5, 6, 7, 8, 9] [] [7] (by kernel_rfl) (by kernel_rfl) ?_
        with_reducible apply grow_v
        · rfl
        · rfl
        · rfl
        apply Exists.intro
        refine ⟨fun w' hC => ?_, ?_⟩
        · have hcell := below_cells hC
          clear hC
          go_simp
          rfl
        try simp only [Act.put, List.setIfInBounds_toArray, List.set_cons_zero, List.set_cons_succ, List.tail_cons]
        with_reducible apply grow_v
        · rfl
        · rfl
        · rfl
        apply Exists.intro
        refine ⟨fun w' hC => ?_, ?_⟩
        · have hcell := below_cells hC
          clear hC
          go_simp
          rfl
        try simp only [Act.put, List.setIfInBounds_toArray, List.set_cons_zero, List.set_cons_succ, List.tail_cons]
        with_reducible apply grow_v
        · rfl
        · rfl
        · rfl
        apply Exists.intro
        refine ⟨fun w' hC => ?_, ?_⟩
        · have hcell := below_cells hC
          clear hC
          go_simp
          rfl
        try simp only [Act.put, List.setIfInBounds_toArray, List.set_cons_zero, List.set_cons_succ, List.tail_cons]
        with_reducible apply grow_v
        · rfl
        · rfl
        · rfl
        apply Exists.intro
        refine ⟨fun w' hC => ?_, ?_⟩
        · have hcell := below_cells hC
          clear hC
          go_simp
          rfl
        try simp only [Act.put, List.setIfInBounds_toArray, List.set_cons_zero, List.set_cons_succ, List.tail_cons]
        with_reducible apply grow_v
        · rfl
        · rfl
        · rfl
        apply Exists.intro
        refine ⟨fun w' hC => ?_, ?_⟩
        · have hcell := below_cells hC
          clear hC
          simp only [World.size_drew] at hcell
          go_simp
          rfl
        try simp only [Act.put, List.setIfInBounds_toArray, List.set_cons_zero, List.set_cons_succ, List.tail_cons]
        with_reducible apply grow_v
        · rfl
        · rfl
        · rfl
        apply Exists.intro
        refine ⟨fun w' hC => ?_, ?_⟩
        · have hcell := below_cells hC
          clear hC
          go_simp
          rfl
        try simp only [Act.put, List.setIfInBounds_toArray, List.set_cons_zero, List.set_cons_succ, List.tail_cons]
        with_reducible apply grow_v
        · rfl
        · rfl
        · rfl
        apply Exists.intro
        refine ⟨fun w' hC => ?_, ?_⟩
        · have hcell := below_cells hC
          clear hC
          go_simp
          rfl
        try simp only [Act.put, List.setIfInBounds_toArray, List.set_cons_zero, List.set_cons_succ, List.tail_cons]
        with_reducible apply grow_c
        · rfl
        · rfl
        · rfl
        · rfl
        apply Exists.intro
        apply Exists.intro
        apply Exists.intro
        refine ⟨fun w' hC => ?_, fun w' hC => ?_, ?_⟩
        · have hcell := below_cells hC
          clear hC
          go_simp
          exact ⟨rfl, rfl⟩
        · exact Haf.out _ (G.out.2.2.1.drew.step hC) (by have := (HBq.out.drew).below hC; rwa [Nat.zero_add] at this)
        try simp only [Act.put, List.setIfInBounds_toArray, List.set_cons_zero, List.set_cons_succ, List.tail_cons]
        with_reducible apply grow_v
        · rfl
        · rfl
        · rfl
        apply Exists.intro
        refine ⟨fun w' hC => ?_, ?_⟩
        · have hcell := below_cells hC
          clear hC
          go_simp
          rfl
        try simp only [Act.put, List.setIfInBounds_toArray, List.set_cons_zero, List.set_cons_succ, List.tail_cons]
        with_reducible apply grow_v
        · rfl
        · rfl
        · rfl
        apply Exists.intro
        refine ⟨fun w' hC => ?_, ?_⟩
        · have hcell := below_cells hC
          clear hC
          go_simp
          rfl
        try simp only [Act.put, List.setIfInBounds_toArray, List.set_cons_zero, List.set_cons_succ, List.tail_cons]
        refine grow_end ?_
        intro wg4 hg4
        obtain ⟨cg4, fg4, sg4⟩ := bfacts hg4.grows
        try simp only [World.size_alloc, World.size_setCell, size_drew, size_drewN] at sg4
        have Hg4 : Below _ _ wg4 := hg4.grows
        clear hg4
        simp only [List.drop_succ_cons, List.drop_zero]
        have hBr : Below wr.heap.size wr wg4 := ⟨Hg4.os, Hg4.tape, Hg4.output, Hg4.size, Hg4.block⟩
        have HBr := Lib.hid hBr
        have GH4 := Lib.hid (GH.out.below hBr)
        clear cg4 fg4 sg4 Hg4 hBr k0 k1 k2 k3 k4 k5 k6 k7
        go_wp2_with ((with_reducible show wpList _ _ _ (⟨none, .store _ _ (.tmp 32), _, _, _, _⟩ :: []) _ _); refine wpList_store_mid rfl 105 (.tmp 34) (.tmp 32) rfl p 0 (ws S'.at 8).toArray rfl rfl GH4.out.there (info_ws (by kernel_rfl)) (ws_one _ 8) ?_; simp only [Act.put, List.setIfInBounds_toArray, List.set_cons_zero, List.set_cons_succ, List.tail_cons])
        go_roundw
        case rel =>
          refine ⟨q + 1, if cap - 64 * q = 64 then 64 * q else 64 * q + 64, by omega, ?_, fun h => by rw [if_neg (by omega)]; omega, ?_, (G.out.2.1.below HBr.out).setCells hgp.out _, ?_, Wrote.setCells _ _ _ (G.out.2.2.2.step HBr.out)⟩
          · rw [show 64 * (q + 1) = 64 * q + 64 by omega, ← Nat.sub_sub, ← Nat.sub_sub]
            split <;> rfl
          · have e : hs K s0 (cat f n g) (n / 64 + (q + 1)) = blk K S fun j => Fs (64 * q + j) := by
              rw [← Nat.add_assoc]
              show blk K (hs K s0 (cat f n g) (n / 64 + q)) (fun j => cat f n g (64 * (n / 64 + q) + j)) = _
              rw [← ES.out, EF.out]
              exact blk_congr fun j _ => by rw [Nat.mul_add, Nat.add_assoc]
            rw [e, ← ES'.out]
            exact GH4.out.stored
          · exact HL.out.kept ((Wrote.setCells _ _ _ (G.out.2.2.2.step HBr.out)).below H.out.own (by have := H.out.own; have := H.out.blk; omega) hrC.out) hC1.out hC2.out
        case measure => simp [lnOf]; omega
      · have hq2 : (n + m) / 64 = n / 64 + q ∧ (n + m) % 64 = T - 64 * q := by have := ET.out; omega
        have hSl : Hid (SliceAt wr (some ⟨gb, o, none⟩) (T - 64 * q) (cap - 64 * q) (fun j => Fs (64 * q + j))) :=
          ⟨fun j => hFl.out _, by omega, .inr ⟨_, rfl, fun h0 => ⟨gb, o, rfl, by have e := ho (by omega); subst e; have := G.out.2.1.part (64 * q) (T - 64 * q) (by omega); rwa [Nat.zero_add] at this⟩⟩⟩
        have hi : ¬ (64 : Int) ≤ ((T - 64 * q : Nat) : Int) := by omega
        have hsm : Hid (T - 64 * q ≤ 1000000) := (by omega : T - 64 * q ≤ 1000000)
        have Hq2 := Lib.hid hq2
        clear hq2 ho h64 hq hle
        go_wp2_with fail
        refine Calls.mono (clone_c _ (some ⟨gb, o, none⟩) (T - 64 * q) (cap - 64 * q) (fun j => Fs (64 * q + j)) hsm.out (hSl.out.below (Below.refl _ _))) ?_
        rintro _ w6 ⟨⟨r2, rfl, ho2⟩, h6⟩
        obtain ⟨c6, f6, s6⟩ := bfacts h6
        try simp only [World.size_alloc, World.size_setCell, size_drew, size_drewN] at s6
        have GH6 := Lib.hid (G.out.1.below h6)
        obtain ⟨v8, k8⟩ := Option.isSome_iff_exists.1 GH6.out.c8
        have z8 := GH6.out.fz 8
        obtain ⟨a2, n2, c2, rfl⟩ := row_slice ho2
        have Ho2 := Lib.hid ho2
        have H6 := Lib.hid h6
        clear ho2 h6 c6 f6
        go_wp2_with fail
        refine bodyPost_end (v := .tuple #[]) (by simp only [results, Tryd.results59]; go_simp) rfl ⟨rfl, ?_, fun r' hr' k hk => ?_, fun r' hr' => ?_⟩
        · refine hash_of (cat_lt H.out.lt hg.out n) H.out.own (by rw [Hq2.out.1]; exact GH6.out) (ownsRow_mono Ho2.out (by have := G.out.1.blk; have := H.out.own; omega)) (fun e => ?_) Hq2.out.2 (fun j _ => by rw [EF.out, Hq2.out.1, Nat.mul_add, Nat.add_assoc])
          have := (Ho2.out.lt p e).1
          have := G.out.1.blk
          omega
        · have hcell := World.cell?_setCell_same' w6 ⟨p, 8, none⟩ (.slice a2 n2 c2) GH6.out.c8
          rw [hcell] at hr'
          cases hr'
          exact Nat.le_trans (G.out.2.2.2.size) (Ho2.out.lt k hk).1
        · rw [Hr.out] at hr'
          cases hr'
          exact (G.out.2.2.2.step H6.out).set 8 _

set_option maxRecDepth 100000 in
set_option maxHeartbeats 4000000 in
theorem write_nil (C p n : Nat) (f : Nat → Nat) (hn : n ≤ 1000000) (w : World) (H : Hid (HashAt w C p f n)) :
    Calls Tryd.prog 59 #[.pointer (some ⟨p, 0, none⟩), .slice none 0 0] w fun e w' => e = .returned (.tuple #[]) ∧ HashAt w' C p f n ∧ (∀ r', w'.cell? ⟨p, 8, none⟩ = some r' → ∀ k, r'.ownBlock = some k → w.heap.size ≤ k) ∧ ∀ r, w.cell? ⟨p, 8, none⟩ = some r → Wrote w w' p r.ownBlock := by
  obtain ⟨i0, hi, hz0, hz1, hz2⟩ := info_parts infoByte
  have Hi := Lib.hid hi
  clear hi hz0 hz1 hz2
  obtain ⟨r, hr, hown, hrp⟩ := H.out.rest
  obtain ⟨ra, rc, rfl⟩ := row_slice2 hown
  have hlen := H.out.len
  have hfz := H.out.fz 9
  have hnb : (n : Int) ≤ 1000000 := by omega
  have hown1 := hown.kept (w' := w.setCell ⟨p, 9, none⟩ (.int .i64 (n : Int))) (row := some p) ⟨rfl, rfl, rfl, by simp [World.setCell], fun k hk hne => Below.heap_setCell _ _ _ _ (fun e => hne (by rw [e]))⟩ (.inr hrp)
  have Hown := Lib.hid hown1
  go_enter Tryd.func59, Tryd.ntmps59
  go_wp2_with (at_builtin; refine wpList_append_own_none rfl (.tmp 19) (.tmp 20) 29 rfl C 5 i0 1 Tryd.underlying29 Hi.out (.slice ra (n % 64) rc) (n % 64) _ rfl Hown.out rfl ?_)
  have hi : ¬ (64 : Int) ≤ ((n % 64 : Nat) : Int) := by omega
  have e0 : ((n : Int) + ((0 : Nat) : Int)) = (n : Int) := by omega
  have hH1 := Lib.hid (write_head (m := 0) (w1 := w.setCell ⟨p, 9, none⟩ (.int .i64 (n : Int))) H.out hr hrp (by rw [e0]; exact ⟨rfl, rfl, rfl, Nat.le_refl _, fun _ _ _ => rfl⟩))
  have hsl := Lib.hid (row_sliceAt (F := fun j => f (64 * (n / 64) + j)) Hown.out (fun j => H.out.lt _))
  have Hr := Lib.hid hr
  have hsz : Hid ((w.setCell ⟨p, 9, none⟩ (.int .i64 (n : Int))).heap.size = w.heap.size) := by simp [Hid, World.setCell]
  clear e0 hr hrp hlen hfz hnb hown hown1
  go_wp2_with fail
  go_loopw [4] (fun d wr => d = .slice ra (n % 64) rc ∧ wr = w.setCell ⟨p, 9, none⟩ (.int .i64 (n : Int))) (fun _ _ => 0)
  case atStart => exact ⟨rfl, rfl⟩
  case round =>
    obtain ⟨rfl, rfl⟩ := hrel
    go_wp2_with fail
    refine Calls.mono (clone_c _ ra (n % 64) rc (fun j => f (64 * (n / 64) + j)) (by omega) hsl.out) ?_
    rintro _ w6 ⟨⟨r2, rfl, ho2⟩, h6⟩
    obtain ⟨c6, f6, s6⟩ := bfacts h6
    try simp only [World.size_alloc, World.size_setCell, size_drew, size_drewN] at s6
    have GH6 := Lib.hid (hH1.out.below h6)
    obtain ⟨v8, k8⟩ := Option.isSome_iff_exists.1 GH6.out.c8
    have z8 := GH6.out.fz 8
    obtain ⟨a2, n2, c2, rfl⟩ := row_slice ho2
    have Ho2 := Lib.hid ho2
    have H6 := Lib.hid h6
    clear ho2 h6 c6 f6 hi
    go_wp2_with fail
    refine bodyPost_end (v := .tuple #[]) (by simp only [results, Tryd.results59]; go_simp) rfl ⟨rfl, ?_, fun r' hr' k hk => ?_, fun r' hr' => ?_⟩
    · refine hash_of (k := n % 64) H.out.lt H.out.own GH6.out (ownsRow_mono Ho2.out (by rw [hsz.out]; have := H.out.blk; have := H.out.own; omega)) (fun e => ?_) rfl (fun j _ => rfl)
      have := (Ho2.out.lt p e).1
      rw [hsz.out] at this
      have := H.out.blk
      omega
    · have hcell := World.cell?_setCell_same' w6 ⟨p, 8, none⟩ (.slice a2 n2 c2) GH6.out.c8
      rw [hcell] at hr'
      cases hr'
      exact Nat.le_trans (Nat.le_of_eq hsz.out.symm) (Ho2.out.lt k hk).1
    · rw [Hr.out] at hr'
      cases hr'
      exact (((Wrote.refl w p _).set 9 _).step H6.out).set 8 _

/-- Write of n bytes that lie below C. -/
theorem write_c (C p n m c : Nat) (a : Option Addr) (f g : Nat → Nat) (hn : n + m ≤ 1000000) (w : World) (hL : Laid w) (h : HashAt w C p f n) (hS : SliceAt w a m c g) (hlow : 0 < m → ∀ ad, a = some ad → ad.block ≠ p)
    (hC1 : 2 < C) (hC2 : 1 < C) :
    Calls Tryd.prog 59 #[.pointer (some ⟨p, 0, none⟩), .slice a m c] w fun e w' => e = .returned (.tuple #[]) ∧ HashAt w' C p (cat f n g) (n + m) ∧ (∀ r', w'.cell? ⟨p, 8, none⟩ = some r' → ∀ k, r'.ownBlock = some k → w.heap.size ≤ k) ∧ ∀ r, w.cell? ⟨p, 8, none⟩ = some r → Wrote w w' p r.ownBlock := by
  rcases hS.at_ with ⟨rfl, rfl, rfl⟩ | ⟨ad, rfl, k⟩
  · refine (write_nil C p n f (by omega) w (Lib.hid h)).mono ?_
    rintro e w' ⟨rfl, hh, hfr, hw⟩
    exact ⟨rfl, hh.congr (cat_lt h.lt hS.lt n) (fun j hj => by unfold cat; rw [if_pos (by omega)]), hfr, hw⟩
  · refine write_walk C p n m c ad f g hn w (Lib.hid hL) (Lib.hid h) (Lib.hid hS.lt) (Lib.hid fun h0 => ?_) (Lib.hid hC1) (Lib.hid hC2)
    obtain ⟨b, off, rfl, hB⟩ := k h0
    exact ⟨b, off, rfl, hlow h0 _ rfl, hB⟩
end Go.Proofs.YtjhfepkpfakemaaDoor.Sh

namespace Go.Proofs.YtjhfepkpfakemaaDoor.Sh
set_option linter.all false
open Go Go.RowKit

set_option maxRecDepth 100000 in
set_option maxHeartbeats 8000000 in
theorem cloneH_walk (C p n : Nat) (f : Nat → Nat) (S : St) (ra : Option Addr) (rc : Nat) (w : World) (GH : Hid (HeadAt w p S n)) (hr : w.cell? ⟨p, 8, none⟩ = some (.slice ra (n % 64) rc))
    (hcl : Hid (∀ w', Below w.heap.size w w' → Calls Tryd.prog 75 #[.slice ra (n % 64) rc] w' fun e w'' => (∃ r, e = .returned r ∧ w''.ownsRow w'.heap.size 5 1 r (n % 64) (fl f (n % 64))) ∧ Below w'.heap.size w' w'')) :
    Calls Tryd.prog 76 #[.pointer (some ⟨p, 0, none⟩)] w fun e w' => (∃ w1 a c, w1.ownsRow w.heap.size 5 1 (.slice a (n % 64) c) (n % 64) (fl f (n % 64)) ∧ Below w.heap.size w w1 ∧ e = .returned (.pointer (some ⟨w1.heap.size, 0, none⟩)) ∧
      w' = w1.alloc (.cells #[.int .u32 ((S.a : Nat) : Int), .int .u32 ((S.b : Nat) : Int), .int .u32 ((S.c : Nat) : Int), .int .u32 ((S.d : Nat) : Int), .int .u32 ((S.e : Nat) : Int), .int .u32 ((S.f : Nat) : Int), .int .u32 ((S.g : Nat) : Int), .int .u32 ((S.h : Nat) : Int), .slice a (n % 64) c, .int .i64 (n : Int)] 107)) := by
  have lp := GH.out.blk
  have k0 : w.cell? ⟨p, 0, none⟩ = some (.int .u32 ((S.a : Nat) : Int)) := GH.out.st 0 (by decide)
  have k1 : w.cell? ⟨p, 1, none⟩ = some (.int .u32 ((S.b : Nat) : Int)) := GH.out.st 1 (by decide)
  have k2 : w.cell? ⟨p, 2, none⟩ = some (.int .u32 ((S.c : Nat) : Int)) := GH.out.st 2 (by decide)
  have k3 : w.cell? ⟨p, 3, none⟩ = some (.int .u32 ((S.d : Nat) : Int)) := GH.out.st 3 (by decide)
  have k4 : w.cell? ⟨p, 4, none⟩ = some (.int .u32 ((S.e : Nat) : Int)) := GH.out.st 4 (by decide)
  have k5 : w.cell? ⟨p, 5, none⟩ = some (.int .u32 ((S.f : Nat) : Int)) := GH.out.st 5 (by decide)
  have k6 : w.cell? ⟨p, 6, none⟩ = some (.int .u32 ((S.g : Nat) : Int)) := GH.out.st 6 (by decide)
  have k7 : w.cell? ⟨p, 7, none⟩ = some (.int .u32 ((S.h : Nat) : Int)) := GH.out.st 7 (by decide)
  have k9 := GH.out.c9
  go_enter Tryd.func76, Tryd.ntmps76
  go_wp2_with fail
  refine heldm_begin 16 [p] (by kernel_rfl) rfl (by intro _ _ d _ _ h; cases d <;> exact h) ?_
  intro hQ hK
  with_reducible apply heldm_v (n := 15) (m' := 1) 0
  · exact Nat.le_of_ble_eq_true (by kernel_rfl)
  · rfl
  · kernel_rfl
  · kernel_rfl
  · kernel_rfl
  · kernel_rfl
  · kernel_rfl
  · kernel_rfl
  · exact hQ
  · with_reducible exact hK
  · rfl
  apply Exists.intro
  refine ⟨fun w' hC => ?_, ?_⟩
  · have k0_ := hC (p) (by simp only [List.mem_cons, true_or, or_true])
    clear hC
    go_simp
    rfl
  try simp only [Act.put, List.setIfInBounds_toArray, List.set_cons_zero, List.set_cons_succ, List.tail_cons]
  with_reducible apply heldm_v (n := 14) (m' := 3) 1
  · exact Nat.le_of_ble_eq_true (by kernel_rfl)
  · rfl
  · kernel_rfl
  · kernel_rfl
  · kernel_rfl
  · kernel_rfl
  · kernel_rfl
  · kernel_rfl
  · exact hQ
  · with_reducible exact hK
  · rfl
  apply Exists.intro
  refine ⟨fun w' hC => ?_, ?_⟩
  · have k0_ := hC (p) (by simp only [List.mem_cons, true_or, or_true])
    clear hC
    go_simp
    rfl
  try simp only [Act.put, List.setIfInBounds_toArray, List.set_cons_zero, List.set_cons_succ, List.tail_cons]
  with_reducible apply heldm_v (n := 13) (m' := 7) 2
  · exact Nat.le_of_ble_eq_true (by kernel_rfl)
  · rfl
  · kernel_rfl
  · kernel_rfl
  · kernel_rfl
  · kernel_rfl
  · kernel_rfl
  · kernel_rfl
  · exact hQ
  · with_reducible exact hK
  · rfl
  apply Exists.intro
  refine ⟨fun w' hC => ?_, ?_⟩
  · have k0_ := hC (p) (by simp only [List.mem_cons, true_or, or_true])
    clear hC
    go_simp
    rfl
  try simp only [Act.put, List.setIfInBounds_toArray, List.set_cons_zero, List.set_cons_succ, List.tail_cons]
  with_reducible apply heldm_v (n := 12) (m' := 15) 3
  · exact Nat.le_of_ble_eq_true (by kernel_rfl)
  · rfl
  · kernel_rfl
  · kernel_rfl
  · kernel_rfl
  · kernel_rfl
  · kernel_rfl
  · kernel_rfl
  · exact hQ
  · with_reducible exact hK
  · rfl
  apply Exists.intro
  refine ⟨fun w' hC => ?_, ?_⟩
  · have k0_ := hC (p) (by simp only [List.mem_cons, true_or, or_true])
    clear hC
    go_simp
    rfl
  try simp only [Act.put, List.setIfInBounds_toArray, List.set_cons_zero, List.set_cons_succ, List.tail_cons]
  with_reducible apply heldm_v (n := 11) (m' := 31) 4
  · exact Nat.le_of_ble_eq_true (by kernel_rfl)
  · rfl
  · kernel_rfl
  · kernel_rfl
  · kernel_rfl
  · kernel_rfl
  · kernel_rfl
  · kernel_rfl
  · exact hQ
  · with_reducible exact hK
  · rfl
  apply Exists.intro
  refine ⟨fun w' hC => ?_, ?_⟩
  · have k0_ := hC (p) (by simp only [List.mem_cons, true_or, or_true])
    clear hC
    go_simp
    rfl
  try simp only [Act.put, List.setIfInBounds_toArray, List.set_cons_zero, List.set_cons_succ, List.tail_cons]
  with_reducible apply heldm_v (n := 10) (m' := 63) 5
  · exact Nat.le_of_ble_eq_true (by kernel_rfl)
  · rfl
  · kernel_rfl
  · kernel_rfl
  · kernel_rfl
  · kernel_rfl
  · kernel_rfl
  · kernel_rfl
  · exact hQ
  · with_reducible exact hK
  · rfl
  apply Exists.intro
  refine ⟨fun w' hC => ?_, ?_⟩
  · have k0_ := hC (p) (by simp only [List.mem_cons, true_or, or_true])
    clear hC
    go_simp
    rfl
  try simp only [Act.put, List.setIfInBounds_toArray, List.set_cons_zero, List.set_cons_succ, List.tail_cons]
  with_reducible apply heldm_v (n := 9) (m' := 127) 6
  · exact Nat.le_of_ble_eq_true (by kernel_rfl)
  · rfl
  · kernel_rfl
  · kernel_rfl
  · kernel_rfl
  · kernel_rfl
  · kernel_rfl
  · kernel_rfl
  · exact hQ
  · with_reducible exact hK
  · rfl
  apply Exists.intro
  refine ⟨fun w' hC => ?_, ?_⟩
  · have k0_ := hC (p) (by simp only [List.mem_cons, true_or, or_true])
    clear hC
    go_simp
    rfl
  try simp only [Act.put, List.setIfInBounds_toArray, List.set_cons_zero, List.set_cons_succ, List.tail_cons]
  with_reducible apply heldm_v (n := 8) (m' := 255) 7
  · exact Nat.le_of_ble_eq_true (by kernel_rfl)
  · rfl
  · kernel_rfl
  · kernel_rfl
  · kernel_rfl
  · kernel_rfl
  · kernel_rfl
  · kernel_rfl
  · exact hQ
  · with_reducible exact hK
  · rfl
  apply Exists.intro
  refine ⟨fun w' hC => ?_, ?_⟩
  · have k0_ := hC (p) (by simp only [List.mem_cons, true_or, or_true])
    clear hC
    go_simp
    rfl
  try simp only [Act.put, List.setIfInBounds_toArray, List.set_cons_zero, List.set_cons_succ, List.tail_cons]
  with_reducible apply heldm_v (n := 7) (m' := 767) 9
  · exact Nat.le_of_ble_eq_true (by kernel_rfl)
  · rfl
  · kernel_rfl
  · kernel_rfl
  · kernel_rfl
  · kernel_rfl
  · kernel_rfl
  · kernel_rfl
  · exact hQ
  · with_reducible exact hK
  · rfl
  apply Exists.intro
  refine ⟨fun w' hC => ?_, ?_⟩
  · have k0_ := hC (p) (by simp only [List.mem_cons, true_or, or_true])
    clear hC
    go_simp
    rfl
  try simp only [Act.put, List.setIfInBounds_toArray, List.set_cons_zero, List.set_cons_succ, List.tail_cons]
  with_reducible apply heldm_v (n := 6) (m' := 1791) 10
  · exact Nat.le_of_ble_eq_true (by kernel_rfl)
  · rfl
  · kernel_rfl
  · kernel_rfl
  · kernel_rfl
  · kernel_rfl
  · kernel_rfl
  · kernel_rfl
  · exact hQ
  · with_reducible exact hK
  · rfl
  apply Exists.intro
  refine ⟨fun w' hC => ?_, ?_⟩
  · have k0_ := hC (p) (by simp only [List.mem_cons, true_or, or_true])
    clear hC
    go_simp
    rfl
  try simp only [Act.put, List.setIfInBounds_toArray, List.set_cons_zero, List.set_cons_succ, List.tail_cons]
  with_reducible apply heldm_v (n := 5) (m' := 3839) 11
  · exact Nat.le_of_ble_eq_true (by kernel_rfl)
  · rfl
  · kernel_rfl
  · kernel_rfl
  · kernel_rfl
  · kernel_rfl
  · kernel_rfl
  · kernel_rfl
  · exact hQ
  · with_reducible exact hK
  · rfl
  apply Exists.intro
  refine ⟨fun w' hC => ?_, ?_⟩
  · have k0_ := hC (p) (by simp only [List.mem_cons, true_or, or_true])
    clear hC
    go_simp
    rfl
  try simp only [Act.put, List.setIfInBounds_toArray, List.set_cons_zero, List.set_cons_succ, List.tail_cons]
  with_reducible apply heldm_v (n := 4) (m' := 7935) 12
  · exact Nat.le_of_ble_eq_true (by kernel_rfl)
  · rfl
  · kernel_rfl
  · kernel_rfl
  · kernel_rfl
  · kernel_rfl
  · kernel_rfl
  · kernel_rfl
  · exact hQ
  · with_reducible exact hK
  · rfl
  apply Exists.intro
  refine ⟨fun w' hC => ?_, ?_⟩
  · have k0_ := hC (p) (by simp only [List.mem_cons, true_or, or_true])
    clear hC
    go_simp
    rfl
  try simp only [Act.put, List.setIfInBounds_toArray, List.set_cons_zero, List.set_cons_succ, List.tail_cons]
  with_reducible apply heldm_callx (n := 3) (m' := 8191) 8
  · exact Nat.le_of_ble_eq_true (by kernel_rfl)
  · rfl
  · kernel_rfl
  · kernel_rfl
  · kernel_rfl
  · kernel_rfl
  · kernel_rfl
  · rfl
  · with_reducible exact hK
  apply Exists.intro
  apply Exists.intro
  apply Exists.intro
  refine ⟨?_, ?_, ?_, ?_⟩
  · go_simp
    exact ⟨rfl, rfl⟩
  · exact hcl.out _ (by repeat first | with_reducible exact Below.refl _ _ | with_reducible refine Below.drew ?_ | with_reducible refine below_dN ?_ | with_reducible refine Below.alloc ?_ (by first | omega | (simp; done) | (simp; omega)) _ | with_reducible refine Below.setCell ?_ (by first | omega | (simp; done) | (simp; omega)) _ | with_reducible refine Below.trans ?_ (Below.mono (by assumption) (by first | omega | (simp; done) | (simp; omega))))
  · intro b hb
    simp only [List.mem_cons, List.not_mem_nil, or_false] at hb
    rcases hb with rfl <;> first | omega | (simp; done) | (simp; omega)
  rintro r8 v8 hho h8 hK
  obtain ⟨c8, f8, s8⟩ := bfacts h8
  try simp only [World.size_alloc, World.size_setCell, size_drew, size_drewN] at s8
  obtain ⟨a2, c2, rfl⟩ := row_slice2 hho
  try simp only [Act.put, List.setIfInBounds_toArray, List.set_cons_zero, List.set_cons_succ, List.tail_cons]
  with_reducible apply heldm_v (n := 2) (m' := 16383) 13
  · exact Nat.le_of_ble_eq_true (by kernel_rfl)
  · rfl
  · kernel_rfl
  · kernel_rfl
  · kernel_rfl
  · kernel_rfl
  · kernel_rfl
  · kernel_rfl
  · exact hQ
  · with_reducible exact hK
  · rfl
  apply Exists.intro
  refine ⟨fun w' hC => ?_, ?_⟩
  · have k0_ := hC (p) (by simp only [List.mem_cons, true_or, or_true])
    clear hC
    go_simp
    rfl
  try simp only [Act.put, List.setIfInBounds_toArray, List.set_cons_zero, List.set_cons_succ, List.tail_cons]
  with_reducible apply heldm_o (n := 1) (m' := 32767) 14
  · exact Nat.le_of_ble_eq_true (by kernel_rfl)
  · rfl
  · kernel_rfl
  · kernel_rfl
  · kernel_rfl
  · kernel_rfl
  · kernel_rfl
  · rfl
  apply Exists.intro
  apply Exists.intro
  refine ⟨?_, ?_, ?_⟩
  · go_simp
    exact ⟨rfl, rfl⟩
  · repeat first
      | with_reducible exact hK
      | with_reducible refine KeepL.drewN ?_ _
      | with_reducible refine KeepL.drew ?_
      | with_reducible (refine KeepL.set ?_ _ _ (by intro b hb; simp only [List.mem_cons, List.not_mem_nil, or_false] at hb; rcases hb with rfl <;> (first | omega | (simp; done) | (simp; omega))))
      | with_reducible (refine KeepL.alloc ?_ _ (by intro b hb; simp only [List.mem_cons, List.not_mem_nil, or_false] at hb; rcases hb with rfl <;> (first | omega | (simp; done) | (simp; omega))))
      | exact fun _ _ _ => rfl
  intro hK
  try simp only [Act.put, List.setIfInBounds_toArray, List.set_cons_zero, List.set_cons_succ, List.tail_cons]
  with_reducible apply heldm_v (n := 0) (m' := 65535) 15
  · exact Nat.le_of_ble_eq_true (by kernel_rfl)
  · rfl
  · kernel_rfl
  · kernel_rfl
  · kernel_rfl
  · kernel_rfl
  · kernel_rfl
  · kernel_rfl
  · exact hQ
  · with_reducible exact hK
  · rfl
  apply Exists.intro
  refine ⟨fun w' hC => ?_, ?_⟩
  · have k0_ := hC (p) (by simp only [List.mem_cons, true_or, or_true])
    clear hC
    go_simp
    rfl
  try simp only [Act.put, List.setIfInBounds_toArray, List.set_cons_zero, List.set_cons_succ, List.tail_cons]
  refine heldm_end (Nat.le_of_ble_eq_true (by kernel_rfl)) (by kernel_rfl) ?_
  clear hK hQ
  have HH := Lib.hid hho
  have H8 := Lib.hid (show Below w.heap.size w v8 from ⟨h8.os, h8.tape, h8.output, h8.size, h8.block⟩)
  clear hho h8 c8 f8
  go_wp2_with fail
  exact bodyPost_ret (v := .pointer (some ⟨v8.heap.size, 0, none⟩)) (by simp only [results, Tryd.results76]; go_simp) rfl ⟨v8, a2, c2, HH.out, H8.out, rfl, rfl⟩

theorem clone_hash {n D : Nat} {f : Nat → Nat} {w : World} {a : Option Addr} {c : Nat} (S : St) (hS : S = hs K s0 f (n / 64)) (hf : ∀ j, f j < 256) (hD : D ≤ w.heap.size)
    (ho : w.ownsRow D 5 1 (.slice a (n % 64) c) (n % 64) (fl (fun j => f (64 * (n / 64) + j)) (n % 64))) :
    HashAt (w.alloc (.cells #[.int .u32 ((S.a : Nat) : Int), .int .u32 ((S.b : Nat) : Int), .int .u32 ((S.c : Nat) : Int), .int .u32 ((S.d : Nat) : Int), .int .u32 ((S.e : Nat) : Int), .int .u32 ((S.f : Nat) : Int), .int .u32 ((S.g : Nat) : Int), .int .u32 ((S.h : Nat) : Int), .slice a (n % 64) c, .int .i64 (n : Int)] 107)) D w.heap.size f n := by
  have hk := heap_alloc_new w (.cells #[.int .u32 ((S.a : Nat) : Int), .int .u32 ((S.b : Nat) : Int), .int .u32 ((S.c : Nat) : Int), .int .u32 ((S.d : Nat) : Int), .int .u32 ((S.e : Nat) : Int), .int .u32 ((S.f : Nat) : Int), .int .u32 ((S.g : Nat) : Int), .int .u32 ((S.h : Nat) : Int), .slice a (n % 64) c, .int .i64 (n : Int)] 107)
  refine ⟨hf, hD, by simp only [World.size_alloc]; omega, fun j hj => ?_, ⟨.slice a (n % 64) c, ?_, ho.alloc _, fun e => ?_⟩, ?_, fun j => frozen_of_row _ w.heap.size j _ _ hk⟩
  · rw [← hS, cell_of_row _ w.heap.size j _ _ _ hk]
    clear hS hk
    have h : j = 0 ∨ j = 1 ∨ j = 2 ∨ j = 3 ∨ j = 4 ∨ j = 5 ∨ j = 6 ∨ j = 7 := by omega
    rcases h with rfl | rfl | rfl | rfl | rfl | rfl | rfl | rfl <;> rfl
  · rw [cell_of_row _ w.heap.size 8 _ _ _ hk]; rfl
  · have := (ho.lt _ e).2; omega
  · rw [cell_of_row _ w.heap.size 9 _ _ _ hk]; rfl

/-- Clone: another hash of the same bytes. -/
theorem cloneH_c (C p n : Nat) (f : Nat → Nat) (hn : n ≤ 1000000) (w : World) (h : HashAt w C p f n) :
    Calls Tryd.prog 76 #[.pointer (some ⟨p, 0, none⟩)] w fun e w' => (∃ q, e = .returned (.pointer (some ⟨q, 0, none⟩)) ∧ HashAt w' w.heap.size q f n) ∧ Below w.heap.size w w' := by
  obtain ⟨r, hr, hown, hrp⟩ := h.rest
  obtain ⟨ra, rc, rfl⟩ := row_slice2 hown
  have hsl := row_sliceAt (F := fun j => f (64 * (n / 64) + j)) hown (fun j => h.lt _)
  have hH : HeadAt w p (hs K s0 f (n / 64)) n := ⟨h.blk, h.st, by rw [hr]; rfl, h.len, h.fz⟩
  refine (cloneH_walk C p n (fun j => f (64 * (n / 64) + j)) (hs K s0 f (n / 64)) ra rc w (Lib.hid hH) hr (Lib.hid fun w' hb => clone_c w' ra (n % 64) rc _ (by omega) (hsl.below hb))).mono ?_
  rintro e w' ⟨w1, a, c, ho, hb, rfl, rfl⟩
  exact ⟨⟨_, rfl, clone_hash _ rfl h.lt hb.size ho⟩, hb.alloc hb.size _⟩
end Go.Proofs.YtjhfepkpfakemaaDoor.Sh

namespace Go.Proofs.YtjhfepkpfakemaaDoor.Sh
set_option linter.all false
open Go Go.RowKit

/-- Block b is the bytes g and nothing else. -/
def RowB (w : World) (b n : Nat) (g : Nat → Nat) (T : TypeId) : Prop := w.heap[b]? = some (.cells (fl g n).toArray T (0, 0))
theorem RowB.cell {w : World} {b n : Nat} {g : Nat → Nat} {T : TypeId} (h : RowB w b n g T) {j : Nat} (hj : j < n) : w.cell? ⟨b, j, none⟩ = some (.int .u8 ((g j : Nat) : Int)) := by
  rw [cell_of_row w b j _ _ _ h, List.getElem?_toArray]; exact fl_get g n j hj
theorem RowB.fz {w : World} {b n : Nat} {g : Nat → Nat} {T : TypeId} (h : RowB w b n g T) (j : Nat) : w.frozen? ⟨b, j, none⟩ = false := frozen_of_row w b j _ _ h
theorem RowB.blk {w : World} {b n : Nat} {g : Nat → Nat} {T : TypeId} (h : RowB w b n g T) : b < w.heap.size := (Array.getElem?_eq_some_iff.1 h).1
theorem fl_set (g : Nat → Nat) (n i v : Nat) (hi : i < n) : (fl g n).set i (.int .u8 ((v : Nat) : Int)) = fl (upd g i v) n := by
  apply List.ext_getElem?
  intro j
  by_cases hj : j < n
  · rw [fl_get _ n j hj, List.getElem?_set]
    unfold upd
    by_cases e : i = j
    · subst e; rw [if_pos rfl, if_pos (by rw [fl_len]; exact hi), if_pos rfl]
    · rw [if_neg e, if_neg (fun q => e q.symm), fl_get g n j hj]
  · rw [List.getElem?_eq_none (by rw [List.length_set, fl_len]; omega), List.getElem?_eq_none (by rw [fl_len]; omega)]
theorem RowB.set {w : World} {b n i : Nat} {g : Nat → Nat} {T : TypeId} (h : RowB w b n g T) (hi : i < n) (v : Nat) : RowB (w.setCell ⟨b, i, none⟩ (.int .u8 ((v : Nat) : Int))) b n (upd g i v) T := by
  unfold RowB
  rw [heap_setCell_same w b i _ T _ h, List.setIfInBounds_toArray, fl_set g n i v hi]
theorem RowB.below {w w' : World} {C b n : Nat} {g : Nat → Nat} {T : TypeId} (h : RowB w b n g T) (hb : Below C w w') (hC : b < C) : RowB w' b n g T := (hb.block b hC).trans h
theorem RowB.bytes {w : World} {b n : Nat} {g : Nat → Nat} {T : TypeId} (h : RowB w b n g T) (hg : ∀ j, g j < 256) : BytesAt w b 0 n g := ⟨hg, h.blk, fun j hj => by rw [Nat.zero_add]; exact h.cell hj⟩

theorem load_bytes {w : World} {b n : Nat} {g : Nat → Nat} {ty e : TypeId} {m : Nat} (h : ∀ j, j < n → w.cell? ⟨b, j, none⟩ = some (.int .u8 ((g j : Nat) : Int))) (hu : Tryd.prog.underlying ty = some (.array m e))
    (hi : (Tryd.prog.info? ty).map (·.size) = some n) : (Instr.loadAt ty (.pointer (some ⟨b, 0, none⟩))).run Tryd.prog w = .ok (.agg (fl g n).toArray) w := by
  have := run_loadVar_at (P := Tryd.prog) w ⟨b, 0, none⟩ ty e m (fl g n) (fun j v hj => by
    have hjn : j < n := by
      have := (List.getElem?_eq_some_iff.1 hj).1
      rwa [fl_len] at this
    rw [fl_get g n j hjn] at hj
    cases hj
    have e : (⟨b, 0, none⟩ : Addr).add j = ⟨b, 0 + j, none⟩ := by unfold Addr.add; split <;> simp_all
    rw [e, Nat.zero_add]
    exact h j hjn) hu (by rw [fl_len]; exact hi)
  simp only [Instr.loadAt, Instr.sureAddr, Sem.run_bind, Sem.run_pure, Result.andThen_ok, this]
theorem RowB.there {w : World} {b n : Nat} {g g' : Nat → Nat} {T : TypeId} (h : RowB w b n g T) : w.there b 0 (fl g' n).toArray.size := by
  rw [List.size_toArray, fl_len]
  exact fun j hj => by rw [Nat.zero_add]; exact ⟨by rw [h.cell hj]; rfl, h.fz j⟩
theorem info_fl {ty : TypeId} {n : Nat} {g : Nat → Nat} (hi : (Tryd.prog.info? ty).map (·.size) = some n) : (Tryd.prog.info? ty).map (·.size) = some (fl g n).toArray.size := by rw [List.size_toArray, fl_len]; exact hi
theorem fl_oneA (g : Nat → Nat) (n : Nat) : (fl g n).toArray.all (·.oneCell') = true := all_oneCell_toArray (fl_one g n)
theorem RowB.stored {w : World} {b n : Nat} {g g' : Nat → Nat} {T : TypeId} (h : RowB w b n g T) : ∀ j, j < n → (w.setCells b 0 (fl g' n)).cell? ⟨b, j, none⟩ = some (.int .u8 ((g' j : Nat) : Int)) := fun j hj => by
  have := World.rangeAt_setCells_same w b 0 (fl g' n) (by have := h.there (g' := g'); rwa [List.size_toArray] at this) j _ (fl_get g' n j hj)
  rwa [Nat.zero_add] at this
theorem results_bytes {fn : Func} {x : Tmp} {ty e : TypeId} {m n b : Nat} {g : Nat → Nat} {w : World} {tmps : Array Value} (hr : fn.results = #[.cell x ty]) (hx : tmps.getD x undef = .pointer (some ⟨b, 0, none⟩)) (h : ∀ j, j < n → w.cell? ⟨b, j, none⟩ = some (.int .u8 ((g j : Nat) : Int)))
    (hu : Tryd.prog.underlying ty = some (.array m e)) (hi : (Tryd.prog.info? ty).map (·.size) = some n) : (results fn tmps).run Tryd.prog w = .ok (.agg (fl g n).toArray) w := by
  have hl := load_bytes h hu hi
  simp only [Instr.loadAt, Instr.sureAddr, Sem.run_bind, Sem.run_pure, Result.andThen_ok] at hl
  have hx' : tmps[x]?.getD undef = .pointer (some ⟨b, 0, none⟩) := by simpa using hx
  simp [results, hr, hx', Sem.run_bind, asAddr, hl]

/-- The tail: the mark, zeros, the length; i of the length's bytes are laid. -/
def tl (n L i j : Nat) : Nat := if j = 0 then 128 else if L ≤ j + i then 8 * n / 256 ^ (L - 1 - j) % 256 else 0

theorem tl_start {w : World} {b n L : Nat} {T : TypeId} (h : RowB w b L (upd (fun _ => 0) 0 128) T) (hL : 9 ≤ L) : RowB w b L (tl n L 0) T := by
  unfold RowB at *
  rw [← fl_congr (f := upd (fun _ => 0) 0 128) (g := tl n L 0) (n := L) (fun j hj => by unfold upd tl; by_cases e : j = 0 <;> simp [e]; omega)]
  exact h
theorem tl_lt (n L i j : Nat) : tl n L i j < 256 := by
  unfold tl
  split
  · decide
  · split
    · exact Nat.mod_lt _ (by decide)
    · decide
theorem tl_step {w : World} {b n L k x : Nat} {T : TypeId} (h : RowB w b L (upd (tl n L k) x (8 * n / 256 ^ k % 256)) T) (hx : x = L - 1 - k) (hL : 9 ≤ L) (hk : k < 8) : RowB w b L (tl n L (k + 1)) T := by
  unfold RowB at *
  rw [← fl_congr (f := upd (tl n L k) x (8 * n / 256 ^ k % 256)) (g := tl n L (k + 1)) (n := L) (fun j hj => ?_)]
  · exact h
  · unfold upd tl
    by_cases e : j = x
    · subst e
      rw [if_pos rfl, if_neg (by omega), if_pos (by omega), show L - 1 - j = k by omega]
    · rw [if_neg e]
      by_cases e0 : j = 0
      · rw [if_pos e0, if_pos e0]
      · rw [if_neg e0, if_neg e0]
        by_cases e1 : L ≤ j + k
        · rw [if_pos e1, if_pos (by omega)]
        · rw [if_neg e1, if_neg (by omega)]
theorem len_val (n k : Nat) : ((n : Nat) : Int) * 8 / 2 ^ (8 * k) % 256 = ((8 * n / 256 ^ k % 256 : Nat) : Int) := by
  have e : (2 : Nat) ^ (8 * k) = 256 ^ k := by rw [Nat.pow_mul]
  rw [← e, show ((2 : Int) ^ (8 * k)) = ((2 ^ (8 * k) : Nat) : Int) from (Int.natCast_pow 2 _).symm, Nat.mul_comm 8 n]
  generalize 2 ^ (8 * k) = m
  rfl
/-- The padded message. -/
theorem sum_state (f : Nat → Nat) (n L : Nat) {z : Nat} (hz : z = zs n) (hL : L = z + 9) : sumS K s0 f n = hs K s0 (cat f n (tl n L 8)) ((n + L) / 64) := by
  have hb := blocks_eq n
  have e : (n + L) / 64 = blocks n := by omega
  rw [e]
  unfold sumS
  refine hs_congr _ fun j hj => ?_
  unfold pd cat tl
  by_cases h1 : j < n
  · rw [if_pos h1, if_pos h1]
  · rw [if_neg h1, if_neg h1]
    by_cases h2 : j = n
    · rw [if_pos h2, if_pos (show j - n = 0 by omega)]
    · rw [if_neg h2, if_neg (show ¬ j - n = 0 by omega)]
      by_cases h3 : j ≤ n + zs n
      · rw [if_pos h3, if_neg (show ¬ L ≤ j - n + 8 by omega)]
      · rw [if_neg h3, if_pos (show L ≤ j - n + 8 by omega), show 7 - (j - (n + zs n + 1)) = L - 1 - (j - n) by omega]
theorem sb_val (x t : Nat) : ((x : Nat) : Int) / 2 ^ t % 256 = ((x / 2 ^ t % 256 : Nat) : Int) := by
  rw [show ((2 : Int) ^ t) = ((2 ^ t : Nat) : Int) from (Int.natCast_pow 2 _).symm]
  generalize 2 ^ t = m
  rfl
theorem made_fl (L : Nat) : madeCells #[.int .u8 0] L = (fl (fun _ => 0) L).toArray := by
  rw [← Array.toArray_toList (xs := madeCells #[.int .u8 0] L), toList_madeCells_one]
  congr 1
  unfold fl
  rw [List.map_const', List.length_range]
  rfl
theorem run_makeL (L : Nat) (hL : L ≤ 1000) (w : World) : (Instr.makeSlice 29 (.int .i64 (L : Int)) (.int .i64 (L : Int))).run Tryd.prog w = .ok (.slice (some ⟨w.heap.size, 0, none⟩) L L) (w.alloc (.cells (fl (fun _ => 0) L).toArray 5)) := by
  obtain ⟨i0, hi, hz0, hz1, hz2⟩ := info_parts infoByte
  have hr := run_make (P := Tryd.prog) w 29 5 i0 (.int .u8 0) Tryd.underlying29 hi hz0 .i64 .i64 (L : Int) (L : Int) (by omega) (Int.le_refl _) (by rw [hz2]; omega) (by omega)
  rw [hz1] at hr
  simp only [Int.toNat_natCast, Nat.mul_one] at hr
  rw [← made_fl]
  exact hr

set_option maxRecDepth 100000 in
set_option maxHeartbeats 8000000 in
theorem sum_walk (C p n : Nat) (f : Nat → Nat) (hn : n ≤ 100000) (w : World) (HL : Hid (Laid w)) (H : Hid (HashAt w C p f n)) :
    Calls Tryd.prog 60 #[.pointer (some ⟨p, 0, none⟩)] w fun e w' => e = .returned (.agg (fl (sb (sumS K s0 f n)) 32).toArray) ∧ Below w.heap.size w w' := by
  obtain ⟨m, em⟩ : ∃ m, m = n % 64 := ⟨_, rfl⟩
  obtain ⟨z, ez⟩ : ∃ z, z = zs n := ⟨_, rfl⟩
  obtain ⟨L, eL⟩ : ∃ L, L = z + 9 := ⟨_, rfl⟩
  have hz : ((119 : Int) - (m : Int)) % 64 = (z : Int) := by rw [em, ez]; unfold zs; omega
  have hz64 : (z : Int) < 64 := by rw [ez]; unfold zs; omega
  have hm64 : (m : Int) < 64 := by omega
  have hL1 : (1 : Int) + (z : Int) + 8 = (L : Int) := by omega
  have hL0 : (0 : Int) < (L : Int) := by omega
  have hL2 : Hid (9 ≤ L ∧ L ≤ 72) := ⟨by omega, by rw [eL, ez]; unfold zs; omega⟩
  have hmk := run_makeL L (by have := hL2.out; omega)
  have Em := Lib.hid em
  have Ez := Lib.hid ez
  have EL := Lib.hid eL
  have Hn := Lib.hid hn
  clear hn ez eL
  go_enter Tryd.func60, Tryd.ntmps60
  go_wp2_with fail
  refine Calls.mono (cloneH_c C p n f (by have := Hn.out; omega) _ (H.out.kept (by repeat first | with_reducible exact Below.refl _ _ | with_reducible refine Below.drew ?_ | with_reducible refine below_dN ?_ | with_reducible refine Below.alloc ?_ (by first | omega | (simp; done) | (simp; omega)) _ | with_reducible refine Below.setCell ?_ (by first | omega | (simp; done) | (simp; omega)) _ | with_reducible refine Below.trans ?_ (Below.mono (by assumption) (by first | omega | (simp; done) | (simp; omega)))))) ?_
  rintro _ w1 ⟨⟨q, rfl, hq⟩, h1⟩
  obtain ⟨c1, f1, s1⟩ := bfacts h1
  try simp only [World.size_alloc, World.size_setCell, size_drew, size_drewN] at s1
  obtain ⟨r, hr, hown, hrp⟩ := hq.rest
  obtain ⟨ra, rc, rfl⟩ := row_slice2 hown
  rw [← em] at hr
  have Hq := Lib.hid hq
  have HL1 := Lib.hid (HL.out.step (show Below w.heap.size w w1 from (by repeat first | with_reducible exact Below.refl _ _ | with_reducible refine Below.drew ?_ | with_reducible refine below_dN ?_ | with_reducible refine Below.alloc ?_ (by first | omega | (simp; done) | (simp; omega)) _ | with_reducible refine Below.setCell ?_ (by first | omega | (simp; done) | (simp; omega)) _ | with_reducible refine Below.trans ?_ (Below.mono (by assumption) (by first | omega | (simp; done) | (simp; omega))))))
  have HB1 := Lib.hid (show Below w.heap.size w w1 from (by repeat first | with_reducible exact Below.refl _ _ | with_reducible refine Below.drew ?_ | with_reducible refine below_dN ?_ | with_reducible refine Below.alloc ?_ (by first | omega | (simp; done) | (simp; omega)) _ | with_reducible refine Below.setCell ?_ (by first | omega | (simp; done) | (simp; omega)) _ | with_reducible refine Below.trans ?_ (Below.mono (by assumption) (by first | omega | (simp; done) | (simp; omega)))))
  have Hp1 := Lib.hid (H.out.kept (show Below w.heap.size w w1 from (by repeat first | with_reducible exact Below.refl _ _ | with_reducible refine Below.drew ?_ | with_reducible refine below_dN ?_ | with_reducible refine Below.alloc ?_ (by first | omega | (simp; done) | (simp; omega)) _ | with_reducible refine Below.setCell ?_ (by first | omega | (simp; done) | (simp; omega)) _ | with_reducible refine Below.trans ?_ (Below.mono (by assumption) (by first | omega | (simp; done) | (simp; omega))))))
  have hout := Lib.hid ((h1.block w.heap.size (by simp only [World.size_alloc]; omega)).trans (heap_alloc_new w _))
  have lw : w.heap.size < w1.heap.size := by omega
  clear hq hown hrp em h1 c1 f1
  have hrow0 : RowB (w1.alloc (.cells (fl (fun _ => 0) L).toArray 5)) w1.heap.size L (fun _ => 0) 5 := heap_alloc_new w1 _
  have hc0 := hrow0.cell (j := 0) (by have := hL2.out; omega)
  have hf0 := hrow0.fz 0
  have Hrow1 : Hid (RowB (w1.alloc (.cells ((fl (fun _ => 0) L).set 0 (.int .u8 128)).toArray 5)) w1.heap.size L (upd (fun _ => 0) 0 128) 5) := by
    have e := fl_set (fun _ => 0) L 0 128 (by have := hL2.out; omega)
    show (w1.alloc _).heap[w1.heap.size]? = some (.cells (fl (upd (fun _ => 0) 0 128) L).toArray _ (0, 0))
    rw [← e]
    exact heap_alloc_new w1 _
  have HBt := Lib.hid (show Below w1.heap.size w1 (w1.alloc (.cells ((fl (fun _ => 0) L).set 0 (.int .u8 128)).toArray 5)) from (Below.refl _ _).alloc (Nat.le_refl _) _)
  clear hrow0
  go_wp2_with fail
  go_loopw [26] (fun i wr => ∃ k : Nat, k ≤ 8 ∧ i = .int .i64 (k : Int) ∧ Hid (RowB wr w1.heap.size L (tl n L k) 5 ∧ Below w1.heap.size w1 wr)) (fun i _ => 8 - (intOf i).toNat)
  case atStart => exact ⟨0, by omega, rfl, tl_start Hrow1.out hL2.out.1, HBt.out⟩
  case round =>
    obtain ⟨k, hk, rfl, G⟩ := hrel
    by_cases hlt : k < 8
    · obtain ⟨x, ex⟩ : ∃ x, x = L - 1 - k := ⟨_, rfl⟩
      have hx1 : (L : Int) - 1 - (k : Int) = (x : Int) := by have := hL2.out; omega
      have hxL : (x : Int) < (L : Int) := by have := hL2.out; omega
      have cx := G.out.1.cell (j := x) (by have := hL2.out; omega)
      have fx := G.out.1.fz x
      have hlen := (Hp1.out.kept G.out.2).len
      have hn8 : (n : Int) ≤ 100000 := by have := Hn.out; omega
      have Ex := Lib.hid ex
      clear ex
      go_wp2_with fail
      go_roundw
      case rel =>
        rw [len_val n k]
        exact ⟨k + 1, by omega, by go_num, tl_step (G.out.1.set (i := x) (by have := hL2.out; omega) _) Ex.out (by have := hL2.out; omega) hlt, G.out.2.setCell (Nat.le_refl _) _⟩
      case measure => simp [intOf]; omega
    · obtain rfl : k = 8 := by omega
      clear hlt hk
      have hg1 : 2 < w.heap.size := lt_of_cell (HL.out.k 0 (by decide))
      have hg2 : 1 < w.heap.size := lt_of_cell (HL.out.s 0 (by decide))
      have hqo : w.heap.size + 1 ≤ q := by have := Hq.out.own; simpa only [World.size_alloc] using this
      have hwr := write_c (w.heap.size + 1) q n L L (some ⟨w1.heap.size, 0, none⟩) f (tl n L 8) (by have := hL2.out; have := Hn.out; omega) wr (HL1.out.step G.out.2) (by have := Hq.out.kept G.out.2; simpa only [World.size_alloc] using this)
        ⟨tl_lt n L 8, Nat.le_refl _, .inr ⟨_, rfl, fun _ => ⟨w1.heap.size, 0, rfl, G.out.1.bytes (tl_lt n L 8)⟩⟩⟩ (fun _ ad e => by cases e; have := Hq.out.blk; show w1.heap.size ≠ q; omega) (by omega) (by omega)
      go_wp2_with fail
      refine Calls.mono hwr ?_
      rintro _ w2 ⟨rfl, hh, _, hW⟩
      obtain ⟨r1, hr1, ho1, hne1⟩ := (Hq.out.kept G.out.2).rest
      have hb2 : Below (w.heap.size + 1) wr w2 := (hW _ hr1).below hqo (by have := G.out.2.size; omega) (fun k hk => by have := (ho1.lt k hk).1; simpa only [World.size_alloc] using this)
      have Hout : Hid (RowB w2 w.heap.size 32 (fun _ => 0) 71) := (hb2.block _ (Nat.lt_succ_self _)).trans ((G.out.2.block _ lw).trans hout.out)
      have HB2 := Lib.hid ((HB1.out.trans (Below.mono G.out.2 (Nat.le_of_lt lw))).trans (Below.mono hb2 (Nat.le_succ _)))
      obtain ⟨S, eS⟩ : ∃ S, S = sumS K s0 f n := ⟨_, rfl⟩
      have HS : Hid (∀ j, j < 8 → w2.cell? ⟨q, j, none⟩ = some (.int .u32 ((S.at j : Nat) : Int))) := fun j hj => by
        rw [eS, sum_state f n L Ez.out EL.out]
        exact hh.st j hj
      have HSl : Hid (S.Ok) := by rw [eS]; exact hs_ok s0_ok _
      have ES := Lib.hid eS
      clear hwr hh hW hr1 ho1 hne1 hb2 eS
      go_wp2_with fail
      go_loopw [50] (fun i wr => ∃ (k : Nat) (g : Nat → Nat), k ≤ 32 ∧ i = .int .i64 (k : Int) ∧ Hid (RowB wr w.heap.size 32 g 71 ∧ (∀ j, g j = if j < k then sb S j else 0) ∧ (∀ j, j < 8 → wr.cell? ⟨q, j, none⟩ = some (.int .u32 ((S.at j : Nat) : Int))) ∧ Below w.heap.size w wr)) (fun i _ => 32 - (intOf i).toNat)
      case atStart => exact ⟨0, fun _ => 0, by omega, rfl, Hout.out, fun j => by rw [if_neg (Nat.not_lt_zero _)], HS.out, HB2.out⟩
      case round =>
        obtain ⟨k, g, hk, rfl, G2⟩ := hrel
        by_cases hlt : k < 32
        · obtain ⟨d, ed⟩ : ∃ d, d = k / 4 := ⟨_, rfl⟩
          obtain ⟨t, et⟩ : ∃ t, t = 24 - 8 * (k % 4) := ⟨_, rfl⟩
          have hwd : IntKind.i64.wrap ((k : Int) / 4) = (d : Int) := by rw [ed, IntKind.wrap_i64]; omega
          have hd8 : (d : Int) < 8 := by omega
          have ht : (24 : Int) - 8 * ((k : Int) % 4) = (t : Int) := by omega
          have cS := G2.out.2.2.1 d (by omega)
          have ck := G2.out.1.cell (j := k) hlt
          have fk := G2.out.1.fz k
          have Ed := Lib.hid ed
          have Et := Lib.hid et
          clear ed et
          go_wp2_with fail
          go_roundw
          case rel =>
            rw [sb_val (S.at d) t]
            refine ⟨k + 1, upd g k (S.at d / 2 ^ t % 256), by omega, by go_num, G2.out.1.set hlt _, fun j => ?_, fun j hj => ?_, G2.out.2.2.2.setCell (Nat.le_refl _) _⟩
            · unfold upd
              by_cases e : j = k
              · subst e
                rw [if_pos rfl, if_pos (Nat.lt_succ_self _), Ed.out, Et.out]
                rfl
              · rw [if_neg e, G2.out.2.1 j]
                by_cases h : j < k
                · rw [if_pos h, if_pos (by omega)]
                · rw [if_neg h, if_neg (by omega)]
            · exact (World.cell?_setCell_other (w := wr) (v := .int .u8 ((S.at d / 2 ^ t % 256 : Nat) : Int)) (a := ⟨w.heap.size, k, none⟩) (b := ⟨q, j, none⟩) (fun e => by injection e with e1 _; omega)).trans (G2.out.2.2.1 j hj)
          case measure => simp [intOf]; omega
        · obtain rfl : k = 32 := by omega
          clear hlt hk
          have E := Lib.hid (show fl (sb (sumS K s0 f n)) 32 = fl g 32 from fl_congr fun j hj => by rw [G2.out.2.1 j, if_pos hj, ES.out])
          go_wp2_with (first
            | (refine wpList_load_of rfl 71 (.tmp 2) rfl (.pointer (some ⟨w.heap.size, 0, none⟩)) (.agg (fl g 32).toArray) rfl (load_bytes (g := g) (n := 32) (fun j hj => G2.out.1.cell hj) Tryd.underlying71 (by kernel_rfl)) ?_; simp only [Act.put, List.setIfInBounds_toArray, List.set_cons_zero, List.set_cons_succ, List.tail_cons])
            | ((with_reducible show wpList _ _ _ (⟨none, _, _, _, _, _⟩ :: []) _ _); refine wpList_store_mid rfl 71 (.tmp 2) (.tmp 69) rfl w.heap.size 0 (fl g 32).toArray rfl rfl G2.out.1.there (info_fl (by kernel_rfl)) (fl_oneA g 32) ?_; simp only [Act.put, List.setIfInBounds_toArray, List.set_cons_zero, List.set_cons_succ, List.tail_cons]))
          exact bodyPost_ret (v := .agg (fl (sb (sumS K s0 f n)) 32).toArray) (by rw [E.out]; exact results_bytes (g := g) (b := w.heap.size) rfl rfl G2.out.1.stored Tryd.underlying71 (by kernel_rfl)) rfl ⟨rfl, below_setCells (Nat.le_refl _) _ _ _ _ G2.out.2.2.2⟩
end Go.Proofs.YtjhfepkpfakemaaDoor.Sh

namespace Go.Proofs.YtjhfepkpfakemaaDoor.Sh
set_option linter.all false
open Go Go.RowKit

set_option maxRecDepth 100000 in
set_option maxHeartbeats 8000000 in
theorem shaSum_c (n c : Nat) (a : Option Addr) (g : Nat → Nat) (hn : n ≤ 100000) (w : World) (hL : Laid w) (hS : SliceAt w a n c g) (hlow : ∀ ad, a = some ad → 0 < n → ad.block < w.heap.size) :
    Calls Tryd.prog 46 #[.slice a n c] w fun e w' => e = .returned (.agg (fl (sb (sumS K s0 g n)) 32).toArray) ∧ Below w.heap.size w w' := by
  have HL := Lib.hid hL
  have HS := Lib.hid hS
  have Hlow := Lib.hid hlow
  have Hn := Lib.hid hn
  have hg1 : 2 < w.heap.size := lt_of_cell (hL.k 0 (by decide))
  have hg2 : 1 < w.heap.size := lt_of_cell (hL.s 0 (by decide))
  clear hL hS hlow hn
  go_enter Tryd.func46, Tryd.ntmps46
  go_wp2_with fail
  refine Calls.mono (new_c g HS.out.lt _ (HL.out.step (by repeat first | with_reducible exact Below.refl _ _ | with_reducible refine Below.drew ?_ | with_reducible refine below_dN ?_ | with_reducible refine Below.alloc ?_ (by first | omega | (simp; done) | (simp; omega)) _ | with_reducible refine Below.setCell ?_ (by first | omega | (simp; done) | (simp; omega)) _ | with_reducible refine Below.trans ?_ (Below.mono (by assumption) (by first | omega | (simp; done) | (simp; omega)))))) ?_
  rintro _ w1 ⟨⟨p, rfl, hp⟩, h1⟩
  obtain ⟨c1, f1, s1⟩ := bfacts h1
  try simp only [World.size_alloc, World.size_setCell, size_drew, size_drewN] at s1
  have hpo : w.heap.size + 1 ≤ p := by have := hp.own; simpa only [World.size_alloc] using this
  have lw : w.heap.size < w1.heap.size := by omega
  have hout := (h1.block w.heap.size (by simp only [World.size_alloc]; omega)).trans (heap_alloc_new w _)
  have HB1 := Lib.hid (show Below w.heap.size w w1 from (by repeat first | with_reducible exact Below.refl _ _ | with_reducible refine Below.drew ?_ | with_reducible refine below_dN ?_ | with_reducible refine Below.alloc ?_ (by first | omega | (simp; done) | (simp; omega)) _ | with_reducible refine Below.setCell ?_ (by first | omega | (simp; done) | (simp; omega)) _ | with_reducible refine Below.trans ?_ (Below.mono (by assumption) (by first | omega | (simp; done) | (simp; omega)))))
  have hwr := write_c (w.heap.size + 1) p 0 n c a g g (by have := Hn.out; omega) w1 (HL.out.step HB1.out) (by simpa only [World.size_alloc] using hp) (HS.out.below HB1.out) (fun h0 ad e => by have := Hlow.out ad e h0; omega) (by omega) (by omega)
  go_wp2_with fail
  refine Calls.mono hwr ?_
  rintro _ w2 ⟨rfl, hh, _, hW⟩
  obtain ⟨r1, hr1, ho1, hne1⟩ := hp.rest
  have hb2 : Below (w.heap.size + 1) w1 w2 := (hW _ hr1).below hpo (by omega) (fun k hk => by have := (ho1.lt k hk).1; simpa only [World.size_alloc] using this)
  have HB2 := Lib.hid (HB1.out.trans (Below.mono hb2 (Nat.le_succ _)))
  have Hout2 := Lib.hid ((hb2.block _ (Nat.lt_succ_self _)).trans hout)
  have hh' : HashAt w2 (w.heap.size + 1) p g n := by
    have := hh.congr (g := g) HS.out.lt (fun j hj => by unfold cat; rw [if_neg (by omega)]; congr 1)
    rwa [Nat.zero_add] at this
  have Hh := Lib.hid hh'
  have lw2 : w.heap.size < w2.heap.size := by have := hb2.size; omega
  clear hwr hh hW hr1 ho1 hne1 hb2 hp hout hh' h1 c1 f1
  go_wp2_with fail
  refine Calls.mono (sum_walk (w.heap.size + 1) p n g Hn.out _ (Lib.hid (HL.out.step HB2.out)) Hh) ?_
  rintro _ w3 ⟨rfl, h3⟩
  obtain ⟨c3, f3, s3⟩ := bfacts h3
  try simp only [World.size_alloc, World.size_setCell, size_drew, size_drewN] at s3
  have Hrow : Hid (RowB w3 w.heap.size 32 (fun _ => 0) 71) := (h3.block _ lw2).trans Hout2.out
  have HB3 := Lib.hid (HB2.out.trans (Below.mono h3 (Nat.le_of_lt lw2)))
  clear h3 c3 f3
  obtain ⟨F, eF⟩ : ∃ F, F = sb (sumS K s0 g n) := ⟨_, rfl⟩
  rw [← eF]
  have EF := Lib.hid eF
  clear eF
  go_wp2_with ((with_reducible show wpList _ _ _ (⟨none, _, _, _, _, _⟩ :: []) _ _); refine wpList_store_mid rfl 71 (.tmp 2) (.tmp 9) rfl w.heap.size 0 (fl F 32).toArray rfl rfl Hrow.out.there (info_fl (by kernel_rfl)) (fl_oneA F 32) ?_; simp only [Act.put, List.setIfInBounds_toArray, List.set_cons_zero, List.set_cons_succ, List.tail_cons])
  exact bodyPost_ret (v := .agg (fl (sb (sumS K s0 g n)) 32).toArray) (by rw [← EF.out]; exact results_bytes (g := F) (b := w.heap.size) rfl rfl Hrow.out.stored Tryd.underlying71 (by kernel_rfl)) rfl ⟨rfl, below_setCells (Nat.le_refl _) _ _ _ _ HB3.out⟩
end Go.Proofs.YtjhfepkpfakemaaDoor.Sh
