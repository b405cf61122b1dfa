/- Plain facts on words, digits and vectors: no program in sight. -/
import Derived.WalkKit
import Derived.Laws.BitsAllLaws
import Derived.Lib.Hide
namespace Go.Proofs.YtpggmebgndkpjaaDoor
set_option linter.all false
open Go.RowKit

/-- 2^64. -/
def W : Nat := 18446744073709551616
theorem W_eq : W = 18446744073709551616 := rfl
theorem W_pos : 0 < W := by decide

/-- Digit number k of n in base 2^64. -/
def dg (k n : Nat) : Nat := n / W ^ k % W
theorem dg_lt (k n : Nat) : dg k n < W := Nat.mod_lt _ W_pos

/-- 2^256. -/
def R4 : Nat := W ^ 4

/-- A vector as a value of Go: four words. -/
abbrev vec (n : Nat) : Value := .agg #[.int .u64 ((dg 0 n : Nat) : Int), .int .u64 ((dg 1 n : Nat) : Int), .int .u64 ((dg 2 n : Nat) : Int), .int .u64 ((dg 3 n : Nat) : Int)]

/-- The number of four words. -/
def val4 (a b c d : Nat) : Nat := a + b * W + c * W ^ 2 + d * W ^ 3

theorem dg0_val {a b c d : Nat} (ha : a < W) : dg 0 (val4 a b c d) = a := by
  unfold dg val4 W at *; omega
theorem dg1_val {a b c d : Nat} (ha : a < W) (hb : b < W) : dg 1 (val4 a b c d) = b := by
  unfold dg val4 W at *; omega
theorem dg2_val {a b c d : Nat} (ha : a < W) (hb : b < W) (hc : c < W) : dg 2 (val4 a b c d) = c := by
  unfold dg val4 W at *; omega
theorem dg3_val {a b c d : Nat} (ha : a < W) (hb : b < W) (hc : c < W) (hd : d < W) : dg 3 (val4 a b c d) = d := by
  unfold dg val4 W at *; omega
theorem val4_dg {n : Nat} (h : n < R4) : val4 (dg 0 n) (dg 1 n) (dg 2 n) (dg 3 n) = n := by
  unfold R4 dg val4 W at *; omega
theorem val4_lt {a b c d : Nat} (ha : a < W) (hb : b < W) (hc : c < W) (hd : d < W) : val4 a b c d < R4 := by
  unfold R4 val4 W at *; omega

/-- Four words are the vector of their number. -/
theorem vec_val4 {a b c d : Nat} (ha : a < W) (hb : b < W) (hc : c < W) (hd : d < W) :
    vec (val4 a b c d) = .agg #[.int .u64 (a : Int), .int .u64 (b : Int), .int .u64 (c : Int), .int .u64 (d : Int)] := by
  unfold vec; rw [dg0_val ha, dg1_val ha hb, dg2_val ha hb hc, dg3_val ha hb hc hd]

theorem vec_inj {a b : Nat} (ha : a < R4) (hb : b < R4) (h : vec a = vec b) : a = b := by
  unfold vec at h
  simp only [Value.agg.injEq, Array.mk.injEq, List.cons.injEq, Value.int.injEq, true_and, and_true, Int.natCast_inj] at h
  rw [← val4_dg ha, ← val4_dg hb, h.1, h.2.1, h.2.2.1, h.2.2.2]

/-- The mask of a bit. -/
def mb (x : Nat) : Nat := if x % 2 = 1 then W - 1 else 0
theorem mb_lt (x : Nat) : mb x < W := by unfold mb W; split <;> omega
theorem fromBit_val {x : Nat} (hx : x < W) : IntKind.u64.wrap (-bits BinOp.and IntKind.u64 (x : Int) 1) = ((mb x : Nat) : Int) := by
  have h : bits BinOp.and IntKind.u64 (x : Int) 1 = ((x &&& 1 : Nat) : Int) := u64_and_nat x 1 hx (by decide)
  rw [h, nat_mask1, IntKind.wrap_u64]
  unfold mb W
  split <;> omega

theorem xor_lt_W {a b : Nat} (ha : a < W) (hb : b < W) : a ^^^ b < W := Nat.xor_lt_two_pow (n := 64) ha hb
theorem and_lt_W {a b : Nat} (ha : a < W) : a &&& b < W := Nat.lt_of_le_of_lt Nat.and_le_left ha
theorem or_lt_W {a b : Nat} (ha : a < W) (hb : b < W) : a ||| b < W := Nat.or_lt_two_pow (n := 64) ha hb

/-- Choose by a mask that is all ones or zero. -/
theorem choose_mask {s a b : Nat} (ha : a < W) (hb : b < W) : b ^^^ (mb s &&& (a ^^^ b)) = if s % 2 = 1 then a else b := by
  unfold mb
  split
  · have h : (W - 1) &&& (a ^^^ b) = a ^^^ b := by
      have h1 : W - 1 = 2 ^ 64 - 1 := by decide
      rw [h1, Nat.and_comm, Nat.and_two_pow_sub_one_eq_mod]
      exact Nat.mod_eq_of_lt (Nat.xor_lt_two_pow (n := 64) ha hb)
    rw [h, Nat.xor_comm a b, ← Nat.xor_assoc, Nat.xor_self, Nat.zero_xor]
  · simp
/-- One of two words. -/
def sel (s a b : Nat) : Nat := if s % 2 = 1 then a else b
theorem sel_lt {s a b n : Nat} (ha : a < n) (hb : b < n) : sel s a b < n := by unfold sel; split <;> assumption
theorem sel_vec (s a b : Nat) : vec (sel s a b) = .agg #[.int .u64 ((sel s (dg 0 a) (dg 0 b) : Nat) : Int), .int .u64 ((sel s (dg 1 a) (dg 1 b) : Nat) : Int), .int .u64 ((sel s (dg 2 a) (dg 2 b) : Nat) : Int), .int .u64 ((sel s (dg 3 a) (dg 3 b) : Nat) : Int)] := by
  unfold vec sel; split <;> rfl
theorem choose_val {s a b : Nat} (ha : a < W) (hb : b < W) :
    bits BinOp.xor IntKind.u64 (b : Int) (bits BinOp.and IntKind.u64 ((mb s : Nat) : Int) (bits BinOp.xor IntKind.u64 (a : Int) (b : Int))) = ((sel s a b : Nat) : Int) := by
  unfold sel
  rw [u64_xor_nat a b ha hb, u64_and_nat _ _ (mb_lt s) (xor_lt_W ha hb), u64_xor_nat _ _ hb (and_lt_W (mb_lt s)), choose_mask ha hb]

/-- The words of math/bits: named, so that a walk does not open them. -/
def addLo (x y c : Nat) : Nat := (x + y + c) % W
def addHi (x y c : Nat) : Nat := (x + y + c) / W
def subLo (x y c : Nat) : Nat := (x + W - y - c) % W
def subHi (x y c : Nat) : Nat := if x < y + c then 1 else 0
def mulHi (x y : Nat) : Nat := x * y / W
def mulLo (x y : Nat) : Nat := x * y % W
def maHi (a b c d : Nat) : Nat := (a * b + c + d) / W
def maLo (a b c d : Nat) : Nat := (a * b + c + d) % W
theorem addLo_lt (x y c : Nat) : addLo x y c < W := Nat.mod_lt _ W_pos
theorem addHi_le {x y c : Nat} (hx : x < W) (hy : y < W) (hc : c ≤ 1) : addHi x y c ≤ 1 := by unfold addHi W at *; omega
theorem subLo_lt (x y c : Nat) : subLo x y c < W := Nat.mod_lt _ W_pos
theorem subHi_le (x y c : Nat) : subHi x y c ≤ 1 := by unfold subHi; split <;> omega
theorem add_eq (x y c : Nat) : addLo x y c + addHi x y c * W = x + y + c := by unfold addLo addHi W; omega
theorem sub_eq {x y c : Nat} (hx : x < W) (hy : y < W) (hc : c ≤ 1) : subLo x y c + y + c = x + subHi x y c * W := by
  unfold subLo subHi W at *; split <;> omega
theorem mulLo_lt (x y : Nat) : mulLo x y < W := Nat.mod_lt _ W_pos
theorem mul_lt {x y : Nat} (hx : x < W) (hy : y < W) : x * y ≤ (W - 1) * (W - 1) := Nat.mul_le_mul (by omega) (by omega)
theorem mulHi_lt {x y : Nat} (hx : x < W) (hy : y < W) : mulHi x y < W := by
  have := mul_lt hx hy
  unfold mulHi; rw [Nat.div_lt_iff_lt_mul W_pos]; unfold W at *; omega
theorem maLo_lt (a b c d : Nat) : maLo a b c d < W := Nat.mod_lt _ W_pos
theorem maHi_lt {a b c d : Nat} (ha : a < W) (hb : b < W) (hc : c < W) (hd : d < W) : maHi a b c d < W := by
  have := mul_lt ha hb
  unfold maHi; rw [Nat.div_lt_iff_lt_mul W_pos]; unfold W at *; omega
theorem ma_eq (a b c d : Nat) : maLo a b c d + maHi a b c d * W = a * b + c + d := by
  unfold maLo maHi; rw [Nat.mul_comm _ W]; exact Nat.mod_add_div _ _
/-- What multiplyAdd computes. -/
theorem ma_lo {a b c d : Nat} : addLo (addLo (mulLo a b) c 0) d 0 = maLo a b c d := by
  unfold addLo mulLo maLo
  simp only [Nat.add_zero, Nat.mod_add_mod]
theorem ma_hi {a b c d : Nat} (ha : a < W) (hb : b < W) (hc : c < W) (hd : d < W) :
    IntKind.u64.wrap (IntKind.u64.wrap ((mulHi a b : Nat) + (addHi (mulLo a b) c 0 : Nat)) + (addHi (addLo (mulLo a b) c 0) d 0 : Nat)) = ((maHi a b c d : Nat) : Int) := by
  have h1 := mul_lt ha hb
  have h2 := maHi_lt ha hb hc hd
  have e : mulHi a b + addHi (mulLo a b) c 0 + addHi (addLo (mulLo a b) c 0) d 0 = maHi a b c d := by
    unfold mulHi mulLo addHi addLo maHi at *
    generalize a * b = m at *
    unfold W at *; omega
  have e' : ((mulHi a b : Nat) : Int) + (addHi (mulLo a b) c 0 : Nat) + (addHi (addLo (mulLo a b) c 0) d 0 : Nat) = (maHi a b c d : Nat) := by
    rw [← e]; simp
  have h3 : ((maHi a b c d : Nat) : Int) < 18446744073709551616 := by unfold W at h2; omega
  rw [IntKind.wrap_u64, IntKind.wrap_u64, Int.emod_add_emod, e']
  exact Int.emod_eq_of_lt (by omega) h3

/-- Sum and difference of vectors, with carry and borrow. -/
def addV (a b : Nat) : Nat := (a + b) % R4
def addC (a b : Nat) : Nat := (a + b) / R4
def subV (a b : Nat) : Nat := (a + R4 - b) % R4
def subC (a b : Nat) : Nat := if a < b then 1 else 0
/-- A number with a carry, less m if it is not less. -/
def rdc (m a c : Nat) : Nat := if a < m ∧ c % 2 = 0 then a else subV a m
/-- The mask of the first case. -/
def rdm (m a c : Nat) : Nat := mb (subC a m) &&& (W - 1 - mb c)
theorem rdc_val (m a c : Nat) : bits BinOp.andNot IntKind.u64 ((mb (subC a m) : Nat) : Int) ((mb c : Nat) : Int) = ((rdm m a c : Nat) : Int) ∧ rdm m a c < W ∧ sel (rdm m a c) a (subV a m) = rdc m a c := by
  refine ⟨u64_andNot_nat _ _ (mb_lt _) (mb_lt _), Nat.lt_of_le_of_lt Nat.and_le_left (mb_lt _), ?_⟩
  have h : rdm m a c % 2 = 1 ↔ (a < m ∧ c % 2 = 0) := by
    unfold rdm mb subC
    by_cases h1 : a < m <;> by_cases h2 : c % 2 = 1
    · simp [h1, h2]
    · have h3 : c % 2 = 0 := by omega
      simp only [h1, if_true, h3]
      decide
    · simp [h1]
    · simp [h1]
  unfold sel rdc
  by_cases hc : a < m ∧ c % 2 = 0
  · rw [if_pos (h.2 hc), if_pos hc]
  · rw [if_neg (fun e => hc (h.1 e)), if_neg hc]
theorem addV_lt (a b : Nat) : addV a b < R4 := Nat.mod_lt _ (by decide)
theorem subV_lt (a b : Nat) : subV a b < R4 := Nat.mod_lt _ (by decide)
theorem subC_le (a b : Nat) : subC a b ≤ 1 := by unfold subC; split <;> omega
theorem subC_lt (a b : Nat) : subC a b < W := Nat.lt_of_le_of_lt (subC_le a b) (by decide)
theorem addC_lt {a b : Nat} (ha : a < R4) (hb : b < R4) : addC a b < W := by unfold addC R4 W at *; omega

/-- The carries and the words of a chain. -/
def chC1 (hi : Nat → Nat → Nat → Nat) (a b : Nat) : Nat := hi (dg 0 a) (dg 0 b) 0
def chC2 (hi : Nat → Nat → Nat → Nat) (a b : Nat) : Nat := hi (dg 1 a) (dg 1 b) (chC1 hi a b)
def chC3 (hi : Nat → Nat → Nat → Nat) (a b : Nat) : Nat := hi (dg 2 a) (dg 2 b) (chC2 hi a b)
def chC (hi : Nat → Nat → Nat → Nat) (a b : Nat) : Nat := hi (dg 3 a) (dg 3 b) (chC3 hi a b)
def chV (lo hi : Nat → Nat → Nat → Nat) (a b : Nat) : Nat := val4 (lo (dg 0 a) (dg 0 b) 0) (lo (dg 1 a) (dg 1 b) (chC1 hi a b)) (lo (dg 2 a) (dg 2 b) (chC2 hi a b)) (lo (dg 3 a) (dg 3 b) (chC3 hi a b))

theorem chain_add {a b : Nat} (ha : a < R4) (hb : b < R4) : chV addLo addHi a b = addV a b ∧ chC addHi a b = addC a b := by
  have ea := val4_dg ha
  have eb := val4_dg hb
  have h0 := add_eq (dg 0 a) (dg 0 b) 0
  have h1 := add_eq (dg 1 a) (dg 1 b) (chC1 addHi a b)
  have h2 := add_eq (dg 2 a) (dg 2 b) (chC2 addHi a b)
  have h3 := add_eq (dg 3 a) (dg 3 b) (chC3 addHi a b)
  have l := val4_lt (addLo_lt (dg 0 a) (dg 0 b) 0) (addLo_lt (dg 1 a) (dg 1 b) (chC1 addHi a b)) (addLo_lt (dg 2 a) (dg 2 b) (chC2 addHi a b)) (addLo_lt (dg 3 a) (dg 3 b) (chC3 addHi a b))
  rw [show addHi (dg 0 a) (dg 0 b) 0 = chC1 addHi a b from rfl] at h0
  rw [show addHi (dg 1 a) (dg 1 b) (chC1 addHi a b) = chC2 addHi a b from rfl] at h1
  rw [show addHi (dg 2 a) (dg 2 b) (chC2 addHi a b) = chC3 addHi a b from rfl] at h2
  rw [show addHi (dg 3 a) (dg 3 b) (chC3 addHi a b) = chC addHi a b from rfl] at h3
  have e : chV addLo addHi a b + chC addHi a b * R4 = a + b := by
    unfold chV
    unfold val4 at *
    unfold R4 W at *
    omega
  have hl : chV addLo addHi a b < R4 := l
  unfold addV addC
  rw [← e]
  constructor
  · rw [Nat.add_mul_mod_self_right, Nat.mod_eq_of_lt hl]
  · rw [Nat.add_mul_div_right _ _ (by decide), Nat.div_eq_of_lt hl, Nat.zero_add]

theorem chain_sub {a b : Nat} (ha : a < R4) (hb : b < R4) : chV subLo subHi a b = subV a b ∧ chC subHi a b = subC a b := by
  have ea := val4_dg ha
  have eb := val4_dg hb
  have c1 : chC1 subHi a b ≤ 1 := subHi_le _ _ _
  have c2 : chC2 subHi a b ≤ 1 := subHi_le _ _ _
  have c3 : chC3 subHi a b ≤ 1 := subHi_le _ _ _
  have c4 : chC subHi a b ≤ 1 := subHi_le _ _ _
  have h0 := sub_eq (dg_lt 0 a) (dg_lt 0 b) (Nat.zero_le 1)
  have h1 := sub_eq (dg_lt 1 a) (dg_lt 1 b) c1
  have h2 := sub_eq (dg_lt 2 a) (dg_lt 2 b) c2
  have h3 := sub_eq (dg_lt 3 a) (dg_lt 3 b) c3
  have l := val4_lt (subLo_lt (dg 0 a) (dg 0 b) 0) (subLo_lt (dg 1 a) (dg 1 b) (chC1 subHi a b)) (subLo_lt (dg 2 a) (dg 2 b) (chC2 subHi a b)) (subLo_lt (dg 3 a) (dg 3 b) (chC3 subHi a b))
  rw [show subHi (dg 0 a) (dg 0 b) 0 = chC1 subHi a b from rfl] at h0
  rw [show subHi (dg 1 a) (dg 1 b) (chC1 subHi a b) = chC2 subHi a b from rfl] at h1
  rw [show subHi (dg 2 a) (dg 2 b) (chC2 subHi a b) = chC3 subHi a b from rfl] at h2
  rw [show subHi (dg 3 a) (dg 3 b) (chC3 subHi a b) = chC subHi a b from rfl] at h3
  have e : chV subLo subHi a b + b = a + chC subHi a b * R4 := by
    unfold chV
    unfold val4 at *
    unfold R4 W at *
    omega
  have hl : chV subLo subHi a b < R4 := l
  unfold subV subC
  have c4' : chC subHi a b = 0 ∨ chC subHi a b = 1 := by omega
  rcases c4' with c | c <;> rw [c] at e ⊢ <;> unfold R4 W at * <;> constructor <;> (try split) <;> omega

theorem wrap_mul (x y : Nat) : IntKind.u64.wrap ((x : Int) * (y : Int)) = ((mulLo x y : Nat) : Int) := by
  rw [IntKind.wrap_u64]; unfold mulLo W; simp
theorem wrap_add (x y : Nat) : IntKind.u64.wrap ((x : Int) + (y : Int)) = ((addLo x y 0 : Nat) : Int) := by
  rw [IntKind.wrap_u64]; unfold addLo W; simp

/-- One round of the Montgomery product. -/
theorem mont_round {p n a b t0 t1 t2 t3 t4 c1 c2 c3 c4 u0 u1 u2 u3 u4 u5 m d1 d2 d3 d4 v0 v1 v2 v3 k v4 : Nat}
    (ha : a < R4) (hp : p < R4) (hn : (n * dg 0 p + 1) % W = 0) (hb : b < W)
    (h4 : t4 ≤ 1) (l0 : t0 < W) (l1 : t1 < W) (l2 : t2 < W) (l3 : t3 < W)
    (hc1 : maHi (dg 0 a) b t0 0 = c1) (hu0 : maLo (dg 0 a) b t0 0 = u0)
    (hc2 : maHi (dg 1 a) b t1 c1 = c2) (hu1 : maLo (dg 1 a) b t1 c1 = u1)
    (hc3 : maHi (dg 2 a) b t2 c2 = c3) (hu2 : maLo (dg 2 a) b t2 c2 = u2)
    (hc4 : maHi (dg 3 a) b t3 c3 = c4) (hu3 : maLo (dg 3 a) b t3 c3 = u3)
    (hu4 : addLo t4 c4 0 = u4) (hu5 : addHi t4 c4 0 = u5) (hm : mulLo u0 n = m)
    (hd1 : maHi m (dg 0 p) u0 0 = d1)
    (hd2 : maHi m (dg 1 p) u1 d1 = d2) (hv0 : maLo m (dg 1 p) u1 d1 = v0)
    (hd3 : maHi m (dg 2 p) u2 d2 = d3) (hv1 : maLo m (dg 2 p) u2 d2 = v1)
    (hd4 : maHi m (dg 3 p) u3 d3 = d4) (hv2 : maLo m (dg 3 p) u3 d3 = v2)
    (hv3 : addLo u4 d4 0 = v3) (hk : addHi u4 d4 0 = k) (hv4 : addLo u5 k 0 = v4) :
    (v0 + v1 * W + v2 * W ^ 2 + v3 * W ^ 3 + v4 * W ^ 4) * W = (t0 + t1 * W + t2 * W ^ 2 + t3 * W ^ 3 + t4 * W ^ 4) + a * b + m * p ∧ m < W := by
  have e1 := ma_eq (dg 0 a) b t0 0
  have e2 := ma_eq (dg 1 a) b t1 c1
  have e3 := ma_eq (dg 2 a) b t2 c2
  have e4 := ma_eq (dg 3 a) b t3 c3
  have bc1 := maHi_lt (dg_lt 0 a) hb l0 W_pos
  rw [hc1] at bc1
  have bc2 := maHi_lt (dg_lt 1 a) hb l1 bc1
  rw [hc2] at bc2
  have bc3 := maHi_lt (dg_lt 2 a) hb l2 bc2
  rw [hc3] at bc3
  have bc4 := maHi_lt (dg_lt 3 a) hb l3 bc3
  rw [hc4] at bc4
  have e5 := add_eq t4 c4 0
  have f1 := ma_eq m (dg 0 p) u0 0
  have f2 := ma_eq m (dg 1 p) u1 d1
  have f3 := ma_eq m (dg 2 p) u2 d2
  have f4 := ma_eq m (dg 3 p) u3 d3
  have f5 := add_eq u4 d4 0
  have z : maLo m (dg 0 p) u0 0 = 0 := by
    subst hm
    unfold maLo mulLo
    have : (u0 * n % W * dg 0 p + u0 + 0) % W = (u0 * ((n * dg 0 p + 1) % W)) % W := by
      rw [Nat.mul_mod_mod, Nat.add_zero, ← Nat.mod_add_mod, Nat.mod_mul_mod, Nat.mod_add_mod]
      congr 1
      rw [Nat.mul_add, Nat.mul_one, Nat.mul_assoc]
    rw [this, hn, Nat.mul_zero, Nat.zero_mod]
  have hmlt : m < W := by rw [← hm]; exact mulLo_lt _ _
  have bu0 : u0 < W := by rw [← hu0]; exact maLo_lt _ _ _ _
  have bu1 : u1 < W := by rw [← hu1]; exact maLo_lt _ _ _ _
  have bu2 : u2 < W := by rw [← hu2]; exact maLo_lt _ _ _ _
  have bu3 : u3 < W := by rw [← hu3]; exact maLo_lt _ _ _ _
  have bd1 := maHi_lt hmlt (dg_lt 0 p) bu0 W_pos
  rw [hd1] at bd1
  have bd2 := maHi_lt hmlt (dg_lt 1 p) bu1 bd1
  rw [hd2] at bd2
  have bd3 := maHi_lt hmlt (dg_lt 2 p) bu2 bd2
  rw [hd3] at bd3
  have bd4 := maHi_lt hmlt (dg_lt 3 p) bu3 bd3
  rw [hd4] at bd4
  have bu4 : u4 < W := by rw [← hu4]; exact addLo_lt _ _ _
  have bu5 : u5 ≤ 1 := by
    rw [← hu5]; unfold addHi W at *; omega
  have bk : k ≤ 1 := by rw [← hk]; exact addHi_le bu4 bd4 (Nat.zero_le _)
  have g5 : v4 = u5 + k := by rw [← hv4]; unfold addLo W; omega
  rw [hc1, hu0] at e1
  rw [hc2, hu1] at e2
  rw [hc3, hu2] at e3
  rw [hc4, hu3] at e4
  rw [hu4, hu5] at e5
  rw [hd1, z] at f1
  rw [hd2, hv0] at f2
  rw [hd3, hv1] at f3
  rw [hd4, hv2] at f4
  rw [hv3, hk] at f5
  refine ⟨?_, hmlt⟩
  have ea : a * b = dg 0 a * b + dg 1 a * b * W + dg 2 a * b * W ^ 2 + dg 3 a * b * W ^ 3 := by
    have := val4_dg ha
    conv => lhs; rw [← this]
    unfold val4
    simp only [Nat.add_mul]
    rw [Nat.mul_right_comm (dg 1 a), Nat.mul_right_comm (dg 2 a), Nat.mul_right_comm (dg 3 a)]
  have ep : m * p = m * dg 0 p + m * dg 1 p * W + m * dg 2 p * W ^ 2 + m * dg 3 p * W ^ 3 := by
    have := val4_dg hp
    conv => lhs; rw [← this]
    unfold val4
    simp only [Nat.mul_add, Nat.mul_assoc]
  rw [ea, ep, g5]
  generalize dg 0 a * b = x0 at *
  generalize dg 1 a * b = x1 at *
  generalize dg 2 a * b = x2 at *
  generalize dg 3 a * b = x3 at *
  generalize m * dg 0 p = y0 at *
  generalize m * dg 1 p = y1 at *
  generalize m * dg 2 p = y2 at *
  generalize m * dg 3 p = y3 at *
  clear hc1 hc2 hc3 hc4 hd1 hd2 hd3 hd4 hu0 hu1 hu2 hu3 hu4 hu5 hv0 hv1 hv2 hv3 hv4 hk hm ea ep hn z ha hp
  unfold W at *
  omega

/-- The number of five words. -/
def V5 (a b c d e : Nat) : Nat := a + b * W + c * W ^ 2 + d * W ^ 3 + e * W ^ 4
/-- What holds behind i rounds of the Montgomery product. -/
def MI (p a b i T : Nat) : Prop := T < a + p ∧ ∃ M, T * W ^ i = a * (b % W ^ i) + M * p ∧ M < W ^ i
theorem MI_zero {p : Nat} (hp : 0 < p) (a b : Nat) : MI p a b 0 (V5 0 0 0 0 0) :=
  ⟨by unfold V5; omega, 0, by simp [V5, Nat.mod_one], by simp⟩
theorem mod_succ (b i : Nat) : b % W ^ (i + 1) = b % W ^ i + dg i b * W ^ i := by
  unfold dg
  rw [Nat.pow_succ, Nat.mod_mul, Nat.mul_comm (W ^ i)]
theorem MI_step {p a b i T T' m : Nat} (h : MI p a b i T) (hm : m < W) (he : T' * W = T + a * dg i b + m * p) : MI p a b (i + 1) T' := by
  obtain ⟨h1, M, h2, h3⟩ := h
  refine ⟨?_, M + m * W ^ i, ?_, ?_⟩
  · have hb := dg_lt i b
    have k1 : a * dg i b ≤ a * (W - 1) := Nat.mul_le_mul_left _ (by omega)
    have k2 : m * p ≤ (W - 1) * p := Nat.mul_le_mul_right _ (by omega)
    have k3 : (a + p) * W = (a + p) + a * (W - 1) + (W - 1) * p := by
      have : W = (W - 1) + 1 := by have := W_pos; omega
      generalize W - 1 = V at *
      rw [this, Nat.mul_add, Nat.mul_one, Nat.add_mul, Nat.mul_comm p V]; omega
    have : T' * W < (a + p) * W := by omega
    exact Nat.lt_of_mul_lt_mul_right this
  · rw [mod_succ, Nat.pow_succ, Nat.mul_comm (W ^ i) W, ← Nat.mul_assoc, he, Nat.add_mul, Nat.add_mul, h2, Nat.mul_add, Nat.add_mul, Nat.mul_assoc a, Nat.mul_right_comm m p]
    omega
  · rw [Nat.pow_succ]
    have k : m * W ^ i ≤ (W - 1) * W ^ i := Nat.mul_le_mul_right _ (by omega)
    have k2 : W ^ i * W = W ^ i + (W - 1) * W ^ i := by
      have : W = (W - 1) + 1 := by have := W_pos; omega
      rw [Nat.mul_comm (W ^ i) W]
      generalize W ^ i = X at *
      generalize W - 1 = V at *
      rw [this, Nat.add_mul, Nat.one_mul]; omega
    omega
theorem V5_top {a b c d e : Nat} (h : V5 a b c d e < 2 * R4) : e ≤ 1 := by unfold V5 R4 W at *; omega
theorem MI_top {p a b i v0 v1 v2 v3 v4 : Nat} (ha : a < R4) (hp : p < R4) (h : MI p a b i (V5 v0 v1 v2 v3 v4)) : v4 ≤ 1 :=
  V5_top (a := v0) (b := v1) (c := v2) (d := v3) (by have := h.1; omega)
/-- What the last step gives: T mod p. -/
theorem rdc_mod {p v0 v1 v2 v3 v4 : Nat} (hp : 0 < p) (hR : p < R4) (l0 : v0 < W) (l1 : v1 < W) (l2 : v2 < W) (l3 : v3 < W) (h : V5 v0 v1 v2 v3 v4 < 2 * p) :
    rdc p (val4 v0 v1 v2 v3) v4 = V5 v0 v1 v2 v3 v4 % p := by
  have hv := val4_lt l0 l1 l2 l3
  have e : V5 v0 v1 v2 v3 v4 = val4 v0 v1 v2 v3 + v4 * R4 := by unfold V5 val4 R4; rfl
  rw [e] at h ⊢
  generalize val4 v0 v1 v2 v3 = V at *
  have h4 : v4 = 0 ∨ v4 = 1 := by
    have : v4 * R4 < 2 * R4 := by omega
    have := Nat.lt_of_mul_lt_mul_right this
    omega
  unfold rdc subV
  have m2 : ∀ x, p ≤ x → x < 2 * p → x % p = x - p := fun x h1 h2 => by rw [Nat.mod_eq_sub_mod h1, Nat.mod_eq_of_lt (by omega)]
  rcases h4 with rfl | rfl
  · rw [Nat.zero_mul, Nat.add_zero] at h ⊢
    by_cases hlt : V < p
    · rw [if_pos ⟨hlt, rfl⟩, Nat.mod_eq_of_lt hlt]
    · rw [if_neg (fun hh => hlt hh.1), m2 V (by omega) h, show V + R4 - p = (V - p) + R4 by omega, Nat.add_mod_right, Nat.mod_eq_of_lt (by omega)]
  · rw [Nat.one_mul] at h ⊢
    rw [if_neg (fun hh => by simp at hh), m2 (V + R4) (by omega) h, Nat.mod_eq_of_lt (by omega)]
theorem MI_end {p a b r v0 v1 v2 v3 v4 : Nat} (hp : 0 < p) (hR : p < R4) (hb : b < R4) (hr : R4 * r % p = 1 % p) (hab : a * b < R4 * p) (l0 : v0 < W) (l1 : v1 < W) (l2 : v2 < W) (l3 : v3 < W)
    (h : MI p a b 4 (V5 v0 v1 v2 v3 v4)) : rdc p (val4 v0 v1 v2 v3) v4 = a * b * r % p := by
  obtain ⟨_, M, h2, h3⟩ := h
  generalize hT : V5 v0 v1 v2 v3 v4 = T at *
  rw [Nat.mod_eq_of_lt (show b < W ^ 4 from hb)] at h2
  have hlt : T < 2 * p := by
    have k : M * p < W ^ 4 * p := Nat.mul_lt_mul_of_pos_right h3 hp
    have : T * R4 < 2 * p * R4 := by
      rw [show T * R4 = T * W ^ 4 from rfl, h2]
      have e : 2 * p * R4 = R4 * p + W ^ 4 * p := by
        rw [show W ^ 4 = R4 from rfl, Nat.mul_comm 2 p, Nat.mul_assoc, Nat.mul_comm R4 p, ← Nat.mul_add]; congr 1
      omega
    exact Nat.lt_of_mul_lt_mul_right this
  rw [rdc_mod hp hR l0 l1 l2 l3 (by rw [hT]; exact hlt), hT]
  have e : a * b * r + M * p * r = T * (R4 * r) := by
    rw [← Nat.add_mul, ← h2, show W ^ 4 = R4 from rfl, Nat.mul_assoc]
  have e2 : (a * b * r + M * p * r) % p = a * b * r % p := by
    rw [Nat.mul_right_comm M p r, Nat.add_mul_mod_self_right]
  rw [← e2, e, Nat.mul_mod, hr, Nat.mul_mod_mod, Nat.mul_one, Nat.mod_mod]

/-- The carry in front of digit k. -/
def cyc (hi : Nat → Nat → Nat → Nat) (a b : Nat) : Nat → Nat
  | 0 => 0
  | k + 1 => hi (dg k a) (dg k b) (cyc hi a b k)
theorem cyc_add_le (a b k : Nat) : cyc addHi a b k ≤ 1 := by
  cases k with
  | zero => exact Nat.zero_le _
  | succ k =>
    induction k with
    | zero => exact addHi_le (dg_lt _ _) (dg_lt _ _) (Nat.zero_le _)
    | succ k ih => exact addHi_le (dg_lt _ _) (dg_lt _ _) ih
theorem cyc_sub_le (a b k : Nat) : cyc subHi a b k ≤ 1 := by
  cases k with
  | zero => exact Nat.zero_le _
  | succ k => exact subHi_le _ _ _
/-- Word j of the result when k words are done. -/
def ow (lo hi : Nat → Nat → Nat → Nat) (a b j k : Nat) : Nat := if j < k then lo (dg j a) (dg j b) (cyc hi a b j) else 0
abbrev ows (lo hi : Nat → Nat → Nat → Nat) (a b k : Nat) : List Value := [.int .u64 ((ow lo hi a b 0 k : Nat) : Int), .int .u64 ((ow lo hi a b 1 k : Nat) : Int), .int .u64 ((ow lo hi a b 2 k : Nat) : Int), .int .u64 ((ow lo hi a b 3 k : Nat) : Int)]
theorem ow_set {lo hi : Nat → Nat → Nat → Nat} {a b k v : Nat} (hk : k < 4) (hv : v = lo (dg k a) (dg k b) (cyc hi a b k)) :
    (ows lo hi a b k).set k (.int .u64 (v : Int)) = ows lo hi a b (k + 1) := by
  subst hv
  rcases k with _ | _ | _ | _ | k <;> first | omega | simp [ows, ow]
theorem ow_vec {lo hi : Nat → Nat → Nat → Nat} (hlo : ∀ x y c, lo x y c < W) (a b : Nat) : vec (chV lo hi a b) = .agg (ows lo hi a b 4).toArray := by
  unfold chV
  rw [vec_val4 (hlo _ _ _) (hlo _ _ _) (hlo _ _ _) (hlo _ _ _)]
  rfl
/-- One digit of the reference's sum. -/
theorem sum_lo (x y c : Nat) : addLo (addLo x c 0) y 0 = addLo x y c := by
  unfold addLo; simp only [Nat.add_zero, Nat.mod_add_mod]; congr 1; omega
theorem sum_hi {x y c : Nat} (hx : x < W) (hy : y < W) (hc : c ≤ 1) : addHi x y c = if addLo x c 0 < c ∨ addLo x y c < addLo x c 0 then 1 else 0 := by
  unfold addHi addLo W at *
  split <;> omega
theorem sum_one {x y c : Nat} (hx : x < W) (hy : y < W) (hc : c ≤ 1) (h : addLo x c 0 < c ∨ addLo (addLo x c 0) y 0 < addLo x c 0) : addHi x y c = 1 := by
  rw [sum_lo] at h; rw [sum_hi hx hy hc, if_pos h]
theorem sum_zero {x y c : Nat} (hx : x < W) (hy : y < W) (hc : c ≤ 1) (h1 : c ≤ addLo x c 0) (h2 : addLo x c 0 ≤ addLo (addLo x c 0) y 0) : addHi x y c = 0 := by
  rw [sum_lo] at h2; rw [sum_hi hx hy hc, if_neg (by omega)]
theorem sub_one {x y c : Nat} (h : x < y + c) : subHi x y c = 1 := by unfold subHi; exact if_pos h
theorem sub_zero {x y c : Nat} (h : y + c ≤ x) : subHi x y c = 0 := by unfold subHi; exact if_neg (by omega)
theorem eq_facts {x y : Nat} (h : x = y) : (((x : Nat) : Int) == ((y : Nat) : Int)) = true ∧ (x == y) = true ∧ decide (x = y) = true := by subst h; simp
theorem ne_facts {x y : Nat} (h : x ≠ y) : (((x : Nat) : Int) == ((y : Nat) : Int)) = false ∧ (x == y) = false ∧ decide (x = y) = false := by
  refine ⟨?_, ?_, ?_⟩
  · rw [beq_eq_false_iff_ne]; omega
  · rw [beq_eq_false_iff_ne]; exact h
  · exact decide_eq_false h
theorem eq1_facts {x : Nat} (h : x = 1) : (((x : Nat) : Int) == 1) = true ∧ (x == 1) = true ∧ decide (x = 1) = true := by subst h; simp
theorem ne1_facts {x : Nat} (h : x = 0) : (((x : Nat) : Int) == 1) = false ∧ (x == 1) = false ∧ decide (x = 1) = false := by subst h; simp
theorem chC_cyc (hi : Nat → Nat → Nat → Nat) (a b : Nat) : chC hi a b = cyc hi a b 4 := rfl
theorem cyc_succ (hi : Nat → Nat → Nat → Nat) (a b k : Nat) : cyc hi a b (k + 1) = hi (dg k a) (dg k b) (cyc hi a b k) := rfl
theorem wrap_sub (x y c : Nat) (hx : x < W) (hy : y < W) (hc : c ≤ 1) : IntKind.u64.wrap (IntKind.u64.wrap ((x : Int) - (y : Int)) - (c : Int)) = ((subLo x y c : Nat) : Int) := by
  rw [IntKind.wrap_u64, IntKind.wrap_u64]; unfold subLo W at *; omega
end Go.Proofs.YtpggmebgndkpjaaDoor
