/- Part 1 of what the proof of AuditRejects needs: joined out of the texts of this seat, only what is used. -/
import Derived.WalkKit
import Derived.Laws.BitsAllLaws
import Derived.Lib.Hide
import Derived.StillTail
import Derived.Deep.Quiet
import Derived.KernelRfl
import Derived.Deep.Draws
import Derived.OrdersHeld
import Derived.OrdersIn
import Derived.RangeFuncNested
import Derived.RangeFuncBound
import Derived.RangeFuncCalls
import Derived.RangeFuncLeaves
import Derived.RangeFuncBox
import Derived.RangeFuncFrom
import Derived.Shelf.Abstract
import Derived.Shelf.RegionOpen
import Derived.OwnWalkIn
import Derived.TacticsInMore
import Derived.LoopNIn
import Derived.LoopIn
import Derived.Maps.AppendAt
import Derived.Test.YtdnkkbmpefhbjaaGreatDoorProg
import Derived.Test.YtdnkkbmpefhbjaaGreatDoorShelf
import Derived.WalkLawsBesides
import Derived.WalkSpells
import Derived.Deep.DeepFit
import Derived.Deep.RegionHeld3
import Derived.Deep.QuietTactic
import Derived.BigQuiet
import Derived.Laws.Rows
import Derived.Laws.Cover3
namespace Go.Proofs.YtdnkkbmpefhbjaaGreatDoor
open Go Go.RowKit
theorem wR {F : Fence} {n : Nat} {P : Program} {Q : Exit → Act → World → Prop} {a : Act} {w : World} {id : Nat} {l : List Oper} (h : wpListIn F n P l.toArray Q l a w) : Code.wpIn F n P (Code.region id l.toArray false) Q a w := wpIn_region_lit h
theorem wS {F : Fence} {n : Nat} {P : Program} {Q : Exit → Act → World → Prop} {a : Act} {w : World} {x y : Code} (h : Code.wpIn F n P x (Exit.then (Code.wpIn F n P y Q) Q) a w) : Code.wpIn F n P (x.seq y) Q a w := wpIn_seq h
theorem sA {α : Type} (l : List α) (i : Nat) (a : α) : l.toArray.setIfInBounds i a = (l.set i a).toArray := by simp
theorem sB {α : Type} (a b : α) (l : List α) : (a :: l).set 0 b = b :: l := rfl
theorem sC {α : Type} (a b : α) (l : List α) (n : Nat) : (a :: l).set (n + 1) b = a :: l.set n b := rfl
theorem sD {α : Type} (a : α) (l : List α) : (a :: l).tail = l := rfl
end Go.Proofs.YtdnkkbmpefhbjaaGreatDoor
namespace Go.Proofs.YtdnkkbmpefhbjaaGreatDoor
set_option linter.all false
open Go.RowKit
/-- 2^64. -/
def W : Nat := 18446744073709551616
theorem W_pos : 0 < W := by decide
/-- Digit number k of n in base 2^64. -/
def dg (k n : Nat) : Nat := n / W ^ k % W
theorem dg_lt (k n : Nat) : dg k n < W := Nat.mod_lt _ W_pos
/-- 2^256. -/
def R4 : Nat := W ^ 4
/-- A vector as a value of Go: four words. -/
abbrev vec (n : Nat) : Value := .agg #[.int .u64 ((dg 0 n : Nat) : Int), .int .u64 ((dg 1 n : Nat) : Int), .int .u64 ((dg 2 n : Nat) : Int), .int .u64 ((dg 3 n : Nat) : Int)]
/-- The number of four words. -/
def val4 (a b c d : Nat) : Nat := a + b * W + c * W ^ 2 + d * W ^ 3
theorem dg0_val {a b c d : Nat} (ha : a < W) : dg 0 (val4 a b c d) = a := by
  unfold dg val4 W at *; omega
theorem dg1_val {a b c d : Nat} (ha : a < W) (hb : b < W) : dg 1 (val4 a b c d) = b := by
  unfold dg val4 W at *; omega
theorem dg2_val {a b c d : Nat} (ha : a < W) (hb : b < W) (hc : c < W) : dg 2 (val4 a b c d) = c := by
  unfold dg val4 W at *; omega
theorem dg3_val {a b c d : Nat} (ha : a < W) (hb : b < W) (hc : c < W) (hd : d < W) : dg 3 (val4 a b c d) = d := by
  unfold dg val4 W at *; omega
theorem val4_dg {n : Nat} (h : n < R4) : val4 (dg 0 n) (dg 1 n) (dg 2 n) (dg 3 n) = n := by
  unfold R4 dg val4 W at *; omega
theorem val4_lt {a b c d : Nat} (ha : a < W) (hb : b < W) (hc : c < W) (hd : d < W) : val4 a b c d < R4 := by
  unfold R4 val4 W at *; omega
/-- Four words are the vector of their number. -/
theorem vec_val4 {a b c d : Nat} (ha : a < W) (hb : b < W) (hc : c < W) (hd : d < W) :
    vec (val4 a b c d) = .agg #[.int .u64 (a : Int), .int .u64 (b : Int), .int .u64 (c : Int), .int .u64 (d : Int)] := by
  unfold vec; rw [dg0_val ha, dg1_val ha hb, dg2_val ha hb hc, dg3_val ha hb hc hd]
theorem vec_inj {a b : Nat} (ha : a < R4) (hb : b < R4) (h : vec a = vec b) : a = b := by
  unfold vec at h
  simp only [Value.agg.injEq, Array.mk.injEq, List.cons.injEq, Value.int.injEq, true_and, and_true, Int.natCast_inj] at h
  rw [← val4_dg ha, ← val4_dg hb, h.1, h.2.1, h.2.2.1, h.2.2.2]
/-- The mask of a bit. -/
def mb (x : Nat) : Nat := if x % 2 = 1 then W - 1 else 0
theorem mb_lt (x : Nat) : mb x < W := by unfold mb W; split <;> omega
theorem fromBit_val {x : Nat} (hx : x < W) : IntKind.u64.wrap (-bits BinOp.and IntKind.u64 (x : Int) 1) = ((mb x : Nat) : Int) := by
  have h : bits BinOp.and IntKind.u64 (x : Int) 1 = ((x &&& 1 : Nat) : Int) := u64_and_nat x 1 hx (by decide)
  rw [h, nat_mask1, IntKind.wrap_u64]
  unfold mb W
  split <;> omega
theorem xor_lt_W {a b : Nat} (ha : a < W) (hb : b < W) : a ^^^ b < W := Nat.xor_lt_two_pow (n := 64) ha hb
theorem and_lt_W {a b : Nat} (ha : a < W) : a &&& b < W := Nat.lt_of_le_of_lt Nat.and_le_left ha
theorem or_lt_W {a b : Nat} (ha : a < W) (hb : b < W) : a ||| b < W := Nat.or_lt_two_pow (n := 64) ha hb
/-- Choose by a mask that is all ones or zero. -/
theorem choose_mask {s a b : Nat} (ha : a < W) (hb : b < W) : b ^^^ (mb s &&& (a ^^^ b)) = if s % 2 = 1 then a else b := by
  unfold mb
  split
  · have h : (W - 1) &&& (a ^^^ b) = a ^^^ b := by
      have h1 : W - 1 = 2 ^ 64 - 1 := by decide
      rw [h1, Nat.and_comm, Nat.and_two_pow_sub_one_eq_mod]
      exact Nat.mod_eq_of_lt (Nat.xor_lt_two_pow (n := 64) ha hb)
    rw [h, Nat.xor_comm a b, ← Nat.xor_assoc, Nat.xor_self, Nat.zero_xor]
  · simp
/-- One of two words. -/
def sel (s a b : Nat) : Nat := if s % 2 = 1 then a else b
theorem sel_vec (s a b : Nat) : vec (sel s a b) = .agg #[.int .u64 ((sel s (dg 0 a) (dg 0 b) : Nat) : Int), .int .u64 ((sel s (dg 1 a) (dg 1 b) : Nat) : Int), .int .u64 ((sel s (dg 2 a) (dg 2 b) : Nat) : Int), .int .u64 ((sel s (dg 3 a) (dg 3 b) : Nat) : Int)] := by
  unfold vec sel; split <;> rfl
theorem choose_val {s a b : Nat} (ha : a < W) (hb : b < W) :
    bits BinOp.xor IntKind.u64 (b : Int) (bits BinOp.and IntKind.u64 ((mb s : Nat) : Int) (bits BinOp.xor IntKind.u64 (a : Int) (b : Int))) = ((sel s a b : Nat) : Int) := by
  unfold sel
  rw [u64_xor_nat a b ha hb, u64_and_nat _ _ (mb_lt s) (xor_lt_W ha hb), u64_xor_nat _ _ hb (and_lt_W (mb_lt s)), choose_mask ha hb]
/-- The words of math/bits: named, so that a walk does not open them. -/
def addLo (x y c : Nat) : Nat := (x + y + c) % W
def addHi (x y c : Nat) : Nat := (x + y + c) / W
def subLo (x y c : Nat) : Nat := (x + W - y - c) % W
def subHi (x y c : Nat) : Nat := if x < y + c then 1 else 0
def mulHi (x y : Nat) : Nat := x * y / W
def mulLo (x y : Nat) : Nat := x * y % W
def maHi (a b c d : Nat) : Nat := (a * b + c + d) / W
def maLo (a b c d : Nat) : Nat := (a * b + c + d) % W
theorem addLo_lt (x y c : Nat) : addLo x y c < W := Nat.mod_lt _ W_pos
theorem addHi_le {x y c : Nat} (hx : x < W) (hy : y < W) (hc : c ≤ 1) : addHi x y c ≤ 1 := by unfold addHi W at *; omega
theorem subLo_lt (x y c : Nat) : subLo x y c < W := Nat.mod_lt _ W_pos
theorem subHi_le (x y c : Nat) : subHi x y c ≤ 1 := by unfold subHi; split <;> omega
theorem add_eq (x y c : Nat) : addLo x y c + addHi x y c * W = x + y + c := by unfold addLo addHi W; omega
theorem sub_eq {x y c : Nat} (hx : x < W) (hy : y < W) (hc : c ≤ 1) : subLo x y c + y + c = x + subHi x y c * W := by
  unfold subLo subHi W at *; split <;> omega
theorem mulLo_lt (x y : Nat) : mulLo x y < W := Nat.mod_lt _ W_pos
theorem mul_lt {x y : Nat} (hx : x < W) (hy : y < W) : x * y ≤ (W - 1) * (W - 1) := Nat.mul_le_mul (by omega) (by omega)
theorem maLo_lt (a b c d : Nat) : maLo a b c d < W := Nat.mod_lt _ W_pos
theorem maHi_lt {a b c d : Nat} (ha : a < W) (hb : b < W) (hc : c < W) (hd : d < W) : maHi a b c d < W := by
  have := mul_lt ha hb
  unfold maHi; rw [Nat.div_lt_iff_lt_mul W_pos]; unfold W at *; omega
theorem ma_eq (a b c d : Nat) : maLo a b c d + maHi a b c d * W = a * b + c + d := by
  unfold maLo maHi; rw [Nat.mul_comm _ W]; exact Nat.mod_add_div _ _
/-- What multiplyAdd computes. -/
theorem ma_lo {a b c d : Nat} : addLo (addLo (mulLo a b) c 0) d 0 = maLo a b c d := by
  unfold addLo mulLo maLo
  simp only [Nat.add_zero, Nat.mod_add_mod]
theorem ma_hi {a b c d : Nat} (ha : a < W) (hb : b < W) (hc : c < W) (hd : d < W) :
    IntKind.u64.wrap (IntKind.u64.wrap ((mulHi a b : Nat) + (addHi (mulLo a b) c 0 : Nat)) + (addHi (addLo (mulLo a b) c 0) d 0 : Nat)) = ((maHi a b c d : Nat) : Int) := by
  have h1 := mul_lt ha hb
  have h2 := maHi_lt ha hb hc hd
  have e : mulHi a b + addHi (mulLo a b) c 0 + addHi (addLo (mulLo a b) c 0) d 0 = maHi a b c d := by
    unfold mulHi mulLo addHi addLo maHi at *
    generalize a * b = m at *
    unfold W at *; omega
  have e' : ((mulHi a b : Nat) : Int) + (addHi (mulLo a b) c 0 : Nat) + (addHi (addLo (mulLo a b) c 0) d 0 : Nat) = (maHi a b c d : Nat) := by
    rw [← e]; simp
  have h3 : ((maHi a b c d : Nat) : Int) < 18446744073709551616 := by unfold W at h2; omega
  rw [IntKind.wrap_u64, IntKind.wrap_u64, Int.emod_add_emod, e']
  exact Int.emod_eq_of_lt (by omega) h3
/-- Sum and difference of vectors, with carry and borrow. -/
def addV (a b : Nat) : Nat := (a + b) % R4
def addC (a b : Nat) : Nat := (a + b) / R4
def subV (a b : Nat) : Nat := (a + R4 - b) % R4
def subC (a b : Nat) : Nat := if a < b then 1 else 0
/-- A number with a carry, less m if it is not less. -/
def rdc (m a c : Nat) : Nat := if a < m ∧ c % 2 = 0 then a else subV a m
/-- The mask of the first case. -/
def rdm (m a c : Nat) : Nat := mb (subC a m) &&& (W - 1 - mb c)
theorem rdc_val (m a c : Nat) : bits BinOp.andNot IntKind.u64 ((mb (subC a m) : Nat) : Int) ((mb c : Nat) : Int) = ((rdm m a c : Nat) : Int) ∧ rdm m a c < W ∧ sel (rdm m a c) a (subV a m) = rdc m a c := by
  refine ⟨u64_andNot_nat _ _ (mb_lt _) (mb_lt _), Nat.lt_of_le_of_lt Nat.and_le_left (mb_lt _), ?_⟩
  have h : rdm m a c % 2 = 1 ↔ (a < m ∧ c % 2 = 0) := by
    unfold rdm mb subC
    by_cases h1 : a < m <;> by_cases h2 : c % 2 = 1
    · simp [h1, h2]
    · have h3 : c % 2 = 0 := by omega
      simp only [h1, if_true, h3]
      decide
    · simp [h1]
    · simp [h1]
  unfold sel rdc
  by_cases hc : a < m ∧ c % 2 = 0
  · rw [if_pos (h.2 hc), if_pos hc]
  · rw [if_neg (fun e => hc (h.1 e)), if_neg hc]
theorem addV_lt (a b : Nat) : addV a b < R4 := Nat.mod_lt _ (by decide)
theorem subV_lt (a b : Nat) : subV a b < R4 := Nat.mod_lt _ (by decide)
theorem subC_le (a b : Nat) : subC a b ≤ 1 := by unfold subC; split <;> omega
theorem subC_lt (a b : Nat) : subC a b < W := Nat.lt_of_le_of_lt (subC_le a b) (by decide)
theorem addC_lt {a b : Nat} (ha : a < R4) (hb : b < R4) : addC a b < W := by unfold addC R4 W at *; omega
/-- The carries and the words of a chain. -/
def chC1 (hi : Nat → Nat → Nat → Nat) (a b : Nat) : Nat := hi (dg 0 a) (dg 0 b) 0
def chC2 (hi : Nat → Nat → Nat → Nat) (a b : Nat) : Nat := hi (dg 1 a) (dg 1 b) (chC1 hi a b)
def chC3 (hi : Nat → Nat → Nat → Nat) (a b : Nat) : Nat := hi (dg 2 a) (dg 2 b) (chC2 hi a b)
def chC (hi : Nat → Nat → Nat → Nat) (a b : Nat) : Nat := hi (dg 3 a) (dg 3 b) (chC3 hi a b)
def chV (lo hi : Nat → Nat → Nat → Nat) (a b : Nat) : Nat := val4 (lo (dg 0 a) (dg 0 b) 0) (lo (dg 1 a) (dg 1 b) (chC1 hi a b)) (lo (dg 2 a) (dg 2 b) (chC2 hi a b)) (lo (dg 3 a) (dg 3 b) (chC3 hi a b))
theorem chain_add {a b : Nat} (ha : a < R4) (hb : b < R4) : chV addLo addHi a b = addV a b ∧ chC addHi a b = addC a b := by
  have ea := val4_dg ha
  have eb := val4_dg hb
  have h0 := add_eq (dg 0 a) (dg 0 b) 0
  have h1 := add_eq (dg 1 a) (dg 1 b) (chC1 addHi a b)
  have h2 := add_eq (dg 2 a) (dg 2 b) (chC2 addHi a b)
  have h3 := add_eq (dg 3 a) (dg 3 b) (chC3 addHi a b)
  have l := val4_lt (addLo_lt (dg 0 a) (dg 0 b) 0) (addLo_lt (dg 1 a) (dg 1 b) (chC1 addHi a b)) (addLo_lt (dg 2 a) (dg 2 b) (chC2 addHi a b)) (addLo_lt (dg 3 a) (dg 3 b) (chC3 addHi a b))
  rw [show addHi (dg 0 a) (dg 0 b) 0 = chC1 addHi a b from rfl] at h0
  rw [show addHi (dg 1 a) (dg 1 b) (chC1 addHi a b) = chC2 addHi a b from rfl] at h1
  rw [show addHi (dg 2 a) (dg 2 b) (chC2 addHi a b) = chC3 addHi a b from rfl] at h2
  rw [show addHi (dg 3 a) (dg 3 b) (chC3 addHi a b) = chC addHi a b from rfl] at h3
  have e : chV addLo addHi a b + chC addHi a b * R4 = a + b := by
    unfold chV
    unfold val4 at *
    unfold R4 W at *
    omega
  have hl : chV addLo addHi a b < R4 := l
  unfold addV addC
  rw [← e]
  constructor
  · rw [Nat.add_mul_mod_self_right, Nat.mod_eq_of_lt hl]
  · rw [Nat.add_mul_div_right _ _ (by decide), Nat.div_eq_of_lt hl, Nat.zero_add]
theorem chain_sub {a b : Nat} (ha : a < R4) (hb : b < R4) : chV subLo subHi a b = subV a b ∧ chC subHi a b = subC a b := by
  have ea := val4_dg ha
  have eb := val4_dg hb
  have c1 : chC1 subHi a b ≤ 1 := subHi_le _ _ _
  have c2 : chC2 subHi a b ≤ 1 := subHi_le _ _ _
  have c3 : chC3 subHi a b ≤ 1 := subHi_le _ _ _
  have c4 : chC subHi a b ≤ 1 := subHi_le _ _ _
  have h0 := sub_eq (dg_lt 0 a) (dg_lt 0 b) (Nat.zero_le 1)
  have h1 := sub_eq (dg_lt 1 a) (dg_lt 1 b) c1
  have h2 := sub_eq (dg_lt 2 a) (dg_lt 2 b) c2
  have h3 := sub_eq (dg_lt 3 a) (dg_lt 3 b) c3
  have l := val4_lt (subLo_lt (dg 0 a) (dg 0 b) 0) (subLo_lt (dg 1 a) (dg 1 b) (chC1 subHi a b)) (subLo_lt (dg 2 a) (dg 2 b) (chC2 subHi a b)) (subLo_lt (dg 3 a) (dg 3 b) (chC3 subHi a b))
  rw [show subHi (dg 0 a) (dg 0 b) 0 = chC1 subHi a b from rfl] at h0
  rw [show subHi (dg 1 a) (dg 1 b) (chC1 subHi a b) = chC2 subHi a b from rfl] at h1
  rw [show subHi (dg 2 a) (dg 2 b) (chC2 subHi a b) = chC3 subHi a b from rfl] at h2
  rw [show subHi (dg 3 a) (dg 3 b) (chC3 subHi a b) = chC subHi a b from rfl] at h3
  have e : chV subLo subHi a b + b = a + chC subHi a b * R4 := by
    unfold chV
    unfold val4 at *
    unfold R4 W at *
    omega
  have hl : chV subLo subHi a b < R4 := l
  unfold subV subC
  have c4' : chC subHi a b = 0 ∨ chC subHi a b = 1 := by omega
  rcases c4' with c | c <;> rw [c] at e ⊢ <;> unfold R4 W at * <;> constructor <;> (try split) <;> omega
theorem wrap_mul (x y : Nat) : IntKind.u64.wrap ((x : Int) * (y : Int)) = ((mulLo x y : Nat) : Int) := by
  rw [IntKind.wrap_u64]; unfold mulLo W; simp
theorem wrap_add (x y : Nat) : IntKind.u64.wrap ((x : Int) + (y : Int)) = ((addLo x y 0 : Nat) : Int) := by
  rw [IntKind.wrap_u64]; unfold addLo W; simp
/-- One round of the Montgomery product. -/
theorem mont_round {p n a b t0 t1 t2 t3 t4 c1 c2 c3 c4 u0 u1 u2 u3 u4 u5 m d1 d2 d3 d4 v0 v1 v2 v3 k v4 : Nat}
    (ha : a < R4) (hp : p < R4) (hn : (n * dg 0 p + 1) % W = 0) (hb : b < W)
    (h4 : t4 ≤ 1) (l0 : t0 < W) (l1 : t1 < W) (l2 : t2 < W) (l3 : t3 < W)
    (hc1 : maHi (dg 0 a) b t0 0 = c1) (hu0 : maLo (dg 0 a) b t0 0 = u0)
    (hc2 : maHi (dg 1 a) b t1 c1 = c2) (hu1 : maLo (dg 1 a) b t1 c1 = u1)
    (hc3 : maHi (dg 2 a) b t2 c2 = c3) (hu2 : maLo (dg 2 a) b t2 c2 = u2)
    (hc4 : maHi (dg 3 a) b t3 c3 = c4) (hu3 : maLo (dg 3 a) b t3 c3 = u3)
    (hu4 : addLo t4 c4 0 = u4) (hu5 : addHi t4 c4 0 = u5) (hm : mulLo u0 n = m)
    (hd1 : maHi m (dg 0 p) u0 0 = d1)
    (hd2 : maHi m (dg 1 p) u1 d1 = d2) (hv0 : maLo m (dg 1 p) u1 d1 = v0)
    (hd3 : maHi m (dg 2 p) u2 d2 = d3) (hv1 : maLo m (dg 2 p) u2 d2 = v1)
    (hd4 : maHi m (dg 3 p) u3 d3 = d4) (hv2 : maLo m (dg 3 p) u3 d3 = v2)
    (hv3 : addLo u4 d4 0 = v3) (hk : addHi u4 d4 0 = k) (hv4 : addLo u5 k 0 = v4) :
    (v0 + v1 * W + v2 * W ^ 2 + v3 * W ^ 3 + v4 * W ^ 4) * W = (t0 + t1 * W + t2 * W ^ 2 + t3 * W ^ 3 + t4 * W ^ 4) + a * b + m * p ∧ m < W := by
  have e1 := ma_eq (dg 0 a) b t0 0
  have e2 := ma_eq (dg 1 a) b t1 c1
  have e3 := ma_eq (dg 2 a) b t2 c2
  have e4 := ma_eq (dg 3 a) b t3 c3
  have bc1 := maHi_lt (dg_lt 0 a) hb l0 W_pos
  rw [hc1] at bc1
  have bc2 := maHi_lt (dg_lt 1 a) hb l1 bc1
  rw [hc2] at bc2
  have bc3 := maHi_lt (dg_lt 2 a) hb l2 bc2
  rw [hc3] at bc3
  have bc4 := maHi_lt (dg_lt 3 a) hb l3 bc3
  rw [hc4] at bc4
  have e5 := add_eq t4 c4 0
  have f1 := ma_eq m (dg 0 p) u0 0
  have f2 := ma_eq m (dg 1 p) u1 d1
  have f3 := ma_eq m (dg 2 p) u2 d2
  have f4 := ma_eq m (dg 3 p) u3 d3
  have f5 := add_eq u4 d4 0
  have z : maLo m (dg 0 p) u0 0 = 0 := by
    subst hm
    unfold maLo mulLo
    have : (u0 * n % W * dg 0 p + u0 + 0) % W = (u0 * ((n * dg 0 p + 1) % W)) % W := by
      rw [Nat.mul_mod_mod, Nat.add_zero, ← Nat.mod_add_mod, Nat.mod_mul_mod, Nat.mod_add_mod]
      congr 1
      rw [Nat.mul_add, Nat.mul_one, Nat.mul_assoc]
    rw [this, hn, Nat.mul_zero, Nat.zero_mod]
  have hmlt : m < W := by rw [← hm]; exact mulLo_lt _ _
  have bu0 : u0 < W := by rw [← hu0]; exact maLo_lt _ _ _ _
  have bu1 : u1 < W := by rw [← hu1]; exact maLo_lt _ _ _ _
  have bu2 : u2 < W := by rw [← hu2]; exact maLo_lt _ _ _ _
  have bu3 : u3 < W := by rw [← hu3]; exact maLo_lt _ _ _ _
  have bd1 := maHi_lt hmlt (dg_lt 0 p) bu0 W_pos
  rw [hd1] at bd1
  have bd2 := maHi_lt hmlt (dg_lt 1 p) bu1 bd1
  rw [hd2] at bd2
  have bd3 := maHi_lt hmlt (dg_lt 2 p) bu2 bd2
  rw [hd3] at bd3
  have bd4 := maHi_lt hmlt (dg_lt 3 p) bu3 bd3
  rw [hd4] at bd4
  have bu4 : u4 < W := by rw [← hu4]; exact addLo_lt _ _ _
  have bu5 : u5 ≤ 1 := by
    rw [← hu5]; unfold addHi W at *; omega
  have bk : k ≤ 1 := by rw [← hk]; exact addHi_le bu4 bd4 (Nat.zero_le _)
  have g5 : v4 = u5 + k := by rw [← hv4]; unfold addLo W; omega
  rw [hc1, hu0] at e1
  rw [hc2, hu1] at e2
  rw [hc3, hu2] at e3
  rw [hc4, hu3] at e4
  rw [hu4, hu5] at e5
  rw [hd1, z] at f1
  rw [hd2, hv0] at f2
  rw [hd3, hv1] at f3
  rw [hd4, hv2] at f4
  rw [hv3, hk] at f5
  refine ⟨?_, hmlt⟩
  have ea : a * b = dg 0 a * b + dg 1 a * b * W + dg 2 a * b * W ^ 2 + dg 3 a * b * W ^ 3 := by
    have := val4_dg ha
    conv => lhs; rw [← this]
    unfold val4
    simp only [Nat.add_mul]
    rw [Nat.mul_right_comm (dg 1 a), Nat.mul_right_comm (dg 2 a), Nat.mul_right_comm (dg 3 a)]
  have ep : m * p = m * dg 0 p + m * dg 1 p * W + m * dg 2 p * W ^ 2 + m * dg 3 p * W ^ 3 := by
    have := val4_dg hp
    conv => lhs; rw [← this]
    unfold val4
    simp only [Nat.mul_add, Nat.mul_assoc]
  rw [ea, ep, g5]
  generalize dg 0 a * b = x0 at *
  generalize dg 1 a * b = x1 at *
  generalize dg 2 a * b = x2 at *
  generalize dg 3 a * b = x3 at *
  generalize m * dg 0 p = y0 at *
  generalize m * dg 1 p = y1 at *
  generalize m * dg 2 p = y2 at *
  generalize m * dg 3 p = y3 at *
  clear hc1 hc2 hc3 hc4 hd1 hd2 hd3 hd4 hu0 hu1 hu2 hu3 hu4 hu5 hv0 hv1 hv2 hv3 hv4 hk hm ea ep hn z ha hp
  unfold W at *
  omega
/-- The number of five words. -/
def V5 (a b c d e : Nat) : Nat := a + b * W + c * W ^ 2 + d * W ^ 3 + e * W ^ 4
/-- What holds behind i rounds of the Montgomery product. -/
def MI (p a b i T : Nat) : Prop := T < a + p ∧ ∃ M, T * W ^ i = a * (b % W ^ i) + M * p ∧ M < W ^ i
theorem MI_zero {p : Nat} (hp : 0 < p) (a b : Nat) : MI p a b 0 (V5 0 0 0 0 0) :=
  ⟨by unfold V5; omega, 0, by simp [V5, Nat.mod_one], by simp⟩
theorem mod_succ (b i : Nat) : b % W ^ (i + 1) = b % W ^ i + dg i b * W ^ i := by
  unfold dg
  rw [Nat.pow_succ, Nat.mod_mul, Nat.mul_comm (W ^ i)]
theorem MI_step {p a b i T T' m : Nat} (h : MI p a b i T) (hm : m < W) (he : T' * W = T + a * dg i b + m * p) : MI p a b (i + 1) T' := by
  obtain ⟨h1, M, h2, h3⟩ := h
  refine ⟨?_, M + m * W ^ i, ?_, ?_⟩
  · have hb := dg_lt i b
    have k1 : a * dg i b ≤ a * (W - 1) := Nat.mul_le_mul_left _ (by omega)
    have k2 : m * p ≤ (W - 1) * p := Nat.mul_le_mul_right _ (by omega)
    have k3 : (a + p) * W = (a + p) + a * (W - 1) + (W - 1) * p := by
      have : W = (W - 1) + 1 := by have := W_pos; omega
      generalize W - 1 = V at *
      rw [this, Nat.mul_add, Nat.mul_one, Nat.add_mul, Nat.mul_comm p V]; omega
    have : T' * W < (a + p) * W := by omega
    exact Nat.lt_of_mul_lt_mul_right this
  · rw [mod_succ, Nat.pow_succ, Nat.mul_comm (W ^ i) W, ← Nat.mul_assoc, he, Nat.add_mul, Nat.add_mul, h2, Nat.mul_add, Nat.add_mul, Nat.mul_assoc a, Nat.mul_right_comm m p]
    omega
  · rw [Nat.pow_succ]
    have k : m * W ^ i ≤ (W - 1) * W ^ i := Nat.mul_le_mul_right _ (by omega)
    have k2 : W ^ i * W = W ^ i + (W - 1) * W ^ i := by
      have : W = (W - 1) + 1 := by have := W_pos; omega
      rw [Nat.mul_comm (W ^ i) W]
      generalize W ^ i = X at *
      generalize W - 1 = V at *
      rw [this, Nat.add_mul, Nat.one_mul]; omega
    omega
theorem V5_top {a b c d e : Nat} (h : V5 a b c d e < 2 * R4) : e ≤ 1 := by unfold V5 R4 W at *; omega
theorem MI_top {p a b i v0 v1 v2 v3 v4 : Nat} (ha : a < R4) (hp : p < R4) (h : MI p a b i (V5 v0 v1 v2 v3 v4)) : v4 ≤ 1 :=
  V5_top (a := v0) (b := v1) (c := v2) (d := v3) (by have := h.1; omega)
/-- What the last step gives: T mod p. -/
theorem rdc_mod {p v0 v1 v2 v3 v4 : Nat} (hp : 0 < p) (hR : p < R4) (l0 : v0 < W) (l1 : v1 < W) (l2 : v2 < W) (l3 : v3 < W) (h : V5 v0 v1 v2 v3 v4 < 2 * p) :
    rdc p (val4 v0 v1 v2 v3) v4 = V5 v0 v1 v2 v3 v4 % p := by
  have hv := val4_lt l0 l1 l2 l3
  have e : V5 v0 v1 v2 v3 v4 = val4 v0 v1 v2 v3 + v4 * R4 := by unfold V5 val4 R4; rfl
  rw [e] at h ⊢
  generalize val4 v0 v1 v2 v3 = V at *
  have h4 : v4 = 0 ∨ v4 = 1 := by
    have : v4 * R4 < 2 * R4 := by omega
    have := Nat.lt_of_mul_lt_mul_right this
    omega
  unfold rdc subV
  have m2 : ∀ x, p ≤ x → x < 2 * p → x % p = x - p := fun x h1 h2 => by rw [Nat.mod_eq_sub_mod h1, Nat.mod_eq_of_lt (by omega)]
  rcases h4 with rfl | rfl
  · rw [Nat.zero_mul, Nat.add_zero] at h ⊢
    by_cases hlt : V < p
    · rw [if_pos ⟨hlt, rfl⟩, Nat.mod_eq_of_lt hlt]
    · rw [if_neg (fun hh => hlt hh.1), m2 V (by omega) h, show V + R4 - p = (V - p) + R4 by omega, Nat.add_mod_right, Nat.mod_eq_of_lt (by omega)]
  · rw [Nat.one_mul] at h ⊢
    rw [if_neg (fun hh => by simp at hh), m2 (V + R4) (by omega) h, Nat.mod_eq_of_lt (by omega)]
theorem MI_end {p a b r v0 v1 v2 v3 v4 : Nat} (hp : 0 < p) (hR : p < R4) (hb : b < R4) (hr : R4 * r % p = 1 % p) (hab : a * b < R4 * p) (l0 : v0 < W) (l1 : v1 < W) (l2 : v2 < W) (l3 : v3 < W)
    (h : MI p a b 4 (V5 v0 v1 v2 v3 v4)) : rdc p (val4 v0 v1 v2 v3) v4 = a * b * r % p := by
  obtain ⟨_, M, h2, h3⟩ := h
  generalize hT : V5 v0 v1 v2 v3 v4 = T at *
  rw [Nat.mod_eq_of_lt (show b < W ^ 4 from hb)] at h2
  have hlt : T < 2 * p := by
    have k : M * p < W ^ 4 * p := Nat.mul_lt_mul_of_pos_right h3 hp
    have : T * R4 < 2 * p * R4 := by
      rw [show T * R4 = T * W ^ 4 from rfl, h2]
      have e : 2 * p * R4 = R4 * p + W ^ 4 * p := by
        rw [show W ^ 4 = R4 from rfl, Nat.mul_comm 2 p, Nat.mul_assoc, Nat.mul_comm R4 p, ← Nat.mul_add]; congr 1
      omega
    exact Nat.lt_of_mul_lt_mul_right this
  rw [rdc_mod hp hR l0 l1 l2 l3 (by rw [hT]; exact hlt), hT]
  have e : a * b * r + M * p * r = T * (R4 * r) := by
    rw [← Nat.add_mul, ← h2, show W ^ 4 = R4 from rfl, Nat.mul_assoc]
  have e2 : (a * b * r + M * p * r) % p = a * b * r % p := by
    rw [Nat.mul_right_comm M p r, Nat.add_mul_mod_self_right]
  rw [← e2, e, Nat.mul_mod, hr, Nat.mul_mod_mod, Nat.mul_one, Nat.mod_mod]
/-- The carry in front of digit k. -/
def cyc (hi : Nat → Nat → Nat → Nat) (a b : Nat) : Nat → Nat
  | 0 => 0
  | k + 1 => hi (dg k a) (dg k b) (cyc hi a b k)
theorem cyc_add_le (a b k : Nat) : cyc addHi a b k ≤ 1 := by
  cases k with
  | zero => exact Nat.zero_le _
  | succ k =>
    induction k with
    | zero => exact addHi_le (dg_lt _ _) (dg_lt _ _) (Nat.zero_le _)
    | succ k ih => exact addHi_le (dg_lt _ _) (dg_lt _ _) ih
theorem cyc_sub_le (a b k : Nat) : cyc subHi a b k ≤ 1 := by
  cases k with
  | zero => exact Nat.zero_le _
  | succ k => exact subHi_le _ _ _
/-- Word j of the result when k words are done. -/
def ow (lo hi : Nat → Nat → Nat → Nat) (a b j k : Nat) : Nat := if j < k then lo (dg j a) (dg j b) (cyc hi a b j) else 0
abbrev ows (lo hi : Nat → Nat → Nat → Nat) (a b k : Nat) : List Value := [.int .u64 ((ow lo hi a b 0 k : Nat) : Int), .int .u64 ((ow lo hi a b 1 k : Nat) : Int), .int .u64 ((ow lo hi a b 2 k : Nat) : Int), .int .u64 ((ow lo hi a b 3 k : Nat) : Int)]
theorem ow_set {lo hi : Nat → Nat → Nat → Nat} {a b k v : Nat} (hk : k < 4) (hv : v = lo (dg k a) (dg k b) (cyc hi a b k)) :
    (ows lo hi a b k).set k (.int .u64 (v : Int)) = ows lo hi a b (k + 1) := by
  subst hv
  rcases k with _ | _ | _ | _ | k <;> first | omega | simp [ows, ow]
theorem ow_vec {lo hi : Nat → Nat → Nat → Nat} (hlo : ∀ x y c, lo x y c < W) (a b : Nat) : vec (chV lo hi a b) = .agg (ows lo hi a b 4).toArray := by
  unfold chV
  rw [vec_val4 (hlo _ _ _) (hlo _ _ _) (hlo _ _ _) (hlo _ _ _)]
  rfl
/-- One digit of the reference's sum. -/
theorem sum_lo (x y c : Nat) : addLo (addLo x c 0) y 0 = addLo x y c := by
  unfold addLo; simp only [Nat.add_zero, Nat.mod_add_mod]; congr 1; omega
theorem sum_hi {x y c : Nat} (hx : x < W) (hy : y < W) (hc : c ≤ 1) : addHi x y c = if addLo x c 0 < c ∨ addLo x y c < addLo x c 0 then 1 else 0 := by
  unfold addHi addLo W at *
  split <;> omega
theorem sum_one {x y c : Nat} (hx : x < W) (hy : y < W) (hc : c ≤ 1) (h : addLo x c 0 < c ∨ addLo (addLo x c 0) y 0 < addLo x c 0) : addHi x y c = 1 := by
  rw [sum_lo] at h; rw [sum_hi hx hy hc, if_pos h]
theorem sum_zero {x y c : Nat} (hx : x < W) (hy : y < W) (hc : c ≤ 1) (h1 : c ≤ addLo x c 0) (h2 : addLo x c 0 ≤ addLo (addLo x c 0) y 0) : addHi x y c = 0 := by
  rw [sum_lo] at h2; rw [sum_hi hx hy hc, if_neg (by omega)]
theorem sub_one {x y c : Nat} (h : x < y + c) : subHi x y c = 1 := by unfold subHi; exact if_pos h
theorem sub_zero {x y c : Nat} (h : y + c ≤ x) : subHi x y c = 0 := by unfold subHi; exact if_neg (by omega)
theorem eq_facts {x y : Nat} (h : x = y) : (((x : Nat) : Int) == ((y : Nat) : Int)) = true ∧ (x == y) = true ∧ decide (x = y) = true := by subst h; simp
theorem ne_facts {x y : Nat} (h : x ≠ y) : (((x : Nat) : Int) == ((y : Nat) : Int)) = false ∧ (x == y) = false ∧ decide (x = y) = false := by
  refine ⟨?_, ?_, ?_⟩
  · rw [beq_eq_false_iff_ne]; omega
  · rw [beq_eq_false_iff_ne]; exact h
  · exact decide_eq_false h
theorem eq1_facts {x : Nat} (h : x = 1) : (((x : Nat) : Int) == 1) = true ∧ (x == 1) = true ∧ decide (x = 1) = true := by subst h; simp
theorem ne1_facts {x : Nat} (h : x = 0) : (((x : Nat) : Int) == 1) = false ∧ (x == 1) = false ∧ decide (x = 1) = false := by subst h; simp
theorem chC_cyc (hi : Nat → Nat → Nat → Nat) (a b : Nat) : chC hi a b = cyc hi a b 4 := rfl
theorem cyc_succ (hi : Nat → Nat → Nat → Nat) (a b k : Nat) : cyc hi a b (k + 1) = hi (dg k a) (dg k b) (cyc hi a b k) := rfl
theorem wrap_sub (x y c : Nat) (hx : x < W) (hy : y < W) (hc : c ≤ 1) : IntKind.u64.wrap (IntKind.u64.wrap ((x : Int) - (y : Int)) - (c : Int)) = ((subLo x y c : Nat) : Int) := by
  rw [IntKind.wrap_u64, IntKind.wrap_u64]; unfold subLo W at *; omega
end Go.Proofs.YtdnkkbmpefhbjaaGreatDoor
namespace Go.Proofs.YtdnkkbmpefhbjaaGreatDoor
set_option linter.all false
open Go Go.RowKit
section
variable {P : Program} {ops : Array Oper} {md : Region.Mode} {C : World → Prop}
/-- The walk's own statement: what the operations of the head come to, one behind the other. -/
def wpMix (P : Program) (ops : Array Oper) (C : World → Prop) (Q : Act → Prop) : List Bool → List Oper → Act → Prop
  | _, [], a => Q a
  | true :: fs, o :: rest, a => ∃ v, Yields P ops o v a ∧ wpMix P ops C Q fs rest (a.put o.dst v)
  | false :: fs, o :: rest, a => if Region.wanted o (yielded ops a.tmps) then o.quiet P a C (wpMix P ops C Q fs rest) else wpMix P ops C Q fs rest (a.put o.dst undef)
  | [], o :: rest, a => if Region.wanted o (yielded ops a.tmps) then o.quiet P a C (wpMix P ops C Q [] rest) else wpMix P ops C Q [] rest (a.put o.dst undef)
/-- Head operations keep to the class; whatever of the tail comes up is right in every world of the class. -/
def mixAny (P : Program) (md : Region.Mode) (ops : Array Oper) (C : World → Prop) (Q : Exit → Act → World → Prop) (n g : Nat) : Nat → Array Bool → Act → Prop
  | 0, ls, a => (∀ j ∈ Region.ready md ops ls, n ≤ j) ∧ ∀ w, C w → wpAny P md ops Q g ls a w
  | f + 1, ls, a => Region.ready md ops ls ≠ [] ∧ ∀ i ∈ Region.ready md ops ls,
      (i < n → qOp P ops C i (mixAny P md ops C Q n g f (ls.setIfInBounds i true)) a) ∧
      (n ≤ i → ∀ w, C w → wpOp P ops Q i (wpAny P md ops Q (f + g) (ls.setIfInBounds i true)) a w)
theorem mixAny_sound {Q : Exit → Act → World → Prop} {n g : Nat} : ∀ (f : Nat) (ls : Array Bool) (a : Act) (w : World), C w →
    mixAny P md ops C Q n g f ls a → wpAny P md ops Q (f + g) ls a w := by
  intro f
  induction f with
  | zero => intro ls a w hw h; rw [Nat.zero_add]; exact h.2 w hw
  | succ f ih =>
    intro ls a w hw h
    rw [Nat.succ_add]
    refine ⟨fun h0 => absurd h0 h.1, fun i hi => ?_⟩
    rcases Nat.lt_or_ge i n with hin | hin
    · exact wpOp_of_qOp hw (fun a' w' hw' h' => ih _ a' w' hw' h') ((h.2 i hi).1 hin)
    · exact (h.2 i hi).2 hin w hw
/-- An operation that yields its value in every world is past by another one of the class. -/
theorem qOp_past {j : Nat} {oi oj : Oper} {v : Value} (hj : ops[j]? = some oj) (hap : oi.apart ops oj = true)
    (hsi : ∀ cs b, oi.op ≠ .select cs b) (hsj : ∀ cs b, oj.op ≠ .select cs b) {K : Act → Prop} {a : Act}
    (hy : Yields P ops oi v a) (h : qOp P ops C j K (a.put oi.dst v)) :
    qOp P ops C j (fun a' => Yields P ops oi v a' ∧ K (a'.put oi.dst v)) a := by
  obtain ⟨h1, h2, h3⟩ := Oper.apart_spec hap
  have keep : ∀ u, Yields P ops oi v (a.put oj.dst u) := fun u =>
    hy.of_same (execOp_put oi hsi a oj.dst u h3) (wanted_put oi a oj.dst u h3)
  unfold qOp at *
  simp only [hj] at *
  rw [wanted_put oj a oi.dst v h1] at h
  by_cases hw : Region.wanted oj (yielded ops a.tmps) = true
  · rw [if_pos hw] at h ⊢
    obtain ⟨u, hu, hn⟩ := h
    refine ⟨u, fun w hw' => ?_, keep u, by rw [← Act.put_comm a v u h2]; exact hn⟩
    have := hu w hw'
    unfold Oper.quietAt at *
    rwa [execOp_put oj hsj a oi.dst v h1] at this
  · rw [if_neg hw] at h ⊢
    exact ⟨keep _, by rw [← Act.put_comm a v undef h2]; exact h⟩
theorem Yields.in {o : Oper} {v : Value} {a : Act} (h : Yields P ops o v a) : YieldsIn P ops C o v a := by
  rcases h with ⟨h1, h2⟩ | h
  · refine .inl ⟨h1, fun w _ => ?_⟩
    unfold Oper.quietAt
    rw [h2 w]
    exact ⟨rfl, rfl⟩
  · exact .inr h
theorem free_set {i j : Nat} {oi : Oper} {ls : Array Bool}
    (hfree : ∀ j oj, ops[j]? = some oj → j ≠ i → ls.getD j true = false → (∀ e ∈ oj.after, Region.binds md e = true → e.on ≠ i) → oi.apart ops oj = true)
    (hjun : ls.getD j true = false) : ∀ k ok, ops[k]? = some ok → k ≠ i → (ls.setIfInBounds j true).getD k true = false →
      (∀ e ∈ ok.after, Region.binds md e = true → e.on ≠ i) → oi.apart ops ok = true := by
  intro k ok hk hki hun' hno
  by_cases hjk : j = k
  · subst hjk; exact hfree j ok hk hki hjun hno
  · rw [getD_set_ne true hjk] at hun'; exact hfree k ok hk hki hun' hno
theorem not_waits {i : Nat} {oj : Oper} {ls : Array Bool} (hi : ls.getD i true = false) (hall : ∀ e ∈ oj.after, Region.binds md e = true → ls.getD e.on false = true) :
    ∀ e ∈ oj.after, Region.binds md e = true → e.on ≠ i := fun e he hb heq => by
  have h1 := hall e he hb
  rw [heq, getD_both hi] at h1
  cases h1
/-- A floating operation may be taken first. -/
theorem mixAny_float {Q : Exit → Act → World → Prop} {n g i : Nat} {oi : Oper} {v : Value} (hi : ops[i]? = some oi) (hin : i < n)
    (hsel : ∀ (j : Nat) (o : Oper) cs b, ops[j]? = some o → o.op ≠ .select cs b)
    (hQ : ∀ c a d v w, Q (.panic c) (a.put d v) w → Q (.panic c) a w) :
    ∀ (f : Nat) (ls : Array Bool) (a : Act),
      (∀ j oj, ops[j]? = some oj → j ≠ i → ls.getD j true = false → (∀ e ∈ oj.after, Region.binds md e = true → e.on ≠ i) → oi.apart ops oj = true) →
      i ∈ Region.ready md ops ls → Yields P ops oi v a →
      mixAny P md ops C Q n g f (ls.setIfInBounds i true) (a.put oi.dst v) → mixAny P md ops C Q n g (f + 1) ls a := by
  intro f
  induction f with
  | zero =>
    intro ls a hfree hr hy H
    refine ⟨List.ne_nil_of_mem hr, fun j hj => ⟨fun hjn => ?_, fun hjn w hw => ?_⟩⟩
    · by_cases hji : j = i
      · subst hji; exact (Yields.in hy).qOp hi H
      · exact absurd (H.1 j (ready_mono hj hji)) (by omega)
    · have := wpAny_first (Q := Q) hi hsel (fun c a w => hQ c a _ _ w) g ls a w hfree hr hy (H.2 w hw)
      rw [Nat.zero_add]
      exact this.2 j hj
  | succ f ih =>
    intro ls a hfree hr hy H
    refine ⟨List.ne_nil_of_mem hr, fun j hj => ⟨fun hjn => ?_, fun hjn w hw => ?_⟩⟩
    · by_cases hji : j = i
      · subst hji; exact (Yields.in hy).qOp hi H
      · obtain ⟨hjun, oj, hoj, hall⟩ := mem_ready.1 hj
        have h2 := qOp_past hoj (hfree j oj hoj hji hjun (not_waits (mem_ready.1 hr).1 hall)) (fun cs b => hsel i oi cs b hi) (fun cs b => hsel j oj cs b hoj) hy ((H.2 j (ready_mono hj hji)).1 hjn)
        refine qOp_mono (fun a' h3 => ih (ls.setIfInBounds j true) a' (free_set hfree hjun) (ready_mono hr (Ne.symm hji)) h3.1 ?_) h2
        rw [Array.setIfInBounds_comm _ _ hji]; exact h3.2
    · have := wpAny_first (Q := Q) hi hsel (fun c a w => hQ c a _ _ w) (f + 1 + g) ls a w hfree hr hy (mixAny_sound (f + 1) _ _ w hw H)
      exact this.2 j hj
/-- An operation of the class may be taken first as long as nothing of the tail can come up before it. -/
theorem mixAny_first {Q : Exit → Act → World → Prop} {n g i : Nat} {oi : Oper} {v : Value} (hi : ops[i]? = some oi) (hin : i < n)
    (hsel : ∀ (j : Nat) (o : Oper) cs b, ops[j]? = some o → o.op ≠ .select cs b)
    (hno : ∀ ls, HeadInv md ops n ls → ls.getD i true = false → ∀ t, n ≤ t → t ∉ Region.ready md ops ls) :
    ∀ (f : Nat) (ls : Array Bool) (a : Act), HeadInv md ops n ls →
      (∀ j oj, ops[j]? = some oj → j ≠ i → ls.getD j true = false → (∀ e ∈ oj.after, Region.binds md e = true → e.on ≠ i) → oi.apart ops oj = true) →
      i ∈ Region.ready md ops ls → YieldsIn P ops C oi v a →
      mixAny P md ops C Q n g f (ls.setIfInBounds i true) (a.put oi.dst v) → mixAny P md ops C Q n g (f + 1) ls a := by
  intro f
  induction f with
  | zero =>
    intro ls a inv _ hr hy H
    refine ⟨List.ne_nil_of_mem hr, fun j hj => ⟨fun hjn => ?_, fun hjn w hw => ?_⟩⟩
    · by_cases hji : j = i
      · subst hji; exact hy.qOp hi H
      · exact absurd (H.1 j (ready_mono hj hji)) (by omega)
    · exact absurd hj (hno ls inv (mem_ready.1 hr).1 j hjn)
  | succ f ih =>
    intro ls a inv hfree hr hy H
    refine ⟨List.ne_nil_of_mem hr, fun j hj => ⟨fun hjn => ?_, fun hjn w hw => ?_⟩⟩
    · by_cases hji : j = i
      · subst hji; exact hy.qOp hi H
      · obtain ⟨hjun, oj, hoj, hall⟩ := mem_ready.1 hj
        have h2 := qOp_put hoj (hfree j oj hoj hji hjun (not_waits (mem_ready.1 hr).1 hall)) (fun cs b => hsel i oi cs b hi) (fun cs b => hsel j oj cs b hoj) hy ((H.2 j (ready_mono hj hji)).1 hjn)
        refine qOp_mono (fun a' h3 => ih (ls.setIfInBounds j true) a' (inv.set hj hjn) (free_set hfree hjun) (ready_mono hr (Ne.symm hji)) h3.1 ?_) h2
        rw [Array.setIfInBounds_comm _ _ hji]; exact h3.2
    · exact absurd hj (hno ls inv (mem_ready.1 hr).1 j hjn)
/-- Every head operation that does not float is waited for by a later one of its kind, or by the tail's first. -/
def mixSink (md : Region.Mode) (ops : Array Oper) (n : Nat) (fl : List Bool) : Bool :=
  (List.range n).all fun i => fl.getD i false || (List.range (n + 1)).any fun j => decide (i < j) && !(fl.getD j false) && Region.waitsFor md ops j i
theorem tail_not {n : Nat} {fl : List Bool} (hs : mixSink md ops n fl = true) (hc : Region.chainB md ops n = true) (hfn : fl.getD n false = false) :
    ∀ (d i : Nat), n - i = d → i < n → fl.getD i false = false → ∀ ls, HeadInv md ops n ls → ls.getD i true = false → ∀ t, n ≤ t → t ∉ Region.ready md ops ls := by
  intro d
  induction d using Nat.strongRecOn with
  | _ d ih =>
    intro i hd hi hfl ls inv hun t ht hr
    obtain ⟨_, ot, hot, hall⟩ := mem_ready.1 hr
    have htlt : t < ops.size := (Array.getElem?_eq_some_iff.1 hot).1
    rcases Nat.lt_or_ge n t with htn | htn
    · have h1 := List.all_eq_true.1 hc t (List.mem_range.2 htlt)
      simp only [Bool.or_eq_true, decide_eq_true_eq] at h1
      rcases h1 with h1 | h1
      · omega
      · obtain ⟨o', ho', e, he, hb, hon⟩ := Region.waitsFor_spec h1
        obtain rfl : o' = ot := Option.some.inj (ho'.symm.trans hot)
        have h2 := hall e he hb
        rw [hon, getD_both (inv.tail (t - 1) (by omega) (by omega))] at h2
        cases h2
    · obtain rfl : t = n := by omega
      have h1 := List.all_eq_true.1 hs i (List.mem_range.2 hi)
      rw [hfl, Bool.false_or] at h1
      obtain ⟨j, hj, hj2⟩ := List.any_eq_true.1 h1
      simp only [Bool.and_eq_true, decide_eq_true_eq, Bool.not_eq_true'] at hj2
      obtain ⟨oj, hoj, e, he, hb, hon⟩ := Region.waitsFor_spec hj2.2
      have hjle : j ≤ t := by have := List.mem_range.1 hj; omega
      by_cases hjt : j = t
      · subst hjt
        obtain rfl : oj = ot := Option.some.inj (hoj.symm.trans hot)
        have h2 := hall e he hb
        rw [hon, getD_both hun] at h2
        cases h2
      · cases hl : ls.getD j false with
        | true =>
          have h2 := inv.closed j oj hoj hl e he hb
          rw [hon, getD_both hun] at h2
          cases h2
        | false => exact ih (t - j) (by omega) j rfl (by omega) hj2.1.2 ls inv (getD_in (by rw [inv.size]; omega) hl) t (Nat.le_refl _) hr
theorem mixAny_lex {Q : Exit → Act → World → Prop} {n g : Nat} {flags : List Bool} (hsel : Region.noSelect ops = true) (hs : mixSink md ops n flags = true) (hc : Region.chainB md ops n = true) (hfn : flags.getD n false = false) (hn : n < ops.size)
    (hQ : ∀ c a d v w, Q (.panic c) (a.put d v) w → Q (.panic c) a w) {Lq : Act → Prop}
    (hL : ∀ ls a, Region.seqB md ops g n ls = true → Lq a → ∀ w, C w → wpAny P md ops Q g ls a w) :
    ∀ (l : List Oper) (k : Nat) (fs : List Bool) (ls : Array Bool) (a : Act), (∀ j, j < l.length → l[j]? = ops[k + j]?) → (∀ j, fs.getD j false = flags.getD (k + j) false) → k + l.length = n → HeadInv md ops n ls →
    Region.lexHead md ops g l.length k ls = true → wpMix P ops C Lq fs l a →
    mixAny P md ops C Q n g l.length ls a := by
  intro l
  induction l with
  | nil =>
    intro k fs ls a _ _ hk _ hB h
    obtain rfl : k = n := by simpa using hk
    have hB' : Region.seqB md ops g k ls = true := by simpa [Region.lexHead] using hB
    exact ⟨seqB_ready hB', hL ls a hB' (by unfold wpMix at h; exact h)⟩
  | cons o l ih =>
    intro k fs ls a hl hfs hk inv hB h
    have h0 : ops[k]? = some o := by simpa using (hl 0 (by simp)).symm
    simp only [List.length_cons, Region.lexHead, Bool.and_eq_true] at hB
    have hkn : k < n := by simp only [List.length_cons] at hk; omega
    have hr : k ∈ Region.ready md ops ls := by simpa using hB.1.1
    have hfree := Region.free_spec h0 hB.1.2
    have next : ∀ a' fs', (∀ j, fs'.getD j false = flags.getD (k + 1 + j) false) → wpMix P ops C Lq fs' l a' → mixAny P md ops C Q n g l.length (ls.setIfInBounds k true) a' := fun a' fs' hfs' h' => by
      refine ih (k + 1) fs' _ a' (fun j hj => ?_) hfs' (by simp only [List.length_cons] at hk; omega) (inv.set hr hkn) hB.2 h'
      have := hl (j + 1) (by simp; omega)
      simpa [Nat.add_assoc, Nat.add_comm 1 j] using this
    have quiet : fs.getD 0 false = false → (∃ fs', (∀ j, fs'.getD j false = flags.getD (k + 1 + j) false) ∧ qOp P ops C k (wpMix P ops C Lq fs' l) a) → mixAny P md ops C Q n g (l.length + 1) ls a := fun hf0 ⟨fs', hfs', hq⟩ => by
      obtain ⟨v, hy, hK⟩ := yieldsIn_of_qOp h0 hq
      have hfk : flags.getD k false = false := by have := hfs 0; rw [hf0] at this; simpa using this.symm
      exact mixAny_first h0 hkn (Region.noSelect_spec hsel) (tail_not hs hc hfn _ k rfl hkn hfk) l.length ls a inv hfree hr hy (next _ fs' hfs' hK)
    cases fs with
    | nil =>
      refine quiet rfl ⟨[], fun j => ?_, ?_⟩
      · have := hfs (j + 1); simpa [Nat.add_assoc, Nat.add_comm 1 j] using this
      · unfold qOp; simp only [h0]; unfold wpMix at h; exact h
    | cons b fs =>
      have hfs' : ∀ j, fs.getD j false = flags.getD (k + 1 + j) false := fun j => by
        have := hfs (j + 1); simpa [Nat.add_assoc, Nat.add_comm 1 j] using this
      cases b with
      | false =>
        refine quiet rfl ⟨fs, hfs', ?_⟩
        unfold qOp; simp only [h0]; unfold wpMix at h; exact h
      | true =>
        unfold wpMix at h
        obtain ⟨v, hy, hK⟩ := h
        exact mixAny_float h0 hkn (Region.noSelect_spec hsel) hQ l.length ls a hfree hr hy (next _ fs hfs' hK)
section steps
variable {Q : Act → Prop} {fs : List Bool} {o : Oper} {rest : List Oper} {a : Act}
/-- The next operation yields a value and leaves the world as it is. -/
theorem mix_v (hf : fs.headD false = false) (hg : Region.wanted o (yielded ops a.tmps) = true)
    (h : ∃ v, (∀ w', C w' → (execOp a.eval o).run P w' = .ok (.value v) w') ∧ wpMix P ops C Q fs.tail rest (a.put o.dst v)) :
    wpMix P ops C Q fs (o :: rest) a := by
  obtain ⟨v, h1, h2⟩ := h
  have hq : o.quiet P a C (wpMix P ops C Q fs.tail rest) := ⟨v, fun w' hw' => by unfold Oper.quietAt; rw [h1 w' hw']; exact ⟨rfl, rfl⟩, h2⟩
  match fs, hf, hq with
  | [], _, hq => unfold wpMix; rw [if_pos hg]; exact hq
  | false :: fs, _, hq => unfold wpMix; rw [if_pos hg]; exact hq
/-- The next operation calls a function: one value in every world of the class, and a world of the class. -/
theorem mix_c (hf : fs.headD false = false) (hg : Region.wanted o (yielded ops a.tmps) = true)
    (h : ∃ f args v, (∀ w', C w' → (execOp a.eval o).run P w' = .ok (.enter f args) w') ∧ (∀ w', C w' → Calls P f args w' fun e w'' => e = .returned v ∧ C w'') ∧ wpMix P ops C Q fs.tail rest (a.put o.dst v)) :
    wpMix P ops C Q fs (o :: rest) a := by
  obtain ⟨f, args, v, h1, h2, h3⟩ := h
  have hq : o.quiet P a C (wpMix P ops C Q fs.tail rest) := ⟨v, fun w' hw' => by unfold Oper.quietAt; rw [h1 w' hw']; exact ⟨rfl, h2 w' hw'⟩, h3⟩
  match fs, hf, hq with
  | [], _, hq => unfold wpMix; rw [if_pos hg]; exact hq
  | false :: fs, _, hq => unfold wpMix; rw [if_pos hg]; exact hq
/-- The next operation floats. -/
theorem mix_f (hg : Region.wanted o (yielded ops a.tmps) = true)
    (h : ∃ v, (∀ w', (execOp a.eval o).run P w' = .ok (.value v) w') ∧ wpMix P ops C Q fs rest (a.put o.dst v)) :
    wpMix P ops C Q (true :: fs) (o :: rest) a := by
  obtain ⟨v, h1, h2⟩ := h
  exact ⟨v, .inl ⟨hg, h1⟩, h2⟩
/-- The next operation's guard says no. -/
theorem mix_s (hf : fs.headD false = false) (hg : Region.wanted o (yielded ops a.tmps) = false) (h : wpMix P ops C Q fs.tail rest (a.put o.dst undef)) :
    wpMix P ops C Q fs (o :: rest) a := by
  match fs, hf, h with
  | [], _, h => unfold wpMix; rw [if_neg (by simp [hg])]; exact h
  | false :: fs, _, h => unfold wpMix; rw [if_neg (by simp [hg])]; exact h
theorem mix_nil (h : Q a) : wpMix P ops C Q fs [] a := by unfold wpMix; exact h
end steps
/-- What the kernel looks at. -/
def mixB (md : Region.Mode) (ops : Array Oper) (n : Nat) (fl : List Bool) : Bool :=
  Region.noSelect ops && decide (n < ops.size) && mixSink md ops n fl && Region.chainB md ops n && !(fl.getD n false) && Region.lexHead md ops (ops.size - n) n 0 (Array.replicate ops.size false)
/-- One walk in the order of the text. -/
theorem region_mix {id : Nat} {Q : Exit → Act → World → Prop} {a : Act} {w : World} {l : List Oper} (n : Nat) (fl : List Bool) (C : World → Prop)
    (hm : P.follows .mixedOrders = true) (hB : mixB .any l.toArray n fl = true) (hQ : ∀ c a d v w, Q (.panic c) (a.put d v) w → Q (.panic c) a w) (hC : C w.drew)
    (h : wpMix P l.toArray C (fun a' => ∀ w', C w' → wpList P l.toArray Q (l.drop n) a' w') fl (l.take n) a) : (Code.region id l.toArray true).wp P Q a w := by
  simp only [mixB, Bool.and_eq_true, decide_eq_true_eq, Bool.not_eq_true'] at hB
  obtain ⟨⟨⟨⟨⟨hsel, hn⟩, hs⟩, hc⟩, hfn⟩, hlex⟩ := hB
  have htl : (l.take n).length = n := by
    have : n < l.length := by simpa using hn
    simp; omega
  have inv0 : HeadInv .any l.toArray n (Array.replicate l.toArray.size false) :=
    ⟨by simp, fun j oj _ hl => (by rw [getD_replicate_false] at hl; cases hl), fun t _ ht => getD_in (by simpa using ht) (getD_replicate_false _ _)⟩
  have hd : (l.drop n).length = l.toArray.size - n := by simp
  have H := mixAny_lex (P := P) (C := C) (Q := Q) (md := .any) (g := l.toArray.size - n) hsel hs hc hfn hn hQ
    (Lq := fun a' => ∀ w', C w' → wpList P l.toArray Q (l.drop n) a' w')
    (fun ls a' hB' hLq w' hw' => by
      have := wpAny_of_seq (md := .any) (Q' := Q) (l.drop n) n ls a' w' (fun j => by simp [List.getElem?_drop]) (by rw [hd]; exact hB') (hLq w' hw')
      rwa [hd] at this)
    (l.take n) 0 fl _ a (fun j hj => by rw [htl] at hj; simp [hj]) (fun j => by simp) (by simpa using htl) inv0 (by rw [htl]; exact hlex) h
  have := mixAny_sound (Q := Q) _ _ _ w.drew hC H
  rw [htl, show n + (l.toArray.size - n) = l.toArray.size by omega] at this
  exact wp_region_any hm this
/-- The same where the whole region is quiet. -/
theorem region_quiet {id : Nat} {Q : Exit → Act → World → Prop} {a : Act} {w : World} {l : List Oper} (C : World → Prop)
    (hm : P.follows .mixedOrders = true) (hB : Region.lexB .any l.toArray = true) (hC : C w.drew)
    (h : wpMix P l.toArray C (fun a' => ∀ w', C w' → Q .normal a' w') [] l a) : (Code.region id l.toArray true).wp P Q a w := by
  refine wp_region_quiet (C := C) hm hB hC ?_
  have key : ∀ (ops : Array Oper) (Q' : Act → Prop) (l : List Oper) (a : Act), wpMix P ops C Q' [] l a → wpQuiet P ops C Q' l a := by
    intro ops Q' l
    induction l with
    | nil => intro a h; exact h
    | cons o l ih =>
      intro a h
      unfold wpMix at h
      unfold wpQuiet
      split
      · rename_i hw; rw [if_pos hw] at h; exact Oper.quiet_mono (fun a' h' => ih a' h') h
      · rename_i hw; rw [if_neg hw] at h; exact ih _ h
  simpa using key _ _ _ _ h
end
/-- A call of a function value in a slot, arrived at without a search. -/
theorem call_slot {f : FuncId} {first captured : Array Value} {a : Act} {dst : Option Tmp} {x : Operand} {xs : Array Operand} {ats : Array TypeId} {ty : TypeId} {pos : String} {after : Array Edge} {guard : Option (Nat × Bool)}
    (h : a.eval x = .func (.func f) first captured) :
    execOp a.eval { dst, op := .call { callee := .value x, args := xs, argTypes := ats }, type := ty, pos, after, guard } = callFunc f (first ++ xs.map a.eval ++ captured) := by
  have : execOp a.eval { dst, op := .call { callee := .value x, args := xs, argTypes := ats }, type := ty, pos, after, guard } = (do let d ← Deferred.ofValue (a.eval x) (xs.map a.eval); invoke d.target d.args : Sem Next) := rfl
  rw [this, h]
  rfl
theorem same_of {P : Program} {f : FuncId} {args : Array Value} {w : World} {v : Value} (h : Calls P f args w fun e w' => e = .returned v ∧ w = w') :
    Calls P f args w fun e w' => e = .returned v ∧ w' = w := h.mono fun _ _ h => ⟨h.1, h.2.symm⟩
theorem below_of {P : Program} {f : FuncId} {args : Array Value} {W w : World} {v : Value} {B : Nat} (hC : Below B W w) (hB : B ≤ W.heap.size)
    (h : Calls P f args w fun e w' => e = .returned v ∧ Below w.heap.size w w') :
    Calls P f args w fun e w' => e = .returned v ∧ Below B W w' := h.mono fun _ _ h => ⟨h.1, hC.trans (h.2.mono (Nat.le_trans hB hC.size))⟩
theorem still_below {P : Program} {f : FuncId} {args : Array Value} {w : World} {v : Value} (h : Calls P f args w fun e w' => e = .returned v ∧ w = w') :
    Calls P f args w fun e w' => e = .returned v ∧ Below w.heap.size w w' := h.mono fun _ w' h => ⟨h.1, by rw [← h.2]; exact Below.refl _ _⟩
/-- What holds of the blocks that were there. -/
theorem below_cells {B : Nat} {w w' : World} (h : Below B w w') : ∀ p : Addr, p.block < B → w'.cell? p = w.cell? p := fun _ hp => h.cell hp
@[simp, go_sem] theorem setCell_drewN (w : World) (n : Nat) (a : Addr) (v : Value) : (w.drewN n).setCell a v = (w.setCell a v).drewN n := rfl
@[simp, go_sem] theorem alloc_drewN (w : World) (n : Nat) (o : Obj) : (w.drewN n).alloc o = (w.alloc o).drewN n := rfl
@[simp, go_sem] theorem size_drewN (w : World) (n : Nat) : (w.drewN n).heap.size = w.heap.size := rfl
theorem below_dN {B n : Nat} {w w' : World} (h : Below B w w') : Below B w (w'.drewN n) := ⟨h.os, h.tape, h.output, h.size, h.block⟩
theorem size_drew (w : World) : w.drew.heap.size = w.heap.size := rfl
theorem bfacts {w w' : World} (h : Below w.heap.size w w') : (∀ b o, b < w.heap.size → w'.cell? ⟨b, o, none⟩ = w.cell? ⟨b, o, none⟩) ∧ (∀ b o, b < w.heap.size → w'.frozen? ⟨b, o, none⟩ = w.frozen? ⟨b, o, none⟩) ∧ w.heap.size ≤ w'.heap.size :=
  ⟨fun b o hb => h.cell (p := ⟨b, o, none⟩) hb, fun b o hb => h.frozen (p := ⟨b, o, none⟩) hb, h.size⟩
theorem bfactsB {B : Nat} {w w' : World} (h : Below B w w') : (∀ b o, b < B → w'.cell? ⟨b, o, none⟩ = w.cell? ⟨b, o, none⟩) ∧ (∀ b o, b < B → w'.frozen? ⟨b, o, none⟩ = w.frozen? ⟨b, o, none⟩) ∧ w.heap.size ≤ w'.heap.size :=
  ⟨fun b o hb => h.cell (p := ⟨b, o, none⟩) hb, fun b o hb => h.frozen (p := ⟨b, o, none⟩) hb, h.size⟩
theorem below_drew {B : Nat} {w : World} : Below B w w.drew := (Below.refl B w).drew
end Go.Proofs.YtdnkkbmpefhbjaaGreatDoor
namespace Go.Proofs.YtdnkkbmpefhbjaaGreatDoor
set_option linter.all false
open Go Go.RowKit
/-- The named blocks hold what they held. -/
def KeepL (L : List Nat) (V w : World) : Prop := ∀ b ∈ L, ∀ o, w.cell? ⟨b, o, none⟩ = V.cell? ⟨b, o, none⟩
theorem KeepL.refl (L : List Nat) (V : World) : KeepL L V V := fun _ _ _ => rfl
theorem KeepL.below {L : List Nat} {V w w' : World} (h : KeepL L V w) (hb : Below w.heap.size w w') (hL : ∀ b ∈ L, b < w.heap.size) : KeepL L V w' :=
  fun b hm o => (hb.cell (p := ⟨b, o, none⟩) (hL b hm)).trans (h b hm o)
theorem KeepL.set {L : List Nat} {V w : World} (h : KeepL L V w) (p : Addr) (v : Value) (hp : ∀ b ∈ L, b ≠ p.block) : KeepL L V (w.setCell p v) :=
  fun b hm o => (World.cell?_setCell_other (w := w) (v := v) (a := p) (b := ⟨b, o, none⟩) (fun e => hp b hm (by rw [e]))).trans (h b hm o)
theorem KeepL.alloc {L : List Nat} {V w : World} (h : KeepL L V w) (ob : Obj) (hL : ∀ b ∈ L, b < w.heap.size) : KeepL L V (w.alloc ob) :=
  h.below ((Below.refl _ _).alloc (Nat.le_refl _) _) hL
theorem KeepL.drewN {L : List Nat} {V w : World} (h : KeepL L V w) (n : Nat) : KeepL L V (w.drewN n) := h
theorem KeepL.drew {L : List Nat} {V w : World} (h : KeepL L V w) : KeepL L V w.drew := h
section
variable {P : Program} {Q : Exit → Act → World → Prop} {L : List Nat} {V : World}
theorem held_begin {id : Nat} {a : Act} {w : World} {l : List Oper} (n : Nat) (L : List Nat) (hm : P.follows .mixedOrders = true) (hn : l.length = n) (hQ : ∀ c a d v w, Q (.panic c) (a.put d v) w → Q (.panic c) a w)
    (h : Hid (∀ c a d v w, Q (.panic c) (a.put d v) w → Q (.panic c) a w) → KeepL L w.drew w.drew → wpAnyH P .any l.toArray Q (KeepL L w.drew) n (Array.replicate n false) a w.drew) : (Code.region id l.toArray true).wp P Q a w := by
  refine wp_region_held (S := KeepL L w.drew) hm ?_
  have hs : l.toArray.size = n := by simpa using hn
  rw [hs]
  exact h (Lib.hid hQ) (KeepL.refl _ _)
variable {md : Region.Mode} {ops : Array Oper} {n : Nat} {ls : Array Bool} {a : Act} {w : World} {o : Oper}
theorem drop_at {ops : Array Oper} {i : Nat} {o : Oper} {r : List Oper} (h : ops.toList.drop i = o :: r) : ops[i]? = some o := by
  have := congrArg (fun l => l[0]?) h
  simpa using this
/-- It yields its value in every world that keeps the blocks. -/
theorem held_v (i : Nat) {r : List Oper} (hi : ops.toList.drop i = o :: r) (hs : Region.noSelect ops = true) (hf : Region.free md ops ls i = true) (hr : (Region.ready md ops ls).contains i = true)
    (hQ : Hid (∀ c a d v w, Q (.panic c) (a.put d v) w → Q (.panic c) a w)) (hS : KeepL L V w) (hg : Region.wanted o (yielded ops a.tmps) = true)
    (h : ∃ v, (∀ w', KeepL L V w' → (execOp a.eval o).run P w' = .ok (.value v) w') ∧ wpAnyH P md ops Q (KeepL L V) n (ls.setIfInBounds i true) (a.put o.dst v) w) :
    wpAnyH P md ops Q (KeepL L V) (n + 1) ls a w := by
  obtain ⟨v, h1, h2⟩ := h
  exact wpAnyH_take (drop_at hi) hs hf hr (fun c a w h => hQ.out c a _ v w h) (.inl ⟨hg, h1⟩) hS h2
theorem held_one (i : Nat) {r : List Oper} (hi : ops.toList.drop i = o :: r) (hr : Region.ready md ops ls = [i]) (hg : Region.wanted o (yielded ops a.tmps) = true)
    (h : o.wp P a w (fun a' w' => KeepL L V w' ∧ wpAnyH P md ops Q (KeepL L V) n (ls.setIfInBounds i true) a' w') Q) : wpAnyH P md ops Q (KeepL L V) (n + 1) ls a w := by
  refine wpAnyH_all hr (by simp) fun j hj => ?_
  obtain rfl : j = i := by simpa using hj
  unfold wpOp
  simp only [drop_at hi]
  rw [if_pos hg]
  exact .inl h
/-- The next of those in order calls a function. -/
theorem held_call (i : Nat) {r : List Oper} (hi : ops.toList.drop i = o :: r) (hr : Region.ready md ops ls = [i]) (hg : Region.wanted o (yielded ops a.tmps) = true) (hS : KeepL L V w)
    (h : ∃ f args v, (execOp a.eval o).run P w = .ok (.enter f args) w ∧ (Calls P f args w fun e w' => e = .returned v ∧ Below w.heap.size w w') ∧ (∀ b ∈ L, b < w.heap.size) ∧
      ∀ w', Below w.heap.size w w' → KeepL L V w' → wpAnyH P md ops Q (KeepL L V) n (ls.setIfInBounds i true) (a.put o.dst v) w') :
    wpAnyH P md ops Q (KeepL L V) (n + 1) ls a w := by
  obtain ⟨f, args, v, he, hc, hL, hk⟩ := h
  refine held_one i hi hr hg ?_
  unfold Oper.wp
  rw [he]
  refine hc.mono ?_
  rintro _ w' ⟨rfl, hb⟩
  exact ⟨hS.below hb hL, hk w' hb (hS.below hb hL)⟩
/-- The next of those in order stores. -/
theorem held_t (i : Nat) {r : List Oper} (hi : ops.toList.drop i = o :: r) (hr : Region.ready md ops ls = [i]) (hg : Region.wanted o (yielded ops a.tmps) = true)
    (h : ∃ w', (execOp a.eval o).run P w = .ok .skip w' ∧ KeepL L V w' ∧ (KeepL L V w' → wpAnyH P md ops Q (KeepL L V) n (ls.setIfInBounds i true) (a.put o.dst undef) w')) :
    wpAnyH P md ops Q (KeepL L V) (n + 1) ls a w := by
  obtain ⟨w', he, hk, h⟩ := h
  refine held_one i hi hr hg ?_
  unfold Oper.wp
  rw [he]
  exact ⟨hk, h hk⟩
theorem held_end {a : Act} {w : World} {ls : Array Bool} (hr : Region.ready md ops ls = []) (h : Q .normal a w) : wpAnyH P md ops Q (KeepL L V) 0 ls a w := wpAnyH_done hr h 0
end
end Go.Proofs.YtdnkkbmpefhbjaaGreatDoor
namespace Go.Proofs.YtdnkkbmpefhbjaaGreatDoor
set_option linter.all false
open Go Go.RowKit
end Go.Proofs.YtdnkkbmpefhbjaaGreatDoor
namespace Go.Proofs.YtdnkkbmpefhbjaaGreatDoor
set_option linter.all false
open Go Go.RowKit
def lsM (n m : Nat) : Array Bool := Array.ofFn fun i : Fin n => m.testBit i
theorem lsM_getD (n m j : Nat) (d : Bool) : (lsM n m).getD j d = if j < n then m.testBit j else d := by
  unfold lsM
  by_cases h : j < n <;> simp [Array.getD, h]
theorem lsM_set {n m i m' : Nat} (hm : m ||| 1 <<< i = m') : (lsM n m).setIfInBounds i true = lsM n m' := by
  subst hm
  unfold lsM
  apply Array.ext
  · simp
  · intro j h1 h2
    simp only [Array.size_setIfInBounds, Array.size_ofFn] at h1
    have e := Array.getElem_setIfInBounds (xs := Array.ofFn fun i : Fin n => m.testBit i) (i := i) (a := true) (j := j) (by simpa using h1)
    rw [e]
    simp only [Array.getElem_ofFn, Nat.testBit_or, Nat.one_shiftLeft, Nat.testBit_two_pow]
    by_cases e : i = j
    · simp [e]
    · simp [e]
theorem lsM_zero (n : Nat) : lsM n 0 = Array.replicate n false := by
  unfold lsM
  apply Array.ext <;> simp
section
variable {P : Program} {Q : Exit → Act → World → Prop} {L : List Nat} {V : World}
variable {md : Region.Mode} {ops : Array Oper} {n N m m' : Nat} {a : Act} {w : World} {o : Oper}
/-- All that binds o is taken. -/
def afterM (md : Region.Mode) (m : Nat) (o : Oper) : Bool := o.after.all fun e => !Region.binds md e || m.testBit e.on
/-- Those of the list that neither wait for i nor are waited for by it are apart from it. -/
def apartM (md : Region.Mode) (ops : Array Oper) (i : Nat) (o : Oper) : Nat → List Oper → Bool
  | _, [] => true
  | j, y :: r => (j == i || y.after.any (fun e => Region.binds md e && e.on == i) || o.after.any (fun e => Region.binds md e && e.on == j) || o.apart ops y) && apartM md ops i o (j + 1) r
theorem apartM_spec {i : Nat} {o : Oper} : ∀ {l : List Oper} {k : Nat}, apartM md ops i o k l = true → ∀ j y, l[j]? = some y →
    (k + j = i ∨ (∃ e ∈ y.after, Region.binds md e = true ∧ e.on = i) ∨ (∃ e ∈ o.after, Region.binds md e = true ∧ e.on = k + j) ∨ o.apart ops y = true)
  | [], _, _, j, y, h => by simp at h
  | y :: r, k, hB, j, z, h => by
    simp only [apartM, Bool.and_eq_true, Bool.or_eq_true, beq_iff_eq, Array.any_eq_true'] at hB
    cases j with
    | zero =>
      simp only [List.getElem?_cons_zero, Option.some.injEq] at h
      subst h
      rcases hB.1 with ((h1 | ⟨e, h1, h2, h3⟩) | ⟨e, h1, h2, h3⟩) | h1
      · exact .inl h1
      · exact .inr (.inl ⟨e, h1, h2, h3⟩)
      · exact .inr (.inr (.inl ⟨e, h1, h2, h3⟩))
      · exact .inr (.inr (.inr h1))
    | succ j =>
      have := apartM_spec hB.2 j z (by simpa using h)
      rwa [show k + 1 + j = k + (j + 1) by omega] at this
/-- None but i may come up. -/
def soleM (md : Region.Mode) (m i : Nat) : Nat → List Oper → Bool
  | _, [] => true
  | j, y :: r => (j == i || m.testBit j || y.after.any fun e => Region.binds md e && !m.testBit e.on) && soleM md m i (j + 1) r
theorem soleM_spec {i : Nat} : ∀ {l : List Oper} {k : Nat}, soleM md m i k l = true → ∀ j y, l[j]? = some y → k + j = i ∨ m.testBit (k + j) = true ∨ ∃ e ∈ y.after, Region.binds md e = true ∧ m.testBit e.on = false
  | [], _, _, j, y, h => by simp at h
  | y :: r, k, hB, j, z, h => by
    simp only [soleM, Bool.and_eq_true, Bool.or_eq_true, beq_iff_eq, Array.any_eq_true', Bool.not_eq_true'] at hB
    cases j with
    | zero =>
      simp only [List.getElem?_cons_zero, Option.some.injEq] at h
      subst h
      rcases hB.1 with (h1 | h1) | ⟨e, h1, h2, h3⟩
      · exact .inl h1
      · exact .inr (.inl h1)
      · exact .inr (.inr ⟨e, h1, h2, h3⟩)
    | succ j =>
      have := soleM_spec hB.2 j z (by simpa using h)
      rwa [show k + 1 + j = k + (j + 1) by omega] at this
/-- Those that bind lie before. -/
theorem readyM {i : Nat} {r : List Oper} (hN : ops.size ≤ N) (hi : ops.toList.drop i = o :: r) (hun : m.testBit i = false) (haf : afterM md m o = true) (hlt : o.after.all (fun e => e.on < N) = true) : i ∈ Region.ready md ops (lsM N m) := by
  have hi' := drop_at hi
  have hl := (Array.getElem?_eq_some_iff.1 hi').1
  refine mem_ready.2 ⟨by rw [lsM_getD, if_pos (by omega)]; exact hun, o, hi', fun e he hb => ?_⟩
  have h1 := Array.all_eq_true_iff_forall_mem.1 haf e he
  have h2 := Array.all_eq_true_iff_forall_mem.1 hlt e he
  simp only [hb, Bool.not_true, Bool.false_or] at h1
  rw [lsM_getD, if_pos (by simpa using h2)]
  exact h1
theorem freeM {i : Nat} {r : List Oper} (hN : ops.size ≤ N) (hi : ops.toList.drop i = o :: r) (haf : afterM md m o = true) (hap : apartM md ops i o 0 ops.toList = true) :
    ∀ j oj, ops[j]? = some oj → j ≠ i → (lsM N m).getD j true = false → (∀ e ∈ oj.after, Region.binds md e = true → e.on ≠ i) → o.apart ops oj = true := by
  intro j oj hj hne hun hno
  have hl := (Array.getElem?_eq_some_iff.1 hj).1
  rw [lsM_getD, if_pos (by omega)] at hun
  rcases apartM_spec hap j oj (by simpa using hj) with h | ⟨e, h1, h2, h3⟩ | ⟨e, h1, h2, h3⟩ | h
  · exact absurd (by omega) hne
  · exact absurd h3 (hno e h1 h2)
  · have h4 := Array.all_eq_true_iff_forall_mem.1 haf e h1
    rw [show e.on = j by omega] at h4
    simp only [h2, Bool.not_true, Bool.false_or] at h4
    rw [hun] at h4
    cases h4
  · exact h
/-- All are taken. -/
def doneM (m : Nat) : Nat → Bool | 0 => true | k + 1 => m.testBit k && doneM m k
theorem doneM_spec {m : Nat} : ∀ {k}, doneM m k = true → ∀ j, j < k → m.testBit j = true
  | 0, _, j, hj => by omega
  | k + 1, h, j, hj => by
    simp only [doneM, Bool.and_eq_true] at h
    rcases Nat.lt_or_ge j k with h1 | h1
    · exact doneM_spec h.2 j h1
    · rw [show j = k by omega]; exact h.1
end
end Go.Proofs.YtdnkkbmpefhbjaaGreatDoor
namespace Go.Proofs.YtdnkkbmpefhbjaaGreatDoor
set_option linter.all false
open Go Go.RowKit
/-- The world has grown: what was there is as it was. -/
def Grows (w w' : World) : Prop := Below w.heap.size w w'
theorem Grows.refl (w : World) : Grows w w := Below.refl _ _
theorem Grows.trans {a b c : World} (h : Grows a b) (k : Grows b c) : Grows a c := Below.trans h (Below.mono k h.size)
theorem Grows.alloc (w : World) (ob : Obj) : Grows w (w.alloc ob) := (Below.refl _ _).alloc (Nat.le_refl _) _
/-- The world has grown out of V and holds the named blocks, which are new and different. -/
structure CL (V : World) (bs : List (Nat × Obj)) (w : World) : Prop where
  grows : Grows V w
  has : ∀ p ∈ bs, w.heap[p.1]? = some p.2
  new : ∀ p ∈ bs, V.heap.size ≤ p.1
  nodup : (bs.map Prod.fst).Nodup
theorem CL.nil (V : World) : CL V [] V := ⟨Grows.refl _, by simp, by simp, by simp⟩
theorem CL.step {V w w' : World} {bs : List (Nat × Obj)} (h : CL V bs w) (g : Grows w w') : CL V bs w' :=
  ⟨h.grows.trans g, fun p hp => (g.block p.1 (Array.getElem?_eq_some_iff.1 (h.has p hp)).1).trans (h.has p hp), h.new, h.nodup⟩
theorem CL.push {V w : World} {bs : List (Nat × Obj)} (h : CL V bs w) (ob : Obj) : CL V ((w.heap.size, ob) :: bs) (w.alloc ob) := by
  have k := h.step (Grows.alloc w ob)
  refine ⟨k.grows, ?_, ?_, ?_⟩
  · intro p hp
    rcases List.mem_cons.1 hp with rfl | hp
    · show (w.heap.push ob)[w.heap.size]? = some ob
      simp
    · exact k.has p hp
  · intro p hp
    rcases List.mem_cons.1 hp with rfl | hp
    · exact h.grows.size
    · exact k.new p hp
  · rw [List.map_cons, List.nodup_cons]
    refine ⟨fun hm => ?_, h.nodup⟩
    obtain ⟨p, hp, e⟩ := List.mem_map.1 hm
    have := (Array.getElem?_eq_some_iff.1 (h.has p hp)).1
    simp only at e
    omega
theorem CL.perm {V w : World} {bs cs : List (Nat × Obj)} (hp : bs.Perm cs) (h : CL V cs w) : CL V bs w :=
  ⟨h.grows, fun p hm => h.has p (hp.mem_iff.1 hm), fun p hm => h.new p (hp.mem_iff.1 hm), ((hp.map Prod.fst).nodup_iff).2 h.nodup⟩
theorem CL.drop {V w : World} {p : Nat × Obj} {bs : List (Nat × Obj)} (h : CL V (p :: bs) w) : CL V bs w :=
  ⟨h.grows, fun q hm => h.has q (List.mem_cons_of_mem _ hm), fun q hm => h.new q (List.mem_cons_of_mem _ hm), (List.nodup_cons.1 h.nodup).2⟩
section
variable {P : Program} {ops : Array Oper} {md : Region.Mode} {V : World} {Q : Exit → Act → World → Prop}
/-- One value, in every world that has grown out of V; what it calls only makes memory. -/
def FixAt (P : Program) (V : World) (bs : List (Nat × Obj)) (o : Oper) (a : Act) (v : Value) : Prop :=
  ∀ w, CL V bs w → ((execOp a.eval o).run P w = .ok (.value v) w ∨ ∃ f args, (execOp a.eval o).run P w = .ok (.enter f args) w ∧ Calls P f args w fun e w' => e = .returned v ∧ Grows w w')
/-- It lays a new block. -/
def MkAt (P : Program) (V : World) (o : Oper) (a : Act) (mk : Nat → Value) (ob : Obj) : Prop :=
  ∀ w, Grows V w → (execOp a.eval o).run P w = .ok (.value (mk w.heap.size)) (w.alloc ob)
abbrev Mks := Nat → Option ((Nat → Value) × Obj)
def FixV (P : Program) (V : World) (o : Oper) (a : Act) (v : Value) : Prop := ∀ w, Grows V w → (execOp a.eval o).run P w = .ok (.value v) w
/-- cl: which operations may call. -/
def gOp (P : Program) (ops : Array Oper) (V : World) (mks : Mks) (cl : Nat → Bool) (i : Nat) (K : Act → List (Nat × Obj) → Prop) (a : Act) (bs : List (Nat × Obj)) : Prop :=
  match ops[i]? with
  | none => False
  | some o =>
    match mks i with
    | none => if Region.wanted o (yielded ops a.tmps) = true then ∃ v, FixAt P V bs o a v ∧ (cl i = false → FixV P V o a v) ∧ K (a.put o.dst v) bs else K (a.put o.dst undef) bs
    | some (mk, ob) => Region.wanted o (yielded ops a.tmps) = true ∧ MkAt P V o a mk ob ∧ ∀ b, K (a.put o.dst (mk b)) ((b, ob) :: bs)
theorem gOp_mono {mks : Mks} {cl : Nat → Bool} {i : Nat} {K K' : Act → List (Nat × Obj) → Prop} {a : Act} {bs : List (Nat × Obj)} (h : ∀ a bs, K a bs → K' a bs) (hh : gOp P ops V mks cl i K a bs) : gOp P ops V mks cl i K' a bs := by
  unfold gOp at *
  split
  · rename_i ho; simp only [ho] at hh
  · rename_i o ho
    simp only [ho] at hh
    split
    · rename_i hm; simp only [hm] at hh
      split
      · rename_i hw; rw [if_pos hw] at hh; obtain ⟨v, h1, hv, h2⟩ := hh; exact ⟨v, h1, hv, h _ _ h2⟩
      · rename_i hw; rw [if_neg hw] at hh; exact h _ _ hh
    · rename_i mk ob hm; simp only [hm] at hh
      exact ⟨hh.1, hh.2.1, fun b => h _ _ (hh.2.2 b)⟩
def growAny (P : Program) (md : Region.Mode) (ops : Array Oper) (V : World) (mks : Mks) (cl : Nat → Bool) (Q : Exit → Act → World → Prop) (n g : Nat) : Nat → Array Bool → Act → List (Nat × Obj) → Prop
  | 0, ls, a, bs => (∀ j ∈ Region.ready md ops ls, n ≤ j) ∧ ∀ w, CL V bs w → wpAny P md ops Q g ls a w
  | f + 1, ls, a, bs => Region.ready md ops ls ≠ [] ∧ ∀ i ∈ Region.ready md ops ls, i < n ∧ gOp P ops V mks cl i (growAny P md ops V mks cl Q n g f (ls.setIfInBounds i true)) a bs
theorem growAny_perm {mks : Mks} {cl : Nat → Bool} {n g : Nat} : ∀ (f : Nat) (ls : Array Bool) (a : Act) (bs cs : List (Nat × Obj)), bs.Perm cs → growAny P md ops V mks cl Q n g f ls a bs → growAny P md ops V mks cl Q n g f ls a cs
  | 0, _, _, _, _, hp, h => ⟨h.1, fun w hw => h.2 w (hw.perm hp)⟩
  | f + 1, ls, a, bs, cs, hp, h => by
    refine ⟨h.1, fun i hi => ⟨(h.2 i hi).1, ?_⟩⟩
    have hh := (h.2 i hi).2
    unfold gOp at *
    split
    · rename_i ho; simp only [ho] at hh
    · rename_i o ho
      simp only [ho] at hh
      split
      · rename_i hm; simp only [hm] at hh
        split
        · rename_i hw; rw [if_pos hw] at hh; obtain ⟨v, h1, hv, h2⟩ := hh; exact ⟨v, fun w hw => h1 w (hw.perm hp), hv, growAny_perm f _ _ _ _ hp h2⟩
        · rename_i hw; rw [if_neg hw] at hh; exact growAny_perm f _ _ _ _ hp hh
      · rename_i mk ob hm; simp only [hm] at hh
        exact ⟨hh.1, hh.2.1, fun b => growAny_perm f _ _ _ _ (hp.cons _) (hh.2.2 b)⟩
theorem growAny_sound {mks : Mks} {cl : Nat → Bool} {n g : Nat} : ∀ (f : Nat) (ls : Array Bool) (a : Act) (bs : List (Nat × Obj)) (w : World), CL V bs w →
    growAny P md ops V mks cl Q n g f ls a bs → wpAny P md ops Q (f + g) ls a w := by
  intro f
  induction f with
  | zero => intro ls a bs w hw h; rw [Nat.zero_add]; exact h.2 w hw
  | succ f ih =>
    intro ls a bs w hw h
    rw [Nat.succ_add]
    refine ⟨fun h0 => absurd h0 h.1, fun i hi => ?_⟩
    have hh := (h.2 i hi).2
    unfold gOp at hh
    unfold wpOp
    split
    · rename_i ho; simp only [ho] at hh
    · rename_i o ho
      simp only [ho] at hh
      cases hm : mks i with
      | none =>
        simp only [hm] at hh
        split
        · rename_i hwn
          rw [if_pos hwn] at hh
          obtain ⟨v, h1, _, h2⟩ := hh
          refine .inl ?_
          unfold Oper.wp
          rcases h1 w hw with e | ⟨fn, args, e, hc⟩
          · rw [e]; exact ih _ _ _ _ hw h2
          · rw [e]
            refine hc.mono ?_
            rintro _ w' ⟨rfl, hg⟩
            exact ih _ _ _ _ (hw.step hg) h2
        · rename_i hwn
          rw [if_neg hwn] at hh
          exact ih _ _ _ _ hw hh
      | some p =>
        obtain ⟨mk, ob⟩ := p
        simp only [hm] at hh
        rw [if_pos hh.1]
        refine .inl ?_
        unfold Oper.wp
        rw [hh.2.1 w hw.grows]
        exact ih _ _ _ _ (hw.push ob) (hh.2.2 w.heap.size)
theorem FixAt.of_same {bs : List (Nat × Obj)} {o : Oper} {v : Value} {a a' : Act} (h : FixAt P V bs o a v) (he : execOp a'.eval o = execOp a.eval o) : FixAt P V bs o a' v := by
  unfold FixAt at *; rw [he]; exact h
theorem FixAt.more {bs : List (Nat × Obj)} {p : Nat × Obj} {o : Oper} {v : Value} {a : Act} (h : FixAt P V bs o a v) : FixAt P V (p :: bs) o a v := fun w hw => h w hw.drop
theorem FixV.of_same {o : Oper} {v : Value} {a a' : Act} (h : FixV P V o a v) (he : execOp a'.eval o = execOp a.eval o) : FixV P V o a' v := by
  unfold FixV at *; rw [he]; exact h
theorem MkAt.of_same {o : Oper} {mk : Nat → Value} {ob : Obj} {a a' : Act} (h : MkAt P V o a mk ob) (he : execOp a'.eval o = execOp a.eval o) : MkAt P V o a' mk ob := by
  unfold MkAt at *; rw [he]; exact h
/-- An operation of one value is past by another one of the head. -/
theorem gOp_past {mks : Mks} {cl : Nat → Bool} {j : Nat} {oi oj : Oper} {v : Value} (hj : ops[j]? = some oj) (hap : oi.apart ops oj = true)
    (hsi : ∀ cs b, oi.op ≠ .select cs b) (hsj : ∀ cs b, oj.op ≠ .select cs b) {K : Act → List (Nat × Obj) → Prop} {a : Act} {bs : List (Nat × Obj)}
    {b : Bool} (hw : Region.wanted oi (yielded ops a.tmps) = true) (hy : FixAt P V bs oi a v) (hz : b = false → FixV P V oi a v) (h : gOp P ops V mks cl j K (a.put oi.dst v) bs) :
    gOp P ops V mks cl j (fun a' bs' => (Region.wanted oi (yielded ops a'.tmps) = true ∧ FixAt P V bs' oi a' v ∧ (b = false → FixV P V oi a' v)) ∧ K (a'.put oi.dst v) bs') a bs := by
  obtain ⟨h1, h2, h3⟩ := Oper.apart_spec hap
  have keep : ∀ u, Region.wanted oi (yielded ops (a.put oj.dst u).tmps) = true ∧ FixAt P V bs oi (a.put oj.dst u) v ∧ (b = false → FixV P V oi (a.put oj.dst u) v) := fun u =>
    ⟨(wanted_put oi a oj.dst u h3).trans hw, hy.of_same (execOp_put oi hsi a oj.dst u h3), fun e => (hz e).of_same (execOp_put oi hsi a oj.dst u h3)⟩
  unfold gOp at *
  simp only [hj] at *
  rw [wanted_put oj a oi.dst v h1] at h
  have e := execOp_put oj hsj a oi.dst v h1
  cases hm : mks j with
  | none =>
    simp only [hm] at h ⊢
    by_cases hw' : Region.wanted oj (yielded ops a.tmps) = true
    · rw [if_pos hw'] at h ⊢
      obtain ⟨u, hu, hv, hn⟩ := h
      exact ⟨u, hu.of_same e.symm, fun q => (hv q).of_same e.symm, keep u, by rw [← Act.put_comm a v u h2]; exact hn⟩
    · rw [if_neg hw'] at h ⊢
      exact ⟨keep _, by rw [← Act.put_comm a v undef h2]; exact h⟩
  | some p =>
    obtain ⟨mk, ob⟩ := p
    simp only [hm] at h ⊢
    exact ⟨h.1, h.2.1.of_same e.symm, fun b => ⟨⟨(keep _).1, (keep _).2.1.more, (keep _).2.2⟩, by rw [← Act.put_comm a v (mk b) h2]; exact h.2.2 b⟩⟩
theorem gfree_set {i j : Nat} {oi : Oper} {ls : Array Bool}
    (hfree : ∀ j oj, ops[j]? = some oj → j ≠ i → ls.getD j true = false → (∀ e ∈ oj.after, Region.binds md e = true → e.on ≠ i) → oi.apart ops oj = true)
    (hjun : ls.getD j true = false) : ∀ k ok, ops[k]? = some ok → k ≠ i → (ls.setIfInBounds j true).getD k true = false →
      (∀ e ∈ ok.after, Region.binds md e = true → e.on ≠ i) → oi.apart ops ok = true := by
  intro k ok hk hki hun' hno
  by_cases hjk : j = k
  · subst hjk; exact hfree j ok hk hki hjun hno
  · rw [getD_set_ne true hjk] at hun'; exact hfree k ok hk hki hun' hno
theorem gnot_waits {i : Nat} {oj : Oper} {ls : Array Bool} (hi : ls.getD i true = false) (hall : ∀ e ∈ oj.after, Region.binds md e = true → ls.getD e.on false = true) :
    ∀ e ∈ oj.after, Region.binds md e = true → e.on ≠ i := fun e he hb heq => by
  have h1 := hall e he hb
  rw [heq, getD_both hi] at h1
  cases h1
/-- An operation of one value may be taken first. -/
theorem growAny_fix {mks : Mks} {cl : Nat → Bool} {n g i : Nat} {oi : Oper} {v : Value} (hi : ops[i]? = some oi) (hin : i < n) (hmi : mks i = none)
    (hsel : ∀ (j : Nat) (o : Oper) cs b, ops[j]? = some o → o.op ≠ .select cs b)
    (hs : Region.sinkB md ops n = true) (hc : Region.chainB md ops n = true) (hn : n < ops.size) :
    ∀ (f : Nat) (ls : Array Bool) (a : Act) (bs : List (Nat × Obj)), HeadInv md ops n ls →
      (∀ j oj, ops[j]? = some oj → j ≠ i → ls.getD j true = false → (∀ e ∈ oj.after, Region.binds md e = true → e.on ≠ i) → oi.apart ops oj = true) →
      i ∈ Region.ready md ops ls → Region.wanted oi (yielded ops a.tmps) = true → FixAt P V bs oi a v → (cl i = false → FixV P V oi a v) →
      growAny P md ops V mks cl Q n g f (ls.setIfInBounds i true) (a.put oi.dst v) bs → growAny P md ops V mks cl Q n g (f + 1) ls a bs := by
  intro f
  induction f with
  | zero =>
    intro ls a bs inv hfree hr hw hy hz H
    refine ⟨List.ne_nil_of_mem hr, fun j hj => ?_⟩
    have hjn : j < n := by
      rcases Nat.lt_or_ge j n with h | h
      · exact h
      · exact absurd hj (tail_waits hs hc hn inv _ i rfl hin (mem_ready.1 hr).1 j h)
    refine ⟨hjn, ?_⟩
    by_cases hji : j = i
    · subst hji
      unfold gOp; simp only [hi, hmi]; rw [if_pos hw]; exact ⟨v, hy, hz, H⟩
    · exact absurd (H.1 j (ready_mono hj hji)) (by omega)
  | succ f ih =>
    intro ls a bs inv hfree hr hw hy hz H
    refine ⟨List.ne_nil_of_mem hr, fun j hj => ?_⟩
    have hjn : j < n := by
      rcases Nat.lt_or_ge j n with h | h
      · exact h
      · exact absurd hj (tail_waits hs hc hn inv _ i rfl hin (mem_ready.1 hr).1 j h)
    refine ⟨hjn, ?_⟩
    by_cases hji : j = i
    · subst hji
      unfold gOp; simp only [hi, hmi]; rw [if_pos hw]; exact ⟨v, hy, hz, H⟩
    · obtain ⟨hjun, oj, hoj, hall⟩ := mem_ready.1 hj
      have h2 := gOp_past hoj (hfree j oj hoj hji hjun (gnot_waits (mem_ready.1 hr).1 hall)) (fun cs b => hsel i oi cs b hi) (fun cs b => hsel j oj cs b hoj) hw hy hz (H.2 j (ready_mono hj hji)).2
      refine gOp_mono (fun a' bs' h3 => ih (ls.setIfInBounds j true) a' bs' (inv.set hj hjn) (gfree_set hfree hjun) (ready_mono hr (Ne.symm hji)) h3.1.1 h3.1.2.1 h3.1.2.2 ?_) h2
      rw [Array.setIfInBounds_comm _ _ hji]; exact h3.2
/-- Operation j waits for i, directly or by others. -/
def waitsT (md : Region.Mode) (ops : Array Oper) (i : Nat) : Nat → Nat → Bool
  | 0, _ => false
  | f + 1, j => match ops[j]? with
    | some oj => oj.after.any fun e => Region.binds md e && (e.on == i || waitsT md ops i f e.on)
    | none => false
theorem waitsT_listed {i n : Nat} {ls : Array Bool} (inv : HeadInv md ops n ls) : ∀ (f j : Nat), waitsT md ops i f j = true →
    (∃ oj, ops[j]? = some oj ∧ ∀ e ∈ oj.after, Region.binds md e = true → ls.getD e.on false = true) → ls.getD i false = true := by
  intro f
  induction f with
  | zero => intro j h; simp [waitsT] at h
  | succ f ih =>
    intro j h ⟨oj, hj, hall⟩
    simp only [waitsT, hj] at h
    obtain ⟨e, he, hb⟩ := Array.any_eq_true'.1 h
    simp only [Bool.and_eq_true, Bool.or_eq_true, beq_iff_eq] at hb
    have hl := hall e he hb.1
    rcases hb.2 with e1 | h1
    · rw [← e1]; exact hl
    · have hlt : e.on < ops.size := by
        rw [← inv.size]
        rcases Nat.lt_or_ge e.on ls.size with h | h
        · exact h
        · rw [show ls.getD e.on false = false by simp [Array.getElem?_eq_none h]] at hl; cases hl
      have hk : ops[e.on]? = some ops[e.on] := Array.getElem?_eq_getElem hlt
      exact ih e.on h1 ⟨_, hk, fun e' he' hb' => inv.closed e.on _ hk hl e' he' hb'⟩
/-- An operation that lays a block may be taken first, if what may come up before it neither calls nor waits for it. -/
theorem growAny_mk {mks : Mks} {cl : Nat → Bool} {n g i : Nat} {oi : Oper} {mk : Nat → Value} {ob : Obj} (hi : ops[i]? = some oi) (hin : i < n) (hmi : mks i = some (mk, ob))
    (hsel : ∀ (j : Nat) (o : Oper) cs b, ops[j]? = some o → o.op ≠ .select cs b)
    (hs : Region.sinkB md ops n = true) (hc : Region.chainB md ops n = true) (hn : n < ops.size) :
    ∀ (f : Nat) (ls : Array Bool) (a : Act) (bs : List (Nat × Obj)), HeadInv md ops n ls → (∀ j, j < n → j ≠ i → ls.getD j true = false → mks j ≠ none ∨ cl j = false ∨ ∃ f, waitsT md ops i f j = true) →
      (∀ j oj, ops[j]? = some oj → j ≠ i → ls.getD j true = false → (∀ e ∈ oj.after, Region.binds md e = true → e.on ≠ i) → oi.apart ops oj = true) →
      i ∈ Region.ready md ops ls → Region.wanted oi (yielded ops a.tmps) = true → MkAt P V oi a mk ob →
      (∀ b, growAny P md ops V mks cl Q n g f (ls.setIfInBounds i true) (a.put oi.dst (mk b)) ((b, ob) :: bs)) → growAny P md ops V mks cl Q n g (f + 1) ls a bs := by
  intro f
  induction f with
  | zero =>
    intro ls a bs inv _ hfree hr hw hy H
    refine ⟨List.ne_nil_of_mem hr, fun j hj => ?_⟩
    have hjn : j < n := by
      rcases Nat.lt_or_ge j n with h | h
      · exact h
      · exact absurd hj (tail_waits hs hc hn inv _ i rfl hin (mem_ready.1 hr).1 j h)
    refine ⟨hjn, ?_⟩
    by_cases hji : j = i
    · subst hji
      unfold gOp; simp only [hi, hmi]; exact ⟨hw, hy, H⟩
    · exact absurd ((H 0).1 j (ready_mono hj hji)) (by omega)
  | succ f ih =>
    intro ls a bs inv hmk hfree hr hw hy H
    refine ⟨List.ne_nil_of_mem hr, fun j hj => ?_⟩
    have hjn : j < n := by
      rcases Nat.lt_or_ge j n with h | h
      · exact h
      · exact absurd hj (tail_waits hs hc hn inv _ i rfl hin (mem_ready.1 hr).1 j h)
    refine ⟨hjn, ?_⟩
    by_cases hji : j = i
    · subst hji
      unfold gOp; simp only [hi, hmi]; exact ⟨hw, hy, H⟩
    · obtain ⟨hjun, oj, hoj, hall⟩ := mem_ready.1 hj
      obtain ⟨h1, h2, h3⟩ := Oper.apart_spec (hfree j oj hoj hji hjun (gnot_waits (mem_ready.1 hr).1 hall))
      have hsi := fun cs b => hsel i oi cs b hi
      have hsj := fun cs b => hsel j oj cs b hoj
      have H' := fun b => ((H b).2 j (ready_mono hj hji)).2
      unfold gOp at H' ⊢
      simp only [hoj] at H' ⊢
      have hmk' : ∀ k, k < n → k ≠ i → (ls.setIfInBounds j true).getD k true = false → mks k ≠ none ∨ cl k = false ∨ ∃ f, waitsT md ops i f k = true := fun k hk hki hun => by
        by_cases hkj : j = k
        · subst hkj
          exact hmk j hk hki hjun
        · rw [getD_set_ne true hkj] at hun; exact hmk k hk hki hun
      cases hm : mks j with
      | none =>
        simp only [hm] at H' ⊢
        have hcl : cl j = false := by
          rcases hmk j hjn hji hjun with h | h | ⟨f, h⟩
          · exact absurd hm h
          · exact h
          · have := waitsT_listed inv f j h ⟨oj, hoj, hall⟩
            rw [getD_both (mem_ready.1 hr).1] at this
            cases this
        have ew : ∀ b, Region.wanted oj (yielded ops (a.put oi.dst (mk b)).tmps) = Region.wanted oj (yielded ops a.tmps) := fun b => wanted_put oj a oi.dst (mk b) h1
        simp only [ew] at H'
        by_cases hwj : Region.wanted oj (yielded ops a.tmps) = true
        · rw [if_pos hwj]
          simp only [hwj, if_true] at H'
          obtain ⟨v, _, q2, _⟩ := H' 0
          have ee : ∀ b, execOp (a.put oi.dst (mk b)).eval oj = execOp a.eval oj := fun b => execOp_put oj hsj a oi.dst (mk b) h1
          have r0 := (q2 hcl).of_same (ee 0).symm
          refine ⟨v, fun w hw => .inl (r0 w hw.grows), fun _ => r0, ?_⟩
          refine ih _ _ _ (inv.set hj hjn) hmk' (gfree_set hfree hjun) (ready_mono hr (Ne.symm hji)) ((wanted_put oi a oj.dst _ h3).trans hw) (hy.of_same (execOp_put oi hsi a oj.dst _ h3)) (fun b => ?_)
          obtain ⟨v', _, q2', q3'⟩ := H' b
          have r1 := (q2' hcl).of_same (ee b).symm
          have ev : v' = v := by
            have e1 := r0 V (Grows.refl V)
            rw [r1 V (Grows.refl V)] at e1
            injection e1 with e2 _
            injection e2
          subst ev
          rw [Array.setIfInBounds_comm _ _ hji, ← Act.put_comm a (mk b) v' h2]
          exact q3'
        · rw [if_neg hwj]
          simp only [hwj] at H'
          refine ih _ _ _ (inv.set hj hjn) hmk' (gfree_set hfree hjun) (ready_mono hr (Ne.symm hji)) ((wanted_put oi a oj.dst _ h3).trans hw) (hy.of_same (execOp_put oi hsi a oj.dst _ h3)) (fun b => ?_)
          rw [Array.setIfInBounds_comm _ _ hji, ← Act.put_comm a (mk b) undef h2]
          exact H' b
      | some p =>
        obtain ⟨mk', ob'⟩ := p
        simp only [hm] at H' ⊢
        refine ⟨(wanted_put oj a oi.dst (mk 0) h1).symm.trans (H' 0).1, (H' 0).2.1.of_same (execOp_put oj hsj a oi.dst (mk 0) h1).symm, fun b' => ?_⟩
        refine ih _ _ _ (inv.set hj hjn) hmk' (gfree_set hfree hjun) (ready_mono hr (Ne.symm hji)) ((wanted_put oi a oj.dst _ h3).trans hw) (hy.of_same (execOp_put oi hsi a oj.dst _ h3)) (fun b => ?_)
        rw [Array.setIfInBounds_comm _ _ hji, ← Act.put_comm a (mk b) (mk' b') h2]
        exact growAny_perm _ _ _ _ _ (List.Perm.swap _ _ _) ((H' b).2.2 b')
/-- The walk: the head in a given order, what lays blocks last. -/
def wpGrow (P : Program) (ops : Array Oper) (V : World) (mks : Mks) (cl : Nat → Bool) (Q : Exit → Act → World → Prop) (tail : List Oper) : List Nat → Act → List (Nat × Obj) → Prop
  | [], a, bs => ∀ w, CL V bs w → wpList P ops Q tail a w
  | k :: r, a, bs => gOp P ops V mks cl k (wpGrow P ops V mks cl Q tail r) a bs
def ordB (md : Region.Mode) (ops : Array Oper) (mks cl : Nat → Bool) (n g : Nat) : List Nat → Array Bool → Bool
  | [], ls => Region.seqB md ops g n ls
  | k :: r, ls => decide (k < n) && (Region.ready md ops ls).contains k && Region.free md ops ls k && (!mks k || (List.range n).all fun j => ls.getD j true || j == k || mks j || !cl j || waitsT md ops k n j) && ordB md ops mks cl n g r (ls.setIfInBounds k true)
theorem growAny_ord {mks : Mks} {cl : Nat → Bool} {n : Nat} {tail : List Oper} (hsel : Region.noSelect ops = true)
    (hs : Region.sinkB md ops n = true) (hc : Region.chainB md ops n = true) (hn : n < ops.size) (htail : ∀ j, tail[j]? = ops[n + j]?) (hlen : tail.length = ops.size - n)
    (hguard : ∀ j o, ops[j]? = some o → j < n → mks j = none → o.guard = none) :
    ∀ (r : List Nat) (ls : Array Bool) (a : Act) (bs : List (Nat × Obj)), HeadInv md ops n ls → ordB md ops (fun i => (mks i).isSome) cl n (ops.size - n) r ls = true →
      wpGrow P ops V mks cl Q tail r a bs → growAny P md ops V mks cl Q n (ops.size - n) r.length ls a bs := by
  intro r
  induction r with
  | nil =>
    intro ls a bs inv hB h
    simp only [ordB] at hB
    refine ⟨seqB_ready hB, fun w hw => ?_⟩
    have := wpAny_of_seq (md := md) (Q' := Q) tail n ls a w htail (by rw [hlen]; exact hB) (h w hw)
    rwa [hlen] at this
  | cons k r ih =>
    intro ls a bs inv hB h
    simp only [ordB, Bool.and_eq_true, decide_eq_true_eq, List.contains_iff_mem] at hB
    obtain ⟨⟨⟨⟨hkn, hr⟩, hf⟩, hm⟩, hB⟩ := hB
    have h0 : ∃ o, ops[k]? = some o := ⟨_, Array.getElem?_eq_getElem (by omega)⟩
    obtain ⟨o, h0⟩ := h0
    have inv' := inv.set hr hkn
    unfold wpGrow gOp at h
    simp only [h0] at h
    cases hmk : mks k with
    | none =>
      simp only [hmk] at h
      have hw : Region.wanted o (yielded ops a.tmps) = true := by unfold Region.wanted; rw [hguard k o h0 hkn hmk]
      rw [if_pos hw] at h
      obtain ⟨v, h1, hv, h2⟩ := h
      exact growAny_fix h0 hkn hmk (Region.noSelect_spec hsel) hs hc hn _ ls a bs inv (Region.free_spec h0 hf) hr hw h1 hv (ih _ _ _ inv' hB h2)
    | some p =>
      obtain ⟨mk, ob⟩ := p
      simp only [hmk] at h
      refine growAny_mk h0 hkn hmk (Region.noSelect_spec hsel) hs hc hn _ ls a bs inv (fun j hj hji hun => ?_) (Region.free_spec h0 hf) hr h.1 h.2.1 (fun b => ih _ _ _ inv' hB (h.2.2 b))
      simp only [hmk, Option.isSome_some, Bool.not_true, Bool.false_or, List.all_eq_true, List.mem_range, Bool.or_eq_true, beq_iff_eq, Bool.not_eq_true'] at hm
      rcases hm j hj with (((h1 | h1) | h1) | h1) | h1
      · rw [hun] at h1; cases h1
      · exact absurd h1 hji
      · left; intro e; rw [e] at h1; cases h1
      · exact .inr (.inl h1)
      · exact .inr (.inr ⟨_, h1⟩)
def growB (ops : Array Oper) (n : Nat) (mks cl : Nat → Bool) (ord : List Nat) : Bool :=
  Region.noSelect ops && decide (n < ops.size) && Region.sinkB .any ops n && Region.chainB .any ops n && decide (ord.length = n) && ordB .any ops mks cl n (ops.size - n) ord (Array.replicate ops.size false) && ops.toList.all (fun o => o.guard.isNone)
/-- The blocks that operations of the head lay. -/
def mksOf (al : List (Nat × (Nat → Value) × Obj)) : Mks := fun i => (al.find? fun p => p.1 == i).map Prod.snd
theorem region_grow {id : Nat} {a : Act} {w : World} {l : List Oper} (n : Nat) (ord : List Nat) (al : List (Nat × (Nat → Value) × Obj)) (cl : List Nat)
    (hm : P.follows .mixedOrders = true) (hB : growB l.toArray n (fun i => (mksOf al i).isSome) (fun i => cl.contains i) ord = true)
    (h : wpGrow P l.toArray w.drew (mksOf al) (fun i => cl.contains i) Q (l.drop n) ord a []) : (Code.region id l.toArray true).wp P Q a w := by
  simp only [growB, Bool.and_eq_true, decide_eq_true_eq] at hB
  obtain ⟨⟨⟨⟨⟨⟨hsel, hn⟩, hs⟩, hc⟩, ho⟩, hord⟩, hg⟩ := hB
  have inv0 : HeadInv .any l.toArray n (Array.replicate l.toArray.size false) :=
    ⟨by simp, fun j oj _ hl => (by rw [getD_replicate_false] at hl; cases hl), fun t _ ht => getD_in (by simpa using ht) (getD_replicate_false _ _)⟩
  have H := growAny_ord (P := P) (md := .any) (Q := Q) (V := w.drew) (mks := mksOf al) (cl := fun i => cl.contains i) (tail := l.drop n) hsel hs hc hn (fun j => by simp [List.getElem?_drop]) (by simp)
    (fun j o hj _ _ => by
      have := List.all_eq_true.1 hg o (Array.mem_toList_iff.2 (Array.mem_of_getElem? hj))
      simpa using this) ord _ a [] inv0 hord h
  have := growAny_sound (Q := Q) _ _ _ _ w.drew (CL.nil _) H
  rw [ho, show n + (l.toArray.size - n) = l.toArray.size by omega] at this
  exact wp_region_any hm this
/-- Steps. -/
theorem grow_v {mks : Mks} {cl : Nat → Bool} {tail : List Oper} {k : Nat} {r : List Nat} {a : Act} {bs : List (Nat × Obj)} {o : Oper} {rest : List Oper} (hi : ops.toList.drop k = o :: rest) (hmk : mks k = none) (hg : Region.wanted o (yielded ops a.tmps) = true)
    (h : ∃ v, (∀ w', Grows V w' → (execOp a.eval o).run P w' = .ok (.value v) w') ∧ wpGrow P ops V mks cl Q tail r (a.put o.dst v) bs) : wpGrow P ops V mks cl Q tail (k :: r) a bs := by
  have hi' : ops[k]? = some o := by have := congrArg (fun l => l[0]?) hi; simpa using this
  obtain ⟨v, h1, h2⟩ := h
  unfold wpGrow gOp; simp only [hi', hmk]; rw [if_pos hg]
  exact ⟨v, fun w hw => .inl (h1 w hw.grows), fun _ => h1, h2⟩
theorem grow_c {mks : Mks} {cl : Nat → Bool} {tail : List Oper} {k : Nat} {r : List Nat} {a : Act} {bs : List (Nat × Obj)} {o : Oper} {rest : List Oper} (hi : ops.toList.drop k = o :: rest) (hmk : mks k = none) (hcl : cl k = true) (hg : Region.wanted o (yielded ops a.tmps) = true)
    (h : ∃ f args v, (∀ w', Grows V w' → (execOp a.eval o).run P w' = .ok (.enter f args) w') ∧ (∀ w', Grows V w' → Calls P f args w' fun e w'' => e = .returned v ∧ Below w'.heap.size w' w'') ∧ wpGrow P ops V mks cl Q tail r (a.put o.dst v) bs) :
    wpGrow P ops V mks cl Q tail (k :: r) a bs := by
  have hi' : ops[k]? = some o := by have := congrArg (fun l => l[0]?) hi; simpa using this
  obtain ⟨f, args, v, h1, h2, h3⟩ := h
  unfold wpGrow gOp; simp only [hi', hmk]; rw [if_pos hg]
  exact ⟨v, fun w hw => .inr ⟨f, args, h1 w hw.grows, h2 w hw.grows⟩, (fun e => by rw [hcl] at e; cases e), h3⟩
theorem grow_m {mks : Mks} {cl : Nat → Bool} {tail : List Oper} {k : Nat} {r : List Nat} {a : Act} {bs : List (Nat × Obj)} {o : Oper} {rest : List Oper} {mk : Nat → Value} {ob : Obj} (hi : ops.toList.drop k = o :: rest) (hmk : mks k = some (mk, ob)) (hg : Region.wanted o (yielded ops a.tmps) = true)
    (h : (∀ w', Grows V w' → (execOp a.eval o).run P w' = .ok (.value (mk w'.heap.size)) (w'.alloc ob)) ∧ ∀ b, wpGrow P ops V mks cl Q tail r (a.put o.dst (mk b)) ((b, ob) :: bs)) :
    wpGrow P ops V mks cl Q tail (k :: r) a bs := by
  have hi' : ops[k]? = some o := by have := congrArg (fun l => l[0]?) hi; simpa using this
  unfold wpGrow gOp; simp only [hi', hmk]
  exact ⟨hg, h.1, h.2⟩
theorem grow_end {mks : Mks} {cl : Nat → Bool} {tail : List Oper} {a : Act} {bs : List (Nat × Obj)} (h : ∀ w, CL V bs w → wpList P ops Q tail a w) : wpGrow P ops V mks cl Q tail [] a bs := h
end
/-- What a known block gives. -/
theorem has_cells {w : World} {b : Nat} {cs : List Value} {t : TypeId} (h : w.heap[b]? = some (.cells cs.toArray t)) : (∀ o v, cs[o]? = some v → w.cell? ⟨b, o, none⟩ = some v) ∧ (∀ o, w.frozen? ⟨b, o, none⟩ = false) ∧ b < w.heap.size := by
  refine ⟨fun o v hv => ?_, fun o => ?_, (Array.getElem?_eq_some_iff.1 h).1⟩
  · simp [World.cell?, h, hv]
  · simp [World.frozen?, h]
end Go.Proofs.YtdnkkbmpefhbjaaGreatDoor
namespace Go.Proofs.YtdnkkbmpefhbjaaGreatDoor
set_option linter.all false
open Go.RowKit
theorem below_both {B : Nat} {V w : World} (h : Below B V w) (a : Addr) (v : Value) : Below B (V.setCell a v) (w.setCell a v) :=
  ⟨h.os, h.tape, h.output, by simp only [World.setCell, Array.size_modify]; exact h.size,
   fun k hk => by simp only [World.setCell, Array.getElem?_modify, h.block k hk]⟩
theorem set_top (V : World) (c : Array Value) (t o : Nat) (d : Value) : (V.alloc (.cells c t)).setCell ⟨V.heap.size, o, none⟩ d = V.alloc (.cells (c.setIfInBounds o d) t) := by
  have e : ∀ (h : Array Obj) (f : Obj → Obj) (o : Obj), (h.push o).modify h.size f = h.push (f o) := fun h f o => by
    apply Array.ext
    · simp
    · intro i h1 h2
      simp only [Array.getElem_modify, Array.getElem_push]
      by_cases hi : i < h.size
      · rw [if_neg (by omega), dif_pos hi, dif_pos hi]
      · rw [if_pos (by simp at h1; omega), dif_neg hi, dif_neg hi]
  simp only [World.setCell, World.alloc, e]
  rfl
theorem below_four {B n t : Nat} {V w : World} {c0 c1 c2 c3 d0 d1 d2 d3 : Value} (h : Below B (V.alloc (.cells #[c0, c1, c2, c3] t)) w) (hn : n = V.heap.size) :
    Below B (V.alloc (.cells #[d0, d1, d2, d3] t)) ((((w.setCell ⟨n, 0, none⟩ d0).setCell ⟨n, 1, none⟩ d1).setCell ⟨n, 2, none⟩ d2).setCell ⟨n, 3, none⟩ d3) := by
  subst hn
  have h' := below_both (below_both (below_both (below_both h ⟨V.heap.size, 0, none⟩ d0) ⟨V.heap.size, 1, none⟩ d1) ⟨V.heap.size, 2, none⟩ d2) ⟨V.heap.size, 3, none⟩ d3
  simp only [set_top] at h'
  exact h'
end Go.Proofs.YtdnkkbmpefhbjaaGreatDoor
namespace Go.Proofs.YtdnkkbmpefhbjaaGreatDoor
set_option linter.all false
open Go Go.RowKit
/-- No select and no defer statement. -/
def noDefer (ops : Array Oper) : Bool := Region.noSelect ops && ops.toList.all fun o => match o.op with | .defer _ => false | _ => true
theorem noDefer_spec {ops : Array Oper} (h : noDefer ops = true) : ∀ (j : Nat) (o : Oper), ops[j]? = some o → ∀ c, o.op ≠ .defer c := fun j o hj c e => by
  unfold noDefer at h
  rw [Bool.and_eq_true] at h
  have := List.all_eq_true.1 h.2 o (by
    rw [← Array.getElem?_toList] at hj
    exact List.mem_of_getElem? hj)
  rw [e] at this
  cases this
theorem noDefer_sel {ops : Array Oper} (h : noDefer ops = true) : Region.noSelect ops = true := by
  unfold noDefer at h
  rw [Bool.and_eq_true] at h
  exact h.1
end Go.Proofs.YtdnkkbmpefhbjaaGreatDoor
namespace Go.Proofs.YtdnkkbmpefhbjaaGreatDoor
set_option linter.all false
open Go.RowKit
theorem ret2 {a b c d : Value} (h : a = c) (k : b = d) : Ending.returned (.tuple #[a, b]) = .returned (.tuple #[c, d]) := by rw [h, k]
theorem ru64 {a : Int} {n : Nat} (h : a = (n : Int)) : Value.int .u64 a = .int .u64 (n : Int) := by rw [h]
theorem ru64n {a n : Nat} (h : a = n) : Value.int .u64 (a : Int) = .int .u64 (n : Int) := by rw [h]
theorem ret_u64 {a : Int} {n : Nat} (h : a = (n : Int)) : Ending.returned (Value.int .u64 a) = Ending.returned (Value.int .u64 (n : Int)) := by rw [h]
set_option maxHeartbeats 400000 in
theorem fromBit_c (x : Nat) (hx : x < W) (w : World) :
    Calls Tryz.prog 162 #[.int .u64 (x : Int)] w fun e w' => e = .returned (.int .u64 ((mb x : Nat) : Int)) ∧ w = w' := by
  go_enter Tryz.func162, Tryz.ntmps162
  go_wp2
  go_ret
  exact ⟨ret_u64 (fromBit_val hx), rfl⟩
set_option maxHeartbeats 400000 in
theorem maskChoose_c (s a b : Nat) (ha : a < W) (hb : b < W) (w : World) :
    Calls Tryz.prog 176 #[.int .u64 ((mb s : Nat) : Int), .int .u64 (a : Int), .int .u64 (b : Int)] w fun e w' => e = .returned (.int .u64 ((sel s a b : Nat) : Int)) ∧ w = w' := by
  go_enter Tryz.func176, Tryz.ntmps176
  go_wp2
  go_ret
  exact ⟨ret_u64 (choose_val ha hb), rfl⟩
/-- math/bits.Add64, Sub64: the model's own entries. -/
theorem add64_c (x y c : Nat) (hc : c ≤ 1) (w : World) :
    (callFunc 150 #[.int .u64 (x : Int), .int .u64 (y : Int), .int .u64 (c : Int)]).run Tryz.prog w =
      .ok (.value (.tuple #[.int .u64 ((addLo x y c : Nat) : Int), .int .u64 ((addHi x y c : Nat) : Int)])) w := by
  rw [run_callFunc_extern Tryz.func150 (by kernel_rfl) (by kernel_rfl) (by kernel_rfl) (e := add64Entry) (by kernel_rfl), run_add64 x y c (by omega) (by omega) (by omega) (by omega)]
  unfold addLo addHi W
  simp only [Result.andThen]
  congr 5 <;> omega
theorem add64_0 (x y : Nat) (w : World) :
    (callFunc 150 #[.int .u64 (x : Int), .int .u64 (y : Int), .int .u64 0]).run Tryz.prog w =
      .ok (.value (.tuple #[.int .u64 ((addLo x y 0 : Nat) : Int), .int .u64 ((addHi x y 0 : Nat) : Int)])) w := add64_c x y 0 (by omega) w
def sub64Entry' : Array Value → Sem Value := fun args => do
  let (x, y, b) ← Extern.MathBitsCarry.three "Sub64" args
  pure (Extern.MathBitsCarry.pair ((x + Extern.MathBitsCarry.m64 - y - b) % Extern.MathBitsCarry.m64) (if x < y + b then 1 else 0))
theorem run_sub64' {P : Program} (x y b : Nat) (hb : b ≤ 1) (w : World) :
    (sub64Entry' #[.int .u64 x, .int .u64 y, .int .u64 b]).run P w =
      .ok (.tuple #[.int .u64 ((subLo x y b : Nat) : Int), .int .u64 ((subHi x y b : Nat) : Int)]) w := by
  have : b = 0 ∨ b = 1 := by omega
  unfold subLo subHi W
  rcases this with rfl | rfl <;> rfl
theorem sub64_c (x y c : Nat) (hc : c ≤ 1) (w : World) :
    (callFunc 175 #[.int .u64 (x : Int), .int .u64 (y : Int), .int .u64 (c : Int)]).run Tryz.prog w =
      .ok (.value (.tuple #[.int .u64 ((subLo x y c : Nat) : Int), .int .u64 ((subHi x y c : Nat) : Int)])) w := by
  rw [run_callFunc_extern Tryz.func175 (by kernel_rfl) (by kernel_rfl) (by kernel_rfl) (e := sub64Entry') (by kernel_rfl), run_sub64' x y c hc]
  rfl
theorem mul64_c (x y : Nat) (hx : x < W) (hy : y < W) (w : World) :
    Calls Tryz.prog 170 #[.int .u64 x, .int .u64 y] w fun e w' => e = .returned (.tuple #[.int .u64 ((mulHi x y : Nat) : Int), .int .u64 ((mulLo x y : Nat) : Int)]) ∧ w = w' :=
  (Tryz.bits_Mul64 x y hx hy w).mono fun _ _ h => ⟨h.1, h.2.symm⟩
set_option maxHeartbeats 400000 in
theorem multiplyAdd_c (a b c d : Nat) (ha : a < W) (hb : b < W) (hc : c < W) (hd : d < W) (w : World) :
    Calls Tryz.prog 149 #[.int .u64 (a : Int), .int .u64 (b : Int), .int .u64 (c : Int), .int .u64 (d : Int)] w fun e w' => e = .returned (.tuple #[.int .u64 ((maHi a b c d : Nat) : Int), .int .u64 ((maLo a b c d : Nat) : Int)]) ∧ w = w' := by
  go_enter Tryz.func149, Tryz.ntmps149
  go_wp2_with (first | (go_at_call 170; refine (mul64_c _ _ ha hb _).mono ?_; rintro e w' ⟨rfl, rfl⟩) | simp only [add64_0])
  go_ret2
  exact ⟨ret2 (ru64 (ma_hi ha hb hc hd)) (ru64n ma_lo), rfl⟩
end Go.Proofs.YtdnkkbmpefhbjaaGreatDoor
namespace Go.Proofs.YtdnkkbmpefhbjaaGreatDoor
set_option linter.all false
open Go.RowKit
set_option maxRecDepth 100000 in
set_option maxHeartbeats 1000000 in
theorem apply_c (f : Nat) (lo hi : Nat → Nat → Nat → Nat) (hstep : ∀ (x y c : Nat) (w : World), c ≤ 1 → (callFunc f #[.int .u64 (x : Int), .int .u64 (y : Int), .int .u64 (c : Int)]).run Tryz.prog w =
      .ok (.value (.tuple #[.int .u64 ((lo x y c : Nat) : Int), .int .u64 ((hi x y c : Nat) : Int)])) w) (hle : ∀ x y c, x < W → y < W → c ≤ 1 → hi x y c ≤ 1) (hlo : ∀ x y c, lo x y c < W) (a b : Nat) (w : World) :
    Calls Tryz.prog 171 #[.agg #[.func (.func f) #[] #[]], vec a, vec b] w fun e w' => e = .returned (.tuple #[vec (chV lo hi a b), .int .u64 ((chC hi a b : Nat) : Int)]) ∧ Below w.heap.size w w' := by
  have h0 : ∀ (x y : Nat) (w : World), (callFunc f #[.int .u64 (x : Int), .int .u64 (y : Int), .int .u64 0]).run Tryz.prog w =
      .ok (.value (.tuple #[.int .u64 ((lo x y 0 : Nat) : Int), .int .u64 ((hi x y 0 : Nat) : Int)])) w := fun x y w => hstep x y 0 w (by omega)
  have k1 : hi (dg 0 a) (dg 0 b) 0 ≤ 1 := hle _ _ _ (dg_lt _ _) (dg_lt _ _) (by omega)
  have k2 : hi (dg 1 a) (dg 1 b) (hi (dg 0 a) (dg 0 b) 0) ≤ 1 := hle _ _ _ (dg_lt _ _) (dg_lt _ _) k1
  have k3 : hi (dg 2 a) (dg 2 b) (hi (dg 1 a) (dg 1 b) (hi (dg 0 a) (dg 0 b) 0)) ≤ 1 := hle _ _ _ (dg_lt _ _) (dg_lt _ _) k2
  clear hle
  have Hlo := Lib.hid hlo
  clear hlo
  go_enter Tryz.func171, Tryz.ntmps171
  go_wp2_with fail
  refine wp_loop_rounds 5 ?_
  rw [rounds_succ]
  go_wp2_with fail
  refine region_mix 15 [false, false, false, false, false, false, false, false, false, false, false, false, false, true, false] (fun w' => w' = World.drew _) (by kernel_rfl) (by kernel_rfl) (by intro _ _ d _ _ h; cases d <;> exact h) rfl ?_
  simp only [List.take_succ_cons, List.take_zero, List.drop_succ_cons, List.drop_zero]
  with_reducible refine mix_v ?_ ?_ ?_
  · rfl
  · rfl
  apply Exists.intro
  refine ⟨fun w' hC => ?_, ?_⟩
  · subst hC
    go_simp
    rfl
  try simp only [Act.put, sA, sB, sC, sD]
  with_reducible refine mix_v ?_ ?_ ?_
  · rfl
  · rfl
  apply Exists.intro
  refine ⟨fun w' hC => ?_, ?_⟩
  · subst hC
    go_simp
    rfl
  try simp only [Act.put, sA, sB, sC, sD]
  with_reducible refine mix_v ?_ ?_ ?_
  · rfl
  · rfl
  apply Exists.intro
  refine ⟨fun w' hC => ?_, ?_⟩
  · subst hC
    go_simp
    rfl
  try simp only [Act.put, sA, sB, sC, sD]
  with_reducible refine mix_v ?_ ?_ ?_
  · rfl
  · rfl
  apply Exists.intro
  refine ⟨fun w' hC => ?_, ?_⟩
  · subst hC
    go_simp
    rfl
  try simp only [Act.put, sA, sB, sC, sD]
  with_reducible refine mix_v ?_ ?_ ?_
  · rfl
  · rfl
  apply Exists.intro
  refine ⟨fun w' hC => ?_, ?_⟩
  · subst hC
    go_simp
    rfl
  try simp only [Act.put, sA, sB, sC, sD]
  with_reducible refine mix_v ?_ ?_ ?_
  · rfl
  · rfl
  apply Exists.intro
  refine ⟨fun w' hC => ?_, ?_⟩
  · subst hC
    go_simp
    rfl
  try simp only [Act.put, sA, sB, sC, sD]
  with_reducible refine mix_v ?_ ?_ ?_
  · rfl
  · rfl
  apply Exists.intro
  refine ⟨fun w' hC => ?_, ?_⟩
  · subst hC
    go_simp
    rfl
  try simp only [Act.put, sA, sB, sC, sD]
  with_reducible refine mix_v ?_ ?_ ?_
  · rfl
  · rfl
  apply Exists.intro
  refine ⟨fun w' hC => ?_, ?_⟩
  · subst hC
    go_simp
    rfl
  try simp only [Act.put, sA, sB, sC, sD]
  with_reducible refine mix_v ?_ ?_ ?_
  · rfl
  · rfl
  apply Exists.intro
  refine ⟨fun w' hC => ?_, ?_⟩
  · subst hC
    go_simp
    rfl
  try simp only [Act.put, sA, sB, sC, sD]
  with_reducible refine mix_v ?_ ?_ ?_
  · rfl
  · rfl
  apply Exists.intro
  refine ⟨fun w' hC => ?_, ?_⟩
  · subst hC
    go_simp
    rfl
  try simp only [Act.put, sA, sB, sC, sD]
  with_reducible refine mix_v ?_ ?_ ?_
  · rfl
  · rfl
  apply Exists.intro
  refine ⟨fun w' hC => ?_, ?_⟩
  · subst hC
    rw [call_slot (f := f) (first := #[]) (captured := #[]) rfl]
    go_simp
    rfl
  try simp only [Act.put, sA, sB, sC, sD]
  with_reducible refine mix_v ?_ ?_ ?_
  · rfl
  · rfl
  apply Exists.intro
  refine ⟨fun w' hC => ?_, ?_⟩
  · subst hC
    go_simp
    rfl
  try simp only [Act.put, sA, sB, sC, sD]
  with_reducible refine mix_v ?_ ?_ ?_
  · rfl
  · rfl
  apply Exists.intro
  refine ⟨fun w' hC => ?_, ?_⟩
  · subst hC
    go_simp
    rfl
  try simp only [Act.put, sA, sB, sC, sD]
  with_reducible refine mix_f ?_ ?_
  · rfl
  apply Exists.intro
  refine ⟨fun w' => ?_, ?_⟩
  · go_simp
    rfl
  try simp only [Act.put, sA, sB, sC, sD]
  with_reducible refine mix_v ?_ ?_ ?_
  · rfl
  · rfl
  apply Exists.intro
  refine ⟨fun w' hC => ?_, ?_⟩
  · subst hC
    go_simp
    rfl
  try simp only [Act.put, sA, sB, sC, sD]
  refine mix_nil ?_
  rintro _ rfl
  go_wp2_with fail
  rw [rounds_succ]
  go_wp2_with fail
  refine region_mix 15 [false, false, false, false, false, false, false, false, false, false, false, false, false, true, false] (fun w' => w' = World.drew _) (by kernel_rfl) (by kernel_rfl) (by intro _ _ d _ _ h; cases d <;> exact h) rfl ?_
  simp only [List.take_succ_cons, List.take_zero, List.drop_succ_cons, List.drop_zero]
  with_reducible refine mix_v ?_ ?_ ?_
  · rfl
  · rfl
  apply Exists.intro
  refine ⟨fun w' hC => ?_, ?_⟩
  · subst hC
    go_simp
    rfl
  try simp only [Act.put, sA, sB, sC, sD]
  with_reducible refine mix_v ?_ ?_ ?_
  · rfl
  · rfl
  apply Exists.intro
  refine ⟨fun w' hC => ?_, ?_⟩
  · subst hC
    go_simp
    rfl
  try simp only [Act.put, sA, sB, sC, sD]
  with_reducible refine mix_v ?_ ?_ ?_
  · rfl
  · rfl
  apply Exists.intro
  refine ⟨fun w' hC => ?_, ?_⟩
  · subst hC
    go_simp
    rfl
  try simp only [Act.put, sA, sB, sC, sD]
  with_reducible refine mix_v ?_ ?_ ?_
  · rfl
  · rfl
  apply Exists.intro
  refine ⟨fun w' hC => ?_, ?_⟩
  · subst hC
    go_simp
    rfl
  try simp only [Act.put, sA, sB, sC, sD]
  with_reducible refine mix_v ?_ ?_ ?_
  · rfl
  · rfl
  apply Exists.intro
  refine ⟨fun w' hC => ?_, ?_⟩
  · subst hC
    go_simp
    rfl
  try simp only [Act.put, sA, sB, sC, sD]
  with_reducible refine mix_v ?_ ?_ ?_
  · rfl
  · rfl
  apply Exists.intro
  refine ⟨fun w' hC => ?_, ?_⟩
  · subst hC
    go_simp
    rfl
  try simp only [Act.put, sA, sB, sC, sD]
  with_reducible refine mix_v ?_ ?_ ?_
  · rfl
  · rfl
  apply Exists.intro
  refine ⟨fun w' hC => ?_, ?_⟩
  · subst hC
    go_simp
    rfl
  try simp only [Act.put, sA, sB, sC, sD]
  with_reducible refine mix_v ?_ ?_ ?_
  · rfl
  · rfl
  apply Exists.intro
  refine ⟨fun w' hC => ?_, ?_⟩
  · subst hC
    go_simp
    rfl
  try simp only [Act.put, sA, sB, sC, sD]
  with_reducible refine mix_v ?_ ?_ ?_
  · rfl
  · rfl
  apply Exists.intro
  refine ⟨fun w' hC => ?_, ?_⟩
  · subst hC
    go_simp
    rfl
  try simp only [Act.put, sA, sB, sC, sD]
  with_reducible refine mix_v ?_ ?_ ?_
  · rfl
  · rfl
  apply Exists.intro
  refine ⟨fun w' hC => ?_, ?_⟩
  · subst hC
    go_simp
    rfl
  try simp only [Act.put, sA, sB, sC, sD]
  with_reducible refine mix_v ?_ ?_ ?_
  · rfl
  · rfl
  apply Exists.intro
  refine ⟨fun w' hC => ?_, ?_⟩
  · subst hC
    rw [call_slot (f := f) (first := #[]) (captured := #[]) rfl]
    go_simp
    rfl
  try simp only [Act.put, sA, sB, sC, sD]
  with_reducible refine mix_v ?_ ?_ ?_
  · rfl
  · rfl
  apply Exists.intro
  refine ⟨fun w' hC => ?_, ?_⟩
  · subst hC
    go_simp
    rfl
  try simp only [Act.put, sA, sB, sC, sD]
  with_reducible refine mix_v ?_ ?_ ?_
  · rfl
  · rfl
  apply Exists.intro
  refine ⟨fun w' hC => ?_, ?_⟩
  · subst hC
    go_simp
    rfl
  try simp only [Act.put, sA, sB, sC, sD]
  with_reducible refine mix_f ?_ ?_
  · rfl
  apply Exists.intro
  refine ⟨fun w' => ?_, ?_⟩
  · go_simp
    rfl
  try simp only [Act.put, sA, sB, sC, sD]
  with_reducible refine mix_v ?_ ?_ ?_
  · rfl
  · rfl
  apply Exists.intro
  refine ⟨fun w' hC => ?_, ?_⟩
  · subst hC
    go_simp
    rfl
  try simp only [Act.put, sA, sB, sC, sD]
  refine mix_nil ?_
  rintro _ rfl
  go_wp2_with fail
  rw [rounds_succ]
  go_wp2_with fail
  refine region_mix 15 [false, false, false, false, false, false, false, false, false, false, false, false, false, true, false] (fun w' => w' = World.drew _) (by kernel_rfl) (by kernel_rfl) (by intro _ _ d _ _ h; cases d <;> exact h) rfl ?_
  simp only [List.take_succ_cons, List.take_zero, List.drop_succ_cons, List.drop_zero]
  with_reducible refine mix_v ?_ ?_ ?_
  · rfl
  · rfl
  apply Exists.intro
  refine ⟨fun w' hC => ?_, ?_⟩
  · subst hC
    go_simp
    rfl
  try simp only [Act.put, sA, sB, sC, sD]
  with_reducible refine mix_v ?_ ?_ ?_
  · rfl
  · rfl
  apply Exists.intro
  refine ⟨fun w' hC => ?_, ?_⟩
  · subst hC
    go_simp
    rfl
  try simp only [Act.put, sA, sB, sC, sD]
  with_reducible refine mix_v ?_ ?_ ?_
  · rfl
  · rfl
  apply Exists.intro
  refine ⟨fun w' hC => ?_, ?_⟩
  · subst hC
    go_simp
    rfl
  try simp only [Act.put, sA, sB, sC, sD]
  with_reducible refine mix_v ?_ ?_ ?_
  · rfl
  · rfl
  apply Exists.intro
  refine ⟨fun w' hC => ?_, ?_⟩
  · subst hC
    go_simp
    rfl
  try simp only [Act.put, sA, sB, sC, sD]
  with_reducible refine mix_v ?_ ?_ ?_
  · rfl
  · rfl
  apply Exists.intro
  refine ⟨fun w' hC => ?_, ?_⟩
  · subst hC
    go_simp
    rfl
  try simp only [Act.put, sA, sB, sC, sD]
  with_reducible refine mix_v ?_ ?_ ?_
  · rfl
  · rfl
  apply Exists.intro
  refine ⟨fun w' hC => ?_, ?_⟩
  · subst hC
    go_simp
    rfl
  try simp only [Act.put, sA, sB, sC, sD]
  with_reducible refine mix_v ?_ ?_ ?_
  · rfl
  · rfl
  apply Exists.intro
  refine ⟨fun w' hC => ?_, ?_⟩
  · subst hC
    go_simp
    rfl
  try simp only [Act.put, sA, sB, sC, sD]
  with_reducible refine mix_v ?_ ?_ ?_
  · rfl
  · rfl
  apply Exists.intro
  refine ⟨fun w' hC => ?_, ?_⟩
  · subst hC
    go_simp
    rfl
  try simp only [Act.put, sA, sB, sC, sD]
  with_reducible refine mix_v ?_ ?_ ?_
  · rfl
  · rfl
  apply Exists.intro
  refine ⟨fun w' hC => ?_, ?_⟩
  · subst hC
    go_simp
    rfl
  try simp only [Act.put, sA, sB, sC, sD]
  with_reducible refine mix_v ?_ ?_ ?_
  · rfl
  · rfl
  apply Exists.intro
  refine ⟨fun w' hC => ?_, ?_⟩
  · subst hC
    go_simp
    rfl
  try simp only [Act.put, sA, sB, sC, sD]
  with_reducible refine mix_v ?_ ?_ ?_
  · rfl
  · rfl
  apply Exists.intro
  refine ⟨fun w' hC => ?_, ?_⟩
  · subst hC
    rw [call_slot (f := f) (first := #[]) (captured := #[]) rfl]
    go_simp
    rfl
  try simp only [Act.put, sA, sB, sC, sD]
  with_reducible refine mix_v ?_ ?_ ?_
  · rfl
  · rfl
  apply Exists.intro
  refine ⟨fun w' hC => ?_, ?_⟩
  · subst hC
    go_simp
    rfl
  try simp only [Act.put, sA, sB, sC, sD]
  with_reducible refine mix_v ?_ ?_ ?_
  · rfl
  · rfl
  apply Exists.intro
  refine ⟨fun w' hC => ?_, ?_⟩
  · subst hC
    go_simp
    rfl
  try simp only [Act.put, sA, sB, sC, sD]
  with_reducible refine mix_f ?_ ?_
  · rfl
  apply Exists.intro
  refine ⟨fun w' => ?_, ?_⟩
  · go_simp
    rfl
  try simp only [Act.put, sA, sB, sC, sD]
  with_reducible refine mix_v ?_ ?_ ?_
  · rfl
  · rfl
  apply Exists.intro
  refine ⟨fun w' hC => ?_, ?_⟩
  · subst hC
    go_simp
    rfl
  try simp only [Act.put, sA, sB, sC, sD]
  refine mix_nil ?_
  rintro _ rfl
  go_wp2_with fail
  rw [rounds_succ]
  go_wp2_with fail
  refine region_mix 15 [false, false, false, false, false, false, false, false, false, false, false, false, false, true, false] (fun w' => w' = World.drew _) (by kernel_rfl) (by kernel_rfl) (by intro _ _ d _ _ h; cases d <;> exact h) rfl ?_
  simp only [List.take_succ_cons, List.take_zero, List.drop_succ_cons, List.drop_zero]
  with_reducible refine mix_v ?_ ?_ ?_
  · rfl
  · rfl
  apply Exists.intro
  refine ⟨fun w' hC => ?_, ?_⟩
  · subst hC
    go_simp
    rfl
  try simp only [Act.put, sA, sB, sC, sD]
  with_reducible refine mix_v ?_ ?_ ?_
  · rfl
  · rfl
  apply Exists.intro
  refine ⟨fun w' hC => ?_, ?_⟩
  · subst hC
    go_simp
    rfl
  try simp only [Act.put, sA, sB, sC, sD]
  with_reducible refine mix_v ?_ ?_ ?_
  · rfl
  · rfl
  apply Exists.intro
  refine ⟨fun w' hC => ?_, ?_⟩
  · subst hC
    go_simp
    rfl
  try simp only [Act.put, sA, sB, sC, sD]
  with_reducible refine mix_v ?_ ?_ ?_
  · rfl
  · rfl
  apply Exists.intro
  refine ⟨fun w' hC => ?_, ?_⟩
  · subst hC
    go_simp
    rfl
  try simp only [Act.put, sA, sB, sC, sD]
  with_reducible refine mix_v ?_ ?_ ?_
  · rfl
  · rfl
  apply Exists.intro
  refine ⟨fun w' hC => ?_, ?_⟩
  · subst hC
    go_simp
    rfl
  try simp only [Act.put, sA, sB, sC, sD]
  with_reducible refine mix_v ?_ ?_ ?_
  · rfl
  · rfl
  apply Exists.intro
  refine ⟨fun w' hC => ?_, ?_⟩
  · subst hC
    go_simp
    rfl
  try simp only [Act.put, sA, sB, sC, sD]
  with_reducible refine mix_v ?_ ?_ ?_
  · rfl
  · rfl
  apply Exists.intro
  refine ⟨fun w' hC => ?_, ?_⟩
  · subst hC
    go_simp
    rfl
  try simp only [Act.put, sA, sB, sC, sD]
  with_reducible refine mix_v ?_ ?_ ?_
  · rfl
  · rfl
  apply Exists.intro
  refine ⟨fun w' hC => ?_, ?_⟩
  · subst hC
    go_simp
    rfl
  try simp only [Act.put, sA, sB, sC, sD]
  with_reducible refine mix_v ?_ ?_ ?_
  · rfl
  · rfl
  apply Exists.intro
  refine ⟨fun w' hC => ?_, ?_⟩
  · subst hC
    go_simp
    rfl
  try simp only [Act.put, sA, sB, sC, sD]
  with_reducible refine mix_v ?_ ?_ ?_
  · rfl
  · rfl
  apply Exists.intro
  refine ⟨fun w' hC => ?_, ?_⟩
  · subst hC
    go_simp
    rfl
  try simp only [Act.put, sA, sB, sC, sD]
  with_reducible refine mix_v ?_ ?_ ?_
  · rfl
  · rfl
  apply Exists.intro
  refine ⟨fun w' hC => ?_, ?_⟩
  · subst hC
    rw [call_slot (f := f) (first := #[]) (captured := #[]) rfl]
    go_simp
    rfl
  try simp only [Act.put, sA, sB, sC, sD]
  with_reducible refine mix_v ?_ ?_ ?_
  · rfl
  · rfl
  apply Exists.intro
  refine ⟨fun w' hC => ?_, ?_⟩
  · subst hC
    go_simp
    rfl
  try simp only [Act.put, sA, sB, sC, sD]
  with_reducible refine mix_v ?_ ?_ ?_
  · rfl
  · rfl
  apply Exists.intro
  refine ⟨fun w' hC => ?_, ?_⟩
  · subst hC
    go_simp
    rfl
  try simp only [Act.put, sA, sB, sC, sD]
  with_reducible refine mix_f ?_ ?_
  · rfl
  apply Exists.intro
  refine ⟨fun w' => ?_, ?_⟩
  · go_simp
    rfl
  try simp only [Act.put, sA, sB, sC, sD]
  with_reducible refine mix_v ?_ ?_ ?_
  · rfl
  · rfl
  apply Exists.intro
  refine ⟨fun w' hC => ?_, ?_⟩
  · subst hC
    go_simp
    rfl
  try simp only [Act.put, sA, sB, sC, sD]
  refine mix_nil ?_
  rintro _ rfl
  go_wp2_with fail
  rw [rounds_succ]
  go_wp2_with fail
  refine bodyPost_ret (v := .tuple #[vec (chV lo hi a b), .int .u64 ((chC hi a b : Nat) : Int)]) (by
    unfold chV; rw [vec_val4 (Hlo.out _ _ _) (Hlo.out _ _ _) (Hlo.out _ _ _) (Hlo.out _ _ _)]
    unfold chC chC3 chC2 chC1
    simp [results, Tryz.results171, go_sem]) rfl ⟨rfl, ?_⟩
  exact (((((((Below.refl _ _).alloc (Nat.le_refl _) _).alloc (by simp) _).alloc (by simp; omega) _).alloc (by simp; omega) _).drew).drew).drew.drew
end Go.Proofs.YtdnkkbmpefhbjaaGreatDoor
namespace Go.Proofs.YtdnkkbmpefhbjaaGreatDoor
set_option linter.all false
open Go.RowKit
set_option maxHeartbeats 400000 in
theorem limbAdd_c (a b : Nat) (ha : a < R4) (hb : b < R4) (w : World) :
    Calls Tryz.prog 152 #[vec a, vec b] w fun e w' => e = .returned (.tuple #[vec (addV a b), .int .u64 ((addC a b : Nat) : Int)]) ∧ Below w.heap.size w w' := by
  have he := Lib.hid (chain_add ha hb)
  go_enter Tryz.func152, Tryz.ntmps152
  go_wp2_with fail
  refine Calls.mono (apply_c 150 addLo addHi (fun x y c w hc => add64_c x y c hc w) (fun _ _ _ => addHi_le) addLo_lt a b _) ?_
  rintro _ w1 ⟨rfl, h1⟩
  obtain ⟨c1, f1, s1⟩ := bfacts h1
  try simp only [World.size_alloc, World.size_setCell, size_drew, size_drewN] at s1
  go_wp2_with fail
  rw [he.out.1, he.out.2]
  refine bodyPost_ret (v := .tuple #[vec (addV a b), .int .u64 ((addC a b : Nat) : Int)]) (by simp only [results, Tryz.results152]; go_simp) rfl ⟨rfl, ?_⟩
  repeat first
    | with_reducible exact Below.refl _ _
    | with_reducible refine Below.drew ?_
    | with_reducible refine below_dN ?_
    | with_reducible refine Below.alloc ?_ (by first | omega | (simp; done) | (simp; omega)) _
    | with_reducible refine Below.setCell ?_ (by first | omega | (simp; done) | (simp; omega)) _
    | with_reducible refine Below.trans ?_ (Below.mono (by assumption) (by first | omega | (simp; done) | (simp; omega)))
set_option maxHeartbeats 400000 in
theorem limbSub_c (a b : Nat) (ha : a < R4) (hb : b < R4) (w : World) :
    Calls Tryz.prog 160 #[vec a, vec b] w fun e w' => e = .returned (.tuple #[vec (subV a b), .int .u64 ((subC a b : Nat) : Int)]) ∧ Below w.heap.size w w' := by
  have he := Lib.hid (chain_sub ha hb)
  go_enter Tryz.func160, Tryz.ntmps160
  go_wp2_with fail
  refine Calls.mono (apply_c 175 subLo subHi (fun x y c w hc => sub64_c x y c hc w) (fun _ _ _ _ _ _ => subHi_le _ _ _) subLo_lt a b _) ?_
  rintro _ w1 ⟨rfl, h1⟩
  obtain ⟨c1, f1, s1⟩ := bfacts h1
  try simp only [World.size_alloc, World.size_setCell, size_drew, size_drewN] at s1
  go_wp2_with fail
  rw [he.out.1, he.out.2]
  refine bodyPost_ret (v := .tuple #[vec (subV a b), .int .u64 ((subC a b : Nat) : Int)]) (by simp only [results, Tryz.results160]; go_simp) rfl ⟨rfl, ?_⟩
  repeat first
    | with_reducible exact Below.refl _ _
    | with_reducible refine Below.drew ?_
    | with_reducible refine below_dN ?_
    | with_reducible refine Below.alloc ?_ (by first | omega | (simp; done) | (simp; omega)) _
    | with_reducible refine Below.setCell ?_ (by first | omega | (simp; done) | (simp; omega)) _
    | with_reducible refine Below.trans ?_ (Below.mono (by assumption) (by first | omega | (simp; done) | (simp; omega)))
set_option maxHeartbeats 400000 in
theorem limbLess_c (a b : Nat) (ha : a < R4) (hb : b < R4) (w : World) :
    Calls Tryz.prog 159 #[vec a, vec b] w fun e w' => e = .returned (.int .u64 ((mb (subC a b) : Nat) : Int)) ∧ Below w.heap.size w w' := by
  go_enter Tryz.func159, Tryz.ntmps159
  go_wp2_with fail
  refine Calls.mono (limbSub_c a b ha hb _) ?_
  rintro _ w1 ⟨rfl, h1⟩
  obtain ⟨c1, f1, s1⟩ := bfacts h1
  try simp only [World.size_alloc, World.size_setCell, size_drew, size_drewN] at s1
  go_wp2_with fail
  refine Calls.mono (fromBit_c _ (subC_lt a b) _) ?_
  rintro _ _ ⟨rfl, rfl⟩
  go_wp2_with fail
  go_ret
  refine ⟨rfl, ?_⟩
  repeat first
    | with_reducible exact Below.refl _ _
    | with_reducible refine Below.drew ?_
    | with_reducible refine below_dN ?_
    | with_reducible refine Below.alloc ?_ (by first | omega | (simp; done) | (simp; omega)) _
    | with_reducible refine Below.setCell ?_ (by first | omega | (simp; done) | (simp; omega)) _
    | with_reducible refine Below.trans ?_ (Below.mono (by assumption) (by first | omega | (simp; done) | (simp; omega)))
set_option maxRecDepth 100000 in
set_option maxHeartbeats 1000000 in
theorem limbChoose_c (s a b : Nat) (hs : s < W) (ha : a < R4) (hb : b < R4) (w : World) :
    Calls Tryz.prog 161 #[.int .u64 (s : Int), vec a, vec b] w fun e w' => e = .returned (vec (sel s a b)) ∧ Below w.heap.size w w' := by
  have he := Lib.hid (sel_vec s a b)
  have Hs := Lib.hid hs
  clear hs ha hb
  go_enter Tryz.func161, Tryz.ntmps161
  go_wp2_with fail
  refine Calls.mono (fromBit_c s Hs.out _) ?_
  rintro _ _ ⟨rfl, rfl⟩
  go_wp2_with fail
  refine wp_loop_rounds 5 ?_
  rw [rounds_succ]
  go_wp2_with fail
  refine region_mix 10 [false, false, false, false, false, false, false, false, false, false] (fun w' => w' = World.drew _) (by kernel_rfl) (by kernel_rfl) (by intro _ _ d _ _ h; cases d <;> exact h) rfl ?_
  simp only [List.take_succ_cons, List.take_zero, List.drop_succ_cons, List.drop_zero]
  with_reducible refine mix_v ?_ ?_ ?_
  · rfl
  · rfl
  apply Exists.intro
  refine ⟨fun w' hC => ?_, ?_⟩
  · subst hC
    go_simp
    rfl
  try simp only [Act.put, sA, sB, sC, sD]
  with_reducible refine mix_v ?_ ?_ ?_
  · rfl
  · rfl
  apply Exists.intro
  refine ⟨fun w' hC => ?_, ?_⟩
  · subst hC
    go_simp
    rfl
  try simp only [Act.put, sA, sB, sC, sD]
  with_reducible refine mix_v ?_ ?_ ?_
  · rfl
  · rfl
  apply Exists.intro
  refine ⟨fun w' hC => ?_, ?_⟩
  · subst hC
    go_simp
    rfl
  try simp only [Act.put, sA, sB, sC, sD]
  with_reducible refine mix_v ?_ ?_ ?_
  · rfl
  · rfl
  apply Exists.intro
  refine ⟨fun w' hC => ?_, ?_⟩
  · subst hC
    go_simp
    rfl
  try simp only [Act.put, sA, sB, sC, sD]
  with_reducible refine mix_v ?_ ?_ ?_
  · rfl
  · rfl
  apply Exists.intro
  refine ⟨fun w' hC => ?_, ?_⟩
  · subst hC
    go_simp
    rfl
  try simp only [Act.put, sA, sB, sC, sD]
  with_reducible refine mix_v ?_ ?_ ?_
  · rfl
  · rfl
  apply Exists.intro
  refine ⟨fun w' hC => ?_, ?_⟩
  · subst hC
    go_simp
    rfl
  try simp only [Act.put, sA, sB, sC, sD]
  with_reducible refine mix_v ?_ ?_ ?_
  · rfl
  · rfl
  apply Exists.intro
  refine ⟨fun w' hC => ?_, ?_⟩
  · subst hC
    go_simp
    rfl
  try simp only [Act.put, sA, sB, sC, sD]
  with_reducible refine mix_v ?_ ?_ ?_
  · rfl
  · rfl
  apply Exists.intro
  refine ⟨fun w' hC => ?_, ?_⟩
  · subst hC
    go_simp
    rfl
  try simp only [Act.put, sA, sB, sC, sD]
  with_reducible refine mix_c ?_ ?_ ?_
  · rfl
  · rfl
  apply Exists.intro
  apply Exists.intro
  apply Exists.intro
  refine ⟨fun w' hC => ?_, fun w' hC => ?_, ?_⟩
  · subst hC
    go_simp
    exact ⟨rfl, rfl⟩
  · subst hC
    exact same_of (maskChoose_c s _ _ (dg_lt _ _) (dg_lt _ _) _)
  try simp only [Act.put, sA, sB, sC, sD]
  with_reducible refine mix_v ?_ ?_ ?_
  · rfl
  · rfl
  apply Exists.intro
  refine ⟨fun w' hC => ?_, ?_⟩
  · subst hC
    go_simp
    rfl
  try simp only [Act.put, sA, sB, sC, sD]
  refine mix_nil ?_
  rintro _ rfl
  go_wp2_with fail
  rw [rounds_succ]
  go_wp2_with fail
  refine region_mix 10 [false, false, false, false, false, false, false, false, false, false] (fun w' => w' = World.drew _) (by kernel_rfl) (by kernel_rfl) (by intro _ _ d _ _ h; cases d <;> exact h) rfl ?_
  simp only [List.take_succ_cons, List.take_zero, List.drop_succ_cons, List.drop_zero]
  with_reducible refine mix_v ?_ ?_ ?_
  · rfl
  · rfl
  apply Exists.intro
  refine ⟨fun w' hC => ?_, ?_⟩
  · subst hC
    go_simp
    rfl
  try simp only [Act.put, sA, sB, sC, sD]
  with_reducible refine mix_v ?_ ?_ ?_
  · rfl
  · rfl
  apply Exists.intro
  refine ⟨fun w' hC => ?_, ?_⟩
  · subst hC
    go_simp
    rfl
  try simp only [Act.put, sA, sB, sC, sD]
  with_reducible refine mix_v ?_ ?_ ?_
  · rfl
  · rfl
  apply Exists.intro
  refine ⟨fun w' hC => ?_, ?_⟩
  · subst hC
    go_simp
    rfl
  try simp only [Act.put, sA, sB, sC, sD]
  with_reducible refine mix_v ?_ ?_ ?_
  · rfl
  · rfl
  apply Exists.intro
  refine ⟨fun w' hC => ?_, ?_⟩
  · subst hC
    go_simp
    rfl
  try simp only [Act.put, sA, sB, sC, sD]
  with_reducible refine mix_v ?_ ?_ ?_
  · rfl
  · rfl
  apply Exists.intro
  refine ⟨fun w' hC => ?_, ?_⟩
  · subst hC
    go_simp
    rfl
  try simp only [Act.put, sA, sB, sC, sD]
  with_reducible refine mix_v ?_ ?_ ?_
  · rfl
  · rfl
  apply Exists.intro
  refine ⟨fun w' hC => ?_, ?_⟩
  · subst hC
    go_simp
    rfl
  try simp only [Act.put, sA, sB, sC, sD]
  with_reducible refine mix_v ?_ ?_ ?_
  · rfl
  · rfl
  apply Exists.intro
  refine ⟨fun w' hC => ?_, ?_⟩
  · subst hC
    go_simp
    rfl
  try simp only [Act.put, sA, sB, sC, sD]
  with_reducible refine mix_v ?_ ?_ ?_
  · rfl
  · rfl
  apply Exists.intro
  refine ⟨fun w' hC => ?_, ?_⟩
  · subst hC
    go_simp
    rfl
  try simp only [Act.put, sA, sB, sC, sD]
  with_reducible refine mix_c ?_ ?_ ?_
  · rfl
  · rfl
  apply Exists.intro
  apply Exists.intro
  apply Exists.intro
  refine ⟨fun w' hC => ?_, fun w' hC => ?_, ?_⟩
  · subst hC
    go_simp
    exact ⟨rfl, rfl⟩
  · subst hC
    exact same_of (maskChoose_c s _ _ (dg_lt _ _) (dg_lt _ _) _)
  try simp only [Act.put, sA, sB, sC, sD]
  with_reducible refine mix_v ?_ ?_ ?_
  · rfl
  · rfl
  apply Exists.intro
  refine ⟨fun w' hC => ?_, ?_⟩
  · subst hC
    go_simp
    rfl
  try simp only [Act.put, sA, sB, sC, sD]
  refine mix_nil ?_
  rintro _ rfl
  go_wp2_with fail
  rw [rounds_succ]
  go_wp2_with fail
  refine region_mix 10 [false, false, false, false, false, false, false, false, false, false] (fun w' => w' = World.drew _) (by kernel_rfl) (by kernel_rfl) (by intro _ _ d _ _ h; cases d <;> exact h) rfl ?_
  simp only [List.take_succ_cons, List.take_zero, List.drop_succ_cons, List.drop_zero]
  with_reducible refine mix_v ?_ ?_ ?_
  · rfl
  · rfl
  apply Exists.intro
  refine ⟨fun w' hC => ?_, ?_⟩
  · subst hC
    go_simp
    rfl
  try simp only [Act.put, sA, sB, sC, sD]
  with_reducible refine mix_v ?_ ?_ ?_
  · rfl
  · rfl
  apply Exists.intro
  refine ⟨fun w' hC => ?_, ?_⟩
  · subst hC
    go_simp
    rfl
  try simp only [Act.put, sA, sB, sC, sD]
  with_reducible refine mix_v ?_ ?_ ?_
  · rfl
  · rfl
  apply Exists.intro
  refine ⟨fun w' hC => ?_, ?_⟩
  · subst hC
    go_simp
    rfl
  try simp only [Act.put, sA, sB, sC, sD]
  with_reducible refine mix_v ?_ ?_ ?_
  · rfl
  · rfl
  apply Exists.intro
  refine ⟨fun w' hC => ?_, ?_⟩
  · subst hC
    go_simp
    rfl
  try simp only [Act.put, sA, sB, sC, sD]
  with_reducible refine mix_v ?_ ?_ ?_
  · rfl
  · rfl
  apply Exists.intro
  refine ⟨fun w' hC => ?_, ?_⟩
  · subst hC
    go_simp
    rfl
  try simp only [Act.put, sA, sB, sC, sD]
  with_reducible refine mix_v ?_ ?_ ?_
  · rfl
  · rfl
  apply Exists.intro
  refine ⟨fun w' hC => ?_, ?_⟩
  · subst hC
    go_simp
    rfl
  try simp only [Act.put, sA, sB, sC, sD]
  with_reducible refine mix_v ?_ ?_ ?_
  · rfl
  · rfl
  apply Exists.intro
  refine ⟨fun w' hC => ?_, ?_⟩
  · subst hC
    go_simp
    rfl
  try simp only [Act.put, sA, sB, sC, sD]
  with_reducible refine mix_v ?_ ?_ ?_
  · rfl
  · rfl
  apply Exists.intro
  refine ⟨fun w' hC => ?_, ?_⟩
  · subst hC
    go_simp
    rfl
  try simp only [Act.put, sA, sB, sC, sD]
  with_reducible refine mix_c ?_ ?_ ?_
  · rfl
  · rfl
  apply Exists.intro
  apply Exists.intro
  apply Exists.intro
  refine ⟨fun w' hC => ?_, fun w' hC => ?_, ?_⟩
  · subst hC
    go_simp
    exact ⟨rfl, rfl⟩
  · subst hC
    exact same_of (maskChoose_c s _ _ (dg_lt _ _) (dg_lt _ _) _)
  try simp only [Act.put, sA, sB, sC, sD]
  with_reducible refine mix_v ?_ ?_ ?_
  · rfl
  · rfl
  apply Exists.intro
  refine ⟨fun w' hC => ?_, ?_⟩
  · subst hC
    go_simp
    rfl
  try simp only [Act.put, sA, sB, sC, sD]
  refine mix_nil ?_
  rintro _ rfl
  go_wp2_with fail
  rw [rounds_succ]
  go_wp2_with fail
  refine region_mix 10 [false, false, false, false, false, false, false, false, false, false] (fun w' => w' = World.drew _) (by kernel_rfl) (by kernel_rfl) (by intro _ _ d _ _ h; cases d <;> exact h) rfl ?_
  simp only [List.take_succ_cons, List.take_zero, List.drop_succ_cons, List.drop_zero]
  with_reducible refine mix_v ?_ ?_ ?_
  · rfl
  · rfl
  apply Exists.intro
  refine ⟨fun w' hC => ?_, ?_⟩
  · subst hC
    go_simp
    rfl
  try simp only [Act.put, sA, sB, sC, sD]
  with_reducible refine mix_v ?_ ?_ ?_
  · rfl
  · rfl
  apply Exists.intro
  refine ⟨fun w' hC => ?_, ?_⟩
  · subst hC
    go_simp
    rfl
  try simp only [Act.put, sA, sB, sC, sD]
  with_reducible refine mix_v ?_ ?_ ?_
  · rfl
  · rfl
  apply Exists.intro
  refine ⟨fun w' hC => ?_, ?_⟩
  · subst hC
    go_simp
    rfl
  try simp only [Act.put, sA, sB, sC, sD]
  with_reducible refine mix_v ?_ ?_ ?_
  · rfl
  · rfl
  apply Exists.intro
  refine ⟨fun w' hC => ?_, ?_⟩
  · subst hC
    go_simp
    rfl
  try simp only [Act.put, sA, sB, sC, sD]
  with_reducible refine mix_v ?_ ?_ ?_
  · rfl
  · rfl
  apply Exists.intro
  refine ⟨fun w' hC => ?_, ?_⟩
  · subst hC
    go_simp
    rfl
  try simp only [Act.put, sA, sB, sC, sD]
  with_reducible refine mix_v ?_ ?_ ?_
  · rfl
  · rfl
  apply Exists.intro
  refine ⟨fun w' hC => ?_, ?_⟩
  · subst hC
    go_simp
    rfl
  try simp only [Act.put, sA, sB, sC, sD]
  with_reducible refine mix_v ?_ ?_ ?_
  · rfl
  · rfl
  apply Exists.intro
  refine ⟨fun w' hC => ?_, ?_⟩
  · subst hC
    go_simp
    rfl
  try simp only [Act.put, sA, sB, sC, sD]
  with_reducible refine mix_v ?_ ?_ ?_
  · rfl
  · rfl
  apply Exists.intro
  refine ⟨fun w' hC => ?_, ?_⟩
  · subst hC
    go_simp
    rfl
  try simp only [Act.put, sA, sB, sC, sD]
  with_reducible refine mix_c ?_ ?_ ?_
  · rfl
  · rfl
  apply Exists.intro
  apply Exists.intro
  apply Exists.intro
  refine ⟨fun w' hC => ?_, fun w' hC => ?_, ?_⟩
  · subst hC
    go_simp
    exact ⟨rfl, rfl⟩
  · subst hC
    exact same_of (maskChoose_c s _ _ (dg_lt _ _) (dg_lt _ _) _)
  try simp only [Act.put, sA, sB, sC, sD]
  with_reducible refine mix_v ?_ ?_ ?_
  · rfl
  · rfl
  apply Exists.intro
  refine ⟨fun w' hC => ?_, ?_⟩
  · subst hC
    go_simp
    rfl
  try simp only [Act.put, sA, sB, sC, sD]
  refine mix_nil ?_
  rintro _ rfl
  go_wp2_with fail
  rw [rounds_succ]
  go_wp2_with fail
  rw [he.out]
  refine bodyPost_ret (v := .agg #[.int .u64 ((sel s (dg 0 a) (dg 0 b) : Nat) : Int), .int .u64 ((sel s (dg 1 a) (dg 1 b) : Nat) : Int), .int .u64 ((sel s (dg 2 a) (dg 2 b) : Nat) : Int), .int .u64 ((sel s (dg 3 a) (dg 3 b) : Nat) : Int)]) (by simp only [results, Tryz.results161]; go_simp) rfl ⟨rfl, ?_⟩
  repeat first
    | with_reducible exact Below.refl _ _
    | with_reducible refine Below.drew ?_
    | with_reducible refine below_dN ?_
    | with_reducible refine Below.alloc ?_ (by first | omega | (simp; done) | (simp; omega)) _
    | with_reducible refine Below.setCell ?_ (by first | omega | (simp; done) | (simp; omega)) _
    | with_reducible refine Below.trans ?_ (Below.mono (by assumption) (by first | omega | (simp; done) | (simp; omega)))
end Go.Proofs.YtdnkkbmpefhbjaaGreatDoor
namespace Go.Proofs.YtdnkkbmpefhbjaaGreatDoor
set_option linter.all false
open Go.RowKit
/-- The modulus of the first or of the second field. -/
def pr : Bool → Nat | false => 57896044618658097711785492504343953926634992332820282019728792003956564819949 | true => 115792089210356248762697446949407573529996955224135760342422259061068512044369
/-- -1 / p modulo 2^64. -/
def ninv : Bool → Nat | false => 9708812670373448219 | true => 14758798090332847183
/-- 2^256 and 2^512 modulo p, and the inverse of 2^256 modulo p. -/
def rone : Bool → Nat | false => 38 | true => 26959946660873538059280334323273029441504803697035324946844617595567
def rsq : Bool → Nat | false => 1444 | true => 46533765739406314298121036767150998762426774378559716911348521029833835802274
def rinv : Bool → Nat | false => 10665060850805439052171011777115991512801182798151104582581619579676209308938 | true => 43790243014242295660885426880012836369732278457577312309071968676491870960761
def fid : Bool → Int | false => 1 | true => 2
theorem pr_lt (s : Bool) : pr s < R4 := by cases s <;> decide
theorem pr_pos (s : Bool) : 0 < pr s := by cases s <;> decide
theorem rsq_lt (s : Bool) : rsq s < pr s := by cases s <;> decide
/-- A field as a value of Go. -/
abbrev fieldV (s : Bool) : Value := .agg #[.int .i64 (fid s), .int .u64 ((dg 0 (pr s) : Nat) : Int), .int .u64 ((dg 1 (pr s) : Nat) : Int), .int .u64 ((dg 2 (pr s) : Nat) : Int), .int .u64 ((dg 3 (pr s) : Nat) : Int), .int .u64 ((ninv s : Nat) : Int), .int .u64 ((dg 0 (rone s) : Nat) : Int), .int .u64 ((dg 1 (rone s) : Nat) : Int), .int .u64 ((dg 2 (rone s) : Nat) : Int), .int .u64 ((dg 3 (rone s) : Nat) : Int), .int .u64 ((dg 0 (rsq s) : Nat) : Int), .int .u64 ((dg 1 (rsq s) : Nat) : Int), .int .u64 ((dg 2 (rsq s) : Nat) : Int), .int .u64 ((dg 3 (rsq s) : Nat) : Int)]
/-- What the package-level variable of the fields holds. -/
def fieldCells : Array Value := #[.int .i64 1, .int .u64 18446744073709551597, .int .u64 18446744073709551615, .int .u64 18446744073709551615, .int .u64 9223372036854775807, .int .u64 9708812670373448219, .int .u64 38, .int .u64 0, .int .u64 0, .int .u64 0, .int .u64 1444, .int .u64 0, .int .u64 0, .int .u64 0, .int .i64 2, .int .u64 17562291160714782033, .int .u64 13611842547513532036, .int .u64 18446744073709551615, .int .u64 18446744069414584320, .int .u64 14758798090332847183, .int .u64 884452912994769583, .int .u64 4834901526196019579, .int .u64 0, .int .u64 4294967295, .int .u64 9449762124159643298, .int .u64 5087230966250696614, .int .u64 2901921493521525849, .int .u64 7413256579398063648]
/-- The variable holds what the program lays. -/
def Laid (w : World) : Prop := ∀ j v, fieldCells[j]? = some v → w.cell? ⟨0, j, none⟩ = some v
theorem Laid.pos {w : World} (h : Laid w) : 0 < w.heap.size := by
  have := h 0 (.int .i64 1) rfl
  unfold World.cell? at this
  split at this
  · rename_i hh; exact (Array.getElem?_eq_some_iff.1 hh).1
  · cases this
theorem Laid.below {B : Nat} {w w' : World} (h : Laid w) (hb : Below B w w') (hB : w.heap.size ≤ B) : Laid w' := fun j v hv =>
  (hb.cell (p := ⟨0, j, none⟩) (Nat.lt_of_lt_of_le h.pos hB)).trans (h j v hv)
theorem Laid.step {w w' : World} (h : Laid w) (hb : Below w.heap.size w w') : Laid w' := h.below hb (Nat.le_refl _)
theorem run_loadVar_cells {P : Program} (w : World) (g : Nat) (ty : TypeId) (cs : Array Value) (d : TypeDesc) (hc : ∀ j v, cs[j]? = some v → w.cell? ⟨g, j, none⟩ = some v)
    (hu : P.underlying ty = some d) (hd : (match d with | .struct _ | .array _ _ => true | _ => false) = true) (hi : (P.info? ty).map (·.size) = some cs.size) :
    (loadVar ty ⟨g, 0, none⟩).run P w = .ok (.agg cs) w := by
  have hl : (loadCells ⟨g, 0, none⟩ cs.toList.length).run P w = .ok cs.toList.toArray w := by
    refine run_loadCells_list (P := P) w ⟨g, 0, none⟩ cs.toList fun j v hv => ?_
    have e : (⟨g, 0, none⟩ : Addr).add j = ⟨g, j, none⟩ := by unfold Addr.add; split <;> simp_all
    rw [e]
    exact hc j v (by simpa using hv)
  rw [Array.toArray_toList, Array.length_toList] at hl
  have hagg : (isAgg ty).run P w = .ok true w := by
    unfold isAgg
    rw [Sem.run_bind, run_underlying hu w]
    cases d <;> simp_all
  cases hq : P.info? ty with
  | none => rw [hq] at hi; cases hi
  | some i =>
    have hs : i.size = cs.size := by rw [hq] at hi; simpa using hi
    simp [loadVar, Sem.run_bind, hagg, sizeOf, typeInfo, hq, hs, hl]
theorem wpList_load_cells {P : Program} {ops : Array Oper} {rest : List Oper} {o : Oper} {a : Act} {w : World} {Q : Exit → Act → World → Prop} (hgd : o.guard = none) (ty : TypeId) (x : Operand) (ho : o.op = .load ty x)
    (g : Nat) (hx : a.eval x = .pointer (some ⟨g, 0, none⟩)) (cs : Array Value) (d : TypeDesc) (hc : ∀ j v, cs[j]? = some v → w.cell? ⟨g, j, none⟩ = some v)
    (hu : P.underlying ty = some d) (hd : (match d with | .struct _ | .array _ _ => true | _ => false) = true) (hi : (P.info? ty).map (·.size) = some cs.size)
    (h : wpList P ops Q rest (a.put o.dst (.agg cs)) w) : wpList P ops Q (o :: rest) a w :=
  wpList_plain hgd fun K hK => by
    unfold Oper.wp execOp
    simp only [ho, hx, Instr.loadAt, Instr.sureAddr, Sem.run_bind, Sem.run_pure, Result.andThen_ok, run_loadVar_cells w g ty cs d hc hu hd hi]
    exact hK _ _ h
theorem index0 (w : World) : (Instr.index 168 (.agg fieldCells) (.int .i64 0)).run Tryz.prog w = .ok (fieldV false) w := by kernel_rfl
theorem index1 (w : World) : (Instr.index 168 (.agg fieldCells) (.int .i64 1)).run Tryz.prog w = .ok (fieldV true) w := by kernel_rfl
set_option maxRecDepth 100000 in
set_option maxHeartbeats 1000000 in
theorem get1_c (w : World) (hL : Laid w) :
    Calls Tryz.prog 85 #[.int .i64 1] w fun e w' => e = .returned (.tuple #[fieldV false, .int .i64 0]) ∧ Below w.heap.size w w' := by
  have i0 := index0
  have hg : ∀ o j v, fieldCells[j]? = some v → (w.alloc o).cell? ⟨0, j, none⟩ = some v := fun o => (hL.step ((Below.refl _ _).alloc (Nat.le_refl _) _))
  have Hg := Lib.hid hg
  clear hg
  go_enter Tryz.func85, Tryz.ntmps85
  go_wp2_with (refine wpList_load_cells rfl 168 (.global 0) rfl 0 rfl fieldCells _ (Hg.out _) Tryz.underlying168 rfl (by kernel_rfl) ?_; simp only [Act.put, List.setIfInBounds_toArray, List.set_cons_zero, List.set_cons_succ])
  refine wp_loop_rounds 1 ?_
  rw [rounds_succ]
  go_wp2_with fail
  refine bodyPost_ret (v := .tuple #[fieldV false, .int .i64 0]) (by simp only [results, Tryz.results85]; go_simp) rfl ⟨rfl, ?_⟩
  repeat first
    | with_reducible exact Below.refl _ _
    | with_reducible refine Below.drew ?_
    | with_reducible refine below_dN ?_
    | with_reducible refine Below.alloc ?_ (by first | omega | (simp; done) | (simp; omega)) _
    | with_reducible refine Below.setCell ?_ (by first | omega | (simp; done) | (simp; omega)) _
    | with_reducible refine Below.trans ?_ (Below.mono (by assumption) (by first | omega | (simp; done) | (simp; omega)))
set_option maxRecDepth 100000 in
set_option maxHeartbeats 1000000 in
theorem get2_c (w : World) (hL : Laid w) :
    Calls Tryz.prog 85 #[.int .i64 2] w fun e w' => e = .returned (.tuple #[fieldV true, .int .i64 0]) ∧ Below w.heap.size w w' := by
  have i0 := index0
  have i1 := index1
  have hg : ∀ o j v, fieldCells[j]? = some v → (w.alloc o).cell? ⟨0, j, none⟩ = some v := fun o => (hL.step ((Below.refl _ _).alloc (Nat.le_refl _) _))
  have Hg := Lib.hid hg
  clear hg
  go_enter Tryz.func85, Tryz.ntmps85
  go_wp2_with (refine wpList_load_cells rfl 168 (.global 0) rfl 0 rfl fieldCells _ (Hg.out _) Tryz.underlying168 rfl (by kernel_rfl) ?_; simp only [Act.put, List.setIfInBounds_toArray, List.set_cons_zero, List.set_cons_succ])
  refine wp_loop_rounds 2 ?_
  rw [rounds_succ]
  go_wp2_with fail
  rw [rounds_succ]
  go_wp2_with fail
  refine bodyPost_ret (v := .tuple #[fieldV true, .int .i64 0]) (by simp only [results, Tryz.results85]; go_simp) rfl ⟨rfl, ?_⟩
  repeat first
    | with_reducible exact Below.refl _ _
    | with_reducible refine Below.drew ?_
    | with_reducible refine below_dN ?_
    | with_reducible refine Below.alloc ?_ (by first | omega | (simp; done) | (simp; omega)) _
    | with_reducible refine Below.setCell ?_ (by first | omega | (simp; done) | (simp; omega)) _
    | with_reducible refine Below.trans ?_ (Below.mono (by assumption) (by first | omega | (simp; done) | (simp; omega)))
theorem get_c (s : Bool) (w : World) (hL : Laid w) :
    Calls Tryz.prog 85 #[.int .i64 (fid s)] w fun e w' => e = .returned (.tuple #[fieldV s, .int .i64 0]) ∧ Below w.heap.size w w' := by
  cases s
  · exact get1_c w hL
  · exact get2_c w hL
set_option maxHeartbeats 400000 in
theorem contains_c (s : Bool) (a : Nat) (ha : a < R4) (w : World) :
    Calls Tryz.prog 137 #[fieldV s, vec a] w fun e w' => e = .returned (.int .u64 ((mb (subC a (pr s)) : Nat) : Int)) ∧ Below w.heap.size w w' := by
  have Hp := Lib.hid (pr_lt s)
  go_enter Tryz.func137, Tryz.ntmps137
  go_wp2_with fail
  refine Calls.mono (limbLess_c a (pr s) ha Hp.out _) ?_
  rintro _ w1 ⟨rfl, h1⟩
  obtain ⟨c1, f1, s1⟩ := bfacts h1
  try simp only [World.size_alloc, World.size_setCell, size_drew, size_drewN] at s1
  go_wp2_with fail
  go_ret
  refine ⟨rfl, ?_⟩
  repeat first
    | with_reducible exact Below.refl _ _
    | with_reducible refine Below.drew ?_
    | with_reducible refine below_dN ?_
    | with_reducible refine Below.alloc ?_ (by first | omega | (simp; done) | (simp; omega)) _
    | with_reducible refine Below.setCell ?_ (by first | omega | (simp; done) | (simp; omega)) _
    | with_reducible refine Below.trans ?_ (Below.mono (by assumption) (by first | omega | (simp; done) | (simp; omega)))
set_option maxRecDepth 100000 in
set_option maxHeartbeats 400000 in
theorem subtract_c (s : Bool) (a c : Nat) (ha : a < R4) (hc : c < W) (w : World) :
    Calls Tryz.prog 151 #[fieldV s, vec a, .int .u64 (c : Int)] w fun e w' => e = .returned (vec (rdc (pr s) a c)) ∧ Below w.heap.size w w' := by
  have Hp := Lib.hid (pr_lt s)
  have Hd := Lib.hid (rdc_val (pr s) a c)
  have Hc := Lib.hid hc
  clear hc
  go_enter Tryz.func151, Tryz.ntmps151
  go_wp2_with fail
  refine Calls.mono (limbSub_c a (pr s) ha Hp.out _) ?_
  rintro _ w1 ⟨rfl, h1⟩
  obtain ⟨c1, f1, s1⟩ := bfacts h1
  try simp only [World.size_alloc, World.size_setCell, size_drew, size_drewN] at s1
  have l_w_w1_0 : w.heap.size < w1.heap.size := by omega
  have l_w_w1_1 : w.heap.size + 1 < w1.heap.size := by omega
  have l_w_w1_2 : w.heap.size + 1 + 1 < w1.heap.size := by omega
  go_wp2_with fail
  refine region_mix 8 [false, false, false, false, false, false, false, false] (fun w' => Below (w1.heap.size + 1) _ w') (by kernel_rfl) (by kernel_rfl) (by intro _ _ d _ _ h; cases d <;> exact h) below_drew ?_
  simp only [List.take_succ_cons, List.take_zero, List.drop_succ_cons, List.drop_zero]
  with_reducible refine mix_v ?_ ?_ ?_
  · rfl
  · rfl
  apply Exists.intro
  refine ⟨fun w' hC => ?_, ?_⟩
  · have hcell := below_cells hC
    clear hC
    go_simp
    rfl
  try simp only [Act.put, sA, sB, sC, sD]
  with_reducible refine mix_c ?_ ?_ ?_
  · rfl
  · rfl
  apply Exists.intro
  apply Exists.intro
  apply Exists.intro
  refine ⟨fun w' hC => ?_, fun w' hC => ?_, ?_⟩
  · have hcell := below_cells hC
    clear hC
    go_simp
    exact ⟨rfl, rfl⟩
  · exact below_of hC (by simp) (still_below (fromBit_c _ (subC_lt a (pr s)) _))
  try simp only [Act.put, sA, sB, sC, sD]
  with_reducible refine mix_v ?_ ?_ ?_
  · rfl
  · rfl
  apply Exists.intro
  refine ⟨fun w' hC => ?_, ?_⟩
  · have hcell := below_cells hC
    clear hC
    go_simp
    rfl
  try simp only [Act.put, sA, sB, sC, sD]
  with_reducible refine mix_c ?_ ?_ ?_
  · rfl
  · rfl
  apply Exists.intro
  apply Exists.intro
  apply Exists.intro
  refine ⟨fun w' hC => ?_, fun w' hC => ?_, ?_⟩
  · have hcell := below_cells hC
    clear hC
    go_simp
    exact ⟨rfl, rfl⟩
  · exact below_of hC (by simp) (still_below (fromBit_c _ Hc.out _))
  try simp only [Act.put, sA, sB, sC, sD]
  with_reducible refine mix_v ?_ ?_ ?_
  · rfl
  · rfl
  apply Exists.intro
  refine ⟨fun w' hC => ?_, ?_⟩
  · have hcell := below_cells hC
    clear hC
    have hE := Hd.out.1
    go_simp
    rfl
  try simp only [Act.put, sA, sB, sC, sD]
  with_reducible refine mix_v ?_ ?_ ?_
  · rfl
  · rfl
  apply Exists.intro
  refine ⟨fun w' hC => ?_, ?_⟩
  · have hcell := below_cells hC
    clear hC
    go_simp
    rfl
  try simp only [Act.put, sA, sB, sC, sD]
  with_reducible refine mix_v ?_ ?_ ?_
  · rfl
  · rfl
  apply Exists.intro
  refine ⟨fun w' hC => ?_, ?_⟩
  · have hcell := below_cells hC
    clear hC
    go_simp
    rfl
  try simp only [Act.put, sA, sB, sC, sD]
  with_reducible refine mix_c ?_ ?_ ?_
  · rfl
  · rfl
  apply Exists.intro
  apply Exists.intro
  apply Exists.intro
  refine ⟨fun w' hC => ?_, fun w' hC => ?_, ?_⟩
  · have hcell := below_cells hC
    clear hC
    go_simp
    exact ⟨rfl, rfl⟩
  · exact below_of hC (by simp) (limbChoose_c _ a (subV a (pr s)) Hd.out.2.1 ha (subV_lt _ _) _)
  try simp only [Act.put, sA, sB, sC, sD]
  refine mix_nil ?_
  intro w2 h2
  obtain ⟨c2, f2, s2⟩ := bfactsB h2
  try simp only [World.size_alloc, World.size_setCell, size_drew, size_drewN] at s2
  go_wp2_with fail
  rw [Hd.out.2.2]
  refine bodyPost_ret (v := vec (rdc (pr s) a c)) (by simp only [results, Tryz.results151]; go_simp) rfl ⟨rfl, ?_⟩
  repeat first
    | with_reducible exact Below.refl _ _
    | with_reducible refine Below.drew ?_
    | with_reducible refine below_dN ?_
    | with_reducible refine Below.alloc ?_ (by first | omega | (simp; done) | (simp; omega)) _
    | with_reducible refine Below.setCell ?_ (by first | omega | (simp; done) | (simp; omega)) _
    | with_reducible refine Below.trans ?_ (Below.mono (by assumption) (by first | omega | (simp; done) | (simp; omega)))
end Go.Proofs.YtdnkkbmpefhbjaaGreatDoor
namespace Go.Proofs.YtdnkkbmpefhbjaaGreatDoor
set_option linter.all false
open Go.RowKit
/-- The number of the first n bytes, the least first. -/
def le (f : Nat → Nat) : Nat → Nat
  | 0 => 0
  | n + 1 => le f n + f n * 256 ^ n
theorem le_succ (f : Nat → Nat) (n : Nat) : le f (n + 1) = le f n + f n * 256 ^ n := rfl
theorem le_lt {f : Nat → Nat} (hf : ∀ j, f j < 256) : ∀ n, le f n < 256 ^ n
  | 0 => by simp [le]
  | n + 1 => by
    have := le_lt hf n
    have h := hf n
    unfold le
    rw [Nat.pow_succ]
    have : f n * 256 ^ n ≤ 255 * 256 ^ n := Nat.mul_le_mul_right _ (by omega)
    omega
theorem le_zero {f : Nat → Nat} (n m : Nat) (hz : ∀ j, n ≤ j → j < m → f j = 0) (hnm : n ≤ m) : le f m = le f n := by
  obtain ⟨k, rfl⟩ : ∃ k, m = n + k := ⟨m - n, by omega⟩
  induction k with
  | zero => rfl
  | succ k ih =>
    rw [← Nat.add_assoc, le_succ, ih (fun j h1 h2 => hz j h1 (by omega)) (by omega), hz (n + k) (by omega) (by omega)]
    simp
theorem W_256 : W = 256 ^ 8 := by decide
theorem le32_lt {f : Nat → Nat} (hf : ∀ j, f j < 256) : le f 32 < R4 := by
  have := le_lt hf 32
  rwa [show (256 : Nat) ^ 32 = R4 by decide] at this
/-- Byte k of a number. -/
def byt (n k : Nat) : Nat := n / 256 ^ k % 256
end Go.Proofs.YtdnkkbmpefhbjaaGreatDoor
namespace Go.Proofs.YtdnkkbmpefhbjaaGreatDoor
set_option linter.all false
open Go.RowKit
end Go.Proofs.YtdnkkbmpefhbjaaGreatDoor
namespace Go.Proofs.YtdnkkbmpefhbjaaGreatDoor
set_option linter.all false
open Go.RowKit
/-- An array of 32 bytes. -/
structure Arr32 (A : Array Value) (f : Nat → Nat) : Prop where
  size : A.size = 32
  get : ∀ j, j < 32 → A[j]? = some (.int .u8 ((f j : Nat) : Int))
  lt : ∀ j, f j < 256
end Go.Proofs.YtdnkkbmpefhbjaaGreatDoor
namespace Go.Proofs.YtdnkkbmpefhbjaaGreatDoor
set_option linter.all false
open Go Go.RowKit
/-- n bytes lie behind ⟨b, off⟩. -/
structure BytesAt (w : World) (b off n : Nat) (f : Nat → Nat) : Prop where
  lt : ∀ j, f j < 256
  blk : b < w.heap.size
  cell : ∀ j, j < n → w.cell? ⟨b, off + j, none⟩ = some (.int .u8 ((f j : Nat) : Int))
theorem BytesAt.below {w w' : World} {b off n : Nat} {f : Nat → Nat} (h : BytesAt w b off n f) (hb : Below w.heap.size w w') : BytesAt w' b off n f :=
  ⟨h.lt, Nat.lt_of_lt_of_le h.blk hb.size, fun j hj => (hb.cell (p := ⟨b, off + j, none⟩) h.blk).trans (h.cell j hj)⟩
theorem BytesAt.part {w : World} {b off n : Nat} {f : Nat → Nat} (h : BytesAt w b off n f) (k m : Nat) (hk : k + m ≤ n) : BytesAt w b (off + k) m (fun j => f (k + j)) :=
  ⟨fun j => h.lt _, h.blk, fun j hj => by rw [Nat.add_assoc]; exact h.cell (k + j) (by omega)⟩
theorem BytesAt.take {w : World} {b off n : Nat} {f : Nat → Nat} (h : BytesAt w b off n f) (m : Nat) (hk : m ≤ n) : BytesAt w b off m f :=
  ⟨h.lt, h.blk, fun j hj => h.cell j (by omega)⟩
end Go.Proofs.YtdnkkbmpefhbjaaGreatDoor
namespace Go.Proofs.YtdnkkbmpefhbjaaGreatDoor
set_option linter.all false
open Go.RowKit
theorem digit_at (b k : Nat) (h : k < 4) : ∀ h' : k < ([.int .u64 ((dg 0 b : Nat) : Int), .int .u64 ((dg 1 b : Nat) : Int), .int .u64 ((dg 2 b : Nat) : Int), .int .u64 ((dg 3 b : Nat) : Int)] : List Value).length,
    ([.int .u64 ((dg 0 b : Nat) : Int), .int .u64 ((dg 1 b : Nat) : Int), .int .u64 ((dg 2 b : Nat) : Int), .int .u64 ((dg 3 b : Nat) : Int)] : List Value)[k]'h' = .int .u64 ((dg k b : Nat) : Int) := fun h' => by
  rcases k with _ | _ | _ | _ | k <;> first | rfl | omega
set_option maxRecDepth 100000 in
set_option maxHeartbeats 2000000 in
theorem refSum_c (a b : Nat) (ha : a < R4) (hb : b < R4) (w : World) :
    Calls Tryz.prog 68 #[vec a, vec b] w fun e w' => e = .returned (.tuple #[vec (addV a b), .int .u64 ((addC a b : Nat) : Int)]) ∧ Below w.heap.size w w' := by
  have he := Lib.hid (chain_add ha hb)
  have A2 := wrap_add
  clear ha hb
  go_enter Tryz.func68, Tryz.ntmps68
  go_wp2_with fail
  go_loopw [7, 8] (fun c i wr => ∃ (k : Nat), k ≤ 4 ∧ i = .int .i64 (k : Int) ∧ c = .int .u64 ((cyc addHi a b k : Nat) : Int) ∧ wr = (((((w.alloc
      (.cells #[.int .u64 ((dg 0 a : Nat) : Int), .int .u64 ((dg 1 a : Nat) : Int), .int .u64 ((dg 2 a : Nat) : Int), .int .u64 ((dg 3 a : Nat) : Int)] 47)).alloc
      (.cells #[.int .u64 ((dg 0 b : Nat) : Int), .int .u64 ((dg 1 b : Nat) : Int), .int .u64 ((dg 2 b : Nat) : Int), .int .u64 ((dg 3 b : Nat) : Int)] 47)).alloc
      (.cells #[.int .u64 0, .int .u64 0, .int .u64 0, .int .u64 0] 47)).alloc
      (.cells #[.int .u64 ((ow addLo addHi a b 0 k : Nat) : Int), .int .u64 ((ow addLo addHi a b 1 k : Nat) : Int), .int .u64 ((ow addLo addHi a b 2 k : Nat) : Int), .int .u64 ((ow addLo addHi a b 3 k : Nat) : Int)] 47)))) (fun _ i _ => 4 - (intOf i).toNat)
  case atStart => exact ⟨0, by omega, rfl, rfl, rfl⟩
  case round =>
    obtain ⟨k, hk4, rfl, rfl, rfl⟩ := hrel
    by_cases hk : k < 4
    · have d1 := digit_at a k hk
      have d2 := digit_at b k hk
      go_wp2_with fail
      all_goals go_roundw
      all_goals first
        | (simp [intOf]; omega)
        | (have e1 : cyc addHi a b (k + 1) = 1 := sum_one (dg_lt _ _) (dg_lt _ _) (cyc_add_le _ _ _) (by omega)
           exact ⟨k + 1, by omega, by go_num, by rw [e1]; rfl, by rw [ow_set hk (sum_lo _ _ _)]⟩)
        | (have e0 : cyc addHi a b (k + 1) = 0 := sum_zero (dg_lt _ _) (dg_lt _ _) (cyc_add_le _ _ _) (by omega) (by omega)
           exact ⟨k + 1, by omega, by go_num, by rw [e0]; rfl, by rw [ow_set hk (sum_lo _ _ _)]⟩)
    · obtain rfl : k = 4 := by omega
      go_wp2_with fail
      have hv := ow_vec (hi := addHi) addLo_lt a b
      rw [← he.out.1, ← he.out.2, hv, chC_cyc]
      refine bodyPost_ret (v := .tuple #[.agg (ows addLo addHi a b 4).toArray, .int .u64 ((cyc addHi a b 4 : Nat) : Int)]) (by simp only [results, Tryz.results68]; go_simp) rfl ⟨rfl, ?_⟩
      repeat first
        | with_reducible exact Below.refl _ _
        | with_reducible refine Below.drew ?_
        | with_reducible refine below_dN ?_
        | with_reducible refine Below.alloc ?_ (by first | omega | (simp; done) | (simp; omega)) _
        | with_reducible refine Below.setCell ?_ (by first | omega | (simp; done) | (simp; omega)) _
        | with_reducible refine Below.trans ?_ (Below.mono (by assumption) (by first | omega | (simp; done) | (simp; omega)))
end Go.Proofs.YtdnkkbmpefhbjaaGreatDoor
namespace Go.Proofs.YtdnkkbmpefhbjaaGreatDoor
set_option linter.all false
open Go.RowKit
set_option maxRecDepth 100000 in
set_option maxHeartbeats 4000000 in
theorem refsub_c (a b : Nat) (ha : a < R4) (hb : b < R4) (w : World) :
    Calls Tryz.prog 112 #[vec a, vec b] w fun e w' => e = .returned (.tuple #[vec (subV a b), .int .u64 ((subC a b : Nat) : Int)]) ∧ Below w.heap.size w w' := by
  have he := Lib.hid (chain_sub ha hb)
  clear ha hb
  go_enter Tryz.func112, Tryz.ntmps112
  go_wp2_with fail
  go_loopw [7, 8] (fun c i wr => ∃ (k n : Nat), k ≤ 4 ∧ i = .int .i64 (k : Int) ∧ c = .int .u64 ((cyc subHi a b k : Nat) : Int) ∧ wr = World.drewN ((((w.alloc
      (.cells #[.int .u64 ((dg 0 a : Nat) : Int), .int .u64 ((dg 1 a : Nat) : Int), .int .u64 ((dg 2 a : Nat) : Int), .int .u64 ((dg 3 a : Nat) : Int)] 47)).alloc
      (.cells #[.int .u64 ((dg 0 b : Nat) : Int), .int .u64 ((dg 1 b : Nat) : Int), .int .u64 ((dg 2 b : Nat) : Int), .int .u64 ((dg 3 b : Nat) : Int)] 47)).alloc
      (.cells #[.int .u64 0, .int .u64 0, .int .u64 0, .int .u64 0] 47)).alloc
      (.cells #[.int .u64 ((ow subLo subHi a b 0 k : Nat) : Int), .int .u64 ((ow subLo subHi a b 1 k : Nat) : Int), .int .u64 ((ow subLo subHi a b 2 k : Nat) : Int), .int .u64 ((ow subLo subHi a b 3 k : Nat) : Int)] 47)) n) (fun _ i _ => 4 - (intOf i).toNat)
  case atStart => exact ⟨0, 0, by omega, rfl, rfl, rfl⟩
  case round =>
    obtain ⟨k, n, hk4, rfl, rfl, rfl⟩ := hrel
    by_cases hk : k < 4
    · have d1 := digit_at a k hk
      have d2 := digit_at b k hk
      have hx := wrap_sub (dg k a) (dg k b) (cyc subHi a b k) (dg_lt _ _) (dg_lt _ _) (cyc_sub_le _ _ _)
      have hlo : subLo (dg k a) (dg k b) (cyc subHi a b k) = subLo (dg k a) (dg k b) (cyc subHi a b k) := rfl
      have Hc := Lib.hid (cyc_sub_le a b k)
      have fin : ∀ (c n' : Nat) (v : Value), v = .int .u64 (c : Int) → c = cyc subHi a b (k + 1) → ∃ (k_1 n_1 : Nat), k_1 ≤ 4 ∧ Value.int IntKind.i64 ((k : Int) + 1) = .int .i64 (k_1 : Int) ∧ v = .int .u64 ((cyc subHi a b k_1 : Nat) : Int) ∧
        World.drewN ((((w.alloc
      (.cells #[.int .u64 ((dg 0 a : Nat) : Int), .int .u64 ((dg 1 a : Nat) : Int), .int .u64 ((dg 2 a : Nat) : Int), .int .u64 ((dg 3 a : Nat) : Int)] 47)).alloc
      (.cells #[.int .u64 ((dg 0 b : Nat) : Int), .int .u64 ((dg 1 b : Nat) : Int), .int .u64 ((dg 2 b : Nat) : Int), .int .u64 ((dg 3 b : Nat) : Int)] 47)).alloc
      (.cells #[.int .u64 0, .int .u64 0, .int .u64 0, .int .u64 0] 47)).alloc
      (.cells ((ows subLo subHi a b k).set k (.int .u64 ((subLo (dg k a) (dg k b) (cyc subHi a b k) : Nat) : Int))).toArray 47)) n' = World.drewN ((((w.alloc
      (.cells #[.int .u64 ((dg 0 a : Nat) : Int), .int .u64 ((dg 1 a : Nat) : Int), .int .u64 ((dg 2 a : Nat) : Int), .int .u64 ((dg 3 a : Nat) : Int)] 47)).alloc
      (.cells #[.int .u64 ((dg 0 b : Nat) : Int), .int .u64 ((dg 1 b : Nat) : Int), .int .u64 ((dg 2 b : Nat) : Int), .int .u64 ((dg 3 b : Nat) : Int)] 47)).alloc
      (.cells #[.int .u64 0, .int .u64 0, .int .u64 0, .int .u64 0] 47)).alloc
      (.cells (ows subLo subHi a b k_1).toArray 47)) n_1 := fun c n' v hv hc => ⟨k + 1, n', by omega, by go_num, by rw [hv, hc], by rw [ow_set hk rfl]⟩
      have Fin := Lib.hid fin
      clear fin hlo
      by_cases h1 : dg k a < dg k b
      · have hc : cyc subHi a b (k + 1) = 1 := (cyc_succ _ _ _ _).trans (sub_one (by omega))
        have HC := Lib.hid hc
        clear hc
        as_aux_lemma =>
          go_wp2_with fail
          refine region_mix 11 [false, false, false, false, false, false, false, false, false, false, false] (fun w' => w' = World.drew _) (by kernel_rfl) (by kernel_rfl) (by intro _ _ d _ _ h; cases d <;> exact h) rfl ?_
          simp only [List.take_succ_cons, List.take_zero, List.drop_succ_cons, List.drop_zero]
          with_reducible refine mix_v ?_ ?_ ?_
          · rfl
          · rfl
          apply Exists.intro
          refine ⟨fun w' hC => ?_, ?_⟩
          · subst hC
            go_simp
            rfl
          try simp only [Act.put, sA, sB, sC, sD]
          with_reducible refine mix_v ?_ ?_ ?_
          · rfl
          · rfl
          apply Exists.intro
          refine ⟨fun w' hC => ?_, ?_⟩
          · subst hC
            go_simp
            rfl
          try simp only [Act.put, sA, sB, sC, sD]
          with_reducible refine mix_v ?_ ?_ ?_
          · rfl
          · rfl
          apply Exists.intro
          refine ⟨fun w' hC => ?_, ?_⟩
          · subst hC
            go_simp
            rfl
          try simp only [Act.put, sA, sB, sC, sD]
          with_reducible refine mix_v ?_ ?_ ?_
          · rfl
          · rfl
          apply Exists.intro
          refine ⟨fun w' hC => ?_, ?_⟩
          · subst hC
            go_simp
            rfl
          try simp only [Act.put, sA, sB, sC, sD]
          with_reducible refine mix_v ?_ ?_ ?_
          · rfl
          · rfl
          apply Exists.intro
          refine ⟨fun w' hC => ?_, ?_⟩
          · subst hC
            go_simp
            rfl
          try simp only [Act.put, sA, sB, sC, sD]
          with_reducible refine mix_v ?_ ?_ ?_
          · rfl
          · rfl
          apply Exists.intro
          refine ⟨fun w' hC => ?_, ?_⟩
          · subst hC
            go_simp
            rfl
          try simp only [Act.put, sA, sB, sC, sD]
          with_reducible refine mix_v ?_ ?_ ?_
          · rfl
          · rfl
          apply Exists.intro
          refine ⟨fun w' hC => ?_, ?_⟩
          · subst hC
            go_simp
            rfl
          try simp only [Act.put, sA, sB, sC, sD]
          with_reducible refine mix_v ?_ ?_ ?_
          · rfl
          · rfl
          apply Exists.intro
          refine ⟨fun w' hC => ?_, ?_⟩
          · subst hC
            go_simp
            rfl
          try simp only [Act.put, sA, sB, sC, sD]
          with_reducible refine mix_v ?_ ?_ ?_
          · rfl
          · rfl
          apply Exists.intro
          refine ⟨fun w' hC => ?_, ?_⟩
          · subst hC
            go_simp
            rfl
          try simp only [Act.put, sA, sB, sC, sD]
          with_reducible refine mix_v ?_ ?_ ?_
          · rfl
          · rfl
          apply Exists.intro
          refine ⟨fun w' hC => ?_, ?_⟩
          · subst hC
            go_simp
            rfl
          try simp only [Act.put, sA, sB, sC, sD]
          with_reducible refine mix_v ?_ ?_ ?_
          · rfl
          · rfl
          apply Exists.intro
          refine ⟨fun w' hC => ?_, ?_⟩
          · subst hC
            go_simp
            rfl
          try simp only [Act.put, sA, sB, sC, sD]
          refine mix_nil ?_
          rintro _ rfl
          go_wp2_with fail
          refine region_quiet (fun w' => w' = World.drew _) (by kernel_rfl) (by kernel_rfl) rfl ?_
          with_reducible refine mix_v ?_ ?_ ?_
          · rfl
          · rfl
          apply Exists.intro
          refine ⟨fun w' hC => ?_, ?_⟩
          · subst hC
            go_simp
            rfl
          try simp only [Act.put, sA, sB, sC, sD]
          with_reducible refine mix_v ?_ ?_ ?_
          · rfl
          · rfl
          apply Exists.intro
          refine ⟨fun w' hC => ?_, ?_⟩
          · subst hC
            go_simp
            rfl
          try simp only [Act.put, sA, sB, sC, sD]
          with_reducible refine mix_v ?_ ?_ ?_
          · rfl
          · rfl
          apply Exists.intro
          refine ⟨fun w' hC => ?_, ?_⟩
          · subst hC
            go_simp
            rfl
          try simp only [Act.put, sA, sB, sC, sD]
          with_reducible refine mix_v ?_ ?_ ?_
          · rfl
          · rfl
          apply Exists.intro
          refine ⟨fun w' hC => ?_, ?_⟩
          · subst hC
            go_simp
            rfl
          try simp only [Act.put, sA, sB, sC, sD]
          with_reducible refine mix_v ?_ ?_ ?_
          · rfl
          · rfl
          apply Exists.intro
          refine ⟨fun w' hC => ?_, ?_⟩
          · subst hC
            go_simp
            rfl
          try simp only [Act.put, sA, sB, sC, sD]
          with_reducible refine mix_v ?_ ?_ ?_
          · rfl
          · rfl
          apply Exists.intro
          refine ⟨fun w' hC => ?_, ?_⟩
          · subst hC
            go_simp
            rfl
          try simp only [Act.put, sA, sB, sC, sD]
          with_reducible refine mix_v ?_ ?_ ?_
          · rfl
          · rfl
          apply Exists.intro
          refine ⟨fun w' hC => ?_, ?_⟩
          · subst hC
            go_simp
            rfl
          try simp only [Act.put, sA, sB, sC, sD]
          with_reducible refine mix_v ?_ ?_ ?_
          · rfl
          · rfl
          apply Exists.intro
          refine ⟨fun w' hC => ?_, ?_⟩
          · subst hC
            go_simp
            rfl
          try simp only [Act.put, sA, sB, sC, sD]
          first
            | (with_reducible refine mix_s ?_ ?_ ?_
               · rfl
               · rfl)
            | (with_reducible refine mix_v ?_ ?_ ?_
               · rfl
               · rfl
               apply Exists.intro
               refine ⟨fun w' hC => ?_, ?_⟩
               · subst hC
                 go_simp
                 rfl)
          try simp only [Act.put, sA, sB, sC, sD]
          first
            | (with_reducible refine mix_s ?_ ?_ ?_
               · rfl
               · rfl)
            | (with_reducible refine mix_v ?_ ?_ ?_
               · rfl
               · rfl
               apply Exists.intro
               refine ⟨fun w' hC => ?_, ?_⟩
               · subst hC
                 go_simp
                 rfl)
          try simp only [Act.put, sA, sB, sC, sD]
          first
            | (with_reducible refine mix_s ?_ ?_ ?_
               · rfl
               · rfl)
            | (with_reducible refine mix_v ?_ ?_ ?_
               · rfl
               · rfl
               apply Exists.intro
               refine ⟨fun w' hC => ?_, ?_⟩
               · subst hC
                 go_simp
                 rfl)
          try simp only [Act.put, sA, sB, sC, sD]
          first
            | (with_reducible refine mix_s ?_ ?_ ?_
               · rfl
               · rfl)
            | (with_reducible refine mix_v ?_ ?_ ?_
               · rfl
               · rfl
               apply Exists.intro
               refine ⟨fun w' hC => ?_, ?_⟩
               · subst hC
                 go_simp
                 rfl)
          try simp only [Act.put, sA, sB, sC, sD]
          first
            | (with_reducible refine mix_s ?_ ?_ ?_
               · rfl
               · rfl)
            | (with_reducible refine mix_v ?_ ?_ ?_
               · rfl
               · rfl
               apply Exists.intro
               refine ⟨fun w' hC => ?_, ?_⟩
               · subst hC
                 go_simp
                 rfl)
          try simp only [Act.put, sA, sB, sC, sD]
          first
            | (with_reducible refine mix_s ?_ ?_ ?_
               · rfl
               · rfl)
            | (with_reducible refine mix_v ?_ ?_ ?_
               · rfl
               · rfl
               apply Exists.intro
               refine ⟨fun w' hC => ?_, ?_⟩
               · subst hC
                 go_simp
                 rfl)
          try simp only [Act.put, sA, sB, sC, sD]
          first
            | (with_reducible refine mix_s ?_ ?_ ?_
               · rfl
               · rfl)
            | (with_reducible refine mix_v ?_ ?_ ?_
               · rfl
               · rfl
               apply Exists.intro
               refine ⟨fun w' hC => ?_, ?_⟩
               · subst hC
                 go_simp
                 rfl)
          try simp only [Act.put, sA, sB, sC, sD]
          first
            | (with_reducible refine mix_s ?_ ?_ ?_
               · rfl
               · rfl)
            | (with_reducible refine mix_v ?_ ?_ ?_
               · rfl
               · rfl
               apply Exists.intro
               refine ⟨fun w' hC => ?_, ?_⟩
               · subst hC
                 go_simp
                 rfl)
          try simp only [Act.put, sA, sB, sC, sD]
          first
            | (with_reducible refine mix_s ?_ ?_ ?_
               · rfl
               · rfl)
            | (with_reducible refine mix_v ?_ ?_ ?_
               · rfl
               · rfl
               apply Exists.intro
               refine ⟨fun w' hC => ?_, ?_⟩
               · subst hC
                 go_simp
                 rfl)
          try simp only [Act.put, sA, sB, sC, sD]
          first
            | (with_reducible refine mix_s ?_ ?_ ?_
               · rfl
               · rfl)
            | (with_reducible refine mix_v ?_ ?_ ?_
               · rfl
               · rfl
               apply Exists.intro
               refine ⟨fun w' hC => ?_, ?_⟩
               · subst hC
                 go_simp
                 rfl)
          try simp only [Act.put, sA, sB, sC, sD]
          first
            | (with_reducible refine mix_s ?_ ?_ ?_
               · rfl
               · rfl)
            | (with_reducible refine mix_v ?_ ?_ ?_
               · rfl
               · rfl
               apply Exists.intro
               refine ⟨fun w' hC => ?_, ?_⟩
               · subst hC
                 go_simp
                 rfl)
          try simp only [Act.put, sA, sB, sC, sD]
          with_reducible refine mix_v ?_ ?_ ?_
          · rfl
          · rfl
          apply Exists.intro
          refine ⟨fun w' hC => ?_, ?_⟩
          · subst hC
            go_simp
            rfl
          try simp only [Act.put, sA, sB, sC, sD]
          refine mix_nil ?_
          rintro _ rfl
          go_wp2_with fail
          go_roundw
          case rel => exact Fin.out 1 _ _ rfl HC.out.symm
          case measure => simp [intOf]; omega
      · by_cases h2 : dg k a = dg k b
        · obtain ⟨e1, e2, e3⟩ := eq_facts h2
          by_cases h3 : cyc subHi a b k = 1
          · have hc : cyc subHi a b (k + 1) = 1 := (cyc_succ _ _ _ _).trans (sub_one (by omega))
            obtain ⟨f1, f2, f3⟩ := eq1_facts h3
            have HC := Lib.hid hc
            have H2 := Lib.hid h2
            have H3 := Lib.hid h3
            clear hc h2 h3
            as_aux_lemma =>
              go_wp2_with fail
              refine region_mix 11 [false, false, false, false, false, false, false, false, false, false, false] (fun w' => w' = World.drew _) (by kernel_rfl) (by kernel_rfl) (by intro _ _ d _ _ h; cases d <;> exact h) rfl ?_
              simp only [List.take_succ_cons, List.take_zero, List.drop_succ_cons, List.drop_zero]
              with_reducible refine mix_v ?_ ?_ ?_
              · rfl
              · rfl
              apply Exists.intro
              refine ⟨fun w' hC => ?_, ?_⟩
              · subst hC
                go_simp
                rfl
              try simp only [Act.put, sA, sB, sC, sD]
              with_reducible refine mix_v ?_ ?_ ?_
              · rfl
              · rfl
              apply Exists.intro
              refine ⟨fun w' hC => ?_, ?_⟩
              · subst hC
                go_simp
                rfl
              try simp only [Act.put, sA, sB, sC, sD]
              with_reducible refine mix_v ?_ ?_ ?_
              · rfl
              · rfl
              apply Exists.intro
              refine ⟨fun w' hC => ?_, ?_⟩
              · subst hC
                go_simp
                rfl
              try simp only [Act.put, sA, sB, sC, sD]
              with_reducible refine mix_v ?_ ?_ ?_
              · rfl
              · rfl
              apply Exists.intro
              refine ⟨fun w' hC => ?_, ?_⟩
              · subst hC
                go_simp
                rfl
              try simp only [Act.put, sA, sB, sC, sD]
              with_reducible refine mix_v ?_ ?_ ?_
              · rfl
              · rfl
              apply Exists.intro
              refine ⟨fun w' hC => ?_, ?_⟩
              · subst hC
                go_simp
                rfl
              try simp only [Act.put, sA, sB, sC, sD]
              with_reducible refine mix_v ?_ ?_ ?_
              · rfl
              · rfl
              apply Exists.intro
              refine ⟨fun w' hC => ?_, ?_⟩
              · subst hC
                go_simp
                rfl
              try simp only [Act.put, sA, sB, sC, sD]
              with_reducible refine mix_v ?_ ?_ ?_
              · rfl
              · rfl
              apply Exists.intro
              refine ⟨fun w' hC => ?_, ?_⟩
              · subst hC
                go_simp
                rfl
              try simp only [Act.put, sA, sB, sC, sD]
              with_reducible refine mix_v ?_ ?_ ?_
              · rfl
              · rfl
              apply Exists.intro
              refine ⟨fun w' hC => ?_, ?_⟩
              · subst hC
                go_simp
                rfl
              try simp only [Act.put, sA, sB, sC, sD]
              with_reducible refine mix_v ?_ ?_ ?_
              · rfl
              · rfl
              apply Exists.intro
              refine ⟨fun w' hC => ?_, ?_⟩
              · subst hC
                go_simp
                rfl
              try simp only [Act.put, sA, sB, sC, sD]
              with_reducible refine mix_v ?_ ?_ ?_
              · rfl
              · rfl
              apply Exists.intro
              refine ⟨fun w' hC => ?_, ?_⟩
              · subst hC
                go_simp
                rfl
              try simp only [Act.put, sA, sB, sC, sD]
              with_reducible refine mix_v ?_ ?_ ?_
              · rfl
              · rfl
              apply Exists.intro
              refine ⟨fun w' hC => ?_, ?_⟩
              · subst hC
                go_simp
                rfl
              try simp only [Act.put, sA, sB, sC, sD]
              refine mix_nil ?_
              rintro _ rfl
              go_wp2_with fail
              refine region_quiet (fun w' => w' = World.drew _) (by kernel_rfl) (by kernel_rfl) rfl ?_
              with_reducible refine mix_v ?_ ?_ ?_
              · rfl
              · rfl
              apply Exists.intro
              refine ⟨fun w' hC => ?_, ?_⟩
              · subst hC
                go_simp
                rfl
              try simp only [Act.put, sA, sB, sC, sD]
              with_reducible refine mix_v ?_ ?_ ?_
              · rfl
              · rfl
              apply Exists.intro
              refine ⟨fun w' hC => ?_, ?_⟩
              · subst hC
                go_simp
                rfl
              try simp only [Act.put, sA, sB, sC, sD]
              with_reducible refine mix_v ?_ ?_ ?_
              · rfl
              · rfl
              apply Exists.intro
              refine ⟨fun w' hC => ?_, ?_⟩
              · subst hC
                go_simp
                rfl
              try simp only [Act.put, sA, sB, sC, sD]
              with_reducible refine mix_v ?_ ?_ ?_
              · rfl
              · rfl
              apply Exists.intro
              refine ⟨fun w' hC => ?_, ?_⟩
              · subst hC
                go_simp
                rfl
              try simp only [Act.put, sA, sB, sC, sD]
              with_reducible refine mix_v ?_ ?_ ?_
              · rfl
              · rfl
              apply Exists.intro
              refine ⟨fun w' hC => ?_, ?_⟩
              · subst hC
                go_simp
                rfl
              try simp only [Act.put, sA, sB, sC, sD]
              with_reducible refine mix_v ?_ ?_ ?_
              · rfl
              · rfl
              apply Exists.intro
              refine ⟨fun w' hC => ?_, ?_⟩
              · subst hC
                go_simp
                rfl
              try simp only [Act.put, sA, sB, sC, sD]
              with_reducible refine mix_v ?_ ?_ ?_
              · rfl
              · rfl
              apply Exists.intro
              refine ⟨fun w' hC => ?_, ?_⟩
              · subst hC
                go_simp
                rfl
              try simp only [Act.put, sA, sB, sC, sD]
              with_reducible refine mix_v ?_ ?_ ?_
              · rfl
              · rfl
              apply Exists.intro
              refine ⟨fun w' hC => ?_, ?_⟩
              · subst hC
                go_simp
                rfl
              try simp only [Act.put, sA, sB, sC, sD]
              first
                | (with_reducible refine mix_s ?_ ?_ ?_
                   · rfl
                   · rfl)
                | (with_reducible refine mix_v ?_ ?_ ?_
                   · rfl
                   · rfl
                   apply Exists.intro
                   refine ⟨fun w' hC => ?_, ?_⟩
                   · subst hC
                     go_simp
                     rfl)
              try simp only [Act.put, sA, sB, sC, sD]
              first
                | (with_reducible refine mix_s ?_ ?_ ?_
                   · rfl
                   · rfl)
                | (with_reducible refine mix_v ?_ ?_ ?_
                   · rfl
                   · rfl
                   apply Exists.intro
                   refine ⟨fun w' hC => ?_, ?_⟩
                   · subst hC
                     go_simp
                     rfl)
              try simp only [Act.put, sA, sB, sC, sD]
              first
                | (with_reducible refine mix_s ?_ ?_ ?_
                   · rfl
                   · rfl)
                | (with_reducible refine mix_v ?_ ?_ ?_
                   · rfl
                   · rfl
                   apply Exists.intro
                   refine ⟨fun w' hC => ?_, ?_⟩
                   · subst hC
                     go_simp
                     rfl)
              try simp only [Act.put, sA, sB, sC, sD]
              first
                | (with_reducible refine mix_s ?_ ?_ ?_
                   · rfl
                   · rfl)
                | (with_reducible refine mix_v ?_ ?_ ?_
                   · rfl
                   · rfl
                   apply Exists.intro
                   refine ⟨fun w' hC => ?_, ?_⟩
                   · subst hC
                     go_simp
                     rfl)
              try simp only [Act.put, sA, sB, sC, sD]
              first
                | (with_reducible refine mix_s ?_ ?_ ?_
                   · rfl
                   · rfl)
                | (with_reducible refine mix_v ?_ ?_ ?_
                   · rfl
                   · rfl
                   apply Exists.intro
                   refine ⟨fun w' hC => ?_, ?_⟩
                   · subst hC
                     go_simp
                     rfl)
              try simp only [Act.put, sA, sB, sC, sD]
              first
                | (with_reducible refine mix_s ?_ ?_ ?_
                   · rfl
                   · rfl)
                | (with_reducible refine mix_v ?_ ?_ ?_
                   · rfl
                   · rfl
                   apply Exists.intro
                   refine ⟨fun w' hC => ?_, ?_⟩
                   · subst hC
                     go_simp
                     rfl)
              try simp only [Act.put, sA, sB, sC, sD]
              first
                | (with_reducible refine mix_s ?_ ?_ ?_
                   · rfl
                   · rfl)
                | (with_reducible refine mix_v ?_ ?_ ?_
                   · rfl
                   · rfl
                   apply Exists.intro
                   refine ⟨fun w' hC => ?_, ?_⟩
                   · subst hC
                     go_simp
                     rfl)
              try simp only [Act.put, sA, sB, sC, sD]
              first
                | (with_reducible refine mix_s ?_ ?_ ?_
                   · rfl
                   · rfl)
                | (with_reducible refine mix_v ?_ ?_ ?_
                   · rfl
                   · rfl
                   apply Exists.intro
                   refine ⟨fun w' hC => ?_, ?_⟩
                   · subst hC
                     go_simp
                     rfl)
              try simp only [Act.put, sA, sB, sC, sD]
              first
                | (with_reducible refine mix_s ?_ ?_ ?_
                   · rfl
                   · rfl)
                | (with_reducible refine mix_v ?_ ?_ ?_
                   · rfl
                   · rfl
                   apply Exists.intro
                   refine ⟨fun w' hC => ?_, ?_⟩
                   · subst hC
                     go_simp
                     rfl)
              try simp only [Act.put, sA, sB, sC, sD]
              first
                | (with_reducible refine mix_s ?_ ?_ ?_
                   · rfl
                   · rfl)
                | (with_reducible refine mix_v ?_ ?_ ?_
                   · rfl
                   · rfl
                   apply Exists.intro
                   refine ⟨fun w' hC => ?_, ?_⟩
                   · subst hC
                     go_simp
                     rfl)
              try simp only [Act.put, sA, sB, sC, sD]
              first
                | (with_reducible refine mix_s ?_ ?_ ?_
                   · rfl
                   · rfl)
                | (with_reducible refine mix_v ?_ ?_ ?_
                   · rfl
                   · rfl
                   apply Exists.intro
                   refine ⟨fun w' hC => ?_, ?_⟩
                   · subst hC
                     go_simp
                     rfl)
              try simp only [Act.put, sA, sB, sC, sD]
              with_reducible refine mix_v ?_ ?_ ?_
              · rfl
              · rfl
              apply Exists.intro
              refine ⟨fun w' hC => ?_, ?_⟩
              · subst hC
                go_simp
                rfl
              try simp only [Act.put, sA, sB, sC, sD]
              refine mix_nil ?_
              rintro _ rfl
              go_wp2_with fail
              go_roundw
              case rel => exact Fin.out 1 _ _ rfl HC.out.symm
              case measure => simp [intOf]; omega
          · have h4 : cyc subHi a b k = 0 := by have := cyc_sub_le a b k; omega
            have hc : cyc subHi a b (k + 1) = 0 := (cyc_succ _ _ _ _).trans (sub_zero (by omega))
            obtain ⟨f1, f2, f3⟩ := ne1_facts h4
            have HC := Lib.hid hc
            have H2 := Lib.hid h2
            clear hc h2 h3 h4
            as_aux_lemma =>
              go_wp2_with fail
              refine region_mix 11 [false, false, false, false, false, false, false, false, false, false, false] (fun w' => w' = World.drew _) (by kernel_rfl) (by kernel_rfl) (by intro _ _ d _ _ h; cases d <;> exact h) rfl ?_
              simp only [List.take_succ_cons, List.take_zero, List.drop_succ_cons, List.drop_zero]
              with_reducible refine mix_v ?_ ?_ ?_
              · rfl
              · rfl
              apply Exists.intro
              refine ⟨fun w' hC => ?_, ?_⟩
              · subst hC
                go_simp
                rfl
              try simp only [Act.put, sA, sB, sC, sD]
              with_reducible refine mix_v ?_ ?_ ?_
              · rfl
              · rfl
              apply Exists.intro
              refine ⟨fun w' hC => ?_, ?_⟩
              · subst hC
                go_simp
                rfl
              try simp only [Act.put, sA, sB, sC, sD]
              with_reducible refine mix_v ?_ ?_ ?_
              · rfl
              · rfl
              apply Exists.intro
              refine ⟨fun w' hC => ?_, ?_⟩
              · subst hC
                go_simp
                rfl
              try simp only [Act.put, sA, sB, sC, sD]
              with_reducible refine mix_v ?_ ?_ ?_
              · rfl
              · rfl
              apply Exists.intro
              refine ⟨fun w' hC => ?_, ?_⟩
              · subst hC
                go_simp
                rfl
              try simp only [Act.put, sA, sB, sC, sD]
              with_reducible refine mix_v ?_ ?_ ?_
              · rfl
              · rfl
              apply Exists.intro
              refine ⟨fun w' hC => ?_, ?_⟩
              · subst hC
                go_simp
                rfl
              try simp only [Act.put, sA, sB, sC, sD]
              with_reducible refine mix_v ?_ ?_ ?_
              · rfl
              · rfl
              apply Exists.intro
              refine ⟨fun w' hC => ?_, ?_⟩
              · subst hC
                go_simp
                rfl
              try simp only [Act.put, sA, sB, sC, sD]
              with_reducible refine mix_v ?_ ?_ ?_
              · rfl
              · rfl
              apply Exists.intro
              refine ⟨fun w' hC => ?_, ?_⟩
              · subst hC
                go_simp
                rfl
              try simp only [Act.put, sA, sB, sC, sD]
              with_reducible refine mix_v ?_ ?_ ?_
              · rfl
              · rfl
              apply Exists.intro
              refine ⟨fun w' hC => ?_, ?_⟩
              · subst hC
                go_simp
                rfl
              try simp only [Act.put, sA, sB, sC, sD]
              with_reducible refine mix_v ?_ ?_ ?_
              · rfl
              · rfl
              apply Exists.intro
              refine ⟨fun w' hC => ?_, ?_⟩
              · subst hC
                go_simp
                rfl
              try simp only [Act.put, sA, sB, sC, sD]
              with_reducible refine mix_v ?_ ?_ ?_
              · rfl
              · rfl
              apply Exists.intro
              refine ⟨fun w' hC => ?_, ?_⟩
              · subst hC
                go_simp
                rfl
              try simp only [Act.put, sA, sB, sC, sD]
              with_reducible refine mix_v ?_ ?_ ?_
              · rfl
              · rfl
              apply Exists.intro
              refine ⟨fun w' hC => ?_, ?_⟩
              · subst hC
                go_simp
                rfl
              try simp only [Act.put, sA, sB, sC, sD]
              refine mix_nil ?_
              rintro _ rfl
              go_wp2_with fail
              refine region_quiet (fun w' => w' = World.drew _) (by kernel_rfl) (by kernel_rfl) rfl ?_
              with_reducible refine mix_v ?_ ?_ ?_
              · rfl
              · rfl
              apply Exists.intro
              refine ⟨fun w' hC => ?_, ?_⟩
              · subst hC
                go_simp
                rfl
              try simp only [Act.put, sA, sB, sC, sD]
              with_reducible refine mix_v ?_ ?_ ?_
              · rfl
              · rfl
              apply Exists.intro
              refine ⟨fun w' hC => ?_, ?_⟩
              · subst hC
                go_simp
                rfl
              try simp only [Act.put, sA, sB, sC, sD]
              with_reducible refine mix_v ?_ ?_ ?_
              · rfl
              · rfl
              apply Exists.intro
              refine ⟨fun w' hC => ?_, ?_⟩
              · subst hC
                go_simp
                rfl
              try simp only [Act.put, sA, sB, sC, sD]
              with_reducible refine mix_v ?_ ?_ ?_
              · rfl
              · rfl
              apply Exists.intro
              refine ⟨fun w' hC => ?_, ?_⟩
              · subst hC
                go_simp
                rfl
              try simp only [Act.put, sA, sB, sC, sD]
              with_reducible refine mix_v ?_ ?_ ?_
              · rfl
              · rfl
              apply Exists.intro
              refine ⟨fun w' hC => ?_, ?_⟩
              · subst hC
                go_simp
                rfl
              try simp only [Act.put, sA, sB, sC, sD]
              with_reducible refine mix_v ?_ ?_ ?_
              · rfl
              · rfl
              apply Exists.intro
              refine ⟨fun w' hC => ?_, ?_⟩
              · subst hC
                go_simp
                rfl
              try simp only [Act.put, sA, sB, sC, sD]
              with_reducible refine mix_v ?_ ?_ ?_
              · rfl
              · rfl
              apply Exists.intro
              refine ⟨fun w' hC => ?_, ?_⟩
              · subst hC
                go_simp
                rfl
              try simp only [Act.put, sA, sB, sC, sD]
              with_reducible refine mix_v ?_ ?_ ?_
              · rfl
              · rfl
              apply Exists.intro
              refine ⟨fun w' hC => ?_, ?_⟩
              · subst hC
                go_simp
                rfl
              try simp only [Act.put, sA, sB, sC, sD]
              first
                | (with_reducible refine mix_s ?_ ?_ ?_
                   · rfl
                   · rfl)
                | (with_reducible refine mix_v ?_ ?_ ?_
                   · rfl
                   · rfl
                   apply Exists.intro
                   refine ⟨fun w' hC => ?_, ?_⟩
                   · subst hC
                     go_simp
                     rfl)
              try simp only [Act.put, sA, sB, sC, sD]
              first
                | (with_reducible refine mix_s ?_ ?_ ?_
                   · rfl
                   · rfl)
                | (with_reducible refine mix_v ?_ ?_ ?_
                   · rfl
                   · rfl
                   apply Exists.intro
                   refine ⟨fun w' hC => ?_, ?_⟩
                   · subst hC
                     go_simp
                     rfl)
              try simp only [Act.put, sA, sB, sC, sD]
              first
                | (with_reducible refine mix_s ?_ ?_ ?_
                   · rfl
                   · rfl)
                | (with_reducible refine mix_v ?_ ?_ ?_
                   · rfl
                   · rfl
                   apply Exists.intro
                   refine ⟨fun w' hC => ?_, ?_⟩
                   · subst hC
                     go_simp
                     rfl)
              try simp only [Act.put, sA, sB, sC, sD]
              first
                | (with_reducible refine mix_s ?_ ?_ ?_
                   · rfl
                   · rfl)
                | (with_reducible refine mix_v ?_ ?_ ?_
                   · rfl
                   · rfl
                   apply Exists.intro
                   refine ⟨fun w' hC => ?_, ?_⟩
                   · subst hC
                     go_simp
                     rfl)
              try simp only [Act.put, sA, sB, sC, sD]
              first
                | (with_reducible refine mix_s ?_ ?_ ?_
                   · rfl
                   · rfl)
                | (with_reducible refine mix_v ?_ ?_ ?_
                   · rfl
                   · rfl
                   apply Exists.intro
                   refine ⟨fun w' hC => ?_, ?_⟩
                   · subst hC
                     go_simp
                     rfl)
              try simp only [Act.put, sA, sB, sC, sD]
              first
                | (with_reducible refine mix_s ?_ ?_ ?_
                   · rfl
                   · rfl)
                | (with_reducible refine mix_v ?_ ?_ ?_
                   · rfl
                   · rfl
                   apply Exists.intro
                   refine ⟨fun w' hC => ?_, ?_⟩
                   · subst hC
                     go_simp
                     rfl)
              try simp only [Act.put, sA, sB, sC, sD]
              first
                | (with_reducible refine mix_s ?_ ?_ ?_
                   · rfl
                   · rfl)
                | (with_reducible refine mix_v ?_ ?_ ?_
                   · rfl
                   · rfl
                   apply Exists.intro
                   refine ⟨fun w' hC => ?_, ?_⟩
                   · subst hC
                     go_simp
                     rfl)
              try simp only [Act.put, sA, sB, sC, sD]
              first
                | (with_reducible refine mix_s ?_ ?_ ?_
                   · rfl
                   · rfl)
                | (with_reducible refine mix_v ?_ ?_ ?_
                   · rfl
                   · rfl
                   apply Exists.intro
                   refine ⟨fun w' hC => ?_, ?_⟩
                   · subst hC
                     go_simp
                     rfl)
              try simp only [Act.put, sA, sB, sC, sD]
              first
                | (with_reducible refine mix_s ?_ ?_ ?_
                   · rfl
                   · rfl)
                | (with_reducible refine mix_v ?_ ?_ ?_
                   · rfl
                   · rfl
                   apply Exists.intro
                   refine ⟨fun w' hC => ?_, ?_⟩
                   · subst hC
                     go_simp
                     rfl)
              try simp only [Act.put, sA, sB, sC, sD]
              first
                | (with_reducible refine mix_s ?_ ?_ ?_
                   · rfl
                   · rfl)
                | (with_reducible refine mix_v ?_ ?_ ?_
                   · rfl
                   · rfl
                   apply Exists.intro
                   refine ⟨fun w' hC => ?_, ?_⟩
                   · subst hC
                     go_simp
                     rfl)
              try simp only [Act.put, sA, sB, sC, sD]
              first
                | (with_reducible refine mix_s ?_ ?_ ?_
                   · rfl
                   · rfl)
                | (with_reducible refine mix_v ?_ ?_ ?_
                   · rfl
                   · rfl
                   apply Exists.intro
                   refine ⟨fun w' hC => ?_, ?_⟩
                   · subst hC
                     go_simp
                     rfl)
              try simp only [Act.put, sA, sB, sC, sD]
              with_reducible refine mix_v ?_ ?_ ?_
              · rfl
              · rfl
              apply Exists.intro
              refine ⟨fun w' hC => ?_, ?_⟩
              · subst hC
                go_simp
                rfl
              try simp only [Act.put, sA, sB, sC, sD]
              refine mix_nil ?_
              rintro _ rfl
              go_wp2_with fail
              go_roundw
              case rel => exact Fin.out 0 _ _ rfl HC.out.symm
              case measure => simp [intOf]; omega
        · have h5 : dg k b < dg k a := by omega
          have hc : cyc subHi a b (k + 1) = 0 := (cyc_succ _ _ _ _).trans (sub_zero (by have := cyc_sub_le a b k; omega))
          obtain ⟨e1, e2, e3⟩ := ne_facts h2
          have HC := Lib.hid hc
          clear hc h2 h5
          as_aux_lemma =>
            go_wp2_with fail
            refine region_mix 11 [false, false, false, false, false, false, false, false, false, false, false] (fun w' => w' = World.drew _) (by kernel_rfl) (by kernel_rfl) (by intro _ _ d _ _ h; cases d <;> exact h) rfl ?_
            simp only [List.take_succ_cons, List.take_zero, List.drop_succ_cons, List.drop_zero]
            with_reducible refine mix_v ?_ ?_ ?_
            · rfl
            · rfl
            apply Exists.intro
            refine ⟨fun w' hC => ?_, ?_⟩
            · subst hC
              go_simp
              rfl
            try simp only [Act.put, sA, sB, sC, sD]
            with_reducible refine mix_v ?_ ?_ ?_
            · rfl
            · rfl
            apply Exists.intro
            refine ⟨fun w' hC => ?_, ?_⟩
            · subst hC
              go_simp
              rfl
            try simp only [Act.put, sA, sB, sC, sD]
            with_reducible refine mix_v ?_ ?_ ?_
            · rfl
            · rfl
            apply Exists.intro
            refine ⟨fun w' hC => ?_, ?_⟩
            · subst hC
              go_simp
              rfl
            try simp only [Act.put, sA, sB, sC, sD]
            with_reducible refine mix_v ?_ ?_ ?_
            · rfl
            · rfl
            apply Exists.intro
            refine ⟨fun w' hC => ?_, ?_⟩
            · subst hC
              go_simp
              rfl
            try simp only [Act.put, sA, sB, sC, sD]
            with_reducible refine mix_v ?_ ?_ ?_
            · rfl
            · rfl
            apply Exists.intro
            refine ⟨fun w' hC => ?_, ?_⟩
            · subst hC
              go_simp
              rfl
            try simp only [Act.put, sA, sB, sC, sD]
            with_reducible refine mix_v ?_ ?_ ?_
            · rfl
            · rfl
            apply Exists.intro
            refine ⟨fun w' hC => ?_, ?_⟩
            · subst hC
              go_simp
              rfl
            try simp only [Act.put, sA, sB, sC, sD]
            with_reducible refine mix_v ?_ ?_ ?_
            · rfl
            · rfl
            apply Exists.intro
            refine ⟨fun w' hC => ?_, ?_⟩
            · subst hC
              go_simp
              rfl
            try simp only [Act.put, sA, sB, sC, sD]
            with_reducible refine mix_v ?_ ?_ ?_
            · rfl
            · rfl
            apply Exists.intro
            refine ⟨fun w' hC => ?_, ?_⟩
            · subst hC
              go_simp
              rfl
            try simp only [Act.put, sA, sB, sC, sD]
            with_reducible refine mix_v ?_ ?_ ?_
            · rfl
            · rfl
            apply Exists.intro
            refine ⟨fun w' hC => ?_, ?_⟩
            · subst hC
              go_simp
              rfl
            try simp only [Act.put, sA, sB, sC, sD]
            with_reducible refine mix_v ?_ ?_ ?_
            · rfl
            · rfl
            apply Exists.intro
            refine ⟨fun w' hC => ?_, ?_⟩
            · subst hC
              go_simp
              rfl
            try simp only [Act.put, sA, sB, sC, sD]
            with_reducible refine mix_v ?_ ?_ ?_
            · rfl
            · rfl
            apply Exists.intro
            refine ⟨fun w' hC => ?_, ?_⟩
            · subst hC
              go_simp
              rfl
            try simp only [Act.put, sA, sB, sC, sD]
            refine mix_nil ?_
            rintro _ rfl
            go_wp2_with fail
            refine region_quiet (fun w' => w' = World.drew _) (by kernel_rfl) (by kernel_rfl) rfl ?_
            with_reducible refine mix_v ?_ ?_ ?_
            · rfl
            · rfl
            apply Exists.intro
            refine ⟨fun w' hC => ?_, ?_⟩
            · subst hC
              go_simp
              rfl
            try simp only [Act.put, sA, sB, sC, sD]
            with_reducible refine mix_v ?_ ?_ ?_
            · rfl
            · rfl
            apply Exists.intro
            refine ⟨fun w' hC => ?_, ?_⟩
            · subst hC
              go_simp
              rfl
            try simp only [Act.put, sA, sB, sC, sD]
            with_reducible refine mix_v ?_ ?_ ?_
            · rfl
            · rfl
            apply Exists.intro
            refine ⟨fun w' hC => ?_, ?_⟩
            · subst hC
              go_simp
              rfl
            try simp only [Act.put, sA, sB, sC, sD]
            with_reducible refine mix_v ?_ ?_ ?_
            · rfl
            · rfl
            apply Exists.intro
            refine ⟨fun w' hC => ?_, ?_⟩
            · subst hC
              go_simp
              rfl
            try simp only [Act.put, sA, sB, sC, sD]
            with_reducible refine mix_v ?_ ?_ ?_
            · rfl
            · rfl
            apply Exists.intro
            refine ⟨fun w' hC => ?_, ?_⟩
            · subst hC
              go_simp
              rfl
            try simp only [Act.put, sA, sB, sC, sD]
            with_reducible refine mix_v ?_ ?_ ?_
            · rfl
            · rfl
            apply Exists.intro
            refine ⟨fun w' hC => ?_, ?_⟩
            · subst hC
              go_simp
              rfl
            try simp only [Act.put, sA, sB, sC, sD]
            with_reducible refine mix_v ?_ ?_ ?_
            · rfl
            · rfl
            apply Exists.intro
            refine ⟨fun w' hC => ?_, ?_⟩
            · subst hC
              go_simp
              rfl
            try simp only [Act.put, sA, sB, sC, sD]
            with_reducible refine mix_v ?_ ?_ ?_
            · rfl
            · rfl
            apply Exists.intro
            refine ⟨fun w' hC => ?_, ?_⟩
            · subst hC
              go_simp
              rfl
            try simp only [Act.put, sA, sB, sC, sD]
            first
              | (with_reducible refine mix_s ?_ ?_ ?_
                 · rfl
                 · rfl)
              | (with_reducible refine mix_v ?_ ?_ ?_
                 · rfl
                 · rfl
                 apply Exists.intro
                 refine ⟨fun w' hC => ?_, ?_⟩
                 · subst hC
                   go_simp
                   rfl)
            try simp only [Act.put, sA, sB, sC, sD]
            first
              | (with_reducible refine mix_s ?_ ?_ ?_
                 · rfl
                 · rfl)
              | (with_reducible refine mix_v ?_ ?_ ?_
                 · rfl
                 · rfl
                 apply Exists.intro
                 refine ⟨fun w' hC => ?_, ?_⟩
                 · subst hC
                   go_simp
                   rfl)
            try simp only [Act.put, sA, sB, sC, sD]
            first
              | (with_reducible refine mix_s ?_ ?_ ?_
                 · rfl
                 · rfl)
              | (with_reducible refine mix_v ?_ ?_ ?_
                 · rfl
                 · rfl
                 apply Exists.intro
                 refine ⟨fun w' hC => ?_, ?_⟩
                 · subst hC
                   go_simp
                   rfl)
            try simp only [Act.put, sA, sB, sC, sD]
            first
              | (with_reducible refine mix_s ?_ ?_ ?_
                 · rfl
                 · rfl)
              | (with_reducible refine mix_v ?_ ?_ ?_
                 · rfl
                 · rfl
                 apply Exists.intro
                 refine ⟨fun w' hC => ?_, ?_⟩
                 · subst hC
                   go_simp
                   rfl)
            try simp only [Act.put, sA, sB, sC, sD]
            first
              | (with_reducible refine mix_s ?_ ?_ ?_
                 · rfl
                 · rfl)
              | (with_reducible refine mix_v ?_ ?_ ?_
                 · rfl
                 · rfl
                 apply Exists.intro
                 refine ⟨fun w' hC => ?_, ?_⟩
                 · subst hC
                   go_simp
                   rfl)
            try simp only [Act.put, sA, sB, sC, sD]
            first
              | (with_reducible refine mix_s ?_ ?_ ?_
                 · rfl
                 · rfl)
              | (with_reducible refine mix_v ?_ ?_ ?_
                 · rfl
                 · rfl
                 apply Exists.intro
                 refine ⟨fun w' hC => ?_, ?_⟩
                 · subst hC
                   go_simp
                   rfl)
            try simp only [Act.put, sA, sB, sC, sD]
            first
              | (with_reducible refine mix_s ?_ ?_ ?_
                 · rfl
                 · rfl)
              | (with_reducible refine mix_v ?_ ?_ ?_
                 · rfl
                 · rfl
                 apply Exists.intro
                 refine ⟨fun w' hC => ?_, ?_⟩
                 · subst hC
                   go_simp
                   rfl)
            try simp only [Act.put, sA, sB, sC, sD]
            first
              | (with_reducible refine mix_s ?_ ?_ ?_
                 · rfl
                 · rfl)
              | (with_reducible refine mix_v ?_ ?_ ?_
                 · rfl
                 · rfl
                 apply Exists.intro
                 refine ⟨fun w' hC => ?_, ?_⟩
                 · subst hC
                   go_simp
                   rfl)
            try simp only [Act.put, sA, sB, sC, sD]
            first
              | (with_reducible refine mix_s ?_ ?_ ?_
                 · rfl
                 · rfl)
              | (with_reducible refine mix_v ?_ ?_ ?_
                 · rfl
                 · rfl
                 apply Exists.intro
                 refine ⟨fun w' hC => ?_, ?_⟩
                 · subst hC
                   go_simp
                   rfl)
            try simp only [Act.put, sA, sB, sC, sD]
            first
              | (with_reducible refine mix_s ?_ ?_ ?_
                 · rfl
                 · rfl)
              | (with_reducible refine mix_v ?_ ?_ ?_
                 · rfl
                 · rfl
                 apply Exists.intro
                 refine ⟨fun w' hC => ?_, ?_⟩
                 · subst hC
                   go_simp
                   rfl)
            try simp only [Act.put, sA, sB, sC, sD]
            first
              | (with_reducible refine mix_s ?_ ?_ ?_
                 · rfl
                 · rfl)
              | (with_reducible refine mix_v ?_ ?_ ?_
                 · rfl
                 · rfl
                 apply Exists.intro
                 refine ⟨fun w' hC => ?_, ?_⟩
                 · subst hC
                   go_simp
                   rfl)
            try simp only [Act.put, sA, sB, sC, sD]
            with_reducible refine mix_v ?_ ?_ ?_
            · rfl
            · rfl
            apply Exists.intro
            refine ⟨fun w' hC => ?_, ?_⟩
            · subst hC
              go_simp
              rfl
            try simp only [Act.put, sA, sB, sC, sD]
            refine mix_nil ?_
            rintro _ rfl
            go_wp2_with fail
            go_roundw
            case rel => exact Fin.out 0 _ _ rfl HC.out.symm
            case measure => simp [intOf]; omega
    · have h4 : k = 4 := by omega
      have hv : vec (subV a b) = .agg (ows subLo subHi a b k).toArray := by subst h4; rw [← he.out.1, ow_vec subLo_lt]
      have hc : subC a b = cyc subHi a b k := by subst h4; rw [← he.out.2, chC_cyc]
      simp only [ows] at hv
      generalize cyc subHi a b k = c at hc ⊢
      generalize ow subLo subHi a b 0 k = o0 at hv ⊢
      generalize ow subLo subHi a b 1 k = o1 at hv ⊢
      generalize ow subLo subHi a b 2 k = o2 at hv ⊢
      generalize ow subLo subHi a b 3 k = o3 at hv ⊢
      have Hv := Lib.hid hv
      have Hc := Lib.hid hc
      clear hv hc
      clear he hk hk4
      subst h4
      go_wp2_with fail
      rw [Hv.out, Hc.out]
      refine bodyPost_ret (v := .tuple #[.agg #[.int .u64 (o0 : Int), .int .u64 (o1 : Int), .int .u64 (o2 : Int), .int .u64 (o3 : Int)], .int .u64 (c : Int)]) (by simp only [results, Tryz.results112]; go_simp) rfl ⟨rfl, ?_⟩
      repeat first
        | with_reducible exact Below.refl _ _
        | with_reducible refine Below.drew ?_
        | with_reducible refine below_dN ?_
        | with_reducible refine Below.alloc ?_ (by first | omega | (simp; done) | (simp; omega)) _
        | with_reducible refine Below.setCell ?_ (by first | omega | (simp; done) | (simp; omega)) _
        | with_reducible refine Below.trans ?_ (Below.mono (by assumption) (by first | omega | (simp; done) | (simp; omega)))
end Go.Proofs.YtdnkkbmpefhbjaaGreatDoor
namespace Go.Proofs.YtdnkkbmpefhbjaaGreatDoor
set_option linter.all false
open Go.RowKit
set_option maxRecDepth 100000 in
set_option maxHeartbeats 1000000 in
theorem refOne_c (w : World) :
    Calls Tryz.prog 67 #[] w fun e w' => e = .returned (vec 1) ∧ Below w.heap.size w w' := by
  go_enter Tryz.func67, Tryz.ntmps67
  go_wp2_with fail
  have hv : vec 1 = .agg #[.int .u64 1, .int .u64 0, .int .u64 0, .int .u64 0] := rfl
  rw [hv]
  refine bodyPost_ret (v := .agg #[.int .u64 1, .int .u64 0, .int .u64 0, .int .u64 0]) (by simp only [results, Tryz.results67]; go_simp) rfl ⟨rfl, ?_⟩
  repeat first
    | with_reducible exact Below.refl _ _
    | with_reducible refine Below.drew ?_
    | with_reducible refine below_dN ?_
    | with_reducible refine Below.alloc ?_ (by first | omega | (simp; done) | (simp; omega)) _
    | with_reducible refine Below.setCell ?_ (by first | omega | (simp; done) | (simp; omega)) _
    | with_reducible refine Below.trans ?_ (Below.mono (by assumption) (by first | omega | (simp; done) | (simp; omega)))
set_option maxRecDepth 100000 in
set_option maxHeartbeats 1000000 in
theorem refSubtract_c (m a c : Nat) (hm : m < R4) (ha : a < R4) (w : World) :
    Calls Tryz.prog 69 #[vec m, vec a, .int .u64 (c : Int)] w fun e w' => e = .returned (vec (rdc m a c)) ∧ Below w.heap.size w w' := by
  go_enter Tryz.func69, Tryz.ntmps69
  go_wp2_with fail
  refine Calls.mono (refsub_c a m ha hm _) ?_
  rintro _ w1 ⟨rfl, h1⟩
  obtain ⟨c1, f1, s1⟩ := bfacts h1
  try simp only [World.size_alloc, World.size_setCell, size_drew, size_drewN] at s1
  have l_w_w1_0 : w.heap.size < w1.heap.size := by omega
  have l_w_w1_1 : w.heap.size + 1 < w1.heap.size := by omega
  have l_w_w1_2 : w.heap.size + 1 + 1 < w1.heap.size := by omega
  by_cases h1 : a < m
  · have e1 : subC a m = 1 := if_pos h1
    rw [e1]
    by_cases h2 : c % 2 = 0
    · have E2 := Lib.hid (show vec (rdc m a c) = vec a from congrArg vec (if_pos ⟨h1, h2⟩))
      go_wp2_with fail
      rw [E2.out]
      refine bodyPost_ret (v := vec a) (by simp only [results, Tryz.results69]; go_simp) rfl ⟨rfl, ?_⟩
      repeat first
        | with_reducible exact Below.refl _ _
        | with_reducible refine Below.drew ?_
        | with_reducible refine below_dN ?_
        | with_reducible refine Below.alloc ?_ (by first | omega | (simp; done) | (simp; omega)) _
        | with_reducible refine Below.setCell ?_ (by first | omega | (simp; done) | (simp; omega)) _
        | with_reducible refine Below.trans ?_ (Below.mono (by assumption) (by first | omega | (simp; done) | (simp; omega)))
    · have E2 := Lib.hid (show vec (rdc m a c) = vec (subV a m) from congrArg vec (if_neg (fun e => h2 e.2)))
      go_wp2_with fail
      rw [E2.out]
      refine bodyPost_ret (v := vec (subV a m)) (by simp only [results, Tryz.results69]; go_simp) rfl ⟨rfl, ?_⟩
      repeat first
        | with_reducible exact Below.refl _ _
        | with_reducible refine Below.drew ?_
        | with_reducible refine below_dN ?_
        | with_reducible refine Below.alloc ?_ (by first | omega | (simp; done) | (simp; omega)) _
        | with_reducible refine Below.setCell ?_ (by first | omega | (simp; done) | (simp; omega)) _
        | with_reducible refine Below.trans ?_ (Below.mono (by assumption) (by first | omega | (simp; done) | (simp; omega)))
  · have e1 : subC a m = 0 := if_neg h1
    rw [e1]
    have E2 := Lib.hid (show vec (rdc m a c) = vec (subV a m) from congrArg vec (if_neg (fun e => h1 e.1)))
    by_cases h2 : c % 2 = 0
    · go_wp2_with fail
      rw [E2.out]
      refine bodyPost_ret (v := vec (subV a m)) (by simp only [results, Tryz.results69]; go_simp) rfl ⟨rfl, ?_⟩
      repeat first
        | with_reducible exact Below.refl _ _
        | with_reducible refine Below.drew ?_
        | with_reducible refine below_dN ?_
        | with_reducible refine Below.alloc ?_ (by first | omega | (simp; done) | (simp; omega)) _
        | with_reducible refine Below.setCell ?_ (by first | omega | (simp; done) | (simp; omega)) _
        | with_reducible refine Below.trans ?_ (Below.mono (by assumption) (by first | omega | (simp; done) | (simp; omega)))
    · go_wp2_with fail
      rw [E2.out]
      refine bodyPost_ret (v := vec (subV a m)) (by simp only [results, Tryz.results69]; go_simp) rfl ⟨rfl, ?_⟩
      repeat first
        | with_reducible exact Below.refl _ _
        | with_reducible refine Below.drew ?_
        | with_reducible refine below_dN ?_
        | with_reducible refine Below.alloc ?_ (by first | omega | (simp; done) | (simp; omega)) _
        | with_reducible refine Below.setCell ?_ (by first | omega | (simp; done) | (simp; omega)) _
        | with_reducible refine Below.trans ?_ (Below.mono (by assumption) (by first | omega | (simp; done) | (simp; omega)))
/-- Sum and difference modulo p, of the reference. -/
def addm (p a b : Nat) : Nat := (a + b) % p
def subm (p a b : Nat) : Nat := (a + p - b) % p
theorem addm_lt {p : Nat} (hp : 0 < p) (a b : Nat) : addm p a b < p := Nat.mod_lt _ hp
theorem rdc_add {p a b : Nat} (hp : p < R4) (ha : a < p) (hb : b < p) : rdc p (addV a b) (addC a b) = addm p a b := by
  unfold rdc addV addC subV addm
  have h2 : (a + b) / R4 ≤ 1 := by
    have : (a + b) / R4 < 2 := Nat.div_lt_of_lt_mul (by omega)
    omega
  by_cases h3 : a + b < p
  · rw [Nat.mod_eq_of_lt (show a + b < R4 by omega), Nat.div_eq_of_lt (show a + b < R4 by omega), if_pos ⟨h3, rfl⟩, Nat.mod_eq_of_lt h3]
  · have e : (a + b) % p = a + b - p := by rw [Nat.mod_eq_sub_mod (by omega), Nat.mod_eq_of_lt (by omega)]
    rw [e]
    by_cases h4 : a + b < R4
    · rw [Nat.mod_eq_of_lt h4, if_neg (fun x => h3 x.1), Nat.mod_eq_sub_mod (by omega), show a + b + R4 - p - R4 = a + b - p by omega, Nat.mod_eq_of_lt (by omega)]
    · have e5 : (a + b) / R4 = 1 := by
        have := Nat.div_pos (show R4 ≤ a + b by omega) (show 0 < R4 by decide)
        omega
      have e6 : (a + b) % R4 = a + b - R4 := by rw [Nat.mod_eq_sub_mod (by omega), Nat.mod_eq_of_lt (by omega)]
      rw [e5, if_neg (fun x => absurd x.2 (by decide)), e6, show a + b - R4 + R4 - p = a + b - p by omega, Nat.mod_eq_of_lt (by omega)]
theorem sub_borrow {p a b : Nat} (hp : p < R4) (ha : a < p) (hb : b < p) (h : a < b) : addV (subV a b) p = subm p a b := by
  unfold addV subV subm
  rw [Nat.mod_eq_of_lt (show a + R4 - b < R4 by omega), Nat.mod_eq_of_lt (show a + p - b < p by omega), show a + R4 - b + p = (a + p - b) + R4 by omega, Nat.add_mod_right, Nat.mod_eq_of_lt (by omega)]
theorem sub_plain {p a b : Nat} (hp : p < R4) (ha : a < p) (h : ¬ a < b) : subV a b = subm p a b := by
  unfold subV subm
  rw [show a + R4 - b = (a - b) + R4 by omega, Nat.add_mod_right, show a + p - b = (a - b) + p by omega, Nat.add_mod_right, Nat.mod_eq_of_lt (show a - b < R4 by omega), Nat.mod_eq_of_lt (show a - b < p by omega)]
set_option maxRecDepth 100000 in
set_option maxHeartbeats 1000000 in
theorem refAdd_c (p a b : Nat) (hp : p < R4) (ha : a < p) (hb : b < p) (w : World) :
    Calls Tryz.prog 30 #[vec p, vec a, vec b] w fun e w' => e = .returned (vec (addm p a b)) ∧ Below w.heap.size w w' := by
  rw [← rdc_add hp ha hb]
  have ha4 : a < R4 := by omega
  have hb4 : b < R4 := by omega
  clear ha hb
  go_enter Tryz.func30, Tryz.ntmps30
  go_wp2_with fail
  refine Calls.mono (refSum_c a b ha4 hb4 _) ?_
  rintro _ w1 ⟨rfl, h1⟩
  obtain ⟨c1, f1, s1⟩ := bfacts h1
  try simp only [World.size_alloc, World.size_setCell, size_drew, size_drewN] at s1
  have l_w_w1_0 : w.heap.size < w1.heap.size := by omega
  have l_w_w1_1 : w.heap.size + 1 < w1.heap.size := by omega
  have l_w_w1_2 : w.heap.size + 1 + 1 < w1.heap.size := by omega
  have l_w_w1_3 : w.heap.size + 1 + 1 + 1 < w1.heap.size := by omega
  go_wp2_with fail
  refine Calls.mono (refSubtract_c p _ (addC a b) hp (addV_lt a b) _) ?_
  rintro _ w2 ⟨rfl, h2⟩
  obtain ⟨c2, f2, s2⟩ := bfacts h2
  try simp only [World.size_alloc, World.size_setCell, size_drew, size_drewN] at s2
  have l_w_w2_0 : w.heap.size < w2.heap.size := by omega
  have l_w_w2_1 : w.heap.size + 1 < w2.heap.size := by omega
  have l_w_w2_2 : w.heap.size + 1 + 1 < w2.heap.size := by omega
  have l_w_w2_3 : w.heap.size + 1 + 1 + 1 < w2.heap.size := by omega
  go_wp2_with fail
  refine bodyPost_ret (v := vec (rdc p (addV a b) (addC a b))) (by simp only [results, Tryz.results30]; go_simp) rfl ⟨rfl, ?_⟩
  repeat first
    | with_reducible exact Below.refl _ _
    | with_reducible refine Below.drew ?_
    | with_reducible refine below_dN ?_
    | with_reducible refine Below.alloc ?_ (by first | omega | (simp; done) | (simp; omega)) _
    | with_reducible refine Below.setCell ?_ (by first | omega | (simp; done) | (simp; omega)) _
    | with_reducible refine Below.trans ?_ (Below.mono (by assumption) (by first | omega | (simp; done) | (simp; omega)))
end Go.Proofs.YtdnkkbmpefhbjaaGreatDoor
namespace Go.Proofs.YtdnkkbmpefhbjaaGreatDoor
set_option linter.all false
open Go.RowKit
end Go.Proofs.YtdnkkbmpefhbjaaGreatDoor
namespace Go.Proofs.YtdnkkbmpefhbjaaGreatDoor
set_option linter.all false
open Go.RowKit
def sh (x k : Nat) : Nat := x / 2 ^ k
def bitn (b i : Nat) : Nat := b / 2 ^ i % 2
theorem sh_zero (x : Nat) : sh x 0 = x := by simp [sh]
theorem sh_succ (x k : Nat) : sh x (k + 1) = sh x k / 2 := by
  unfold sh; rw [Nat.pow_succ, Nat.div_div_eq_div_mul]
theorem sh_lt {x : Nat} (h : x < W) (k : Nat) : sh x k < W := Nat.lt_of_le_of_lt (Nat.div_le_self _ _) h
theorem sh_bit (b i : Nat) : sh (dg (i / 64) b) (i % 64) % 2 = bitn b i := by
  unfold sh bitn dg
  have e : W ^ (i / 64) = 2 ^ (64 * (i / 64)) := by rw [Nat.pow_mul]; rfl
  have e2 : W = 2 ^ (i % 64) * 2 ^ (64 - i % 64) := by rw [← Nat.pow_add, show i % 64 + (64 - i % 64) = 64 by omega]; rfl
  have e3 : 2 ^ i = 2 ^ (64 * (i / 64)) * 2 ^ (i % 64) := by rw [← Nat.pow_add, show 64 * (i / 64) + i % 64 = i by omega]
  rw [e, e3, ← Nat.div_div_eq_div_mul]
  generalize b / 2 ^ (64 * (i / 64)) = x
  have h : x % W / 2 ^ (i % 64) = x / 2 ^ (i % 64) % 2 ^ (64 - i % 64) := by
    rw [e2, Nat.mod_mul_right_div_self]
  rw [h]
  obtain ⟨n, hn⟩ : ∃ n, 64 - i % 64 = n + 1 := ⟨63 - i % 64, by omega⟩
  rw [hn, Nat.pow_succ, Nat.mul_comm, Nat.mod_mul_right_mod]
set_option maxRecDepth 100000 in
set_option maxHeartbeats 1000000 in
theorem refBit_c (b i : Nat) (hi : i < 256) (w : World) :
    Calls Tryz.prog 111 #[vec b, .int .i64 (i : Int)] w fun e w' => e = .returned (.int .u64 ((bitn b i : Nat) : Int)) ∧ Below w.heap.size w w' := by
  have hj : i / 64 < 4 := by omega
  have d1 := digit_at b (i / 64) hj
  have hb := Lib.hid (show ((sh (dg (i / 64) b) (i % 64) : Nat) : Int) % 2 = ((bitn b i : Nat) : Int) from by rw [← sh_bit b i]; rfl)
  have hl := sh_lt (dg_lt (i / 64) b)
  go_enter Tryz.func111, Tryz.ntmps111
  go_wp2_with fail
  go_loopw [5, 6] (fun x k wr => ∃ (n : Nat), n ≤ i % 64 ∧ x = .int .u64 ((sh (dg (i / 64) b) n : Nat) : Int) ∧ k = .int .i64 (n : Int) ∧ wr = w.alloc
      (.cells #[.int .u64 ((dg 0 b : Nat) : Int), .int .u64 ((dg 1 b : Nat) : Int), .int .u64 ((dg 2 b : Nat) : Int), .int .u64 ((dg 3 b : Nat) : Int)] 47)) (fun _ k _ => 64 - (intOf k).toNat)
  case atStart => exact ⟨0, by omega, by rw [sh_zero], rfl, rfl⟩
  case round =>
    obtain ⟨n, hn, rfl, rfl, rfl⟩ := hrel
    by_cases hk : n < i % 64
    · go_wp2_with fail
      all_goals go_roundw
      case rel => exact ⟨n + 1, by omega, by rw [sh_succ, IntKind.wrap_u64]; exact congrArg (Value.int .u64) (by have := hl n; unfold W at this; omega), by go_num, trivial⟩
      case measure => simp [intOf]; omega
    · obtain rfl : n = i % 64 := by omega
      go_wp2_with fail
      rw [hb.out]
      refine bodyPost_ret (v := .int .u64 ((bitn b i : Nat) : Int)) (by simp only [results, Tryz.results111]; go_simp) rfl ⟨rfl, ?_⟩
      repeat first
        | with_reducible exact Below.refl _ _
        | with_reducible refine Below.drew ?_
        | with_reducible refine below_dN ?_
        | with_reducible refine Below.alloc ?_ (by first | omega | (simp; done) | (simp; omega)) _
        | with_reducible refine Below.setCell ?_ (by first | omega | (simp; done) | (simp; omega)) _
        | with_reducible refine Below.trans ?_ (Below.mono (by assumption) (by first | omega | (simp; done) | (simp; omega)))
end Go.Proofs.YtdnkkbmpefhbjaaGreatDoor
namespace Go.Proofs.YtdnkkbmpefhbjaaGreatDoor
set_option linter.all false
open Go.RowKit
/-- What the product's loop holds before bit i. -/
def hm (p a b i : Nat) : Nat := b / 2 ^ i * a % p
/-- The product modulo p. -/
def mulm (p a b : Nat) : Nat := b * a % p
theorem hm_lt {p : Nat} (hp : 0 < p) (a b i : Nat) : hm p a b i < p := Nat.mod_lt _ hp
theorem mulm_lt {p : Nat} (hp : 0 < p) (a b : Nat) : mulm p a b < p := Nat.mod_lt _ hp
theorem hm_top {p a b : Nat} (hb : b < R4) : hm p a b 256 = 0 := by
  unfold hm
  rw [Nat.div_eq_of_lt (show b < 2 ^ 256 from hb)]; simp
theorem hm_zero (p a b : Nat) : hm p a b 0 = mulm p a b := by simp [hm, mulm]
theorem bit_le (b i : Nat) : bitn b i ≤ 1 := by unfold bitn; omega
theorem hm_half (b i : Nat) : b / 2 ^ i = 2 * (b / 2 ^ (i + 1)) + bitn b i := by
  unfold bitn; rw [Nat.pow_succ, ← Nat.div_div_eq_div_mul]; omega
theorem hm_step0 {p a b i : Nat} (h : bitn b i = 0) : addm p (hm p a b (i + 1)) (hm p a b (i + 1)) = hm p a b i := by
  have e : b / 2 ^ i = 2 * (b / 2 ^ (i + 1)) := by have := hm_half b i; omega
  unfold addm hm
  rw [e, ← Nat.add_mod, ← Nat.two_mul, Nat.mul_assoc]
theorem hm_step1 {p a b i : Nat} (h : bitn b i = 1) : addm p (addm p (hm p a b (i + 1)) (hm p a b (i + 1))) a = hm p a b i := by
  unfold addm hm
  rw [hm_half b i, h, ← Nat.add_mod, Nat.mod_add_mod, Nat.add_mul, Nat.one_mul, ← Nat.two_mul, Nat.mul_assoc]
set_option maxRecDepth 100000 in
set_option maxHeartbeats 2000000 in
theorem refMul_c (p a b : Nat) (hp : p < R4) (ha : a < p) (hb : b < R4) (w : World) :
    Calls Tryz.prog 66 #[vec p, vec a, vec b] w fun e w' => e = .returned (vec (mulm p a b)) ∧ Below w.heap.size w w' := by
  have Hp := Lib.hid hp
  have Ha := Lib.hid ha
  have Hp0 := Lib.hid (show 0 < p by omega)
  have Ht := Lib.hid (hm_top (p := p) (a := a) hb)
  clear hp ha hb
  go_enter Tryz.func66, Tryz.ntmps66
  go_wp2_with fail
  go_loopw [8] (fun i wr => ∃ (k : Nat), k ≤ 256 ∧ i = .int .i64 ((k : Int) - 1) ∧ Below (w.heap.size + 1 + 1 + 1 + 1 + 1) (((((w.alloc
      (.cells #[.int .u64 ((dg 0 p : Nat) : Int), .int .u64 ((dg 1 p : Nat) : Int), .int .u64 ((dg 2 p : Nat) : Int), .int .u64 ((dg 3 p : Nat) : Int)] 47)).alloc
      (.cells #[.int .u64 ((dg 0 a : Nat) : Int), .int .u64 ((dg 1 a : Nat) : Int), .int .u64 ((dg 2 a : Nat) : Int), .int .u64 ((dg 3 a : Nat) : Int)] 47)).alloc
      (.cells #[.int .u64 ((dg 0 b : Nat) : Int), .int .u64 ((dg 1 b : Nat) : Int), .int .u64 ((dg 2 b : Nat) : Int), .int .u64 ((dg 3 b : Nat) : Int)] 47)).alloc
      (.cells #[.int .u64 0, .int .u64 0, .int .u64 0, .int .u64 0] 47)).alloc
      (.cells #[.int .u64 ((dg 0 (hm p a b k) : Nat) : Int), .int .u64 ((dg 1 (hm p a b k) : Nat) : Int), .int .u64 ((dg 2 (hm p a b k) : Nat) : Int), .int .u64 ((dg 3 (hm p a b k) : Nat) : Int)] 47)) wr) (fun i _ => (intOf i + 1).toNat)
  case atStart => exact ⟨256, by omega, rfl, by rw [Ht.out]; exact Below.refl _ _⟩
  case round =>
    obtain ⟨k, hk, rfl, hB⟩ := hrel
    rcases k with _ | k
    · obtain ⟨c1, f1, s1⟩ := bfactsB hB
      simp only [World.size_alloc] at s1
      go_wp2_with fail
      rw [hm_zero]
      refine bodyPost_ret (v := vec (mulm p a b)) (by simp only [results, Tryz.results66]; go_simp) rfl ⟨rfl, ?_⟩
      repeat first
        | with_reducible exact Below.refl _ _
        | with_reducible refine Below.drew ?_
        | with_reducible refine below_dN ?_
        | with_reducible refine Below.alloc ?_ (by first | omega | (simp; done) | (simp; omega)) _
        | with_reducible refine Below.setCell ?_ (by first | omega | (simp; done) | (simp; omega)) _
        | with_reducible refine Below.trans ?_ (Below.mono (by assumption) (by first | omega | (simp; done) | (simp; omega)))
    · obtain ⟨c1, f1, s1⟩ := bfactsB hB
      simp only [World.size_alloc] at s1
      have ek : (((k + 1 : Nat) : Int) - 1) = (k : Int) := by omega
      rw [ek]
      clear ek
      have l_w_wr_0 : w.heap.size < wr.heap.size := by omega
      have l_w_wr_1 : w.heap.size + 1 < wr.heap.size := by omega
      have l_w_wr_2 : w.heap.size + 1 + 1 < wr.heap.size := by omega
      have l_w_wr_3 : w.heap.size + 1 + 1 + 1 < wr.heap.size := by omega
      have l_w_wr_4 : w.heap.size + 1 + 1 + 1 + 1 < wr.heap.size := by omega
      go_wp2_with fail
      refine Calls.mono (refAdd_c p (hm p a b (k + 1)) (hm p a b (k + 1)) Hp.out (hm_lt Hp0.out _ _ _) (hm_lt Hp0.out _ _ _) _) ?_
      rintro _ w2 ⟨rfl, h2⟩
      obtain ⟨c2, f2, s2⟩ := bfacts h2
      try simp only [World.size_alloc, World.size_setCell, size_drew, size_drewN] at s2
      have l_w_w2_0 : w.heap.size < w2.heap.size := by omega
      have l_w_w2_1 : w.heap.size + 1 < w2.heap.size := by omega
      have l_w_w2_2 : w.heap.size + 1 + 1 < w2.heap.size := by omega
      have l_w_w2_3 : w.heap.size + 1 + 1 + 1 < w2.heap.size := by omega
      have l_w_w2_4 : w.heap.size + 1 + 1 + 1 + 1 < w2.heap.size := by omega
      go_wp2_with fail
      refine Calls.mono (refBit_c b k (by omega) _) ?_
      rintro _ w3 ⟨rfl, h3⟩
      obtain ⟨c3, f3, s3⟩ := bfacts h3
      try simp only [World.size_alloc, World.size_setCell, size_drew, size_drewN] at s3
      have l_w_w3_0 : w.heap.size < w3.heap.size := by omega
      have l_w_w3_1 : w.heap.size + 1 < w3.heap.size := by omega
      have l_w_w3_2 : w.heap.size + 1 + 1 < w3.heap.size := by omega
      have l_w_w3_3 : w.heap.size + 1 + 1 + 1 < w3.heap.size := by omega
      have l_w_w3_4 : w.heap.size + 1 + 1 + 1 + 1 < w3.heap.size := by omega
      have hB3 := (below_four (d0 := .int .u64 ((dg 0 (addm p (hm p a b (k + 1)) (hm p a b (k + 1))) : Nat) : Int)) (d1 := .int .u64 ((dg 1 (addm p (hm p a b (k + 1)) (hm p a b (k + 1))) : Nat) : Int)) (d2 := .int .u64 ((dg 2 (addm p (hm p a b (k + 1)) (hm p a b (k + 1))) : Nat) : Int)) (d3 := .int .u64 ((dg 3 (addm p (hm p a b (k + 1)) (hm p a b (k + 1))) : Nat) : Int)) (hB.trans (h2.mono s1)) (n := w.heap.size + 1 + 1 + 1 + 1) (by simp only [World.size_alloc])).trans (h3.mono (by simp only [World.size_setCell, size_drewN, size_drew]; omega))
      have HB3 := Lib.hid hB3
      clear hB3
      by_cases hbit : bitn b k = 1
      · rw [hbit]
        have hs := Lib.hid (hm_step1 (p := p) (a := a) hbit)
        clear hbit
        go_wp2_with fail
        refine Calls.mono (refAdd_c p (addm p (hm p a b (k + 1)) (hm p a b (k + 1))) a Hp.out (addm_lt Hp0.out _ _) Ha.out _) ?_
        rintro _ w4 ⟨rfl, h4⟩
        obtain ⟨c4, f4, s4⟩ := bfacts h4
        try simp only [World.size_alloc, World.size_setCell, size_drew, size_drewN] at s4
        have l_w_w4_0 : w.heap.size < w4.heap.size := by omega
        have l_w_w4_1 : w.heap.size + 1 < w4.heap.size := by omega
        have l_w_w4_2 : w.heap.size + 1 + 1 < w4.heap.size := by omega
        have l_w_w4_3 : w.heap.size + 1 + 1 + 1 < w4.heap.size := by omega
        have l_w_w4_4 : w.heap.size + 1 + 1 + 1 + 1 < w4.heap.size := by omega
        have hB4 := below_four (d0 := .int .u64 ((dg 0 (hm p a b k) : Nat) : Int)) (d1 := .int .u64 ((dg 1 (hm p a b k) : Nat) : Int)) (d2 := .int .u64 ((dg 2 (hm p a b k) : Nat) : Int)) (d3 := .int .u64 ((dg 3 (hm p a b k) : Nat) : Int)) (HB3.out.trans (h4.mono (by omega))) (n := w.heap.size + 1 + 1 + 1 + 1) (by simp only [World.size_alloc])
        have HB4 := Lib.hid hB4
        clear hB4
        rw [hs.out]
        go_wp2_with fail
        go_roundw
        case rel => exact ⟨k, by omega, rfl, HB4.out⟩
        case measure => simp [intOf]
      · have hz : bitn b k = 0 := by have := bit_le b k; omega
        rw [hz]
        have hs := hm_step0 (p := p) (a := a) hz
        rw [hs] at HB3
        have Hs := Lib.hid hs
        clear hbit hz hs
        go_wp2_with fail
        go_roundw
        case rel => exact ⟨k, by omega, rfl, HB3.out⟩
        case measure => simp [intOf]
end Go.Proofs.YtdnkkbmpefhbjaaGreatDoor
namespace Go.Proofs.YtdnkkbmpefhbjaaGreatDoor
set_option linter.all false
open Go.RowKit
/-- What Radix holds after i rounds. -/
def rx (p i : Nat) : Nat := 2 ^ i % p
theorem rx_lt {p : Nat} (hp : 0 < p) (i : Nat) : rx p i < p := Nat.mod_lt _ hp
theorem rx_zero {p : Nat} (hp : 1 < p) : rx p 0 = 1 := by simp [rx, Nat.mod_eq_of_lt hp]
theorem rx_succ (p i : Nat) : addm p (rx p i) (rx p i) = rx p (i + 1) := by
  unfold addm rx; rw [← Nat.add_mod, ← Nat.two_mul, Nat.pow_succ, Nat.mul_comm]
set_option maxRecDepth 100000 in
set_option maxHeartbeats 2000000 in
theorem refRadix_c (p : Nat) (hp : p < R4) (hp1 : 1 < p) (w : World) :
    Calls Tryz.prog 84 #[vec p] w fun e w' => e = .returned (vec (R4 % p)) ∧ Below w.heap.size w w' := by
  have Hp := Lib.hid hp
  have Hp0 := Lib.hid (show 0 < p by omega)
  have H1 := Lib.hid (rx_zero hp1)
  have He : rx p 256 = R4 % p := rfl
  rw [← He]
  clear hp hp1 He
  go_enter Tryz.func84, Tryz.ntmps84
  go_wp2_with fail
  refine Calls.mono (refOne_c _) ?_
  rintro _ w1 ⟨rfl, h1⟩
  obtain ⟨c1, f1, s1⟩ := bfacts h1
  try simp only [World.size_alloc, World.size_setCell, size_drew, size_drewN] at s1
  have l_w_w1_0 : w.heap.size < w1.heap.size := by omega
  have l_w_w1_1 : w.heap.size + 1 < w1.heap.size := by omega
  go_wp2_with fail
  go_loopw [4] (fun i wr => ∃ (k : Nat), k ≤ 256 ∧ i = .int .i64 (k : Int) ∧ Below (w1.heap.size + 1) (w1.alloc
      (.cells #[.int .u64 ((dg 0 (rx p k) : Nat) : Int), .int .u64 ((dg 1 (rx p k) : Nat) : Int), .int .u64 ((dg 2 (rx p k) : Nat) : Int), .int .u64 ((dg 3 (rx p k) : Nat) : Int)] 47)) wr) (fun i _ => 256 - (intOf i).toNat)
  case atStart => exact ⟨0, by omega, rfl, by rw [H1.out]; exact Below.refl _ _⟩
  case round =>
    obtain ⟨k, hk, rfl, hB⟩ := hrel
    obtain ⟨c2, f2, s2⟩ := bfactsB hB
    simp only [World.size_alloc] at s2
    have l_w_wr_0 : w.heap.size < wr.heap.size := by omega
    have l_w_wr_1 : w.heap.size + 1 < wr.heap.size := by omega
    have l2 : w1.heap.size < wr.heap.size := by omega
    by_cases hk2 : k < 256
    · go_wp2_with fail
      refine Calls.mono (refAdd_c p (rx p k) (rx p k) Hp.out (rx_lt Hp0.out _) (rx_lt Hp0.out _) _) ?_
      rintro _ w3 ⟨rfl, h3⟩
      obtain ⟨c3, f3, s3⟩ := bfacts h3
      try simp only [World.size_alloc, World.size_setCell, size_drew, size_drewN] at s3
      rw [rx_succ]
      have l_w_w3_0 : w.heap.size < w3.heap.size := by omega
      have l_w_w3_1 : w.heap.size + 1 < w3.heap.size := by omega
      have l3 : w1.heap.size < w3.heap.size := by omega
      have hB4 := below_four (d0 := .int .u64 ((dg 0 (rx p (k + 1)) : Nat) : Int)) (d1 := .int .u64 ((dg 1 (rx p (k + 1)) : Nat) : Int)) (d2 := .int .u64 ((dg 2 (rx p (k + 1)) : Nat) : Int)) (d3 := .int .u64 ((dg 3 (rx p (k + 1)) : Nat) : Int)) (hB.trans (h3.mono s2)) (n := w1.heap.size) rfl
      have HB4 := Lib.hid hB4
      clear hB4
      go_wp2_with fail
      go_roundw
      case rel => exact ⟨k + 1, by omega, by go_num, HB4.out⟩
      case measure => simp [intOf]; omega
    · have e : k = 256 := by omega
      clear hk hk2
      have E2 := Lib.hid (show vec (rx p 256) = vec (rx p k) by rw [e])
      generalize rx p k = x at *
      subst e
      go_wp2_with fail
      rw [E2.out]
      refine bodyPost_ret (v := vec x) (by simp only [results, Tryz.results84]; go_simp) rfl ⟨rfl, ?_⟩
      repeat first
        | with_reducible exact Below.refl _ _
        | with_reducible refine Below.drew ?_
        | with_reducible refine below_dN ?_
        | with_reducible refine Below.alloc ?_ (by first | omega | (simp; done) | (simp; omega)) _
        | with_reducible refine Below.setCell ?_ (by first | omega | (simp; done) | (simp; omega)) _
        | with_reducible refine Below.trans ?_ (Below.mono (by assumption) (by first | omega | (simp; done) | (simp; omega)))
end Go.Proofs.YtdnkkbmpefhbjaaGreatDoor
namespace Go.Proofs.YtdnkkbmpefhbjaaGreatDoor
set_option linter.all false
open Go.RowKit
set_option maxRecDepth 100000 in
set_option maxHeartbeats 2000000 in
theorem refMod_c (p b : Nat) (hp : p < R4) (hp1 : 1 < p) (hb : b < R4) (w : World) :
    Calls Tryz.prog 29 #[vec p, vec b] w fun e w' => e = .returned (vec (mulm p 1 b)) ∧ Below w.heap.size w w' := by
  go_enter Tryz.func29, Tryz.ntmps29
  go_wp2_with fail
  refine region_mix 4 [false, false, false, false] (fun w' => Below (w.heap.size + 1 + 1 + 1) _ w') (by kernel_rfl) (by kernel_rfl) (by intro _ _ d _ _ h; cases d <;> exact h) below_drew ?_
  simp only [List.take_succ_cons, List.take_zero, List.drop_succ_cons, List.drop_zero]
  with_reducible refine mix_v ?_ ?_ ?_
  · rfl
  · rfl
  apply Exists.intro
  refine ⟨fun w' hC => ?_, ?_⟩
  · have hcell := below_cells hC
    clear hC
    go_simp
    rfl
  try simp only [Act.put, sA, sB, sC, sD]
  with_reducible refine mix_c ?_ ?_ ?_
  · rfl
  · rfl
  apply Exists.intro
  apply Exists.intro
  apply Exists.intro
  refine ⟨fun w' hC => ?_, fun w' hC => ?_, ?_⟩
  · have hcell := below_cells hC
    clear hC
    go_simp
    exact ⟨rfl, rfl⟩
  · exact below_of hC (by simp) (refOne_c _)
  try simp only [Act.put, sA, sB, sC, sD]
  with_reducible refine mix_v ?_ ?_ ?_
  · rfl
  · rfl
  apply Exists.intro
  refine ⟨fun w' hC => ?_, ?_⟩
  · have hcell := below_cells hC
    clear hC
    go_simp
    rfl
  try simp only [Act.put, sA, sB, sC, sD]
  with_reducible refine mix_c ?_ ?_ ?_
  · rfl
  · rfl
  apply Exists.intro
  apply Exists.intro
  apply Exists.intro
  refine ⟨fun w' hC => ?_, fun w' hC => ?_, ?_⟩
  · have hcell := below_cells hC
    clear hC
    go_simp
    exact ⟨rfl, rfl⟩
  · exact below_of hC (by simp) (refMul_c p 1 b hp hp1 hb _)
  try simp only [Act.put, sA, sB, sC, sD]
  refine mix_nil ?_
  intro w2 h2
  obtain ⟨c2, f2, s2⟩ := bfactsB h2
  try simp only [World.size_alloc, World.size_setCell, size_drew, size_drewN] at s2
  go_wp2_with fail
  refine bodyPost_ret (v := vec (mulm p 1 b)) (by simp only [results, Tryz.results29]; go_simp) rfl ⟨rfl, ?_⟩
  repeat first
    | with_reducible exact Below.refl _ _
    | with_reducible refine Below.drew ?_
    | with_reducible refine below_dN ?_
    | with_reducible refine Below.alloc ?_ (by first | omega | (simp; done) | (simp; omega)) _
    | with_reducible refine Below.setCell ?_ (by first | omega | (simp; done) | (simp; omega)) _
    | with_reducible refine Below.trans ?_ (Below.mono (by assumption) (by first | omega | (simp; done) | (simp; omega)))
set_option maxRecDepth 100000 in
set_option maxHeartbeats 2000000 in
theorem refForm_c (p b : Nat) (hp : p < R4) (hp1 : 1 < p) (hb : b < R4) (w : World) :
    Calls Tryz.prog 43 #[vec p, vec b] w fun e w' => e = .returned (vec (mulm p (R4 % p) b)) ∧ Below w.heap.size w w' := by
  go_enter Tryz.func43, Tryz.ntmps43
  go_wp2_with fail
  refine region_mix 5 [false, false, false, false, false] (fun w' => Below (w.heap.size + 1 + 1 + 1) _ w') (by kernel_rfl) (by kernel_rfl) (by intro _ _ d _ _ h; cases d <;> exact h) below_drew ?_
  simp only [List.take_succ_cons, List.take_zero, List.drop_succ_cons, List.drop_zero]
  with_reducible refine mix_v ?_ ?_ ?_
  · rfl
  · rfl
  apply Exists.intro
  refine ⟨fun w' hC => ?_, ?_⟩
  · have hcell := below_cells hC
    clear hC
    go_simp
    rfl
  try simp only [Act.put, sA, sB, sC, sD]
  with_reducible refine mix_v ?_ ?_ ?_
  · rfl
  · rfl
  apply Exists.intro
  refine ⟨fun w' hC => ?_, ?_⟩
  · have hcell := below_cells hC
    clear hC
    go_simp
    rfl
  try simp only [Act.put, sA, sB, sC, sD]
  with_reducible refine mix_c ?_ ?_ ?_
  · rfl
  · rfl
  apply Exists.intro
  apply Exists.intro
  apply Exists.intro
  refine ⟨fun w' hC => ?_, fun w' hC => ?_, ?_⟩
  · have hcell := below_cells hC
    clear hC
    go_simp
    exact ⟨rfl, rfl⟩
  · exact below_of hC (by simp) (refRadix_c p hp hp1 _)
  try simp only [Act.put, sA, sB, sC, sD]
  with_reducible refine mix_v ?_ ?_ ?_
  · rfl
  · rfl
  apply Exists.intro
  refine ⟨fun w' hC => ?_, ?_⟩
  · have hcell := below_cells hC
    clear hC
    go_simp
    rfl
  try simp only [Act.put, sA, sB, sC, sD]
  with_reducible refine mix_c ?_ ?_ ?_
  · rfl
  · rfl
  apply Exists.intro
  apply Exists.intro
  apply Exists.intro
  refine ⟨fun w' hC => ?_, fun w' hC => ?_, ?_⟩
  · have hcell := below_cells hC
    clear hC
    go_simp
    exact ⟨rfl, rfl⟩
  · exact below_of hC (by simp) (refMul_c p (R4 % p) b hp (Nat.mod_lt _ (by omega)) hb _)
  try simp only [Act.put, sA, sB, sC, sD]
  refine mix_nil ?_
  intro w2 h2
  obtain ⟨c2, f2, s2⟩ := bfactsB h2
  try simp only [World.size_alloc, World.size_setCell, size_drew, size_drewN] at s2
  go_wp2_with fail
  refine bodyPost_ret (v := vec (mulm p (R4 % p) b)) (by simp only [results, Tryz.results43]; go_simp) rfl ⟨rfl, ?_⟩
  repeat first
    | with_reducible exact Below.refl _ _
    | with_reducible refine Below.drew ?_
    | with_reducible refine below_dN ?_
    | with_reducible refine Below.alloc ?_ (by first | omega | (simp; done) | (simp; omega)) _
    | with_reducible refine Below.setCell ?_ (by first | omega | (simp; done) | (simp; omega)) _
    | with_reducible refine Below.trans ?_ (Below.mono (by assumption) (by first | omega | (simp; done) | (simp; omega)))
end Go.Proofs.YtdnkkbmpefhbjaaGreatDoor
namespace Go.Proofs.YtdnkkbmpefhbjaaGreatDoor
set_option linter.all false
open Go.RowKit
set_option maxRecDepth 100000 in
set_option maxHeartbeats 2000000 in
theorem refModulus_c (s : Bool) (w : World) :
    Calls Tryz.prog 28 #[.int .i64 (fid s)] w fun e w' => e = .returned (vec (pr s)) ∧ Below w.heap.size w w' := by
  cases s
  · have hv : vec (pr false) = .agg #[.int .u64 18446744073709551597, .int .u64 18446744073709551615, .int .u64 18446744073709551615, .int .u64 9223372036854775807] := rfl
    rw [hv]
    have hf : fid false = 1 := rfl
    rw [hf]
    go_enter Tryz.func28, Tryz.ntmps28
    go_wp2_with fail
    refine bodyPost_ret (v := .agg #[.int .u64 18446744073709551597, .int .u64 18446744073709551615, .int .u64 18446744073709551615, .int .u64 9223372036854775807]) (by simp only [results, Tryz.results28]; go_simp) rfl ⟨rfl, ?_⟩
    repeat first
      | with_reducible exact Below.refl _ _
      | with_reducible refine Below.drew ?_
      | with_reducible refine below_dN ?_
      | with_reducible refine Below.alloc ?_ (by first | omega | (simp; done) | (simp; omega)) _
      | with_reducible refine Below.setCell ?_ (by first | omega | (simp; done) | (simp; omega)) _
      | with_reducible refine Below.trans ?_ (Below.mono (by assumption) (by first | omega | (simp; done) | (simp; omega)))
  · have hv : vec (pr true) = .agg #[.int .u64 17562291160714782033, .int .u64 13611842547513532036, .int .u64 18446744073709551615, .int .u64 18446744069414584320] := rfl
    rw [hv]
    have hf : fid true = 2 := rfl
    rw [hf]
    go_enter Tryz.func28, Tryz.ntmps28
    go_wp2_with fail
    refine bodyPost_ret (v := .agg #[.int .u64 17562291160714782033, .int .u64 13611842547513532036, .int .u64 18446744073709551615, .int .u64 18446744069414584320]) (by simp only [results, Tryz.results28]; go_simp) rfl ⟨rfl, ?_⟩
    repeat first
      | with_reducible exact Below.refl _ _
      | with_reducible refine Below.drew ?_
      | with_reducible refine below_dN ?_
      | with_reducible refine Below.alloc ?_ (by first | omega | (simp; done) | (simp; omega)) _
      | with_reducible refine Below.setCell ?_ (by first | omega | (simp; done) | (simp; omega)) _
      | with_reducible refine Below.trans ?_ (Below.mono (by assumption) (by first | omega | (simp; done) | (simp; omega)))
end Go.Proofs.YtdnkkbmpefhbjaaGreatDoor
