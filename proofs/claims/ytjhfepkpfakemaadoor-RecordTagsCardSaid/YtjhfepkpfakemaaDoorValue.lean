/- The reference's Value: a Montgomery form's value, by 256 halvings. -/
import Derived.Test.YtjhfepkpfakemaaDoorSyn
import Derived.Test.YtjhfepkpfakemaaDoorTy
import Derived.Test.YtjhfepkpfakemaaDoorLaws5
namespace Go.Proofs.YtjhfepkpfakemaaDoor
set_option linter.all false
open Go Go.RowKit

/-- Half of a number modulo p. -/
def halfm (p a : Nat) : Nat := if a % 2 = 1 then (a + p) / 2 else a / 2
theorem halfm_two {p a : Nat} (hp : p % 2 = 1) : 2 * halfm p a = a ∨ 2 * halfm p a = a + p := by unfold halfm; split <;> omega
theorem halfm_lt {p a : Nat} (hp : p % 2 = 1) (ha : a < p) : halfm p a < p := by unfold halfm; split <;> omega
def halves (p a : Nat) : Nat → Nat | 0 => a | k + 1 => halfm p (halves p a k)
theorem halves_lt {p a : Nat} (hp : p % 2 = 1) (ha : a < p) : ∀ k, halves p a k < p | 0 => ha | k + 1 => halfm_lt hp (halves_lt hp ha k)
theorem halves_mod {p a : Nat} (hp : p % 2 = 1) : ∀ k, halves p a k * 2 ^ k % p = a % p
  | 0 => by simp [halves]
  | k + 1 => by
    have ih := halves_mod (p := p) (a := a) hp k
    have h : halves p a (k + 1) * 2 ^ (k + 1) = 2 * halfm p (halves p a k) * 2 ^ k := by
      show halfm p (halves p a k) * 2 ^ (k + 1) = _
      rw [Nat.pow_succ]; ac_rfl
    rw [h]
    rcases halfm_two (a := halves p a k) hp with e | e
    · rw [e]; exact ih
    · rw [e, Nat.add_mul, Nat.add_mul_mod_self_left]; exact ih
theorem dg_lt64 (k a : Nat) : dg k a < 18446744073709551616 := by have := dg_lt k a; unfold W at this; exact this
theorem dg0_odd (a : Nat) : dg 0 a % 2 = a % 2 := by unfold dg W; simp only [Nat.pow_zero, Nat.div_one]; omega
theorem pr_odd (s : Bool) : pr s % 2 = 1 := by cases s <;> decide
theorem rinv_one (s : Bool) : R4 * rinv s % pr s = 1 := by cases s <;> decide
/-- The value of a Montgomery form. -/
def valm (s : Bool) (x : Nat) : Nat := x * rinv s % pr s
theorem valm_lt (s : Bool) (x : Nat) : valm s x < pr s := Nat.mod_lt _ (pr_pos s)
theorem halves_val (s : Bool) {a : Nat} (ha : a < pr s) : halves (pr s) a 256 = valm s a := by
  have h1 := halves_mod (p := pr s) (a := a) (pr_odd s) 256
  have h2 := halves_lt (pr_odd s) ha 256
  have h3 := rinv_one s
  have e : (2 : Nat) ^ 256 = R4 := by decide
  rw [e] at h1
  generalize halves (pr s) a 256 = h at *
  unfold valm
  have : h * R4 * rinv s % pr s = a * rinv s % pr s := by rw [Nat.mul_mod, h1, ← Nat.mul_mod]
  rw [← this, Nat.mul_assoc, Nat.mul_mod, h3, Nat.mul_one, Nat.mod_mod, Nat.mod_eq_of_lt h2]
theorem valm_RR (s : Bool) {v : Nat} (hv : v < pr s) : valm s (RR s v) = v := by
  have h3 := rinv_one s
  unfold valm
  rw [RR_eq, Nat.mod_mul_mod, Nat.mul_assoc, Nat.mul_mod, h3, Nat.mul_one, Nat.mod_mod, Nat.mod_eq_of_lt hv]
theorem RR_valm (s : Bool) {x : Nat} (hx : x < pr s) : RR s (valm s x) = x := by
  have h3 := rinv_one s
  unfold valm
  rw [RR_eq, Nat.mod_mul_mod, Nat.mul_assoc, Nat.mul_comm (rinv s), Nat.mul_mod, h3, Nat.mul_one, Nat.mod_mod, Nat.mod_eq_of_lt hx]
/-- The words of half of a number of 257 bits. -/
theorem half_val {d0 d1 d2 d3 t : Nat} : val4 (d0 / 2 + d1 % 2 * 9223372036854775808) (d1 / 2 + d2 % 2 * 9223372036854775808) (d2 / 2 + d3 % 2 * 9223372036854775808) (d3 / 2 + t * 9223372036854775808) = (val4 d0 d1 d2 d3 + t * R4) / 2 := by
  unfold val4 R4 W
  omega
theorem half_vec {a t : Nat} (ha : a < R4) (ht : t ≤ 1) : vec ((a + t * R4) / 2) = .agg #[.int .u64 ((dg 0 a : Int) / 2 + (dg 1 a : Int) % 2 * 9223372036854775808), .int .u64 ((dg 1 a : Int) / 2 + (dg 2 a : Int) % 2 * 9223372036854775808), .int .u64 ((dg 2 a : Int) / 2 + (dg 3 a : Int) % 2 * 9223372036854775808), .int .u64 ((dg 3 a : Int) / 2 + (t : Int) * 9223372036854775808)] := by
  have h0 := dg_lt 0 a
  have h1 := dg_lt 1 a
  have h2 := dg_lt 2 a
  have h3 := dg_lt 3 a
  unfold W at h0 h1 h2 h3
  have h := half_val (d0 := dg 0 a) (d1 := dg 1 a) (d2 := dg 2 a) (d3 := dg 3 a) (t := t)
  rw [val4_dg ha] at h
  rw [← h, vec_val4 (by unfold W; omega) (by unfold W; omega) (by unfold W; omega) (by unfold W; omega)]
  simp
theorem addV_split {a p : Nat} : addV a p + addC a p * R4 = a + p := by
  unfold addV addC
  rw [Nat.mul_comm]
  exact Nat.mod_add_div _ _
theorem addC_le1 {a p : Nat} (ha : a < R4) (hp : p < R4) : addC a p ≤ 1 := by
  unfold addC
  have : (a + p) / R4 < 2 := Nat.div_lt_of_lt_mul (by omega)
  omega
set_option maxRecDepth 100000 in
theorem halve_odd (p a0 : Nat) (W : World) (hp : p < R4) (ha : a0 < R4) (h : a0 % 2 = 1) : Calls Tryd.prog 48 [vec p, vec a0].toArray W fun e w => e = .returned (vec (halfm p a0)) ∧ Below W.heap.size W w := by
  have hm := dg0_odd a0
  have hlt : addV a0 p < R4 := addV_lt _ _
  have hc1 : addC a0 p ≤ 1 := addC_le1 ha hp
  have hd0 := dg_lt64 0 (addV a0 p)
  have hd1 := dg_lt64 1 (addV a0 p)
  have hd2 := dg_lt64 2 (addV a0 p)
  have hd3 := dg_lt64 3 (addV a0 p)
  have hd4 := dg_lt64 0 a0
  refine c_enter (args := [vec p, vec a0]) Tryd.func48 rfl rfl rfl fun a hk => ?_
  have hs := Sat.start W [] (fun _ h => by cases h)
  refine wpIn_seq ?_
  refine wpIn_region_lit ?_
  refine q_box (vs := [.int .u64 ((dg 0 p : Nat) : Int), .int .u64 ((dg 1 p : Nat) : Int), .int .u64 ((dg 2 p : Nat) : Int), .int .u64 ((dg 3 p : Nat) : Int)]) hk hs rfl rfl rfl rfl fun b1 w a hk hs => ?_
  refine q_box (vs := [.int .u64 ((dg 0 a0 : Nat) : Int), .int .u64 ((dg 1 a0 : Nat) : Int), .int .u64 ((dg 2 a0 : Nat) : Int), .int .u64 ((dg 3 a0 : Nat) : Int)]) hk hs rfl rfl rfl rfl fun b2 w a hk hs => ?_
  refine q_alc (vs := [.int .u64 0, .int .u64 0, .int .u64 0, .int .u64 0]) hk hs zr50 rfl rfl rfl fun b3 w a hk hs => ?_
  refine (c_end (x_t ?_))
  refine wpIn_seq ?_
  refine wpIn_region_lit ?_
  refine q_val hk (w_as rfl) rfl rfl rfl fun a hk => ?_
  refine (c_end (x_t ?_))
  refine wpIn_seq ?_
  refine wpIn_seq ?_
  refine wpIn_region_lit ?_
  refine q_val hk (w_iaA (k := 0) rfl rfl Tryd.underlying50 ty49 (by omega) (by omega)) rfl rfl rfl fun a hk => ?_
  refine q_val hk (w_ld1 rfl ty49 (.blk (n := 1) (hs.mi 1 rfl) rfl)) rfl rfl rfl fun a hk => ?_
  refine q_val hk (w_rem rfl rfl (by omega) (wmd (by omega))) rfl rfl rfl fun a hk => ?_
  refine q_val hk (w_eq rfl rfl (decide_eq_true (by omega))) rfl rfl rfl fun a hk => ?_
  refine (c_end (x_t ?_))
  refine c_T hk rfl ?_
  refine wpIn_region_lit ?_
  refine q_val hk (w_ldv (z := a0) rfl ty50 (.blk (n := 4) (hs.mi 1 rfl) rfl)) rfl rfl rfl fun a hk => ?_
  refine q_val hk (w_ldv (z := p) rfl ty50 (.blk (n := 4) (hs.mi 2 rfl) rfl)) rfl rfl rfl fun a hk => ?_
  refine q_call (caps := []) hk rfl rfl Tryd.func62 fo62 rfl rfl (refSum_c a0 p (by assumption) (by assumption) _) ?_
  rintro _ w ⟨rfl, hb⟩
  have hs := hs.below hb
  refine ⟨_, rfl, fun a hk => ?_⟩
  refine q_val hk (w_mv rfl) rfl rfl rfl fun a hk => ?_
  refine q_val hk (w_ext rfl rfl) rfl rfl rfl fun a hk => ?_
  refine q_val hk (w_ext rfl rfl) rfl rfl rfl fun a hk => ?_
  have hs := hs.up1
  refine q_sto (o := 0) (cs := [.int .u64 ((dg 0 (addV a0 p) : Nat) : Int), .int .u64 ((dg 1 (addV a0 p) : Nat) : Int), .int .u64 ((dg 2 (addV a0 p) : Nat) : Int), .int .u64 ((dg 3 (addV a0 p) : Nat) : Int)]) (vs' := [.int .u64 ((dg 0 (addV a0 p) : Nat) : Int), .int .u64 ((dg 1 (addV a0 p) : Nat) : Int), .int .u64 ((dg 2 (addV a0 p) : Nat) : Int), .int .u64 ((dg 3 (addV a0 p) : Nat) : Int)]) hk hs rfl rfl rfl ty50 rfl rfl rfl rfl rfl rfl fun w hs => ?_
  refine q_val hk (w_as rfl) rfl rfl rfl fun a hk => ?_
  refine (c_end (x_t ?_))
  refine wpIn_seq ?_
  refine wpIn_region_lit ?_
  refine q_alc (vs := [.int .u64 0, .int .u64 0, .int .u64 0, .int .u64 0]) hk hs zr50 rfl rfl rfl fun b4 w a hk hs => ?_
  refine (c_end (x_t ?_))
  refine wpIn_seq ?_
  refine wpIn_seq ?_
  refine wpIn_region_lit ?_
  refine q_val hk (w_as rfl) rfl rfl rfl fun a hk => ?_
  refine (c_end (x_t ?_))
  refine wpIn_block ?_
  refine c_rounds 5 ?_
  refine c_rsucc ?_
  refine wpIn_seq ?_
  refine wpIn_seq ?_
  refine wpIn_region_lit ?_
  refine q_val hk (w_mv rfl) rfl rfl rfl fun a hk => ?_
  refine q_val hk (w_lt rfl rfl (decide_eq_true (by decide))) rfl rfl rfl fun a hk => ?_
  refine (c_end (x_t ?_))
  refine c_T hk rfl ?_
  refine (wpIn_skip (x_t ?_))
  refine wpIn_seq ?_
  refine wpIn_block ?_
  refine wpIn_seq ?_
  refine wpIn_region_lit ?_
  refine q_val hk (w_mv rfl) rfl rfl rfl fun a hk => ?_
  refine q_val hk (w_as rfl) rfl rfl rfl fun a hk => ?_
  refine (c_end (x_t ?_))
  refine wpIn_seq ?_
  refine wpIn_seq ?_
  refine wpIn_region_lit ?_
  refine q_val hk (w_mv rfl) rfl rfl rfl fun a hk => ?_
  refine q_val hk (w_lt rfl rfl (decide_eq_true (by decide))) rfl rfl rfl fun a hk => ?_
  refine (c_end (x_t ?_))
  refine c_T hk rfl ?_
  refine wpIn_region_lit ?_
  refine q_val hk (w_mv rfl) rfl rfl rfl fun a hk => ?_
  refine q_val hk (w_add (r := 1) rfl rfl (by decide)) rfl rfl rfl fun a hk => ?_
  refine q_val hk (w_iaA (k := 1) rfl rfl Tryd.underlying50 ty49 (by omega) (by omega)) rfl rfl rfl fun a hk => ?_
  refine q_val hk (w_ld1 rfl ty49 (.blk (n := 1) (hs.mi 1 rfl) rfl)) rfl rfl rfl fun a hk => ?_
  refine q_val hk (w_rem rfl rfl (by omega) (wmd (by omega))) rfl rfl rfl fun a hk => ?_
  refine q_val hk (w_as rfl) rfl rfl rfl fun a hk => ?_
  refine (c_end (x_t ?_))
  refine wpIn_region_lit ?_
  refine q_val hk (w_mv rfl) rfl rfl rfl fun a hk => ?_
  refine q_val hk (w_mv rfl) rfl rfl rfl fun a hk => ?_
  refine q_val hk (w_iaA (k := 0) rfl rfl Tryd.underlying50 ty49 (by omega) (by omega)) rfl rfl rfl fun a hk => ?_
  refine q_val hk (w_ld1 rfl ty49 (.blk (n := 1) (hs.mi 1 rfl) rfl)) rfl rfl rfl fun a hk => ?_
  refine q_val hk (w_quo rfl rfl (by omega) (wdvu64 (by omega) (by omega) (by omega))) rfl rfl rfl fun a hk => ?_
  refine q_val hk (w_mv rfl) rfl rfl rfl fun a hk => ?_
  refine q_val hk (w_mul rfl rfl (wru64 (by omega) (by omega))) rfl rfl rfl fun a hk => ?_
  refine q_val hk (w_add rfl rfl (wru64 (by omega) (by omega))) rfl rfl rfl fun a hk => ?_
  refine q_val hk (w_iaA (k := 0) rfl rfl Tryd.underlying50 ty49 (by omega) (by omega)) rfl rfl rfl fun a hk => ?_
  refine q_sto (o := 0) (cs := [.int .u64 ((((dg 0 (addV a0 p) : Nat) : Int) / 2) + ((((dg 1 (addV a0 p) : Nat) : Int) % 2) * 9223372036854775808))]) (vs' := [.int .u64 ((((dg 0 (addV a0 p) : Nat) : Int) / 2) + ((((dg 1 (addV a0 p) : Nat) : Int) % 2) * 9223372036854775808)), .int .u64 0, .int .u64 0, .int .u64 0]) hk hs rfl rfl rfl ty49 rfl rfl rfl rfl rfl rfl fun w hs => ?_
  refine (c_end (x_b (x_t ?_)))
  refine wpIn_region_lit ?_
  refine q_val hk (w_mv rfl) rfl rfl rfl fun a hk => ?_
  refine q_val hk (w_add (r := 1) rfl rfl (by decide)) rfl rfl rfl fun a hk => ?_
  refine q_val hk (w_as rfl) rfl rfl rfl fun a hk => ?_
  refine (c_end (x_t ?_))
  refine c_rsucc ?_
  refine wpIn_seq ?_
  refine wpIn_seq ?_
  refine wpIn_region_lit ?_
  refine q_val hk (w_mv rfl) rfl rfl rfl fun a hk => ?_
  refine q_val hk (w_lt rfl rfl (decide_eq_true (by decide))) rfl rfl rfl fun a hk => ?_
  refine (c_end (x_t ?_))
  refine c_T hk rfl ?_
  refine (wpIn_skip (x_t ?_))
  refine wpIn_seq ?_
  refine wpIn_block ?_
  refine wpIn_seq ?_
  refine wpIn_region_lit ?_
  refine q_val hk (w_mv rfl) rfl rfl rfl fun a hk => ?_
  refine q_val hk (w_as rfl) rfl rfl rfl fun a hk => ?_
  refine (c_end (x_t ?_))
  refine wpIn_seq ?_
  refine wpIn_seq ?_
  refine wpIn_region_lit ?_
  refine q_val hk (w_mv rfl) rfl rfl rfl fun a hk => ?_
  refine q_val hk (w_lt rfl rfl (decide_eq_true (by decide))) rfl rfl rfl fun a hk => ?_
  refine (c_end (x_t ?_))
  refine c_T hk rfl ?_
  refine wpIn_region_lit ?_
  refine q_val hk (w_mv rfl) rfl rfl rfl fun a hk => ?_
  refine q_val hk (w_add (r := 2) rfl rfl (by decide)) rfl rfl rfl fun a hk => ?_
  refine q_val hk (w_iaA (k := 2) rfl rfl Tryd.underlying50 ty49 (by omega) (by omega)) rfl rfl rfl fun a hk => ?_
  refine q_val hk (w_ld1 rfl ty49 (.blk (n := 1) (hs.mi 1 rfl) rfl)) rfl rfl rfl fun a hk => ?_
  refine q_val hk (w_rem rfl rfl (by omega) (wmd (by omega))) rfl rfl rfl fun a hk => ?_
  refine q_val hk (w_as rfl) rfl rfl rfl fun a hk => ?_
  refine (c_end (x_t ?_))
  refine wpIn_region_lit ?_
  refine q_val hk (w_mv rfl) rfl rfl rfl fun a hk => ?_
  refine q_val hk (w_mv rfl) rfl rfl rfl fun a hk => ?_
  refine q_val hk (w_iaA (k := 1) rfl rfl Tryd.underlying50 ty49 (by omega) (by omega)) rfl rfl rfl fun a hk => ?_
  refine q_val hk (w_ld1 rfl ty49 (.blk (n := 1) (hs.mi 1 rfl) rfl)) rfl rfl rfl fun a hk => ?_
  refine q_val hk (w_quo rfl rfl (by omega) (wdvu64 (by omega) (by omega) (by omega))) rfl rfl rfl fun a hk => ?_
  refine q_val hk (w_mv rfl) rfl rfl rfl fun a hk => ?_
  refine q_val hk (w_mul rfl rfl (wru64 (by omega) (by omega))) rfl rfl rfl fun a hk => ?_
  refine q_val hk (w_add rfl rfl (wru64 (by omega) (by omega))) rfl rfl rfl fun a hk => ?_
  refine q_val hk (w_iaA (k := 1) rfl rfl Tryd.underlying50 ty49 (by omega) (by omega)) rfl rfl rfl fun a hk => ?_
  refine q_sto (o := 1) (cs := [.int .u64 ((((dg 1 (addV a0 p) : Nat) : Int) / 2) + ((((dg 2 (addV a0 p) : Nat) : Int) % 2) * 9223372036854775808))]) (vs' := [.int .u64 ((((dg 0 (addV a0 p) : Nat) : Int) / 2) + ((((dg 1 (addV a0 p) : Nat) : Int) % 2) * 9223372036854775808)), .int .u64 ((((dg 1 (addV a0 p) : Nat) : Int) / 2) + ((((dg 2 (addV a0 p) : Nat) : Int) % 2) * 9223372036854775808)), .int .u64 0, .int .u64 0]) hk hs rfl rfl rfl ty49 rfl rfl rfl rfl rfl rfl fun w hs => ?_
  refine (c_end (x_b (x_t ?_)))
  refine wpIn_region_lit ?_
  refine q_val hk (w_mv rfl) rfl rfl rfl fun a hk => ?_
  refine q_val hk (w_add (r := 2) rfl rfl (by decide)) rfl rfl rfl fun a hk => ?_
  refine q_val hk (w_as rfl) rfl rfl rfl fun a hk => ?_
  refine (c_end (x_t ?_))
  refine c_rsucc ?_
  refine wpIn_seq ?_
  refine wpIn_seq ?_
  refine wpIn_region_lit ?_
  refine q_val hk (w_mv rfl) rfl rfl rfl fun a hk => ?_
  refine q_val hk (w_lt rfl rfl (decide_eq_true (by decide))) rfl rfl rfl fun a hk => ?_
  refine (c_end (x_t ?_))
  refine c_T hk rfl ?_
  refine (wpIn_skip (x_t ?_))
  refine wpIn_seq ?_
  refine wpIn_block ?_
  refine wpIn_seq ?_
  refine wpIn_region_lit ?_
  refine q_val hk (w_mv rfl) rfl rfl rfl fun a hk => ?_
  refine q_val hk (w_as rfl) rfl rfl rfl fun a hk => ?_
  refine (c_end (x_t ?_))
  refine wpIn_seq ?_
  refine wpIn_seq ?_
  refine wpIn_region_lit ?_
  refine q_val hk (w_mv rfl) rfl rfl rfl fun a hk => ?_
  refine q_val hk (w_lt rfl rfl (decide_eq_true (by decide))) rfl rfl rfl fun a hk => ?_
  refine (c_end (x_t ?_))
  refine c_T hk rfl ?_
  refine wpIn_region_lit ?_
  refine q_val hk (w_mv rfl) rfl rfl rfl fun a hk => ?_
  refine q_val hk (w_add (r := 3) rfl rfl (by decide)) rfl rfl rfl fun a hk => ?_
  refine q_val hk (w_iaA (k := 3) rfl rfl Tryd.underlying50 ty49 (by omega) (by omega)) rfl rfl rfl fun a hk => ?_
  refine q_val hk (w_ld1 rfl ty49 (.blk (n := 1) (hs.mi 1 rfl) rfl)) rfl rfl rfl fun a hk => ?_
  refine q_val hk (w_rem rfl rfl (by omega) (wmd (by omega))) rfl rfl rfl fun a hk => ?_
  refine q_val hk (w_as rfl) rfl rfl rfl fun a hk => ?_
  refine (c_end (x_t ?_))
  refine wpIn_region_lit ?_
  refine q_val hk (w_mv rfl) rfl rfl rfl fun a hk => ?_
  refine q_val hk (w_mv rfl) rfl rfl rfl fun a hk => ?_
  refine q_val hk (w_iaA (k := 2) rfl rfl Tryd.underlying50 ty49 (by omega) (by omega)) rfl rfl rfl fun a hk => ?_
  refine q_val hk (w_ld1 rfl ty49 (.blk (n := 1) (hs.mi 1 rfl) rfl)) rfl rfl rfl fun a hk => ?_
  refine q_val hk (w_quo rfl rfl (by omega) (wdvu64 (by omega) (by omega) (by omega))) rfl rfl rfl fun a hk => ?_
  refine q_val hk (w_mv rfl) rfl rfl rfl fun a hk => ?_
  refine q_val hk (w_mul rfl rfl (wru64 (by omega) (by omega))) rfl rfl rfl fun a hk => ?_
  refine q_val hk (w_add rfl rfl (wru64 (by omega) (by omega))) rfl rfl rfl fun a hk => ?_
  refine q_val hk (w_iaA (k := 2) rfl rfl Tryd.underlying50 ty49 (by omega) (by omega)) rfl rfl rfl fun a hk => ?_
  refine q_sto (o := 2) (cs := [.int .u64 ((((dg 2 (addV a0 p) : Nat) : Int) / 2) + ((((dg 3 (addV a0 p) : Nat) : Int) % 2) * 9223372036854775808))]) (vs' := [.int .u64 ((((dg 0 (addV a0 p) : Nat) : Int) / 2) + ((((dg 1 (addV a0 p) : Nat) : Int) % 2) * 9223372036854775808)), .int .u64 ((((dg 1 (addV a0 p) : Nat) : Int) / 2) + ((((dg 2 (addV a0 p) : Nat) : Int) % 2) * 9223372036854775808)), .int .u64 ((((dg 2 (addV a0 p) : Nat) : Int) / 2) + ((((dg 3 (addV a0 p) : Nat) : Int) % 2) * 9223372036854775808)), .int .u64 0]) hk hs rfl rfl rfl ty49 rfl rfl rfl rfl rfl rfl fun w hs => ?_
  refine (c_end (x_b (x_t ?_)))
  refine wpIn_region_lit ?_
  refine q_val hk (w_mv rfl) rfl rfl rfl fun a hk => ?_
  refine q_val hk (w_add (r := 3) rfl rfl (by decide)) rfl rfl rfl fun a hk => ?_
  refine q_val hk (w_as rfl) rfl rfl rfl fun a hk => ?_
  refine (c_end (x_t ?_))
  refine c_rsucc ?_
  refine wpIn_seq ?_
  refine wpIn_seq ?_
  refine wpIn_region_lit ?_
  refine q_val hk (w_mv rfl) rfl rfl rfl fun a hk => ?_
  refine q_val hk (w_lt rfl rfl (decide_eq_true (by decide))) rfl rfl rfl fun a hk => ?_
  refine (c_end (x_t ?_))
  refine c_T hk rfl ?_
  refine (wpIn_skip (x_t ?_))
  refine wpIn_seq ?_
  refine wpIn_block ?_
  refine wpIn_seq ?_
  refine wpIn_region_lit ?_
  refine q_val hk (w_mv rfl) rfl rfl rfl fun a hk => ?_
  refine q_val hk (w_as rfl) rfl rfl rfl fun a hk => ?_
  refine (c_end (x_t ?_))
  refine wpIn_seq ?_
  refine wpIn_seq ?_
  refine wpIn_region_lit ?_
  refine q_val hk (w_mv rfl) rfl rfl rfl fun a hk => ?_
  refine q_val hk (w_lt rfl rfl (decide_eq_false (by decide))) rfl rfl rfl fun a hk => ?_
  refine (c_end (x_t ?_))
  refine c_F hk rfl ?_
  refine (wpIn_skip (x_t ?_))
  refine wpIn_region_lit ?_
  refine q_val hk (w_mv rfl) rfl rfl rfl fun a hk => ?_
  refine q_val hk (w_mv rfl) rfl rfl rfl fun a hk => ?_
  refine q_val hk (w_iaA (k := 3) rfl rfl Tryd.underlying50 ty49 (by omega) (by omega)) rfl rfl rfl fun a hk => ?_
  refine q_val hk (w_ld1 rfl ty49 (.blk (n := 1) (hs.mi 1 rfl) rfl)) rfl rfl rfl fun a hk => ?_
  refine q_val hk (w_quo rfl rfl (by omega) (wdvu64 (by omega) (by omega) (by omega))) rfl rfl rfl fun a hk => ?_
  refine q_val hk (w_mv rfl) rfl rfl rfl fun a hk => ?_
  refine q_val hk (w_mul rfl rfl (wru64 (by omega) (by omega))) rfl rfl rfl fun a hk => ?_
  refine q_val hk (w_add rfl rfl (wru64 (by omega) (by omega))) rfl rfl rfl fun a hk => ?_
  refine q_val hk (w_iaA (k := 3) rfl rfl Tryd.underlying50 ty49 (by omega) (by omega)) rfl rfl rfl fun a hk => ?_
  refine q_sto (o := 3) (cs := [.int .u64 ((((dg 3 (addV a0 p) : Nat) : Int) / 2) + (((addC a0 p : Nat) : Int) * 9223372036854775808))]) (vs' := [.int .u64 ((((dg 0 (addV a0 p) : Nat) : Int) / 2) + ((((dg 1 (addV a0 p) : Nat) : Int) % 2) * 9223372036854775808)), .int .u64 ((((dg 1 (addV a0 p) : Nat) : Int) / 2) + ((((dg 2 (addV a0 p) : Nat) : Int) % 2) * 9223372036854775808)), .int .u64 ((((dg 2 (addV a0 p) : Nat) : Int) / 2) + ((((dg 3 (addV a0 p) : Nat) : Int) % 2) * 9223372036854775808)), .int .u64 ((((dg 3 (addV a0 p) : Nat) : Int) / 2) + (((addC a0 p : Nat) : Int) * 9223372036854775808))]) hk hs rfl rfl rfl ty49 rfl rfl rfl rfl rfl rfl fun w hs => ?_
  refine (c_end (x_b (x_t ?_)))
  refine wpIn_region_lit ?_
  refine q_val hk (w_mv rfl) rfl rfl rfl fun a hk => ?_
  refine q_val hk (w_add (r := 4) rfl rfl (by decide)) rfl rfl rfl fun a hk => ?_
  refine q_val hk (w_as rfl) rfl rfl rfl fun a hk => ?_
  refine (c_end (x_t ?_))
  refine c_rsucc ?_
  refine wpIn_seq ?_
  refine wpIn_seq ?_
  refine wpIn_region_lit ?_
  refine q_val hk (w_mv rfl) rfl rfl rfl fun a hk => ?_
  refine q_val hk (w_lt rfl rfl (decide_eq_false (by decide))) rfl rfl rfl fun a hk => ?_
  refine (c_end (x_t ?_))
  refine c_F hk rfl ?_
  refine (wpIn_exit (x_te (x_te (x_be ?_))))
  refine (x_t ?_)
  refine wpIn_seq ?_
  refine wpIn_region_lit ?_
  refine q_val hk (w_ldA rfl ty50 (.blk (n := 4) (hs.mi 0 rfl) rfl) rfl) rfl rfl rfl fun a hk => ?_
  have hs := hs.up2
  refine q_sto (o := 0) (cs := [.int .u64 ((((dg 0 (addV a0 p) : Nat) : Int) / 2) + ((((dg 1 (addV a0 p) : Nat) : Int) % 2) * 9223372036854775808)), .int .u64 ((((dg 1 (addV a0 p) : Nat) : Int) / 2) + ((((dg 2 (addV a0 p) : Nat) : Int) % 2) * 9223372036854775808)), .int .u64 ((((dg 2 (addV a0 p) : Nat) : Int) / 2) + ((((dg 3 (addV a0 p) : Nat) : Int) % 2) * 9223372036854775808)), .int .u64 ((((dg 3 (addV a0 p) : Nat) : Int) / 2) + (((addC a0 p : Nat) : Int) * 9223372036854775808))]) (vs' := [.int .u64 ((((dg 0 (addV a0 p) : Nat) : Int) / 2) + ((((dg 1 (addV a0 p) : Nat) : Int) % 2) * 9223372036854775808)), .int .u64 ((((dg 1 (addV a0 p) : Nat) : Int) / 2) + ((((dg 2 (addV a0 p) : Nat) : Int) % 2) * 9223372036854775808)), .int .u64 ((((dg 2 (addV a0 p) : Nat) : Int) / 2) + ((((dg 3 (addV a0 p) : Nat) : Int) % 2) * 9223372036854775808)), .int .u64 ((((dg 3 (addV a0 p) : Nat) : Int) / 2) + (((addC a0 p : Nat) : Int) * 9223372036854775808))]) hk hs rfl rfl rfl ty50 rfl rfl rfl rfl rfl rfl fun w hs => ?_
  refine (c_end (x_t ?_))
  refine (wpIn_ret ?_)
  refine c_retG (vs := [.agg #[.int .u64 ((((dg 0 (addV a0 p) : Nat) : Int) / 2) + ((((dg 1 (addV a0 p) : Nat) : Int) % 2) * 9223372036854775808)), .int .u64 ((((dg 1 (addV a0 p) : Nat) : Int) / 2) + ((((dg 2 (addV a0 p) : Nat) : Int) % 2) * 9223372036854775808)), .int .u64 ((((dg 2 (addV a0 p) : Nat) : Int) / 2) + ((((dg 3 (addV a0 p) : Nat) : Int) % 2) * 9223372036854775808)), .int .u64 ((((dg 3 (addV a0 p) : Nat) : Int) / 2) + (((addC a0 p : Nat) : Int) * 9223372036854775808))]]) hk rfl ⟨⟨_, rfl, lv_A ty50 (.blk (n := 4) (hs.mi 0 rfl) rfl) rfl⟩, trivial⟩ rfl ?_
  refine ⟨?_, hs.toBelow⟩
  have hv := half_vec (a := addV a0 p) (t := addC a0 p) hlt (by omega)
  unfold halfm
  rw [if_pos h, ← addV_split, hv]
  simp [valq]
set_option maxRecDepth 100000 in
theorem halve_even (p a0 : Nat) (W : World) (hp : p < R4) (ha : a0 < R4) (h : ¬ a0 % 2 = 1) : Calls Tryd.prog 48 [vec p, vec a0].toArray W fun e w => e = .returned (vec (halfm p a0)) ∧ Below W.heap.size W w := by
  have hm := dg0_odd a0
  have hlt : a0 < R4 := ha
  have hd0 := dg_lt64 0 (a0)
  have hd1 := dg_lt64 1 (a0)
  have hd2 := dg_lt64 2 (a0)
  have hd3 := dg_lt64 3 (a0)
  have hd4 := dg_lt64 0 a0
  refine c_enter (args := [vec p, vec a0]) Tryd.func48 rfl rfl rfl fun a hk => ?_
  have hs := Sat.start W [] (fun _ h => by cases h)
  refine wpIn_seq ?_
  refine wpIn_region_lit ?_
  refine q_box (vs := [.int .u64 ((dg 0 p : Nat) : Int), .int .u64 ((dg 1 p : Nat) : Int), .int .u64 ((dg 2 p : Nat) : Int), .int .u64 ((dg 3 p : Nat) : Int)]) hk hs rfl rfl rfl rfl fun b1 w a hk hs => ?_
  refine q_box (vs := [.int .u64 ((dg 0 a0 : Nat) : Int), .int .u64 ((dg 1 a0 : Nat) : Int), .int .u64 ((dg 2 a0 : Nat) : Int), .int .u64 ((dg 3 a0 : Nat) : Int)]) hk hs rfl rfl rfl rfl fun b2 w a hk hs => ?_
  refine q_alc (vs := [.int .u64 0, .int .u64 0, .int .u64 0, .int .u64 0]) hk hs zr50 rfl rfl rfl fun b3 w a hk hs => ?_
  refine (c_end (x_t ?_))
  refine wpIn_seq ?_
  refine wpIn_region_lit ?_
  refine q_val hk (w_as rfl) rfl rfl rfl fun a hk => ?_
  refine (c_end (x_t ?_))
  refine wpIn_seq ?_
  refine wpIn_seq ?_
  refine wpIn_region_lit ?_
  refine q_val hk (w_iaA (k := 0) rfl rfl Tryd.underlying50 ty49 (by omega) (by omega)) rfl rfl rfl fun a hk => ?_
  refine q_val hk (w_ld1 rfl ty49 (.blk (n := 1) (hs.mi 1 rfl) rfl)) rfl rfl rfl fun a hk => ?_
  refine q_val hk (w_rem rfl rfl (by omega) (wmd (by omega))) rfl rfl rfl fun a hk => ?_
  refine q_val hk (w_eq rfl rfl (decide_eq_false (by omega))) rfl rfl rfl fun a hk => ?_
  refine (c_end (x_t ?_))
  refine c_F hk rfl ?_
  refine (wpIn_skip (x_t ?_))
  refine wpIn_seq ?_
  refine wpIn_region_lit ?_
  refine q_alc (vs := [.int .u64 0, .int .u64 0, .int .u64 0, .int .u64 0]) hk hs zr50 rfl rfl rfl fun b4 w a hk hs => ?_
  refine (c_end (x_t ?_))
  refine wpIn_seq ?_
  refine wpIn_seq ?_
  refine wpIn_region_lit ?_
  refine q_val hk (w_as rfl) rfl rfl rfl fun a hk => ?_
  refine (c_end (x_t ?_))
  refine wpIn_block ?_
  refine c_rounds 5 ?_
  refine c_rsucc ?_
  refine wpIn_seq ?_
  refine wpIn_seq ?_
  refine wpIn_region_lit ?_
  refine q_val hk (w_mv rfl) rfl rfl rfl fun a hk => ?_
  refine q_val hk (w_lt rfl rfl (decide_eq_true (by decide))) rfl rfl rfl fun a hk => ?_
  refine (c_end (x_t ?_))
  refine c_T hk rfl ?_
  refine (wpIn_skip (x_t ?_))
  refine wpIn_seq ?_
  refine wpIn_block ?_
  refine wpIn_seq ?_
  refine wpIn_region_lit ?_
  refine q_val hk (w_mv rfl) rfl rfl rfl fun a hk => ?_
  refine q_val hk (w_as rfl) rfl rfl rfl fun a hk => ?_
  refine (c_end (x_t ?_))
  refine wpIn_seq ?_
  refine wpIn_seq ?_
  refine wpIn_region_lit ?_
  refine q_val hk (w_mv rfl) rfl rfl rfl fun a hk => ?_
  refine q_val hk (w_lt rfl rfl (decide_eq_true (by decide))) rfl rfl rfl fun a hk => ?_
  refine (c_end (x_t ?_))
  refine c_T hk rfl ?_
  refine wpIn_region_lit ?_
  refine q_val hk (w_mv rfl) rfl rfl rfl fun a hk => ?_
  refine q_val hk (w_add (r := 1) rfl rfl (by decide)) rfl rfl rfl fun a hk => ?_
  refine q_val hk (w_iaA (k := 1) rfl rfl Tryd.underlying50 ty49 (by omega) (by omega)) rfl rfl rfl fun a hk => ?_
  refine q_val hk (w_ld1 rfl ty49 (.blk (n := 1) (hs.mi 2 rfl) rfl)) rfl rfl rfl fun a hk => ?_
  refine q_val hk (w_rem rfl rfl (by omega) (wmd (by omega))) rfl rfl rfl fun a hk => ?_
  refine q_val hk (w_as rfl) rfl rfl rfl fun a hk => ?_
  refine (c_end (x_t ?_))
  refine wpIn_region_lit ?_
  refine q_val hk (w_mv rfl) rfl rfl rfl fun a hk => ?_
  refine q_val hk (w_mv rfl) rfl rfl rfl fun a hk => ?_
  refine q_val hk (w_iaA (k := 0) rfl rfl Tryd.underlying50 ty49 (by omega) (by omega)) rfl rfl rfl fun a hk => ?_
  refine q_val hk (w_ld1 rfl ty49 (.blk (n := 1) (hs.mi 2 rfl) rfl)) rfl rfl rfl fun a hk => ?_
  refine q_val hk (w_quo rfl rfl (by omega) (wdvu64 (by omega) (by omega) (by omega))) rfl rfl rfl fun a hk => ?_
  refine q_val hk (w_mv rfl) rfl rfl rfl fun a hk => ?_
  refine q_val hk (w_mul rfl rfl (wru64 (by omega) (by omega))) rfl rfl rfl fun a hk => ?_
  refine q_val hk (w_add rfl rfl (wru64 (by omega) (by omega))) rfl rfl rfl fun a hk => ?_
  refine q_val hk (w_iaA (k := 0) rfl rfl Tryd.underlying50 ty49 (by omega) (by omega)) rfl rfl rfl fun a hk => ?_
  refine q_sto (o := 0) (cs := [.int .u64 ((((dg 0 a0 : Nat) : Int) / 2) + ((((dg 1 a0 : Nat) : Int) % 2) * 9223372036854775808))]) (vs' := [.int .u64 ((((dg 0 a0 : Nat) : Int) / 2) + ((((dg 1 a0 : Nat) : Int) % 2) * 9223372036854775808)), .int .u64 0, .int .u64 0, .int .u64 0]) hk hs rfl rfl rfl ty49 rfl rfl rfl rfl rfl rfl fun w hs => ?_
  refine (c_end (x_b (x_t ?_)))
  refine wpIn_region_lit ?_
  refine q_val hk (w_mv rfl) rfl rfl rfl fun a hk => ?_
  refine q_val hk (w_add (r := 1) rfl rfl (by decide)) rfl rfl rfl fun a hk => ?_
  refine q_val hk (w_as rfl) rfl rfl rfl fun a hk => ?_
  refine (c_end (x_t ?_))
  refine c_rsucc ?_
  refine wpIn_seq ?_
  refine wpIn_seq ?_
  refine wpIn_region_lit ?_
  refine q_val hk (w_mv rfl) rfl rfl rfl fun a hk => ?_
  refine q_val hk (w_lt rfl rfl (decide_eq_true (by decide))) rfl rfl rfl fun a hk => ?_
  refine (c_end (x_t ?_))
  refine c_T hk rfl ?_
  refine (wpIn_skip (x_t ?_))
  refine wpIn_seq ?_
  refine wpIn_block ?_
  refine wpIn_seq ?_
  refine wpIn_region_lit ?_
  refine q_val hk (w_mv rfl) rfl rfl rfl fun a hk => ?_
  refine q_val hk (w_as rfl) rfl rfl rfl fun a hk => ?_
  refine (c_end (x_t ?_))
  refine wpIn_seq ?_
  refine wpIn_seq ?_
  refine wpIn_region_lit ?_
  refine q_val hk (w_mv rfl) rfl rfl rfl fun a hk => ?_
  refine q_val hk (w_lt rfl rfl (decide_eq_true (by decide))) rfl rfl rfl fun a hk => ?_
  refine (c_end (x_t ?_))
  refine c_T hk rfl ?_
  refine wpIn_region_lit ?_
  refine q_val hk (w_mv rfl) rfl rfl rfl fun a hk => ?_
  refine q_val hk (w_add (r := 2) rfl rfl (by decide)) rfl rfl rfl fun a hk => ?_
  refine q_val hk (w_iaA (k := 2) rfl rfl Tryd.underlying50 ty49 (by omega) (by omega)) rfl rfl rfl fun a hk => ?_
  refine q_val hk (w_ld1 rfl ty49 (.blk (n := 1) (hs.mi 2 rfl) rfl)) rfl rfl rfl fun a hk => ?_
  refine q_val hk (w_rem rfl rfl (by omega) (wmd (by omega))) rfl rfl rfl fun a hk => ?_
  refine q_val hk (w_as rfl) rfl rfl rfl fun a hk => ?_
  refine (c_end (x_t ?_))
  refine wpIn_region_lit ?_
  refine q_val hk (w_mv rfl) rfl rfl rfl fun a hk => ?_
  refine q_val hk (w_mv rfl) rfl rfl rfl fun a hk => ?_
  refine q_val hk (w_iaA (k := 1) rfl rfl Tryd.underlying50 ty49 (by omega) (by omega)) rfl rfl rfl fun a hk => ?_
  refine q_val hk (w_ld1 rfl ty49 (.blk (n := 1) (hs.mi 2 rfl) rfl)) rfl rfl rfl fun a hk => ?_
  refine q_val hk (w_quo rfl rfl (by omega) (wdvu64 (by omega) (by omega) (by omega))) rfl rfl rfl fun a hk => ?_
  refine q_val hk (w_mv rfl) rfl rfl rfl fun a hk => ?_
  refine q_val hk (w_mul rfl rfl (wru64 (by omega) (by omega))) rfl rfl rfl fun a hk => ?_
  refine q_val hk (w_add rfl rfl (wru64 (by omega) (by omega))) rfl rfl rfl fun a hk => ?_
  refine q_val hk (w_iaA (k := 1) rfl rfl Tryd.underlying50 ty49 (by omega) (by omega)) rfl rfl rfl fun a hk => ?_
  refine q_sto (o := 1) (cs := [.int .u64 ((((dg 1 a0 : Nat) : Int) / 2) + ((((dg 2 a0 : Nat) : Int) % 2) * 9223372036854775808))]) (vs' := [.int .u64 ((((dg 0 a0 : Nat) : Int) / 2) + ((((dg 1 a0 : Nat) : Int) % 2) * 9223372036854775808)), .int .u64 ((((dg 1 a0 : Nat) : Int) / 2) + ((((dg 2 a0 : Nat) : Int) % 2) * 9223372036854775808)), .int .u64 0, .int .u64 0]) hk hs rfl rfl rfl ty49 rfl rfl rfl rfl rfl rfl fun w hs => ?_
  refine (c_end (x_b (x_t ?_)))
  refine wpIn_region_lit ?_
  refine q_val hk (w_mv rfl) rfl rfl rfl fun a hk => ?_
  refine q_val hk (w_add (r := 2) rfl rfl (by decide)) rfl rfl rfl fun a hk => ?_
  refine q_val hk (w_as rfl) rfl rfl rfl fun a hk => ?_
  refine (c_end (x_t ?_))
  refine c_rsucc ?_
  refine wpIn_seq ?_
  refine wpIn_seq ?_
  refine wpIn_region_lit ?_
  refine q_val hk (w_mv rfl) rfl rfl rfl fun a hk => ?_
  refine q_val hk (w_lt rfl rfl (decide_eq_true (by decide))) rfl rfl rfl fun a hk => ?_
  refine (c_end (x_t ?_))
  refine c_T hk rfl ?_
  refine (wpIn_skip (x_t ?_))
  refine wpIn_seq ?_
  refine wpIn_block ?_
  refine wpIn_seq ?_
  refine wpIn_region_lit ?_
  refine q_val hk (w_mv rfl) rfl rfl rfl fun a hk => ?_
  refine q_val hk (w_as rfl) rfl rfl rfl fun a hk => ?_
  refine (c_end (x_t ?_))
  refine wpIn_seq ?_
  refine wpIn_seq ?_
  refine wpIn_region_lit ?_
  refine q_val hk (w_mv rfl) rfl rfl rfl fun a hk => ?_
  refine q_val hk (w_lt rfl rfl (decide_eq_true (by decide))) rfl rfl rfl fun a hk => ?_
  refine (c_end (x_t ?_))
  refine c_T hk rfl ?_
  refine wpIn_region_lit ?_
  refine q_val hk (w_mv rfl) rfl rfl rfl fun a hk => ?_
  refine q_val hk (w_add (r := 3) rfl rfl (by decide)) rfl rfl rfl fun a hk => ?_
  refine q_val hk (w_iaA (k := 3) rfl rfl Tryd.underlying50 ty49 (by omega) (by omega)) rfl rfl rfl fun a hk => ?_
  refine q_val hk (w_ld1 rfl ty49 (.blk (n := 1) (hs.mi 2 rfl) rfl)) rfl rfl rfl fun a hk => ?_
  refine q_val hk (w_rem rfl rfl (by omega) (wmd (by omega))) rfl rfl rfl fun a hk => ?_
  refine q_val hk (w_as rfl) rfl rfl rfl fun a hk => ?_
  refine (c_end (x_t ?_))
  refine wpIn_region_lit ?_
  refine q_val hk (w_mv rfl) rfl rfl rfl fun a hk => ?_
  refine q_val hk (w_mv rfl) rfl rfl rfl fun a hk => ?_
  refine q_val hk (w_iaA (k := 2) rfl rfl Tryd.underlying50 ty49 (by omega) (by omega)) rfl rfl rfl fun a hk => ?_
  refine q_val hk (w_ld1 rfl ty49 (.blk (n := 1) (hs.mi 2 rfl) rfl)) rfl rfl rfl fun a hk => ?_
  refine q_val hk (w_quo rfl rfl (by omega) (wdvu64 (by omega) (by omega) (by omega))) rfl rfl rfl fun a hk => ?_
  refine q_val hk (w_mv rfl) rfl rfl rfl fun a hk => ?_
  refine q_val hk (w_mul rfl rfl (wru64 (by omega) (by omega))) rfl rfl rfl fun a hk => ?_
  refine q_val hk (w_add rfl rfl (wru64 (by omega) (by omega))) rfl rfl rfl fun a hk => ?_
  refine q_val hk (w_iaA (k := 2) rfl rfl Tryd.underlying50 ty49 (by omega) (by omega)) rfl rfl rfl fun a hk => ?_
  refine q_sto (o := 2) (cs := [.int .u64 ((((dg 2 a0 : Nat) : Int) / 2) + ((((dg 3 a0 : Nat) : Int) % 2) * 9223372036854775808))]) (vs' := [.int .u64 ((((dg 0 a0 : Nat) : Int) / 2) + ((((dg 1 a0 : Nat) : Int) % 2) * 9223372036854775808)), .int .u64 ((((dg 1 a0 : Nat) : Int) / 2) + ((((dg 2 a0 : Nat) : Int) % 2) * 9223372036854775808)), .int .u64 ((((dg 2 a0 : Nat) : Int) / 2) + ((((dg 3 a0 : Nat) : Int) % 2) * 9223372036854775808)), .int .u64 0]) hk hs rfl rfl rfl ty49 rfl rfl rfl rfl rfl rfl fun w hs => ?_
  refine (c_end (x_b (x_t ?_)))
  refine wpIn_region_lit ?_
  refine q_val hk (w_mv rfl) rfl rfl rfl fun a hk => ?_
  refine q_val hk (w_add (r := 3) rfl rfl (by decide)) rfl rfl rfl fun a hk => ?_
  refine q_val hk (w_as rfl) rfl rfl rfl fun a hk => ?_
  refine (c_end (x_t ?_))
  refine c_rsucc ?_
  refine wpIn_seq ?_
  refine wpIn_seq ?_
  refine wpIn_region_lit ?_
  refine q_val hk (w_mv rfl) rfl rfl rfl fun a hk => ?_
  refine q_val hk (w_lt rfl rfl (decide_eq_true (by decide))) rfl rfl rfl fun a hk => ?_
  refine (c_end (x_t ?_))
  refine c_T hk rfl ?_
  refine (wpIn_skip (x_t ?_))
  refine wpIn_seq ?_
  refine wpIn_block ?_
  refine wpIn_seq ?_
  refine wpIn_region_lit ?_
  refine q_val hk (w_mv rfl) rfl rfl rfl fun a hk => ?_
  refine q_val hk (w_as rfl) rfl rfl rfl fun a hk => ?_
  refine (c_end (x_t ?_))
  refine wpIn_seq ?_
  refine wpIn_seq ?_
  refine wpIn_region_lit ?_
  refine q_val hk (w_mv rfl) rfl rfl rfl fun a hk => ?_
  refine q_val hk (w_lt rfl rfl (decide_eq_false (by decide))) rfl rfl rfl fun a hk => ?_
  refine (c_end (x_t ?_))
  refine c_F hk rfl ?_
  refine (wpIn_skip (x_t ?_))
  refine wpIn_region_lit ?_
  refine q_val hk (w_mv rfl) rfl rfl rfl fun a hk => ?_
  refine q_val hk (w_mv rfl) rfl rfl rfl fun a hk => ?_
  refine q_val hk (w_iaA (k := 3) rfl rfl Tryd.underlying50 ty49 (by omega) (by omega)) rfl rfl rfl fun a hk => ?_
  refine q_val hk (w_ld1 rfl ty49 (.blk (n := 1) (hs.mi 2 rfl) rfl)) rfl rfl rfl fun a hk => ?_
  refine q_val hk (w_quo rfl rfl (by omega) (wdvu64 (by omega) (by omega) (by omega))) rfl rfl rfl fun a hk => ?_
  refine q_val hk (w_mv rfl) rfl rfl rfl fun a hk => ?_
  refine q_val hk (w_mul (r := 0) rfl rfl (by decide)) rfl rfl rfl fun a hk => ?_
  refine q_val hk (w_add rfl rfl (wru64 (by omega) (by omega))) rfl rfl rfl fun a hk => ?_
  refine q_val hk (w_iaA (k := 3) rfl rfl Tryd.underlying50 ty49 (by omega) (by omega)) rfl rfl rfl fun a hk => ?_
  refine q_sto (o := 3) (cs := [.int .u64 ((((dg 3 a0 : Nat) : Int) / 2) + 0)]) (vs' := [.int .u64 ((((dg 0 a0 : Nat) : Int) / 2) + ((((dg 1 a0 : Nat) : Int) % 2) * 9223372036854775808)), .int .u64 ((((dg 1 a0 : Nat) : Int) / 2) + ((((dg 2 a0 : Nat) : Int) % 2) * 9223372036854775808)), .int .u64 ((((dg 2 a0 : Nat) : Int) / 2) + ((((dg 3 a0 : Nat) : Int) % 2) * 9223372036854775808)), .int .u64 ((((dg 3 a0 : Nat) : Int) / 2) + 0)]) hk hs rfl rfl rfl ty49 rfl rfl rfl rfl rfl rfl fun w hs => ?_
  refine (c_end (x_b (x_t ?_)))
  refine wpIn_region_lit ?_
  refine q_val hk (w_mv rfl) rfl rfl rfl fun a hk => ?_
  refine q_val hk (w_add (r := 4) rfl rfl (by decide)) rfl rfl rfl fun a hk => ?_
  refine q_val hk (w_as rfl) rfl rfl rfl fun a hk => ?_
  refine (c_end (x_t ?_))
  refine c_rsucc ?_
  refine wpIn_seq ?_
  refine wpIn_seq ?_
  refine wpIn_region_lit ?_
  refine q_val hk (w_mv rfl) rfl rfl rfl fun a hk => ?_
  refine q_val hk (w_lt rfl rfl (decide_eq_false (by decide))) rfl rfl rfl fun a hk => ?_
  refine (c_end (x_t ?_))
  refine c_F hk rfl ?_
  refine (wpIn_exit (x_te (x_te (x_be ?_))))
  refine (x_t ?_)
  refine wpIn_seq ?_
  refine wpIn_region_lit ?_
  refine q_val hk (w_ldA rfl ty50 (.blk (n := 4) (hs.mi 0 rfl) rfl) rfl) rfl rfl rfl fun a hk => ?_
  have hs := hs.up1
  refine q_sto (o := 0) (cs := [.int .u64 ((((dg 0 a0 : Nat) : Int) / 2) + ((((dg 1 a0 : Nat) : Int) % 2) * 9223372036854775808)), .int .u64 ((((dg 1 a0 : Nat) : Int) / 2) + ((((dg 2 a0 : Nat) : Int) % 2) * 9223372036854775808)), .int .u64 ((((dg 2 a0 : Nat) : Int) / 2) + ((((dg 3 a0 : Nat) : Int) % 2) * 9223372036854775808)), .int .u64 ((((dg 3 a0 : Nat) : Int) / 2) + 0)]) (vs' := [.int .u64 ((((dg 0 a0 : Nat) : Int) / 2) + ((((dg 1 a0 : Nat) : Int) % 2) * 9223372036854775808)), .int .u64 ((((dg 1 a0 : Nat) : Int) / 2) + ((((dg 2 a0 : Nat) : Int) % 2) * 9223372036854775808)), .int .u64 ((((dg 2 a0 : Nat) : Int) / 2) + ((((dg 3 a0 : Nat) : Int) % 2) * 9223372036854775808)), .int .u64 ((((dg 3 a0 : Nat) : Int) / 2) + 0)]) hk hs rfl rfl rfl ty50 rfl rfl rfl rfl rfl rfl fun w hs => ?_
  refine (c_end (x_t ?_))
  refine (wpIn_ret ?_)
  refine c_retG (vs := [.agg #[.int .u64 ((((dg 0 a0 : Nat) : Int) / 2) + ((((dg 1 a0 : Nat) : Int) % 2) * 9223372036854775808)), .int .u64 ((((dg 1 a0 : Nat) : Int) / 2) + ((((dg 2 a0 : Nat) : Int) % 2) * 9223372036854775808)), .int .u64 ((((dg 2 a0 : Nat) : Int) / 2) + ((((dg 3 a0 : Nat) : Int) % 2) * 9223372036854775808)), .int .u64 ((((dg 3 a0 : Nat) : Int) / 2) + 0)]]) hk rfl ⟨⟨_, rfl, lv_A ty50 (.blk (n := 4) (hs.mi 0 rfl) rfl) rfl⟩, trivial⟩ rfl ?_
  refine ⟨?_, hs.toBelow⟩
  have hv := half_vec (a := a0) (t := 0) hlt (by omega)
  unfold halfm
  rw [if_neg h, show a0 / 2 = (a0 + 0 * R4) / 2 by rw [Nat.zero_mul, Nat.add_zero], hv]
  simp [valq]
theorem halve_c (p a0 : Nat) (hp : p < R4) (ha : a0 < R4) (W : World) : Calls Tryd.prog 48 #[vec p, vec a0] W fun e w => e = .returned (vec (halfm p a0)) ∧ Below W.heap.size W w := by
  by_cases h : a0 % 2 = 1
  · exact halve_odd p a0 W hp ha h
  · exact halve_even p a0 W hp ha h
set_option maxRecDepth 100000 in
theorem refValue_c (s : Bool) (a0 : Nat) (W : World) (ha : a0 < pr s) : Calls Tryd.prog 33 [vec (pr s), vec a0].toArray W fun e w => e = .returned (vec (valm s a0)) ∧ Below W.heap.size W w := by
  refine c_enter (args := [vec (pr s), vec a0]) Tryd.func33 rfl rfl rfl fun a hk => ?_
  have hs := Sat.start W [] (fun _ h => by cases h)
  refine wpIn_seq ?_
  refine wpIn_region_lit ?_
  refine q_box (vs := [.int .u64 ((dg 0 (pr s) : Nat) : Int), .int .u64 ((dg 1 (pr s) : Nat) : Int), .int .u64 ((dg 2 (pr s) : Nat) : Int), .int .u64 ((dg 3 (pr s) : Nat) : Int)]) hk hs rfl rfl rfl rfl fun b1 w a hk hs => ?_
  refine q_box (vs := [.int .u64 ((dg 0 a0 : Nat) : Int), .int .u64 ((dg 1 a0 : Nat) : Int), .int .u64 ((dg 2 a0 : Nat) : Int), .int .u64 ((dg 3 a0 : Nat) : Int)]) hk hs rfl rfl rfl rfl fun b2 w a hk hs => ?_
  refine q_alc (vs := [.int .u64 0, .int .u64 0, .int .u64 0, .int .u64 0]) hk hs zr50 rfl rfl rfl fun b3 w a hk hs => ?_
  refine (c_end (x_t ?_))
  refine wpIn_seq ?_
  refine wpIn_seq ?_
  refine wpIn_region_lit ?_
  refine q_val hk (w_as rfl) rfl rfl rfl fun a hk => ?_
  refine (c_end (x_t ?_))
  refine wpIn_block ?_
  refine c_loop (α := Nat) (fun k a w => k ≤ 256 ∧ Kn 14 [(5, .int .i64 (k : Int)), (4, .pointer (some ⟨b3, 0, none⟩)), (3, .pointer (some ⟨b2, 0, none⟩)), (2, .pointer (some ⟨b1, 0, none⟩))] a ∧ Sat no W [blk b3 [.int .u64 0, .int .u64 0, .int .u64 0, .int .u64 0] 50, blk b2 [.int .u64 ((dg 0 (halves (pr s) a0 k) : Nat) : Int), .int .u64 ((dg 1 (halves (pr s) a0 k) : Nat) : Int), .int .u64 ((dg 2 (halves (pr s) a0 k) : Nat) : Int), .int .u64 ((dg 3 (halves (pr s) a0 k) : Nat) : Int)] 50, blk b1 [.int .u64 ((dg 0 (pr s) : Nat) : Int), .int .u64 ((dg 1 (pr s) : Nat) : Int), .int .u64 ((dg 2 (pr s) : Nat) : Int), .int .u64 ((dg 3 (pr s) : Nat) : Int)] 50] [] w) (fun k => 256 - k) 0 ?_ ?_
  · exact ⟨(by omega), hk.k rfl (hk.k rfl (hk.k rfl (hk.k rfl hk.nil))), hs⟩
  rintro k a w ⟨hf0, hk, hs⟩
  refine wpIn_seq ?_
  refine wpIn_seq ?_
  refine wpIn_region_lit ?_
  refine q_val hk (w_mv rfl) rfl rfl rfl fun a hk => ?_
  rcases Classical.em ((k : Int) < 256) with hc4 | hc4
  · skip
    refine q_val hk (w_lt rfl rfl (decide_eq_true hc4)) rfl rfl rfl fun a hk => ?_
    refine (c_end (x_t ?_))
    refine c_T hk rfl ?_
    refine (wpIn_skip (x_t ?_))
    refine wpIn_seq ?_
    refine wpIn_block ?_
    refine wpIn_region_lit ?_
    refine q_val hk (w_ldv (z := pr s) rfl ty50 (.blk (n := 4) (hs.mi 2 rfl) rfl)) rfl rfl rfl fun a hk => ?_
    refine q_val hk (w_ldv (z := (halves (pr s) a0 k)) rfl ty50 (.blk (n := 4) (hs.mi 1 rfl) rfl)) rfl rfl rfl fun a hk => ?_
    refine q_call (caps := []) hk rfl rfl Tryd.func48 fo48 rfl rfl (halve_c (pr s) (halves (pr s) a0 k) (pr_lt s) (Nat.lt_trans (halves_lt (pr_odd s) ha k) (pr_lt s)) _) ?_
    rintro _ w ⟨rfl, hb⟩
    have hs := hs.below hb
    refine ⟨_, rfl, fun a hk => ?_⟩
    have hs := hs.up1
    refine q_sto (o := 0) (cs := [.int .u64 ((dg 0 (halfm (pr s) (halves (pr s) a0 k)) : Nat) : Int), .int .u64 ((dg 1 (halfm (pr s) (halves (pr s) a0 k)) : Nat) : Int), .int .u64 ((dg 2 (halfm (pr s) (halves (pr s) a0 k)) : Nat) : Int), .int .u64 ((dg 3 (halfm (pr s) (halves (pr s) a0 k)) : Nat) : Int)]) (vs' := [.int .u64 ((dg 0 (halfm (pr s) (halves (pr s) a0 k)) : Nat) : Int), .int .u64 ((dg 1 (halfm (pr s) (halves (pr s) a0 k)) : Nat) : Int), .int .u64 ((dg 2 (halfm (pr s) (halves (pr s) a0 k)) : Nat) : Int), .int .u64 ((dg 3 (halfm (pr s) (halves (pr s) a0 k)) : Nat) : Int)]) hk hs rfl rfl rfl ty50 rfl rfl rfl rfl rfl rfl fun w hs => ?_
    refine (c_end (x_b (x_t ?_)))
    refine wpIn_region_lit ?_
    refine q_val hk (w_mv rfl) rfl rfl rfl fun a hk => ?_
    refine q_val hk (w_add rfl rfl (wr64 (by omega) (by omega))) rfl rfl rfl fun a hk => ?_
    refine q_val hk (w_as rfl) rfl rfl rfl fun a hk => ?_
    refine (c_end (x_t ?_))
    have hs := hs.up2
    have hs := hs.up1
    have hs := hs.up2
    exact ⟨k + 1, ⟨(by omega), hk.k rfl (hk.k rfl (hk.k rfl (hk.k rfl hk.nil))), hs⟩, by omega⟩
  · skip
    obtain rfl : 256 = k := by omega
    refine q_val hk (w_lt rfl rfl (decide_eq_false hc4)) rfl rfl rfl fun a hk => ?_
    refine (c_end (x_t ?_))
    refine c_F hk rfl ?_
    refine (wpIn_exit (x_te (x_te (x_be ?_))))
    refine (x_t ?_)
    refine wpIn_seq ?_
    refine wpIn_region_lit ?_
    refine q_val hk (w_ldv (z := (halves (pr s) a0 256)) rfl ty50 (.blk (n := 4) (hs.mi 1 rfl) rfl)) rfl rfl rfl fun a hk => ?_
    refine q_sto (o := 0) (cs := [.int .u64 ((dg 0 (halves (pr s) a0 256) : Nat) : Int), .int .u64 ((dg 1 (halves (pr s) a0 256) : Nat) : Int), .int .u64 ((dg 2 (halves (pr s) a0 256) : Nat) : Int), .int .u64 ((dg 3 (halves (pr s) a0 256) : Nat) : Int)]) (vs' := [.int .u64 ((dg 0 (halves (pr s) a0 256) : Nat) : Int), .int .u64 ((dg 1 (halves (pr s) a0 256) : Nat) : Int), .int .u64 ((dg 2 (halves (pr s) a0 256) : Nat) : Int), .int .u64 ((dg 3 (halves (pr s) a0 256) : Nat) : Int)]) hk hs rfl rfl rfl ty50 rfl rfl rfl rfl rfl rfl fun w hs => ?_
    refine (c_end (x_t ?_))
    refine (wpIn_ret ?_)
    refine c_retG (vs := [vec (halves (pr s) a0 256)]) hk rfl ⟨⟨_, rfl, lv_A ty50 (.blk (n := 4) (hs.mi 0 rfl) rfl) rfl⟩, trivial⟩ rfl ?_
    exact ⟨by rw [← halves_val s ha]; rfl, hs.toBelow⟩
end Go.Proofs.YtjhfepkpfakemaaDoor
