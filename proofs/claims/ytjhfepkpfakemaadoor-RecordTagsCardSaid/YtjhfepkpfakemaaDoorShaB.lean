/- The reference's sha: the walks; the sums of any bytes. -/
import Derived.Test.YtjhfepkpfakemaaDoorShaA
import Derived.Test.YtjhfepkpfakemaaDoorLaws5
import Derived.Laws.AppendOwnNone
namespace Go.Proofs.YtjhfepkpfakemaaDoor.Sh
set_option linter.all false
open Go Go.RowKit

def cubeF (x n : Nat) : Bool :=
  let a := x / 262144
  let b := x % 262144
  let c0 := b * b * b
  let c1 := 3 * a * b * b + c0 / 262144
  let c2 := 3 * a * a * b + c1 / 262144
  let c3 := a * a * a + c2 / 262144
  decide (n * 4398046511104 < c3) || (c3 == n * 4398046511104 && decide (0 < c0 % 262144 + c1 % 262144 + c2 % 262144))
def squareF (x n : Nat) : Bool :=
  let a := x / 4294967296
  let b := x % 4294967296
  let low := b * b
  let p := 2 * a * b
  let mid := p % 4294967296 * 4294967296
  let s := (low + mid) % 18446744073709551616
  let high := a * a + p / 4294967296 + (if s < low then 1 else 0)
  decide (n < high) || (high == n && decide (0 < s))

set_option maxRecDepth 100000 in
set_option maxHeartbeats 4000000 in
theorem cube_walk (x n a b bb c0 a3 p1 q1 d0 c1 p2 q2 d1 c2 aa q3 d2 c3 h : Nat) (ea : IntKind.u64.wrap ((x : Int) / 262144) = (a : Int)) (eb : (x : Int) % 262144 = (b : Int)) (e1 : IntKind.u64.wrap ((b : Int) * (b : Int)) = (bb : Int)) (e2 : IntKind.u64.wrap ((bb : Int) * (b : Int)) = (c0 : Int))
    (e3 : IntKind.u64.wrap (3 * (a : Int)) = (a3 : Int)) (e4 : IntKind.u64.wrap ((a3 : Int) * (b : Int)) = (p1 : Int)) (e5 : IntKind.u64.wrap ((p1 : Int) * (b : Int)) = (q1 : Int)) (e6 : IntKind.u64.wrap ((c0 : Int) / 262144) = (d0 : Int)) (e7 : IntKind.u64.wrap ((q1 : Int) + (d0 : Int)) = (c1 : Int))
    (f1 : IntKind.u64.wrap ((a3 : Int) * (a : Int)) = (p2 : Int)) (f2 : IntKind.u64.wrap ((p2 : Int) * (b : Int)) = (q2 : Int)) (f3 : IntKind.u64.wrap ((c1 : Int) / 262144) = (d1 : Int)) (f4 : IntKind.u64.wrap ((q2 : Int) + (d1 : Int)) = (c2 : Int))
    (g1 : IntKind.u64.wrap ((a : Int) * (a : Int)) = (aa : Int)) (g2 : IntKind.u64.wrap ((aa : Int) * (a : Int)) = (q3 : Int)) (g3 : IntKind.u64.wrap ((c2 : Int) / 262144) = (d2 : Int)) (g4 : IntKind.u64.wrap ((q3 : Int) + (d2 : Int)) = (c3 : Int)) (hh : IntKind.u64.wrap ((n : Int) * 4398046511104) = (h : Int)) (w : World) :
    Calls Tryd.prog 87 #[.int .u64 (x : Int), .int .u64 (n : Int)] w fun e w' => e = .returned (.bool (decide (h < c3) || (c3 == h && decide (0 < c0 % 262144 + c1 % 262144 + c2 % 262144)))) ∧ w = w' := by
  go_enter Tryd.func87, Tryd.ntmps87
  go_wp2_with fail
  all_goals go_ret
  all_goals refine ⟨?_, rfl⟩
  all_goals show Ending.returned (Value.bool _) = Ending.returned (Value.bool _)
  all_goals refine congrArg (fun b => Ending.returned (Value.bool b)) ?_
  all_goals rw [Bool.eq_iff_iff]
  all_goals simp only [Bool.or_eq_true, Bool.and_eq_true, decide_eq_true_eq, beq_iff_eq]
  all_goals clear ea eb e1 e2 e3 e4 e5 e6 e7 f1 f2 f3 f4 g1 g2 g3 g4 hh
  all_goals first | omega | (simp only [true_iff]; omega) | (simp; omega)
theorem cube_c (x n : Nat) (hx : x < 274877906944) (hn : n < 1024) (w : World) :
    Calls Tryd.prog 87 #[.int .u64 (x : Int), .int .u64 (n : Int)] w fun e w' => e = .returned (.bool (cubeF x n)) ∧ w = w' := by
  have wr : ∀ v : Nat, v < 18446744073709551616 → IntKind.u64.wrap (v : Int) = (v : Int) := fun v hv => by rw [IntKind.wrap_u64]; omega
  have ha : x / 262144 < 1048576 := by omega
  have hb : x % 262144 < 262144 := Nat.mod_lt _ (by decide)
  obtain ⟨a, ea⟩ : ∃ a, a = x / 262144 := ⟨_, rfl⟩
  obtain ⟨b, eb⟩ : ∃ b, b = x % 262144 := ⟨_, rfl⟩
  rw [← ea] at ha
  rw [← eb] at hb
  have m : ∀ {u v p q : Nat}, u < p → v < q → u * v < p * q := fun h1 h2 => Nat.mul_lt_mul'' h1 h2
  have l1 : b * b < 262144 * 262144 := m hb hb
  have l2 : b * b * b < 262144 * 262144 * 262144 := m l1 hb
  have l3 : 3 * a * b < 3145728 * 262144 := m (by omega) hb
  have l4 : 3 * a * b * b < 3145728 * 262144 * 262144 := m l3 hb
  have l5 : 3 * a * a < 3145728 * 1048576 := m (by omega) ha
  have l6 : 3 * a * a * b < 3145728 * 1048576 * 262144 := m l5 hb
  have l7 : a * a < 1048576 * 1048576 := m ha ha
  have l8 : a * a * a < 1048576 * 1048576 * 1048576 := m l7 ha
  have e : cubeF x n = (decide (n * 4398046511104 < a * a * a + (3 * a * a * b + (3 * a * b * b + b * b * b / 262144) / 262144) / 262144) ||
      (a * a * a + (3 * a * a * b + (3 * a * b * b + b * b * b / 262144) / 262144) / 262144 == n * 4398046511104 && decide (0 < b * b * b % 262144 + (3 * a * b * b + b * b * b / 262144) % 262144 + (3 * a * a * b + (3 * a * b * b + b * b * b / 262144) / 262144) % 262144))) := by
    unfold cubeF; rw [← ea, ← eb]
  rw [e]
  refine cube_walk x n a b (b * b) (b * b * b) (3 * a) (3 * a * b) (3 * a * b * b) (b * b * b / 262144) (3 * a * b * b + b * b * b / 262144) (3 * a * a) (3 * a * a * b) ((3 * a * b * b + b * b * b / 262144) / 262144) (3 * a * a * b + ((3 * a * b * b + b * b * b / 262144) / 262144)) (a * a) (a * a * a) ((3 * a * a * b + ((3 * a * b * b + b * b * b / 262144) / 262144)) / 262144) (a * a * a + ((3 * a * a * b + ((3 * a * b * b + b * b * b / 262144) / 262144)) / 262144)) (n * 4398046511104)
    ?_ ?_ (wr (b * b) (by omega)) (wr (b * b * b) (by omega)) (wr (3 * a) (by omega)) (wr (3 * a * b) (by omega)) (wr (3 * a * b * b) (by omega)) (wr (b * b * b / 262144) (by omega)) (wr (3 * a * b * b + b * b * b / 262144) (by omega)) (wr (3 * a * a) (by omega)) (wr (3 * a * a * b) (by omega)) (wr ((3 * a * b * b + b * b * b / 262144) / 262144) (by omega)) (wr (3 * a * a * b + ((3 * a * b * b + b * b * b / 262144) / 262144)) (by omega)) (wr (a * a) (by omega)) (wr (a * a * a) (by omega)) (wr ((3 * a * a * b + ((3 * a * b * b + b * b * b / 262144) / 262144)) / 262144) (by omega)) (wr (a * a * a + ((3 * a * a * b + ((3 * a * b * b + b * b * b / 262144) / 262144)) / 262144)) (by omega)) (wr (n * 4398046511104) (by omega)) w
  · rw [ea]; exact wr (x / 262144) (by omega)
  · rw [eb]; rfl

set_option maxRecDepth 100000 in
set_option maxHeartbeats 4000000 in
theorem square_walk (x n a b low aa a2 p d h0 mid s h1 : Nat) (ea : IntKind.u64.wrap ((x : Int) / 4294967296) = (a : Int)) (eb : (x : Int) % 4294967296 = (b : Int)) (e1 : IntKind.u64.wrap ((b : Int) * (b : Int)) = (low : Int)) (e2 : IntKind.u64.wrap ((a : Int) * (a : Int)) = (aa : Int))
    (e3 : IntKind.u64.wrap (2 * (a : Int)) = (a2 : Int)) (e4 : IntKind.u64.wrap ((a2 : Int) * (b : Int)) = (p : Int)) (e5 : IntKind.u64.wrap ((p : Int) / 4294967296) = (d : Int)) (e6 : IntKind.u64.wrap ((aa : Int) + (d : Int)) = (h0 : Int)) (e7 : IntKind.u64.wrap ((p : Int) % 4294967296 * 4294967296) = (mid : Int))
    (e8 : IntKind.u64.wrap ((low : Int) + (mid : Int)) = (s : Int)) (e9 : IntKind.u64.wrap ((h0 : Int) + 1) = (h1 : Int)) (w : World) :
    Calls Tryd.prog 88 #[.int .u64 (x : Int), .int .u64 (n : Int)] w fun e w' => e = .returned (.bool (decide (n < if s < low then h1 else h0) || ((if s < low then h1 else h0) == n && decide (0 < s)))) ∧ w = w' := by
  go_enter Tryd.func88, Tryd.ntmps88
  go_wp2_with fail
  all_goals go_ret
  all_goals refine ⟨?_, rfl⟩
  all_goals show Ending.returned (Value.bool _) = Ending.returned (Value.bool _)
  all_goals refine congrArg (fun b => Ending.returned (Value.bool b)) ?_
  all_goals rw [Bool.eq_iff_iff]
  all_goals simp only [Bool.or_eq_true, Bool.and_eq_true, decide_eq_true_eq, beq_iff_eq]
  all_goals clear ea eb e1 e2 e3 e4 e5 e6 e7 e8 e9
  all_goals (first | (rw [if_pos (by assumption)]) | (rw [if_neg (by omega)]) | (rw [if_pos (by omega)]) | skip)
  all_goals (try simp only [true_iff, false_iff, Bool.false_eq_true, Bool.true_eq_false])
  all_goals first | omega | (split <;> omega) | trace_state
theorem square_c (x n : Nat) (hx : x < 274877906944) (hn : n < 1024) (w : World) :
    Calls Tryd.prog 88 #[.int .u64 (x : Int), .int .u64 (n : Int)] w fun e w' => e = .returned (.bool (squareF x n)) ∧ w = w' := by
  have wr : ∀ v : Nat, v < 18446744073709551616 → IntKind.u64.wrap (v : Int) = (v : Int) := fun v hv => by rw [IntKind.wrap_u64]; omega
  have ha : x / 4294967296 < 64 := by omega
  have hb : x % 4294967296 < 4294967296 := Nat.mod_lt _ (by decide)
  obtain ⟨a, ea⟩ : ∃ a, a = x / 4294967296 := ⟨_, rfl⟩
  obtain ⟨b, eb⟩ : ∃ b, b = x % 4294967296 := ⟨_, rfl⟩
  rw [← ea] at ha
  rw [← eb] at hb
  have m : ∀ {u v p q : Nat}, u < p → v < q → u * v < p * q := fun h1 h2 => Nat.mul_lt_mul'' h1 h2
  have l1 : b * b < 4294967296 * 4294967296 := m hb hb
  have l2 : a * a < 64 * 64 := m ha ha
  have l3 : 2 * a * b < 128 * 4294967296 := m (by omega) hb
  have e : squareF x n = (decide (n < if (b * b + 2 * a * b % 4294967296 * 4294967296) % 18446744073709551616 < b * b then a * a + 2 * a * b / 4294967296 + 1 else a * a + 2 * a * b / 4294967296) ||
      ((if (b * b + 2 * a * b % 4294967296 * 4294967296) % 18446744073709551616 < b * b then a * a + 2 * a * b / 4294967296 + 1 else a * a + 2 * a * b / 4294967296) == n && decide (0 < (b * b + 2 * a * b % 4294967296 * 4294967296) % 18446744073709551616))) := by
    unfold squareF; rw [← ea, ← eb]
    simp only
    by_cases h : (b * b + 2 * a * b % 4294967296 * 4294967296) % 18446744073709551616 < b * b
    · rw [if_pos h, if_pos h]
    · rw [if_neg h, if_neg h]; rfl
  rw [e]
  refine square_walk x n a b (b * b) (a * a) (2 * a) (2 * a * b) (2 * a * b / 4294967296) (a * a + 2 * a * b / 4294967296) (2 * a * b % 4294967296 * 4294967296) ((b * b + 2 * a * b % 4294967296 * 4294967296) % 18446744073709551616) (a * a + 2 * a * b / 4294967296 + 1)
    ?_ ?_ (wr (b * b) (by omega)) (wr (a * a) (by omega)) (wr (2 * a) (by omega)) (wr (2 * a * b) (by omega)) (wr (2 * a * b / 4294967296) (by omega)) (wr (a * a + 2 * a * b / 4294967296) (by omega)) (wr (2 * a * b % 4294967296 * 4294967296) (by omega)) ?_ (wr (a * a + 2 * a * b / 4294967296 + 1) (by omega)) w
  · rw [ea]; exact wr (x / 4294967296) (by omega)
  · rw [eb]; rfl
  · rw [IntKind.wrap_u64]; rfl

/-- What the loop of isPrime finds from d on. -/
def noDiv (n : Nat) : Nat → Nat → Bool
  | 0, _ => true
  | t + 1, d => if d * d ≤ n then (if n % d = 0 then false else noDiv n t (d + 1)) else true
def primeF (n : Nat) : Bool := noDiv n 40 2 && decide (2 ≤ n)

set_option maxRecDepth 100000 in
set_option maxHeartbeats 4000000 in
theorem prime_c (n : Nat) (hn : n < 1024) (w : World) :
    Calls Tryd.prog 77 #[.int .u64 (n : Int)] w fun e w' => e = .returned (.bool (primeF n)) ∧ w = w' := by
  have hn' := Lib.hid hn
  go_enter Tryd.func77, Tryd.ntmps77
  go_wp2_with fail
  go_loop [3] (fun i => ∃ d : Nat, i = .int .u64 (d : Int) ∧ Hid (2 ≤ d ∧ d ≤ 33 ∧ noDiv n 40 2 = noDiv n (42 - d) d)) (fun i => 40 - (intOf i).toNat)
  case atStart => exact ⟨2, rfl, by omega, by omega, rfl⟩
  case round =>
    obtain ⟨d, rfl, H⟩ := hrel
    obtain ⟨q, hq⟩ : ∃ q, q = d * d := ⟨_, rfl⟩
    have hd2 := H.out.1
    have hd3 := H.out.2.1
    have hqb : q ≤ 33 * 33 := by rw [hq]; exact Nat.mul_le_mul hd3 hd3
    have e1 : IntKind.u64.wrap ((d : Int) * (d : Int)) = (q : Int) := by
      rw [show ((d : Int) * (d : Int)) = ((d * d : Nat) : Int) from (Int.natCast_mul d d).symm, ← hq, IntKind.wrap_u64]; omega
    have Hq := Lib.hid hq
    have Hqb := Lib.hid hqb
    obtain ⟨r, hr⟩ : ∃ r, r = n % d := ⟨_, rfl⟩
    have e2 : (n : Int) % (d : Int) = (r : Int) := by rw [hr]; rfl
    have Hr := Lib.hid hr
    have hs : noDiv n (42 - d) d = if q ≤ n then (if r = 0 then false else noDiv n (42 - (d + 1)) (d + 1)) else true := by
      rw [hq, hr, show 42 - d = (42 - (d + 1)) + 1 by omega]; rfl
    have Hs := Lib.hid hs
    have hd0 : ¬ (d : Int) = 0 := by omega
    clear hq hqb hr hs hd2 hd3 hn
    by_cases hle : q ≤ n
    · have hle2 : (q : Int) ≤ (n : Int) := by omega
      by_cases h0 : r = 0
      · subst h0
        go_wp2_with fail
        exact bodyPost_ret (v := .bool (primeF n)) (by simp only [results, Tryd.results77]; go_simp; unfold primeF; rw [H.out.2.2, Hs.out, if_pos hle]; simp) rfl ⟨rfl, rfl⟩
      · have h02 : ¬ (r : Int) = 0 := by omega
        have Hle := Lib.hid hle
        have hd34 : Hid (d + 1 ≤ 33) := by
          refine Nat.le_of_lt_succ (Nat.lt_of_not_le fun h => ?_)
          have h1 : 33 * 33 ≤ d * d := Nat.mul_le_mul (by omega) (by omega)
          have := Hq.out; have := hn'.out; omega
        clear hle
        have e3 : Hid (IntKind.u64.wrap ((d : Int) + 1) = ((d + 1 : Nat) : Int)) := by have := H.out.2.1; show _ = _; rw [IntKind.wrap_u64]; omega
        go_wp2_with fail
        go_round
        case rel => exact ⟨d + 1, by rw [e3.out], by have := H.out.1; omega, hd34.out, by rw [H.out.2.2, Hs.out, if_pos Hle.out, if_neg h0]⟩
        case measure => have := hd34.out; rw [e3.out]; simp [intOf]; omega
    · have hle2 : ¬ (q : Int) ≤ (n : Int) := by omega
      have Hle := Lib.hid hle
      clear hle
      go_wp2_with fail
      exact bodyPost_ret (v := .bool (primeF n)) (by simp only [results, Tryd.results77]; go_simp; unfold primeF; rw [H.out.2.2, Hs.out, if_neg Hle.out]; simp; try omega) rfl ⟨rfl, rfl⟩
end Go.Proofs.YtjhfepkpfakemaaDoor.Sh

namespace Go.Proofs.YtjhfepkpfakemaaDoor.Sh
set_option linter.all false
open Go Go.RowKit

/-- What the loop of root finds: t bits are still open. -/
def rootL (above : Nat → Bool) : Nat → Nat → Nat | 0, x => x | t + 1, x => rootL above t (if above (x + 2 ^ t) then x else x + 2 ^ t)
def rootF (above : Nat → Bool) : Nat := rootL above 37 0 % 4294967296
def half : Nat → Nat | 0 => 0 | t + 1 => 2 ^ t


set_option maxRecDepth 100000 in
set_option maxHeartbeats 4000000 in
theorem root_cube (n : Nat) (hn : n < 1024) (w : World) :
    Calls Tryd.prog 78 #[.int .u64 (n : Int), .bool true] w fun e w' => e = .returned (.int .u32 ((rootF (fun y => cubeF y n) : Nat) : Int)) ∧ w = w' := by
  have Hn := Lib.hid hn
  obtain ⟨ab, hab⟩ : ∃ ab, ab = (fun y => cubeF y n) := ⟨_, rfl⟩
  have Hab : Hid (∀ (y : Nat) (w : World), y < 274877906944 → Calls Tryd.prog 87 #[.int .u64 (y : Int), .int .u64 (n : Int)] w fun e w' => e = .returned (.bool (ab y)) ∧ w = w') := fun y w hy => by have e := cube_c y n hy Hn.out w; rw [hab]; exact e
  rw [← hab]
  clear hab hn
  go_enter Tryd.func78, Tryd.ntmps78
  go_wp2_with fail
  go_loop [5, 6] (fun x b => ∃ y t : Nat, x = .int .u64 (y : Int) ∧ b = .int .u64 ((half t : Nat) : Int) ∧ Hid (y + 2 ^ t ≤ 137438953472 ∧ t ≤ 37 ∧ rootL ab 37 0 = rootL ab t y)) (fun _ b => (intOf b).toNat)
  case atStart => exact ⟨0, 37, rfl, rfl, by decide, by decide, rfl⟩
  case round =>
    obtain ⟨y, t, rfl, rfl, H⟩ := hrel
    rcases t with _ | t
    · have hy : y ≤ 137438953472 := by have := H.out.1; omega
      have e0 : ((half 0 : Nat) : Int) = 0 := rfl
      rw [e0]
      have E : Hid (rootF ab = y % 4294967296) := by show _ = _; unfold rootF; rw [H.out.2.2]; rfl
      clear e0
      go_wp2_with fail
      exact bodyPost_ret (v := .int .u32 ((rootF ab : Nat) : Int)) (by simp only [results, Tryd.results78]; go_simp; rw [E.out]; rfl) rfl ⟨rfl, rfl⟩
    · obtain ⟨b, hb⟩ : ∃ b, b = 2 ^ t := ⟨_, rfl⟩
      have hp : 0 < b := by rw [hb]; exact Nat.pow_pos (by decide)
      have hh : half (t + 1) = b := by rw [hb]; rfl
      have hh2 : b / 2 = half t := by
        rw [hb]
        cases t with
        | zero => rfl
        | succ t => show 2 ^ (t + 1) / 2 = 2 ^ t; rw [Nat.pow_succ]; omega
      have hl : y + 2 * b ≤ 137438953472 := by have := H.out.1; rw [Nat.pow_succ, ← hb] at this; omega
      have hs : rootL ab (t + 1) y = rootL ab t (if ab (y + b) then y else y + b) := by rw [hb]; rfl
      have hlt : half t < b := by omega
      rw [hh]
      have e1 : IntKind.u64.wrap ((y : Int) + (b : Int)) = ((y + b : Nat) : Int) := by rw [IntKind.wrap_u64]; omega
      have e2 : IntKind.u64.wrap ((b : Int) / 2) = ((half t : Nat) : Int) := by rw [IntKind.wrap_u64, ← hh2]; omega
      have Hlt := Lib.hid hlt
      have Hs := Lib.hid hs
      have Hb := Lib.hid hb
      have Hl := Lib.hid hl
      have hp2 : (0 : Int) < (b : Int) := by omega
      obtain ⟨z, hz⟩ : ∃ z, z = y + b := ⟨_, rfl⟩
      rw [← hz] at e1
      have Hz := Lib.hid hz
      clear hlt hs hb hh hh2 hl hp hz
      go_wp2_with fail
      refine Calls.mono (Hab.out z _ (by have := Hl.out; have := Hz.out; omega)) ?_
      rintro _ _ ⟨rfl, rfl⟩
      by_cases ha : ab z = true
      · rw [ha]
        go_wp2_with fail
        go_round
        case rel => exact ⟨y, t, rfl, rfl, by have := Hl.out; rw [← Hb.out]; omega, by have := H.out.2.1; omega, by rw [H.out.2.2, Hs.out, ← Hz.out, if_pos ha]⟩
        case measure => have := Hlt.out; simp [intOf]; omega
      · rw [Bool.eq_false_iff.2 ha]
        go_wp2_with fail
        go_round
        case rel => exact ⟨z, t, rfl, rfl, by have := Hl.out; rw [← Hb.out, Hz.out]; omega, by have := H.out.2.1; omega, by rw [H.out.2.2, Hs.out, ← Hz.out, if_neg ha]⟩
        case measure => have := Hlt.out; simp [intOf]; omega


set_option maxRecDepth 100000 in
set_option maxHeartbeats 4000000 in
theorem root_square (n : Nat) (hn : n < 1024) (w : World) :
    Calls Tryd.prog 78 #[.int .u64 (n : Int), .bool false] w fun e w' => e = .returned (.int .u32 ((rootF (fun y => squareF y n) : Nat) : Int)) ∧ w = w' := by
  have Hn := Lib.hid hn
  obtain ⟨ab, hab⟩ : ∃ ab, ab = (fun y => squareF y n) := ⟨_, rfl⟩
  have Hab : Hid (∀ (y : Nat) (w : World), y < 274877906944 → Calls Tryd.prog 88 #[.int .u64 (y : Int), .int .u64 (n : Int)] w fun e w' => e = .returned (.bool (ab y)) ∧ w = w') := fun y w hy => by have e := square_c y n hy Hn.out w; rw [hab]; exact e
  rw [← hab]
  clear hab hn
  go_enter Tryd.func78, Tryd.ntmps78
  go_wp2_with fail
  go_loop [5, 6] (fun x b => ∃ y t : Nat, x = .int .u64 (y : Int) ∧ b = .int .u64 ((half t : Nat) : Int) ∧ Hid (y + 2 ^ t ≤ 137438953472 ∧ t ≤ 37 ∧ rootL ab 37 0 = rootL ab t y)) (fun _ b => (intOf b).toNat)
  case atStart => exact ⟨0, 37, rfl, rfl, by decide, by decide, rfl⟩
  case round =>
    obtain ⟨y, t, rfl, rfl, H⟩ := hrel
    rcases t with _ | t
    · have hy : y ≤ 137438953472 := by have := H.out.1; omega
      have e0 : ((half 0 : Nat) : Int) = 0 := rfl
      rw [e0]
      have E : Hid (rootF ab = y % 4294967296) := by show _ = _; unfold rootF; rw [H.out.2.2]; rfl
      clear e0
      go_wp2_with fail
      exact bodyPost_ret (v := .int .u32 ((rootF ab : Nat) : Int)) (by simp only [results, Tryd.results78]; go_simp; rw [E.out]; rfl) rfl ⟨rfl, rfl⟩
    · obtain ⟨b, hb⟩ : ∃ b, b = 2 ^ t := ⟨_, rfl⟩
      have hp : 0 < b := by rw [hb]; exact Nat.pow_pos (by decide)
      have hh : half (t + 1) = b := by rw [hb]; rfl
      have hh2 : b / 2 = half t := by
        rw [hb]
        cases t with
        | zero => rfl
        | succ t => show 2 ^ (t + 1) / 2 = 2 ^ t; rw [Nat.pow_succ]; omega
      have hl : y + 2 * b ≤ 137438953472 := by have := H.out.1; rw [Nat.pow_succ, ← hb] at this; omega
      have hs : rootL ab (t + 1) y = rootL ab t (if ab (y + b) then y else y + b) := by rw [hb]; rfl
      have hlt : half t < b := by omega
      rw [hh]
      have e1 : IntKind.u64.wrap ((y : Int) + (b : Int)) = ((y + b : Nat) : Int) := by rw [IntKind.wrap_u64]; omega
      have e2 : IntKind.u64.wrap ((b : Int) / 2) = ((half t : Nat) : Int) := by rw [IntKind.wrap_u64, ← hh2]; omega
      have Hlt := Lib.hid hlt
      have Hs := Lib.hid hs
      have Hb := Lib.hid hb
      have Hl := Lib.hid hl
      have hp2 : (0 : Int) < (b : Int) := by omega
      obtain ⟨z, hz⟩ : ∃ z, z = y + b := ⟨_, rfl⟩
      rw [← hz] at e1
      have Hz := Lib.hid hz
      clear hlt hs hb hh hh2 hl hp hz
      go_wp2_with fail
      refine Calls.mono (Hab.out z _ (by have := Hl.out; have := Hz.out; omega)) ?_
      rintro _ _ ⟨rfl, rfl⟩
      by_cases ha : ab z = true
      · rw [ha]
        go_wp2_with fail
        go_round
        case rel => exact ⟨y, t, rfl, rfl, by have := Hl.out; rw [← Hb.out]; omega, by have := H.out.2.1; omega, by rw [H.out.2.2, Hs.out, ← Hz.out, if_pos ha]⟩
        case measure => have := Hlt.out; simp [intOf]; omega
      · rw [Bool.eq_false_iff.2 ha]
        go_wp2_with fail
        go_round
        case rel => exact ⟨z, t, rfl, rfl, by have := Hl.out; rw [← Hb.out, Hz.out]; omega, by have := H.out.2.1; omega, by rw [H.out.2.2, Hs.out, ← Hz.out, if_neg ha]⟩
        case measure => have := Hlt.out; simp [intOf]; omega

end Go.Proofs.YtjhfepkpfakemaaDoor.Sh

namespace Go.Proofs.YtjhfepkpfakemaaDoor.Sh
set_option linter.all false
open Go Go.RowKit

def vl (l : List Nat) : List Value := l.map fun x => Value.int .u32 ((x : Nat) : Int)
theorem vl_len (l : List Nat) : (vl l).length = l.length := by simp [vl]
theorem vl_one (l : List Nat) : ∀ v ∈ vl l, v.oneCell' = true := fun v hv => by
  simp only [vl, List.mem_map] at hv
  obtain ⟨j, _, rfl⟩ := hv
  rfl
theorem vl_ws (l : List Nat) : vl l = ws (fun j => l.getD j 0) l.length := by
  apply List.ext_getElem?
  intro j
  by_cases h : j < l.length
  · rw [ws_get _ _ j h]; simp [vl, h, List.getD]
  · rw [List.getElem?_eq_none (by rw [vl_len]; omega), List.getElem?_eq_none (by rw [ws_len]; omega)]
/-- What the loop of constants finds from k on, with t numbers to go. -/
def cl (R : Nat → Nat) (n : Nat) : Nat → Nat → List Nat → List Nat
  | 0, _, l => l
  | t + 1, k, l => if l.length < n then cl R n t (k + 1) (if primeF k then l ++ [R k] else l) else l
theorem infoWord : (Tryd.prog.info? 93).map (fun i => (i.zero, i.size, i.bytes)) = some (some (.int .u32 0), 1, 4) := by kernel_rfl

set_option maxRecDepth 100000 in
set_option maxHeartbeats 4000000 in
theorem constants_walk (kind : Bool) (R : Nat → Nat) (n M : Nat) (L : List Nat) (hM : M < 1024) (hn : n ≤ 64) (hL : cl R n (M - 2) 2 [] = L) (hlen : L.length = n) (h2 : 2 ≤ M) (w : World)
    (hroot : ∀ (k : Nat) (w : World), k < 1024 → Calls Tryd.prog 78 #[.int .u64 (k : Int), .bool kind] w fun e w' => e = .returned (.int .u32 ((R k : Nat) : Int)) ∧ w = w') :
    Calls Tryd.prog 63 #[.int .i64 (n : Int), .bool kind] w fun e w' => (∃ r, e = .returned r ∧ w'.ownsRow w.heap.size 93 1 r n (vl L)) ∧ Below w.heap.size w w' := by
  obtain ⟨i0, hi, hz0, hz1, hz2⟩ := info_parts infoWord
  have Hi := Lib.hid hi
  have Hz0 := Lib.hid hz0
  have Hz1 := Lib.hid hz1
  have Hz2 := Lib.hid hz2
  have Hroot := Lib.hid hroot
  have HM := Lib.hid hM
  have Hn := Lib.hid hn
  have HL := Lib.hid hL
  have H2 := Lib.hid h2
  have Hlen := Lib.hid hlen
  clear hroot hM hn hL hlen h2 hi hz0 hz1 hz2
  go_enter Tryd.func63, Tryd.ntmps63
  go_wp2_with fail
  go_loopw [5, 6] (fun s k wr => ∃ (a : Option Addr) (c y t : Nat) (l : List Nat), s = .slice a l.length c ∧ k = .int .u64 (y : Int) ∧ Hid (y + t = M ∧ cl R n t y l = L ∧ wr.ownsRow w.heap.size 93 1 (.slice a l.length c) l.length (vl l) ∧ Below w.heap.size w wr)) (fun _ k _ => M - (intOf k).toNat)
  case atStart => exact ⟨none, 0, 2, M - 2, [], rfl, rfl, by have := H2.out; omega, HL.out, World.ownsRow_nil _ _ _ _, Below.refl _ _⟩
  case round =>
    obtain ⟨a, c, y, t, l, rfl, rfl, H⟩ := hrel
    obtain ⟨m, hm⟩ : ∃ m, m = l.length := ⟨_, rfl⟩
    have H' : Hid (y + t = M ∧ cl R n t y l = L ∧ wr.ownsRow w.heap.size 93 1 (.slice a m c) m (vl l) ∧ Below w.heap.size w wr) := by rw [hm]; exact H
    rw [← hm]
    have Hm := Lib.hid hm
    clear hm H
    have hyb : Hid (y ≤ M) := by have := H'.out.1; show _ ≤ _; omega
    by_cases hlt : m < n
    · have ht : t ≠ 0 := by
        rintro rfl
        have h1 := H'.out.2.1
        have h2 := Hm.out
        have h3 := Hlen.out
        rw [show cl R n 0 y l = l from rfl] at h1
        rw [h1] at h2
        omega
      obtain ⟨t, rfl⟩ := Nat.exists_eq_succ_of_ne_zero ht
      have hk : Hid (y < M) := by have := H'.out.1; show _ < _; omega
      have hcl : Hid (cl R n t (y + 1) (if primeF y then l ++ [R y] else l) = L) := by
        have h1 := H'.out.2.1
        have h2 := Hm.out
        rw [show cl R n (t + 1) y l = if l.length < n then cl R n t (y + 1) (if primeF y then l ++ [R y] else l) else l from rfl, if_pos (by omega)] at h1
        exact h1
      have hlt2 : (m : Int) < (n : Int) := by omega
      have e1 : IntKind.u64.wrap ((y : Int) + 1) = ((y + 1 : Nat) : Int) := by have := hk.out; have := HM.out; rw [IntKind.wrap_u64]; omega
      have Hlt := Lib.hid hlt
      clear ht hlt
      go_wp2_with fail
      refine Calls.mono (prime_c y (by have := hk.out; have := HM.out; omega) _) ?_
      rintro _ _ ⟨rfl, rfl⟩
      by_cases hp : primeF y = true
      · rw [hp]
        rw [hp] at hcl
        clear hp
        go_wp2_with (at_builtin; fail)
        refine Calls.mono (Hroot.out y _ (by have := hk.out; have := HM.out; omega)) ?_
        rintro _ _ ⟨rfl, rfl⟩
        go_wp2_with (at_builtin; refine wpList_append_own _ rfl (.tmp 15) (.tmp 19) 90 rfl w.heap.size 93 i0 (.int .u32 0) 1 4 Tryd.underlying90 Hi.out Hz0.out Hz1.out Hz2.out rfl (by decide) (.slice a m c) m (vl l) rfl (H'.out.2.2.1.alloc _) ⟨wr.heap.size, 0, none⟩ 1 1 (vl [R y]) rfl rfl (fun j u hj => ?_) (vl_one _) (by have := Hn.out; have := Hlt.out; unfold maxLen; omega) (by have := Hn.out; have := Hlt.out; omega) (by have := H'.out.2.2.2.size; simp only [World.size_alloc]; omega) ?_; rotate_left; intro v' w1 hown' hgrow' hnil)
        rotate_left
        · cases j with
          | zero => cases hj; exact (cell_of_row _ wr.heap.size 0 _ _ _ (heap_alloc_new wr _)).trans rfl
          | succ j => cases hj
        skip
        obtain ⟨a', c', rfl⟩ := row_slice2 hown'
        have hown2 : w1.ownsRow w.heap.size 93 1 (.slice a' (m + 1) c') (m + 1) (vl (l ++ [R y])) := by rw [show vl (l ++ [R y]) = vl l ++ vl [R y] by simp [vl]]; exact hown'
        have Hown2 := Lib.hid hown2
        have HB := Lib.hid (show Below w.heap.size w w1 from (H'.out.2.2.2.alloc H'.out.2.2.2.size _).grown hgrow' (by have := H'.out.2.2.2.size; simp only [World.size_alloc]; omega) (fun k hk => (H'.out.2.2.1.lt k hk).1))
        have el : (l ++ [R y]).length = m + 1 := by rw [List.length_append, Hm.out]; rfl
        have El := Lib.hid el
        clear hown' hgrow' hnil hown2 el
        go_wp2_with fail
        go_roundw
        case rel =>
          refine ⟨a', c', y + 1, t, l ++ [R y], by rw [El.out], rfl, by have := H'.out.1; omega, ?_, by rw [El.out]; exact Hown2.out, HB.out⟩
          have := hcl.out
          simpa using this
        case measure => have := hk.out; simp [intOf]; omega
      · rw [Bool.eq_false_iff.2 hp]
        rw [Bool.eq_false_iff.2 hp] at hcl
        clear hp
        go_wp2_with fail
        go_roundw
        case rel =>
          refine ⟨a, c, y + 1, t, l, by rw [Hm.out], rfl, by have := H'.out.1; omega, ?_, by rw [← Hm.out]; exact H'.out.2.2.1, H'.out.2.2.2⟩
          have := hcl.out
          simpa using this
        case measure => have := hk.out; simp [intOf]; omega
    · have e : Hid (l = L) := by
        have h1 := H'.out.2.1
        show _ = _
        cases t with
        | zero => exact h1
        | succ t => 
          rw [show cl R n (t + 1) y l = if l.length < n then cl R n t (y + 1) (if primeF y then l ++ [R y] else l) else l from rfl, if_neg (by have := Hm.out; omega)] at h1
          exact h1
      have emn : m = n := by rw [Hm.out, e.out, Hlen.out]
      have hown : wr.ownsRow w.heap.size 93 1 (.slice a m c) n (vl L) := by have := H'.out.2.2.1; rw [e.out] at this; rw [← emn]; exact this
      have Hown := Lib.hid hown
      have hlt2 : ¬ (m : Int) < (n : Int) := by omega
      clear hown emn hlt
      go_wp2_with fail
      exact bodyPost_ret (v := .slice a m c) (by simp only [results, Tryd.results63]; go_simp) rfl ⟨⟨_, rfl, Hown.out⟩, H'.out.2.2.2⟩

set_option maxRecDepth 100000 in
theorem k_list : cl (fun n => rootF fun y => cubeF y n) 64 310 2 [] = Kl := by kernel_rfl
def s0l : List Nat := [1779033703, 3144134277, 1013904242, 2773480762, 1359893119, 2600822924, 528734635, 1541459225]
set_option maxRecDepth 100000 in
theorem s_list : cl (fun n => rootF fun y => squareF y n) 8 18 2 [] = s0l := by kernel_rfl
theorem refK_c (w : World) : Calls Tryd.prog 63 #[.int .i64 64, .bool true] w fun e w' => (∃ r, e = .returned r ∧ w'.ownsRow w.heap.size 93 1 r 64 (ws K 64)) ∧ Below w.heap.size w w' :=
  (constants_walk true _ 64 312 Kl (by decide) (by decide) k_list rfl (by decide) w (fun k w hk => root_cube k hk w)).mono fun e w' h => by rw [show ws K 64 = vl Kl from (vl_ws Kl).symm]; exact h
theorem refS_c (w : World) : Calls Tryd.prog 63 #[.int .i64 8, .bool false] w fun e w' => (∃ r, e = .returned r ∧ w'.ownsRow w.heap.size 93 1 r 8 (ws s0.at 8)) ∧ Below w.heap.size w w' :=
  (constants_walk false _ 8 20 s0l (by decide) (by decide) s_list rfl (by decide) w (fun k w hk => root_square k hk w)).mono fun e w' h => by rw [show ws s0.at 8 = vl s0l from rfl]; exact h
end Go.Proofs.YtjhfepkpfakemaaDoor.Sh

namespace Go.Proofs.YtjhfepkpfakemaaDoor.Sh
set_option linter.all false
open Go Go.RowKit

theorem word_val {x0 x1 x2 x3 : Nat} (h0 : x0 < 256) (h1 : x1 < 256) (h2 : x2 < 256) (h3 : x3 < 256) (v : Nat) (hv : v = x0 * 16777216 + x1 * 65536 + x2 * 256 + x3) :
    IntKind.u32.wrap (IntKind.u32.wrap (IntKind.u32.wrap (IntKind.u32.wrap (IntKind.u32.wrap (x0 : Int) * 16777216) + IntKind.u32.wrap (IntKind.u32.wrap (x1 : Int) * 65536)) + IntKind.u32.wrap (IntKind.u32.wrap (x2 : Int) * 256)) + IntKind.u32.wrap (x3 : Int)) = (v : Int) := by
  simp only [IntKind.wrap_u32]
  omega

theorem row_below {w w' : World} {C : Nat} {e : TypeId} {size n : Nat} {v : Value} {xs : List Value} (h : w.ownsRow C e size v n xs) (hb : Below w.heap.size w w') : w'.ownsRow C e size v n xs := by
  refine h.kept (row := none) ⟨hb.os, hb.tape, hb.output, hb.size, fun k hk _ => hb.block k hk⟩ ?_
  cases hv : v.ownBlock with
  | none => exact .inl rfl
  | some k => exact .inr (fun h => by cases h)
theorem row_form {w : World} {base : Nat} {e : TypeId} {size : Nat} {v : Value} {n : Nat} {xs : List Value} (h : w.ownsRow base e size v n xs) (hn : 0 < n) : ∃ g cap, v = .slice (some ⟨g, 0, none⟩) n cap ∧ base ≤ g ∧ g < w.heap.size ∧ n ≤ cap := by
  rcases h.2 with ⟨_, h0⟩ | ⟨g, cap, cur, hv, hb, hg, hc, _⟩
  · omega
  · exact ⟨g, cap, hv, hb, (Array.getElem?_eq_some_iff.1 hg).1, hc⟩
theorem ws_succ (g : Nat → Nat) (n : Nat) : ws g (n + 1) = ws g n ++ [.int .u32 ((g n : Nat) : Int)] := by unfold ws; rw [List.range_succ, List.map_append]; rfl
theorem one_src {w : World} {b : Nat} {v : Value} {T : TypeId} (h : w.heap[b]? = some (.cells #[v] T (0, 0))) : ∀ j u, ([v] : List Value)[j]? = some u → w.cell? ((⟨b, 0, none⟩ : Addr).add j) = some u := fun j u hj => by
  cases j with
  | zero => cases hj; exact (cell_of_row _ b 0 _ _ _ h).trans rfl
  | succ j => cases hj

theorem refCh_val {e f g : Nat} (he : e < B) (hf : f < B) (hg : g < B) :
    bits BinOp.xor IntKind.u32 (bits BinOp.and IntKind.u32 ((e : Nat) : Int) ((f : Nat) : Int)) (bits BinOp.and IntKind.u32 (bits BinOp.xor IntKind.u32 IntKind.u32.max ((e : Nat) : Int)) ((g : Nat) : Int)) = ((ch e f g : Nat) : Int) := by
  have hm : (4294967295 : Nat) < B := by decide
  rw [show IntKind.u32.max = ((4294967295 : Nat) : Int) from rfl, xor_val hm he, u32_and_nat e f he hf, u32_and_nat (4294967295 ^^^ e) g (xor_lt hm he) hg, xor_val (and_lt hf) (and_lt hg), ch_ref he hg]
theorem refMj_val {a b c : Nat} (ha : a < B) (hb : b < B) (hc : c < B) :
    bits BinOp.xor IntKind.u32 (bits BinOp.xor IntKind.u32 (bits BinOp.and IntKind.u32 ((a : Nat) : Int) ((b : Nat) : Int)) (bits BinOp.and IntKind.u32 ((a : Nat) : Int) ((c : Nat) : Int))) (bits BinOp.and IntKind.u32 ((b : Nat) : Int) ((c : Nat) : Int)) = ((mj a b c : Nat) : Int) := by
  rw [u32_and_nat a b ha hb, u32_and_nat a c ha hc, u32_and_nat b c hb hc, xor_val (and_lt hb) (and_lt hc), xor_val (xor_lt (and_lt hb) (and_lt hc)) (and_lt hc), mj_ref]
theorem refT1_val {k x sa sb' sc sd se sf sg sh : Nat} (he : se < B) (hf : sf < B) (hg : sg < B) :
    IntKind.u32.wrap (IntKind.u32.wrap (IntKind.u32.wrap (IntKind.u32.wrap (((sh : Nat) : Int) + bits BinOp.xor IntKind.u32 (bits BinOp.xor IntKind.u32 ((rr 6 se : Nat) : Int) ((rr 11 se : Nat) : Int)) ((rr 25 se : Nat) : Int)) +
      bits BinOp.xor IntKind.u32 (bits BinOp.and IntKind.u32 ((se : Nat) : Int) ((sf : Nat) : Int)) (bits BinOp.and IntKind.u32 (bits BinOp.xor IntKind.u32 IntKind.u32.max ((se : Nat) : Int)) ((sg : Nat) : Int))) + ((k : Nat) : Int)) + ((x : Nat) : Int))
      = ((t1 k x ⟨sa, sb', sc, sd, se, sf, sg, sh⟩ : Nat) : Int) := by
  rw [S1_val he, refCh_val he hf hg]
  simp only [IntKind.wrap_u32]
  unfold t1 ad B
  generalize S1 se = p
  generalize ch se sf sg = q
  dsimp only
  omega
theorem refT2_val {sa sb' sc sd se sf sg sh : Nat} (ha : sa < B) (hb : sb' < B) (hc : sc < B) :
    IntKind.u32.wrap (bits BinOp.xor IntKind.u32 (bits BinOp.xor IntKind.u32 ((rr 2 sa : Nat) : Int) ((rr 13 sa : Nat) : Int)) ((rr 22 sa : Nat) : Int) +
      bits BinOp.xor IntKind.u32 (bits BinOp.xor IntKind.u32 (bits BinOp.and IntKind.u32 ((sa : Nat) : Int) ((sb' : Nat) : Int)) (bits BinOp.and IntKind.u32 ((sa : Nat) : Int) ((sc : Nat) : Int))) (bits BinOp.and IntKind.u32 ((sb' : Nat) : Int) ((sc : Nat) : Int)))
      = ((t2 ⟨sa, sb', sc, sd, se, sf, sg, sh⟩ : Nat) : Int) := by
  rw [S0_val ha, refMj_val ha hb hc]
  simp only [IntKind.wrap_u32]
  exact add2_val _ _
theorem wrap_ad (x y : Nat) : IntKind.u32.wrap (((x : Nat) : Int) + ((y : Nat) : Int)) = ((ad x y : Nat) : Int) := by
  simp only [IntKind.wrap_u32]
  exact add2_val _ _

set_option maxRecDepth 100000 in
set_option maxHeartbeats 8000000 in
theorem block_walk (s : St) (f : Nat → Nat) (bs cs bk ck bb off c : Nat) (hcs : 8 ≤ cs) (hck : 64 ≤ ck) (hc : 64 ≤ c) (w : World) (HO : Hid s.Ok) (HS : Hid (∀ j, j < 8 → w.cell? ⟨bs, j, none⟩ = some (.int .u32 ((s.at j : Nat) : Int))))
    (HK : Hid (∀ j, j < 64 → w.cell? ⟨bk, j, none⟩ = some (.int .u32 ((K j : Nat) : Int)))) (HB : Hid (BytesAt w bb off 64 f)) :
    Calls Tryd.prog 64 #[.slice (some ⟨bs, 0, none⟩) 8 cs, .slice (some ⟨bk, 0, none⟩) 64 ck, .slice (some ⟨bb, off, none⟩) 64 c] w
      fun e w' => (∃ b c', e = .returned (.slice (some ⟨b, 0, none⟩) 8 c') ∧ 8 ≤ c' ∧ w.heap.size ≤ b ∧ ∀ j, j < 8 → w'.cell? ⟨b, j, none⟩ = some (.int .u32 (((blk K s f).at j : Nat) : Int))) ∧ Below w.heap.size w w' := by
  obtain ⟨i0, hi, hz0, hz1, hz2⟩ := info_parts infoWord
  have Hi := Lib.hid hi
  have Hz0 := Lib.hid hz0
  have Hz1 := Lib.hid hz1
  have Hz2 := Lib.hid hz2
  clear hi hz0 hz1 hz2
  go_enter Tryd.func64, Tryd.ntmps64
  go_wp2_with fail
  go_loopw [7, 8] (fun s i wr => ∃ (a : Option Addr) (c t : Nat), t ≤ 64 ∧ s = .slice a t c ∧ i = .int .i64 (t : Int) ∧ Hid (wr.ownsRow w.heap.size 93 1 (.slice a t c) t (ws (wv f) t) ∧ Below w.heap.size w wr)) (fun _ i _ => 64 - (intOf i).toNat)
  case atStart => exact ⟨none, 0, 0, by omega, rfl, rfl, World.ownsRow_nil _ _ _ _, Below.refl _ _⟩
  case round =>
    obtain ⟨a, cw, t, ht, rfl, rfl, H⟩ := hrel
    by_cases h16 : t < 16
    · have hcell : ∀ i, i < 4 → wr.cell? ⟨bb, off + (4 * t + i), none⟩ = some (.int .u8 ((f (4 * t + i) : Nat) : Int)) := fun i hi => (H.out.2.cell (p := ⟨bb, off + (4 * t + i), none⟩) HB.out.blk).trans (HB.out.cell _ (by omega))
      have c0 := hcell 0 (by omega)
      have c1 := hcell 1 (by omega)
      have c2 := hcell 2 (by omega)
      have c3 := hcell 3 (by omega)
      have hb := Nat.lt_of_lt_of_le HB.out.blk H.out.2.size
      obtain ⟨x0, e0⟩ : ∃ x, x = f (4 * t + 0) := ⟨_, rfl⟩
      obtain ⟨x1, e1⟩ : ∃ x, x = f (4 * t + 1) := ⟨_, rfl⟩
      obtain ⟨x2, e2⟩ : ∃ x, x = f (4 * t + 2) := ⟨_, rfl⟩
      obtain ⟨x3, e3⟩ : ∃ x, x = f (4 * t + 3) := ⟨_, rfl⟩
      have l0 : x0 < 256 := by rw [e0]; exact HB.out.lt _
      have l1 : x1 < 256 := by rw [e1]; exact HB.out.lt _
      have l2 : x2 < 256 := by rw [e2]; exact HB.out.lt _
      have l3 : x3 < 256 := by rw [e3]; exact HB.out.lt _
      rw [← e0] at c0
      rw [← e1] at c1
      rw [← e2] at c2
      rw [← e3] at c3
      have ew := word_val l0 l1 l2 l3 (wv f t) (by rw [e0, e1, e2, e3]; exact wv_lo f h16)
      clear e0 e1 e2 e3 hcell
      obtain ⟨q, hq⟩ : ∃ q, q = 4 * t := ⟨_, rfl⟩
      obtain ⟨q1, hq1⟩ : ∃ q, q = 4 * t + 1 := ⟨_, rfl⟩
      obtain ⟨q2, hq2⟩ : ∃ q, q = 4 * t + 2 := ⟨_, rfl⟩
      obtain ⟨q3, hq3⟩ : ∃ q, q = 4 * t + 3 := ⟨_, rfl⟩
      rw [Nat.add_zero, ← hq] at c0
      rw [← hq1] at c1
      rw [← hq2] at c2
      rw [← hq3] at c3
      have k0 : IntKind.i64.wrap (4 * (t : Int)) = (q : Int) := by rw [IntKind.wrap_i64]; omega
      have k1 : IntKind.i64.wrap ((q : Int) + 1) = (q1 : Int) := by rw [IntKind.wrap_i64]; omega
      have k2 : IntKind.i64.wrap ((q : Int) + 2) = (q2 : Int) := by rw [IntKind.wrap_i64]; omega
      have k3 : IntKind.i64.wrap ((q : Int) + 3) = (q3 : Int) := by rw [IntKind.wrap_i64]; omega
      have b0 : (q : Int) < 64 := by omega
      have b1 : (q1 : Int) < 64 := by omega
      have b2 : (q2 : Int) < 64 := by omega
      have b3 : (q3 : Int) < 64 := by omega
      clear hq hq1 hq2 hq3
      go_wp2_with fail
      have hdk : decide ((t : Int) < 16) = true := decide_eq_true (by omega)
      simp only [hdk]
      clear hdk
      go_wp2_with fail
      refine region_grow 35 [0, 1, 2, 3, 4, 5, 6, 7, 8, 9, 10, 11, 12, 13, 14, 15, 16, 17, 18, 19, 20, 21, 22, 23, 24, 25, 26, 27, 28, 29, 30, 31, 32, 33, 34] [(34, (fun b => Value.slice (some ⟨b, 0, Option.none⟩) 1 1), (Obj.cells #[.int .u32 ((wv f t : Nat) : Int)] 93 (0, 0)))] [] (by kernel_rfl) (by kernel_rfl) ?_
      with_reducible apply grow_v
      · rfl
      · rfl
      · rfl
      apply Exists.intro
      refine ⟨fun w' hC => ?_, ?_⟩
      · have hcell := below_cells hC
        clear hC
        go_simp
        rfl
      try simp only [Act.put, List.setIfInBounds_toArray, List.set_cons_zero, List.set_cons_succ, List.tail_cons]
      with_reducible apply grow_v
      · rfl
      · rfl
      · rfl
      apply Exists.intro
      refine ⟨fun w' hC => ?_, ?_⟩
      · have hcell := below_cells hC
        clear hC
        go_simp
        rfl
      try simp only [Act.put, List.setIfInBounds_toArray, List.set_cons_zero, List.set_cons_succ, List.tail_cons]
      with_reducible apply grow_v
      · rfl
      · rfl
      · rfl
      apply Exists.intro
      refine ⟨fun w' hC => ?_, ?_⟩
      · have hcell := below_cells hC
        clear hC
        go_simp
        rfl
      try simp only [Act.put, List.setIfInBounds_toArray, List.set_cons_zero, List.set_cons_succ, List.tail_cons]
      with_reducible apply grow_v
      · rfl
      · rfl
      · rfl
      apply Exists.intro
      refine ⟨fun w' hC => ?_, ?_⟩
      · have hcell := below_cells hC
        clear hC
        go_simp
        rfl
      try simp only [Act.put, List.setIfInBounds_toArray, List.set_cons_zero, List.set_cons_succ, List.tail_cons]
      with_reducible apply grow_v
      · rfl
      · rfl
      · rfl
      apply Exists.intro
      refine ⟨fun w' hC => ?_, ?_⟩
      · have hcell := below_cells hC
        clear hC
        go_simp
        rfl
      try simp only [Act.put, List.setIfInBounds_toArray, List.set_cons_zero, List.set_cons_succ, List.tail_cons]
      with_reducible apply grow_v
      · rfl
      · rfl
      · rfl
      apply Exists.intro
      refine ⟨fun w' hC => ?_, ?_⟩
      · have hcell := below_cells hC
        clear hC
        simp only [World.size_drew] at hcell
        go_simp
        rfl
      try simp only [Act.put, List.setIfInBounds_toArray, List.set_cons_zero, List.set_cons_succ, List.tail_cons]
      with_reducible apply grow_v
      · rfl
      · rfl
      · rfl
      apply Exists.intro
      refine ⟨fun w' hC => ?_, ?_⟩
      · have hcell := below_cells hC
        clear hC
        go_simp
        rfl
      try simp only [Act.put, List.setIfInBounds_toArray, List.set_cons_zero, List.set_cons_succ, List.tail_cons]
      with_reducible apply grow_v
      · rfl
      · rfl
      · rfl
      apply Exists.intro
      refine ⟨fun w' hC => ?_, ?_⟩
      · have hcell := below_cells hC
        clear hC
        go_simp
        rfl
      try simp only [Act.put, List.setIfInBounds_toArray, List.set_cons_zero, List.set_cons_succ, List.tail_cons]
      with_reducible apply grow_v
      · rfl
      · rfl
      · rfl
      apply Exists.intro
      refine ⟨fun w' hC => ?_, ?_⟩
      · have hcell := below_cells hC
        clear hC
        go_simp
        rfl
      try simp only [Act.put, List.setIfInBounds_toArray, List.set_cons_zero, List.set_cons_succ, List.tail_cons]
      with_reducible apply grow_v
      · rfl
      · rfl
      · rfl
      apply Exists.intro
      refine ⟨fun w' hC => ?_, ?_⟩
      · have hcell := below_cells hC
        clear hC
        go_simp
        rfl
      try simp only [Act.put, List.setIfInBounds_toArray, List.set_cons_zero, List.set_cons_succ, List.tail_cons]
      with_reducible apply grow_v
      · rfl
      · rfl
      · rfl
      apply Exists.intro
      refine ⟨fun w' hC => ?_, ?_⟩
      · have hcell := below_cells hC
        clear hC
        go_simp
        rfl
      try simp only [Act.put, List.setIfInBounds_toArray, List.set_cons_zero, List.set_cons_succ, List.tail_cons]
      with_reducible apply grow_v
      · rfl
      · rfl
      · rfl
      apply Exists.intro
      refine ⟨fun w' hC => ?_, ?_⟩
      · have hcell := below_cells hC
        clear hC
        go_simp
        rfl
      try simp only [Act.put, List.setIfInBounds_toArray, List.set_cons_zero, List.set_cons_succ, List.tail_cons]
      with_reducible apply grow_v
      · rfl
      · rfl
      · rfl
      apply Exists.intro
      refine ⟨fun w' hC => ?_, ?_⟩
      · have hcell := below_cells hC
        clear hC
        go_simp
        rfl
      try simp only [Act.put, List.setIfInBounds_toArray, List.set_cons_zero, List.set_cons_succ, List.tail_cons]
      with_reducible apply grow_v
      · rfl
      · rfl
      · rfl
      apply Exists.intro
      refine ⟨fun w' hC => ?_, ?_⟩
      · have hcell := below_cells hC
        clear hC
        simp only [World.size_drew] at hcell
        go_simp
        rfl
      try simp only [Act.put, List.setIfInBounds_toArray, List.set_cons_zero, List.set_cons_succ, List.tail_cons]
      with_reducible apply grow_v
      · rfl
      · rfl
      · rfl
      apply Exists.intro
      refine ⟨fun w' hC => ?_, ?_⟩
      · have hcell := below_cells hC
        clear hC
        go_simp
        rfl
      try simp only [Act.put, List.setIfInBounds_toArray, List.set_cons_zero, List.set_cons_succ, List.tail_cons]
      with_reducible apply grow_v
      · rfl
      · rfl
      · rfl
      apply Exists.intro
      refine ⟨fun w' hC => ?_, ?_⟩
      · have hcell := below_cells hC
        clear hC
        go_simp
        rfl
      try simp only [Act.put, List.setIfInBounds_toArray, List.set_cons_zero, List.set_cons_succ, List.tail_cons]
      with_reducible apply grow_v
      · rfl
      · rfl
      · rfl
      apply Exists.intro
      refine ⟨fun w' hC => ?_, ?_⟩
      · have hcell := below_cells hC
        clear hC
        go_simp
        rfl
      try simp only [Act.put, List.setIfInBounds_toArray, List.set_cons_zero, List.set_cons_succ, List.tail_cons]
      with_reducible apply grow_v
      · rfl
      · rfl
      · rfl
      apply Exists.intro
      refine ⟨fun w' hC => ?_, ?_⟩
      · have hcell := below_cells hC
        clear hC
        go_simp
        rfl
      try simp only [Act.put, List.setIfInBounds_toArray, List.set_cons_zero, List.set_cons_succ, List.tail_cons]
      with_reducible apply grow_v
      · rfl
      · rfl
      · rfl
      apply Exists.intro
      refine ⟨fun w' hC => ?_, ?_⟩
      · have hcell := below_cells hC
        clear hC
        go_simp
        rfl
      try simp only [Act.put, List.setIfInBounds_toArray, List.set_cons_zero, List.set_cons_succ, List.tail_cons]
      with_reducible apply grow_v
      · rfl
      · rfl
      · rfl
      apply Exists.intro
      refine ⟨fun w' hC => ?_, ?_⟩
      · have hcell := below_cells hC
        clear hC
        go_simp
        rfl
      try simp only [Act.put, List.setIfInBounds_toArray, List.set_cons_zero, List.set_cons_succ, List.tail_cons]
      with_reducible apply grow_v
      · rfl
      · rfl
      · rfl
      apply Exists.intro
      refine ⟨fun w' hC => ?_, ?_⟩
      · have hcell := below_cells hC
        clear hC
        go_simp
        rfl
      try simp only [Act.put, List.setIfInBounds_toArray, List.set_cons_zero, List.set_cons_succ, List.tail_cons]
      with_reducible apply grow_v
      · rfl
      · rfl
      · rfl
      apply Exists.intro
      refine ⟨fun w' hC => ?_, ?_⟩
      · have hcell := below_cells hC
        clear hC
        go_simp
        rfl
      try simp only [Act.put, List.setIfInBounds_toArray, List.set_cons_zero, List.set_cons_succ, List.tail_cons]
      with_reducible apply grow_v
      · rfl
      · rfl
      · rfl
      apply Exists.intro
      refine ⟨fun w' hC => ?_, ?_⟩
      · have hcell := below_cells hC
        clear hC
        simp only [World.size_drew] at hcell
        go_simp
        rfl
      try simp only [Act.put, List.setIfInBounds_toArray, List.set_cons_zero, List.set_cons_succ, List.tail_cons]
      with_reducible apply grow_v
      · rfl
      · rfl
      · rfl
      apply Exists.intro
      refine ⟨fun w' hC => ?_, ?_⟩
      · have hcell := below_cells hC
        clear hC
        go_simp
        rfl
      try simp only [Act.put, List.setIfInBounds_toArray, List.set_cons_zero, List.set_cons_succ, List.tail_cons]
      with_reducible apply grow_v
      · rfl
      · rfl
      · rfl
      apply Exists.intro
      refine ⟨fun w' hC => ?_, ?_⟩
      · have hcell := below_cells hC
        clear hC
        go_simp
        rfl
      try simp only [Act.put, List.setIfInBounds_toArray, List.set_cons_zero, List.set_cons_succ, List.tail_cons]
      with_reducible apply grow_v
      · rfl
      · rfl
      · rfl
      apply Exists.intro
      refine ⟨fun w' hC => ?_, ?_⟩
      · have hcell := below_cells hC
        clear hC
        go_simp
        rfl
      try simp only [Act.put, List.setIfInBounds_toArray, List.set_cons_zero, List.set_cons_succ, List.tail_cons]
      with_reducible apply grow_v
      · rfl
      · rfl
      · rfl
      apply Exists.intro
      refine ⟨fun w' hC => ?_, ?_⟩
      · have hcell := below_cells hC
        clear hC
        go_simp
        rfl
      try simp only [Act.put, List.setIfInBounds_toArray, List.set_cons_zero, List.set_cons_succ, List.tail_cons]
      with_reducible apply grow_v
      · rfl
      · rfl
      · rfl
      apply Exists.intro
      refine ⟨fun w' hC => ?_, ?_⟩
      · have hcell := below_cells hC
        clear hC
        go_simp
        rfl
      try simp only [Act.put, List.setIfInBounds_toArray, List.set_cons_zero, List.set_cons_succ, List.tail_cons]
      with_reducible apply grow_v
      · rfl
      · rfl
      · rfl
      apply Exists.intro
      refine ⟨fun w' hC => ?_, ?_⟩
      · have hcell := below_cells hC
        clear hC
        go_simp
        rfl
      try simp only [Act.put, List.setIfInBounds_toArray, List.set_cons_zero, List.set_cons_succ, List.tail_cons]
      with_reducible apply grow_v
      · rfl
      · rfl
      · rfl
      apply Exists.intro
      refine ⟨fun w' hC => ?_, ?_⟩
      · have hcell := below_cells hC
        clear hC
        go_simp
        rfl
      try simp only [Act.put, List.setIfInBounds_toArray, List.set_cons_zero, List.set_cons_succ, List.tail_cons]
      with_reducible apply grow_v
      · rfl
      · rfl
      · rfl
      apply Exists.intro
      refine ⟨fun w' hC => ?_, ?_⟩
      · have hcell := below_cells hC
        clear hC
        go_simp
        rfl
      try simp only [Act.put, List.setIfInBounds_toArray, List.set_cons_zero, List.set_cons_succ, List.tail_cons]
      with_reducible apply grow_v
      · rfl
      · rfl
      · rfl
      apply Exists.intro
      refine ⟨fun w' hC => ?_, ?_⟩
      · have hcell := below_cells hC
        clear hC
        simp only [World.size_drew] at hcell
        go_simp
        rfl
      try simp only [Act.put, List.setIfInBounds_toArray, List.set_cons_zero, List.set_cons_succ, List.tail_cons]
      with_reducible apply grow_v
      · rfl
      · rfl
      · rfl
      apply Exists.intro
      refine ⟨fun w' hC => ?_, ?_⟩
      · have hcell := below_cells hC
        clear hC
        go_simp
        rfl
      try simp only [Act.put, List.setIfInBounds_toArray, List.set_cons_zero, List.set_cons_succ, List.tail_cons]
      with_reducible apply grow_v
      · rfl
      · rfl
      · rfl
      apply Exists.intro
      refine ⟨fun w' hC => ?_, ?_⟩
      · have hcell := below_cells hC
        clear hC
        go_simp
        rfl
      try simp only [Act.put, List.setIfInBounds_toArray, List.set_cons_zero, List.set_cons_succ, List.tail_cons]
      with_reducible apply grow_m
      · rfl
      · rfl
      · rfl
      refine ⟨fun w' hC => ?_, fun b34 => ?_⟩
      · (clear hC; go_simp)
      try dsimp only
      try simp only [Act.put, List.setIfInBounds_toArray, List.set_cons_zero, List.set_cons_succ, List.tail_cons]
      refine grow_end ?_
      intro wg6 hg6
      obtain ⟨cg6, fg6, sg6⟩ := bfacts hg6.grows
      try simp only [World.size_alloc, World.size_setCell, size_drew, size_drewN] at sg6
      have hb34 := Lib.hid (hg6.has (b34, Obj.cells #[.int .u32 ((wv f t : Nat) : Int)] 93 (0, 0)) (by simp only [List.mem_cons, true_or, or_true]))
      have lb34 : b34 < wg6.heap.size := (Array.getElem?_eq_some_iff.1 hb34.out).1
      have nb34 := hg6.new (b34, Obj.cells #[.int .u32 ((wv f t : Nat) : Int)] 93 (0, 0)) (by simp only [List.mem_cons, true_or, or_true])
      try simp only [World.size_alloc, World.size_setCell, size_drew, size_drewN] at nb34
      have Hg6 : Below _ _ wg6 := hg6.grows
      clear hg6
      simp only [List.drop_succ_cons, List.drop_zero]
      have Hrow6 := Lib.hid (row_below (w' := wg6) H.out.1 (show Below wr.heap.size wr wg6 from ⟨Hg6.os, Hg6.tape, Hg6.output, Hg6.size, Hg6.block⟩))
      have HB6 := Lib.hid (show Below w.heap.size w wg6 from H.out.2.trans (Below.mono (⟨Hg6.os, Hg6.tape, Hg6.output, Hg6.size, Hg6.block⟩ : Below wr.heap.size wr wg6) H.out.2.size))
      go_wp2_with (at_builtin; refine wpList_append_own _ rfl (.tmp 26) (.tmp 60) 90 rfl w.heap.size 93 i0 (.int .u32 0) 1 4 Tryd.underlying90 Hi.out Hz0.out Hz1.out Hz2.out rfl (by decide) (.slice a t cw) t (ws (wv f) t) rfl Hrow6.out ⟨b34, 0, none⟩ 1 1 [.int .u32 ((wv f t : Nat) : Int)] rfl rfl (one_src hb34.out) (fun u hu => by rw [List.mem_singleton] at hu; subst hu; rfl) (by unfold maxLen; omega) (by omega) HB6.out.size ?_; intro v' w1 hown' hgrow' hnil)
      rw [← ws_succ] at hown'
      obtain ⟨a', c', rfl⟩ := row_slice2 hown'
      have Hown' := Lib.hid hown'
      have HB1 := Lib.hid (HB6.out.grown hgrow' HB6.out.size (fun k hk => (Hrow6.out.lt k hk).1))
      clear hown' hgrow' hnil cg6 fg6 sg6 Hg6
      go_wp2_with fail
      go_roundw
      case rel => exact ⟨a', c', t + 1, by omega, rfl, by go_num, Hown'.out, HB1.out⟩
      case measure => simp [intOf]; omega
    · by_cases hlt : t < 64
      · obtain ⟨gw, cp, ea, hg1, hg2, _⟩ := row_form H.out.1 (by omega)
        obtain ⟨rfl, rfl⟩ : a = some ⟨gw, 0, none⟩ ∧ cw = cp := by injection ea with e1 e2 e3; exact ⟨e1, e3⟩
        have hcell : ∀ j, j < t → wr.cell? ⟨gw, j, none⟩ = some (.int .u32 ((wv f j : Nat) : Int)) := fun j hj => (H.out.1.cellAt j (by omega)).trans (ws_get _ _ j hj)
        obtain ⟨p14, q14⟩ : ∃ q, q = t - 2 := ⟨_, rfl⟩
        obtain ⟨p9, q9⟩ : ∃ q, q = t - 7 := ⟨_, rfl⟩
        obtain ⟨p1, q1⟩ : ∃ q, q = t - 15 := ⟨_, rfl⟩
        obtain ⟨p0, q0⟩ : ∃ q, q = t - 16 := ⟨_, rfl⟩
        have c14 := hcell p14 (by omega)
        have c9 := hcell p9 (by omega)
        have c1 := hcell p1 (by omega)
        have c0 := hcell p0 (by omega)
        have w14 : IntKind.i64.wrap ((t : Int) - 2) = (p14 : Int) := by rw [q14, IntKind.wrap_i64]; omega
        have w9 : IntKind.i64.wrap ((t : Int) - 7) = (p9 : Int) := by rw [q9, IntKind.wrap_i64]; omega
        have w1 : IntKind.i64.wrap ((t : Int) - 15) = (p1 : Int) := by rw [q1, IntKind.wrap_i64]; omega
        have w0 : IntKind.i64.wrap ((t : Int) - 16) = (p0 : Int) := by rw [q0, IntKind.wrap_i64]; omega
        have b14 : (p14 : Int) < (t : Int) := by omega
        have b9 : (p9 : Int) < (t : Int) := by omega
        have b1 : (p1 : Int) < (t : Int) := by omega
        have b0 : (p0 : Int) < (t : Int) := by omega
        have hi64 : (t : Int) < 64 := by omega
        have hi16 : ¬ (t : Int) < 16 := by omega
        obtain ⟨x14, e14⟩ : ∃ x, x = wv f p14 := ⟨_, rfl⟩
        obtain ⟨x9, e9⟩ : ∃ x, x = wv f p9 := ⟨_, rfl⟩
        obtain ⟨x1, e1⟩ : ∃ x, x = wv f p1 := ⟨_, rfl⟩
        obtain ⟨x0, e0⟩ : ∃ x, x = wv f p0 := ⟨_, rfl⟩
        rw [← e14] at c14
        rw [← e9] at c9
        rw [← e1] at c1
        rw [← e0] at c0
        have l14 : Hid (x14 < B) := by rw [e14]; exact wv_lt HB.out.lt _
        have l1 : Hid (x1 < B) := by rw [e1]; exact wv_lt HB.out.lt _
        have ev : wv f t = ad (ad (ad (sg1 x14) x9) (sg0 x1)) x0 := by
          rw [wv_hi f (by omega), e14, e9, e1, e0, q14, q9, q1, q0]
        have Ev := Lib.hid ev
        have Hg1 := Lib.hid hg1
        have Hlt := Lib.hid hlt
        clear q14 q9 q1 q0 e14 e9 e1 e0 hcell ea ev hg1 h16 hlt ht
        go_wp2_with fail
        refine Calls.mono (refRot_c 17 x14 (by decide) l14.out _) ?_
        rintro _ _ ⟨rfl, rfl⟩
        go_wp2_with fail
        refine Calls.mono (refRot_c 19 x14 (by decide) l14.out _) ?_
        rintro _ _ ⟨rfl, rfl⟩
        go_wp2_with fail
        refine Calls.mono (refShr_c 10 x14 (by decide) l14.out _) ?_
        rintro _ _ ⟨rfl, rfl⟩
        go_wp2_with fail
        refine Calls.mono (refRot_c 7 x1 (by decide) l1.out _) ?_
        rintro _ _ ⟨rfl, rfl⟩
        go_wp2_with fail
        refine Calls.mono (refRot_c 18 x1 (by decide) l1.out _) ?_
        rintro _ _ ⟨rfl, rfl⟩
        go_wp2_with fail
        refine Calls.mono (refShr_c 3 x1 (by decide) l1.out _) ?_
        rintro _ _ ⟨rfl, rfl⟩
        go_wp2_with fail
        have ew : IntKind.u32.wrap (IntKind.u32.wrap (IntKind.u32.wrap (bits BinOp.xor IntKind.u32 (bits BinOp.xor IntKind.u32 ((rr 17 x14 : Nat) : Int) ((rr 19 x14 : Nat) : Int)) ((x14 : Int) / 1024) + (x9 : Int)) +
            bits BinOp.xor IntKind.u32 (bits BinOp.xor IntKind.u32 ((rr 7 x1 : Nat) : Int) ((rr 18 x1 : Nat) : Int)) ((x1 : Int) / 8)) + (x0 : Int)) = ((wv f t : Nat) : Int) := by
          rw [Ev.out, ← sched_val l14.out l1.out]
          simp only [IntKind.wrap_u32]
          omega
        refine region_grow 17 [0, 1, 2, 3, 4, 5, 6, 7, 8, 9, 10, 11, 12, 13, 14, 15, 16] [(16, (fun b => Value.slice (some ⟨b, 0, Option.none⟩) 1 1), (Obj.cells #[.int .u32 ((wv f t : Nat) : Int)] 93 (0, 0)))] [] (by kernel_rfl) (by kernel_rfl) ?_
        with_reducible apply grow_v
        · rfl
        · rfl
        · rfl
        apply Exists.intro
        refine ⟨fun w' hC => ?_, ?_⟩
        · have hcell := below_cells hC
          clear hC
          go_simp
          rfl
        try simp only [Act.put, List.setIfInBounds_toArray, List.set_cons_zero, List.set_cons_succ, List.tail_cons]
        with_reducible apply grow_v
        · rfl
        · rfl
        · rfl
        apply Exists.intro
        refine ⟨fun w' hC => ?_, ?_⟩
        · have hcell := below_cells hC
          clear hC
          go_simp
          rfl
        try simp only [Act.put, List.setIfInBounds_toArray, List.set_cons_zero, List.set_cons_succ, List.tail_cons]
        with_reducible apply grow_v
        · rfl
        · rfl
        · rfl
        apply Exists.intro
        refine ⟨fun w' hC => ?_, ?_⟩
        · have hcell := below_cells hC
          clear hC
          go_simp
          rfl
        try simp only [Act.put, List.setIfInBounds_toArray, List.set_cons_zero, List.set_cons_succ, List.tail_cons]
        with_reducible apply grow_v
        · rfl
        · rfl
        · rfl
        apply Exists.intro
        refine ⟨fun w' hC => ?_, ?_⟩
        · have hcell := below_cells hC
          clear hC
          go_simp
          rfl
        try simp only [Act.put, List.setIfInBounds_toArray, List.set_cons_zero, List.set_cons_succ, List.tail_cons]
        with_reducible apply grow_v
        · rfl
        · rfl
        · rfl
        apply Exists.intro
        refine ⟨fun w' hC => ?_, ?_⟩
        · have hcell := below_cells hC
          clear hC
          go_simp
          rfl
        try simp only [Act.put, List.setIfInBounds_toArray, List.set_cons_zero, List.set_cons_succ, List.tail_cons]
        with_reducible apply grow_v
        · rfl
        · rfl
        · rfl
        apply Exists.intro
        refine ⟨fun w' hC => ?_, ?_⟩
        · have hcell := below_cells hC
          clear hC
          go_simp
          rfl
        try simp only [Act.put, List.setIfInBounds_toArray, List.set_cons_zero, List.set_cons_succ, List.tail_cons]
        with_reducible apply grow_v
        · rfl
        · rfl
        · rfl
        apply Exists.intro
        refine ⟨fun w' hC => ?_, ?_⟩
        · have hcell := below_cells hC
          clear hC
          simp only [World.size_drew] at hcell
          go_simp
          rfl
        try simp only [Act.put, List.setIfInBounds_toArray, List.set_cons_zero, List.set_cons_succ, List.tail_cons]
        with_reducible apply grow_v
        · rfl
        · rfl
        · rfl
        apply Exists.intro
        refine ⟨fun w' hC => ?_, ?_⟩
        · have hcell := below_cells hC
          clear hC
          go_simp
          rfl
        try simp only [Act.put, List.setIfInBounds_toArray, List.set_cons_zero, List.set_cons_succ, List.tail_cons]
        with_reducible apply grow_v
        · rfl
        · rfl
        · rfl
        apply Exists.intro
        refine ⟨fun w' hC => ?_, ?_⟩
        · have hcell := below_cells hC
          clear hC
          go_simp
          rfl
        try simp only [Act.put, List.setIfInBounds_toArray, List.set_cons_zero, List.set_cons_succ, List.tail_cons]
        with_reducible apply grow_v
        · rfl
        · rfl
        · rfl
        apply Exists.intro
        refine ⟨fun w' hC => ?_, ?_⟩
        · have hcell := below_cells hC
          clear hC
          go_simp
          rfl
        try simp only [Act.put, List.setIfInBounds_toArray, List.set_cons_zero, List.set_cons_succ, List.tail_cons]
        with_reducible apply grow_v
        · rfl
        · rfl
        · rfl
        apply Exists.intro
        refine ⟨fun w' hC => ?_, ?_⟩
        · have hcell := below_cells hC
          clear hC
          go_simp
          rfl
        try simp only [Act.put, List.setIfInBounds_toArray, List.set_cons_zero, List.set_cons_succ, List.tail_cons]
        with_reducible apply grow_v
        · rfl
        · rfl
        · rfl
        apply Exists.intro
        refine ⟨fun w' hC => ?_, ?_⟩
        · have hcell := below_cells hC
          clear hC
          go_simp
          rfl
        try simp only [Act.put, List.setIfInBounds_toArray, List.set_cons_zero, List.set_cons_succ, List.tail_cons]
        with_reducible apply grow_v
        · rfl
        · rfl
        · rfl
        apply Exists.intro
        refine ⟨fun w' hC => ?_, ?_⟩
        · have hcell := below_cells hC
          clear hC
          go_simp
          rfl
        try simp only [Act.put, List.setIfInBounds_toArray, List.set_cons_zero, List.set_cons_succ, List.tail_cons]
        with_reducible apply grow_v
        · rfl
        · rfl
        · rfl
        apply Exists.intro
        refine ⟨fun w' hC => ?_, ?_⟩
        · have hcell := below_cells hC
          clear hC
          go_simp
          rfl
        try simp only [Act.put, List.setIfInBounds_toArray, List.set_cons_zero, List.set_cons_succ, List.tail_cons]
        with_reducible apply grow_v
        · rfl
        · rfl
        · rfl
        apply Exists.intro
        refine ⟨fun w' hC => ?_, ?_⟩
        · have hcell := below_cells hC
          clear hC
          simp only [World.size_drew] at hcell
          go_simp
          rfl
        try simp only [Act.put, List.setIfInBounds_toArray, List.set_cons_zero, List.set_cons_succ, List.tail_cons]
        with_reducible apply grow_v
        · rfl
        · rfl
        · rfl
        apply Exists.intro
        refine ⟨fun w' hC => ?_, ?_⟩
        · have hcell := below_cells hC
          clear hC
          go_simp
          rfl
        try simp only [Act.put, List.setIfInBounds_toArray, List.set_cons_zero, List.set_cons_succ, List.tail_cons]
        with_reducible apply grow_m
        · rfl
        · rfl
        · rfl
        refine ⟨fun w' hC => ?_, fun b16 => ?_⟩
        · (clear hC; go_simp; first | done | rw [ew])
        try dsimp only
        try simp only [Act.put, List.setIfInBounds_toArray, List.set_cons_zero, List.set_cons_succ, List.tail_cons]
        refine grow_end ?_
        intro wg11 hg11
        obtain ⟨cg11, fg11, sg11⟩ := bfacts hg11.grows
        try simp only [World.size_alloc, World.size_setCell, size_drew, size_drewN] at sg11
        have hb16 := Lib.hid (hg11.has (b16, Obj.cells #[.int .u32 ((wv f t : Nat) : Int)] 93 (0, 0)) (by simp only [List.mem_cons, true_or, or_true]))
        have lb16 : b16 < wg11.heap.size := (Array.getElem?_eq_some_iff.1 hb16.out).1
        have nb16 := hg11.new (b16, Obj.cells #[.int .u32 ((wv f t : Nat) : Int)] 93 (0, 0)) (by simp only [List.mem_cons, true_or, or_true])
        try simp only [World.size_alloc, World.size_setCell, size_drew, size_drewN] at nb16
        have Hg11 : Below _ _ wg11 := hg11.grows
        clear hg11
        simp only [List.drop_succ_cons, List.drop_zero]
        clear ew w14 w9 w1 w0 b14 b9 b1 b0 c14 c9 c1 c0 hi16
        have Hrow6 := Lib.hid (row_below (w' := wg11) H.out.1 (show Below wr.heap.size wr wg11 from ⟨Hg11.os, Hg11.tape, Hg11.output, Hg11.size, Hg11.block⟩))
        have HB6 := Lib.hid (show Below w.heap.size w wg11 from H.out.2.trans (Below.mono (⟨Hg11.os, Hg11.tape, Hg11.output, Hg11.size, Hg11.block⟩ : Below wr.heap.size wr wg11) H.out.2.size))
        go_wp2_with (at_builtin; refine wpList_append_own _ rfl (.tmp 88) (.tmp 104) 90 rfl w.heap.size 93 i0 (.int .u32 0) 1 4 Tryd.underlying90 Hi.out Hz0.out Hz1.out Hz2.out rfl (by decide) (.slice (some ⟨gw, 0, none⟩) t cw) t (ws (wv f) t) rfl Hrow6.out ⟨b16, 0, none⟩ 1 1 [.int .u32 ((wv f t : Nat) : Int)] rfl rfl (one_src hb16.out) (fun u hu => by rw [List.mem_singleton] at hu; subst hu; rfl) (by unfold maxLen; omega) (by omega) HB6.out.size ?_; intro v' w1 hown' hgrow' hnil)
        rw [← ws_succ] at hown'
        obtain ⟨a', c', rfl⟩ := row_slice2 hown'
        have Hown' := Lib.hid hown'
        have HB1 := Lib.hid (HB6.out.grown hgrow' HB6.out.size (fun k hk => (Hrow6.out.lt k hk).1))
        clear hown' hgrow' hnil cg11 fg11 sg11 Hg11
        go_wp2_with fail
        go_roundw
        case rel => exact ⟨a', c', t + 1, Hlt.out, rfl, by go_num, Hown'.out, HB1.out⟩
        case measure => have := Hlt.out; simp [intOf]; omega
      · obtain rfl : t = 64 := by omega
        obtain ⟨gw, cp, ea, hg1, hg2, _⟩ := row_form H.out.1 (by omega)
        obtain ⟨rfl, rfl⟩ : a = some ⟨gw, 0, none⟩ ∧ cw = cp := by injection ea with e1 e2 e3; exact ⟨e1, e3⟩
        have hcell : ∀ j, j < 64 → wr.cell? ⟨gw, j, none⟩ = some (.int .u32 ((wv f j : Nat) : Int)) := fun j hj => (H.out.1.cellAt j (by omega)).trans (ws_get _ _ j hj)
        have HW := Lib.hid hcell
        have HB1 := Lib.hid H.out.2
        have Hgw := Lib.hid (And.intro hg1 hg2)
        clear hlt h16 ht H hcell hg1 hg2 ea
        have hsrc : ∀ j v, (ws s.at 8)[j]? = some v → ((wr.alloc (.cells #[] 93)).cell? ((⟨bs, 0, none⟩ : Addr).add j)) = some v := fun j v hj => by
          have hjn : j < 8 := by
            have := (List.getElem?_eq_some_iff.1 hj).1
            rwa [ws_len] at this
          rw [ws_get s.at 8 j hjn] at hj
          cases hj
          have e : (⟨bs, 0, none⟩ : Addr).add j = ⟨bs, 0 + j, none⟩ := by unfold Addr.add; split <;> simp_all
          rw [e, Nat.zero_add]
          exact ((HB1.out.alloc HB1.out.size _).cell (p := ⟨bs, j, none⟩) (lt_of_cell (HS.out 0 (by decide)))).trans (HS.out j hjn)
        have Hsrc := Lib.hid hsrc
        have hown0 : (wr.alloc (.cells #[] 93)).ownsRow w.heap.size 93 1 (.slice (some ⟨wr.heap.size, 0, none⟩) 0 0) 0 [] := World.ownsRow_made wr #[] 0 HB1.out.size (by unfold maxLen; omega) rfl
        have Hown0 := Lib.hid hown0
        clear hsrc hown0
        go_wp2_with (at_builtin; refine wpList_append_own _ rfl (.tmp 106) (.tmp 107) 90 rfl w.heap.size 93 i0 (.int .u32 0) 1 4 Tryd.underlying90 Hi.out Hz0.out Hz1.out Hz2.out rfl (by decide) (.slice (some ⟨wr.heap.size, 0, none⟩) 0 0) 0 [] rfl Hown0.out ⟨bs, 0, none⟩ 8 cs (ws s.at 8) rfl (by rw [ws_len]) Hsrc.out (ws_oneL _ _) (by unfold maxLen; omega) (by omega) (by have := HB1.out.size; simp only [World.size_alloc]; omega) ?_; intro v' w1 hown' hgrow' hnil)
        simp only [Nat.zero_add, List.nil_append] at hown'
        obtain ⟨gv, cv, rfl, hv1, hv2, hv3⟩ := row_form hown' (by omega)
        have hBw : Below wr.heap.size wr w1 := ((Below.refl _ _).alloc (Nat.le_refl _) _).grown hgrow' (by simp only [World.size_alloc]; omega) (fun k hk => by cases hk; exact Nat.le_refl _)
        have Hvw : Hid (WordsAt w1 gv 8 s.at) := ⟨hv2, fun j hj => (hown'.cellAt j (by omega)).trans (ws_get _ _ j hj), fun j => hown'.frozenAt j⟩
        have Hv := Lib.hid (And.intro hv1 hv3)
        have HBw := Lib.hid (HB1.out.trans (Below.mono hBw HB1.out.size))
        have HWw : Hid (∀ j, j < 64 → w1.cell? ⟨gw, j, none⟩ = some (.int .u32 ((wv f j : Nat) : Int))) := fun j hj => (hBw.cell (p := ⟨gw, j, none⟩) Hgw.out.2).trans (HW.out j hj)
        have Hgw1 : Hid (gw < w1.heap.size) := lt_of_cell (HWw.out 0 (by decide))
        clear hown' hgrow' hnil hv1 hv2 hv3 hBw
        go_wp2_with fail
        go_loopw [13, 14] (fun v i wq => ∃ (gv cv t : Nat) (S : St), t ≤ 64 ∧ v = .slice (some ⟨gv, 0, none⟩) 8 cv ∧ i = .int .i64 (t : Int) ∧ Hid (S = rnd K (wv f) s t ∧ S.Ok ∧ 8 ≤ cv ∧ w.heap.size ≤ gv ∧ WordsAt wq gv 8 S.at ∧ Below w1.heap.size w1 wq)) (fun _ i _ => 64 - (intOf i).toNat)
        case atStart => exact ⟨gv, cv, 0, s, by omega, rfl, rfl, rfl, HO.out, Hv.out.2, Hv.out.1, Hvw.out, Below.refl _ _⟩
        case round =>
          obtain ⟨gv, cv, t, S, ht, rfl, rfl, G⟩ := hrel
          by_cases hlt : t < 64
          · have hlt2 : (t : Int) < 64 := by omega
            obtain ⟨sa, sb', sc, sd, se, sf, sg, sh⟩ := S
            have c0 : wr.cell? ⟨gv, 0, none⟩ = some (.int .u32 ((sa : Nat) : Int)) := G.out.2.2.2.2.1.cell 0 (by decide)
            have c1 : wr.cell? ⟨gv, 1, none⟩ = some (.int .u32 ((sb' : Nat) : Int)) := G.out.2.2.2.2.1.cell 1 (by decide)
            have c2 : wr.cell? ⟨gv, 2, none⟩ = some (.int .u32 ((sc : Nat) : Int)) := G.out.2.2.2.2.1.cell 2 (by decide)
            have c3 : wr.cell? ⟨gv, 3, none⟩ = some (.int .u32 ((sd : Nat) : Int)) := G.out.2.2.2.2.1.cell 3 (by decide)
            have c4 : wr.cell? ⟨gv, 4, none⟩ = some (.int .u32 ((se : Nat) : Int)) := G.out.2.2.2.2.1.cell 4 (by decide)
            have c5 : wr.cell? ⟨gv, 5, none⟩ = some (.int .u32 ((sf : Nat) : Int)) := G.out.2.2.2.2.1.cell 5 (by decide)
            have c6 : wr.cell? ⟨gv, 6, none⟩ = some (.int .u32 ((sg : Nat) : Int)) := G.out.2.2.2.2.1.cell 6 (by decide)
            have c7 : wr.cell? ⟨gv, 7, none⟩ = some (.int .u32 ((sh : Nat) : Int)) := G.out.2.2.2.2.1.cell 7 (by decide)
            have HBq := Lib.hid (HBw.out.trans (Below.mono G.out.2.2.2.2.2 HBw.out.size))
            have hk : wr.cell? ⟨bk, t, none⟩ = some (.int .u32 ((K t : Nat) : Int)) := (HBq.out.cell (p := ⟨bk, t, none⟩) (lt_of_cell (HK.out 0 (by decide)))).trans (HK.out t hlt)
            have hw : wr.cell? ⟨gw, t, none⟩ = some (.int .u32 ((wv f t : Nat) : Int)) := (G.out.2.2.2.2.2.cell (p := ⟨gw, t, none⟩) Hgw1.out).trans (HWw.out t hlt)
            obtain ⟨k, ek⟩ : ∃ k, k = K t := ⟨_, rfl⟩
            obtain ⟨x, ex⟩ : ∃ k, k = wv f t := ⟨_, rfl⟩
            rw [← ek] at hk
            rw [← ex] at hw
            have Ek := Lib.hid ek
            have Ex := Lib.hid ex
            have la : Hid (sa < B) := G.out.2.1.a
            have le : Hid (se < B) := G.out.2.1.e
            have Hlt := Lib.hid hlt
            clear ek ex ht hlt
            go_wp2_with fail
            refine region_mix 35 [false, false, false, false, false, false, false, false, false, false, false, false, false, false, false, false, false, false, false, false, false, false, false, false, false, false, false, false, false, false, false, false, false, false, false] (fun w' => w' = World.drew _) (by kernel_rfl) (by kernel_rfl) (by intro _ _ d _ _ h; cases d <;> exact h) rfl ?_
            simp only [List.take_succ_cons, List.take_zero, List.drop_succ_cons, List.drop_zero]
            with_reducible refine mix_v ?_ ?_ ?_
            · rfl
            · rfl
            apply Exists.intro
            refine ⟨fun w' hC => ?_, ?_⟩
            · subst hC
              go_simp
              rfl
            try simp only [Act.put, List.setIfInBounds_toArray, List.set_cons_zero, List.set_cons_succ, List.tail_cons]
            with_reducible refine mix_v ?_ ?_ ?_
            · rfl
            · rfl
            apply Exists.intro
            refine ⟨fun w' hC => ?_, ?_⟩
            · subst hC
              go_simp
              rfl
            try simp only [Act.put, List.setIfInBounds_toArray, List.set_cons_zero, List.set_cons_succ, List.tail_cons]
            with_reducible refine mix_v ?_ ?_ ?_
            · rfl
            · rfl
            apply Exists.intro
            refine ⟨fun w' hC => ?_, ?_⟩
            · subst hC
              go_simp
              rfl
            try simp only [Act.put, List.setIfInBounds_toArray, List.set_cons_zero, List.set_cons_succ, List.tail_cons]
            with_reducible refine mix_v ?_ ?_ ?_
            · rfl
            · rfl
            apply Exists.intro
            refine ⟨fun w' hC => ?_, ?_⟩
            · subst hC
              go_simp
              rfl
            try simp only [Act.put, List.setIfInBounds_toArray, List.set_cons_zero, List.set_cons_succ, List.tail_cons]
            with_reducible refine mix_c ?_ ?_ ?_
            · rfl
            · rfl
            apply Exists.intro
            apply Exists.intro
            apply Exists.intro
            refine ⟨fun w' hC => ?_, fun w' hC => ?_, ?_⟩
            · subst hC
              go_simp
              exact ⟨rfl, rfl⟩
            · subst hC
              exact same_of (refRot_c 6 se (by decide) le.out _)
            try simp only [Act.put, List.setIfInBounds_toArray, List.set_cons_zero, List.set_cons_succ, List.tail_cons]
            with_reducible refine mix_v ?_ ?_ ?_
            · rfl
            · rfl
            apply Exists.intro
            refine ⟨fun w' hC => ?_, ?_⟩
            · subst hC
              go_simp
              rfl
            try simp only [Act.put, List.setIfInBounds_toArray, List.set_cons_zero, List.set_cons_succ, List.tail_cons]
            with_reducible refine mix_c ?_ ?_ ?_
            · rfl
            · rfl
            apply Exists.intro
            apply Exists.intro
            apply Exists.intro
            refine ⟨fun w' hC => ?_, fun w' hC => ?_, ?_⟩
            · subst hC
              go_simp
              exact ⟨rfl, rfl⟩
            · subst hC
              exact same_of (refRot_c 11 se (by decide) le.out _)
            try simp only [Act.put, List.setIfInBounds_toArray, List.set_cons_zero, List.set_cons_succ, List.tail_cons]
            with_reducible refine mix_v ?_ ?_ ?_
            · rfl
            · rfl
            apply Exists.intro
            refine ⟨fun w' hC => ?_, ?_⟩
            · subst hC
              go_simp
              rfl
            try simp only [Act.put, List.setIfInBounds_toArray, List.set_cons_zero, List.set_cons_succ, List.tail_cons]
            with_reducible refine mix_v ?_ ?_ ?_
            · rfl
            · rfl
            apply Exists.intro
            refine ⟨fun w' hC => ?_, ?_⟩
            · subst hC
              go_simp
              rfl
            try simp only [Act.put, List.setIfInBounds_toArray, List.set_cons_zero, List.set_cons_succ, List.tail_cons]
            with_reducible refine mix_c ?_ ?_ ?_
            · rfl
            · rfl
            apply Exists.intro
            apply Exists.intro
            apply Exists.intro
            refine ⟨fun w' hC => ?_, fun w' hC => ?_, ?_⟩
            · subst hC
              go_simp
              exact ⟨rfl, rfl⟩
            · subst hC
              exact same_of (refRot_c 25 se (by decide) le.out _)
            try simp only [Act.put, List.setIfInBounds_toArray, List.set_cons_zero, List.set_cons_succ, List.tail_cons]
            with_reducible refine mix_v ?_ ?_ ?_
            · rfl
            · rfl
            apply Exists.intro
            refine ⟨fun w' hC => ?_, ?_⟩
            · subst hC
              go_simp
              rfl
            try simp only [Act.put, List.setIfInBounds_toArray, List.set_cons_zero, List.set_cons_succ, List.tail_cons]
            with_reducible refine mix_v ?_ ?_ ?_
            · rfl
            · rfl
            apply Exists.intro
            refine ⟨fun w' hC => ?_, ?_⟩
            · subst hC
              go_simp
              rfl
            try simp only [Act.put, List.setIfInBounds_toArray, List.set_cons_zero, List.set_cons_succ, List.tail_cons]
            with_reducible refine mix_v ?_ ?_ ?_
            · rfl
            · rfl
            apply Exists.intro
            refine ⟨fun w' hC => ?_, ?_⟩
            · subst hC
              go_simp
              rfl
            try simp only [Act.put, List.setIfInBounds_toArray, List.set_cons_zero, List.set_cons_succ, List.tail_cons]
            with_reducible refine mix_v ?_ ?_ ?_
            · rfl
            · rfl
            apply Exists.intro
            refine ⟨fun w' hC => ?_, ?_⟩
            · subst hC
              go_simp
              rfl
            try simp only [Act.put, List.setIfInBounds_toArray, List.set_cons_zero, List.set_cons_succ, List.tail_cons]
            with_reducible refine mix_v ?_ ?_ ?_
            · rfl
            · rfl
            apply Exists.intro
            refine ⟨fun w' hC => ?_, ?_⟩
            · subst hC
              go_simp
              rfl
            try simp only [Act.put, List.setIfInBounds_toArray, List.set_cons_zero, List.set_cons_succ, List.tail_cons]
            with_reducible refine mix_v ?_ ?_ ?_
            · rfl
            · rfl
            apply Exists.intro
            refine ⟨fun w' hC => ?_, ?_⟩
            · subst hC
              go_simp
              rfl
            try simp only [Act.put, List.setIfInBounds_toArray, List.set_cons_zero, List.set_cons_succ, List.tail_cons]
            with_reducible refine mix_v ?_ ?_ ?_
            · rfl
            · rfl
            apply Exists.intro
            refine ⟨fun w' hC => ?_, ?_⟩
            · subst hC
              go_simp
              rfl
            try simp only [Act.put, List.setIfInBounds_toArray, List.set_cons_zero, List.set_cons_succ, List.tail_cons]
            with_reducible refine mix_v ?_ ?_ ?_
            · rfl
            · rfl
            apply Exists.intro
            refine ⟨fun w' hC => ?_, ?_⟩
            · subst hC
              go_simp
              rfl
            try simp only [Act.put, List.setIfInBounds_toArray, List.set_cons_zero, List.set_cons_succ, List.tail_cons]
            with_reducible refine mix_v ?_ ?_ ?_
            · rfl
            · rfl
            apply Exists.intro
            refine ⟨fun w' hC => ?_, ?_⟩
            · subst hC
              go_simp
              rfl
            try simp only [Act.put, List.setIfInBounds_toArray, List.set_cons_zero, List.set_cons_succ, List.tail_cons]
            with_reducible refine mix_v ?_ ?_ ?_
            · rfl
            · rfl
            apply Exists.intro
            refine ⟨fun w' hC => ?_, ?_⟩
            · subst hC
              go_simp
              rfl
            try simp only [Act.put, List.setIfInBounds_toArray, List.set_cons_zero, List.set_cons_succ, List.tail_cons]
            with_reducible refine mix_v ?_ ?_ ?_
            · rfl
            · rfl
            apply Exists.intro
            refine ⟨fun w' hC => ?_, ?_⟩
            · subst hC
              go_simp
              rfl
            try simp only [Act.put, List.setIfInBounds_toArray, List.set_cons_zero, List.set_cons_succ, List.tail_cons]
            with_reducible refine mix_v ?_ ?_ ?_
            · rfl
            · rfl
            apply Exists.intro
            refine ⟨fun w' hC => ?_, ?_⟩
            · subst hC
              go_simp
              rfl
            try simp only [Act.put, List.setIfInBounds_toArray, List.set_cons_zero, List.set_cons_succ, List.tail_cons]
            with_reducible refine mix_v ?_ ?_ ?_
            · rfl
            · rfl
            apply Exists.intro
            refine ⟨fun w' hC => ?_, ?_⟩
            · subst hC
              go_simp
              rfl
            try simp only [Act.put, List.setIfInBounds_toArray, List.set_cons_zero, List.set_cons_succ, List.tail_cons]
            with_reducible refine mix_v ?_ ?_ ?_
            · rfl
            · rfl
            apply Exists.intro
            refine ⟨fun w' hC => ?_, ?_⟩
            · subst hC
              go_simp
              rfl
            try simp only [Act.put, List.setIfInBounds_toArray, List.set_cons_zero, List.set_cons_succ, List.tail_cons]
            with_reducible refine mix_v ?_ ?_ ?_
            · rfl
            · rfl
            apply Exists.intro
            refine ⟨fun w' hC => ?_, ?_⟩
            · subst hC
              go_simp
              rfl
            try simp only [Act.put, List.setIfInBounds_toArray, List.set_cons_zero, List.set_cons_succ, List.tail_cons]
            with_reducible refine mix_v ?_ ?_ ?_
            · rfl
            · rfl
            apply Exists.intro
            refine ⟨fun w' hC => ?_, ?_⟩
            · subst hC
              go_simp
              rfl
            try simp only [Act.put, List.setIfInBounds_toArray, List.set_cons_zero, List.set_cons_succ, List.tail_cons]
            with_reducible refine mix_v ?_ ?_ ?_
            · rfl
            · rfl
            apply Exists.intro
            refine ⟨fun w' hC => ?_, ?_⟩
            · subst hC
              go_simp
              rfl
            try simp only [Act.put, List.setIfInBounds_toArray, List.set_cons_zero, List.set_cons_succ, List.tail_cons]
            with_reducible refine mix_v ?_ ?_ ?_
            · rfl
            · rfl
            apply Exists.intro
            refine ⟨fun w' hC => ?_, ?_⟩
            · subst hC
              go_simp
              rfl
            try simp only [Act.put, List.setIfInBounds_toArray, List.set_cons_zero, List.set_cons_succ, List.tail_cons]
            with_reducible refine mix_v ?_ ?_ ?_
            · rfl
            · rfl
            apply Exists.intro
            refine ⟨fun w' hC => ?_, ?_⟩
            · subst hC
              go_simp
              rfl
            try simp only [Act.put, List.setIfInBounds_toArray, List.set_cons_zero, List.set_cons_succ, List.tail_cons]
            with_reducible refine mix_v ?_ ?_ ?_
            · rfl
            · rfl
            apply Exists.intro
            refine ⟨fun w' hC => ?_, ?_⟩
            · subst hC
              go_simp
              rfl
            try simp only [Act.put, List.setIfInBounds_toArray, List.set_cons_zero, List.set_cons_succ, List.tail_cons]
            with_reducible refine mix_v ?_ ?_ ?_
            · rfl
            · rfl
            apply Exists.intro
            refine ⟨fun w' hC => ?_, ?_⟩
            · subst hC
              go_simp
              rfl
            try simp only [Act.put, List.setIfInBounds_toArray, List.set_cons_zero, List.set_cons_succ, List.tail_cons]
            with_reducible refine mix_v ?_ ?_ ?_
            · rfl
            · rfl
            apply Exists.intro
            refine ⟨fun w' hC => ?_, ?_⟩
            · subst hC
              go_simp
              rfl
            try simp only [Act.put, List.setIfInBounds_toArray, List.set_cons_zero, List.set_cons_succ, List.tail_cons]
            with_reducible refine mix_v ?_ ?_ ?_
            · rfl
            · rfl
            apply Exists.intro
            refine ⟨fun w' hC => ?_, ?_⟩
            · subst hC
              go_simp
              rfl
            try simp only [Act.put, List.setIfInBounds_toArray, List.set_cons_zero, List.set_cons_succ, List.tail_cons]
            with_reducible refine mix_v ?_ ?_ ?_
            · rfl
            · rfl
            apply Exists.intro
            refine ⟨fun w' hC => ?_, ?_⟩
            · subst hC
              go_simp
              rfl
            try simp only [Act.put, List.setIfInBounds_toArray, List.set_cons_zero, List.set_cons_succ, List.tail_cons]
            with_reducible refine mix_v ?_ ?_ ?_
            · rfl
            · rfl
            apply Exists.intro
            refine ⟨fun w' hC => ?_, ?_⟩
            · subst hC
              go_simp
              rfl
            try simp only [Act.put, List.setIfInBounds_toArray, List.set_cons_zero, List.set_cons_succ, List.tail_cons]
            refine mix_nil ?_
            rintro _ rfl
            go_wp2_with fail
            refine region_mix 28 [false, false, false, false, false, false, false, false, false, false, false, false, false, false, false, false, false, false, false, false, false, false, false, false, false, false, false, false] (fun w' => w' = World.drew _) (by kernel_rfl) (by kernel_rfl) (by intro _ _ d _ _ h; cases d <;> exact h) rfl ?_
            simp only [List.take_succ_cons, List.take_zero, List.drop_succ_cons, List.drop_zero]
            with_reducible refine mix_v ?_ ?_ ?_
            · rfl
            · rfl
            apply Exists.intro
            refine ⟨fun w' hC => ?_, ?_⟩
            · subst hC
              go_simp
              rfl
            try simp only [Act.put, List.setIfInBounds_toArray, List.set_cons_zero, List.set_cons_succ, List.tail_cons]
            with_reducible refine mix_c ?_ ?_ ?_
            · rfl
            · rfl
            apply Exists.intro
            apply Exists.intro
            apply Exists.intro
            refine ⟨fun w' hC => ?_, fun w' hC => ?_, ?_⟩
            · subst hC
              go_simp
              exact ⟨rfl, rfl⟩
            · subst hC
              exact same_of (refRot_c 2 sa (by decide) la.out _)
            try simp only [Act.put, List.setIfInBounds_toArray, List.set_cons_zero, List.set_cons_succ, List.tail_cons]
            with_reducible refine mix_v ?_ ?_ ?_
            · rfl
            · rfl
            apply Exists.intro
            refine ⟨fun w' hC => ?_, ?_⟩
            · subst hC
              go_simp
              rfl
            try simp only [Act.put, List.setIfInBounds_toArray, List.set_cons_zero, List.set_cons_succ, List.tail_cons]
            with_reducible refine mix_c ?_ ?_ ?_
            · rfl
            · rfl
            apply Exists.intro
            apply Exists.intro
            apply Exists.intro
            refine ⟨fun w' hC => ?_, fun w' hC => ?_, ?_⟩
            · subst hC
              go_simp
              exact ⟨rfl, rfl⟩
            · subst hC
              exact same_of (refRot_c 13 sa (by decide) la.out _)
            try simp only [Act.put, List.setIfInBounds_toArray, List.set_cons_zero, List.set_cons_succ, List.tail_cons]
            with_reducible refine mix_v ?_ ?_ ?_
            · rfl
            · rfl
            apply Exists.intro
            refine ⟨fun w' hC => ?_, ?_⟩
            · subst hC
              go_simp
              rfl
            try simp only [Act.put, List.setIfInBounds_toArray, List.set_cons_zero, List.set_cons_succ, List.tail_cons]
            with_reducible refine mix_v ?_ ?_ ?_
            · rfl
            · rfl
            apply Exists.intro
            refine ⟨fun w' hC => ?_, ?_⟩
            · subst hC
              go_simp
              rfl
            try simp only [Act.put, List.setIfInBounds_toArray, List.set_cons_zero, List.set_cons_succ, List.tail_cons]
            with_reducible refine mix_c ?_ ?_ ?_
            · rfl
            · rfl
            apply Exists.intro
            apply Exists.intro
            apply Exists.intro
            refine ⟨fun w' hC => ?_, fun w' hC => ?_, ?_⟩
            · subst hC
              go_simp
              exact ⟨rfl, rfl⟩
            · subst hC
              exact same_of (refRot_c 22 sa (by decide) la.out _)
            try simp only [Act.put, List.setIfInBounds_toArray, List.set_cons_zero, List.set_cons_succ, List.tail_cons]
            with_reducible refine mix_v ?_ ?_ ?_
            · rfl
            · rfl
            apply Exists.intro
            refine ⟨fun w' hC => ?_, ?_⟩
            · subst hC
              go_simp
              rfl
            try simp only [Act.put, List.setIfInBounds_toArray, List.set_cons_zero, List.set_cons_succ, List.tail_cons]
            with_reducible refine mix_v ?_ ?_ ?_
            · rfl
            · rfl
            apply Exists.intro
            refine ⟨fun w' hC => ?_, ?_⟩
            · subst hC
              go_simp
              rfl
            try simp only [Act.put, List.setIfInBounds_toArray, List.set_cons_zero, List.set_cons_succ, List.tail_cons]
            with_reducible refine mix_v ?_ ?_ ?_
            · rfl
            · rfl
            apply Exists.intro
            refine ⟨fun w' hC => ?_, ?_⟩
            · subst hC
              go_simp
              rfl
            try simp only [Act.put, List.setIfInBounds_toArray, List.set_cons_zero, List.set_cons_succ, List.tail_cons]
            with_reducible refine mix_v ?_ ?_ ?_
            · rfl
            · rfl
            apply Exists.intro
            refine ⟨fun w' hC => ?_, ?_⟩
            · subst hC
              go_simp
              rfl
            try simp only [Act.put, List.setIfInBounds_toArray, List.set_cons_zero, List.set_cons_succ, List.tail_cons]
            with_reducible refine mix_v ?_ ?_ ?_
            · rfl
            · rfl
            apply Exists.intro
            refine ⟨fun w' hC => ?_, ?_⟩
            · subst hC
              go_simp
              rfl
            try simp only [Act.put, List.setIfInBounds_toArray, List.set_cons_zero, List.set_cons_succ, List.tail_cons]
            with_reducible refine mix_v ?_ ?_ ?_
            · rfl
            · rfl
            apply Exists.intro
            refine ⟨fun w' hC => ?_, ?_⟩
            · subst hC
              go_simp
              rfl
            try simp only [Act.put, List.setIfInBounds_toArray, List.set_cons_zero, List.set_cons_succ, List.tail_cons]
            with_reducible refine mix_v ?_ ?_ ?_
            · rfl
            · rfl
            apply Exists.intro
            refine ⟨fun w' hC => ?_, ?_⟩
            · subst hC
              go_simp
              rfl
            try simp only [Act.put, List.setIfInBounds_toArray, List.set_cons_zero, List.set_cons_succ, List.tail_cons]
            with_reducible refine mix_v ?_ ?_ ?_
            · rfl
            · rfl
            apply Exists.intro
            refine ⟨fun w' hC => ?_, ?_⟩
            · subst hC
              go_simp
              rfl
            try simp only [Act.put, List.setIfInBounds_toArray, List.set_cons_zero, List.set_cons_succ, List.tail_cons]
            with_reducible refine mix_v ?_ ?_ ?_
            · rfl
            · rfl
            apply Exists.intro
            refine ⟨fun w' hC => ?_, ?_⟩
            · subst hC
              go_simp
              rfl
            try simp only [Act.put, List.setIfInBounds_toArray, List.set_cons_zero, List.set_cons_succ, List.tail_cons]
            with_reducible refine mix_v ?_ ?_ ?_
            · rfl
            · rfl
            apply Exists.intro
            refine ⟨fun w' hC => ?_, ?_⟩
            · subst hC
              go_simp
              rfl
            try simp only [Act.put, List.setIfInBounds_toArray, List.set_cons_zero, List.set_cons_succ, List.tail_cons]
            with_reducible refine mix_v ?_ ?_ ?_
            · rfl
            · rfl
            apply Exists.intro
            refine ⟨fun w' hC => ?_, ?_⟩
            · subst hC
              go_simp
              rfl
            try simp only [Act.put, List.setIfInBounds_toArray, List.set_cons_zero, List.set_cons_succ, List.tail_cons]
            with_reducible refine mix_v ?_ ?_ ?_
            · rfl
            · rfl
            apply Exists.intro
            refine ⟨fun w' hC => ?_, ?_⟩
            · subst hC
              go_simp
              rfl
            try simp only [Act.put, List.setIfInBounds_toArray, List.set_cons_zero, List.set_cons_succ, List.tail_cons]
            with_reducible refine mix_v ?_ ?_ ?_
            · rfl
            · rfl
            apply Exists.intro
            refine ⟨fun w' hC => ?_, ?_⟩
            · subst hC
              go_simp
              rfl
            try simp only [Act.put, List.setIfInBounds_toArray, List.set_cons_zero, List.set_cons_succ, List.tail_cons]
            with_reducible refine mix_v ?_ ?_ ?_
            · rfl
            · rfl
            apply Exists.intro
            refine ⟨fun w' hC => ?_, ?_⟩
            · subst hC
              go_simp
              rfl
            try simp only [Act.put, List.setIfInBounds_toArray, List.set_cons_zero, List.set_cons_succ, List.tail_cons]
            with_reducible refine mix_v ?_ ?_ ?_
            · rfl
            · rfl
            apply Exists.intro
            refine ⟨fun w' hC => ?_, ?_⟩
            · subst hC
              go_simp
              rfl
            try simp only [Act.put, List.setIfInBounds_toArray, List.set_cons_zero, List.set_cons_succ, List.tail_cons]
            with_reducible refine mix_v ?_ ?_ ?_
            · rfl
            · rfl
            apply Exists.intro
            refine ⟨fun w' hC => ?_, ?_⟩
            · subst hC
              go_simp
              rfl
            try simp only [Act.put, List.setIfInBounds_toArray, List.set_cons_zero, List.set_cons_succ, List.tail_cons]
            with_reducible refine mix_v ?_ ?_ ?_
            · rfl
            · rfl
            apply Exists.intro
            refine ⟨fun w' hC => ?_, ?_⟩
            · subst hC
              go_simp
              rfl
            try simp only [Act.put, List.setIfInBounds_toArray, List.set_cons_zero, List.set_cons_succ, List.tail_cons]
            with_reducible refine mix_v ?_ ?_ ?_
            · rfl
            · rfl
            apply Exists.intro
            refine ⟨fun w' hC => ?_, ?_⟩
            · subst hC
              go_simp
              rfl
            try simp only [Act.put, List.setIfInBounds_toArray, List.set_cons_zero, List.set_cons_succ, List.tail_cons]
            with_reducible refine mix_v ?_ ?_ ?_
            · rfl
            · rfl
            apply Exists.intro
            refine ⟨fun w' hC => ?_, ?_⟩
            · subst hC
              go_simp
              rfl
            try simp only [Act.put, List.setIfInBounds_toArray, List.set_cons_zero, List.set_cons_succ, List.tail_cons]
            with_reducible refine mix_v ?_ ?_ ?_
            · rfl
            · rfl
            apply Exists.intro
            refine ⟨fun w' hC => ?_, ?_⟩
            · subst hC
              go_simp
              rfl
            try simp only [Act.put, List.setIfInBounds_toArray, List.set_cons_zero, List.set_cons_succ, List.tail_cons]
            with_reducible refine mix_v ?_ ?_ ?_
            · rfl
            · rfl
            apply Exists.intro
            refine ⟨fun w' hC => ?_, ?_⟩
            · subst hC
              go_simp
              rfl
            try simp only [Act.put, List.setIfInBounds_toArray, List.set_cons_zero, List.set_cons_succ, List.tail_cons]
            refine mix_nil ?_
            rintro _ rfl
            go_wp2_with fail
            rw [refT1_val (sa := sa) (sb' := sb') (sc := sc) (sd := sd) le.out G.out.2.1.f G.out.2.1.g, refT2_val (sd := sd) (se := se) (sf := sf) (sg := sg) (sh := sh) la.out G.out.2.1.b G.out.2.1.c]
            obtain ⟨T1, eT1⟩ : ∃ z, z = t1 k x ⟨sa, sb', sc, sd, se, sf, sg, sh⟩ := ⟨_, rfl⟩
            obtain ⟨T2, eT2⟩ : ∃ z, z = t2 ⟨sa, sb', sc, sd, se, sf, sg, sh⟩ := ⟨_, rfl⟩
            rw [← eT1, ← eT2]
            have hgv : gv < wr.heap.size := G.out.2.2.2.2.1.blk
            have ET1 := Lib.hid eT1
            have ET2 := Lib.hid eT2
            clear eT1 eT2
            refine region_grow 23 [0, 1, 2, 3, 4, 5, 6, 7, 8, 9, 10, 11, 12, 13, 14, 15, 16, 17, 18, 19, 20, 21, 22] [(22, (fun b => Value.slice (some ⟨b, 0, Option.none⟩) 8 8), (Obj.cells #[.int .u32 ((ad T1 T2 : Nat) : Int), .int .u32 ((sa : Nat) : Int), .int .u32 ((sb' : Nat) : Int), .int .u32 ((sc : Nat) : Int), .int .u32 ((ad sd T1 : Nat) : Int), .int .u32 ((se : Nat) : Int), .int .u32 ((sf : Nat) : Int), .int .u32 ((sg : Nat) : Int)] 93 (0, 0)))] [] (by kernel_rfl) (by kernel_rfl) ?_
            with_reducible apply grow_v
            · rfl
            · rfl
            · rfl
            apply Exists.intro
            refine ⟨fun w' hC => ?_, ?_⟩
            · have hcell := below_cells hC
              clear hC
              go_simp
              rfl
            try simp only [Act.put, List.setIfInBounds_toArray, List.set_cons_zero, List.set_cons_succ, List.tail_cons]
            with_reducible apply grow_v
            · rfl
            · rfl
            · rfl
            apply Exists.intro
            refine ⟨fun w' hC => ?_, ?_⟩
            · have hcell := below_cells hC
              clear hC
              go_simp
              rfl
            try simp only [Act.put, List.setIfInBounds_toArray, List.set_cons_zero, List.set_cons_succ, List.tail_cons]
            with_reducible apply grow_v
            · rfl
            · rfl
            · rfl
            apply Exists.intro
            refine ⟨fun w' hC => ?_, ?_⟩
            · have hcell := below_cells hC
              clear hC
              go_simp
              rfl
            try simp only [Act.put, List.setIfInBounds_toArray, List.set_cons_zero, List.set_cons_succ, List.tail_cons]
            with_reducible apply grow_v
            · rfl
            · rfl
            · rfl
            apply Exists.intro
            refine ⟨fun w' hC => ?_, ?_⟩
            · have hcell := below_cells hC
              clear hC
              go_simp
              rfl
            try simp only [Act.put, List.setIfInBounds_toArray, List.set_cons_zero, List.set_cons_succ, List.tail_cons]
            with_reducible apply grow_v
            · rfl
            · rfl
            · rfl
            apply Exists.intro
            refine ⟨fun w' hC => ?_, ?_⟩
            · have hcell := below_cells hC
              clear hC
              go_simp
              rfl
            try simp only [Act.put, List.setIfInBounds_toArray, List.set_cons_zero, List.set_cons_succ, List.tail_cons]
            with_reducible apply grow_v
            · rfl
            · rfl
            · rfl
            apply Exists.intro
            refine ⟨fun w' hC => ?_, ?_⟩
            · have hcell := below_cells hC
              clear hC
              go_simp
              rfl
            try simp only [Act.put, List.setIfInBounds_toArray, List.set_cons_zero, List.set_cons_succ, List.tail_cons]
            with_reducible apply grow_v
            · rfl
            · rfl
            · rfl
            apply Exists.intro
            refine ⟨fun w' hC => ?_, ?_⟩
            · have hcell := below_cells hC
              clear hC
              simp only [World.size_drew] at hcell
              go_simp
              rfl
            try simp only [Act.put, List.setIfInBounds_toArray, List.set_cons_zero, List.set_cons_succ, List.tail_cons]
            with_reducible apply grow_v
            · rfl
            · rfl
            · rfl
            apply Exists.intro
            refine ⟨fun w' hC => ?_, ?_⟩
            · have hcell := below_cells hC
              clear hC
              go_simp
              rfl
            try simp only [Act.put, List.setIfInBounds_toArray, List.set_cons_zero, List.set_cons_succ, List.tail_cons]
            with_reducible apply grow_v
            · rfl
            · rfl
            · rfl
            apply Exists.intro
            refine ⟨fun w' hC => ?_, ?_⟩
            · have hcell := below_cells hC
              clear hC
              go_simp
              rfl
            try simp only [Act.put, List.setIfInBounds_toArray, List.set_cons_zero, List.set_cons_succ, List.tail_cons]
            with_reducible apply grow_v
            · rfl
            · rfl
            · rfl
            apply Exists.intro
            refine ⟨fun w' hC => ?_, ?_⟩
            · have hcell := below_cells hC
              clear hC
              simp only [World.size_drew] at hcell
              go_simp
              rfl
            try simp only [Act.put, List.setIfInBounds_toArray, List.set_cons_zero, List.set_cons_succ, List.tail_cons]
            with_reducible apply grow_v
            · rfl
            · rfl
            · rfl
            apply Exists.intro
            refine ⟨fun w' hC => ?_, ?_⟩
            · have hcell := below_cells hC
              clear hC
              go_simp
              rfl
            try simp only [Act.put, List.setIfInBounds_toArray, List.set_cons_zero, List.set_cons_succ, List.tail_cons]
            with_reducible apply grow_v
            · rfl
            · rfl
            · rfl
            apply Exists.intro
            refine ⟨fun w' hC => ?_, ?_⟩
            · have hcell := below_cells hC
              clear hC
              go_simp
              rfl
            try simp only [Act.put, List.setIfInBounds_toArray, List.set_cons_zero, List.set_cons_succ, List.tail_cons]
            with_reducible apply grow_v
            · rfl
            · rfl
            · rfl
            apply Exists.intro
            refine ⟨fun w' hC => ?_, ?_⟩
            · have hcell := below_cells hC
              clear hC
              simp only [World.size_drew] at hcell
              go_simp
              rfl
            try simp only [Act.put, List.setIfInBounds_toArray, List.set_cons_zero, List.set_cons_succ, List.tail_cons]
            with_reducible apply grow_v
            · rfl
            · rfl
            · rfl
            apply Exists.intro
            refine ⟨fun w' hC => ?_, ?_⟩
            · have hcell := below_cells hC
              clear hC
              go_simp
              rfl
            try simp only [Act.put, List.setIfInBounds_toArray, List.set_cons_zero, List.set_cons_succ, List.tail_cons]
            with_reducible apply grow_v
            · rfl
            · rfl
            · rfl
            apply Exists.intro
            refine ⟨fun w' hC => ?_, ?_⟩
            · have hcell := below_cells hC
              clear hC
              go_simp
              rfl
            try simp only [Act.put, List.setIfInBounds_toArray, List.set_cons_zero, List.set_cons_succ, List.tail_cons]
            with_reducible apply grow_v
            · rfl
            · rfl
            · rfl
            apply Exists.intro
            refine ⟨fun w' hC => ?_, ?_⟩
            · have hcell := below_cells hC
              clear hC
              go_simp
              rfl
            try simp only [Act.put, List.setIfInBounds_toArray, List.set_cons_zero, List.set_cons_succ, List.tail_cons]
            with_reducible apply grow_v
            · rfl
            · rfl
            · rfl
            apply Exists.intro
            refine ⟨fun w' hC => ?_, ?_⟩
            · have hcell := below_cells hC
              clear hC
              go_simp
              rfl
            try simp only [Act.put, List.setIfInBounds_toArray, List.set_cons_zero, List.set_cons_succ, List.tail_cons]
            with_reducible apply grow_v
            · rfl
            · rfl
            · rfl
            apply Exists.intro
            refine ⟨fun w' hC => ?_, ?_⟩
            · have hcell := below_cells hC
              clear hC
              go_simp
              rfl
            try simp only [Act.put, List.setIfInBounds_toArray, List.set_cons_zero, List.set_cons_succ, List.tail_cons]
            with_reducible apply grow_v
            · rfl
            · rfl
            · rfl
            apply Exists.intro
            refine ⟨fun w' hC => ?_, ?_⟩
            · have hcell := below_cells hC
              clear hC
              simp only [World.size_drew] at hcell
              go_simp
              rfl
            try simp only [Act.put, List.setIfInBounds_toArray, List.set_cons_zero, List.set_cons_succ, List.tail_cons]
            with_reducible apply grow_v
            · rfl
            · rfl
            · rfl
            apply Exists.intro
            refine ⟨fun w' hC => ?_, ?_⟩
            · have hcell := below_cells hC
              clear hC
              go_simp
              rfl
            try simp only [Act.put, List.setIfInBounds_toArray, List.set_cons_zero, List.set_cons_succ, List.tail_cons]
            with_reducible apply grow_v
            · rfl
            · rfl
            · rfl
            apply Exists.intro
            refine ⟨fun w' hC => ?_, ?_⟩
            · have hcell := below_cells hC
              clear hC
              go_simp
              rfl
            try simp only [Act.put, List.setIfInBounds_toArray, List.set_cons_zero, List.set_cons_succ, List.tail_cons]
            with_reducible apply grow_v
            · rfl
            · rfl
            · rfl
            apply Exists.intro
            refine ⟨fun w' hC => ?_, ?_⟩
            · have hcell := below_cells hC
              clear hC
              simp only [World.size_drew] at hcell
              go_simp
              rfl
            try simp only [Act.put, List.setIfInBounds_toArray, List.set_cons_zero, List.set_cons_succ, List.tail_cons]
            with_reducible apply grow_m
            · rfl
            · rfl
            · rfl
            refine ⟨fun w' hC => ?_, fun b22 => ?_⟩
            · (clear hC; go_simp; first | done | simp only [wrap_ad])
            try dsimp only
            try simp only [Act.put, List.setIfInBounds_toArray, List.set_cons_zero, List.set_cons_succ, List.tail_cons]
            refine grow_end ?_
            intro wg20 hg20
            obtain ⟨cg20, fg20, sg20⟩ := bfacts hg20.grows
            try simp only [World.size_alloc, World.size_setCell, size_drew, size_drewN] at sg20
            have hb22 := Lib.hid (hg20.has (b22, Obj.cells #[.int .u32 ((ad T1 T2 : Nat) : Int), .int .u32 ((sa : Nat) : Int), .int .u32 ((sb' : Nat) : Int), .int .u32 ((sc : Nat) : Int), .int .u32 ((ad sd T1 : Nat) : Int), .int .u32 ((se : Nat) : Int), .int .u32 ((sf : Nat) : Int), .int .u32 ((sg : Nat) : Int)] 93 (0, 0)) (by simp only [List.mem_cons, true_or, or_true]))
            have lb22 : b22 < wg20.heap.size := (Array.getElem?_eq_some_iff.1 hb22.out).1
            have nb22 := hg20.new (b22, Obj.cells #[.int .u32 ((ad T1 T2 : Nat) : Int), .int .u32 ((sa : Nat) : Int), .int .u32 ((sb' : Nat) : Int), .int .u32 ((sc : Nat) : Int), .int .u32 ((ad sd T1 : Nat) : Int), .int .u32 ((se : Nat) : Int), .int .u32 ((sf : Nat) : Int), .int .u32 ((sg : Nat) : Int)] 93 (0, 0)) (by simp only [List.mem_cons, true_or, or_true])
            try simp only [World.size_alloc, World.size_setCell, size_drew, size_drewN] at nb22
            have Hg20 : Below _ _ wg20 := hg20.grows
            clear hg20
            simp only [List.drop_succ_cons, List.drop_zero]
            have Hst : Hid (w.heap.size ≤ b22) := Nat.le_trans HBq.out.size nb22
            have Hw22 : Hid (WordsAt wg20 b22 8 (step k x ⟨sa, sb', sc, sd, se, sf, sg, sh⟩).at) := words_lit hb22.out (fun j hj => by
              unfold step
              rw [← ET1.out, ← ET2.out]
              have h : j = 0 ∨ j = 1 ∨ j = 2 ∨ j = 3 ∨ j = 4 ∨ j = 5 ∨ j = 6 ∨ j = 7 := by omega
              rcases h with rfl | rfl | rfl | rfl | rfl | rfl | rfl | rfl <;> rfl)
            have HBn : Hid (Below w1.heap.size w1 wg20) := G.out.2.2.2.2.2.drew.drew.drew.trans (Below.mono Hg20 (by simp only [World.size_drew]; exact G.out.2.2.2.2.2.size))
            clear c0 c1 c2 c3 c4 c5 c6 c7 hk hw cg20 fg20 hb22 Hg20 hgv
            go_wp2_with fail
            go_roundw
            case rel =>
              refine ⟨b22, 8, t + 1, step k x ⟨sa, sb', sc, sd, se, sf, sg, sh⟩, Hlt.out, rfl, by go_num, ?_, step_ok G.out.2.1, Nat.le_refl _, Hst.out, Hw22.out, HBn.out⟩
              show _ = step (K t) (wv f t) (rnd K (wv f) s t)
              rw [← G.out.1, ← Ek.out, ← Ex.out]
            case measure => have := Hlt.out; simp [intOf]; omega
          · obtain rfl : t = 64 := by omega
            obtain ⟨w2, ew2⟩ : ∃ w2 : World, w2 = wr := ⟨_, rfl⟩
            subst ew2
            have HS2 : Hid (S = rnd K (wv f) s 64) := G.out.1
            have HV2 : Hid (WordsAt w2 gv 8 S.at) := G.out.2.2.2.2.1
            have HB2 := Lib.hid (HBw.out.trans (Below.mono G.out.2.2.2.2.2 HBw.out.size))
            have Hgv : Hid (8 ≤ cv ∧ w.heap.size ≤ gv) := ⟨G.out.2.2.1, G.out.2.2.2.1⟩
            clear hlt ht G
            go_wp2_with fail
            go_loopw [19] (fun i wq => ∃ (t : Nat), t ≤ 8 ∧ i = .int .i64 (t : Int) ∧ Hid (WordsAt wq gv 8 (fun j => if j < t then ad (S.at j) (s.at j) else S.at j) ∧ Below w.heap.size w wq)) (fun i _ => 8 - (intOf i).toNat)
            case atStart => exact ⟨0, by omega, rfl, ⟨HV2.out, HB2.out⟩⟩
            case round =>
              obtain ⟨t, ht, rfl, H⟩ := hrel
              by_cases hlt : t < 8
              · have hlt2 : (t : Int) < 8 := by omega
                have c0 : wr.cell? ⟨gv, t, none⟩ = some (.int .u32 ((S.at t : Nat) : Int)) := (H.out.1.cell t hlt).trans (by rw [if_neg (by omega)])
                have c1 : wr.cell? ⟨bs, t, none⟩ = some (.int .u32 ((s.at t : Nat) : Int)) := (H.out.2.cell (p := ⟨bs, t, none⟩) (lt_of_cell (HS.out 0 (by decide)))).trans (HS.out t hlt)
                have cf : wr.frozen? ⟨gv, t, none⟩ = false := H.out.1.fz t
                obtain ⟨x, ex⟩ : ∃ x, x = S.at t := ⟨_, rfl⟩
                obtain ⟨y, ey⟩ : ∃ y, y = s.at t := ⟨_, rfl⟩
                rw [← ex] at c0
                rw [← ey] at c1
                have Ex := Lib.hid ex
                have Ey := Lib.hid ey
                have Hlt := Lib.hid hlt
                clear ex ey ht hlt
                go_wp2_with fail
                refine region_mix 10 [false, false, false, false, false, false, false, false, false, false] (fun w' => w' = World.drew _) (by kernel_rfl) (by kernel_rfl) (by intro _ _ d _ _ h; cases d <;> exact h) rfl ?_
                simp only [List.take_succ_cons, List.take_zero, List.drop_succ_cons, List.drop_zero]
                with_reducible refine mix_v ?_ ?_ ?_
                · rfl
                · rfl
                apply Exists.intro
                refine ⟨fun w' hC => ?_, ?_⟩
                · subst hC
                  go_simp
                  rfl
                try simp only [Act.put, List.setIfInBounds_toArray, List.set_cons_zero, List.set_cons_succ, List.tail_cons]
                with_reducible refine mix_v ?_ ?_ ?_
                · rfl
                · rfl
                apply Exists.intro
                refine ⟨fun w' hC => ?_, ?_⟩
                · subst hC
                  go_simp
                  rfl
                try simp only [Act.put, List.setIfInBounds_toArray, List.set_cons_zero, List.set_cons_succ, List.tail_cons]
                with_reducible refine mix_v ?_ ?_ ?_
                · rfl
                · rfl
                apply Exists.intro
                refine ⟨fun w' hC => ?_, ?_⟩
                · subst hC
                  go_simp
                  rfl
                try simp only [Act.put, List.setIfInBounds_toArray, List.set_cons_zero, List.set_cons_succ, List.tail_cons]
                with_reducible refine mix_v ?_ ?_ ?_
                · rfl
                · rfl
                apply Exists.intro
                refine ⟨fun w' hC => ?_, ?_⟩
                · subst hC
                  go_simp
                  rfl
                try simp only [Act.put, List.setIfInBounds_toArray, List.set_cons_zero, List.set_cons_succ, List.tail_cons]
                with_reducible refine mix_v ?_ ?_ ?_
                · rfl
                · rfl
                apply Exists.intro
                refine ⟨fun w' hC => ?_, ?_⟩
                · subst hC
                  go_simp
                  rfl
                try simp only [Act.put, List.setIfInBounds_toArray, List.set_cons_zero, List.set_cons_succ, List.tail_cons]
                with_reducible refine mix_v ?_ ?_ ?_
                · rfl
                · rfl
                apply Exists.intro
                refine ⟨fun w' hC => ?_, ?_⟩
                · subst hC
                  go_simp
                  rfl
                try simp only [Act.put, List.setIfInBounds_toArray, List.set_cons_zero, List.set_cons_succ, List.tail_cons]
                with_reducible refine mix_v ?_ ?_ ?_
                · rfl
                · rfl
                apply Exists.intro
                refine ⟨fun w' hC => ?_, ?_⟩
                · subst hC
                  go_simp
                  rfl
                try simp only [Act.put, List.setIfInBounds_toArray, List.set_cons_zero, List.set_cons_succ, List.tail_cons]
                with_reducible refine mix_v ?_ ?_ ?_
                · rfl
                · rfl
                apply Exists.intro
                refine ⟨fun w' hC => ?_, ?_⟩
                · subst hC
                  go_simp
                  rfl
                try simp only [Act.put, List.setIfInBounds_toArray, List.set_cons_zero, List.set_cons_succ, List.tail_cons]
                with_reducible refine mix_v ?_ ?_ ?_
                · rfl
                · rfl
                apply Exists.intro
                refine ⟨fun w' hC => ?_, ?_⟩
                · subst hC
                  go_simp
                  rfl
                try simp only [Act.put, List.setIfInBounds_toArray, List.set_cons_zero, List.set_cons_succ, List.tail_cons]
                with_reducible refine mix_v ?_ ?_ ?_
                · rfl
                · rfl
                apply Exists.intro
                refine ⟨fun w' hC => ?_, ?_⟩
                · subst hC
                  go_simp
                  rfl
                try simp only [Act.put, List.setIfInBounds_toArray, List.set_cons_zero, List.set_cons_succ, List.tail_cons]
                refine mix_nil ?_
                rintro _ rfl
                go_wp2_with fail
                go_roundw
                case rel =>
                  rw [add2_val]
                  have h := (H.out.1.set Hlt.out (ad x y)).drew
                  refine ⟨t + 1, Hlt.out, by go_num, ⟨h.blk, fun j hj => (h.cell j hj).trans ?_, h.fz⟩, (H.out.2.setCell Hgv.out.2 _).drew⟩
                  unfold upd
                  dsimp only
                  by_cases e : j = t
                  · subst e
                    rw [if_pos rfl, if_pos (Nat.lt_succ_self _), Ex.out, Ey.out]
                  · rw [if_neg e]
                    by_cases h2 : j < t
                    · rw [if_pos h2, if_pos (by omega)]
                    · rw [if_neg h2, if_neg (by omega)]
                case measure => have := Hlt.out; simp [intOf]; omega
              · obtain rfl : t = 8 := by omega
                clear hlt ht
                go_wp2_with fail
                go_ret
                refine ⟨⟨gv, cv, rfl, Hgv.out.1, Hgv.out.2, fun j hj => (H.out.1.cell j hj).trans ?_⟩, H.out.2⟩
                rw [if_pos hj]
                show _ = some (Value.int IntKind.u32 ((((addS (rnd K (wv f) s 64) s).at j : Nat)) : Int))
                rw [addS_at _ _ j hj, HS2.out]
end Go.Proofs.YtjhfepkpfakemaaDoor.Sh

namespace Go.Proofs.YtjhfepkpfakemaaDoor.Sh
set_option linter.all false
open Go Go.RowKit

/-- append to bytes of the call's own: the source may be nil. -/
theorem append_bytes {w : World} {ops : Array Oper} {rest : List Oper} {o : Oper} {a : Act} {Q : Exit → Act → World → Prop} (hgd : o.guard = none) (s x : Operand)
    (ho : o.op = .call { callee := .builtin .append, args := #[s, x], argTypes := #[29, 29] }) (base : Nat)
    (v : Value) (n : Nat) (xs : List Value) (hs : a.eval s = v) (hown : w.ownsRow base 5 1 v n xs)
    (ad : Option Addr) (m c : Nat) (g : Nat → Nat) (hx : a.eval x = .slice ad m c) (hS : SliceAt w ad m c g) (hlen : n + m ≤ 1000000) (hbase : base ≤ w.heap.size)
    (h : ∀ v' w', w'.ownsRow base 5 1 v' (n + m) (xs ++ fl g m) → w.grownBy w' v.ownBlock → wpList Tryd.prog ops Q rest (a.put o.dst v') w') : wpList Tryd.prog ops Q (o :: rest) a w := by
  obtain ⟨i0, hi, hz0, hz1, hz2⟩ := info_parts infoByte
  rcases hS.at_ with ⟨rfl, rfl, rfl⟩ | ⟨ad, rfl, hB⟩
  · refine wpList_append_own_none hgd s x 29 ho base 5 i0 1 Tryd.underlying29 hi v n xs hs hown hx (h v w ?_ ?_)
    · rw [show fl g 0 = [] from rfl, List.append_nil]; exact hown
    · exact ⟨rfl, rfl, rfl, Nat.le_refl _, fun _ _ _ => rfl⟩
  · refine wpList_append_own w hgd s x 29 ho base 5 i0 (.int .u8 0) 1 1 Tryd.underlying29 hi hz0 hz1 hz2 rfl (by decide) v n xs hs hown ad m c (fl g m) hx (by rw [fl_len, Nat.mul_one]) (fun j u hj => ?_) (fl_one g m) (by unfold maxLen; omega) (by omega) hbase (fun v' w' h1 h2 _ => h v' w' h1 h2)
    have hjm : j < m := by have := (List.getElem?_eq_some_iff.1 hj).1; rwa [fl_len] at this
    obtain ⟨b, off, rfl, hB'⟩ := hB (by omega)
    exact hB'.src j u hj
theorem fl_succ (f : Nat → Nat) (n : Nat) : fl f (n + 1) = fl f n ++ [.int .u8 ((f n : Nat) : Int)] := by unfold fl; rw [List.range_succ, List.map_append]; rfl
/-- A block of one byte as a source. -/
theorem one_byte {w : World} {v : Nat} (hv : v < 256) {T : TypeId} : SliceAt (w.alloc (.cells #[.int .u8 ((v : Nat) : Int)] T)) (some ⟨w.heap.size, 0, none⟩) 1 1 (fun _ => v) :=
  ⟨fun _ => hv, Nat.le_refl _, .inr ⟨_, rfl, fun _ => ⟨_, _, rfl, fun _ => hv, by simp only [World.size_alloc]; omega, fun j hj => by
    obtain rfl : j = 0 := by omega
    exact (cell_of_row _ w.heap.size 0 _ _ _ (heap_alloc_new w _)).trans rfl⟩⟩⟩
/-- The length's bytes, the last t of them written. -/
def lf (n t j : Nat) : Nat := if j < 8 ∧ 8 - t ≤ j then 8 * n / 256 ^ (7 - j) % 256 else 0
theorem lf_lt (n t j : Nat) : lf n t j < 256 := by
  unfold lf
  split
  · exact Nat.mod_lt _ (by decide)
  · decide
theorem lf_step {w : World} {b n t d x : Nat} {T : TypeId} (h : RowB w b 8 (upd (lf n t) d (x % 256)) T) (hd : 7 - t = d) (ht : t < 8) (hx : x = 8 * n / 256 ^ t) : RowB w b 8 (lf n (t + 1)) T := by
  unfold RowB at *
  rw [← fl_congr (f := upd (lf n t) d (x % 256)) (g := lf n (t + 1)) (n := 8) (fun j hj => ?_)]
  · exact h
  · unfold upd lf
    by_cases e : j = d
    · rw [if_pos e, if_pos (by omega), hx, show 7 - j = t by omega]
    · rw [if_neg e]
      by_cases h2 : 8 - t ≤ j
      · rw [if_pos ⟨hj, h2⟩, if_pos (by omega)]
      · rw [if_neg (by omega), if_neg (by omega)]
def slen : Value → Nat | .slice _ n _ => n | _ => 0
theorem pd_lt {g : Nat → Nat} (hg : ∀ j, g j < 256) (n j : Nat) : pd g n j < 256 := by
  unfold pd
  split
  · exact hg _
  · split
    · decide
    · split
      · decide
      · exact Nat.mod_lt _ (by decide)

set_option maxRecDepth 100000 in
set_option maxHeartbeats 8000000 in
theorem refSum_walk (ad : Addr) (n c : Nat) (g : Nat → Nat) (hn : n ≤ 100000) (w : World) (HS : Hid (SliceAt w (some ad) n c g)) :
    Calls Tryd.prog 49 #[.slice (some ad) n c] w fun e w' => e = .returned (.agg (fl (sb (sumS K s0 g n)) 32).toArray) ∧ Below w.heap.size w w' := by
  obtain ⟨P, eP⟩ : ∃ P, P = pd g n := ⟨_, rfl⟩
  obtain ⟨z, ez⟩ : ∃ z, z = zs n := ⟨_, rfl⟩
  obtain ⟨M, eM⟩ : ∃ M, M = blocks n := ⟨_, rfl⟩
  have hM : 64 * M = n + z + 9 := by rw [eM, ez]; exact blocks_eq n
  have hz : (n + 1 + z) % 64 = 56 := by rw [ez]; unfold zs; omega
  have hz2 : z < 64 := by rw [ez]; unfold zs; omega
  have hP : ∀ j, P j < 256 := by rw [eP]; exact pd_lt HS.out.lt n
  have hp1 : fl g n = fl P n := fl_congr fun j hj => by rw [eP]; unfold pd; rw [if_pos hj]
  have hp2 : P n = 128 := by rw [eP]; unfold pd; rw [if_neg (by omega), if_pos rfl]
  have hp3 : ∀ k, n < k → k ≤ n + z → P k = 0 := fun k h1 h2 => by rw [eP]; unfold pd; rw [if_neg (by omega), if_neg (by omega), if_pos (by omega)]
  have hp4 : ∀ j, j < 8 → P (n + 1 + z + j) = 8 * n / 256 ^ (7 - j) % 256 := fun j hj => by
    rw [eP]; unfold pd; rw [if_neg (by omega), if_neg (by omega), if_neg (by omega), show n + 1 + z + j - (n + zs n + 1) = j by omega]
  have hs : sumS K s0 g n = hs K s0 P M := by rw [eP, eM]; rfl
  have HM := Lib.hid hM
  have Hz := Lib.hid (And.intro hz hz2)
  have HP := Lib.hid hP
  have Hp1 := Lib.hid hp1
  have Hp2 := Lib.hid hp2
  have Hp3 := Lib.hid hp3
  have Hp4 := Lib.hid hp4
  have HSum := Lib.hid hs
  have Hn := Lib.hid hn
  clear eP ez eM hM hz hz2 hP hp1 hp2 hp3 hp4 hs hn
  go_enter Tryd.func49, Tryd.ntmps49
  have hst : ∀ (o : Obj) (W : World), W = (w.alloc o).alloc (.cells #[] 5) → W.ownsRow (w.heap.size + 1) 5 1 (.slice (some ⟨w.heap.size + 1, 0, none⟩) 0 0) 0 [] ∧ SliceAt W (some ad) n c g ∧ w.heap.size + 1 ≤ W.heap.size ∧ Below (w.heap.size + 1) (w.alloc o) W := fun o W e => by
    subst e
    have h1 := World.ownsRow_made (base := w.heap.size + 1) (w.alloc o) #[] 0 (e := 5) (size := 1) (by simp only [World.size_alloc]; omega) (by unfold maxLen; omega) rfl
    have hb : Below w.heap.size w ((w.alloc o).alloc (.cells #[] 5)) := ((Below.refl _ _).alloc (Nat.le_refl _) _).alloc (by simp) _
    exact ⟨by simpa only [World.size_alloc] using h1, HS.out.below hb, by simp only [World.size_alloc]; omega, (Below.refl _ _).alloc (by simp) _⟩
  have Hst := Lib.hid hst
  clear hst
  go_wp2_with (first
    | (at_builtin; refine append_bytes rfl (.tmp 14) (.tmp 15) rfl (w.heap.size + 1) (.slice (some ⟨w.heap.size + 1, 0, none⟩) 0 0) 0 [] rfl (Hst.out _ _ rfl).1 (some ad) n c g rfl (Hst.out _ _ rfl).2.1 (by have := Hn.out; omega) (Hst.out _ _ rfl).2.2.1 ?_; intro v1 w1 own1 grow1; have HB1 := Lib.hid ((Hst.out _ _ rfl).2.2.2.grown grow1 (Hst.out _ _ rfl).2.2.1 (fun k hk => by cases hk; exact Nat.le_refl _)); have Own1 := Lib.hid own1; clear own1 grow1)
    | (at_builtin; refine append_bytes rfl (.tmp 16) (.tmp 17) rfl (w.heap.size + 1) v1 _ _ rfl (Own1.out.alloc _) (some ⟨w1.heap.size, 0, none⟩) 1 1 (fun _ => 128) rfl (one_byte (by decide)) (by have := Hn.out; omega) (by have := HB1.out.size; simp only [World.size_alloc] at this ⊢; omega) ?_; intro v2 w2 own2 grow2; have HB2 := Lib.hid ((HB1.out.alloc (by have := HB1.out.size; simp only [World.size_alloc] at this ⊢; omega) _).grown grow2 (by have := HB1.out.size; simp only [World.size_alloc] at this ⊢; omega) (fun k hk => (Own1.out.lt k hk).1)); have Own2 := Lib.hid own2; clear own2 grow2 HB1 Own1))
  have Hout : Hid (RowB w2 w.heap.size 32 (fun _ => 0) 71) := (HB2.out.block w.heap.size (Nat.lt_succ_self _)).trans (heap_alloc_new w _)
  have HBw : Hid (Below w.heap.size w w2) := ((Below.refl _ _).alloc (Nat.le_refl _) _).trans (Below.mono HB2.out (Nat.le_succ _))
  have own2 := Own2.out
  rw [List.nil_append, Hp1.out, show fl (fun _ => 128) 1 = [Value.int .u8 ((P n : Nat) : Int)] by rw [Hp2.out]; rfl, ← fl_succ, Nat.zero_add] at own2
  obtain ⟨gp, cp, rfl, hgp, hgp2, hcp⟩ := row_form own2 (by omega)
  have Own := Lib.hid own2
  have hz0 := Hz.out.2
  have hn0 := Hn.out
  have hs2 : w.heap.size + 1 ≤ w2.heap.size := by have := HB2.out.size; simpa only [World.size_alloc] using this
  have Hs2 := Lib.hid hs2
  clear Hst HB2 Own2 own2 hgp hgp2 hcp hs2
  go_loopw [3] (fun v wr => ∃ (gp cp k : Nat), n + 1 ≤ k ∧ k ≤ n + 1 + z ∧ v = .slice (some ⟨gp, 0, none⟩) k cp ∧ Hid (wr.ownsRow (w.heap.size + 1) 5 1 (.slice (some ⟨gp, 0, none⟩) k cp) k (fl P k) ∧ Below (w.heap.size + 1) w2 wr)) (fun v _ => n + 1 + z - slen v)
  case atStart => exact ⟨gp, cp, n + 1, Nat.le_refl _, Nat.le_add_right _ _, rfl, Own.out, Below.refl _ _⟩
  case round =>
    clear Own
    obtain ⟨gq, cq, k, hk1, hk2, rfl, G⟩ := hrel
    by_cases hlt : k < n + 1 + z
    · have h56 : ((k : Int) % 64 == 56) = false := by have := Hz.out.1; simp; omega
      have h56' : (k : Int) % 64 ≠ 56 := by have := Hz.out.1; omega
      have hkP := Hp3.out k (by omega) (by omega)
      have HkP := Lib.hid hkP
      have Hlt := Lib.hid (And.intro hk1 hlt)
      clear hkP hlt hk1 hk2
      go_wp2_with (at_builtin; refine append_bytes rfl (.tmp 23) (.tmp 24) rfl (w.heap.size + 1) (.slice (some ⟨gq, 0, none⟩) k cq) k (fl P k) rfl (G.out.1.alloc _) (some ⟨wr.heap.size, 0, none⟩) 1 1 (fun _ => 0) rfl (one_byte (by decide)) (by have := Hlt.out; omega) (by have := G.out.2.size; have := Hs2.out; simp only [World.size_alloc]; omega) ?_; intro v3 w3 own3 grow3)
      rw [show fl (fun _ => 0) 1 = [Value.int .u8 ((P k : Nat) : Int)] by rw [HkP.out]; rfl, ← fl_succ] at own3
      obtain ⟨gr, cr, rfl, hgr, hgr2, hcr⟩ := row_form own3 (by omega)
      refine ⟨⟨gr, cr, k + 1, Nat.le_succ_of_le Hlt.out.1, Hlt.out.2, rfl, own3, ?_⟩, ?_⟩
      · exact (G.out.2.alloc (Nat.le_trans Hs2.out G.out.2.size) _).grown grow3 (by have := G.out.2.size; have := Hs2.out; simp only [World.size_alloc]; omega) (fun k hk => (G.out.1.lt k hk).1)
      · have := Hlt.out
        simp only [slen]
        omega
    · have hk : k = n + 1 + z := by omega
      have h56 : ((k : Int) % 64 != 56) = false := by have := Hz.out.1; rw [← hk] at this; simp; omega
      have Hk := Lib.hid hk
      have hk3 : (k : Int) ≤ 100065 := by omega
      have hgq := (G.out.1.lt gq rfl).2
      have HrowL : Hid (RowB (wr.alloc (.cells #[.int .u8 0, .int .u8 0, .int .u8 0, .int .u8 0, .int .u8 0, .int .u8 0, .int .u8 0, .int .u8 0] 89)) wr.heap.size 8 (lf n 0) 89) := heap_alloc_new wr _
      obtain ⟨wo, ewo⟩ : ∃ wo : World, wo = wr := ⟨_, rfl⟩
      subst ewo
      clear hk hlt hk1 hk2
      go_wp2_with fail
      go_loopw [4, 6] (fun nn i wq => ∃ t : Nat, t ≤ 8 ∧ i = .int .i64 ((7 : Int) - (t : Int)) ∧ nn = .int .u64 ((8 * n / 256 ^ t : Nat) : Int) ∧ Hid (RowB wq wo.heap.size 8 (lf n t) 89 ∧ Below wo.heap.size wo wq)) (fun _ i _ => (intOf i + 1).toNat)
      case atStart => exact ⟨0, by omega, rfl, by rw [Nat.pow_zero, Nat.div_one]; go_num, HrowL.out, (Below.refl _ _).alloc (Nat.le_refl _) _⟩
      case round =>
        clear HrowL
        obtain ⟨t, ht, rfl, rfl, G2⟩ := hrel
        by_cases hlt : t < 8
        · obtain ⟨x, ex⟩ : ∃ x, x = 8 * n / 256 ^ t := ⟨_, rfl⟩
          rw [← ex]
          have hx : x ≤ 800000 := by rw [ex]; exact Nat.le_trans (Nat.div_le_self _ _) (by have := Hn.out; omega)
          obtain ⟨d, ed⟩ : ∃ d, d = 7 - t := ⟨_, rfl⟩
          have hd1 : (7 : Int) - (t : Int) = (d : Int) := by omega
          have hd8 : (d : Int) < 8 := by omega
          have cd := G2.out.1.cell (j := d) (by omega)
          have fd := G2.out.1.fz d
          have Ex := Lib.hid ex
          have Ed := Lib.hid ed
          have Hlt := Lib.hid hlt
          clear ex ed hlt ht
          go_wp2_with fail
          go_roundw
          case rel =>
            refine ⟨t + 1, Hlt.out, ?_, ?_, lf_step (G2.out.1.set (by have := Ed.out; omega) (x % 256)) Ed.out.symm Hlt.out Ex.out, G2.out.2.setCell (Nat.le_refl _) _⟩
            · rw [show (d : Int) - 1 = (7 : Int) - ((t + 1 : Nat) : Int) by omega]
            · rw [Nat.pow_succ, ← Nat.div_div_eq_div_mul, ← Ex.out]
              rfl
          case measure => have := Hlt.out; simp only [intOf]; omega
        · obtain rfl : t = 8 := by omega
          have hi : (7 : Int) - ((8 : Nat) : Int) = -1 := by omega
          rw [hi]
          have HB8 : Hid (BytesAt wr wo.heap.size 0 8 (lf n 8)) := G2.out.1.bytes (lf_lt n 8)
          have Hown := Lib.hid (row_below G.out.1 G2.out.2)
          have HBo := Lib.hid (G.out.2.trans (Below.mono G2.out.2 (Nat.le_trans Hs2.out G.out.2.size)))
          have hsz := HBo.out.size
          have hs2 := Hs2.out
          clear hlt ht hi
          go_wp2_with (at_builtin; refine append_bytes rfl (.tmp 41) (.tmp 42) rfl (w.heap.size + 1) (.slice (some ⟨gq, 0, none⟩) k cq) k (fl P k) rfl Hown.out (some ⟨wo.heap.size, 0, none⟩) 8 8 (lf n 8) rfl ⟨lf_lt n 8, Nat.le_refl _, .inr ⟨_, rfl, fun _ => ⟨_, _, rfl, HB8.out⟩⟩⟩ (by omega) (by omega) ?_; intro v4 w4 own4 grow4)
          obtain ⟨L, eL⟩ : ∃ L, L = k + 8 := ⟨_, rfl⟩
          have hLM : L = 64 * M := by have := HM.out; have := Hk.out; omega
          have hpl : fl (lf n 8) 8 = fl (fun j => P (k + j)) 8 := fl_congr fun j hj => by
            rw [Hk.out, Hp4.out j hj]; unfold lf; rw [if_pos ⟨hj, by omega⟩]
          rw [hpl, fl_add, ← eL] at own4
          obtain ⟨gm, cm, rfl, hgm, hgm2, hcm⟩ := row_form own4 (by omega)
          have hbm := row_bytes own4 HP.out
          have hb4 : Below (w.heap.size + 1) w2 w4 := HBo.out.grown grow4 (by omega) (fun k hk => (Hown.out.lt k hk).1)
          have Hbm := Lib.hid hbm
          have Hb4 := Lib.hid hb4
          have HLM := Lib.hid hLM
          have hLb : (L : Int) ≤ 100073 := by omega
          have hcmL : (L : Int) ≤ (cm : Int) := by omega
          have hs4 : w.heap.size + 1 ≤ w4.heap.size := by have := hb4.size; omega
          clear hpl own4 grow4 hbm hb4 hLM eL HB8 Hown HBo hgm hcm G2 hsz hk3 h56
          refine Calls.mono (refK_c _) ?_
          rintro _ w5 ⟨⟨r5, rfl, hr5⟩, h5⟩
          obtain ⟨c5, f5, s5⟩ := bfacts h5
          try simp only [World.size_alloc, World.size_setCell, size_drew, size_drewN] at s5
          obtain ⟨gk, ck, rfl, hgk, hgk2, hck⟩ := row_form hr5 (by omega)
          have HK5 : Hid (∀ j, j < 64 → w5.cell? ⟨gk, j, none⟩ = some (.int .u32 ((K j : Nat) : Int))) := fun j hj => (hr5.cellAt j (by omega)).trans (ws_get _ _ j hj)
          clear hr5
          go_wp2_with fail
          refine Calls.mono (refS_c _) ?_
          rintro _ w6 ⟨⟨r6, rfl, hr6⟩, h6⟩
          obtain ⟨c6, f6, s6⟩ := bfacts h6
          try simp only [World.size_alloc, World.size_setCell, size_drew, size_drewN] at s6
          obtain ⟨gs, cs, rfl, hgs, hgs2, hcs⟩ := row_form hr6 (by omega)
          have HS6 : Hid (∀ j, j < 8 → w6.cell? ⟨gs, j, none⟩ = some (.int .u32 ((s0.at j : Nat) : Int))) := fun j hj => (hr6.cellAt j (by omega)).trans (ws_get _ _ j hj)
          have HK6 : Hid (∀ j, j < 64 → w6.cell? ⟨gk, j, none⟩ = some (.int .u32 ((K j : Nat) : Int))) := fun j hj => (h6.cell (p := ⟨gk, j, none⟩) hgk2).trans (HK5.out j hj)
          have Hbm6 : Hid (BytesAt w6 gm 0 L P) := (Hbm.out.below h5).below h6
          have Hb6 : Hid (Below (w.heap.size + 1) w2 w6) := (Hb4.out.trans (Below.mono h5 hs4)).trans (Below.mono h6 (by omega))
          have hs6 : w.heap.size + 1 ≤ w6.heap.size := by omega
          clear hr6 hgs hgk HK5 c5 c6 f5 f6 h5 h6 Hbm Hb4 hs4
          go_wp2_with fail
          go_loopw [8, 9] (fun s i wq => ∃ (gs cs m o : Nat), m ≤ M ∧ o = 64 * m ∧ i = .int .i64 (o : Int) ∧ s = .slice (some ⟨gs, 0, none⟩) 8 cs ∧ Hid (8 ≤ cs ∧ gs < wq.heap.size ∧ (∀ j, j < 8 → wq.cell? ⟨gs, j, none⟩ = some (.int .u32 (((hs K s0 P m).at j : Nat) : Int))) ∧ Below w6.heap.size w6 wq)) (fun _ i _ => L - (intOf i).toNat)
          case atStart => exact ⟨gs, cs, 0, 0, Nat.zero_le _, rfl, rfl, rfl, by omega, hgs2, HS6.out, Below.refl _ _⟩
          case round =>
            clear HS6
            obtain ⟨gt, ct, m, o, hm, ho, rfl, rfl, G3⟩ := hrel
            by_cases hlt : m < M
            · have holt : (o : Int) + 64 ≤ (L : Int) := by have := HLM.out; omega
              have Hm := Lib.hid (And.intro hlt ho)
              clear hlt hm ho
              go_wp2_with fail
              refine Calls.mono (block_walk (hs K s0 P m) (fun j => P (o + j)) gt ct gk ck gm o (cm - o) G3.out.1 hck (by omega) _ (Lib.hid (hs_ok s0_ok m)) (Lib.hid G3.out.2.2.1) (Lib.hid fun j hj => (G3.out.2.2.2.cell (p := ⟨gk, j, none⟩) (lt_of_cell (HK6.out 0 (by decide)))).trans (HK6.out j hj)) (Lib.hid (by have := (Hbm6.out.below G3.out.2.2.2).part o 64 (by omega); rwa [Nat.zero_add] at this))) ?_
              rintro _ w7 ⟨⟨gu, cu, rfl, hcu, hgu, hcells⟩, h7⟩
              obtain ⟨c7, f7, s7⟩ := bfacts h7
              try simp only [World.size_alloc, World.size_setCell, size_drew, size_drewN] at s7
              have hgu2 := lt_of_cell (hcells 0 (by decide))
              have Hcells := Lib.hid hcells
              have HB7 := Lib.hid (G3.out.2.2.2.trans (Below.mono h7 G3.out.2.2.2.size))
              clear hcells c7 f7 h7
              go_wp2_with fail
              go_roundw
              case rel =>
                refine ⟨gu, cu, m + 1, o + 64, Hm.out.1, by have := Hm.out.2; omega, by go_num, rfl, hcu, hgu2, fun j hj => ?_, HB7.out⟩
                rw [Hcells.out j hj, Hm.out.2]
                rfl
              case measure => simp [intOf]; omega
            · obtain rfl : m = M := by omega
              have hoL : (o : Int) = (L : Int) := by have := HLM.out; omega
              obtain ⟨S, eS⟩ : ∃ S, S = hs K s0 P m := ⟨_, rfl⟩
              have hcS := G3.out.2.2.1
              rw [← eS] at hcS
              have HcS := Lib.hid hcS
              have HSok : Hid S.Ok := by rw [eS]; exact hs_ok s0_ok m
              have Hgt := Lib.hid G3.out.2.1
              have HES : Hid (sumS K s0 g n = S) := by rw [eS]; exact HSum.out
              have HBe := Lib.hid (Hb6.out.trans (Below.mono G3.out.2.2.2 hs6))
              have Hout' : Hid (RowB wr w.heap.size 32 (fun _ => 0) 71) := Hout.out.below HBe.out (Nat.lt_succ_self _)
              have HBw' := Lib.hid (HBw.out.trans (Below.mono HBe.out (Nat.le_succ _)))
              have hwS : w.heap.size < wr.heap.size := Hout'.out.blk
              obtain ⟨wv, ewv⟩ : ∃ wv : World, wv = wr := ⟨_, rfl⟩
              subst ewv
              have HrowO : Hid (RowB (wv.alloc (.cells (fl (fun _ => 0) 32).toArray 71)) wv.heap.size 32 (fun _ => 0) 71) := heap_alloc_new wv _
              have hoL' : ¬ (o : Int) < (L : Int) := by omega
              have HoL := Lib.hid hoL
              clear hlt hm hcS eS ho hoL
              go_wp2_with fail
              go_loopw [11] (fun i wq => ∃ (k : Nat) (g' : Nat → Nat), k ≤ 32 ∧ i = .int .i64 (k : Int) ∧ Hid (RowB wq wv.heap.size 32 g' 71 ∧ (∀ j, g' j = if j < k then sb S j else 0) ∧ Below wv.heap.size wv wq)) (fun i _ => 32 - (intOf i).toNat)
              case atStart => exact ⟨0, fun _ => 0, by omega, rfl, HrowO.out, fun j => by rw [if_neg (Nat.not_lt_zero _)], (Below.refl _ _).alloc (Nat.le_refl _) _⟩
              case round =>
                clear HrowO
                obtain ⟨k, g', hk, rfl, G4⟩ := hrel
                by_cases hlt : k < 32
                · obtain ⟨d, ed⟩ : ∃ d, d = k / 4 := ⟨_, rfl⟩
                  obtain ⟨q, eq⟩ : ∃ q, q = k % 4 := ⟨_, rfl⟩
                  obtain ⟨X, eX⟩ : ∃ X, X = S.at d := ⟨_, rfl⟩
                  have hdk : (k : Int) / 4 = (d : Int) := by omega
                  have hwd : IntKind.i64.wrap ((k : Int) / 4) = (d : Int) := by rw [ed, IntKind.wrap_i64]; omega
                  have hd8 : (d : Int) < 8 := by omega
                  have hqk : (k : Int) % 4 = (q : Int) := by omega
                  have hq4 : (q : Int) ≤ 3 := by omega
                  have cS : wr.cell? ⟨gt, d, none⟩ = some (.int .u32 ((X : Nat) : Int)) := (G4.out.2.2.cell (p := ⟨gt, d, none⟩) Hgt.out).trans (by rw [eX]; exact HcS.out d (by omega))
                  have Hdq := Lib.hid (And.intro ed (And.intro eq eX))
                  have hXB : X < 4294967296 := by rw [eX]; exact St.at_lt HSok.out d
                  have ck' := G4.out.1.cell (j := k) hlt
                  have fk := G4.out.1.fz k
                  clear ed eq eX
                  go_wp2_with fail
                  obtain ⟨wi, ewi⟩ : ∃ wi : World, wi = wr := ⟨_, rfl⟩
                  subst ewi
                  have Hqk := Lib.hid (And.intro hqk hlt)
                  clear hlt hk hdk hwd hd8
                  go_loop [12, 13] (fun x j => ∃ t : Nat, t + q ≤ 3 ∧ j = .int .i64 ((3 : Int) - (t : Int)) ∧ x = .int .u32 ((X / 256 ^ t : Nat) : Int)) (fun _ j => (intOf j).toNat)
                  case atStart => exact ⟨0, by omega, rfl, by rw [Nat.pow_zero, Nat.div_one]⟩
                  case round =>
                    obtain ⟨t, ht, rfl, rfl⟩ := hrel
                    have hqk := Hqk.out.1
                    by_cases hlt : t + q < 3
                    · have ht3 : (q : Int) < 3 - (t : Int) := by omega
                      obtain ⟨x, ex⟩ : ∃ x, x = X / 256 ^ t := ⟨_, rfl⟩
                      rw [← ex]
                      have hxB : x < 4294967296 := by rw [ex]; exact Nat.lt_of_le_of_lt (Nat.div_le_self _ _) hXB
                      have Ex := Lib.hid ex
                      clear ex
                      go_wp2_with fail
                      go_round
                      case rel =>
                        refine ⟨t + 1, by omega, by rw [show (3 : Int) - (t : Int) - 1 = (3 : Int) - ((t + 1 : Nat) : Int) by omega], ?_⟩
                        rw [Nat.pow_succ, ← Nat.div_div_eq_div_mul, ← Ex.out]
                        rfl
                      case measure => simp [intOf]; omega
                    · have ht3 : (3 : Int) - (t : Int) = (q : Int) := by omega
                      obtain ⟨x, ex⟩ : ∃ x, x = X / 256 ^ t := ⟨_, rfl⟩
                      rw [← ex]
                      have hxB : x < 4294967296 := by rw [ex]; exact Nat.lt_of_le_of_lt (Nat.div_le_self _ _) hXB
                      have Ex := Lib.hid ex
                      have Ht := Lib.hid (show t = 3 - q by omega)
                      clear ex hlt ht
                      go_wp2_with fail
                      go_roundw
                      case rel =>
                        have hv : x % 256 = sb S k := by
                          rw [Ex.out, Ht.out, Hdq.out.2.2, Hdq.out.1]
                          unfold sb
                          rw [show (256 : Nat) ^ (3 - q) = 2 ^ (24 - 8 * (k % 4)) by rw [show (256 : Nat) = 2 ^ 8 by decide, ← Nat.pow_mul]; congr 1; have := Hdq.out.2.1; omega]
                        refine ⟨k + 1, upd g' k (x % 256), Hqk.out.2, by go_num, G4.out.1.set Hqk.out.2 (x % 256), fun j => ?_, G4.out.2.2.setCell (Nat.le_refl _) _⟩
                        unfold upd
                        by_cases e : j = k
                        · subst e
                          rw [if_pos rfl, if_pos (Nat.lt_succ_self _), hv]
                        · rw [if_neg e, G4.out.2.1 j]
                          by_cases h2 : j < k
                          · rw [if_pos h2, if_pos (by omega)]
                          · rw [if_neg h2, if_neg (by omega)]
                      case measure => have := Hqk.out.2; simp [intOf]; omega
                · obtain rfl : k = 32 := by omega
                  have HG := Lib.hid (show fl (sb S) 32 = fl g' 32 from fl_congr fun j hj => by rw [G4.out.2.1 j, if_pos hj])
                  have HoutE : Hid (RowB wr w.heap.size 32 (fun _ => 0) 71) := Hout'.out.below G4.out.2.2 hwS
                  have HBE := Lib.hid (HBw'.out.trans (Below.mono G4.out.2.2 (Nat.le_of_lt hwS)))
                  clear hlt hk
                  go_wp2_with (first
                    | (refine wpList_load_of rfl 71 (.tmp 10) rfl (.pointer (some ⟨wv.heap.size, 0, none⟩)) (.agg (fl g' 32).toArray) rfl (load_bytes (g := g') (n := 32) (fun j hj => G4.out.1.cell hj) Tryd.underlying71 (by kernel_rfl)) ?_; simp only [Act.put, List.setIfInBounds_toArray, List.set_cons_zero, List.set_cons_succ, List.tail_cons])
                    | ((with_reducible show wpList _ _ _ (⟨none, _, _, _, _, _⟩ :: []) _ _); refine wpList_store_mid rfl 71 (.tmp 2) (.tmp 82) rfl w.heap.size 0 (fl g' 32).toArray rfl rfl HoutE.out.there (info_fl (by kernel_rfl)) (fl_oneA g' 32) ?_; simp only [Act.put, List.setIfInBounds_toArray, List.set_cons_zero, List.set_cons_succ, List.tail_cons]))
                  exact bodyPost_ret (v := .agg (fl (sb (sumS K s0 g n)) 32).toArray) (by rw [HES.out, HG.out]; exact results_bytes (g := g') (b := w.heap.size) rfl rfl HoutE.out.stored Tryd.underlying71 (by kernel_rfl)) rfl ⟨rfl, below_setCells (Nat.le_refl _) _ _ _ _ HBE.out⟩
set_option maxRecDepth 100000 in
set_option maxHeartbeats 8000000 in
theorem refSum_nil  (n c : Nat) (g : Nat → Nat) (hn : n ≤ 100000) (w : World) (HS : Hid (SliceAt w none n c g)) :
    Calls Tryd.prog 49 #[.slice none n c] w fun e w' => e = .returned (.agg (fl (sb (sumS K s0 g n)) 32).toArray) ∧ Below w.heap.size w w' := by
  obtain ⟨P, eP⟩ : ∃ P, P = pd g n := ⟨_, rfl⟩
  obtain ⟨z, ez⟩ : ∃ z, z = zs n := ⟨_, rfl⟩
  obtain ⟨M, eM⟩ : ∃ M, M = blocks n := ⟨_, rfl⟩
  have hM : 64 * M = n + z + 9 := by rw [eM, ez]; exact blocks_eq n
  have hz : (n + 1 + z) % 64 = 56 := by rw [ez]; unfold zs; omega
  have hz2 : z < 64 := by rw [ez]; unfold zs; omega
  have hP : ∀ j, P j < 256 := by rw [eP]; exact pd_lt HS.out.lt n
  have hp1 : fl g n = fl P n := fl_congr fun j hj => by rw [eP]; unfold pd; rw [if_pos hj]
  have hp2 : P n = 128 := by rw [eP]; unfold pd; rw [if_neg (by omega), if_pos rfl]
  have hp3 : ∀ k, n < k → k ≤ n + z → P k = 0 := fun k h1 h2 => by rw [eP]; unfold pd; rw [if_neg (by omega), if_neg (by omega), if_pos (by omega)]
  have hp4 : ∀ j, j < 8 → P (n + 1 + z + j) = 8 * n / 256 ^ (7 - j) % 256 := fun j hj => by
    rw [eP]; unfold pd; rw [if_neg (by omega), if_neg (by omega), if_neg (by omega), show n + 1 + z + j - (n + zs n + 1) = j by omega]
  have hs : sumS K s0 g n = hs K s0 P M := by rw [eP, eM]; rfl
  have HM := Lib.hid hM
  have Hz := Lib.hid (And.intro hz hz2)
  have HP := Lib.hid hP
  have Hp1 := Lib.hid hp1
  have Hp2 := Lib.hid hp2
  have Hp3 := Lib.hid hp3
  have Hp4 := Lib.hid hp4
  have HSum := Lib.hid hs
  have Hn := Lib.hid hn
  clear eP ez eM hM hz hz2 hP hp1 hp2 hp3 hp4 hs hn
  go_enter Tryd.func49, Tryd.ntmps49
  have hst : ∀ (o : Obj) (W : World), W = (w.alloc o).alloc (.cells #[] 5) → W.ownsRow (w.heap.size + 1) 5 1 (.slice (some ⟨w.heap.size + 1, 0, none⟩) 0 0) 0 [] ∧ SliceAt W none n c g ∧ w.heap.size + 1 ≤ W.heap.size ∧ Below (w.heap.size + 1) (w.alloc o) W := fun o W e => by
    subst e
    have h1 := World.ownsRow_made (base := w.heap.size + 1) (w.alloc o) #[] 0 (e := 5) (size := 1) (by simp only [World.size_alloc]; omega) (by unfold maxLen; omega) rfl
    have hb : Below w.heap.size w ((w.alloc o).alloc (.cells #[] 5)) := ((Below.refl _ _).alloc (Nat.le_refl _) _).alloc (by simp) _
    exact ⟨by simpa only [World.size_alloc] using h1, HS.out.below hb, by simp only [World.size_alloc]; omega, (Below.refl _ _).alloc (by simp) _⟩
  have Hst := Lib.hid hst
  clear hst
  go_wp2_with (first
    | (at_builtin; refine append_bytes rfl (.tmp 14) (.tmp 15) rfl (w.heap.size + 1) (.slice (some ⟨w.heap.size + 1, 0, none⟩) 0 0) 0 [] rfl (Hst.out _ _ rfl).1 none n c g rfl (Hst.out _ _ rfl).2.1 (by have := Hn.out; omega) (Hst.out _ _ rfl).2.2.1 ?_; intro v1 w1 own1 grow1; have HB1 := Lib.hid ((Hst.out _ _ rfl).2.2.2.grown grow1 (Hst.out _ _ rfl).2.2.1 (fun k hk => by cases hk; exact Nat.le_refl _)); have Own1 := Lib.hid own1; clear own1 grow1)
    | (at_builtin; refine append_bytes rfl (.tmp 16) (.tmp 17) rfl (w.heap.size + 1) v1 _ _ rfl (Own1.out.alloc _) (some ⟨w1.heap.size, 0, none⟩) 1 1 (fun _ => 128) rfl (one_byte (by decide)) (by have := Hn.out; omega) (by have := HB1.out.size; simp only [World.size_alloc] at this ⊢; omega) ?_; intro v2 w2 own2 grow2; have HB2 := Lib.hid ((HB1.out.alloc (by have := HB1.out.size; simp only [World.size_alloc] at this ⊢; omega) _).grown grow2 (by have := HB1.out.size; simp only [World.size_alloc] at this ⊢; omega) (fun k hk => (Own1.out.lt k hk).1)); have Own2 := Lib.hid own2; clear own2 grow2 HB1 Own1))
  have Hout : Hid (RowB w2 w.heap.size 32 (fun _ => 0) 71) := (HB2.out.block w.heap.size (Nat.lt_succ_self _)).trans (heap_alloc_new w _)
  have HBw : Hid (Below w.heap.size w w2) := ((Below.refl _ _).alloc (Nat.le_refl _) _).trans (Below.mono HB2.out (Nat.le_succ _))
  have own2 := Own2.out
  rw [List.nil_append, Hp1.out, show fl (fun _ => 128) 1 = [Value.int .u8 ((P n : Nat) : Int)] by rw [Hp2.out]; rfl, ← fl_succ, Nat.zero_add] at own2
  obtain ⟨gp, cp, rfl, hgp, hgp2, hcp⟩ := row_form own2 (by omega)
  have Own := Lib.hid own2
  have hz0 := Hz.out.2
  have hn0 := Hn.out
  have hs2 : w.heap.size + 1 ≤ w2.heap.size := by have := HB2.out.size; simpa only [World.size_alloc] using this
  have Hs2 := Lib.hid hs2
  clear Hst HB2 Own2 own2 hgp hgp2 hcp hs2
  go_loopw [3] (fun v wr => ∃ (gp cp k : Nat), n + 1 ≤ k ∧ k ≤ n + 1 + z ∧ v = .slice (some ⟨gp, 0, none⟩) k cp ∧ Hid (wr.ownsRow (w.heap.size + 1) 5 1 (.slice (some ⟨gp, 0, none⟩) k cp) k (fl P k) ∧ Below (w.heap.size + 1) w2 wr)) (fun v _ => n + 1 + z - slen v)
  case atStart => exact ⟨gp, cp, n + 1, Nat.le_refl _, Nat.le_add_right _ _, rfl, Own.out, Below.refl _ _⟩
  case round =>
    clear Own
    obtain ⟨gq, cq, k, hk1, hk2, rfl, G⟩ := hrel
    by_cases hlt : k < n + 1 + z
    · have h56 : ((k : Int) % 64 == 56) = false := by have := Hz.out.1; simp; omega
      have h56' : (k : Int) % 64 ≠ 56 := by have := Hz.out.1; omega
      have hkP := Hp3.out k (by omega) (by omega)
      have HkP := Lib.hid hkP
      have Hlt := Lib.hid (And.intro hk1 hlt)
      clear hkP hlt hk1 hk2
      go_wp2_with (at_builtin; refine append_bytes rfl (.tmp 23) (.tmp 24) rfl (w.heap.size + 1) (.slice (some ⟨gq, 0, none⟩) k cq) k (fl P k) rfl (G.out.1.alloc _) (some ⟨wr.heap.size, 0, none⟩) 1 1 (fun _ => 0) rfl (one_byte (by decide)) (by have := Hlt.out; omega) (by have := G.out.2.size; have := Hs2.out; simp only [World.size_alloc]; omega) ?_; intro v3 w3 own3 grow3)
      rw [show fl (fun _ => 0) 1 = [Value.int .u8 ((P k : Nat) : Int)] by rw [HkP.out]; rfl, ← fl_succ] at own3
      obtain ⟨gr, cr, rfl, hgr, hgr2, hcr⟩ := row_form own3 (by omega)
      refine ⟨⟨gr, cr, k + 1, Nat.le_succ_of_le Hlt.out.1, Hlt.out.2, rfl, own3, ?_⟩, ?_⟩
      · exact (G.out.2.alloc (Nat.le_trans Hs2.out G.out.2.size) _).grown grow3 (by have := G.out.2.size; have := Hs2.out; simp only [World.size_alloc]; omega) (fun k hk => (G.out.1.lt k hk).1)
      · have := Hlt.out
        simp only [slen]
        omega
    · have hk : k = n + 1 + z := by omega
      have h56 : ((k : Int) % 64 != 56) = false := by have := Hz.out.1; rw [← hk] at this; simp; omega
      have Hk := Lib.hid hk
      have hk3 : (k : Int) ≤ 100065 := by omega
      have hgq := (G.out.1.lt gq rfl).2
      have HrowL : Hid (RowB (wr.alloc (.cells #[.int .u8 0, .int .u8 0, .int .u8 0, .int .u8 0, .int .u8 0, .int .u8 0, .int .u8 0, .int .u8 0] 89)) wr.heap.size 8 (lf n 0) 89) := heap_alloc_new wr _
      obtain ⟨wo, ewo⟩ : ∃ wo : World, wo = wr := ⟨_, rfl⟩
      subst ewo
      clear hk hlt hk1 hk2
      go_wp2_with fail
      go_loopw [4, 6] (fun nn i wq => ∃ t : Nat, t ≤ 8 ∧ i = .int .i64 ((7 : Int) - (t : Int)) ∧ nn = .int .u64 ((8 * n / 256 ^ t : Nat) : Int) ∧ Hid (RowB wq wo.heap.size 8 (lf n t) 89 ∧ Below wo.heap.size wo wq)) (fun _ i _ => (intOf i + 1).toNat)
      case atStart => exact ⟨0, by omega, rfl, by rw [Nat.pow_zero, Nat.div_one]; go_num, HrowL.out, (Below.refl _ _).alloc (Nat.le_refl _) _⟩
      case round =>
        clear HrowL
        obtain ⟨t, ht, rfl, rfl, G2⟩ := hrel
        by_cases hlt : t < 8
        · obtain ⟨x, ex⟩ : ∃ x, x = 8 * n / 256 ^ t := ⟨_, rfl⟩
          rw [← ex]
          have hx : x ≤ 800000 := by rw [ex]; exact Nat.le_trans (Nat.div_le_self _ _) (by have := Hn.out; omega)
          obtain ⟨d, ed⟩ : ∃ d, d = 7 - t := ⟨_, rfl⟩
          have hd1 : (7 : Int) - (t : Int) = (d : Int) := by omega
          have hd8 : (d : Int) < 8 := by omega
          have cd := G2.out.1.cell (j := d) (by omega)
          have fd := G2.out.1.fz d
          have Ex := Lib.hid ex
          have Ed := Lib.hid ed
          have Hlt := Lib.hid hlt
          clear ex ed hlt ht
          go_wp2_with fail
          go_roundw
          case rel =>
            refine ⟨t + 1, Hlt.out, ?_, ?_, lf_step (G2.out.1.set (by have := Ed.out; omega) (x % 256)) Ed.out.symm Hlt.out Ex.out, G2.out.2.setCell (Nat.le_refl _) _⟩
            · rw [show (d : Int) - 1 = (7 : Int) - ((t + 1 : Nat) : Int) by omega]
            · rw [Nat.pow_succ, ← Nat.div_div_eq_div_mul, ← Ex.out]
              rfl
          case measure => have := Hlt.out; simp only [intOf]; omega
        · obtain rfl : t = 8 := by omega
          have hi : (7 : Int) - ((8 : Nat) : Int) = -1 := by omega
          rw [hi]
          have HB8 : Hid (BytesAt wr wo.heap.size 0 8 (lf n 8)) := G2.out.1.bytes (lf_lt n 8)
          have Hown := Lib.hid (row_below G.out.1 G2.out.2)
          have HBo := Lib.hid (G.out.2.trans (Below.mono G2.out.2 (Nat.le_trans Hs2.out G.out.2.size)))
          have hsz := HBo.out.size
          have hs2 := Hs2.out
          clear hlt ht hi
          go_wp2_with (at_builtin; refine append_bytes rfl (.tmp 41) (.tmp 42) rfl (w.heap.size + 1) (.slice (some ⟨gq, 0, none⟩) k cq) k (fl P k) rfl Hown.out (some ⟨wo.heap.size, 0, none⟩) 8 8 (lf n 8) rfl ⟨lf_lt n 8, Nat.le_refl _, .inr ⟨_, rfl, fun _ => ⟨_, _, rfl, HB8.out⟩⟩⟩ (by omega) (by omega) ?_; intro v4 w4 own4 grow4)
          obtain ⟨L, eL⟩ : ∃ L, L = k + 8 := ⟨_, rfl⟩
          have hLM : L = 64 * M := by have := HM.out; have := Hk.out; omega
          have hpl : fl (lf n 8) 8 = fl (fun j => P (k + j)) 8 := fl_congr fun j hj => by
            rw [Hk.out, Hp4.out j hj]; unfold lf; rw [if_pos ⟨hj, by omega⟩]
          rw [hpl, fl_add, ← eL] at own4
          obtain ⟨gm, cm, rfl, hgm, hgm2, hcm⟩ := row_form own4 (by omega)
          have hbm := row_bytes own4 HP.out
          have hb4 : Below (w.heap.size + 1) w2 w4 := HBo.out.grown grow4 (by omega) (fun k hk => (Hown.out.lt k hk).1)
          have Hbm := Lib.hid hbm
          have Hb4 := Lib.hid hb4
          have HLM := Lib.hid hLM
          have hLb : (L : Int) ≤ 100073 := by omega
          have hcmL : (L : Int) ≤ (cm : Int) := by omega
          have hs4 : w.heap.size + 1 ≤ w4.heap.size := by have := hb4.size; omega
          clear hpl own4 grow4 hbm hb4 hLM eL HB8 Hown HBo hgm hcm G2 hsz hk3 h56
          refine Calls.mono (refK_c _) ?_
          rintro _ w5 ⟨⟨r5, rfl, hr5⟩, h5⟩
          obtain ⟨c5, f5, s5⟩ := bfacts h5
          try simp only [World.size_alloc, World.size_setCell, size_drew, size_drewN] at s5
          obtain ⟨gk, ck, rfl, hgk, hgk2, hck⟩ := row_form hr5 (by omega)
          have HK5 : Hid (∀ j, j < 64 → w5.cell? ⟨gk, j, none⟩ = some (.int .u32 ((K j : Nat) : Int))) := fun j hj => (hr5.cellAt j (by omega)).trans (ws_get _ _ j hj)
          clear hr5
          go_wp2_with fail
          refine Calls.mono (refS_c _) ?_
          rintro _ w6 ⟨⟨r6, rfl, hr6⟩, h6⟩
          obtain ⟨c6, f6, s6⟩ := bfacts h6
          try simp only [World.size_alloc, World.size_setCell, size_drew, size_drewN] at s6
          obtain ⟨gs, cs, rfl, hgs, hgs2, hcs⟩ := row_form hr6 (by omega)
          have HS6 : Hid (∀ j, j < 8 → w6.cell? ⟨gs, j, none⟩ = some (.int .u32 ((s0.at j : Nat) : Int))) := fun j hj => (hr6.cellAt j (by omega)).trans (ws_get _ _ j hj)
          have HK6 : Hid (∀ j, j < 64 → w6.cell? ⟨gk, j, none⟩ = some (.int .u32 ((K j : Nat) : Int))) := fun j hj => (h6.cell (p := ⟨gk, j, none⟩) hgk2).trans (HK5.out j hj)
          have Hbm6 : Hid (BytesAt w6 gm 0 L P) := (Hbm.out.below h5).below h6
          have Hb6 : Hid (Below (w.heap.size + 1) w2 w6) := (Hb4.out.trans (Below.mono h5 hs4)).trans (Below.mono h6 (by omega))
          have hs6 : w.heap.size + 1 ≤ w6.heap.size := by omega
          clear hr6 hgs hgk HK5 c5 c6 f5 f6 h5 h6 Hbm Hb4 hs4
          go_wp2_with fail
          go_loopw [8, 9] (fun s i wq => ∃ (gs cs m o : Nat), m ≤ M ∧ o = 64 * m ∧ i = .int .i64 (o : Int) ∧ s = .slice (some ⟨gs, 0, none⟩) 8 cs ∧ Hid (8 ≤ cs ∧ gs < wq.heap.size ∧ (∀ j, j < 8 → wq.cell? ⟨gs, j, none⟩ = some (.int .u32 (((hs K s0 P m).at j : Nat) : Int))) ∧ Below w6.heap.size w6 wq)) (fun _ i _ => L - (intOf i).toNat)
          case atStart => exact ⟨gs, cs, 0, 0, Nat.zero_le _, rfl, rfl, rfl, by omega, hgs2, HS6.out, Below.refl _ _⟩
          case round =>
            clear HS6
            obtain ⟨gt, ct, m, o, hm, ho, rfl, rfl, G3⟩ := hrel
            by_cases hlt : m < M
            · have holt : (o : Int) + 64 ≤ (L : Int) := by have := HLM.out; omega
              have Hm := Lib.hid (And.intro hlt ho)
              clear hlt hm ho
              go_wp2_with fail
              refine Calls.mono (block_walk (hs K s0 P m) (fun j => P (o + j)) gt ct gk ck gm o (cm - o) G3.out.1 hck (by omega) _ (Lib.hid (hs_ok s0_ok m)) (Lib.hid G3.out.2.2.1) (Lib.hid fun j hj => (G3.out.2.2.2.cell (p := ⟨gk, j, none⟩) (lt_of_cell (HK6.out 0 (by decide)))).trans (HK6.out j hj)) (Lib.hid (by have := (Hbm6.out.below G3.out.2.2.2).part o 64 (by omega); rwa [Nat.zero_add] at this))) ?_
              rintro _ w7 ⟨⟨gu, cu, rfl, hcu, hgu, hcells⟩, h7⟩
              obtain ⟨c7, f7, s7⟩ := bfacts h7
              try simp only [World.size_alloc, World.size_setCell, size_drew, size_drewN] at s7
              have hgu2 := lt_of_cell (hcells 0 (by decide))
              have Hcells := Lib.hid hcells
              have HB7 := Lib.hid (G3.out.2.2.2.trans (Below.mono h7 G3.out.2.2.2.size))
              clear hcells c7 f7 h7
              go_wp2_with fail
              go_roundw
              case rel =>
                refine ⟨gu, cu, m + 1, o + 64, Hm.out.1, by have := Hm.out.2; omega, by go_num, rfl, hcu, hgu2, fun j hj => ?_, HB7.out⟩
                rw [Hcells.out j hj, Hm.out.2]
                rfl
              case measure => simp [intOf]; omega
            · obtain rfl : m = M := by omega
              have hoL : (o : Int) = (L : Int) := by have := HLM.out; omega
              obtain ⟨S, eS⟩ : ∃ S, S = hs K s0 P m := ⟨_, rfl⟩
              have hcS := G3.out.2.2.1
              rw [← eS] at hcS
              have HcS := Lib.hid hcS
              have HSok : Hid S.Ok := by rw [eS]; exact hs_ok s0_ok m
              have Hgt := Lib.hid G3.out.2.1
              have HES : Hid (sumS K s0 g n = S) := by rw [eS]; exact HSum.out
              have HBe := Lib.hid (Hb6.out.trans (Below.mono G3.out.2.2.2 hs6))
              have Hout' : Hid (RowB wr w.heap.size 32 (fun _ => 0) 71) := Hout.out.below HBe.out (Nat.lt_succ_self _)
              have HBw' := Lib.hid (HBw.out.trans (Below.mono HBe.out (Nat.le_succ _)))
              have hwS : w.heap.size < wr.heap.size := Hout'.out.blk
              obtain ⟨wv, ewv⟩ : ∃ wv : World, wv = wr := ⟨_, rfl⟩
              subst ewv
              have HrowO : Hid (RowB (wv.alloc (.cells (fl (fun _ => 0) 32).toArray 71)) wv.heap.size 32 (fun _ => 0) 71) := heap_alloc_new wv _
              have hoL' : ¬ (o : Int) < (L : Int) := by omega
              have HoL := Lib.hid hoL
              clear hlt hm hcS eS ho hoL
              go_wp2_with fail
              go_loopw [11] (fun i wq => ∃ (k : Nat) (g' : Nat → Nat), k ≤ 32 ∧ i = .int .i64 (k : Int) ∧ Hid (RowB wq wv.heap.size 32 g' 71 ∧ (∀ j, g' j = if j < k then sb S j else 0) ∧ Below wv.heap.size wv wq)) (fun i _ => 32 - (intOf i).toNat)
              case atStart => exact ⟨0, fun _ => 0, by omega, rfl, HrowO.out, fun j => by rw [if_neg (Nat.not_lt_zero _)], (Below.refl _ _).alloc (Nat.le_refl _) _⟩
              case round =>
                clear HrowO
                obtain ⟨k, g', hk, rfl, G4⟩ := hrel
                by_cases hlt : k < 32
                · obtain ⟨d, ed⟩ : ∃ d, d = k / 4 := ⟨_, rfl⟩
                  obtain ⟨q, eq⟩ : ∃ q, q = k % 4 := ⟨_, rfl⟩
                  obtain ⟨X, eX⟩ : ∃ X, X = S.at d := ⟨_, rfl⟩
                  have hdk : (k : Int) / 4 = (d : Int) := by omega
                  have hwd : IntKind.i64.wrap ((k : Int) / 4) = (d : Int) := by rw [ed, IntKind.wrap_i64]; omega
                  have hd8 : (d : Int) < 8 := by omega
                  have hqk : (k : Int) % 4 = (q : Int) := by omega
                  have hq4 : (q : Int) ≤ 3 := by omega
                  have cS : wr.cell? ⟨gt, d, none⟩ = some (.int .u32 ((X : Nat) : Int)) := (G4.out.2.2.cell (p := ⟨gt, d, none⟩) Hgt.out).trans (by rw [eX]; exact HcS.out d (by omega))
                  have Hdq := Lib.hid (And.intro ed (And.intro eq eX))
                  have hXB : X < 4294967296 := by rw [eX]; exact St.at_lt HSok.out d
                  have ck' := G4.out.1.cell (j := k) hlt
                  have fk := G4.out.1.fz k
                  clear ed eq eX
                  go_wp2_with fail
                  obtain ⟨wi, ewi⟩ : ∃ wi : World, wi = wr := ⟨_, rfl⟩
                  subst ewi
                  have Hqk := Lib.hid (And.intro hqk hlt)
                  clear hlt hk hdk hwd hd8
                  go_loop [12, 13] (fun x j => ∃ t : Nat, t + q ≤ 3 ∧ j = .int .i64 ((3 : Int) - (t : Int)) ∧ x = .int .u32 ((X / 256 ^ t : Nat) : Int)) (fun _ j => (intOf j).toNat)
                  case atStart => exact ⟨0, by omega, rfl, by rw [Nat.pow_zero, Nat.div_one]⟩
                  case round =>
                    obtain ⟨t, ht, rfl, rfl⟩ := hrel
                    have hqk := Hqk.out.1
                    by_cases hlt : t + q < 3
                    · have ht3 : (q : Int) < 3 - (t : Int) := by omega
                      obtain ⟨x, ex⟩ : ∃ x, x = X / 256 ^ t := ⟨_, rfl⟩
                      rw [← ex]
                      have hxB : x < 4294967296 := by rw [ex]; exact Nat.lt_of_le_of_lt (Nat.div_le_self _ _) hXB
                      have Ex := Lib.hid ex
                      clear ex
                      go_wp2_with fail
                      go_round
                      case rel =>
                        refine ⟨t + 1, by omega, by rw [show (3 : Int) - (t : Int) - 1 = (3 : Int) - ((t + 1 : Nat) : Int) by omega], ?_⟩
                        rw [Nat.pow_succ, ← Nat.div_div_eq_div_mul, ← Ex.out]
                        rfl
                      case measure => simp [intOf]; omega
                    · have ht3 : (3 : Int) - (t : Int) = (q : Int) := by omega
                      obtain ⟨x, ex⟩ : ∃ x, x = X / 256 ^ t := ⟨_, rfl⟩
                      rw [← ex]
                      have hxB : x < 4294967296 := by rw [ex]; exact Nat.lt_of_le_of_lt (Nat.div_le_self _ _) hXB
                      have Ex := Lib.hid ex
                      have Ht := Lib.hid (show t = 3 - q by omega)
                      clear ex hlt ht
                      go_wp2_with fail
                      go_roundw
                      case rel =>
                        have hv : x % 256 = sb S k := by
                          rw [Ex.out, Ht.out, Hdq.out.2.2, Hdq.out.1]
                          unfold sb
                          rw [show (256 : Nat) ^ (3 - q) = 2 ^ (24 - 8 * (k % 4)) by rw [show (256 : Nat) = 2 ^ 8 by decide, ← Nat.pow_mul]; congr 1; have := Hdq.out.2.1; omega]
                        refine ⟨k + 1, upd g' k (x % 256), Hqk.out.2, by go_num, G4.out.1.set Hqk.out.2 (x % 256), fun j => ?_, G4.out.2.2.setCell (Nat.le_refl _) _⟩
                        unfold upd
                        by_cases e : j = k
                        · subst e
                          rw [if_pos rfl, if_pos (Nat.lt_succ_self _), hv]
                        · rw [if_neg e, G4.out.2.1 j]
                          by_cases h2 : j < k
                          · rw [if_pos h2, if_pos (by omega)]
                          · rw [if_neg h2, if_neg (by omega)]
                      case measure => have := Hqk.out.2; simp [intOf]; omega
                · obtain rfl : k = 32 := by omega
                  have HG := Lib.hid (show fl (sb S) 32 = fl g' 32 from fl_congr fun j hj => by rw [G4.out.2.1 j, if_pos hj])
                  have HoutE : Hid (RowB wr w.heap.size 32 (fun _ => 0) 71) := Hout'.out.below G4.out.2.2 hwS
                  have HBE := Lib.hid (HBw'.out.trans (Below.mono G4.out.2.2 (Nat.le_of_lt hwS)))
                  clear hlt hk
                  go_wp2_with (first
                    | (refine wpList_load_of rfl 71 (.tmp 10) rfl (.pointer (some ⟨wv.heap.size, 0, none⟩)) (.agg (fl g' 32).toArray) rfl (load_bytes (g := g') (n := 32) (fun j hj => G4.out.1.cell hj) Tryd.underlying71 (by kernel_rfl)) ?_; simp only [Act.put, List.setIfInBounds_toArray, List.set_cons_zero, List.set_cons_succ, List.tail_cons])
                    | ((with_reducible show wpList _ _ _ (⟨none, _, _, _, _, _⟩ :: []) _ _); refine wpList_store_mid rfl 71 (.tmp 2) (.tmp 82) rfl w.heap.size 0 (fl g' 32).toArray rfl rfl HoutE.out.there (info_fl (by kernel_rfl)) (fl_oneA g' 32) ?_; simp only [Act.put, List.setIfInBounds_toArray, List.set_cons_zero, List.set_cons_succ, List.tail_cons]))
                  exact bodyPost_ret (v := .agg (fl (sb (sumS K s0 g n)) 32).toArray) (by rw [HES.out, HG.out]; exact results_bytes (g := g') (b := w.heap.size) rfl rfl HoutE.out.stored Tryd.underlying71 (by kernel_rfl)) rfl ⟨rfl, below_setCells (Nat.le_refl _) _ _ _ _ HBE.out⟩
theorem refSum_c (a : Option Addr) (n c : Nat) (g : Nat → Nat) (hn : n ≤ 100000) (w : World) (h : SliceAt w a n c g) :
    Calls Tryd.prog 49 #[.slice a n c] w fun e w' => e = .returned (.agg (fl (sb (sumS K s0 g n)) 32).toArray) ∧ Below w.heap.size w w' := by
  cases a with
  | none => exact refSum_nil n c g hn w (Lib.hid h)
  | some ad => exact refSum_walk ad n c g hn w (Lib.hid h)
end Go.Proofs.YtjhfepkpfakemaaDoor.Sh

namespace Go.Proofs.YtjhfepkpfakemaaDoor.Sh
set_option linter.all false
open Go Go.RowKit

theorem SliceAt.low {w : World} {a : Option Addr} {n c : Nat} {f : Nat → Nat} (h : SliceAt w a n c f) : ∀ ad, a = some ad → 0 < n → ad.block < w.heap.size := fun ad e hn => by
  rcases h.at_ with ⟨e', h0, _⟩ | ⟨ad', e', k⟩
  · omega
  · obtain ⟨b, off, e2, hB⟩ := k hn
    subst e2
    rw [e] at e'
    cases e'
    exact hB.blk
/-- The sum of n bytes. -/
def sm (g : Nat → Nat) (n : Nat) : Nat → Nat := sb (sumS K s0 g n)
theorem shaSum_any (a : Option Addr) (n c : Nat) (g : Nat → Nat) (hn : n ≤ 100000) (w : World) (hL : Laid w) (h : SliceAt w a n c g) :
    Calls Tryd.prog 46 #[.slice a n c] w fun e w' => e = .returned (.agg (fl (sm g n) 32).toArray) ∧ Below w.heap.size w w' := shaSum_c n c a g hn w hL h h.low
theorem refSum_any (a : Option Addr) (n c : Nat) (g : Nat → Nat) (hn : n ≤ 100000) (w : World) (h : SliceAt w a n c g) :
    Calls Tryd.prog 49 #[.slice a n c] w fun e w' => e = .returned (.agg (fl (sm g n) 32).toArray) ∧ Below w.heap.size w w' := refSum_c a n c g hn w h

end Go.Proofs.YtjhfepkpfakemaaDoor.Sh
