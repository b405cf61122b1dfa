/- The contracts of the reference's isPrime, cubeAbove, squareAbove. -/
import Derived.Test.YtdaggankfokloaaDoorShaFns
namespace Go.Proofs.YtdaggankfokloaaDoor
set_option linter.all false
open Go Go.RowKit

def cubeF (x n : Nat) : Bool :=
  let a := x / 262144
  let b := x % 262144
  let c0 := b * b * b
  let c1 := 3 * a * b * b + c0 / 262144
  let c2 := 3 * a * a * b + c1 / 262144
  let c3 := a * a * a + c2 / 262144
  decide (n * 4398046511104 < c3) || (c3 == n * 4398046511104 && decide (0 < c0 % 262144 + c1 % 262144 + c2 % 262144))
def squareF (x n : Nat) : Bool :=
  let a := x / 4294967296
  let b := x % 4294967296
  let low := b * b
  let p := 2 * a * b
  let mid := p % 4294967296 * 4294967296
  let s := (low + mid) % 18446744073709551616
  let high := a * a + p / 4294967296 + (if s < low then 1 else 0)
  decide (n < high) || (high == n && decide (0 < s))

set_option maxRecDepth 100000 in
set_option maxHeartbeats 4000000 in
theorem cube_walk (x n a b bb c0 a3 p1 q1 d0 c1 p2 q2 d1 c2 aa q3 d2 c3 h : Nat) (ea : IntKind.u64.wrap ((x : Int) / 262144) = (a : Int)) (eb : (x : Int) % 262144 = (b : Int)) (e1 : IntKind.u64.wrap ((b : Int) * (b : Int)) = (bb : Int)) (e2 : IntKind.u64.wrap ((bb : Int) * (b : Int)) = (c0 : Int))
    (e3 : IntKind.u64.wrap (3 * (a : Int)) = (a3 : Int)) (e4 : IntKind.u64.wrap ((a3 : Int) * (b : Int)) = (p1 : Int)) (e5 : IntKind.u64.wrap ((p1 : Int) * (b : Int)) = (q1 : Int)) (e6 : IntKind.u64.wrap ((c0 : Int) / 262144) = (d0 : Int)) (e7 : IntKind.u64.wrap ((q1 : Int) + (d0 : Int)) = (c1 : Int))
    (f1 : IntKind.u64.wrap ((a3 : Int) * (a : Int)) = (p2 : Int)) (f2 : IntKind.u64.wrap ((p2 : Int) * (b : Int)) = (q2 : Int)) (f3 : IntKind.u64.wrap ((c1 : Int) / 262144) = (d1 : Int)) (f4 : IntKind.u64.wrap ((q2 : Int) + (d1 : Int)) = (c2 : Int))
    (g1 : IntKind.u64.wrap ((a : Int) * (a : Int)) = (aa : Int)) (g2 : IntKind.u64.wrap ((aa : Int) * (a : Int)) = (q3 : Int)) (g3 : IntKind.u64.wrap ((c2 : Int) / 262144) = (d2 : Int)) (g4 : IntKind.u64.wrap ((q3 : Int) + (d2 : Int)) = (c3 : Int)) (hh : IntKind.u64.wrap ((n : Int) * 4398046511104) = (h : Int)) (w : World) :
    Calls Tryd.prog 30 #[.int .u64 (x : Int), .int .u64 (n : Int)] w fun e w' => e = .returned (.bool (decide (h < c3) || (c3 == h && decide (0 < c0 % 262144 + c1 % 262144 + c2 % 262144)))) ∧ w = w' := by
  go_enter Tryd.func30, Tryd.ntmps30
  go_wp2_with fail
  all_goals go_ret
  all_goals refine ⟨?_, rfl⟩
  all_goals show Ending.returned (Value.bool _) = Ending.returned (Value.bool _)
  all_goals refine congrArg (fun b => Ending.returned (Value.bool b)) ?_
  all_goals rw [Bool.eq_iff_iff]
  all_goals simp only [Bool.or_eq_true, Bool.and_eq_true, decide_eq_true_eq, beq_iff_eq]
  all_goals clear ea eb e1 e2 e3 e4 e5 e6 e7 f1 f2 f3 f4 g1 g2 g3 g4 hh
  all_goals first | omega | (simp only [true_iff]; omega) | (simp; omega)
theorem cube_c (x n : Nat) (hx : x < 274877906944) (hn : n < 1024) (w : World) :
    Calls Tryd.prog 30 #[.int .u64 (x : Int), .int .u64 (n : Int)] w fun e w' => e = .returned (.bool (cubeF x n)) ∧ w = w' := by
  have wr : ∀ v : Nat, v < 18446744073709551616 → IntKind.u64.wrap (v : Int) = (v : Int) := fun v hv => by rw [IntKind.wrap_u64]; omega
  have ha : x / 262144 < 1048576 := by omega
  have hb : x % 262144 < 262144 := Nat.mod_lt _ (by decide)
  obtain ⟨a, ea⟩ : ∃ a, a = x / 262144 := ⟨_, rfl⟩
  obtain ⟨b, eb⟩ : ∃ b, b = x % 262144 := ⟨_, rfl⟩
  rw [← ea] at ha
  rw [← eb] at hb
  have m : ∀ {u v p q : Nat}, u < p → v < q → u * v < p * q := fun h1 h2 => Nat.mul_lt_mul'' h1 h2
  have l1 : b * b < 262144 * 262144 := m hb hb
  have l2 : b * b * b < 262144 * 262144 * 262144 := m l1 hb
  have l3 : 3 * a * b < 3145728 * 262144 := m (by omega) hb
  have l4 : 3 * a * b * b < 3145728 * 262144 * 262144 := m l3 hb
  have l5 : 3 * a * a < 3145728 * 1048576 := m (by omega) ha
  have l6 : 3 * a * a * b < 3145728 * 1048576 * 262144 := m l5 hb
  have l7 : a * a < 1048576 * 1048576 := m ha ha
  have l8 : a * a * a < 1048576 * 1048576 * 1048576 := m l7 ha
  have e : cubeF x n = (decide (n * 4398046511104 < a * a * a + (3 * a * a * b + (3 * a * b * b + b * b * b / 262144) / 262144) / 262144) ||
      (a * a * a + (3 * a * a * b + (3 * a * b * b + b * b * b / 262144) / 262144) / 262144 == n * 4398046511104 && decide (0 < b * b * b % 262144 + (3 * a * b * b + b * b * b / 262144) % 262144 + (3 * a * a * b + (3 * a * b * b + b * b * b / 262144) / 262144) % 262144))) := by
    unfold cubeF; rw [← ea, ← eb]
  rw [e]
  refine cube_walk x n a b (b * b) (b * b * b) (3 * a) (3 * a * b) (3 * a * b * b) (b * b * b / 262144) (3 * a * b * b + b * b * b / 262144) (3 * a * a) (3 * a * a * b) ((3 * a * b * b + b * b * b / 262144) / 262144) (3 * a * a * b + ((3 * a * b * b + b * b * b / 262144) / 262144)) (a * a) (a * a * a) ((3 * a * a * b + ((3 * a * b * b + b * b * b / 262144) / 262144)) / 262144) (a * a * a + ((3 * a * a * b + ((3 * a * b * b + b * b * b / 262144) / 262144)) / 262144)) (n * 4398046511104)
    ?_ ?_ (wr (b * b) (by omega)) (wr (b * b * b) (by omega)) (wr (3 * a) (by omega)) (wr (3 * a * b) (by omega)) (wr (3 * a * b * b) (by omega)) (wr (b * b * b / 262144) (by omega)) (wr (3 * a * b * b + b * b * b / 262144) (by omega)) (wr (3 * a * a) (by omega)) (wr (3 * a * a * b) (by omega)) (wr ((3 * a * b * b + b * b * b / 262144) / 262144) (by omega)) (wr (3 * a * a * b + ((3 * a * b * b + b * b * b / 262144) / 262144)) (by omega)) (wr (a * a) (by omega)) (wr (a * a * a) (by omega)) (wr ((3 * a * a * b + ((3 * a * b * b + b * b * b / 262144) / 262144)) / 262144) (by omega)) (wr (a * a * a + ((3 * a * a * b + ((3 * a * b * b + b * b * b / 262144) / 262144)) / 262144)) (by omega)) (wr (n * 4398046511104) (by omega)) w
  · rw [ea]; exact wr (x / 262144) (by omega)
  · rw [eb]; rfl

set_option maxRecDepth 100000 in
set_option maxHeartbeats 4000000 in
theorem square_walk (x n a b low aa a2 p d h0 mid s h1 : Nat) (ea : IntKind.u64.wrap ((x : Int) / 4294967296) = (a : Int)) (eb : (x : Int) % 4294967296 = (b : Int)) (e1 : IntKind.u64.wrap ((b : Int) * (b : Int)) = (low : Int)) (e2 : IntKind.u64.wrap ((a : Int) * (a : Int)) = (aa : Int))
    (e3 : IntKind.u64.wrap (2 * (a : Int)) = (a2 : Int)) (e4 : IntKind.u64.wrap ((a2 : Int) * (b : Int)) = (p : Int)) (e5 : IntKind.u64.wrap ((p : Int) / 4294967296) = (d : Int)) (e6 : IntKind.u64.wrap ((aa : Int) + (d : Int)) = (h0 : Int)) (e7 : IntKind.u64.wrap ((p : Int) % 4294967296 * 4294967296) = (mid : Int))
    (e8 : IntKind.u64.wrap ((low : Int) + (mid : Int)) = (s : Int)) (e9 : IntKind.u64.wrap ((h0 : Int) + 1) = (h1 : Int)) (w : World) :
    Calls Tryd.prog 31 #[.int .u64 (x : Int), .int .u64 (n : Int)] w fun e w' => e = .returned (.bool (decide (n < if s < low then h1 else h0) || ((if s < low then h1 else h0) == n && decide (0 < s)))) ∧ w = w' := by
  go_enter Tryd.func31, Tryd.ntmps31
  go_wp2_with fail
  all_goals go_ret
  all_goals refine ⟨?_, rfl⟩
  all_goals show Ending.returned (Value.bool _) = Ending.returned (Value.bool _)
  all_goals refine congrArg (fun b => Ending.returned (Value.bool b)) ?_
  all_goals rw [Bool.eq_iff_iff]
  all_goals simp only [Bool.or_eq_true, Bool.and_eq_true, decide_eq_true_eq, beq_iff_eq]
  all_goals clear ea eb e1 e2 e3 e4 e5 e6 e7 e8 e9
  all_goals (first | (rw [if_pos (by assumption)]) | (rw [if_neg (by omega)]) | (rw [if_pos (by omega)]) | skip)
  all_goals (try simp only [true_iff, false_iff, Bool.false_eq_true, Bool.true_eq_false])
  all_goals first | omega | (split <;> omega) | trace_state
theorem square_c (x n : Nat) (hx : x < 274877906944) (hn : n < 1024) (w : World) :
    Calls Tryd.prog 31 #[.int .u64 (x : Int), .int .u64 (n : Int)] w fun e w' => e = .returned (.bool (squareF x n)) ∧ w = w' := by
  have wr : ∀ v : Nat, v < 18446744073709551616 → IntKind.u64.wrap (v : Int) = (v : Int) := fun v hv => by rw [IntKind.wrap_u64]; omega
  have ha : x / 4294967296 < 64 := by omega
  have hb : x % 4294967296 < 4294967296 := Nat.mod_lt _ (by decide)
  obtain ⟨a, ea⟩ : ∃ a, a = x / 4294967296 := ⟨_, rfl⟩
  obtain ⟨b, eb⟩ : ∃ b, b = x % 4294967296 := ⟨_, rfl⟩
  rw [← ea] at ha
  rw [← eb] at hb
  have m : ∀ {u v p q : Nat}, u < p → v < q → u * v < p * q := fun h1 h2 => Nat.mul_lt_mul'' h1 h2
  have l1 : b * b < 4294967296 * 4294967296 := m hb hb
  have l2 : a * a < 64 * 64 := m ha ha
  have l3 : 2 * a * b < 128 * 4294967296 := m (by omega) hb
  have e : squareF x n = (decide (n < if (b * b + 2 * a * b % 4294967296 * 4294967296) % 18446744073709551616 < b * b then a * a + 2 * a * b / 4294967296 + 1 else a * a + 2 * a * b / 4294967296) ||
      ((if (b * b + 2 * a * b % 4294967296 * 4294967296) % 18446744073709551616 < b * b then a * a + 2 * a * b / 4294967296 + 1 else a * a + 2 * a * b / 4294967296) == n && decide (0 < (b * b + 2 * a * b % 4294967296 * 4294967296) % 18446744073709551616))) := by
    unfold squareF; rw [← ea, ← eb]
    simp only
    by_cases h : (b * b + 2 * a * b % 4294967296 * 4294967296) % 18446744073709551616 < b * b
    · rw [if_pos h, if_pos h]
    · rw [if_neg h, if_neg h]; rfl
  rw [e]
  refine square_walk x n a b (b * b) (a * a) (2 * a) (2 * a * b) (2 * a * b / 4294967296) (a * a + 2 * a * b / 4294967296) (2 * a * b % 4294967296 * 4294967296) ((b * b + 2 * a * b % 4294967296 * 4294967296) % 18446744073709551616) (a * a + 2 * a * b / 4294967296 + 1)
    ?_ ?_ (wr (b * b) (by omega)) (wr (a * a) (by omega)) (wr (2 * a) (by omega)) (wr (2 * a * b) (by omega)) (wr (2 * a * b / 4294967296) (by omega)) (wr (a * a + 2 * a * b / 4294967296) (by omega)) (wr (2 * a * b % 4294967296 * 4294967296) (by omega)) ?_ (wr (a * a + 2 * a * b / 4294967296 + 1) (by omega)) w
  · rw [ea]; exact wr (x / 4294967296) (by omega)
  · rw [eb]; rfl
  · rw [IntKind.wrap_u64]; rfl

/-- What the loop of isPrime finds from d on. -/
def noDiv (n : Nat) : Nat → Nat → Bool
  | 0, _ => true
  | t + 1, d => if d * d ≤ n then (if n % d = 0 then false else noDiv n t (d + 1)) else true
def primeF (n : Nat) : Bool := noDiv n 40 2 && decide (2 ≤ n)

set_option maxRecDepth 100000 in
set_option maxHeartbeats 4000000 in
theorem prime_c (n : Nat) (hn : n < 1024) (w : World) :
    Calls Tryd.prog 24 #[.int .u64 (n : Int)] w fun e w' => e = .returned (.bool (primeF n)) ∧ w = w' := by
  have hn' := Lib.hid hn
  go_enter Tryd.func24, Tryd.ntmps24
  go_wp2_with fail
  go_loop [3] (fun i => ∃ d : Nat, i = .int .u64 (d : Int) ∧ Hid (2 ≤ d ∧ d ≤ 33 ∧ noDiv n 40 2 = noDiv n (42 - d) d)) (fun i => 40 - (intOf i).toNat)
  case atStart => exact ⟨2, rfl, by omega, by omega, rfl⟩
  case round =>
    obtain ⟨d, rfl, H⟩ := hrel
    obtain ⟨q, hq⟩ : ∃ q, q = d * d := ⟨_, rfl⟩
    have hd2 := H.out.1
    have hd3 := H.out.2.1
    have hqb : q ≤ 33 * 33 := by rw [hq]; exact Nat.mul_le_mul hd3 hd3
    have e1 : IntKind.u64.wrap ((d : Int) * (d : Int)) = (q : Int) := by
      rw [show ((d : Int) * (d : Int)) = ((d * d : Nat) : Int) from (Int.natCast_mul d d).symm, ← hq, IntKind.wrap_u64]; omega
    have Hq := Lib.hid hq
    have Hqb := Lib.hid hqb
    obtain ⟨r, hr⟩ : ∃ r, r = n % d := ⟨_, rfl⟩
    have e2 : (n : Int) % (d : Int) = (r : Int) := by rw [hr]; rfl
    have Hr := Lib.hid hr
    have hs : noDiv n (42 - d) d = if q ≤ n then (if r = 0 then false else noDiv n (42 - (d + 1)) (d + 1)) else true := by
      rw [hq, hr, show 42 - d = (42 - (d + 1)) + 1 by omega]; rfl
    have Hs := Lib.hid hs
    have hd0 : ¬ (d : Int) = 0 := by omega
    clear hq hqb hr hs hd2 hd3 hn
    by_cases hle : q ≤ n
    · have hle2 : (q : Int) ≤ (n : Int) := by omega
      by_cases h0 : r = 0
      · subst h0
        go_wp2_with fail
        exact bodyPost_ret (v := .bool (primeF n)) (by simp only [results, Tryd.results24]; go_simp; unfold primeF; rw [H.out.2.2, Hs.out, if_pos hle]; simp) rfl ⟨rfl, rfl⟩
      · have h02 : ¬ (r : Int) = 0 := by omega
        have Hle := Lib.hid hle
        have hd34 : Hid (d + 1 ≤ 33) := by
          refine Nat.le_of_lt_succ (Nat.lt_of_not_le fun h => ?_)
          have h1 : 33 * 33 ≤ d * d := Nat.mul_le_mul (by omega) (by omega)
          have := Hq.out; have := hn'.out; omega
        clear hle
        have e3 : Hid (IntKind.u64.wrap ((d : Int) + 1) = ((d + 1 : Nat) : Int)) := by have := H.out.2.1; show _ = _; rw [IntKind.wrap_u64]; omega
        go_wp2_with fail
        go_round
        case rel => exact ⟨d + 1, by rw [e3.out], by have := H.out.1; omega, hd34.out, by rw [H.out.2.2, Hs.out, if_pos Hle.out, if_neg h0]⟩
        case measure => have := hd34.out; rw [e3.out]; simp [intOf]; omega
    · have hle2 : ¬ (q : Int) ≤ (n : Int) := by omega
      have Hle := Lib.hid hle
      clear hle
      go_wp2_with fail
      exact bodyPost_ret (v := .bool (primeF n)) (by simp only [results, Tryd.results24]; go_simp; unfold primeF; rw [H.out.2.2, Hs.out, if_neg Hle.out]; simp; try omega) rfl ⟨rfl, rfl⟩
end Go.Proofs.YtdaggankfokloaaDoor
