/- The contract of bytecode.Decode. The contract of the reference's Number. The contracts of bytecode.Wide and of the reference's Wide and Decode. The contracts of the reference's Decode and Wide. The contract of bytecode.Pack; a slice that may be nil. -/
import Derived.Test.YtjhfepkpfakemaaDoorSevenA
import Derived.Test.YtjhfepkpfakemaaDoorLaws5
import Derived.Test.YtjhfepkpfakemaaDoorWalk0
import Derived.Test.YtjhfepkpfakemaaDoorRefs
import Derived.Laws.CopyOwn
namespace Go.Proofs.YtjhfepkpfakemaaDoor
set_option linter.all false
open Go.RowKit

set_option maxRecDepth 100000 in
set_option maxHeartbeats 2000000 in
theorem decode_len (s : Bool) (a : Option Addr) (n c : Nat) (hn : n ≠ 32) (w : World) :
    Calls Tryd.prog 35 #[fieldV s, .slice a n c] w fun e w' => e = .returned (.tuple #[vec 0, .int .i64 8]) ∧ Below w.heap.size w w' := by
  have hd : (((n : Nat) : Int) == 32) = false := by rw [beq_eq_false_iff_ne]; omega
  have hd2 : (((n : Nat) : Int) != 32) = true := by rw [bne_iff_ne]; omega
  clear hn
  go_enter Tryd.func35, Tryd.ntmps35
  go_wp2_with fail
  rw [show vec 0 = .agg #[.int .u64 0, .int .u64 0, .int .u64 0, .int .u64 0] from vec_of (a := 0) (b := 0) (c := 0) (d := 0) (by decide) (by decide) (by decide) (by decide)]
  refine bodyPost_ret (v := .tuple #[.agg #[.int .u64 0, .int .u64 0, .int .u64 0, .int .u64 0], .int .i64 8]) (by simp only [results, Tryd.results35]; go_simp) rfl ⟨rfl, ?_⟩
  repeat first
    | with_reducible exact Below.refl _ _
    | with_reducible refine Below.drew ?_
    | with_reducible refine below_dN ?_
    | with_reducible refine Below.alloc ?_ (by first | omega | (simp; done) | (simp; omega)) _
    | with_reducible refine Below.setCell ?_ (by first | omega | (simp; done) | (simp; omega)) _
    | with_reducible refine Below.trans ?_ (Below.mono (by assumption) (by first | omega | (simp; done) | (simp; omega)))

set_option maxRecDepth 100000 in
set_option maxHeartbeats 4000000 in
theorem decode_big (s : Bool) (b off c : Nat) (f : Nat → Nat) (w : World) (hB : BytesAt w b off 32 f) (hp : ¬ le f 32 < pr s) :
    Calls Tryd.prog 35 #[fieldV s, .slice (some ⟨b, off, none⟩) 32 c] w fun e w' => e = .returned (.tuple #[vec 0, .int .i64 9]) ∧ Below w.heap.size w w' := by
  have HB := Lib.hid hB
  have HP := Lib.hid hp
  have ha := fun w => arrayAt32 (some ⟨b, off, none⟩) 32 c (by omega) w
  clear hB hp
  rw [show vec 0 = .agg #[.int .u64 0, .int .u64 0, .int .u64 0, .int .u64 0] from vec_of (a := 0) (b := 0) (c := 0) (d := 0) (by decide) (by decide) (by decide) (by decide)]
  go_enter Tryd.func35, Tryd.ntmps35
  go_wp2_with (refine wpList_load_of rfl 71 (.tmp 12) rfl (.pointer (some ⟨b, off, none⟩)) (.agg (arr32 f)) rfl (load32 (HB.out.below (by repeat first | with_reducible exact Below.refl _ _ | with_reducible refine Below.drew ?_ | with_reducible refine below_dN ?_ | with_reducible refine Below.alloc ?_ (by first | omega | (simp; done) | (simp; omega)) _ | with_reducible refine Below.setCell ?_ (by first | omega | (simp; done) | (simp; omega)) _ | with_reducible refine Below.trans ?_ (Below.mono (by assumption) (by first | omega | (simp; done) | (simp; omega))))) (by omega)) ?_; simp only [Act.put, List.setIfInBounds_toArray, List.set_cons_zero, List.set_cons_succ])
  refine Calls.mono (number32_c f HB.out.lt _) ?_
  rintro _ w1 ⟨rfl, h1⟩
  obtain ⟨c1, f1, s1⟩ := bfacts h1
  try simp only [World.size_alloc, World.size_setCell, size_drew, size_drewN] at s1
  have l_w_w1_0 : w.heap.size < w1.heap.size := by omega
  have l_w_w1_1 : w.heap.size + 1 < w1.heap.size := by omega
  go_wp2_with fail
  refine Calls.mono (containsF_c s (le f 32) (le32_lt HB.out.lt) HP.out _) ?_
  rintro _ w2 ⟨rfl, h2⟩
  obtain ⟨c2, f2, s2⟩ := bfacts h2
  try simp only [World.size_alloc, World.size_setCell, size_drew, size_drewN] at s2
  have l_w_w2_0 : w.heap.size < w2.heap.size := by omega
  have l_w_w2_1 : w.heap.size + 1 < w2.heap.size := by omega
  go_wp2_with fail
  refine bodyPost_ret (v := .tuple #[.agg #[.int .u64 0, .int .u64 0, .int .u64 0, .int .u64 0], .int .i64 9]) (by simp only [results, Tryd.results35]; go_simp) rfl ⟨rfl, ?_⟩
  repeat first
    | with_reducible exact Below.refl _ _
    | with_reducible refine Below.drew ?_
    | with_reducible refine below_dN ?_
    | with_reducible refine Below.alloc ?_ (by first | omega | (simp; done) | (simp; omega)) _
    | with_reducible refine Below.setCell ?_ (by first | omega | (simp; done) | (simp; omega)) _
    | with_reducible refine Below.trans ?_ (Below.mono (by assumption) (by first | omega | (simp; done) | (simp; omega)))

set_option maxRecDepth 100000 in
set_option maxHeartbeats 4000000 in
theorem decode_ok (s : Bool) (b off c : Nat) (f : Nat → Nat) (w : World) (hB : BytesAt w b off 32 f) (hp : le f 32 < pr s) :
    Calls Tryd.prog 35 #[fieldV s, .slice (some ⟨b, off, none⟩) 32 c] w fun e w' => e = .returned (.tuple #[vec (RR s (le f 32)), .int .i64 0]) ∧ Below w.heap.size w w' := by
  have HB := Lib.hid hB
  have HP := Lib.hid hp
  have ha := fun w => arrayAt32 (some ⟨b, off, none⟩) 32 c (by omega) w
  have hto := fun w => toR_c s (le f 32) (le32_lt hB.lt) w
  rw [mulm_red hp] at hto
  have Hto := Lib.hid hto
  clear hB hp hto
  go_enter Tryd.func35, Tryd.ntmps35
  go_wp2_with (refine wpList_load_of rfl 71 (.tmp 12) rfl (.pointer (some ⟨b, off, none⟩)) (.agg (arr32 f)) rfl (load32 (HB.out.below (by repeat first | with_reducible exact Below.refl _ _ | with_reducible refine Below.drew ?_ | with_reducible refine below_dN ?_ | with_reducible refine Below.alloc ?_ (by first | omega | (simp; done) | (simp; omega)) _ | with_reducible refine Below.setCell ?_ (by first | omega | (simp; done) | (simp; omega)) _ | with_reducible refine Below.trans ?_ (Below.mono (by assumption) (by first | omega | (simp; done) | (simp; omega))))) (by omega)) ?_; simp only [Act.put, List.setIfInBounds_toArray, List.set_cons_zero, List.set_cons_succ])
  refine Calls.mono (number32_c f HB.out.lt _) ?_
  rintro _ w1 ⟨rfl, h1⟩
  obtain ⟨c1, f1, s1⟩ := bfacts h1
  try simp only [World.size_alloc, World.size_setCell, size_drew, size_drewN] at s1
  have l_w_w1_0 : w.heap.size < w1.heap.size := by omega
  have l_w_w1_1 : w.heap.size + 1 < w1.heap.size := by omega
  go_wp2_with fail
  refine Calls.mono (containsT_c s (le f 32) HP.out _) ?_
  rintro _ w2 ⟨rfl, h2⟩
  obtain ⟨c2, f2, s2⟩ := bfacts h2
  try simp only [World.size_alloc, World.size_setCell, size_drew, size_drewN] at s2
  have l_w_w2_0 : w.heap.size < w2.heap.size := by omega
  have l_w_w2_1 : w.heap.size + 1 < w2.heap.size := by omega
  have l_w1_w2_0 : w1.heap.size < w2.heap.size := by omega
  go_wp2_with fail
  refine Calls.mono (Hto.out _) ?_
  rintro _ w3 ⟨rfl, h3⟩
  obtain ⟨c3, f3, s3⟩ := bfacts h3
  try simp only [World.size_alloc, World.size_setCell, size_drew, size_drewN] at s3
  have l_w_w3_0 : w.heap.size < w3.heap.size := by omega
  have l_w_w3_1 : w.heap.size + 1 < w3.heap.size := by omega
  go_wp2_with fail
  refine bodyPost_ret (v := .tuple #[vec (RR s (le f 32)), .int .i64 0]) (by simp only [results, Tryd.results35]; go_simp) rfl ⟨rfl, ?_⟩
  repeat first
    | with_reducible exact Below.refl _ _
    | with_reducible refine Below.drew ?_
    | with_reducible refine below_dN ?_
    | with_reducible refine Below.alloc ?_ (by first | omega | (simp; done) | (simp; omega)) _
    | with_reducible refine Below.setCell ?_ (by first | omega | (simp; done) | (simp; omega)) _
    | with_reducible refine Below.trans ?_ (Below.mono (by assumption) (by first | omega | (simp; done) | (simp; omega)))
end Go.Proofs.YtjhfepkpfakemaaDoor

namespace Go.Proofs.YtjhfepkpfakemaaDoor
set_option linter.all false
open Go.RowKit

/-- Digit q of a number that has q digits and r bytes. -/
theorem dg_top {q r k N c : Nat} (hq : q < 4) (hr : r < 8) (hN : N < 256 ^ (8 * q + r)) (hc : c < 256) (hk : k < 4) :
    dg k (N + c * 256 ^ (8 * q + r)) = if k = q then dg q N + c * 256 ^ r else dg k N := by
  have e : (256 : Nat) ^ (8 * q + r) = W ^ q * 256 ^ r := by rw [W_256, ← Nat.pow_mul, ← Nat.pow_add]
  rw [e] at hN ⊢
  obtain ⟨u, hu⟩ : ∃ u, u = 256 ^ r := ⟨_, rfl⟩
  have hu8 : u * 256 ≤ W := by
    rw [hu, W_256, ← Nat.pow_succ]; exact Nat.pow_le_pow_right (by decide) (by omega)
  rw [← hu] at hN ⊢
  obtain ⟨m, hm⟩ : ∃ m, m = N / W ^ q := ⟨_, rfl⟩
  obtain ⟨l, hl⟩ : ∃ l, l = N % W ^ q := ⟨_, rfl⟩
  have hWq : 0 < W ^ q := Nat.pow_pos W_pos
  have hNe : N = l + m * W ^ q := by rw [hl, hm, Nat.mul_comm]; exact (Nat.mod_add_div _ _).symm
  have hll : l < W ^ q := by rw [hl]; exact Nat.mod_lt _ hWq
  have hmu : m < u := by rw [hm]; exact Nat.div_lt_of_lt_mul hN
  have hcu : c * u ≤ 255 * u := Nat.mul_le_mul_right _ (by omega)
  obtain ⟨x, hx⟩ : ∃ x, x = c * u := ⟨_, rfl⟩
  rw [show c * (W ^ q * u) = c * u * W ^ q by rw [Nat.mul_comm (W ^ q), Nat.mul_assoc], ← hx]
  rw [← hx] at hcu
  clear hx hc hu hm hl e hN hWq
  subst hNe
  have hq' : q = 0 ∨ q = 1 ∨ q = 2 ∨ q = 3 := by omega
  have hk' : k = 0 ∨ k = 1 ∨ k = 2 ∨ k = 3 := by omega
  rcases hq' with rfl | rfl | rfl | rfl <;> rcases hk' with rfl | rfl | rfl | rfl <;> first | rw [if_pos rfl] | rw [if_neg (by decide)]
  all_goals (unfold dg W at *; omega)

/-- A power of 256, named. -/
def un (r : Nat) : Nat := 256 ^ r
theorem unit_mul {r : Nat} (hr : r < 7) : IntKind.u64.wrap (((un r : Nat) : Int) * 256) = ((un (r + 1) : Nat) : Int) := by
  have h : un (r + 1) < W := by unfold un; rw [W_256]; exact Nat.pow_lt_pow_right (by decide) (by omega)
  have e : un (r + 1) = un r * 256 := by unfold un; rw [Nat.pow_succ]
  rw [IntKind.wrap_u64]
  unfold W at h
  omega

theorem num_set {f : Nat → Nat} (hf : ∀ j, f j < 256) {k q r : Nat} (hk : k < 32) (hq : q = k / 8) (hr : r = k % 8) :
    ([.int .u64 ((dg 0 (le f k) : Nat) : Int), .int .u64 ((dg 1 (le f k) : Nat) : Int), .int .u64 ((dg 2 (le f k) : Nat) : Int), .int .u64 ((dg 3 (le f k) : Nat) : Int)] : List Value).set q
      (.int .u64 (IntKind.u64.wrap (((dg q (le f k) : Nat) : Int) + IntKind.u64.wrap (IntKind.u64.wrap ((f k : Nat) : Int) * ((un r : Nat) : Int))))) =
    [.int .u64 ((dg 0 (le f (k + 1)) : Nat) : Int), .int .u64 ((dg 1 (le f (k + 1)) : Nat) : Int), .int .u64 ((dg 2 (le f (k + 1)) : Nat) : Int), .int .u64 ((dg 3 (le f (k + 1)) : Nat) : Int)] := by
  have hk8 : k = 8 * q + r := by omega
  have hN := le_lt hf k
  have h := hf k
  have D : ∀ j, j < 4 → dg j (le f (k + 1)) = if j = q then dg q (le f k) + f k * un r else dg j (le f k) := fun j hj => by
    rw [le_succ, hk8]
    rw [hk8] at hN h
    exact dg_top (by omega) (by omega) hN h hj
  have hv : IntKind.u64.wrap (((dg q (le f k) : Nat) : Int) + IntKind.u64.wrap (IntKind.u64.wrap ((f k : Nat) : Int) * ((un r : Nat) : Int))) = ((dg q (le f (k + 1)) : Nat) : Int) := by
    have hl := dg_lt q (le f (k + 1))
    have e := D q (by omega)
    rw [if_pos rfl] at e
    have e1 : IntKind.u64.wrap ((f k : Nat) : Int) = ((f k : Nat) : Int) := by rw [IntKind.wrap_u64]; omega
    rw [e1, e]
    rw [e] at hl
    have e2 : ((f k : Nat) : Int) * ((un r : Nat) : Int) = ((f k * un r : Nat) : Int) := by push_cast; rfl
    rw [e2]
    generalize f k * un r = y at hl ⊢
    generalize dg q (le f k) = x at hl ⊢
    rw [IntKind.wrap_u64, IntKind.wrap_u64]
    unfold W at hl
    omega
  rw [hv, D 0 (by omega), D 1 (by omega), D 2 (by omega), D 3 (by omega)]
  have hq4 : q = 0 ∨ q = 1 ∨ q = 2 ∨ q = 3 := by omega
  rcases hq4 with e | e | e | e <;> (rw [D q (by omega), if_pos rfl]; simp [e])

set_option maxRecDepth 100000 in
set_option maxHeartbeats 4000000 in
theorem refNumber_at (f : Nat → Nat) (b off n c : Nat) (hn : n ≤ 32) (w : World) (hB : BytesAt w b off n f) :
    Calls Tryd.prog 52 #[.slice (some ⟨b, off, none⟩) n c] w fun e w' => e = .returned (vec (le f n)) ∧ Below w.heap.size w w' := by
  have HB := Lib.hid hB
  have hblk := hB.blk
  clear hB
  go_enter Tryd.func52, Tryd.ntmps52
  go_wp2_with fail
  go_loopw [4] (fun i wr => ∃ (k m : Nat), k ≤ n ∧ i = .int .i64 (k : Int) ∧ wr = World.drewN ((w.alloc (.cells #[.int .u64 0, .int .u64 0, .int .u64 0, .int .u64 0] 50)).alloc
      (.cells #[.int .u64 ((dg 0 (le f k) : Nat) : Int), .int .u64 ((dg 1 (le f k) : Nat) : Int), .int .u64 ((dg 2 (le f k) : Nat) : Int), .int .u64 ((dg 3 (le f k) : Nat) : Int)] 50)) m) (fun i _ => n - (intOf i).toNat)
  case atStart => exact ⟨0, 0, by omega, rfl, by simp only [le, dg, Nat.zero_div, Nat.zero_mod]; rfl⟩
  case round =>
    obtain ⟨k, m, hk, rfl, rfl⟩ := hrel
    by_cases hlt : k < n
    · have hcell := HB.out.cell k hlt
      go_wp2_with fail
      go_loop [5, 6] (fun u j => ∃ r : Nat, r ≤ k % 8 ∧ j = .int .i64 (r : Int) ∧ u = .int .u64 ((un r : Nat) : Int)) (fun _ j => k % 8 - (intOf j).toNat)
      case atStart => exact ⟨0, by omega, rfl, rfl⟩
      case round =>
        obtain ⟨r, hr, rfl, rfl⟩ := hrel
        by_cases hrt : r < k % 8
        · have hu := unit_mul (r := r) (by omega)
          go_wp2_with fail
          go_round
          case rel => exact ⟨r + 1, by omega, by go_num, rfl⟩
          case measure => simp [intOf]; omega
        · have Hr := Lib.hid (show r = k % 8 by omega)
          have hge : k % 8 ≤ r := by omega
          clear hr hrt
          go_wp2_with fail
          clear hge
          obtain ⟨q, hq⟩ : ∃ q, q = k / 8 := ⟨_, rfl⟩
          have hq4 : q < 4 := by omega
          have hq5 : (q : Int) < 4 := by omega
          have hwr : IntKind.i64.wrap ((k : Int) / 8) = (q : Int) := by rw [IntKind.wrap_i64]; omega
          have Hq := Lib.hid hq
          have d1 := digit_at (le f k) q hq4
          clear hq
          refine region_mix 13 [false, false, false, false, false, false, false, false, false, false, false, false, false] (fun w' => w' = World.drew _) (by kernel_rfl) (by kernel_rfl) (by intro _ _ d _ _ h; cases d <;> exact h) rfl ?_
          simp only [List.take_succ_cons, List.take_zero, List.drop_succ_cons, List.drop_zero]
          with_reducible refine mix_v ?_ ?_ ?_
          · rfl
          · rfl
          apply Exists.intro
          refine ⟨fun w' hC => ?_, ?_⟩
          · subst hC
            go_simp
            rfl
          try simp only [Act.put, List.setIfInBounds_toArray, List.set_cons_zero, List.set_cons_succ, List.tail_cons]
          with_reducible refine mix_v ?_ ?_ ?_
          · rfl
          · rfl
          apply Exists.intro
          refine ⟨fun w' hC => ?_, ?_⟩
          · subst hC
            go_simp
            rfl
          try simp only [Act.put, List.setIfInBounds_toArray, List.set_cons_zero, List.set_cons_succ, List.tail_cons]
          with_reducible refine mix_v ?_ ?_ ?_
          · rfl
          · rfl
          apply Exists.intro
          refine ⟨fun w' hC => ?_, ?_⟩
          · subst hC
            go_simp
            rfl
          try simp only [Act.put, List.setIfInBounds_toArray, List.set_cons_zero, List.set_cons_succ, List.tail_cons]
          with_reducible refine mix_v ?_ ?_ ?_
          · rfl
          · rfl
          apply Exists.intro
          refine ⟨fun w' hC => ?_, ?_⟩
          · subst hC
            go_simp
            rfl
          try simp only [Act.put, List.setIfInBounds_toArray, List.set_cons_zero, List.set_cons_succ, List.tail_cons]
          with_reducible refine mix_v ?_ ?_ ?_
          · rfl
          · rfl
          apply Exists.intro
          refine ⟨fun w' hC => ?_, ?_⟩
          · subst hC
            go_simp
            rfl
          try simp only [Act.put, List.setIfInBounds_toArray, List.set_cons_zero, List.set_cons_succ, List.tail_cons]
          with_reducible refine mix_v ?_ ?_ ?_
          · rfl
          · rfl
          apply Exists.intro
          refine ⟨fun w' hC => ?_, ?_⟩
          · subst hC
            go_simp
            rfl
          try simp only [Act.put, List.setIfInBounds_toArray, List.set_cons_zero, List.set_cons_succ, List.tail_cons]
          with_reducible refine mix_v ?_ ?_ ?_
          · rfl
          · rfl
          apply Exists.intro
          refine ⟨fun w' hC => ?_, ?_⟩
          · subst hC
            go_simp
            rfl
          try simp only [Act.put, List.setIfInBounds_toArray, List.set_cons_zero, List.set_cons_succ, List.tail_cons]
          with_reducible refine mix_v ?_ ?_ ?_
          · rfl
          · rfl
          apply Exists.intro
          refine ⟨fun w' hC => ?_, ?_⟩
          · subst hC
            go_simp
            rfl
          try simp only [Act.put, List.setIfInBounds_toArray, List.set_cons_zero, List.set_cons_succ, List.tail_cons]
          with_reducible refine mix_v ?_ ?_ ?_
          · rfl
          · rfl
          apply Exists.intro
          refine ⟨fun w' hC => ?_, ?_⟩
          · subst hC
            go_simp
            rfl
          try simp only [Act.put, List.setIfInBounds_toArray, List.set_cons_zero, List.set_cons_succ, List.tail_cons]
          with_reducible refine mix_v ?_ ?_ ?_
          · rfl
          · rfl
          apply Exists.intro
          refine ⟨fun w' hC => ?_, ?_⟩
          · subst hC
            go_simp
            rfl
          try simp only [Act.put, List.setIfInBounds_toArray, List.set_cons_zero, List.set_cons_succ, List.tail_cons]
          with_reducible refine mix_v ?_ ?_ ?_
          · rfl
          · rfl
          apply Exists.intro
          refine ⟨fun w' hC => ?_, ?_⟩
          · subst hC
            go_simp
            rfl
          try simp only [Act.put, List.setIfInBounds_toArray, List.set_cons_zero, List.set_cons_succ, List.tail_cons]
          with_reducible refine mix_v ?_ ?_ ?_
          · rfl
          · rfl
          apply Exists.intro
          refine ⟨fun w' hC => ?_, ?_⟩
          · subst hC
            go_simp
            rfl
          try simp only [Act.put, List.setIfInBounds_toArray, List.set_cons_zero, List.set_cons_succ, List.tail_cons]
          with_reducible refine mix_v ?_ ?_ ?_
          · rfl
          · rfl
          apply Exists.intro
          refine ⟨fun w' hC => ?_, ?_⟩
          · subst hC
            go_simp
            rfl
          try simp only [Act.put, List.setIfInBounds_toArray, List.set_cons_zero, List.set_cons_succ, List.tail_cons]
          refine mix_nil ?_
          rintro _ rfl
          go_wp2_with fail
          go_roundw
          case rel => exact ⟨k + 1, m + 1, by omega, by go_num, by rw [num_set HB.out.lt (by omega) Hq.out Hr.out]⟩
          case measure => simp [intOf]; omega
    · obtain rfl : k = n := by omega
      go_wp2_with fail
      refine bodyPost_ret (v := vec (le f k)) (by simp only [results, Tryd.results52]; go_simp) rfl ⟨rfl, ?_⟩
      repeat first
        | with_reducible exact Below.refl _ _
        | with_reducible refine Below.drew ?_
        | with_reducible refine below_dN ?_
        | with_reducible refine Below.alloc ?_ (by first | omega | (simp; done) | (simp; omega)) _
        | with_reducible refine Below.setCell ?_ (by first | omega | (simp; done) | (simp; omega)) _
        | with_reducible refine Below.trans ?_ (Below.mono (by assumption) (by first | omega | (simp; done) | (simp; omega)))
end Go.Proofs.YtjhfepkpfakemaaDoor

namespace Go.Proofs.YtjhfepkpfakemaaDoor
set_option linter.all false
open Go.RowKit

theorem z4 : vec 0 = .agg #[.int .u64 0, .int .u64 0, .int .u64 0, .int .u64 0] := vec_of (a := 0) (b := 0) (c := 0) (d := 0) (by decide) (by decide) (by decide) (by decide)
/-- What Wide gives of 64 bytes, as a value. -/
def wideV (s : Bool) (f : Nat → Nat) : Nat := addm (pr s) (mulm (pr s) 1 (le f 32)) (RR s (mulm (pr s) 1 (le (fun j => f (32 + j)) 32)))
theorem wideV_lt (s : Bool) (f : Nat → Nat) : wideV s f < pr s := addm_lt (pr_pos s) _ _

end Go.Proofs.YtjhfepkpfakemaaDoor

namespace Go.Proofs.YtjhfepkpfakemaaDoor
set_option linter.all false
open Go.RowKit

theorem vec_ne {x y : Nat} (hx : x < R4) (hy : y < R4) (h : x ≠ y) :
    (((dg 0 x : Nat) : Int) == ((dg 0 y : Nat) : Int) && ((dg 1 x : Nat) : Int) == ((dg 1 y : Nat) : Int) && ((dg 2 x : Nat) : Int) == ((dg 2 y : Nat) : Int) && ((dg 3 x : Nat) : Int) == ((dg 3 y : Nat) : Int)) = false := by
  rw [Bool.eq_false_iff]
  intro hh
  simp only [Bool.and_eq_true, beq_iff_eq, Int.natCast_inj] at hh
  apply h
  rw [← val4_dg hx, ← val4_dg hy, hh.1.1.1, hh.1.1.2, hh.1.2, hh.2]
theorem rdc_lt {p v : Nat} (h : v < p) : rdc p v 0 = v := by unfold rdc; rw [if_pos ⟨h, rfl⟩]
theorem rdc_ne {p v : Nat} (hp : 0 < p) (hv : v < R4) (h : ¬ v < p) : rdc p v 0 ≠ v ∧ rdc p v 0 < R4 := by
  have e : rdc p v 0 = v - p := by
    unfold rdc; rw [if_neg (fun hh => h hh.1)]
    unfold subV
    have : (R4 : Nat) = R4 := rfl
    generalize R4 = R at *
    rw [show v + R - p = (v - p) + R by omega, Nat.add_mod_right, Nat.mod_eq_of_lt (by omega)]
  rw [e]
  omega

set_option maxRecDepth 100000 in
set_option maxHeartbeats 2000000 in
theorem refDecode_len (p : Nat) (a : Option Addr) (n c : Nat) (hn : n ≠ 32) (w : World) :
    Calls Tryd.prog 38 #[vec p, .slice a n c] w fun e w' => e = .returned (.tuple #[vec 0, .int .i64 8]) ∧ Below w.heap.size w w' := by
  have hd2 : (((n : Nat) : Int) != 32) = true := by rw [bne_iff_ne]; omega
  clear hn
  go_enter Tryd.func38, Tryd.ntmps38
  go_wp2_with fail
  rw [z4]
  refine bodyPost_ret (v := .tuple #[.agg #[.int .u64 0, .int .u64 0, .int .u64 0, .int .u64 0], .int .i64 8]) (by simp only [results, Tryd.results38]; go_simp) rfl ⟨rfl, ?_⟩
  repeat first
    | with_reducible exact Below.refl _ _
    | with_reducible refine Below.drew ?_
    | with_reducible refine below_dN ?_
    | with_reducible refine Below.alloc ?_ (by first | omega | (simp; done) | (simp; omega)) _
    | with_reducible refine Below.setCell ?_ (by first | omega | (simp; done) | (simp; omega)) _
    | with_reducible refine Below.trans ?_ (Below.mono (by assumption) (by first | omega | (simp; done) | (simp; omega)))

set_option maxRecDepth 100000 in
set_option maxHeartbeats 4000000 in
theorem refDecode_walk (p v r : Nat) (b off c : Nat) (w : World)
    (hn : Hid (∀ w', Below w.heap.size w w' → Calls Tryd.prog 52 #[.slice (some ⟨b, off, none⟩) 32 c] w' fun e w'' => e = .returned (vec v) ∧ Below w'.heap.size w' w''))
    (hs : Hid (∀ w, Calls Tryd.prog 41 #[vec p, vec v, .int .u64 0] w fun e w' => e = .returned (vec r) ∧ Below w.heap.size w w'))
    (g : Nat) (hg : (g = 0 ∧ r = v) ∨ (g = 9 ∧ r ≠ v ∧ r < R4 ∧ v < R4)) :
    Calls Tryd.prog 38 #[vec p, .slice (some ⟨b, off, none⟩) 32 c] w fun e w' => e = .returned (.tuple #[if g = 0 then vec v else vec 0, .int .i64 ((g : Nat) : Int)]) ∧ Below w.heap.size w w' := by
  rcases hg with ⟨rfl, rfl⟩ | ⟨rfl, hne, h1, h2⟩
  · rw [if_pos rfl]
    go_enter Tryd.func38, Tryd.ntmps38
    go_wp2_with fail
    refine Calls.mono (hn.out _ (by repeat first | with_reducible exact Below.refl _ _ | with_reducible refine Below.drew ?_ | with_reducible refine below_dN ?_ | with_reducible refine Below.alloc ?_ (by first | omega | (simp; done) | (simp; omega)) _ | with_reducible refine Below.setCell ?_ (by first | omega | (simp; done) | (simp; omega)) _ | with_reducible refine Below.trans ?_ (Below.mono (by assumption) (by first | omega | (simp; done) | (simp; omega))))) ?_
    rintro _ w1 ⟨rfl, h1⟩
    obtain ⟨c1, f1, s1⟩ := bfacts h1
    try simp only [World.size_alloc, World.size_setCell, size_drew, size_drewN] at s1
    have l_w_w1_0 : w.heap.size < w1.heap.size := by omega
    have l_w_w1_1 : w.heap.size + 1 < w1.heap.size := by omega
    go_wp2_with fail
    refine region_quiet (fun w' => Below (w1.heap.size + 1) _ w') (by kernel_rfl) (by kernel_rfl) below_drew ?_
    with_reducible refine mix_v ?_ ?_ ?_
    · rfl
    · rfl
    apply Exists.intro
    refine ⟨fun w' hC => ?_, ?_⟩
    · have hcell := below_cells hC
      clear hC
      go_simp
      rfl
    try simp only [Act.put, List.setIfInBounds_toArray, List.set_cons_zero, List.set_cons_succ, List.tail_cons]
    with_reducible refine mix_v ?_ ?_ ?_
    · rfl
    · rfl
    apply Exists.intro
    refine ⟨fun w' hC => ?_, ?_⟩
    · have hcell := below_cells hC
      clear hC
      go_simp
      rfl
    try simp only [Act.put, List.setIfInBounds_toArray, List.set_cons_zero, List.set_cons_succ, List.tail_cons]
    with_reducible refine mix_c ?_ ?_ ?_
    · rfl
    · rfl
    apply Exists.intro
    apply Exists.intro
    apply Exists.intro
    refine ⟨fun w' hC => ?_, fun w' hC => ?_, ?_⟩
    · have hcell := below_cells hC
      clear hC
      go_simp
      exact ⟨rfl, rfl⟩
    · exact below_of hC (by simp) (hs.out _)
    try simp only [Act.put, List.setIfInBounds_toArray, List.set_cons_zero, List.set_cons_succ, List.tail_cons]
    with_reducible refine mix_v ?_ ?_ ?_
    · rfl
    · rfl
    apply Exists.intro
    refine ⟨fun w' hC => ?_, ?_⟩
    · have hcell := below_cells hC
      clear hC
      go_simp
      rfl
    try simp only [Act.put, List.setIfInBounds_toArray, List.set_cons_zero, List.set_cons_succ, List.tail_cons]
    with_reducible refine mix_v ?_ ?_ ?_
    · rfl
    · rfl
    apply Exists.intro
    refine ⟨fun w' hC => ?_, ?_⟩
    · have hcell := below_cells hC
      clear hC
      go_simp
      rfl
    try simp only [Act.put, List.setIfInBounds_toArray, List.set_cons_zero, List.set_cons_succ, List.tail_cons]
    refine mix_nil ?_
    intro w3 h3
    obtain ⟨c3, f3, s3⟩ := bfactsB h3
    try simp only [World.size_alloc, World.size_setCell, size_drew, size_drewN] at s3
    go_wp2_with fail
    refine bodyPost_ret (v := .tuple #[vec r, .int .i64 0]) (by simp only [results, Tryd.results38]; go_simp) rfl ⟨rfl, ?_⟩
    repeat first
      | with_reducible exact Below.refl _ _
      | with_reducible refine Below.drew ?_
      | with_reducible refine below_dN ?_
      | with_reducible refine Below.alloc ?_ (by first | omega | (simp; done) | (simp; omega)) _
      | with_reducible refine Below.setCell ?_ (by first | omega | (simp; done) | (simp; omega)) _
      | with_reducible refine Below.trans ?_ (Below.mono (by assumption) (by first | omega | (simp; done) | (simp; omega)))
  · have hx := vec_ne h1 h2 hne
    clear hne h1 h2
    rw [if_neg (by decide)]
    go_enter Tryd.func38, Tryd.ntmps38
    go_wp2_with fail
    refine Calls.mono (hn.out _ (by repeat first | with_reducible exact Below.refl _ _ | with_reducible refine Below.drew ?_ | with_reducible refine below_dN ?_ | with_reducible refine Below.alloc ?_ (by first | omega | (simp; done) | (simp; omega)) _ | with_reducible refine Below.setCell ?_ (by first | omega | (simp; done) | (simp; omega)) _ | with_reducible refine Below.trans ?_ (Below.mono (by assumption) (by first | omega | (simp; done) | (simp; omega))))) ?_
    rintro _ w1 ⟨rfl, h1⟩
    obtain ⟨c1, f1, s1⟩ := bfacts h1
    try simp only [World.size_alloc, World.size_setCell, size_drew, size_drewN] at s1
    have l_w_w1_0 : w.heap.size < w1.heap.size := by omega
    have l_w_w1_1 : w.heap.size + 1 < w1.heap.size := by omega
    go_wp2_with fail
    refine region_quiet (fun w' => Below (w1.heap.size + 1) _ w') (by kernel_rfl) (by kernel_rfl) below_drew ?_
    with_reducible refine mix_v ?_ ?_ ?_
    · rfl
    · rfl
    apply Exists.intro
    refine ⟨fun w' hC => ?_, ?_⟩
    · have hcell := below_cells hC
      clear hC
      go_simp
      rfl
    try simp only [Act.put, List.setIfInBounds_toArray, List.set_cons_zero, List.set_cons_succ, List.tail_cons]
    with_reducible refine mix_v ?_ ?_ ?_
    · rfl
    · rfl
    apply Exists.intro
    refine ⟨fun w' hC => ?_, ?_⟩
    · have hcell := below_cells hC
      clear hC
      go_simp
      rfl
    try simp only [Act.put, List.setIfInBounds_toArray, List.set_cons_zero, List.set_cons_succ, List.tail_cons]
    with_reducible refine mix_c ?_ ?_ ?_
    · rfl
    · rfl
    apply Exists.intro
    apply Exists.intro
    apply Exists.intro
    refine ⟨fun w' hC => ?_, fun w' hC => ?_, ?_⟩
    · have hcell := below_cells hC
      clear hC
      go_simp
      exact ⟨rfl, rfl⟩
    · exact below_of hC (by simp) (hs.out _)
    try simp only [Act.put, List.setIfInBounds_toArray, List.set_cons_zero, List.set_cons_succ, List.tail_cons]
    with_reducible refine mix_v ?_ ?_ ?_
    · rfl
    · rfl
    apply Exists.intro
    refine ⟨fun w' hC => ?_, ?_⟩
    · have hcell := below_cells hC
      clear hC
      go_simp
      rfl
    try simp only [Act.put, List.setIfInBounds_toArray, List.set_cons_zero, List.set_cons_succ, List.tail_cons]
    with_reducible refine mix_v ?_ ?_ ?_
    · rfl
    · rfl
    apply Exists.intro
    refine ⟨fun w' hC => ?_, ?_⟩
    · have hcell := below_cells hC
      clear hC
      go_simp
      rfl
    try simp only [Act.put, List.setIfInBounds_toArray, List.set_cons_zero, List.set_cons_succ, List.tail_cons]
    refine mix_nil ?_
    intro w3 h3
    obtain ⟨c3, f3, s3⟩ := bfactsB h3
    try simp only [World.size_alloc, World.size_setCell, size_drew, size_drewN] at s3
    go_wp2_with fail
    rw [z4]
    refine bodyPost_ret (v := .tuple #[.agg #[.int .u64 0, .int .u64 0, .int .u64 0, .int .u64 0], .int .i64 9]) (by simp only [results, Tryd.results38]; go_simp) rfl ⟨rfl, ?_⟩
    repeat first
      | with_reducible exact Below.refl _ _
      | with_reducible refine Below.drew ?_
      | with_reducible refine below_dN ?_
      | with_reducible refine Below.alloc ?_ (by first | omega | (simp; done) | (simp; omega)) _
      | with_reducible refine Below.setCell ?_ (by first | omega | (simp; done) | (simp; omega)) _
      | with_reducible refine Below.trans ?_ (Below.mono (by assumption) (by first | omega | (simp; done) | (simp; omega)))

theorem refDecode_ok (p : Nat) (b off c : Nat) (f : Nat → Nat) (w : World) (hp4 : p < R4) (hB : BytesAt w b off 32 f) (hp : le f 32 < p) :
    Calls Tryd.prog 38 #[vec p, .slice (some ⟨b, off, none⟩) 32 c] w fun e w' => e = .returned (.tuple #[vec (le f 32), .int .i64 0]) ∧ Below w.heap.size w w' := by
  have h := refDecode_walk p (le f 32) (rdc p (le f 32) 0) b off c w (Lib.hid fun w' hw => refNumber_at f b off 32 c (by omega) w' (hB.below hw)) (Lib.hid (refSubtract_c p (le f 32) 0 hp4 (le32_lt hB.lt))) 0 (.inl ⟨rfl, rdc_lt hp⟩)
  rwa [if_pos rfl] at h
theorem refDecode_big (p : Nat) (b off c : Nat) (f : Nat → Nat) (w : World) (hp4 : p < R4) (hp0 : 0 < p) (hB : BytesAt w b off 32 f) (hp : ¬ le f 32 < p) :
    Calls Tryd.prog 38 #[vec p, .slice (some ⟨b, off, none⟩) 32 c] w fun e w' => e = .returned (.tuple #[vec 0, .int .i64 9]) ∧ Below w.heap.size w w' := by
  have h := refDecode_walk p (le f 32) (rdc p (le f 32) 0) b off c w (Lib.hid fun w' hw => refNumber_at f b off 32 c (by omega) w' (hB.below hw)) (Lib.hid (refSubtract_c p (le f 32) 0 hp4 (le32_lt hB.lt))) 9
    (.inr ⟨rfl, (rdc_ne hp0 (le32_lt hB.lt) hp).1, (rdc_ne hp0 (le32_lt hB.lt) hp).2, le32_lt hB.lt⟩)
  rwa [if_neg (by decide)] at h

end Go.Proofs.YtjhfepkpfakemaaDoor

namespace Go.Proofs.YtjhfepkpfakemaaDoor
set_option linter.all false
open Go Go.RowKit

/-- A slice of n bytes, nil and empty ones let in. -/
structure SliceAt (w : World) (a : Option Addr) (n : Nat) (f : Nat → Nat) : Prop where
  lt : ∀ j, f j < 256
  at_ : n = 0 ∨ ∃ b off, a = some ⟨b, off, none⟩ ∧ BytesAt w b off n f
theorem SliceAt.below {w w' : World} {a : Option Addr} {n : Nat} {f : Nat → Nat} (h : SliceAt w a n f) (hb : Below w.heap.size w w') : SliceAt w' a n f :=
  ⟨h.lt, h.at_.imp id fun ⟨b, off, e, hB⟩ => ⟨b, off, e, hB.below hb⟩⟩
theorem SliceAt.pos {w : World} {a : Option Addr} {n : Nat} {f : Nat → Nat} (h : SliceAt w a n f) (hn : 0 < n) : ∃ b off, a = some ⟨b, off, none⟩ ∧ BytesAt w b off n f := h.at_.resolve_left (by omega)
theorem BytesAt.slice {w : World} {b off n : Nat} {f : Nat → Nat} (h : BytesAt w b off n f) : SliceAt w (some ⟨b, off, none⟩) n f := ⟨h.lt, .inr ⟨b, off, rfl, h⟩⟩

/-- The bytes f up to n, then zeros. -/
def pad (f : Nat → Nat) (n j : Nat) : Nat := if j < n then f j else 0
theorem pad_lt {f : Nat → Nat} (hf : ∀ j, f j < 256) (n j : Nat) : pad f n j < 256 := by unfold pad; split; exact hf j; decide
theorem le_pad (f : Nat → Nat) (n m : Nat) (h : n ≤ m) : le (pad f n) m = le f n := by
  rw [le_zero n m (fun j h1 _ => by unfold pad; rw [if_neg (by omega)]) h]
  exact le_congr n fun j hj => by unfold pad; rw [if_pos hj]
def zeros32 : List Value := [.int .u8 0, .int .u8 0, .int .u8 0, .int .u8 0, .int .u8 0, .int .u8 0, .int .u8 0, .int .u8 0, .int .u8 0, .int .u8 0, .int .u8 0, .int .u8 0, .int .u8 0, .int .u8 0, .int .u8 0, .int .u8 0,
  .int .u8 0, .int .u8 0, .int .u8 0, .int .u8 0, .int .u8 0, .int .u8 0, .int .u8 0, .int .u8 0, .int .u8 0, .int .u8 0, .int .u8 0, .int .u8 0, .int .u8 0, .int .u8 0, .int .u8 0, .int .u8 0]
def fl (f : Nat → Nat) (n : Nat) : List Value := (List.range n).map fun j => Value.int .u8 ((f j : Nat) : Int)
theorem fl_len (f : Nat → Nat) (n : Nat) : (fl f n).length = n := by simp [fl]
theorem fl_get (f : Nat → Nat) (n j : Nat) (h : j < n) : (fl f n)[j]? = some (.int .u8 ((f j : Nat) : Int)) := by simp [fl, h]
theorem fl_one (f : Nat → Nat) (n : Nat) : ∀ v ∈ fl f n, v.oneCell' = true := fun v hv => by
  simp only [fl, List.mem_map] at hv
  obtain ⟨j, _, rfl⟩ := hv
  rfl
theorem zeros_get {j : Nat} (h : j < 32) : zeros32[j]? = some (.int .u8 0) := by
  have : zeros32 = List.replicate 32 (.int .u8 0) := rfl
  rw [this, List.getElem?_replicate, if_pos h]
theorem padded_at {w : World} {g n : Nat} {f : Nat → Nat} {t : TypeId} (hf : ∀ j, f j < 256) (hn : n ≤ 32) (h : w.heap[g]? = some (.cells (splice zeros32 0 (fl f n)).toArray t (0, 0))) : BytesAt w g 0 32 (pad f n) := by
  refine ⟨pad_lt hf n, (Array.getElem?_eq_some_iff.1 h).1, fun j hj => ?_⟩
  rw [Nat.zero_add, cell_of_row w g j _ _ _ h]
  simp only [splice, List.take_zero, List.nil_append, Nat.zero_add, fl_len, List.getElem?_toArray]
  unfold pad
  by_cases hjn : j < n
  · rw [List.getElem?_append_left (by rw [fl_len]; exact hjn), fl_get f n j hjn, if_pos hjn]
  · rw [List.getElem?_append_right (by rw [fl_len]; omega), fl_len, List.getElem?_drop, show n + (j - n) = j by omega, zeros_get hj, if_neg hjn]
    rfl
theorem heap_alloc_at {w : World} {o : Obj} {g : Nat} (h : w.heap.size = g) : (w.alloc o).heap[g]? = some o := by subst h; exact heap_alloc_new w o
theorem SliceAt.src {w : World} {a : Option Addr} {n : Nat} {f : Nat → Nat} (h : SliceAt w a n f) (hp : 0 < (fl f n).length) : ∃ ad, a = some ad ∧ ∀ j v, (fl f n)[j]? = some v → w.cell? (ad.add j) = some v := by
  rw [fl_len] at hp
  obtain ⟨b, off, rfl, hB⟩ := h.pos hp
  refine ⟨_, rfl, fun j v hv => ?_⟩
  have hj : j < n := by have := (List.getElem?_eq_some_iff.1 hv).1; rwa [fl_len] at this
  rw [fl_get f n j hj] at hv
  cases hv
  have e : (⟨b, off, none⟩ : Addr).add j = ⟨b, off + j, none⟩ := by unfold Addr.add; split <;> simp_all
  rw [e]
  exact hB.cell j hj
theorem byteCells : (Tryd.prog.info? 5).map (·.size) = some 1 := by kernel_rfl

end Go.Proofs.YtjhfepkpfakemaaDoor
