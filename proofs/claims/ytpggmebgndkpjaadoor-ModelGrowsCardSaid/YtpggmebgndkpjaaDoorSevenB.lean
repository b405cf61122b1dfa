/- The contract of bytecode.Decode. The contract of the reference's Number. The contracts of bytecode.Wide and of the reference's Wide and Decode. The contracts of the reference's Decode and Wide. The contract of bytecode.Pack; a slice that may be nil. -/
import Derived.Test.YtpggmebgndkpjaaDoorSevenA
import Derived.Test.YtpggmebgndkpjaaDoorLaws5
import Derived.Test.YtpggmebgndkpjaaDoorWalk0
import Derived.Test.YtpggmebgndkpjaaDoorRefs
import Derived.Laws.CopyOwn
namespace Go.Proofs.YtpggmebgndkpjaaDoor
set_option linter.all false
open Go.RowKit

end Go.Proofs.YtpggmebgndkpjaaDoor

namespace Go.Proofs.YtpggmebgndkpjaaDoor
set_option linter.all false
open Go.RowKit

/-- Digit q of a number that has q digits and r bytes. -/
theorem dg_top {q r k N c : Nat} (hq : q < 4) (hr : r < 8) (hN : N < 256 ^ (8 * q + r)) (hc : c < 256) (hk : k < 4) :
    dg k (N + c * 256 ^ (8 * q + r)) = if k = q then dg q N + c * 256 ^ r else dg k N := by
  have e : (256 : Nat) ^ (8 * q + r) = W ^ q * 256 ^ r := by rw [W_256, ← Nat.pow_mul, ← Nat.pow_add]
  rw [e] at hN ⊢
  obtain ⟨u, hu⟩ : ∃ u, u = 256 ^ r := ⟨_, rfl⟩
  have hu8 : u * 256 ≤ W := by
    rw [hu, W_256, ← Nat.pow_succ]; exact Nat.pow_le_pow_right (by decide) (by omega)
  rw [← hu] at hN ⊢
  obtain ⟨m, hm⟩ : ∃ m, m = N / W ^ q := ⟨_, rfl⟩
  obtain ⟨l, hl⟩ : ∃ l, l = N % W ^ q := ⟨_, rfl⟩
  have hWq : 0 < W ^ q := Nat.pow_pos W_pos
  have hNe : N = l + m * W ^ q := by rw [hl, hm, Nat.mul_comm]; exact (Nat.mod_add_div _ _).symm
  have hll : l < W ^ q := by rw [hl]; exact Nat.mod_lt _ hWq
  have hmu : m < u := by rw [hm]; exact Nat.div_lt_of_lt_mul hN
  have hcu : c * u ≤ 255 * u := Nat.mul_le_mul_right _ (by omega)
  obtain ⟨x, hx⟩ : ∃ x, x = c * u := ⟨_, rfl⟩
  rw [show c * (W ^ q * u) = c * u * W ^ q by rw [Nat.mul_comm (W ^ q), Nat.mul_assoc], ← hx]
  rw [← hx] at hcu
  clear hx hc hu hm hl e hN hWq
  subst hNe
  have hq' : q = 0 ∨ q = 1 ∨ q = 2 ∨ q = 3 := by omega
  have hk' : k = 0 ∨ k = 1 ∨ k = 2 ∨ k = 3 := by omega
  rcases hq' with rfl | rfl | rfl | rfl <;> rcases hk' with rfl | rfl | rfl | rfl <;> first | rw [if_pos rfl] | rw [if_neg (by decide)]
  all_goals (unfold dg W at *; omega)

/-- A power of 256, named. -/
def un (r : Nat) : Nat := 256 ^ r
theorem unit_mul {r : Nat} (hr : r < 7) : IntKind.u64.wrap (((un r : Nat) : Int) * 256) = ((un (r + 1) : Nat) : Int) := by
  have h : un (r + 1) < W := by unfold un; rw [W_256]; exact Nat.pow_lt_pow_right (by decide) (by omega)
  have e : un (r + 1) = un r * 256 := by unfold un; rw [Nat.pow_succ]
  rw [IntKind.wrap_u64]
  unfold W at h
  omega

theorem num_set {f : Nat → Nat} (hf : ∀ j, f j < 256) {k q r : Nat} (hk : k < 32) (hq : q = k / 8) (hr : r = k % 8) :
    ([.int .u64 ((dg 0 (le f k) : Nat) : Int), .int .u64 ((dg 1 (le f k) : Nat) : Int), .int .u64 ((dg 2 (le f k) : Nat) : Int), .int .u64 ((dg 3 (le f k) : Nat) : Int)] : List Value).set q
      (.int .u64 (IntKind.u64.wrap (((dg q (le f k) : Nat) : Int) + IntKind.u64.wrap (IntKind.u64.wrap ((f k : Nat) : Int) * ((un r : Nat) : Int))))) =
    [.int .u64 ((dg 0 (le f (k + 1)) : Nat) : Int), .int .u64 ((dg 1 (le f (k + 1)) : Nat) : Int), .int .u64 ((dg 2 (le f (k + 1)) : Nat) : Int), .int .u64 ((dg 3 (le f (k + 1)) : Nat) : Int)] := by
  have hk8 : k = 8 * q + r := by omega
  have hN := le_lt hf k
  have h := hf k
  have D : ∀ j, j < 4 → dg j (le f (k + 1)) = if j = q then dg q (le f k) + f k * un r else dg j (le f k) := fun j hj => by
    rw [le_succ, hk8]
    rw [hk8] at hN h
    exact dg_top (by omega) (by omega) hN h hj
  have hv : IntKind.u64.wrap (((dg q (le f k) : Nat) : Int) + IntKind.u64.wrap (IntKind.u64.wrap ((f k : Nat) : Int) * ((un r : Nat) : Int))) = ((dg q (le f (k + 1)) : Nat) : Int) := by
    have hl := dg_lt q (le f (k + 1))
    have e := D q (by omega)
    rw [if_pos rfl] at e
    have e1 : IntKind.u64.wrap ((f k : Nat) : Int) = ((f k : Nat) : Int) := by rw [IntKind.wrap_u64]; omega
    rw [e1, e]
    rw [e] at hl
    have e2 : ((f k : Nat) : Int) * ((un r : Nat) : Int) = ((f k * un r : Nat) : Int) := by push_cast; rfl
    rw [e2]
    generalize f k * un r = y at hl ⊢
    generalize dg q (le f k) = x at hl ⊢
    rw [IntKind.wrap_u64, IntKind.wrap_u64]
    unfold W at hl
    omega
  rw [hv, D 0 (by omega), D 1 (by omega), D 2 (by omega), D 3 (by omega)]
  have hq4 : q = 0 ∨ q = 1 ∨ q = 2 ∨ q = 3 := by omega
  rcases hq4 with e | e | e | e <;> (rw [D q (by omega), if_pos rfl]; simp [e])

set_option maxRecDepth 100000 in
set_option maxHeartbeats 4000000 in
theorem refNumber_at (f : Nat → Nat) (b off n c : Nat) (hn : n ≤ 32) (w : World) (hB : BytesAt w b off n f) :
    Calls Tryd.prog 65 #[.slice (some ⟨b, off, none⟩) n c] w fun e w' => e = .returned (vec (le f n)) ∧ Below w.heap.size w w' := by
  have HB := Lib.hid hB
  have hblk := hB.blk
  clear hB
  go_enter Tryd.func65, Tryd.ntmps65
  go_wp2_with fail
  go_loopw [4] (fun i wr => ∃ (k m : Nat), k ≤ n ∧ i = .int .i64 (k : Int) ∧ wr = World.drewN ((w.alloc (.cells #[.int .u64 0, .int .u64 0, .int .u64 0, .int .u64 0] 44)).alloc
      (.cells #[.int .u64 ((dg 0 (le f k) : Nat) : Int), .int .u64 ((dg 1 (le f k) : Nat) : Int), .int .u64 ((dg 2 (le f k) : Nat) : Int), .int .u64 ((dg 3 (le f k) : Nat) : Int)] 44)) m) (fun i _ => n - (intOf i).toNat)
  case atStart => exact ⟨0, 0, by omega, rfl, by simp only [le, dg, Nat.zero_div, Nat.zero_mod]; rfl⟩
  case round =>
    obtain ⟨k, m, hk, rfl, rfl⟩ := hrel
    by_cases hlt : k < n
    · have hcell := HB.out.cell k hlt
      go_wp2_with fail
      go_loop [5, 6] (fun u j => ∃ r : Nat, r ≤ k % 8 ∧ j = .int .i64 (r : Int) ∧ u = .int .u64 ((un r : Nat) : Int)) (fun _ j => k % 8 - (intOf j).toNat)
      case atStart => exact ⟨0, by omega, rfl, rfl⟩
      case round =>
        obtain ⟨r, hr, rfl, rfl⟩ := hrel
        by_cases hrt : r < k % 8
        · have hu := unit_mul (r := r) (by omega)
          go_wp2_with fail
          go_round
          case rel => exact ⟨r + 1, by omega, by go_num, rfl⟩
          case measure => simp [intOf]; omega
        · have Hr := Lib.hid (show r = k % 8 by omega)
          have hge : k % 8 ≤ r := by omega
          clear hr hrt
          go_wp2_with fail
          clear hge
          obtain ⟨q, hq⟩ : ∃ q, q = k / 8 := ⟨_, rfl⟩
          have hq4 : q < 4 := by omega
          have hq5 : (q : Int) < 4 := by omega
          have hwr : IntKind.i64.wrap ((k : Int) / 8) = (q : Int) := by rw [IntKind.wrap_i64]; omega
          have Hq := Lib.hid hq
          have d1 := digit_at (le f k) q hq4
          clear hq
          refine region_mix 13 [false, false, false, false, false, false, false, false, false, false, false, false, false] (fun w' => w' = World.drew _) (by kernel_rfl) (by kernel_rfl) (by intro _ _ d _ _ h; cases d <;> exact h) rfl ?_
          simp only [List.take_succ_cons, List.take_zero, List.drop_succ_cons, List.drop_zero]
          with_reducible refine mix_v ?_ ?_ ?_
          · rfl
          · rfl
          apply Exists.intro
          refine ⟨fun w' hC => ?_, ?_⟩
          · subst hC
            go_simp
            rfl
          try simp only [Act.put, List.setIfInBounds_toArray, List.set_cons_zero, List.set_cons_succ, List.tail_cons]
          with_reducible refine mix_v ?_ ?_ ?_
          · rfl
          · rfl
          apply Exists.intro
          refine ⟨fun w' hC => ?_, ?_⟩
          · subst hC
            go_simp
            rfl
          try simp only [Act.put, List.setIfInBounds_toArray, List.set_cons_zero, List.set_cons_succ, List.tail_cons]
          with_reducible refine mix_v ?_ ?_ ?_
          · rfl
          · rfl
          apply Exists.intro
          refine ⟨fun w' hC => ?_, ?_⟩
          · subst hC
            go_simp
            rfl
          try simp only [Act.put, List.setIfInBounds_toArray, List.set_cons_zero, List.set_cons_succ, List.tail_cons]
          with_reducible refine mix_v ?_ ?_ ?_
          · rfl
          · rfl
          apply Exists.intro
          refine ⟨fun w' hC => ?_, ?_⟩
          · subst hC
            go_simp
            rfl
          try simp only [Act.put, List.setIfInBounds_toArray, List.set_cons_zero, List.set_cons_succ, List.tail_cons]
          with_reducible refine mix_v ?_ ?_ ?_
          · rfl
          · rfl
          apply Exists.intro
          refine ⟨fun w' hC => ?_, ?_⟩
          · subst hC
            go_simp
            rfl
          try simp only [Act.put, List.setIfInBounds_toArray, List.set_cons_zero, List.set_cons_succ, List.tail_cons]
          with_reducible refine mix_v ?_ ?_ ?_
          · rfl
          · rfl
          apply Exists.intro
          refine ⟨fun w' hC => ?_, ?_⟩
          · subst hC
            go_simp
            rfl
          try simp only [Act.put, List.setIfInBounds_toArray, List.set_cons_zero, List.set_cons_succ, List.tail_cons]
          with_reducible refine mix_v ?_ ?_ ?_
          · rfl
          · rfl
          apply Exists.intro
          refine ⟨fun w' hC => ?_, ?_⟩
          · subst hC
            go_simp
            rfl
          try simp only [Act.put, List.setIfInBounds_toArray, List.set_cons_zero, List.set_cons_succ, List.tail_cons]
          with_reducible refine mix_v ?_ ?_ ?_
          · rfl
          · rfl
          apply Exists.intro
          refine ⟨fun w' hC => ?_, ?_⟩
          · subst hC
            go_simp
            rfl
          try simp only [Act.put, List.setIfInBounds_toArray, List.set_cons_zero, List.set_cons_succ, List.tail_cons]
          with_reducible refine mix_v ?_ ?_ ?_
          · rfl
          · rfl
          apply Exists.intro
          refine ⟨fun w' hC => ?_, ?_⟩
          · subst hC
            go_simp
            rfl
          try simp only [Act.put, List.setIfInBounds_toArray, List.set_cons_zero, List.set_cons_succ, List.tail_cons]
          with_reducible refine mix_v ?_ ?_ ?_
          · rfl
          · rfl
          apply Exists.intro
          refine ⟨fun w' hC => ?_, ?_⟩
          · subst hC
            go_simp
            rfl
          try simp only [Act.put, List.setIfInBounds_toArray, List.set_cons_zero, List.set_cons_succ, List.tail_cons]
          with_reducible refine mix_v ?_ ?_ ?_
          · rfl
          · rfl
          apply Exists.intro
          refine ⟨fun w' hC => ?_, ?_⟩
          · subst hC
            go_simp
            rfl
          try simp only [Act.put, List.setIfInBounds_toArray, List.set_cons_zero, List.set_cons_succ, List.tail_cons]
          with_reducible refine mix_v ?_ ?_ ?_
          · rfl
          · rfl
          apply Exists.intro
          refine ⟨fun w' hC => ?_, ?_⟩
          · subst hC
            go_simp
            rfl
          try simp only [Act.put, List.setIfInBounds_toArray, List.set_cons_zero, List.set_cons_succ, List.tail_cons]
          with_reducible refine mix_v ?_ ?_ ?_
          · rfl
          · rfl
          apply Exists.intro
          refine ⟨fun w' hC => ?_, ?_⟩
          · subst hC
            go_simp
            rfl
          try simp only [Act.put, List.setIfInBounds_toArray, List.set_cons_zero, List.set_cons_succ, List.tail_cons]
          refine mix_nil ?_
          rintro _ rfl
          go_wp2_with fail
          go_roundw
          case rel => exact ⟨k + 1, m + 1, by omega, by go_num, by rw [num_set HB.out.lt (by omega) Hq.out Hr.out]⟩
          case measure => simp [intOf]; omega
    · obtain rfl : k = n := by omega
      go_wp2_with fail
      refine bodyPost_ret (v := vec (le f k)) (by simp only [results, Tryd.results65]; go_simp) rfl ⟨rfl, ?_⟩
      repeat first
        | with_reducible exact Below.refl _ _
        | with_reducible refine Below.drew ?_
        | with_reducible refine below_dN ?_
        | with_reducible refine Below.alloc ?_ (by first | omega | (simp; done) | (simp; omega)) _
        | with_reducible refine Below.setCell ?_ (by first | omega | (simp; done) | (simp; omega)) _
        | with_reducible refine Below.trans ?_ (Below.mono (by assumption) (by first | omega | (simp; done) | (simp; omega)))
end Go.Proofs.YtpggmebgndkpjaaDoor

namespace Go.Proofs.YtpggmebgndkpjaaDoor
set_option linter.all false
open Go.RowKit

theorem z4 : vec 0 = .agg #[.int .u64 0, .int .u64 0, .int .u64 0, .int .u64 0] := vec_of (a := 0) (b := 0) (c := 0) (d := 0) (by decide) (by decide) (by decide) (by decide)
/-- What Wide gives of 64 bytes, as a value. -/
def wideV (s : Bool) (f : Nat → Nat) : Nat := addm (pr s) (mulm (pr s) 1 (le f 32)) (RR s (mulm (pr s) 1 (le (fun j => f (32 + j)) 32)))
theorem wideV_lt (s : Bool) (f : Nat → Nat) : wideV s f < pr s := addm_lt (pr_pos s) _ _

end Go.Proofs.YtpggmebgndkpjaaDoor

namespace Go.Proofs.YtpggmebgndkpjaaDoor
set_option linter.all false
open Go.RowKit

theorem vec_ne {x y : Nat} (hx : x < R4) (hy : y < R4) (h : x ≠ y) :
    (((dg 0 x : Nat) : Int) == ((dg 0 y : Nat) : Int) && ((dg 1 x : Nat) : Int) == ((dg 1 y : Nat) : Int) && ((dg 2 x : Nat) : Int) == ((dg 2 y : Nat) : Int) && ((dg 3 x : Nat) : Int) == ((dg 3 y : Nat) : Int)) = false := by
  rw [Bool.eq_false_iff]
  intro hh
  simp only [Bool.and_eq_true, beq_iff_eq, Int.natCast_inj] at hh
  apply h
  rw [← val4_dg hx, ← val4_dg hy, hh.1.1.1, hh.1.1.2, hh.1.2, hh.2]
theorem rdc_lt {p v : Nat} (h : v < p) : rdc p v 0 = v := by unfold rdc; rw [if_pos ⟨h, rfl⟩]
theorem rdc_ne {p v : Nat} (hp : 0 < p) (hv : v < R4) (h : ¬ v < p) : rdc p v 0 ≠ v ∧ rdc p v 0 < R4 := by
  have e : rdc p v 0 = v - p := by
    unfold rdc; rw [if_neg (fun hh => h hh.1)]
    unfold subV
    have : (R4 : Nat) = R4 := rfl
    generalize R4 = R at *
    rw [show v + R - p = (v - p) + R by omega, Nat.add_mod_right, Nat.mod_eq_of_lt (by omega)]
  rw [e]
  omega

end Go.Proofs.YtpggmebgndkpjaaDoor

namespace Go.Proofs.YtpggmebgndkpjaaDoor
set_option linter.all false
open Go Go.RowKit

/-- A slice of n bytes, nil and empty ones let in. -/
structure SliceAt (w : World) (a : Option Addr) (n : Nat) (f : Nat → Nat) : Prop where
  lt : ∀ j, f j < 256
  at_ : n = 0 ∨ ∃ b off, a = some ⟨b, off, none⟩ ∧ BytesAt w b off n f
theorem SliceAt.below {w w' : World} {a : Option Addr} {n : Nat} {f : Nat → Nat} (h : SliceAt w a n f) (hb : Below w.heap.size w w') : SliceAt w' a n f :=
  ⟨h.lt, h.at_.imp id fun ⟨b, off, e, hB⟩ => ⟨b, off, e, hB.below hb⟩⟩
theorem SliceAt.pos {w : World} {a : Option Addr} {n : Nat} {f : Nat → Nat} (h : SliceAt w a n f) (hn : 0 < n) : ∃ b off, a = some ⟨b, off, none⟩ ∧ BytesAt w b off n f := h.at_.resolve_left (by omega)
theorem BytesAt.slice {w : World} {b off n : Nat} {f : Nat → Nat} (h : BytesAt w b off n f) : SliceAt w (some ⟨b, off, none⟩) n f := ⟨h.lt, .inr ⟨b, off, rfl, h⟩⟩

/-- The bytes f up to n, then zeros. -/
def pad (f : Nat → Nat) (n j : Nat) : Nat := if j < n then f j else 0
theorem pad_lt {f : Nat → Nat} (hf : ∀ j, f j < 256) (n j : Nat) : pad f n j < 256 := by unfold pad; split; exact hf j; decide
theorem le_pad (f : Nat → Nat) (n m : Nat) (h : n ≤ m) : le (pad f n) m = le f n := by
  rw [le_zero n m (fun j h1 _ => by unfold pad; rw [if_neg (by omega)]) h]
  exact le_congr n fun j hj => by unfold pad; rw [if_pos hj]
def zeros32 : List Value := [.int .u8 0, .int .u8 0, .int .u8 0, .int .u8 0, .int .u8 0, .int .u8 0, .int .u8 0, .int .u8 0, .int .u8 0, .int .u8 0, .int .u8 0, .int .u8 0, .int .u8 0, .int .u8 0, .int .u8 0, .int .u8 0,
  .int .u8 0, .int .u8 0, .int .u8 0, .int .u8 0, .int .u8 0, .int .u8 0, .int .u8 0, .int .u8 0, .int .u8 0, .int .u8 0, .int .u8 0, .int .u8 0, .int .u8 0, .int .u8 0, .int .u8 0, .int .u8 0]
def fl (f : Nat → Nat) (n : Nat) : List Value := (List.range n).map fun j => Value.int .u8 ((f j : Nat) : Int)
theorem fl_len (f : Nat → Nat) (n : Nat) : (fl f n).length = n := by simp [fl]
theorem fl_get (f : Nat → Nat) (n j : Nat) (h : j < n) : (fl f n)[j]? = some (.int .u8 ((f j : Nat) : Int)) := by simp [fl, h]
theorem fl_one (f : Nat → Nat) (n : Nat) : ∀ v ∈ fl f n, v.oneCell' = true := fun v hv => by
  simp only [fl, List.mem_map] at hv
  obtain ⟨j, _, rfl⟩ := hv
  rfl
theorem zeros_get {j : Nat} (h : j < 32) : zeros32[j]? = some (.int .u8 0) := by
  have : zeros32 = List.replicate 32 (.int .u8 0) := rfl
  rw [this, List.getElem?_replicate, if_pos h]
theorem padded_at {w : World} {g n : Nat} {f : Nat → Nat} {t : TypeId} (hf : ∀ j, f j < 256) (hn : n ≤ 32) (h : w.heap[g]? = some (.cells (splice zeros32 0 (fl f n)).toArray t (0, 0))) : BytesAt w g 0 32 (pad f n) := by
  refine ⟨pad_lt hf n, (Array.getElem?_eq_some_iff.1 h).1, fun j hj => ?_⟩
  rw [Nat.zero_add, cell_of_row w g j _ _ _ h]
  simp only [splice, List.take_zero, List.nil_append, Nat.zero_add, fl_len, List.getElem?_toArray]
  unfold pad
  by_cases hjn : j < n
  · rw [List.getElem?_append_left (by rw [fl_len]; exact hjn), fl_get f n j hjn, if_pos hjn]
  · rw [List.getElem?_append_right (by rw [fl_len]; omega), fl_len, List.getElem?_drop, show n + (j - n) = j by omega, zeros_get hj, if_neg hjn]
    rfl
theorem heap_alloc_at {w : World} {o : Obj} {g : Nat} (h : w.heap.size = g) : (w.alloc o).heap[g]? = some o := by subst h; exact heap_alloc_new w o
theorem SliceAt.src {w : World} {a : Option Addr} {n : Nat} {f : Nat → Nat} (h : SliceAt w a n f) (hp : 0 < (fl f n).length) : ∃ ad, a = some ad ∧ ∀ j v, (fl f n)[j]? = some v → w.cell? (ad.add j) = some v := by
  rw [fl_len] at hp
  obtain ⟨b, off, rfl, hB⟩ := h.pos hp
  refine ⟨_, rfl, fun j v hv => ?_⟩
  have hj : j < n := by have := (List.getElem?_eq_some_iff.1 hv).1; rwa [fl_len] at this
  rw [fl_get f n j hj] at hv
  cases hv
  have e : (⟨b, off, none⟩ : Addr).add j = ⟨b, off + j, none⟩ := by unfold Addr.add; split <;> simp_all
  rw [e]
  exact hB.cell j hj
theorem byteCells : (Tryd.prog.info? 5).map (·.size) = some 1 := by kernel_rfl

set_option maxRecDepth 100000 in
set_option maxHeartbeats 4000000 in
theorem pack_len (s : Bool) (a : Option Addr) (n c : Nat) (hn : 31 < n) (w : World) :
    Calls Tryd.prog 62 #[fieldV s, .slice a n c] w fun e w' => e = .returned (.tuple #[vec 0, .int .i64 8]) ∧ Below w.heap.size w w' := by
  have hn2 : (31 : Int) < (n : Int) := by omega
  clear hn
  go_enter Tryd.func62, Tryd.ntmps62
  go_wp2_with fail
  rw [z4]
  refine bodyPost_ret (v := .tuple #[.agg #[.int .u64 0, .int .u64 0, .int .u64 0, .int .u64 0], .int .i64 8]) (by simp only [results, Tryd.results62]; go_simp) rfl ⟨rfl, ?_⟩
  repeat first
    | with_reducible exact Below.refl _ _
    | with_reducible refine Below.drew ?_
    | with_reducible refine below_dN ?_
    | with_reducible refine Below.alloc ?_ (by first | omega | (simp; done) | (simp; omega)) _
    | with_reducible refine Below.setCell ?_ (by first | omega | (simp; done) | (simp; omega)) _
    | with_reducible refine Below.trans ?_ (Below.mono (by assumption) (by first | omega | (simp; done) | (simp; omega)))

set_option maxRecDepth 100000 in
set_option maxHeartbeats 8000000 in
theorem pack_walk (s : Bool) (a : Option Addr) (n c N x : Nat) (f : Nat → Nat) (hn : n ≤ 31) (w : World) (hS : Hid (SliceAt w a n f))
    (hnum : Hid (∀ w, Calls Tryd.prog 92 #[.agg (arr32 (pad f n))] w fun e w' => e = .returned (vec N) ∧ Below w.heap.size w w'))
    (hto : Hid (∀ w, Calls Tryd.prog 91 #[fieldV s, vec N] w fun e w' => e = .returned (vec x) ∧ Below w.heap.size w w')) :
    Calls Tryd.prog 62 #[fieldV s, .slice a n c] w fun e w' => e = .returned (.tuple #[vec x, .int .i64 0]) ∧ Below w.heap.size w w' := by
  have hn2 : ¬ (31 : Int) < (n : Int) := by omega
  go_enter Tryd.func62, Tryd.ntmps62
  go_wp2_with ((with_reducible show wpList _ _ _ (⟨some 13, _, _, _, _, _⟩ :: []) _ _); refine wpList_copy_splice (by rfl) (.tmp 11) (.tmp 12) 53 53 (by rfl) 5 Tryd.underlying53 byteCells (some ⟨w.heap.size + 1 + 1, 0, none⟩) a 32 32 n c (by rfl) (by rfl) (w.heap.size + 1 + 1) 0 zeros32 120 (heap_alloc_at (by simp only [World.size_alloc])) (fl f n) (by rw [fl_len]; exact (Nat.min_eq_left (by omega)).symm) (fun h => ⟨rfl, (hS.out.below (by repeat first | with_reducible exact Below.refl _ _ | with_reducible refine Below.drew ?_ | with_reducible refine below_dN ?_ | with_reducible refine Below.alloc ?_ (by first | omega | (simp; done) | (simp; omega)) _ | with_reducible refine Below.setCell ?_ (by first | omega | (simp; done) | (simp; omega)) _ | with_reducible refine Below.trans ?_ (Below.mono (by assumption) (by first | omega | (simp; done) | (simp; omega))))).src h⟩) (by rw [fl_len]; show 0 + n ≤ 32; omega) (fl_one f n) (w.heap.size + 1 + 1) _ (Below.refl _ _) (Nat.le_refl _) ?_)
  intro w5 Hg h5
  obtain ⟨c5, f5, s5⟩ := bfactsB h5
  simp only [World.size_alloc, World.size_setCell, size_drew, size_drewN] at s5
  have l_w_w5_0 : w.heap.size < w5.heap.size := by omega
  have l_w_w5_1 : w.heap.size + 1 < w5.heap.size := by omega
  have HP := Lib.hid (padded_at hS.out.lt (by omega) Hg.out)
  clear Hg
  go_wp2_with fail
  refine region_grow 4 [0, 1, 2, 3] [] [2, 3] (by kernel_rfl) (by kernel_rfl) ?_
  with_reducible apply grow_v
  · rfl
  · rfl
  · rfl
  apply Exists.intro
  refine ⟨fun w' hC => ?_, ?_⟩
  · have hcell := below_cells hC
    clear hC
    simp only [World.size_drew] at hcell
    go_simp
    rfl
  try simp only [Act.put, List.setIfInBounds_toArray, List.set_cons_zero, List.set_cons_succ, List.tail_cons]
  with_reducible apply grow_v
  · rfl
  · rfl
  · rfl
  apply Exists.intro
  refine ⟨fun w' hC => ?_, ?_⟩
  · exact exec_load rfl rfl (load32 (HP.out.below (((Below.refl _ _).drew).trans (Below.mono hC (by simp only [size_drew]; omega)))) (by omega))
  try simp only [Act.put, List.setIfInBounds_toArray, List.set_cons_zero, List.set_cons_succ, List.tail_cons]
  with_reducible apply grow_c
  · rfl
  · rfl
  · rfl
  · rfl
  apply Exists.intro
  apply Exists.intro
  apply Exists.intro
  refine ⟨fun w' hC => ?_, fun w' hC => ?_, ?_⟩
  · have hcell := below_cells hC
    clear hC
    go_simp
    exact ⟨rfl, rfl⟩
  · exact hnum.out _
  try simp only [Act.put, List.setIfInBounds_toArray, List.set_cons_zero, List.set_cons_succ, List.tail_cons]
  with_reducible apply grow_c
  · rfl
  · rfl
  · rfl
  · rfl
  apply Exists.intro
  apply Exists.intro
  apply Exists.intro
  refine ⟨fun w' hC => ?_, fun w' hC => ?_, ?_⟩
  · have hcell := below_cells hC
    clear hC
    go_simp
    exact ⟨rfl, rfl⟩
  · exact hto.out _
  try simp only [Act.put, List.setIfInBounds_toArray, List.set_cons_zero, List.set_cons_succ, List.tail_cons]
  refine grow_end ?_
  intro wg5 hg5
  obtain ⟨cg5, fg5, sg5⟩ := bfacts hg5.grows
  try simp only [World.size_alloc, World.size_setCell, size_drew, size_drewN] at sg5
  have Hg5 : Below _ _ wg5 := hg5.grows
  clear hg5
  simp only [List.drop_succ_cons, List.drop_zero]
  simp only [World.size_drew] at cg5 fg5
  go_wp2_with fail
  refine bodyPost_ret (v := .tuple #[vec x, .int .i64 0]) (by simp only [results, Tryd.results62]; go_simp) rfl ⟨rfl, ?_⟩
  repeat first
    | with_reducible exact Below.refl _ _
    | with_reducible refine Below.drew ?_
    | with_reducible refine below_dN ?_
    | with_reducible refine Below.alloc ?_ (by first | omega | (simp; done) | (simp; omega)) _
    | with_reducible refine Below.setCell ?_ (by first | omega | (simp; done) | (simp; omega)) _
    | with_reducible refine Below.trans ?_ (Below.mono (by assumption) (by first | omega | (simp; done) | (simp; omega)))

theorem pack_c (s : Bool) (a : Option Addr) (n c : Nat) (f : Nat → Nat) (hn : n ≤ 31) (w : World) (hS : SliceAt w a n f) :
    Calls Tryd.prog 62 #[fieldV s, .slice a n c] w fun e w' => e = .returned (.tuple #[vec (RR s (mulm (pr s) 1 (le f n))), .int .i64 0]) ∧ Below w.heap.size w w' := by
  have hpl : ∀ j, pad f n j < 256 := pad_lt hS.lt n
  have e : le (pad f n) 32 = le f n := le_pad f n 32 (by omega)
  have h1 := number32_c (pad f n) hpl
  have h2 := toR_c s (le (pad f n) 32) (le32_lt hpl)
  rw [e] at h1 h2
  exact pack_walk s a n c (le f n) (RR s (mulm (pr s) 1 (le f n))) f hn w (Lib.hid hS) (Lib.hid h1) (Lib.hid h2)
end Go.Proofs.YtpggmebgndkpjaaDoor
