/- The contract of the reference's Mul modulo p. -/
import Derived.Test.YtpggmebgndkpjaaDoorRefOps
import Derived.Test.YtpggmebgndkpjaaDoorRefBit
import Derived.Test.YtpggmebgndkpjaaDoorKeep
namespace Go.Proofs.YtpggmebgndkpjaaDoor
set_option linter.all false
open Go.RowKit

/-- What the product's loop holds before bit i. -/
def hm (p a b i : Nat) : Nat := b / 2 ^ i * a % p
/-- The product modulo p. -/
def mulm (p a b : Nat) : Nat := b * a % p
theorem hm_lt {p : Nat} (hp : 0 < p) (a b i : Nat) : hm p a b i < p := Nat.mod_lt _ hp
theorem mulm_lt {p : Nat} (hp : 0 < p) (a b : Nat) : mulm p a b < p := Nat.mod_lt _ hp
theorem hm_top {p a b : Nat} (hb : b < R4) : hm p a b 256 = 0 := by
  unfold hm
  rw [Nat.div_eq_of_lt (show b < 2 ^ 256 from hb)]; simp
theorem hm_zero (p a b : Nat) : hm p a b 0 = mulm p a b := by simp [hm, mulm]
theorem bit_le (b i : Nat) : bitn b i ≤ 1 := by unfold bitn; omega
theorem hm_half (b i : Nat) : b / 2 ^ i = 2 * (b / 2 ^ (i + 1)) + bitn b i := by
  unfold bitn; rw [Nat.pow_succ, ← Nat.div_div_eq_div_mul]; omega
theorem hm_step0 {p a b i : Nat} (h : bitn b i = 0) : addm p (hm p a b (i + 1)) (hm p a b (i + 1)) = hm p a b i := by
  have e : b / 2 ^ i = 2 * (b / 2 ^ (i + 1)) := by have := hm_half b i; omega
  unfold addm hm
  rw [e, ← Nat.add_mod, ← Nat.two_mul, Nat.mul_assoc]
theorem hm_step1 {p a b i : Nat} (h : bitn b i = 1) : addm p (addm p (hm p a b (i + 1)) (hm p a b (i + 1))) a = hm p a b i := by
  unfold addm hm
  rw [hm_half b i, h, ← Nat.add_mod, Nat.mod_add_mod, Nat.add_mul, Nat.one_mul, ← Nat.two_mul, Nat.mul_assoc]

set_option maxRecDepth 100000 in
set_option maxHeartbeats 2000000 in
theorem refMul_c (p a b : Nat) (hp : p < R4) (ha : a < p) (hb : b < R4) (w : World) :
    Calls Tryd.prog 86 #[vec p, vec a, vec b] w fun e w' => e = .returned (vec (mulm p a b)) ∧ Below w.heap.size w w' := by
  have Hp := Lib.hid hp
  have Ha := Lib.hid ha
  have Hp0 := Lib.hid (show 0 < p by omega)
  have Ht := Lib.hid (hm_top (p := p) (a := a) hb)
  clear hp ha hb
  go_enter Tryd.func86, Tryd.ntmps86
  go_wp2_with fail
  go_loopw [8] (fun i wr => ∃ (k : Nat), k ≤ 256 ∧ i = .int .i64 ((k : Int) - 1) ∧ Below (w.heap.size + 1 + 1 + 1 + 1 + 1) (((((w.alloc
      (.cells #[.int .u64 ((dg 0 p : Nat) : Int), .int .u64 ((dg 1 p : Nat) : Int), .int .u64 ((dg 2 p : Nat) : Int), .int .u64 ((dg 3 p : Nat) : Int)] 44)).alloc
      (.cells #[.int .u64 ((dg 0 a : Nat) : Int), .int .u64 ((dg 1 a : Nat) : Int), .int .u64 ((dg 2 a : Nat) : Int), .int .u64 ((dg 3 a : Nat) : Int)] 44)).alloc
      (.cells #[.int .u64 ((dg 0 b : Nat) : Int), .int .u64 ((dg 1 b : Nat) : Int), .int .u64 ((dg 2 b : Nat) : Int), .int .u64 ((dg 3 b : Nat) : Int)] 44)).alloc
      (.cells #[.int .u64 0, .int .u64 0, .int .u64 0, .int .u64 0] 44)).alloc
      (.cells #[.int .u64 ((dg 0 (hm p a b k) : Nat) : Int), .int .u64 ((dg 1 (hm p a b k) : Nat) : Int), .int .u64 ((dg 2 (hm p a b k) : Nat) : Int), .int .u64 ((dg 3 (hm p a b k) : Nat) : Int)] 44)) wr) (fun i _ => (intOf i + 1).toNat)
  case atStart => exact ⟨256, by omega, rfl, by rw [Ht.out]; exact Below.refl _ _⟩
  case round =>
    obtain ⟨k, hk, rfl, hB⟩ := hrel
    rcases k with _ | k
    · obtain ⟨c1, f1, s1⟩ := bfactsB hB
      simp only [World.size_alloc] at s1
      go_wp2_with fail
      rw [hm_zero]
      refine bodyPost_ret (v := vec (mulm p a b)) (by simp only [results, Tryd.results86]; go_simp) rfl ⟨rfl, ?_⟩
      repeat first
        | with_reducible exact Below.refl _ _
        | with_reducible refine Below.drew ?_
        | with_reducible refine below_dN ?_
        | with_reducible refine Below.alloc ?_ (by first | omega | (simp; done) | (simp; omega)) _
        | with_reducible refine Below.setCell ?_ (by first | omega | (simp; done) | (simp; omega)) _
        | with_reducible refine Below.trans ?_ (Below.mono (by assumption) (by first | omega | (simp; done) | (simp; omega)))
    · obtain ⟨c1, f1, s1⟩ := bfactsB hB
      simp only [World.size_alloc] at s1
      have ek : (((k + 1 : Nat) : Int) - 1) = (k : Int) := by omega
      rw [ek]
      clear ek
      have l_w_wr_0 : w.heap.size < wr.heap.size := by omega
      have l_w_wr_1 : w.heap.size + 1 < wr.heap.size := by omega
      have l_w_wr_2 : w.heap.size + 1 + 1 < wr.heap.size := by omega
      have l_w_wr_3 : w.heap.size + 1 + 1 + 1 < wr.heap.size := by omega
      have l_w_wr_4 : w.heap.size + 1 + 1 + 1 + 1 < wr.heap.size := by omega
      go_wp2_with fail
      refine Calls.mono (refAdd_c p (hm p a b (k + 1)) (hm p a b (k + 1)) Hp.out (hm_lt Hp0.out _ _ _) (hm_lt Hp0.out _ _ _) _) ?_
      rintro _ w2 ⟨rfl, h2⟩
      obtain ⟨c2, f2, s2⟩ := bfacts h2
      try simp only [World.size_alloc, World.size_setCell, size_drew, size_drewN] at s2
      have l_w_w2_0 : w.heap.size < w2.heap.size := by omega
      have l_w_w2_1 : w.heap.size + 1 < w2.heap.size := by omega
      have l_w_w2_2 : w.heap.size + 1 + 1 < w2.heap.size := by omega
      have l_w_w2_3 : w.heap.size + 1 + 1 + 1 < w2.heap.size := by omega
      have l_w_w2_4 : w.heap.size + 1 + 1 + 1 + 1 < w2.heap.size := by omega
      go_wp2_with fail
      refine Calls.mono (refBit_c b k (by omega) _) ?_
      rintro _ w3 ⟨rfl, h3⟩
      obtain ⟨c3, f3, s3⟩ := bfacts h3
      try simp only [World.size_alloc, World.size_setCell, size_drew, size_drewN] at s3
      have l_w_w3_0 : w.heap.size < w3.heap.size := by omega
      have l_w_w3_1 : w.heap.size + 1 < w3.heap.size := by omega
      have l_w_w3_2 : w.heap.size + 1 + 1 < w3.heap.size := by omega
      have l_w_w3_3 : w.heap.size + 1 + 1 + 1 < w3.heap.size := by omega
      have l_w_w3_4 : w.heap.size + 1 + 1 + 1 + 1 < w3.heap.size := by omega
      have hB3 := (below_four (d0 := .int .u64 ((dg 0 (addm p (hm p a b (k + 1)) (hm p a b (k + 1))) : Nat) : Int)) (d1 := .int .u64 ((dg 1 (addm p (hm p a b (k + 1)) (hm p a b (k + 1))) : Nat) : Int)) (d2 := .int .u64 ((dg 2 (addm p (hm p a b (k + 1)) (hm p a b (k + 1))) : Nat) : Int)) (d3 := .int .u64 ((dg 3 (addm p (hm p a b (k + 1)) (hm p a b (k + 1))) : Nat) : Int)) (hB.trans (h2.mono s1)) (n := w.heap.size + 1 + 1 + 1 + 1) (by simp only [World.size_alloc])).trans (h3.mono (by simp only [World.size_setCell, size_drewN, size_drew]; omega))
      have HB3 := Lib.hid hB3
      clear hB3
      by_cases hbit : bitn b k = 1
      · rw [hbit]
        have hs := Lib.hid (hm_step1 (p := p) (a := a) hbit)
        clear hbit
        go_wp2_with fail
        refine Calls.mono (refAdd_c p (addm p (hm p a b (k + 1)) (hm p a b (k + 1))) a Hp.out (addm_lt Hp0.out _ _) Ha.out _) ?_
        rintro _ w4 ⟨rfl, h4⟩
        obtain ⟨c4, f4, s4⟩ := bfacts h4
        try simp only [World.size_alloc, World.size_setCell, size_drew, size_drewN] at s4
        have l_w_w4_0 : w.heap.size < w4.heap.size := by omega
        have l_w_w4_1 : w.heap.size + 1 < w4.heap.size := by omega
        have l_w_w4_2 : w.heap.size + 1 + 1 < w4.heap.size := by omega
        have l_w_w4_3 : w.heap.size + 1 + 1 + 1 < w4.heap.size := by omega
        have l_w_w4_4 : w.heap.size + 1 + 1 + 1 + 1 < w4.heap.size := by omega
        have hB4 := below_four (d0 := .int .u64 ((dg 0 (hm p a b k) : Nat) : Int)) (d1 := .int .u64 ((dg 1 (hm p a b k) : Nat) : Int)) (d2 := .int .u64 ((dg 2 (hm p a b k) : Nat) : Int)) (d3 := .int .u64 ((dg 3 (hm p a b k) : Nat) : Int)) (HB3.out.trans (h4.mono (by omega))) (n := w.heap.size + 1 + 1 + 1 + 1) (by simp only [World.size_alloc])
        have HB4 := Lib.hid hB4
        clear hB4
        rw [hs.out]
        go_wp2_with fail
        go_roundw
        case rel => exact ⟨k, by omega, rfl, HB4.out⟩
        case measure => simp [intOf]
      · have hz : bitn b k = 0 := by have := bit_le b k; omega
        rw [hz]
        have hs := hm_step0 (p := p) (a := a) hz
        rw [hs] at HB3
        have Hs := Lib.hid hs
        clear hbit hz hs
        go_wp2_with fail
        go_roundw
        case rel => exact ⟨k, by omega, rfl, HB3.out⟩
        case measure => simp [intOf]
end Go.Proofs.YtpggmebgndkpjaaDoor
