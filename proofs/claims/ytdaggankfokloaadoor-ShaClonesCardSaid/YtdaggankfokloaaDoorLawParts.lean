/- The walk of law 12's ShaParts. -/
import Derived.Test.YtdaggankfokloaaDoorLawMatches
namespace Go.Proofs.YtdaggankfokloaaDoor
set_option linter.all false
open Go Go.RowKit

/-- A part of a slice of bytes. -/
theorem slice_cut {a : Option Addr} {n c l h : Nat} {f : Nat → Nat} {w : World} (hS : SliceAt w a n c f) (hl : l ≤ h) (hh : h ≤ n) :
    ∃ a', (if c = l then a else a.map (·.add (l * 1))) = a' ∧ SliceAt w a' (h - l) (c - l) (fun j => f (l + j)) := by
  refine ⟨_, rfl, fun j => hS.lt _, by have := hS.cap; omega, ?_⟩
  rcases hS.at_ with ⟨rfl, rfl, rfl⟩ | ⟨ad, rfl, k⟩
  · exact .inl ⟨by simp, by omega, by omega⟩
  · refine .inr ?_
    by_cases e : c = l
    · rw [if_pos e]
      exact ⟨ad, rfl, fun h0 => by have := hS.cap; omega⟩
    · rw [if_neg e]
      refine ⟨ad.add (l * 1), rfl, fun h0 => ?_⟩
      obtain ⟨b, off, rfl, hB⟩ := k (by omega)
      refine ⟨b, off + l, ?_, hB.part l (h - l) (by omega)⟩
      rw [Nat.mul_one]
      unfold Addr.add
      split <;> simp_all
theorem elemByte : Tryd.prog.underlying 22 = some (.slice (Tryd.prog.elem 22)) := by kernel_rfl
theorem sizeElem (w : World) : (sizeOf (Tryd.prog.elem 22)).run Tryd.prog w = .ok 1 w := by kernel_rfl
theorem run_cut_lh {a a' : Option Addr} {n c l h : Nat} (hl : l ≤ h) (hh : h ≤ n) (hc : n ≤ c) (e : (if c = l then a else a.map (·.add (l * 1))) = a') (w : World) :
    (Instr.sliceAt 22 (.slice a n c) (some (.int .i64 (l : Int))) (some (.int .i64 (h : Int))) none).run Tryd.prog w = .ok (.slice a' (h - l) (c - l)) w := by
  rw [run_sliceAt_slice _ _ _ _ _ _ elemByte, run_slice_lh _ _ _ _ _ elemByte .i64 .i64 (l : Int) (h : Int) (by omega) (by omega) (by omega), sizeElem]
  simp only [Result.andThen_ok, sliced, Int.toNat_natCast, e]
theorem run_cut_h {a a' : Option Addr} {n c h : Nat} (hh : h ≤ n) (hc : n ≤ c) (e : (if c = 0 then a else a.map (·.add (0 * 1))) = a') (w : World) :
    (Instr.sliceAt 22 (.slice a n c) none (some (.int .i64 (h : Int))) none).run Tryd.prog w = .ok (.slice a' h c) w := by
  rw [run_sliceAt_slice _ _ _ _ _ _ elemByte, run_slice_h _ _ _ _ _ elemByte .i64 (h : Int) (by omega) (by omega), sizeElem]
  simp only [Result.andThen_ok, sliced, Int.toNat_natCast, e, Nat.sub_zero]
theorem run_cut_l {a a' : Option Addr} {n c l : Nat} (hl : l ≤ n) (e : (if c = l then a else a.map (·.add (l * 1))) = a') (w : World) :
    (Instr.sliceAt 22 (.slice a n c) (some (.int .i64 (l : Int))) none none).run Tryd.prog w = .ok (.slice a' (n - l) (c - l)) w := by
  rw [run_sliceAt_slice _ _ _ _ _ _ elemByte, run_slice_l _ _ _ _ _ elemByte .i64 (l : Int) (by omega) (by omega), sizeElem]
  simp only [Result.andThen_ok, sliced, Int.toNat_natCast, e]
theorem write_any (C p n m c : Nat) (a : Option Addr) (f g : Nat → Nat) (hn : n + m ≤ 1000000) (w : World) (hL : Laid w) (h : HashAt w C p f n) (hS : SliceAt w a m c g) (hlow : 0 < m → ∀ ad, a = some ad → ad.block ≠ p)
    (hC1 : 1 < C) (hC2 : 0 < C) (hC : C ≤ w.heap.size) :
    Calls Tryd.prog 15 #[.pointer (some ⟨p, 0, none⟩), .slice a m c] w fun e w' => e = .returned (.tuple #[]) ∧ HashAt w' C p (cat f n g) (n + m) ∧ Below C w w' ∧ (∀ r', w'.cell? ⟨p, 8, none⟩ = some r' → ∀ k, r'.ownBlock = some k → w.heap.size ≤ k) := by
  refine (write_c C p n m c a f g hn w hL h hS hlow hC1 hC2).mono ?_
  rintro e w' ⟨he, hh, hfr, hW⟩
  obtain ⟨r, hr, ho, _⟩ := h.rest
  exact ⟨he, hh, (hW _ hr).below h.own hC (fun k hk => (ho.lt k hk).1), hfr⟩

theorem cat_part (f g : Nat → Nat) (x j : Nat) (h : ∀ j, j < x → f j = g j) : g j = cat f x (fun j => g (x + j)) j := by
  unfold cat
  split
  · exact (h j (by assumption)).symm
  · congr 1; omega

set_option maxRecDepth 100000 in
set_option maxHeartbeats 8000000 in
theorem shaParts_c (a : Option Addr) (n c : Nat) (g : Nat → Nat) (i k : Nat) (hi : i < 65536) (hk : k < 65536) (w : World) (hL : Laid w) (hS : SliceAt w a n c g) :
    Calls Tryd.prog 4 #[.slice a n c, .int .u16 (i : Int), .int .u16 (k : Int)] w fun e w' => e = .returned (.bool true) ∧ Below w.heap.size w w' := by
  have HL := Lib.hid hL
  have HS := Lib.hid hS
  clear hL hS
  by_cases hbig : 2000 < n
  · skip
    go_enter Tryd.func4, Tryd.ntmps4
    go_wp2_with fail
    refine Calls.mono (lawalive_c _ HL.out) ?_
    rintro _ w1 ⟨rfl, h1⟩
    obtain ⟨c1, f1, s1⟩ := bfacts h1
    try simp only [World.size_alloc, World.size_setCell, size_drew, size_drewN] at s1
    go_wp2_with fail
    go_ret
    exact ⟨rfl, (by repeat first | with_reducible exact Below.refl _ _ | with_reducible refine Below.drew ?_ | with_reducible refine below_dN ?_ | with_reducible refine Below.alloc ?_ (by first | omega | (simp; done) | (simp; omega)) _ | with_reducible refine Below.setCell ?_ (by first | omega | (simp; done) | (simp; omega)) _ | with_reducible refine Below.trans ?_ (Below.mono (by assumption) (by first | omega | (simp; done) | (simp; omega))))⟩
  · have hn : n ≤ 2000 := by omega
    obtain ⟨x, ex⟩ : ∃ x, x = i % (n + 1) := ⟨_, rfl⟩
    have hx : x ≤ n := by have := Nat.mod_lt i (show 0 < n + 1 by omega); omega
    have hx1 : (i : Int) % ((n : Int) + 1) = (x : Int) := by rw [ex]; rfl
    obtain ⟨z, ez⟩ : ∃ z, z = k % (n - x + 1) := ⟨_, rfl⟩
    have hz : z ≤ n - x := by have := Nat.mod_lt k (show 0 < n - x + 1 by omega); omega
    have hz1 : (k : Int) % ((n : Int) - (x : Int) + 1) = (z : Int) := by
      rw [ez, show (n : Int) - (x : Int) + 1 = ((n - x + 1 : Nat) : Int) by omega]; rfl
    obtain ⟨y, ey⟩ : ∃ y, y = x + z := ⟨_, rfl⟩
    have hy1 : (x : Int) + (z : Int) = (y : Int) := by omega
    have hxy : x ≤ y := by omega
    have hyn : y ≤ n := by omega
    have hcap := HS.out.cap
    obtain ⟨a1, e1, S1⟩ := slice_cut (l := 0) (h := x) HS.out (Nat.zero_le _) hx
    obtain ⟨a2, e2, S2⟩ := slice_cut (l := x) (h := y) HS.out hxy hyn
    obtain ⟨a3, e3, S3⟩ := slice_cut (l := y) (h := n) HS.out hyn (Nat.le_refl _)
    have r1 := run_cut_h hx hcap e1
    have r2 := run_cut_lh hxy hyn hcap e2
    have r3 := run_cut_l hyn e3
    rw [Nat.sub_zero, Nat.sub_zero] at S1
    have HS1 := Lib.hid S1
    have HS2 := Lib.hid S2
    have HS3 := Lib.hid S3
    have Hyz := Lib.hid (And.intro hxy hyn)
    have hE := eqF_refl (sm g n) 32
    clear S1 S2 S3 e1 e2 e3 ex ez ey hbig
    go_enter Tryd.func4, Tryd.ntmps4
    go_wp2_with fail
    refine Calls.mono (new_c (fun _ => 0) (fun _ => by decide) _ HL.out) ?_
    rintro _ w1 ⟨⟨p, rfl, hp⟩, h1⟩
    obtain ⟨c1, f1, s1⟩ := bfacts h1
    try simp only [World.size_alloc, World.size_setCell, size_drew, size_drewN] at s1
    have Hp := Lib.hid hp
    have HB1 := Lib.hid h1
    have lp1 := hp.own
    have hg1 : 1 < w.heap.size := lt_of_cell (HL.out.k 0 (by decide))
    have hg2 : 0 < w.heap.size := lt_of_cell (HL.out.s 0 (by decide))
    have Hg := Lib.hid (And.intro hg1 hg2)
    clear hp h1 c1 f1 hg1 hg2
    go_wp2_with fail
    refine Calls.mono (write_any w.heap.size p 0 x c a1 (fun _ => 0) (fun j => g (0 + j)) (by have := Hyz.out; omega) _ (HL.out.step HB1.out) Hp.out (HS1.out.below HB1.out) (fun h0 ad e => by have := HS1.out.low ad e h0; omega) Hg.out.1 Hg.out.2 HB1.out.size) ?_
    rintro _ w2 ⟨rfl, hh2, hb2, _⟩
    have HB2 := Lib.hid (HB1.out.trans hb2)
    have hp2 := hh2.congr HS.out.lt (fun j hj => cat_part _ g 0 j (fun _ h => absurd h (Nat.not_lt_zero _)))
    rw [Nat.zero_add] at hp2
    have Hp2 := Lib.hid hp2
    clear hh2 hb2 hp2
    go_wp2_with fail
    refine Calls.mono (write_any w.heap.size p x (y - x) (c - x) a2 g (fun j => g (x + j)) (by have := Hyz.out; omega) _ (HL.out.step HB2.out) Hp2.out (HS2.out.below HB2.out) (fun h0 ad e => by have := HS2.out.low ad e h0; omega) Hg.out.1 Hg.out.2 HB2.out.size) ?_
    rintro _ w3 ⟨rfl, hh3, hb3, _⟩
    have HB3 := Lib.hid (HB2.out.trans hb3)
    have hp3 := hh3.congr HS.out.lt (fun j hj => cat_part g g x j (fun _ _ => rfl))
    rw [show x + (y - x) = y by have := Hyz.out; omega] at hp3
    have Hp3 := Lib.hid hp3
    clear hh3 hb3 hp3
    go_wp2_with fail
    refine Calls.mono (write_any w.heap.size p y (n - y) (c - y) a3 g (fun j => g (y + j)) (by have := Hyz.out; omega) _ (HL.out.step HB3.out) Hp3.out (HS3.out.below HB3.out) (fun h0 ad e => by have := HS3.out.low ad e h0; omega) Hg.out.1 Hg.out.2 HB3.out.size) ?_
    rintro _ w4 ⟨rfl, hh4, hb4, _⟩
    have HB4 := Lib.hid (HB3.out.trans hb4)
    have hp4 := hh4.congr HS.out.lt (fun j hj => cat_part g g y j (fun _ _ => rfl))
    rw [show y + (n - y) = n by have := Hyz.out; omega] at hp4
    have Hp4 := Lib.hid hp4
    clear hh4 hb4 hp4
    go_wp2_with fail
    refine Calls.mono (lawalive_c _ (HL.out.step HB4.out)) ?_
    rintro _ w5 ⟨rfl, h5⟩
    obtain ⟨c5, f5, s5⟩ := bfacts h5
    try simp only [World.size_alloc, World.size_setCell, size_drew, size_drewN] at s5
    have HB5 := Lib.hid (HB4.out.trans (Below.mono h5 HB4.out.size))
    have Hp5 := Lib.hid (Hp4.out.kept h5)
    clear h5 c5 f5
    go_wp2_with fail
    refine Calls.mono (sum_walk w.heap.size p n g (by omega) _ (Lib.hid (HL.out.step HB5.out)) Hp5) ?_
    rintro _ w6 ⟨rfl, h6⟩
    obtain ⟨c6, f6, s6⟩ := bfacts h6
    try simp only [World.size_alloc, World.size_setCell, size_drew, size_drewN] at s6
    have HB6 := Lib.hid (HB5.out.trans (Below.mono h6 HB5.out.size))
    have Hp6 := Lib.hid (Hp5.out.kept h6)
    clear h6 c6 f6
    go_wp2_with fail
    refine Calls.mono (refSum_any a n c g (by omega) _ (HS.out.below HB6.out)) ?_
    rintro _ w7 ⟨rfl, h7⟩
    obtain ⟨c7, f7, s7⟩ := bfacts h7
    try simp only [World.size_alloc, World.size_setCell, size_drew, size_drewN] at s7
    have HB7 := Lib.hid (HB6.out.trans (Below.mono h7 HB6.out.size))
    have Hp7 := Lib.hid (Hp6.out.kept h7)
    clear h7 c7 f7
    have hE' : eqF (sb (sumS K s0 g n)) (sm g n) 32 = true := eqF_refl _ _
    go_wp2_with fail
    refine Calls.mono (len_c p n _ Hp7.out.len) ?_
    rintro _ _ ⟨rfl, rfl⟩
    go_wp2_with fail
    go_ret
    exact ⟨rfl, HB7.out⟩
end Go.Proofs.YtdaggankfokloaaDoor
