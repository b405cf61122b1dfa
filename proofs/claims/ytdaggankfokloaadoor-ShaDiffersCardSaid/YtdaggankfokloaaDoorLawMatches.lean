/- The walks of law 12's ShaMatchesReference and ShaDiffers. -/
import Derived.Test.YtdaggankfokloaaDoorLawAlive
import Derived.Test.YtdaggankfokloaaDoorRefSum
namespace Go.Proofs.YtdaggankfokloaaDoor
set_option linter.all false
open Go Go.RowKit

theorem SliceAt.low {w : World} {a : Option Addr} {n c : Nat} {f : Nat → Nat} (h : SliceAt w a n c f) : ∀ ad, a = some ad → 0 < n → ad.block < w.heap.size := fun ad e hn => by
  rcases h.at_ with ⟨e', h0, _⟩ | ⟨ad', e', k⟩
  · omega
  · obtain ⟨b, off, e2, hB⟩ := k hn
    subst e2
    rw [e] at e'
    cases e'
    exact hB.blk
/-- The sum of n bytes. -/
def sm (g : Nat → Nat) (n : Nat) : Nat → Nat := sb (sumS K s0 g n)
theorem shaSum_any (a : Option Addr) (n c : Nat) (g : Nat → Nat) (hn : n ≤ 100000) (w : World) (hL : Laid w) (h : SliceAt w a n c g) :
    Calls Tryd.prog 11 #[.slice a n c] w fun e w' => e = .returned (.agg (fl (sm g n) 32).toArray) ∧ Below w.heap.size w w' := shaSum_c n c a g hn w hL h h.low
theorem refSum_any (a : Option Addr) (n c : Nat) (g : Nat → Nat) (hn : n ≤ 100000) (w : World) (h : SliceAt w a n c g) :
    Calls Tryd.prog 12 #[.slice a n c] w fun e w' => e = .returned (.agg (fl (sm g n) 32).toArray) ∧ Below w.heap.size w w' := refSum_c a n c g hn w h

set_option maxRecDepth 100000 in
set_option maxHeartbeats 8000000 in
theorem shaMatches_c (a : Option Addr) (n c : Nat) (g : Nat → Nat) (w : World) (hL : Laid w) (hS : SliceAt w a n c g) :
    Calls Tryd.prog 3 #[.slice a n c] w fun e w' => e = .returned (.bool true) ∧ Below w.heap.size w w' := by
  have HL := Lib.hid hL
  have HS := Lib.hid hS
  clear hL hS
  by_cases hbig : 2000 < n
  · skip
    go_enter Tryd.func3, Tryd.ntmps3
    go_wp2_with fail
    refine Calls.mono (lawalive_c _ HL.out) ?_
    rintro _ w1 ⟨rfl, h1⟩
    obtain ⟨c1, f1, s1⟩ := bfacts h1
    try simp only [World.size_alloc, World.size_setCell, size_drew, size_drewN] at s1
    go_wp2_with fail
    go_ret
    exact ⟨rfl, (by repeat first | with_reducible exact Below.refl _ _ | with_reducible refine Below.drew ?_ | with_reducible refine below_dN ?_ | with_reducible refine Below.alloc ?_ (by first | omega | (simp; done) | (simp; omega)) _ | with_reducible refine Below.setCell ?_ (by first | omega | (simp; done) | (simp; omega)) _ | with_reducible refine Below.trans ?_ (Below.mono (by assumption) (by first | omega | (simp; done) | (simp; omega))))⟩
  · have hn : n ≤ 100000 := by omega
    have he := eqF_refl (sm g n) 32
    go_enter Tryd.func3, Tryd.ntmps3
    go_wp2_with fail
    refine Calls.mono (bytesClone_c _ a n c g (by omega) HS.out) ?_
    rintro _ w1 ⟨⟨a', c', rfl, ho⟩, h1⟩
    obtain ⟨c1, f1, s1⟩ := bfacts h1
    try simp only [World.size_alloc, World.size_setCell, size_drew, size_drewN] at s1
    have HS1 := Lib.hid (row_sliceAt ho HS.out.lt)
    clear ho
    go_wp2_with fail
    refine Calls.mono (lawalive_c _ (HL.out.step (by repeat first | with_reducible exact Below.refl _ _ | with_reducible refine Below.drew ?_ | with_reducible refine below_dN ?_ | with_reducible refine Below.alloc ?_ (by first | omega | (simp; done) | (simp; omega)) _ | with_reducible refine Below.setCell ?_ (by first | omega | (simp; done) | (simp; omega)) _ | with_reducible refine Below.trans ?_ (Below.mono (by assumption) (by first | omega | (simp; done) | (simp; omega)))))) ?_
    rintro _ w2 ⟨rfl, h2⟩
    obtain ⟨c2, f2, s2⟩ := bfacts h2
    try simp only [World.size_alloc, World.size_setCell, size_drew, size_drewN] at s2
    go_wp2_with fail
    refine Calls.mono (shaSum_any a n c g hn _ (HL.out.step (by repeat first | with_reducible exact Below.refl _ _ | with_reducible refine Below.drew ?_ | with_reducible refine below_dN ?_ | with_reducible refine Below.alloc ?_ (by first | omega | (simp; done) | (simp; omega)) _ | with_reducible refine Below.setCell ?_ (by first | omega | (simp; done) | (simp; omega)) _ | with_reducible refine Below.trans ?_ (Below.mono (by assumption) (by first | omega | (simp; done) | (simp; omega))))) (HS.out.below (by repeat first | with_reducible exact Below.refl _ _ | with_reducible refine Below.drew ?_ | with_reducible refine below_dN ?_ | with_reducible refine Below.alloc ?_ (by first | omega | (simp; done) | (simp; omega)) _ | with_reducible refine Below.setCell ?_ (by first | omega | (simp; done) | (simp; omega)) _ | with_reducible refine Below.trans ?_ (Below.mono (by assumption) (by first | omega | (simp; done) | (simp; omega)))))) ?_
    rintro _ w3 ⟨rfl, h3⟩
    obtain ⟨c3, f3, s3⟩ := bfacts h3
    try simp only [World.size_alloc, World.size_setCell, size_drew, size_drewN] at s3
    go_wp2_with fail
    refine Calls.mono (refSum_any a n c g hn _ (HS.out.below (by repeat first | with_reducible exact Below.refl _ _ | with_reducible refine Below.drew ?_ | with_reducible refine below_dN ?_ | with_reducible refine Below.alloc ?_ (by first | omega | (simp; done) | (simp; omega)) _ | with_reducible refine Below.setCell ?_ (by first | omega | (simp; done) | (simp; omega)) _ | with_reducible refine Below.trans ?_ (Below.mono (by assumption) (by first | omega | (simp; done) | (simp; omega)))))) ?_
    rintro _ w4 ⟨rfl, h4⟩
    obtain ⟨c4, f4, s4⟩ := bfacts h4
    try simp only [World.size_alloc, World.size_setCell, size_drew, size_drewN] at s4
    go_wp2_with fail
    refine Calls.mono (bytesEq_c _ a a' n c c' g g (HS.out.below (by repeat first | with_reducible exact Below.refl _ _ | with_reducible refine Below.drew ?_ | with_reducible refine below_dN ?_ | with_reducible refine Below.alloc ?_ (by first | omega | (simp; done) | (simp; omega)) _ | with_reducible refine Below.setCell ?_ (by first | omega | (simp; done) | (simp; omega)) _ | with_reducible refine Below.trans ?_ (Below.mono (by assumption) (by first | omega | (simp; done) | (simp; omega))))) (HS1.out.below (by repeat first | with_reducible exact Below.refl _ _ | with_reducible refine Below.drew ?_ | with_reducible refine below_dN ?_ | with_reducible refine Below.alloc ?_ (by first | omega | (simp; done) | (simp; omega)) _ | with_reducible refine Below.setCell ?_ (by first | omega | (simp; done) | (simp; omega)) _ | with_reducible refine Below.trans ?_ (Below.mono (by assumption) (by first | omega | (simp; done) | (simp; omega))))) (fun _ _ => rfl)) ?_
    rintro _ w5 ⟨rfl, h5⟩
    obtain ⟨c5, f5, s5⟩ := bfacts h5
    try simp only [World.size_alloc, World.size_setCell, size_drew, size_drewN] at s5
    go_wp2_with fail
    go_ret
    exact ⟨rfl, (by repeat first | with_reducible exact Below.refl _ _ | with_reducible refine Below.drew ?_ | with_reducible refine below_dN ?_ | with_reducible refine Below.alloc ?_ (by first | omega | (simp; done) | (simp; omega)) _ | with_reducible refine Below.setCell ?_ (by first | omega | (simp; done) | (simp; omega)) _ | with_reducible refine Below.trans ?_ (Below.mono (by assumption) (by first | omega | (simp; done) | (simp; omega))))⟩

theorem BytesAt.set {w : World} {b n i v : Nat} {f : Nat → Nat} (h : BytesAt w b 0 n f) (hi : i < n) (hv : v < 256) : BytesAt (w.setCell ⟨b, i, none⟩ (.int .u8 ((v : Nat) : Int))) b 0 n (upd f i v) := by
  refine ⟨fun j => ?_, by rw [World.size_setCell]; exact h.blk, fun j hj => ?_⟩
  · unfold upd; split
    · exact hv
    · exact h.lt j
  · rw [Nat.zero_add]
    unfold upd
    by_cases e : j = i
    · subst e
      rw [if_pos rfl]
      exact World.cell?_setCell_same' w _ _ (by have := h.cell j hj; rw [Nat.zero_add] at this; rw [this]; rfl)
    · rw [if_neg e]
      have := h.cell j hj
      rw [Nat.zero_add] at this
      exact (World.cell?_setCell_other (w := w) (v := .int .u8 ((v : Nat) : Int)) (a := ⟨b, i, none⟩) (b := ⟨b, j, none⟩) (fun e2 => by injection e2 with _ e3; exact e e3.symm)).trans this

set_option maxRecDepth 100000 in
set_option maxHeartbeats 8000000 in
theorem shaDiffers_c (a : Option Addr) (n c : Nat) (g : Nat → Nat) (at_ by_ : Nat) (hat : at_ < 65536) (hby : by_ < 256) (w : World) (hL : Laid w) (hS : SliceAt w a n c g) :
    Calls Tryd.prog 8 #[.slice a n c, .int .u16 (at_ : Int), .int .u8 (by_ : Int)] w fun e w' => e = .returned (.bool true) ∧ Below w.heap.size w w' := by
  have HL := Lib.hid hL
  have HS := Lib.hid hS
  clear hL hS
  by_cases hbig : 2000 < n
  · skip
    go_enter Tryd.func8, Tryd.ntmps8
    go_wp2_with fail
    refine Calls.mono (lawalive_c _ HL.out) ?_
    rintro _ w1 ⟨rfl, h1⟩
    obtain ⟨c1, f1, s1⟩ := bfacts h1
    try simp only [World.size_alloc, World.size_setCell, size_drew, size_drewN] at s1
    go_wp2_with fail
    go_ret
    exact ⟨rfl, (by repeat first | with_reducible exact Below.refl _ _ | with_reducible refine Below.drew ?_ | with_reducible refine below_dN ?_ | with_reducible refine Below.alloc ?_ (by first | omega | (simp; done) | (simp; omega)) _ | with_reducible refine Below.setCell ?_ (by first | omega | (simp; done) | (simp; omega)) _ | with_reducible refine Below.trans ?_ (Below.mono (by assumption) (by first | omega | (simp; done) | (simp; omega))))⟩
  · by_cases h0 : n = 0
    · subst h0
      go_enter Tryd.func8, Tryd.ntmps8
      go_wp2_with fail
      refine Calls.mono (lawalive_c _ HL.out) ?_
      rintro _ w1 ⟨rfl, h1⟩
      obtain ⟨c1, f1, s1⟩ := bfacts h1
      try simp only [World.size_alloc, World.size_setCell, size_drew, size_drewN] at s1
      go_wp2_with fail
      go_ret
      exact ⟨rfl, (by repeat first | with_reducible exact Below.refl _ _ | with_reducible refine Below.drew ?_ | with_reducible refine below_dN ?_ | with_reducible refine Below.alloc ?_ (by first | omega | (simp; done) | (simp; omega)) _ | with_reducible refine Below.setCell ?_ (by first | omega | (simp; done) | (simp; omega)) _ | with_reducible refine Below.trans ?_ (Below.mono (by assumption) (by first | omega | (simp; done) | (simp; omega))))⟩
    · have hn : n ≤ 2000 := by omega
      have hn1 : 1 ≤ n := by omega
      have hn0 : ((n : Int) == 0) = false := by simp; omega
      clear h0
      go_enter Tryd.func8, Tryd.ntmps8
      go_wp2_with fail
      refine Calls.mono (bytesClone_c _ a n c g (by omega) HS.out) ?_
      rintro _ w1 ⟨⟨a', c', rfl, ho⟩, h1⟩
      obtain ⟨c1, f1, s1⟩ := bfacts h1
      try simp only [World.size_alloc, World.size_setCell, size_drew, size_drewN] at s1
      obtain ⟨gq, cq, e1, hgq, hgq2, hcq⟩ := row_form ho hn1
      injection e1 with e1 e2 e3
      subst e1 e3
      have hB := row_bytes ho HS.out.lt
      obtain ⟨i, ei⟩ : ∃ i, i = at_ % n := ⟨_, rfl⟩
      have hi : i < n := by rw [ei]; exact Nat.mod_lt _ hn1
      have hi1 : (at_ : Int) % (n : Int) = (i : Int) := by rw [ei]; rfl
      have hi2 : (i : Int) < (n : Int) := by omega
      have ci := hB.cell i hi
      rw [Nat.zero_add] at ci
      have fi := ho.frozenAt i
      obtain ⟨x, ex⟩ : ∃ x, x = g i := ⟨_, rfl⟩
      have hx : x < 256 := by rw [ex]; exact HS.out.lt i
      rw [← ex] at ci
      have hxy : x ^^^ by_ < 256 := by rw [show (256 : Nat) = 2 ^ 8 by decide] at *; exact Nat.xor_lt_two_pow hx hby
      have Hz : Hid (bits BinOp.xor IntKind.u8 (x : Int) (by_ : Int) = ((x ^^^ by_ : Nat) : Int)) := Lib.hid (u8_xor_nat x by_ hx hby)
      have HB := Lib.hid (hB.set hi hxy)
      have HBw : Hid (Below w.heap.size w (w1.setCell ⟨gq, i, none⟩ (.int .u8 ((x ^^^ by_ : Nat) : Int)))) := Lib.hid ((show Below w.heap.size w w1 from (by repeat first | with_reducible exact Below.refl _ _ | with_reducible refine Below.drew ?_ | with_reducible refine below_dN ?_ | with_reducible refine Below.alloc ?_ (by first | omega | (simp; done) | (simp; omega)) _ | with_reducible refine Below.setCell ?_ (by first | omega | (simp; done) | (simp; omega)) _ | with_reducible refine Below.trans ?_ (Below.mono (by assumption) (by first | omega | (simp; done) | (simp; omega))))).setCell hgq _)
      clear ho hB ei ex hxy hi
      go_wp2_with fail
      rw [Hz.out]
      refine wp_name ?_
      intro wA hA
      have HA : Hid (BytesAt wA gq 0 n (upd g i (x ^^^ by_))) := Lib.hid (by rw [hA]; exact HB.out)
      have HwA : Below w.heap.size w wA := by rw [hA]; exact HBw.out
      have hgA := HA.out.blk
      obtain ⟨g', eg⟩ : ∃ g', g' = upd g i (x ^^^ by_) := ⟨_, rfl⟩
      rw [← eg] at HA
      have HSc : Hid (SliceAt wA (some ⟨gq, 0, none⟩) n c' g') := ⟨HA.out.lt, hcq, .inr ⟨_, rfl, fun _ => ⟨_, _, rfl, HA.out⟩⟩⟩
      have HSb := Lib.hid (HS.out.below HwA)
      have HLA := Lib.hid (HL.out.step HwA)
      have HWA := Lib.hid HwA
      have hE := eqF_refl (sm g' n) 32
      clear hA HB HBw Hz c1 f1 h1 s1 hgq2 hgq e2 HwA HA eg ci fi hx hi1 hi2
      refine held_begin 22 [gq] (by kernel_rfl) rfl (by intro _ _ d _ _ h; cases d <;> exact h) ?_
      intro hQ hK
      with_reducible apply held_call (n := 21) 0
      · rfl
      · kernel_rfl
      · rfl
      · with_reducible exact hK
      apply Exists.intro
      apply Exists.intro
      apply Exists.intro
      refine ⟨?_, ?_, ?_, ?_⟩
      · go_simp
        exact ⟨rfl, rfl⟩
      · exact lawalive_c _ (HLA.out.step (by repeat first | with_reducible exact Below.refl _ _ | with_reducible refine Below.drew ?_ | with_reducible refine below_dN ?_ | with_reducible refine Below.alloc ?_ (by first | omega | (simp; done) | (simp; omega)) _ | with_reducible refine Below.setCell ?_ (by first | omega | (simp; done) | (simp; omega)) _ | with_reducible refine Below.trans ?_ (Below.mono (by assumption) (by first | omega | (simp; done) | (simp; omega)))))
      · intro b hb
        simp only [List.mem_cons, List.not_mem_nil, or_false] at hb
        rcases hb with rfl <;> first | omega | (simp; done) | (simp; omega)
      intro v0 h0 hK
      obtain ⟨c0, f0, s0⟩ := bfacts h0
      try simp only [World.size_alloc, World.size_setCell, size_drew, size_drewN] at s0
      try simp only [Act.put, List.setIfInBounds_toArray, List.set_cons_zero, List.set_cons_succ, List.tail_cons]
      with_reducible apply held_v (n := 20) 1
      · rfl
      · kernel_rfl
      · kernel_rfl
      · kernel_rfl
      · exact hQ
      · with_reducible exact hK
      · rfl
      apply Exists.intro
      refine ⟨fun w' hC => ?_, ?_⟩
      · have k0_ := hC (gq) (by simp only [List.mem_cons, true_or, or_true])
        clear hC
        go_simp
        rfl
      try simp only [Act.put, List.setIfInBounds_toArray, List.set_cons_zero, List.set_cons_succ, List.tail_cons]
      first
        | (with_reducible apply held_v (n := 19) 2
           · rfl
           · kernel_rfl
           · kernel_rfl
           · kernel_rfl
           · exact hQ
           · with_reducible exact hK
           · rfl
           apply Exists.intro
           refine ⟨fun w' hC => ?_, ?_⟩
           · have k0_ := hC (gq) (by simp only [List.mem_cons, true_or, or_true])
             clear hC
             go_simp
             rfl)
        | (with_reducible apply held_s (n := 19) 2
           · rfl
           · kernel_rfl
           · kernel_rfl
           · kernel_rfl
           · exact hQ
           · with_reducible exact hK
           · rfl)
      try simp only [Act.put, List.setIfInBounds_toArray, List.set_cons_zero, List.set_cons_succ, List.tail_cons]
      first
        | (with_reducible apply held_v (n := 18) 4
           · rfl
           · kernel_rfl
           · kernel_rfl
           · kernel_rfl
           · exact hQ
           · with_reducible exact hK
           · rfl
           apply Exists.intro
           refine ⟨fun w' hC => ?_, ?_⟩
           · have k0_ := hC (gq) (by simp only [List.mem_cons, true_or, or_true])
             clear hC
             go_simp
             rfl)
        | (with_reducible apply held_s (n := 18) 4
           · rfl
           · kernel_rfl
           · kernel_rfl
           · kernel_rfl
           · exact hQ
           · with_reducible exact hK
           · rfl)
      try simp only [Act.put, List.setIfInBounds_toArray, List.set_cons_zero, List.set_cons_succ, List.tail_cons]
      first
        | (with_reducible apply held_v (n := 17) 7
           · rfl
           · kernel_rfl
           · kernel_rfl
           · kernel_rfl
           · exact hQ
           · with_reducible exact hK
           · rfl
           apply Exists.intro
           refine ⟨fun w' hC => ?_, ?_⟩
           · have k0_ := hC (gq) (by simp only [List.mem_cons, true_or, or_true])
             clear hC
             go_simp
             rfl)
        | (with_reducible apply held_s (n := 17) 7
           · rfl
           · kernel_rfl
           · kernel_rfl
           · kernel_rfl
           · exact hQ
           · with_reducible exact hK
           · rfl)
      try simp only [Act.put, List.setIfInBounds_toArray, List.set_cons_zero, List.set_cons_succ, List.tail_cons]
      first
        | (with_reducible apply held_v (n := 16) 9
           · rfl
           · kernel_rfl
           · kernel_rfl
           · kernel_rfl
           · exact hQ
           · with_reducible exact hK
           · rfl
           apply Exists.intro
           refine ⟨fun w' hC => ?_, ?_⟩
           · have k0_ := hC (gq) (by simp only [List.mem_cons, true_or, or_true])
             clear hC
             go_simp
             rfl)
        | (with_reducible apply held_s (n := 16) 9
           · rfl
           · kernel_rfl
           · kernel_rfl
           · kernel_rfl
           · exact hQ
           · with_reducible exact hK
           · rfl)
      try simp only [Act.put, List.setIfInBounds_toArray, List.set_cons_zero, List.set_cons_succ, List.tail_cons]
      with_reducible apply held_call (n := 15) 3
      · rfl
      · kernel_rfl
      · rfl
      · with_reducible exact hK
      apply Exists.intro
      apply Exists.intro
      apply Exists.intro
      refine ⟨?_, ?_, ?_, ?_⟩
      · go_simp
        exact ⟨rfl, rfl⟩
      · exact shaSum_any a n c g (by omega) _ (HLA.out.step (by repeat first | with_reducible exact Below.refl _ _ | with_reducible refine Below.drew ?_ | with_reducible refine below_dN ?_ | with_reducible refine Below.alloc ?_ (by first | omega | (simp; done) | (simp; omega)) _ | with_reducible refine Below.setCell ?_ (by first | omega | (simp; done) | (simp; omega)) _ | with_reducible refine Below.trans ?_ (Below.mono (by assumption) (by first | omega | (simp; done) | (simp; omega))))) (HSb.out.below (by repeat first | with_reducible exact Below.refl _ _ | with_reducible refine Below.drew ?_ | with_reducible refine below_dN ?_ | with_reducible refine Below.alloc ?_ (by first | omega | (simp; done) | (simp; omega)) _ | with_reducible refine Below.setCell ?_ (by first | omega | (simp; done) | (simp; omega)) _ | with_reducible refine Below.trans ?_ (Below.mono (by assumption) (by first | omega | (simp; done) | (simp; omega)))))
      · intro b hb
        simp only [List.mem_cons, List.not_mem_nil, or_false] at hb
        rcases hb with rfl <;> first | omega | (simp; done) | (simp; omega)
      intro v3 h3 hK
      obtain ⟨c3, f3, s3⟩ := bfacts h3
      try simp only [World.size_alloc, World.size_setCell, size_drew, size_drewN] at s3
      try simp only [Act.put, List.setIfInBounds_toArray, List.set_cons_zero, List.set_cons_succ, List.tail_cons]
      with_reducible apply held_call (n := 14) 5
      · rfl
      · kernel_rfl
      · rfl
      · with_reducible exact hK
      apply Exists.intro
      apply Exists.intro
      apply Exists.intro
      refine ⟨?_, ?_, ?_, ?_⟩
      · go_simp
        exact ⟨rfl, rfl⟩
      · exact shaSum_any _ n c' g' (by omega) _ (HLA.out.step (by repeat first | with_reducible exact Below.refl _ _ | with_reducible refine Below.drew ?_ | with_reducible refine below_dN ?_ | with_reducible refine Below.alloc ?_ (by first | omega | (simp; done) | (simp; omega)) _ | with_reducible refine Below.setCell ?_ (by first | omega | (simp; done) | (simp; omega)) _ | with_reducible refine Below.trans ?_ (Below.mono (by assumption) (by first | omega | (simp; done) | (simp; omega))))) (HSc.out.below (by repeat first | with_reducible exact Below.refl _ _ | with_reducible refine Below.drew ?_ | with_reducible refine below_dN ?_ | with_reducible refine Below.alloc ?_ (by first | omega | (simp; done) | (simp; omega)) _ | with_reducible refine Below.setCell ?_ (by first | omega | (simp; done) | (simp; omega)) _ | with_reducible refine Below.trans ?_ (Below.mono (by assumption) (by first | omega | (simp; done) | (simp; omega)))))
      · intro b hb
        simp only [List.mem_cons, List.not_mem_nil, or_false] at hb
        rcases hb with rfl <;> first | omega | (simp; done) | (simp; omega)
      intro v5 h5 hK
      obtain ⟨c5, f5, s5⟩ := bfacts h5
      try simp only [World.size_alloc, World.size_setCell, size_drew, size_drewN] at s5
      try simp only [Act.put, List.setIfInBounds_toArray, List.set_cons_zero, List.set_cons_succ, List.tail_cons]
      first
        | (with_reducible apply held_v (n := 13) 6
           · rfl
           · kernel_rfl
           · kernel_rfl
           · kernel_rfl
           · exact hQ
           · with_reducible exact hK
           · rfl
           apply Exists.intro
           refine ⟨fun w' hC => ?_, ?_⟩
           · have k0_ := hC (gq) (by simp only [List.mem_cons, true_or, or_true])
             clear hC
             go_simp
             rfl)
        | (with_reducible apply held_s (n := 13) 6
           · rfl
           · kernel_rfl
           · kernel_rfl
           · kernel_rfl
           · exact hQ
           · with_reducible exact hK
           · rfl)
      try simp only [Act.put, List.setIfInBounds_toArray, List.set_cons_zero, List.set_cons_succ, List.tail_cons]
      with_reducible apply held_call (n := 12) 8
      · rfl
      · kernel_rfl
      · rfl
      · with_reducible exact hK
      apply Exists.intro
      apply Exists.intro
      apply Exists.intro
      refine ⟨?_, ?_, ?_, ?_⟩
      · go_simp
        exact ⟨rfl, rfl⟩
      · exact refSum_any a n c g (by omega) _ (HSb.out.below (by repeat first | with_reducible exact Below.refl _ _ | with_reducible refine Below.drew ?_ | with_reducible refine below_dN ?_ | with_reducible refine Below.alloc ?_ (by first | omega | (simp; done) | (simp; omega)) _ | with_reducible refine Below.setCell ?_ (by first | omega | (simp; done) | (simp; omega)) _ | with_reducible refine Below.trans ?_ (Below.mono (by assumption) (by first | omega | (simp; done) | (simp; omega)))))
      · intro b hb
        simp only [List.mem_cons, List.not_mem_nil, or_false] at hb
        rcases hb with rfl <;> first | omega | (simp; done) | (simp; omega)
      intro v8 h8 hK
      obtain ⟨c8, f8, s8⟩ := bfacts h8
      try simp only [World.size_alloc, World.size_setCell, size_drew, size_drewN] at s8
      try simp only [Act.put, List.setIfInBounds_toArray, List.set_cons_zero, List.set_cons_succ, List.tail_cons]
      with_reducible apply held_call (n := 11) 10
      · rfl
      · kernel_rfl
      · rfl
      · with_reducible exact hK
      apply Exists.intro
      apply Exists.intro
      apply Exists.intro
      refine ⟨?_, ?_, ?_, ?_⟩
      · go_simp
        exact ⟨rfl, rfl⟩
      · exact refSum_any _ n c' g' (by omega) _ (HSc.out.below (by repeat first | with_reducible exact Below.refl _ _ | with_reducible refine Below.drew ?_ | with_reducible refine below_dN ?_ | with_reducible refine Below.alloc ?_ (by first | omega | (simp; done) | (simp; omega)) _ | with_reducible refine Below.setCell ?_ (by first | omega | (simp; done) | (simp; omega)) _ | with_reducible refine Below.trans ?_ (Below.mono (by assumption) (by first | omega | (simp; done) | (simp; omega)))))
      · intro b hb
        simp only [List.mem_cons, List.not_mem_nil, or_false] at hb
        rcases hb with rfl <;> first | omega | (simp; done) | (simp; omega)
      intro v10 h10 hK
      obtain ⟨c10, f10, s10⟩ := bfacts h10
      try simp only [World.size_alloc, World.size_setCell, size_drew, size_drewN] at s10
      try simp only [Act.put, List.setIfInBounds_toArray, List.set_cons_zero, List.set_cons_succ, List.tail_cons]
      first
        | (with_reducible apply held_v (n := 10) 11
           · rfl
           · kernel_rfl
           · kernel_rfl
           · kernel_rfl
           · exact hQ
           · with_reducible exact hK
           · rfl
           apply Exists.intro
           refine ⟨fun w' hC => ?_, ?_⟩
           · have k0_ := hC (gq) (by simp only [List.mem_cons, true_or, or_true])
             clear hC
             go_simp
             rfl)
        | (with_reducible apply held_s (n := 10) 11
           · rfl
           · kernel_rfl
           · kernel_rfl
           · kernel_rfl
           · exact hQ
           · with_reducible exact hK
           · rfl)
      try simp only [Act.put, List.setIfInBounds_toArray, List.set_cons_zero, List.set_cons_succ, List.tail_cons]
      first
        | (with_reducible apply held_v (n := 9) 12
           · rfl
           · kernel_rfl
           · kernel_rfl
           · kernel_rfl
           · exact hQ
           · with_reducible exact hK
           · rfl
           apply Exists.intro
           refine ⟨fun w' hC => ?_, ?_⟩
           · have k0_ := hC (gq) (by simp only [List.mem_cons, true_or, or_true])
             clear hC
             go_simp
             rfl)
        | (with_reducible apply held_s (n := 9) 12
           · rfl
           · kernel_rfl
           · kernel_rfl
           · kernel_rfl
           · exact hQ
           · with_reducible exact hK
           · rfl)
      try simp only [Act.put, List.setIfInBounds_toArray, List.set_cons_zero, List.set_cons_succ, List.tail_cons]
      with_reducible apply held_v (n := 8) 13
      · rfl
      · kernel_rfl
      · kernel_rfl
      · kernel_rfl
      · exact hQ
      · with_reducible exact hK
      · rfl
      apply Exists.intro
      refine ⟨fun w' hC => ?_, ?_⟩
      · have k0_ := hC (gq) (by simp only [List.mem_cons, true_or, or_true])
        clear hC
        go_simp
        rfl
      try simp only [Act.put, List.setIfInBounds_toArray, List.set_cons_zero, List.set_cons_succ, List.tail_cons]
      with_reducible apply held_v (n := 7) 14
      · rfl
      · kernel_rfl
      · kernel_rfl
      · kernel_rfl
      · exact hQ
      · with_reducible exact hK
      · rfl
      apply Exists.intro
      refine ⟨fun w' hC => ?_, ?_⟩
      · have k0_ := hC (gq) (by simp only [List.mem_cons, true_or, or_true])
        clear hC
        go_simp
        rfl
      try simp only [Act.put, List.setIfInBounds_toArray, List.set_cons_zero, List.set_cons_succ, List.tail_cons]
      first
        | (with_reducible apply held_v (n := 6) 15
           · rfl
           · kernel_rfl
           · kernel_rfl
           · kernel_rfl
           · exact hQ
           · with_reducible exact hK
           · rfl
           apply Exists.intro
           refine ⟨fun w' hC => ?_, ?_⟩
           · have k0_ := hC (gq) (by simp only [List.mem_cons, true_or, or_true])
             clear hC
             go_simp
             rfl)
        | (with_reducible apply held_s (n := 6) 15
           · rfl
           · kernel_rfl
           · kernel_rfl
           · kernel_rfl
           · exact hQ
           · with_reducible exact hK
           · rfl)
      try simp only [Act.put, List.setIfInBounds_toArray, List.set_cons_zero, List.set_cons_succ, List.tail_cons]
      first
        | (with_reducible apply held_v (n := 5) 17
           · rfl
           · kernel_rfl
           · kernel_rfl
           · kernel_rfl
           · exact hQ
           · with_reducible exact hK
           · rfl
           apply Exists.intro
           refine ⟨fun w' hC => ?_, ?_⟩
           · have k0_ := hC (gq) (by simp only [List.mem_cons, true_or, or_true])
             clear hC
             go_simp
             rfl)
        | (with_reducible apply held_s (n := 5) 17
           · rfl
           · kernel_rfl
           · kernel_rfl
           · kernel_rfl
           · exact hQ
           · with_reducible exact hK
           · rfl)
      try simp only [Act.put, List.setIfInBounds_toArray, List.set_cons_zero, List.set_cons_succ, List.tail_cons]
      with_reducible apply held_call (n := 4) 16
      · rfl
      · kernel_rfl
      · rfl
      · with_reducible exact hK
      apply Exists.intro
      apply Exists.intro
      apply Exists.intro
      refine ⟨?_, ?_, ?_, ?_⟩
      · go_simp
        exact ⟨rfl, rfl⟩
      · exact shaSum_any _ n c' g' (by omega) _ (HLA.out.step (by repeat first | with_reducible exact Below.refl _ _ | with_reducible refine Below.drew ?_ | with_reducible refine below_dN ?_ | with_reducible refine Below.alloc ?_ (by first | omega | (simp; done) | (simp; omega)) _ | with_reducible refine Below.setCell ?_ (by first | omega | (simp; done) | (simp; omega)) _ | with_reducible refine Below.trans ?_ (Below.mono (by assumption) (by first | omega | (simp; done) | (simp; omega))))) (HSc.out.below (by repeat first | with_reducible exact Below.refl _ _ | with_reducible refine Below.drew ?_ | with_reducible refine below_dN ?_ | with_reducible refine Below.alloc ?_ (by first | omega | (simp; done) | (simp; omega)) _ | with_reducible refine Below.setCell ?_ (by first | omega | (simp; done) | (simp; omega)) _ | with_reducible refine Below.trans ?_ (Below.mono (by assumption) (by first | omega | (simp; done) | (simp; omega)))))
      · intro b hb
        simp only [List.mem_cons, List.not_mem_nil, or_false] at hb
        rcases hb with rfl <;> first | omega | (simp; done) | (simp; omega)
      intro v16 h16 hK
      obtain ⟨c16, f16, s16⟩ := bfacts h16
      try simp only [World.size_alloc, World.size_setCell, size_drew, size_drewN] at s16
      try simp only [Act.put, List.setIfInBounds_toArray, List.set_cons_zero, List.set_cons_succ, List.tail_cons]
      with_reducible apply held_call (n := 3) 18
      · rfl
      · kernel_rfl
      · rfl
      · with_reducible exact hK
      apply Exists.intro
      apply Exists.intro
      apply Exists.intro
      refine ⟨?_, ?_, ?_, ?_⟩
      · go_simp
        exact ⟨rfl, rfl⟩
      · exact refSum_any _ n c' g' (by omega) _ (HSc.out.below (by repeat first | with_reducible exact Below.refl _ _ | with_reducible refine Below.drew ?_ | with_reducible refine below_dN ?_ | with_reducible refine Below.alloc ?_ (by first | omega | (simp; done) | (simp; omega)) _ | with_reducible refine Below.setCell ?_ (by first | omega | (simp; done) | (simp; omega)) _ | with_reducible refine Below.trans ?_ (Below.mono (by assumption) (by first | omega | (simp; done) | (simp; omega)))))
      · intro b hb
        simp only [List.mem_cons, List.not_mem_nil, or_false] at hb
        rcases hb with rfl <;> first | omega | (simp; done) | (simp; omega)
      intro v18 h18 hK
      obtain ⟨c18, f18, s18⟩ := bfacts h18
      try simp only [World.size_alloc, World.size_setCell, size_drew, size_drewN] at s18
      try simp only [Act.put, List.setIfInBounds_toArray, List.set_cons_zero, List.set_cons_succ, List.tail_cons]
      first
        | (with_reducible apply held_v (n := 2) 19
           · rfl
           · kernel_rfl
           · kernel_rfl
           · kernel_rfl
           · exact hQ
           · with_reducible exact hK
           · rfl
           apply Exists.intro
           refine ⟨fun w' hC => ?_, ?_⟩
           · have k0_ := hC (gq) (by simp only [List.mem_cons, true_or, or_true])
             clear hC
             go_simp
             rfl)
        | (with_reducible apply held_s (n := 2) 19
           · rfl
           · kernel_rfl
           · kernel_rfl
           · kernel_rfl
           · exact hQ
           · with_reducible exact hK
           · rfl)
      try simp only [Act.put, List.setIfInBounds_toArray, List.set_cons_zero, List.set_cons_succ, List.tail_cons]
      with_reducible apply held_v (n := 1) 20
      · rfl
      · kernel_rfl
      · kernel_rfl
      · kernel_rfl
      · exact hQ
      · with_reducible exact hK
      · rfl
      apply Exists.intro
      refine ⟨fun w' hC => ?_, ?_⟩
      · have k0_ := hC (gq) (by simp only [List.mem_cons, true_or, or_true])
        clear hC
        go_simp
        rfl
      try simp only [Act.put, List.setIfInBounds_toArray, List.set_cons_zero, List.set_cons_succ, List.tail_cons]
      with_reducible apply held_v (n := 0) 21
      · rfl
      · kernel_rfl
      · kernel_rfl
      · kernel_rfl
      · exact hQ
      · with_reducible exact hK
      · rfl
      apply Exists.intro
      refine ⟨fun w' hC => ?_, ?_⟩
      · have k0_ := hC (gq) (by simp only [List.mem_cons, true_or, or_true])
        clear hC
        go_simp
        rfl
      try simp only [Act.put, List.setIfInBounds_toArray, List.set_cons_zero, List.set_cons_succ, List.tail_cons]
      refine held_end (by kernel_rfl) ?_
      clear hK hQ
      go_wp2_with fail
      go_ret
      exact ⟨rfl, HWA.out.trans (Below.mono (by repeat first | with_reducible exact Below.refl _ _ | with_reducible refine Below.drew ?_ | with_reducible refine below_dN ?_ | with_reducible refine Below.alloc ?_ (by first | omega | (simp; done) | (simp; omega)) _ | with_reducible refine Below.setCell ?_ (by first | omega | (simp; done) | (simp; omega)) _ | with_reducible refine Below.trans ?_ (Below.mono (by assumption) (by first | omega | (simp; done) | (simp; omega)))) HWA.out.size)⟩
end Go.Proofs.YtdaggankfokloaaDoor
