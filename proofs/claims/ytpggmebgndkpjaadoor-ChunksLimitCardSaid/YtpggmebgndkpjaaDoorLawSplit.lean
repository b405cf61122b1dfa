/- The walk of law 13's ChunksSplit. -/
import Derived.Test.YtpggmebgndkpjaaDoorLawSame
import Derived.Test.YtpggmebgndkpjaaDoorLawRoundTrip
namespace Go.Proofs.YtpggmebgndkpjaaDoor
set_option linter.all false
open Go Go.RowKit Go.Shelf

theorem nl_map (f : Nat → Nat) (n : Nat) : (nl f n).map (Value.int .u8) = fl f n := by simp [nl, fl]
theorem clone_v (w : World) (a : Option Addr) (n c : Nat) (f : Nat → Nat) (hn : n ≤ 1000000) (h : SliceAt w a n f) :
    Calls Tryd.prog 39 #[.slice a n c] w fun e w' => (∃ r, e = .returned r ∧ ∃ b d, r = .slice b n d ∧ n ≤ d ∧ SliceAt w' b n f) ∧ Below w.heap.size w w' := by
  cases a with
  | none =>
    obtain rfl : n = 0 := by
      rcases h.at_ with h0 | ⟨_, _, h0, _⟩
      · exact h0
      · cases h0
    refine (Tryd.bytes_Clone_nil 0 c w).mono ?_
    rintro e w' ⟨rfl, rfl⟩
    exact ⟨⟨_, rfl, none, 0, rfl, Nat.le_refl _, h.lt, .inl rfl⟩, Below.refl _ _⟩
  | some ad =>
    refine (Tryd.bytes_Clone_at ad n c (nl f n) w (nl_len f n) (by omega) ?_).mono ?_
    · intro i hi
      obtain ⟨b, off, e, hB⟩ := h.pos (by omega)
      cases e
      rw [nl_get f n i hi]
      have e : (⟨b, off, none⟩ : Addr).add i = ⟨b, off + i, none⟩ := by unfold Addr.add; split <;> simp_all
      rw [e]
      exact hB.cell i hi
    · rintro e w' ⟨v, rfl, ho, _, hb⟩
      rw [nl_map] at ho
      obtain ⟨b, d, rfl, hd, hS⟩ := own_bytes h.lt ho
      exact ⟨⟨_, rfl, b, d, rfl, hd, hS⟩, hb⟩
theorem refForm_s (s : Bool) (x : Nat) (w : World) (hx : x < R4) : Calls Tryd.prog 63 #[vec (pr s), vec x] w fun e w' => e = .returned (vec (RR s x)) ∧ Below w.heap.size w w' := refForm_c (pr s) x (pr_lt s) (pr_gt1 s) hx w
theorem refSplit_v (a : Option Addr) (n c : Nat) (f : Nat → Nat) (hn : n ≤ 65535) (hc : n ≤ c) (w : World) (hS : SliceAt w a n f) :
    Calls Tryd.prog 40 #[.slice a n c] w fun e w' => (∃ r, e = .returned r ∧ ∃ b d, r = .tuple #[.slice b (cn n) d, .int .i64 0] ∧ VecsAt w' b (cn n) (cv n f)) ∧ Below w.heap.size w w' := by
  refine (refSplit_ok a n c f hn hc w (Lib.hid hS)).mono ?_
  rintro e w' ⟨⟨v, rfl, hv⟩, hb⟩
  obtain ⟨_, b, d, rfl, _, hX⟩ := own_vals hv
  refine ⟨⟨_, rfl, b, d, rfl, ?_⟩, hb⟩
  refine ⟨hX.at_.imp id fun ⟨g, off, e, hl, hc⟩ => ⟨g, off, e, hl, fun i hi j hj => ?_⟩⟩
  rw [hc i hi j hj]
  have e : ((List.range (cn n)).map (cv n f)).getD i 0 = cv n f i := by simp [List.getD, hi]
  rw [e]

set_option maxRecDepth 100000 in
set_option maxHeartbeats 8000000 in
theorem chunksSplit_big (s : Bool) (a : Option Addr) (n c : Nat) (hn : 1500 < n) (w : World) (HL : Hid (Laid w)) :
    Calls Tryd.prog 11 #[.bool s, .slice a n c] w fun e w' => e = .returned (.bool true) ∧ Below w.heap.size w w' := by
  have hn2 : (1500 : Int) < (n : Int) := by omega
  go_enter Tryd.func11, Tryd.ntmps11
  go_wp2_with fail
  refine Calls.mono (alive13_c _ HL.out) ?_
  rintro _ w1 ⟨rfl, h1⟩
  obtain ⟨c1, f1, s1⟩ := bfacts h1
  try simp only [World.size_alloc, World.size_setCell, size_drew, size_drewN] at s1
  go_wp2_with fail
  refine bodyPost_ret (v := .bool true) (by simp only [results, Tryd.results11]; go_simp) rfl ⟨rfl, ?_⟩
  repeat first
    | with_reducible exact Below.refl _ _
    | with_reducible refine Below.drew ?_
    | with_reducible refine below_dN ?_
    | with_reducible refine Below.alloc ?_ (by first | omega | (simp; done) | (simp; omega)) _
    | with_reducible refine Below.setCell ?_ (by first | omega | (simp; done) | (simp; omega)) _
    | with_reducible refine Below.trans ?_ (Below.mono (by assumption) (by first | omega | (simp; done) | (simp; omega)))

set_option maxRecDepth 100000 in
set_option maxHeartbeats 8000000 in
theorem chunksSplit_ok (s : Bool) (a : Option Addr) (n c : Nat) (f : Nat → Nat) (hn : n ≤ 1500) (hc : n ≤ c) (w : World) (HS : Hid (SliceAt w a n f)) (HL : Hid (Laid w)) :
    Calls Tryd.prog 11 #[.bool s, .slice a n c] w fun e w' => e = .returned (.bool true) ∧ Below w.heap.size w w' := by
  have hn2 : (n : Int) ≤ (1500 : Int) := by omega
  have hcn : cn (n : Int) ≤ 2115 := by unfold cn; split <;> omega
  go_enter Tryd.func11, Tryd.ntmps11
  go_wp2_with fail
  refine Calls.mono (get13_c s _ HL.out) ?_
  rintro _ w1 ⟨rfl, h1⟩
  obtain ⟨c1, f1, s1⟩ := bfacts h1
  try simp only [World.size_alloc, World.size_setCell, size_drew, size_drewN] at s1
  go_wp2_with fail
  refine Calls.mono (clone_v _ a n c f (by omega) (HS.out.below (by repeat first | with_reducible exact Below.refl _ _ | with_reducible refine Below.drew ?_ | with_reducible refine below_dN ?_ | with_reducible refine Below.alloc ?_ (by first | omega | (simp; done) | (simp; omega)) _ | with_reducible refine Below.setCell ?_ (by first | omega | (simp; done) | (simp; omega)) _ | with_reducible refine Below.trans ?_ (Below.mono (by assumption) (by first | omega | (simp; done) | (simp; omega)))))) ?_
  rintro _ w2 ⟨⟨_, rfl, bb, bd, rfl, hbd, hS2⟩, h2⟩
  obtain ⟨c2, f2, s2⟩ := bfacts h2
  try simp only [World.size_alloc, World.size_setCell, size_drew, size_drewN] at s2
  have l_w1_w2_0 : w1.heap.size < w2.heap.size := by omega
  have l_w1_w2_1 : w1.heap.size + 1 < w2.heap.size := by omega
  have HS2 := Lib.hid hS2
  clear hS2
  go_wp2_with fail
  refine Calls.mono (split_v s bb n bd f (by omega) hbd _ HS2.out) ?_
  rintro _ w3 ⟨⟨_, rfl, lb, ld, rfl, hX⟩, h3⟩
  obtain ⟨c3, f3, s3⟩ := bfacts h3
  try simp only [World.size_alloc, World.size_setCell, size_drew, size_drewN] at s3
  have l_w1_w3_0 : w1.heap.size < w3.heap.size := by omega
  have l_w1_w3_1 : w1.heap.size + 1 < w3.heap.size := by omega
  have HX := Lib.hid hX
  clear hX
  go_wp2_with fail
  refine Calls.mono (refSplit_v a n c f (by omega) hc _ (HS.out.below (by repeat first | with_reducible exact Below.refl _ _ | with_reducible refine Below.drew ?_ | with_reducible refine below_dN ?_ | with_reducible refine Below.alloc ?_ (by first | omega | (simp; done) | (simp; omega)) _ | with_reducible refine Below.setCell ?_ (by first | omega | (simp; done) | (simp; omega)) _ | with_reducible refine Below.trans ?_ (Below.mono (by assumption) (by first | omega | (simp; done) | (simp; omega)))))) ?_
  rintro _ w4 ⟨⟨_, rfl, vb, vd, rfl, hV⟩, h4⟩
  obtain ⟨c4, f4, s4⟩ := bfacts h4
  try simp only [World.size_alloc, World.size_setCell, size_drew, size_drewN] at s4
  have l_w1_w4_0 : w1.heap.size < w4.heap.size := by omega
  have l_w1_w4_1 : w1.heap.size + 1 < w4.heap.size := by omega
  have HV := Lib.hid hV
  clear hV
  go_wp2_with fail
  refine Calls.mono (alive13_c _ (HL.out.step (by repeat first | with_reducible exact Below.refl _ _ | with_reducible refine Below.drew ?_ | with_reducible refine below_dN ?_ | with_reducible refine Below.alloc ?_ (by first | omega | (simp; done) | (simp; omega)) _ | with_reducible refine Below.setCell ?_ (by first | omega | (simp; done) | (simp; omega)) _ | with_reducible refine Below.trans ?_ (Below.mono (by assumption) (by first | omega | (simp; done) | (simp; omega)))))) ?_
  rintro _ w5 ⟨rfl, h5⟩
  obtain ⟨c5, f5, s5⟩ := bfacts h5
  try simp only [World.size_alloc, World.size_setCell, size_drew, size_drewN] at s5
  go_wp2_with fail
  refine Calls.mono (same_c s lb vb (cn n) ld vd (fun i => RR s (cv n f i)) (cv n f) (by omega) _ (Lib.hid (HX.out.below (by repeat first | with_reducible exact Below.refl _ _ | with_reducible refine Below.drew ?_ | with_reducible refine below_dN ?_ | with_reducible refine Below.alloc ?_ (by first | omega | (simp; done) | (simp; omega)) _ | with_reducible refine Below.setCell ?_ (by first | omega | (simp; done) | (simp; omega)) _ | with_reducible refine Below.trans ?_ (Below.mono (by assumption) (by first | omega | (simp; done) | (simp; omega)))))) (Lib.hid (HV.out.below (by repeat first | with_reducible exact Below.refl _ _ | with_reducible refine Below.drew ?_ | with_reducible refine below_dN ?_ | with_reducible refine Below.alloc ?_ (by first | omega | (simp; done) | (simp; omega)) _ | with_reducible refine Below.setCell ?_ (by first | omega | (simp; done) | (simp; omega)) _ | with_reducible refine Below.trans ?_ (Below.mono (by assumption) (by first | omega | (simp; done) | (simp; omega)))))) (Lib.hid fun i _ => ⟨Nat.lt_trans (cv_pr s HS.out.lt i) (pr_lt s), rfl⟩) (Lib.hid (refForm_s s))) ?_
  rintro _ w6 ⟨rfl, h6⟩
  obtain ⟨c6, f6, s6⟩ := bfacts h6
  try simp only [World.size_alloc, World.size_setCell, size_drew, size_drewN] at s6
  go_wp2_with fail
  refine Calls.mono (bytesEq_c _ bb a n bd c f f (HS2.out.below (by repeat first | with_reducible exact Below.refl _ _ | with_reducible refine Below.drew ?_ | with_reducible refine below_dN ?_ | with_reducible refine Below.alloc ?_ (by first | omega | (simp; done) | (simp; omega)) _ | with_reducible refine Below.setCell ?_ (by first | omega | (simp; done) | (simp; omega)) _ | with_reducible refine Below.trans ?_ (Below.mono (by assumption) (by first | omega | (simp; done) | (simp; omega))))) (HS.out.below (by repeat first | with_reducible exact Below.refl _ _ | with_reducible refine Below.drew ?_ | with_reducible refine below_dN ?_ | with_reducible refine Below.alloc ?_ (by first | omega | (simp; done) | (simp; omega)) _ | with_reducible refine Below.setCell ?_ (by first | omega | (simp; done) | (simp; omega)) _ | with_reducible refine Below.trans ?_ (Below.mono (by assumption) (by first | omega | (simp; done) | (simp; omega))))) (fun _ _ => rfl)) ?_
  rintro _ w7 ⟨rfl, h7⟩
  obtain ⟨c7, f7, s7⟩ := bfacts h7
  try simp only [World.size_alloc, World.size_setCell, size_drew, size_drewN] at s7
  go_wp2_with fail
  refine bodyPost_ret (v := .bool true) (by simp only [results, Tryd.results11]; go_simp) rfl ⟨rfl, ?_⟩
  repeat first
    | with_reducible exact Below.refl _ _
    | with_reducible refine Below.drew ?_
    | with_reducible refine below_dN ?_
    | with_reducible refine Below.alloc ?_ (by first | omega | (simp; done) | (simp; omega)) _
    | with_reducible refine Below.setCell ?_ (by first | omega | (simp; done) | (simp; omega)) _
    | with_reducible refine Below.trans ?_ (Below.mono (by assumption) (by first | omega | (simp; done) | (simp; omega)))
theorem chunksSplit_c (w : World) (s : Bool) (a : Option Addr) (n c : Nat) (f : Nat → Nat) (h : BytesArg w a n c f) (hL : Laid w) :
    Calls Tryd.prog 11 #[.bool s, .slice a n c] w fun e w' => e = .returned (.bool true) ∧ Below w.heap.size w w' := by
  by_cases hn : 1500 < n
  · exact chunksSplit_big s a n c hn w (Lib.hid hL)
  · exact chunksSplit_ok s a n c f (by omega) h.cap w (Lib.hid h.at_) (Lib.hid hL)
end Go.Proofs.YtpggmebgndkpjaaDoor
