/- The walk of law 13's ChunksRoundTrip. -/
import Derived.Test.YtpggmebgndkpjaaDoorAliveThirteen
namespace Go.Proofs.YtpggmebgndkpjaaDoor
set_option linter.all false
open Go Go.RowKit Go.Shelf

/-- A slice argument: its bytes, and that its length is within its capacity. -/
structure BytesArg (w : World) (a : Option Addr) (n c : Nat) (f : Nat → Nat) : Prop where
  at_ : SliceAt w a n f
  cap : n ≤ c

set_option maxRecDepth 100000 in
set_option maxHeartbeats 8000000 in
theorem roundTrip_big (s : Bool) (a : Option Addr) (n c : Nat) (hn : 1500 < n) (w : World) (HL : Hid (Laid w)) :
    Calls Tryd.prog 10 #[.bool s, .slice a n c] w fun e w' => e = .returned (.bool true) ∧ Below w.heap.size w w' := by
  have hn2 : (1500 : Int) < (n : Int) := by omega
  go_enter Tryd.func10, Tryd.ntmps10
  go_wp2_with fail
  refine Calls.mono (alive13_c _ HL.out) ?_
  rintro _ w1 ⟨rfl, h1⟩
  obtain ⟨c1, f1, s1⟩ := bfacts h1
  try simp only [World.size_alloc, World.size_setCell, size_drew, size_drewN] at s1
  go_wp2_with fail
  refine bodyPost_ret (v := .bool true) (by simp only [results, Tryd.results10]; go_simp) rfl ⟨rfl, ?_⟩
  repeat first
    | with_reducible exact Below.refl _ _
    | with_reducible refine Below.drew ?_
    | with_reducible refine below_dN ?_
    | with_reducible refine Below.alloc ?_ (by first | omega | (simp; done) | (simp; omega)) _
    | with_reducible refine Below.setCell ?_ (by first | omega | (simp; done) | (simp; omega)) _
    | with_reducible refine Below.trans ?_ (Below.mono (by assumption) (by first | omega | (simp; done) | (simp; omega)))

set_option maxRecDepth 100000 in
set_option maxHeartbeats 8000000 in
theorem roundTrip_ok (s : Bool) (a : Option Addr) (n c : Nat) (f : Nat → Nat) (hn : n ≤ 1500) (hc : n ≤ c) (w : World) (HS : Hid (SliceAt w a n f)) (HL : Hid (Laid w)) :
    Calls Tryd.prog 10 #[.bool s, .slice a n c] w fun e w' => e = .returned (.bool true) ∧ Below w.heap.size w w' := by
  have hn2 : (n : Int) ≤ (1500 : Int) := by omega
  go_enter Tryd.func10, Tryd.ntmps10
  go_wp2_with fail
  refine Calls.mono (get13_c s _ HL.out) ?_
  rintro _ w1 ⟨rfl, h1⟩
  obtain ⟨c1, f1, s1⟩ := bfacts h1
  try simp only [World.size_alloc, World.size_setCell, size_drew, size_drewN] at s1
  go_wp2_with fail
  refine Calls.mono (split_v s a n c f (by omega) hc _ (HS.out.below (by repeat first | with_reducible exact Below.refl _ _ | with_reducible refine Below.drew ?_ | with_reducible refine below_dN ?_ | with_reducible refine Below.alloc ?_ (by first | omega | (simp; done) | (simp; omega)) _ | with_reducible refine Below.setCell ?_ (by first | omega | (simp; done) | (simp; omega)) _ | with_reducible refine Below.trans ?_ (Below.mono (by assumption) (by first | omega | (simp; done) | (simp; omega)))))) ?_
  rintro _ w2 ⟨⟨_, rfl, lb, ld, rfl, hX⟩, h2⟩
  obtain ⟨c2, f2, s2⟩ := bfacts h2
  try simp only [World.size_alloc, World.size_setCell, size_drew, size_drewN] at s2
  have l_w1_w2_0 : w1.heap.size < w2.heap.size := by omega
  have l_w1_w2_1 : w1.heap.size + 1 < w2.heap.size := by omega
  have HX := Lib.hid hX
  clear hX
  go_wp2_with fail
  refine Calls.mono (join_back s lb n ld f HS.out.lt (by omega) _ HX.out) ?_
  rintro _ w3 ⟨⟨_, rfl, jb, jd, rfl, hJ⟩, h3⟩
  obtain ⟨c3, f3, s3⟩ := bfacts h3
  try simp only [World.size_alloc, World.size_setCell, size_drew, size_drewN] at s3
  have l_w1_w3_0 : w1.heap.size < w3.heap.size := by omega
  have l_w1_w3_1 : w1.heap.size + 1 < w3.heap.size := by omega
  have HJ := Lib.hid hJ
  clear hJ
  go_wp2_with fail
  refine Calls.mono (alive13_c _ (HL.out.step (by repeat first | with_reducible exact Below.refl _ _ | with_reducible refine Below.drew ?_ | with_reducible refine below_dN ?_ | with_reducible refine Below.alloc ?_ (by first | omega | (simp; done) | (simp; omega)) _ | with_reducible refine Below.setCell ?_ (by first | omega | (simp; done) | (simp; omega)) _ | with_reducible refine Below.trans ?_ (Below.mono (by assumption) (by first | omega | (simp; done) | (simp; omega)))))) ?_
  rintro _ w4 ⟨rfl, h4⟩
  obtain ⟨c4, f4, s4⟩ := bfacts h4
  try simp only [World.size_alloc, World.size_setCell, size_drew, size_drewN] at s4
  go_wp2_with fail
  refine Calls.mono (bytesEq_c _ jb a n jd c f f (HJ.out.below (by repeat first | with_reducible exact Below.refl _ _ | with_reducible refine Below.drew ?_ | with_reducible refine below_dN ?_ | with_reducible refine Below.alloc ?_ (by first | omega | (simp; done) | (simp; omega)) _ | with_reducible refine Below.setCell ?_ (by first | omega | (simp; done) | (simp; omega)) _ | with_reducible refine Below.trans ?_ (Below.mono (by assumption) (by first | omega | (simp; done) | (simp; omega))))) (HS.out.below (by repeat first | with_reducible exact Below.refl _ _ | with_reducible refine Below.drew ?_ | with_reducible refine below_dN ?_ | with_reducible refine Below.alloc ?_ (by first | omega | (simp; done) | (simp; omega)) _ | with_reducible refine Below.setCell ?_ (by first | omega | (simp; done) | (simp; omega)) _ | with_reducible refine Below.trans ?_ (Below.mono (by assumption) (by first | omega | (simp; done) | (simp; omega))))) (fun _ _ => rfl)) ?_
  rintro _ w5 ⟨rfl, h5⟩
  obtain ⟨c5, f5, s5⟩ := bfacts h5
  try simp only [World.size_alloc, World.size_setCell, size_drew, size_drewN] at s5
  go_wp2_with fail
  refine Calls.mono (count_c _ _) ?_
  rintro _ _ ⟨rfl, rfl⟩
  go_wp2_with fail
  refine bodyPost_ret (v := .bool true) (by simp only [results, Tryd.results10]; go_simp) rfl ⟨rfl, ?_⟩
  repeat first
    | with_reducible exact Below.refl _ _
    | with_reducible refine Below.drew ?_
    | with_reducible refine below_dN ?_
    | with_reducible refine Below.alloc ?_ (by first | omega | (simp; done) | (simp; omega)) _
    | with_reducible refine Below.setCell ?_ (by first | omega | (simp; done) | (simp; omega)) _
    | with_reducible refine Below.trans ?_ (Below.mono (by assumption) (by first | omega | (simp; done) | (simp; omega)))
theorem roundTrip_c (w : World) (s : Bool) (a : Option Addr) (n c : Nat) (f : Nat → Nat) (h : BytesArg w a n c f) (hL : Laid w) :
    Calls Tryd.prog 10 #[.bool s, .slice a n c] w fun e w' => e = .returned (.bool true) ∧ Below w.heap.size w w' := by
  by_cases hn : 1500 < n
  · exact roundTrip_big s a n c hn w (Lib.hid hL)
  · exact roundTrip_ok s a n c f (by omega) h.cap w (Lib.hid h.at_) (Lib.hid hL)
end Go.Proofs.YtpggmebgndkpjaaDoor
