/- The contracts of law 13's alive and ChunksCount. -/
import Derived.Test.YtpggmebgndkpjaaDoorLawThirteen
namespace Go.Proofs.YtpggmebgndkpjaaDoor
set_option linter.all false
open Go Go.RowKit Go.Shelf

theorem count0_c (w : World) : Calls Tryd.prog 30 #[.int .i64 0] w fun e w' => e = .returned (.int .i64 0) ∧ w = w' := count_c 0 w
theorem count31_c (w : World) : Calls Tryd.prog 30 #[.int .i64 31] w fun e w' => e = .returned (.int .i64 1) ∧ w = w' := count_c 31 w
theorem count32_c (w : World) : Calls Tryd.prog 30 #[.int .i64 32] w fun e w' => e = .returned (.int .i64 2) ∧ w = w' := count_c 32 w

set_option maxRecDepth 100000 in
set_option maxHeartbeats 8000000 in
theorem alive13_walk (w : World) (HL : Hid (Laid w))
    (hget : Hid (∀ w, Laid w → Calls Tryd.prog 32 #[.bool true] w fun e w' => e = .returned (.tuple #[fieldV true, vec (pr true)]) ∧ Below w.heap.size w w'))
    (hspl : Hid (∀ a w, SliceAt w a 6 sec → Calls Tryd.prog 35 #[fieldV true, .slice a 6 6] w fun e w' => (∃ r, e = .returned r ∧ ∃ b d, r = .tuple #[.slice b 1 d, .int .i64 0] ∧ VecsAt w' b 1 (fun i => RR true (cv 6 sec i))) ∧ Below w.heap.size w w'))
    (hjoi : Hid (∀ a c w, VecsAt w a 1 (fun i => RR true (cv 6 sec i)) → Calls Tryd.prog 34 #[fieldV true, .slice a 1 c, .int .i64 6] w fun e w' => (∃ r, e = .returned r ∧ ∃ b d, r = .tuple #[.slice b 6 d, .int .i64 0] ∧ SliceAt w' b 6 sec) ∧ Below w.heap.size w w')) :
    Calls Tryd.prog 29 #[] w fun e w' => e = .returned (.bool true) ∧ Below w.heap.size w w' := by
  go_enter Tryd.func29, Tryd.ntmps29
  go_wp2_with fail
  refine Calls.mono (hget.out _ HL.out) ?_
  rintro _ w1 ⟨rfl, h1⟩
  obtain ⟨c1, f1, s1⟩ := bfacts h1
  try simp only [World.size_alloc, World.size_setCell, size_drew, size_drewN] at s1
  go_wp2_with fail
  rw [Go.Joins.run_convert_bytes_const_at _ 53 5 _ _ _ _ ?hg (by kernel_rfl) (by kernel_rfl)]
  case hg => simp only [World.size_alloc]
  go_wp2_with fail
  refine Calls.mono (hspl.out _ _ (BytesAt.slice (lit_at (cs := secL) (heap_alloc_at (by simp only [World.size_alloc])) sec_lt sec_lit))) ?_
  rintro _ w3 ⟨⟨_, rfl, lb, ld, rfl, hX⟩, h3⟩
  obtain ⟨c3, f3, s3⟩ := bfacts h3
  try simp only [World.size_alloc, World.size_setCell, size_drew, size_drewN] at s3
  have l_w1_w3_0 : w1.heap.size < w3.heap.size := by omega
  have l_w1_w3_1 : w1.heap.size + 1 < w3.heap.size := by omega
  have l_w1_w3_2 : w1.heap.size + 1 + 1 < w3.heap.size := by omega
  have HX := Lib.hid hX
  clear hX
  go_wp2_with fail
  refine Calls.mono (hjoi.out _ _ _ HX.out) ?_
  rintro _ w4 ⟨⟨_, rfl, jb, jd, rfl, hS⟩, h4⟩
  obtain ⟨c4, f4, s4⟩ := bfacts h4
  try simp only [World.size_alloc, World.size_setCell, size_drew, size_drewN] at s4
  have l_w1_w4_0 : w1.heap.size < w4.heap.size := by omega
  have l_w1_w4_1 : w1.heap.size + 1 < w4.heap.size := by omega
  have l_w1_w4_2 : w1.heap.size + 1 + 1 < w4.heap.size := by omega
  have HS := Lib.hid hS
  clear hS
  go_wp2_with fail
  refine Calls.mono (count0_c _) ?_
  rintro _ _ ⟨rfl, rfl⟩
  go_wp2_with fail
  refine Calls.mono (count31_c _) ?_
  rintro _ _ ⟨rfl, rfl⟩
  go_wp2_with fail
  refine Calls.mono (count32_c _) ?_
  rintro _ _ ⟨rfl, rfl⟩
  go_wp2_with fail
  rw [sec_str HS.out]
  go_wp2_with fail
  refine bodyPost_ret (v := .bool true) (by simp only [results, Tryd.results29]; go_simp) rfl ⟨rfl, ?_⟩
  repeat first
    | with_reducible exact Below.refl _ _
    | with_reducible refine Below.drew ?_
    | with_reducible refine below_dN ?_
    | with_reducible refine Below.alloc ?_ (by first | omega | (simp; done) | (simp; omega)) _
    | with_reducible refine Below.setCell ?_ (by first | omega | (simp; done) | (simp; omega)) _
    | with_reducible refine Below.trans ?_ (Below.mono (by assumption) (by first | omega | (simp; done) | (simp; omega)))
theorem alive13_c (w : World) (hL : Laid w) : Calls Tryd.prog 29 #[] w fun e w' => e = .returned (.bool true) ∧ Below w.heap.size w w' :=
  alive13_walk w (Lib.hid hL) (Lib.hid (get13_c true)) (Lib.hid fun a w hS => split_v true a 6 6 sec (by decide) (by decide) w hS) (Lib.hid fun a c w hX => join_back true a 6 c sec sec_lt (by decide) w hX)

set_option maxRecDepth 100000 in
set_option maxHeartbeats 8000000 in
theorem chunksCount_c (w : World) (n : Int) (hn : -9223372036854775808 ≤ n) (hL : Laid w) :
    Calls Tryd.prog 7 #[.int .i64 n] w fun e w' => e = .returned (.bool true) ∧ Below w.heap.size w w' := by
  go_enter Tryd.func7, Tryd.ntmps7
  go_wp2_with fail
  refine Calls.mono (alive13_c _ hL) ?_
  rintro _ w1 ⟨rfl, h1⟩
  obtain ⟨c1, f1, s1⟩ := bfacts h1
  try simp only [World.size_alloc, World.size_setCell, size_drew, size_drewN] at s1
  go_wp2_with fail
  refine Calls.mono (count_c _ _) ?_
  rintro _ _ ⟨rfl, rfl⟩
  go_wp2_with fail
  refine Calls.mono (refCount_c _ hn _) ?_
  rintro _ _ ⟨rfl, rfl⟩
  go_wp2_with fail
  refine bodyPost_ret (v := .bool true) (by simp only [results, Tryd.results7]; go_simp) rfl ⟨rfl, ?_⟩
  repeat first
    | with_reducible exact Below.refl _ _
    | with_reducible refine Below.drew ?_
    | with_reducible refine below_dN ?_
    | with_reducible refine Below.alloc ?_ (by first | omega | (simp; done) | (simp; omega)) _
    | with_reducible refine Below.setCell ?_ (by first | omega | (simp; done) | (simp; omega)) _
    | with_reducible refine Below.trans ?_ (Below.mono (by assumption) (by first | omega | (simp; done) | (simp; omega)))
end Go.Proofs.YtpggmebgndkpjaaDoor
