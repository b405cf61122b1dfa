/- The walks of law 7's BytecodePacks and BytecodeUnpacks. -/
import Derived.Test.YtpebojiijgkadaaDoorLawEncodes
import Derived.Test.YtpebojiijgkadaaDoorSevenC
namespace Go.Proofs.YtpebojiijgkadaaDoor
set_option linter.all false
open Go Go.RowKit

set_option maxRecDepth 100000 in
set_option maxHeartbeats 2000000 in
theorem refNumber_nil (a : Option Addr) (c : Nat) (w : World) :
    Calls Tryd.prog 38 #[.slice a 0 c] w fun e w' => e = .returned (.agg #[.int .u64 0, .int .u64 0, .int .u64 0, .int .u64 0]) ∧ Below w.heap.size w w' := by
  go_enter Tryd.func38, Tryd.ntmps38
  go_wp2_with fail
  go_loopw [4] (fun i wr => i = .int .i64 0 ∧ wr = ((w.alloc (.cells #[.int .u64 0, .int .u64 0, .int .u64 0, .int .u64 0] 23)).alloc (.cells #[.int .u64 0, .int .u64 0, .int .u64 0, .int .u64 0] 23))) (fun _ _ => 0)
  case atStart => exact ⟨rfl, rfl⟩
  case round =>
    obtain ⟨rfl, rfl⟩ := hrel
    go_wp2_with fail
    refine bodyPost_ret (v := .agg #[.int .u64 0, .int .u64 0, .int .u64 0, .int .u64 0]) (by simp only [results, Tryd.results38]; go_simp) rfl ⟨rfl, ?_⟩
    repeat first
      | with_reducible exact Below.refl _ _
      | with_reducible refine Below.drew ?_
      | with_reducible refine below_dN ?_
      | with_reducible refine Below.alloc ?_ (by first | omega | (simp; done) | (simp; omega)) _
      | with_reducible refine Below.setCell ?_ (by first | omega | (simp; done) | (simp; omega)) _
      | with_reducible refine Below.trans ?_ (Below.mono (by assumption) (by first | omega | (simp; done) | (simp; omega)))
theorem refNumber_slice (w : World) (a : Option Addr) (n c : Nat) (f : Nat → Nat) (hn : n ≤ 32) (h : SliceAt w a n f) :
    Calls Tryd.prog 38 #[.slice a n c] w fun e w' => e = .returned (vec (le f n)) ∧ Below w.heap.size w w' := by
  rcases h.at_ with rfl | ⟨b, off, rfl, hB⟩
  · have := refNumber_nil a c w
    rwa [← z4] at this
  · exact refNumber_at f b off n c hn w hB

theorem Zf_of_lt {v m : Nat} (h : v < 256 ^ m) : Zf v m := fun j h1 _ => by
  unfold byt
  rw [Nat.div_eq_of_lt (Nat.lt_of_lt_of_le h (Nat.pow_le_pow_right (by decide) h1))]
theorem unpack_ok (s : Bool) (v m : Nat) (hm : m ≤ 31) (hv : v < pr s) (hz : Zf v m) (w : World) :
    Calls Tryd.prog 44 #[fieldV s, vec (RR s v), .int .i64 (m : Int)] w fun e w' =>
      (∃ r, e = .returned r ∧ ∃ g, r = .tuple #[.slice (some ⟨g, 0, none⟩) m m, .int .i64 0] ∧ BytesAt w' g 0 m (byt v)) ∧ Below w.heap.size w w' := by
  refine (unpack_walk s (RR s v) v m hm w (Lib.hid (encode_c s v hv))).mono ?_
  rintro e w' ⟨h | h, hb⟩
  · obtain ⟨_, g, rfl, _, hB⟩ := h
    exact ⟨⟨_, rfl, g, rfl, hB⟩, hb⟩
  · exact absurd hz h.1
theorem unpack_pad (s : Bool) (v m : Nat) (hm : m ≤ 31) (hv : v < pr s) (hz : ¬ Zf v m) (w : World) :
    Calls Tryd.prog 44 #[fieldV s, vec (RR s v), .int .i64 (m : Int)] w fun e w' => e = .returned (.tuple #[.slice none 0 0, .int .i64 10]) ∧ Below w.heap.size w w' := by
  refine (unpack_walk s (RR s v) v m hm w (Lib.hid (encode_c s v hv))).mono ?_
  rintro e w' ⟨h | h, hb⟩
  · exact absurd h.1 hz
  · exact ⟨h.2, hb⟩
theorem refUnpack_ok (v m : Nat) (hm : m ≤ 31) (hz : Zf v m) (w : World) :
    Calls Tryd.prog 45 #[vec v, .int .i64 (m : Int)] w fun e w' =>
      (∃ r, e = .returned r ∧ ∃ g c, r = .tuple #[.slice (some ⟨g, 0, none⟩) m c, .int .i64 0] ∧ BytesAt w' g 0 m (byt v)) ∧ Below w.heap.size w w' := by
  refine (refUnpack_walk v m hm w).mono ?_
  rintro e w' ⟨h | h, hb⟩
  · obtain ⟨_, g, c, rfl, _, hB⟩ := h
    exact ⟨⟨_, rfl, g, c, rfl, hB⟩, hb⟩
  · exact absurd hz h.1
theorem refUnpack_pad (v m : Nat) (hm : m ≤ 31) (hz : ¬ Zf v m) (w : World) :
    Calls Tryd.prog 45 #[vec v, .int .i64 (m : Int)] w fun e w' => e = .returned (.tuple #[.slice none 0 0, .int .i64 10]) ∧ Below w.heap.size w w' := by
  refine (refUnpack_walk v m hm w).mono ?_
  rintro e w' ⟨h | h, hb⟩
  · exact absurd h.1 hz
  · exact ⟨h.2, hb⟩

set_option maxRecDepth 100000 in
set_option maxHeartbeats 8000000 in
theorem packs_big (s : Bool) (a : Option Addr) (n c : Nat) (hn : 500 < n) (w : World) (HL : Hid (Laid w)) :
    Calls Tryd.prog 14 #[.bool s, .slice a n c] w fun e w' => e = .returned (.bool true) ∧ Below w.heap.size w w' := by
  have hn2 : (500 : Int) < (n : Int) := by omega
  clear hn
  go_enter Tryd.func14, Tryd.ntmps14
  go_wp2_with fail
  refine Calls.mono (alive7_c _ (HL.out.step (by repeat first | with_reducible exact Below.refl _ _ | with_reducible refine Below.drew ?_ | with_reducible refine below_dN ?_ | with_reducible refine Below.alloc ?_ (by first | omega | (simp; done) | (simp; omega)) _ | with_reducible refine Below.setCell ?_ (by first | omega | (simp; done) | (simp; omega)) _ | with_reducible refine Below.trans ?_ (Below.mono (by assumption) (by first | omega | (simp; done) | (simp; omega)))))) ?_
  rintro _ w1 ⟨rfl, h1⟩
  obtain ⟨c1, f1, s1⟩ := bfacts h1
  try simp only [World.size_alloc, World.size_setCell, size_drew, size_drewN] at s1
  go_wp2_with fail
  refine bodyPost_ret (v := .bool true) (by simp only [results, Tryd.results14]; go_simp) rfl ⟨rfl, ?_⟩
  repeat first
    | with_reducible exact Below.refl _ _
    | with_reducible refine Below.drew ?_
    | with_reducible refine below_dN ?_
    | with_reducible refine Below.alloc ?_ (by first | omega | (simp; done) | (simp; omega)) _
    | with_reducible refine Below.setCell ?_ (by first | omega | (simp; done) | (simp; omega)) _
    | with_reducible refine Below.trans ?_ (Below.mono (by assumption) (by first | omega | (simp; done) | (simp; omega)))

set_option maxRecDepth 100000 in
set_option maxHeartbeats 8000000 in
theorem packs_long (s : Bool) (a : Option Addr) (n c : Nat) (hn : n ≤ 500) (h31 : 31 < n) (w : World) (HL : Hid (Laid w)) :
    Calls Tryd.prog 14 #[.bool s, .slice a n c] w fun e w' => e = .returned (.bool true) ∧ Below w.heap.size w w' := by
  have hn2 : ¬ (500 : Int) < (n : Int) := by omega
  have hn3 : (31 : Int) < (n : Int) := by omega
  have h1 := pack_len s a n c h31
  rw [z4] at h1
  have H1 := Lib.hid h1
  clear hn h31 h1
  go_enter Tryd.func14, Tryd.ntmps14
  go_wp2_with fail
  refine Calls.mono (get7_c s _ (HL.out.step (by repeat first | with_reducible exact Below.refl _ _ | with_reducible refine Below.drew ?_ | with_reducible refine below_dN ?_ | with_reducible refine Below.alloc ?_ (by first | omega | (simp; done) | (simp; omega)) _ | with_reducible refine Below.setCell ?_ (by first | omega | (simp; done) | (simp; omega)) _ | with_reducible refine Below.trans ?_ (Below.mono (by assumption) (by first | omega | (simp; done) | (simp; omega)))))) ?_
  rintro _ w1 ⟨rfl, h1⟩
  obtain ⟨c1, f1, s1⟩ := bfacts h1
  try simp only [World.size_alloc, World.size_setCell, size_drew, size_drewN] at s1
  go_wp2_with fail
  refine Calls.mono (H1.out _) ?_
  rintro _ w2 ⟨rfl, h2⟩
  obtain ⟨c2, f2, s2⟩ := bfacts h2
  try simp only [World.size_alloc, World.size_setCell, size_drew, size_drewN] at s2
  have l_w1_w2_0 : w1.heap.size < w2.heap.size := by omega
  have l_w1_w2_1 : w1.heap.size + 1 < w2.heap.size := by omega
  go_wp2_with fail
  refine Calls.mono (alive7_c _ (HL.out.step (by repeat first | with_reducible exact Below.refl _ _ | with_reducible refine Below.drew ?_ | with_reducible refine below_dN ?_ | with_reducible refine Below.alloc ?_ (by first | omega | (simp; done) | (simp; omega)) _ | with_reducible refine Below.setCell ?_ (by first | omega | (simp; done) | (simp; omega)) _ | with_reducible refine Below.trans ?_ (Below.mono (by assumption) (by first | omega | (simp; done) | (simp; omega)))))) ?_
  rintro _ w3 ⟨rfl, h3⟩
  obtain ⟨c3, f3, s3⟩ := bfacts h3
  try simp only [World.size_alloc, World.size_setCell, size_drew, size_drewN] at s3
  have l_w2_w3_0 : w2.heap.size < w3.heap.size := by omega
  go_wp2_with fail
  refine bodyPost_ret (v := .bool true) (by simp only [results, Tryd.results14]; go_simp) rfl ⟨rfl, ?_⟩
  repeat first
    | with_reducible exact Below.refl _ _
    | with_reducible refine Below.drew ?_
    | with_reducible refine below_dN ?_
    | with_reducible refine Below.alloc ?_ (by first | omega | (simp; done) | (simp; omega)) _
    | with_reducible refine Below.setCell ?_ (by first | omega | (simp; done) | (simp; omega)) _
    | with_reducible refine Below.trans ?_ (Below.mono (by assumption) (by first | omega | (simp; done) | (simp; omega)))

set_option maxRecDepth 100000 in
set_option maxHeartbeats 8000000 in
theorem packs_ok (s : Bool) (a : Option Addr) (n c x v : Nat) (f : Nat → Nat) (hn : n ≤ 31) (w : World) (HL : Hid (Laid w)) (hS : Hid (SliceAt w a n f)) (hfv : Hid (∀ j, j < n → f j = byt v j))
    (hq1 : Hid (∀ w', Below w.heap.size w w' → Calls Tryd.prog 46 #[fieldV s, .slice a n c] w' fun e w'' => e = .returned (.tuple #[vec x, .int .i64 0]) ∧ Below w'.heap.size w' w''))
    (hq2 : Hid (∀ w, Calls Tryd.prog 44 #[fieldV s, vec x, .int .i64 (n : Int)] w fun e w' => (∃ r, e = .returned r ∧ ∃ g, r = .tuple #[.slice (some ⟨g, 0, none⟩) n n, .int .i64 0] ∧ BytesAt w' g 0 n (byt v)) ∧ Below w.heap.size w w'))
    (hq3 : Hid (∀ w', Below w.heap.size w w' → Calls Tryd.prog 38 #[.slice a n c] w' fun e w'' => e = .returned (vec v) ∧ Below w'.heap.size w' w''))
    (hf : Hid (∀ w, Calls Tryd.prog 37 #[vec (pr s), vec v] w fun e w' => e = .returned (vec x) ∧ Below w.heap.size w w')) :
    Calls Tryd.prog 14 #[.bool s, .slice a n c] w fun e w' => e = .returned (.bool true) ∧ Below w.heap.size w w' := by
  have hn2 : ¬ (500 : Int) < (n : Int) := by omega
  have hn3 : ¬ (31 : Int) < (n : Int) := by omega
  clear hn
  go_enter Tryd.func14, Tryd.ntmps14
  go_wp2_with fail
  refine Calls.mono (get7_c s _ (HL.out.step (by repeat first | with_reducible exact Below.refl _ _ | with_reducible refine Below.drew ?_ | with_reducible refine below_dN ?_ | with_reducible refine Below.alloc ?_ (by first | omega | (simp; done) | (simp; omega)) _ | with_reducible refine Below.setCell ?_ (by first | omega | (simp; done) | (simp; omega)) _ | with_reducible refine Below.trans ?_ (Below.mono (by assumption) (by first | omega | (simp; done) | (simp; omega)))))) ?_
  rintro _ w1 ⟨rfl, h1⟩
  obtain ⟨c1, f1, s1⟩ := bfacts h1
  try simp only [World.size_alloc, World.size_setCell, size_drew, size_drewN] at s1
  go_wp2_with fail
  refine Calls.mono (hq1.out _ (by repeat first | with_reducible exact Below.refl _ _ | with_reducible refine Below.drew ?_ | with_reducible refine below_dN ?_ | with_reducible refine Below.alloc ?_ (by first | omega | (simp; done) | (simp; omega)) _ | with_reducible refine Below.setCell ?_ (by first | omega | (simp; done) | (simp; omega)) _ | with_reducible refine Below.trans ?_ (Below.mono (by assumption) (by first | omega | (simp; done) | (simp; omega))))) ?_
  rintro _ w2 ⟨rfl, h2⟩
  obtain ⟨c2, f2, s2⟩ := bfacts h2
  try simp only [World.size_alloc, World.size_setCell, size_drew, size_drewN] at s2
  have l_w1_w2_0 : w1.heap.size < w2.heap.size := by omega
  have l_w1_w2_1 : w1.heap.size + 1 < w2.heap.size := by omega
  go_wp2_with fail
  refine Calls.mono (hq2.out _) ?_
  rintro _ w3 ⟨⟨_, rfl, g, rfl, hB⟩, h3⟩
  obtain ⟨c3, f3, s3⟩ := bfacts h3
  try simp only [World.size_alloc, World.size_setCell, size_drew, size_drewN] at s3
  have HB := Lib.hid hB
  have hgb : g < w3.heap.size := hB.blk
  clear hB
  have l_w1_w3_0 : w1.heap.size < w3.heap.size := by omega
  have l_w1_w3_1 : w1.heap.size + 1 < w3.heap.size := by omega
  have l_w2_w3_0 : w2.heap.size < w3.heap.size := by omega
  go_wp2_with fail
  refine held_begin 23 [w1.heap.size + 1, w2.heap.size] (by kernel_rfl) rfl (by intro _ _ d _ _ h; cases d <;> exact h) ?_
  intro hQ hK
  with_reducible apply held_call (n := 22) 0
  · rfl
  · kernel_rfl
  · rfl
  · with_reducible exact hK
  apply Exists.intro
  apply Exists.intro
  apply Exists.intro
  refine ⟨?_, ?_, ?_, ?_⟩
  · go_simp
    exact ⟨rfl, rfl⟩
  · exact alive7_c _ (HL.out.step (by repeat first | with_reducible exact Below.refl _ _ | with_reducible refine Below.drew ?_ | with_reducible refine below_dN ?_ | with_reducible refine Below.alloc ?_ (by first | omega | (simp; done) | (simp; omega)) _ | with_reducible refine Below.setCell ?_ (by first | omega | (simp; done) | (simp; omega)) _ | with_reducible refine Below.trans ?_ (Below.mono (by assumption) (by first | omega | (simp; done) | (simp; omega)))))
  · intro b hb
    simp only [List.mem_cons, List.not_mem_nil, or_false] at hb
    rcases hb with rfl | rfl <;> first | omega | (simp; done) | (simp; omega)
  intro v0 h0 hK
  obtain ⟨c0, f0, s0⟩ := bfacts h0
  try simp only [World.size_alloc, World.size_setCell, size_drew, size_drewN] at s0
  have l_w1_v0_0 : w1.heap.size < v0.heap.size := by omega
  have l_w1_v0_1 : w1.heap.size + 1 < v0.heap.size := by omega
  have l_w2_v0_0 : w2.heap.size < v0.heap.size := by omega
  try simp only [Act.put, List.setIfInBounds_toArray, List.set_cons_zero, List.set_cons_succ, List.tail_cons]
  with_reducible apply held_v (n := 21) 1
  · rfl
  · kernel_rfl
  · kernel_rfl
  · kernel_rfl
  · exact hQ
  · with_reducible exact hK
  · rfl
  apply Exists.intro
  refine ⟨fun w' hC => ?_, ?_⟩
  · have k0_ := hC (w1.heap.size + 1) (by simp only [List.mem_cons, true_or, or_true])
    have k1_ := hC (w2.heap.size) (by simp only [List.mem_cons, true_or, or_true])
    clear hC
    go_simp
    rfl
  try simp only [Act.put, List.setIfInBounds_toArray, List.set_cons_zero, List.set_cons_succ, List.tail_cons]
  first
    | (with_reducible apply held_v (n := 20) 2
       · rfl
       · kernel_rfl
       · kernel_rfl
       · kernel_rfl
       · exact hQ
       · with_reducible exact hK
       · rfl
       apply Exists.intro
       refine ⟨fun w' hC => ?_, ?_⟩
       · have k0_ := hC (w1.heap.size + 1) (by simp only [List.mem_cons, true_or, or_true])
         have k1_ := hC (w2.heap.size) (by simp only [List.mem_cons, true_or, or_true])
         clear hC
         go_simp
         rfl)
    | (with_reducible apply held_s (n := 20) 2
       · rfl
       · kernel_rfl
       · kernel_rfl
       · kernel_rfl
       · exact hQ
       · with_reducible exact hK
       · rfl)
  try simp only [Act.put, List.setIfInBounds_toArray, List.set_cons_zero, List.set_cons_succ, List.tail_cons]
  first
    | (with_reducible apply held_v (n := 19) 3
       · rfl
       · kernel_rfl
       · kernel_rfl
       · kernel_rfl
       · exact hQ
       · with_reducible exact hK
       · rfl
       apply Exists.intro
       refine ⟨fun w' hC => ?_, ?_⟩
       · have k0_ := hC (w1.heap.size + 1) (by simp only [List.mem_cons, true_or, or_true])
         have k1_ := hC (w2.heap.size) (by simp only [List.mem_cons, true_or, or_true])
         clear hC
         go_simp
         rfl)
    | (with_reducible apply held_s (n := 19) 3
       · rfl
       · kernel_rfl
       · kernel_rfl
       · kernel_rfl
       · exact hQ
       · with_reducible exact hK
       · rfl)
  try simp only [Act.put, List.setIfInBounds_toArray, List.set_cons_zero, List.set_cons_succ, List.tail_cons]
  with_reducible apply held_v (n := 18) 4
  · rfl
  · kernel_rfl
  · kernel_rfl
  · kernel_rfl
  · exact hQ
  · with_reducible exact hK
  · rfl
  apply Exists.intro
  refine ⟨fun w' hC => ?_, ?_⟩
  · have k0_ := hC (w1.heap.size + 1) (by simp only [List.mem_cons, true_or, or_true])
    have k1_ := hC (w2.heap.size) (by simp only [List.mem_cons, true_or, or_true])
    clear hC
    go_simp
    rfl
  try simp only [Act.put, List.setIfInBounds_toArray, List.set_cons_zero, List.set_cons_succ, List.tail_cons]
  with_reducible apply held_v (n := 17) 5
  · rfl
  · kernel_rfl
  · kernel_rfl
  · kernel_rfl
  · exact hQ
  · with_reducible exact hK
  · rfl
  apply Exists.intro
  refine ⟨fun w' hC => ?_, ?_⟩
  · have k0_ := hC (w1.heap.size + 1) (by simp only [List.mem_cons, true_or, or_true])
    have k1_ := hC (w2.heap.size) (by simp only [List.mem_cons, true_or, or_true])
    clear hC
    go_simp
    rfl
  try simp only [Act.put, List.setIfInBounds_toArray, List.set_cons_zero, List.set_cons_succ, List.tail_cons]
  first
    | (with_reducible apply held_v (n := 16) 6
       · rfl
       · kernel_rfl
       · kernel_rfl
       · kernel_rfl
       · exact hQ
       · with_reducible exact hK
       · rfl
       apply Exists.intro
       refine ⟨fun w' hC => ?_, ?_⟩
       · have k0_ := hC (w1.heap.size + 1) (by simp only [List.mem_cons, true_or, or_true])
         have k1_ := hC (w2.heap.size) (by simp only [List.mem_cons, true_or, or_true])
         clear hC
         go_simp
         rfl)
    | (with_reducible apply held_s (n := 16) 6
       · rfl
       · kernel_rfl
       · kernel_rfl
       · kernel_rfl
       · exact hQ
       · with_reducible exact hK
       · rfl)
  try simp only [Act.put, List.setIfInBounds_toArray, List.set_cons_zero, List.set_cons_succ, List.tail_cons]
  first
    | (with_reducible apply held_v (n := 15) 7
       · rfl
       · kernel_rfl
       · kernel_rfl
       · kernel_rfl
       · exact hQ
       · with_reducible exact hK
       · rfl
       apply Exists.intro
       refine ⟨fun w' hC => ?_, ?_⟩
       · have k0_ := hC (w1.heap.size + 1) (by simp only [List.mem_cons, true_or, or_true])
         have k1_ := hC (w2.heap.size) (by simp only [List.mem_cons, true_or, or_true])
         clear hC
         go_simp
         rfl)
    | (with_reducible apply held_s (n := 15) 7
       · rfl
       · kernel_rfl
       · kernel_rfl
       · kernel_rfl
       · exact hQ
       · with_reducible exact hK
       · rfl)
  try simp only [Act.put, List.setIfInBounds_toArray, List.set_cons_zero, List.set_cons_succ, List.tail_cons]
  first
    | (with_reducible apply held_v (n := 14) 8
       · rfl
       · kernel_rfl
       · kernel_rfl
       · kernel_rfl
       · exact hQ
       · with_reducible exact hK
       · rfl
       apply Exists.intro
       refine ⟨fun w' hC => ?_, ?_⟩
       · have k0_ := hC (w1.heap.size + 1) (by simp only [List.mem_cons, true_or, or_true])
         have k1_ := hC (w2.heap.size) (by simp only [List.mem_cons, true_or, or_true])
         clear hC
         go_simp
         rfl)
    | (with_reducible apply held_s (n := 14) 8
       · rfl
       · kernel_rfl
       · kernel_rfl
       · kernel_rfl
       · exact hQ
       · with_reducible exact hK
       · rfl)
  try simp only [Act.put, List.setIfInBounds_toArray, List.set_cons_zero, List.set_cons_succ, List.tail_cons]
  with_reducible apply held_call (n := 13) 9
  · rfl
  · kernel_rfl
  · rfl
  · with_reducible exact hK
  apply Exists.intro
  apply Exists.intro
  apply Exists.intro
  refine ⟨?_, ?_, ?_, ?_⟩
  · go_simp
    exact ⟨rfl, rfl⟩
  · exact hq3.out _ (by repeat first | with_reducible exact Below.refl _ _ | with_reducible refine Below.drew ?_ | with_reducible refine below_dN ?_ | with_reducible refine Below.alloc ?_ (by first | omega | (simp; done) | (simp; omega)) _ | with_reducible refine Below.setCell ?_ (by first | omega | (simp; done) | (simp; omega)) _ | with_reducible refine Below.trans ?_ (Below.mono (by assumption) (by first | omega | (simp; done) | (simp; omega))))
  · intro b hb
    simp only [List.mem_cons, List.not_mem_nil, or_false] at hb
    rcases hb with rfl | rfl <;> first | omega | (simp; done) | (simp; omega)
  intro v9 h9 hK
  obtain ⟨c9, f9, s9⟩ := bfacts h9
  try simp only [World.size_alloc, World.size_setCell, size_drew, size_drewN] at s9
  have l_w1_v9_0 : w1.heap.size < v9.heap.size := by omega
  have l_w1_v9_1 : w1.heap.size + 1 < v9.heap.size := by omega
  have l_w2_v9_0 : w2.heap.size < v9.heap.size := by omega
  try simp only [Act.put, List.setIfInBounds_toArray, List.set_cons_zero, List.set_cons_succ, List.tail_cons]
  with_reducible apply held_call (n := 12) 10
  · rfl
  · kernel_rfl
  · rfl
  · with_reducible exact hK
  apply Exists.intro
  apply Exists.intro
  apply Exists.intro
  refine ⟨?_, ?_, ?_, ?_⟩
  · go_simp
    exact ⟨rfl, rfl⟩
  · exact hf.out _
  · intro b hb
    simp only [List.mem_cons, List.not_mem_nil, or_false] at hb
    rcases hb with rfl | rfl <;> first | omega | (simp; done) | (simp; omega)
  intro v10 h10 hK
  obtain ⟨c10, f10, s10⟩ := bfacts h10
  try simp only [World.size_alloc, World.size_setCell, size_drew, size_drewN] at s10
  have l_w1_v10_0 : w1.heap.size < v10.heap.size := by omega
  have l_w1_v10_1 : w1.heap.size + 1 < v10.heap.size := by omega
  have l_w2_v10_0 : w2.heap.size < v10.heap.size := by omega
  try simp only [Act.put, List.setIfInBounds_toArray, List.set_cons_zero, List.set_cons_succ, List.tail_cons]
  first
    | (with_reducible apply held_v (n := 11) 11
       · rfl
       · kernel_rfl
       · kernel_rfl
       · kernel_rfl
       · exact hQ
       · with_reducible exact hK
       · rfl
       apply Exists.intro
       refine ⟨fun w' hC => ?_, ?_⟩
       · have k0_ := hC (w1.heap.size + 1) (by simp only [List.mem_cons, true_or, or_true])
         have k1_ := hC (w2.heap.size) (by simp only [List.mem_cons, true_or, or_true])
         clear hC
         go_simp
         rfl)
    | (with_reducible apply held_s (n := 11) 11
       · rfl
       · kernel_rfl
       · kernel_rfl
       · kernel_rfl
       · exact hQ
       · with_reducible exact hK
       · rfl)
  try simp only [Act.put, List.setIfInBounds_toArray, List.set_cons_zero, List.set_cons_succ, List.tail_cons]
  with_reducible apply held_v (n := 10) 12
  · rfl
  · kernel_rfl
  · kernel_rfl
  · kernel_rfl
  · exact hQ
  · with_reducible exact hK
  · rfl
  apply Exists.intro
  refine ⟨fun w' hC => ?_, ?_⟩
  · have k0_ := hC (w1.heap.size + 1) (by simp only [List.mem_cons, true_or, or_true])
    have k1_ := hC (w2.heap.size) (by simp only [List.mem_cons, true_or, or_true])
    clear hC
    go_simp
    rfl
  try simp only [Act.put, List.setIfInBounds_toArray, List.set_cons_zero, List.set_cons_succ, List.tail_cons]
  with_reducible apply held_v (n := 9) 13
  · rfl
  · kernel_rfl
  · kernel_rfl
  · kernel_rfl
  · exact hQ
  · with_reducible exact hK
  · rfl
  apply Exists.intro
  refine ⟨fun w' hC => ?_, ?_⟩
  · have k0_ := hC (w1.heap.size + 1) (by simp only [List.mem_cons, true_or, or_true])
    have k1_ := hC (w2.heap.size) (by simp only [List.mem_cons, true_or, or_true])
    clear hC
    go_simp
    rfl
  try simp only [Act.put, List.setIfInBounds_toArray, List.set_cons_zero, List.set_cons_succ, List.tail_cons]
  first
    | (with_reducible apply held_v (n := 8) 14
       · rfl
       · kernel_rfl
       · kernel_rfl
       · kernel_rfl
       · exact hQ
       · with_reducible exact hK
       · rfl
       apply Exists.intro
       refine ⟨fun w' hC => ?_, ?_⟩
       · have k0_ := hC (w1.heap.size + 1) (by simp only [List.mem_cons, true_or, or_true])
         have k1_ := hC (w2.heap.size) (by simp only [List.mem_cons, true_or, or_true])
         clear hC
         go_simp
         rfl)
    | (with_reducible apply held_s (n := 8) 14
       · rfl
       · kernel_rfl
       · kernel_rfl
       · kernel_rfl
       · exact hQ
       · with_reducible exact hK
       · rfl)
  try simp only [Act.put, List.setIfInBounds_toArray, List.set_cons_zero, List.set_cons_succ, List.tail_cons]
  first
    | (with_reducible apply held_v (n := 7) 15
       · rfl
       · kernel_rfl
       · kernel_rfl
       · kernel_rfl
       · exact hQ
       · with_reducible exact hK
       · rfl
       apply Exists.intro
       refine ⟨fun w' hC => ?_, ?_⟩
       · have k0_ := hC (w1.heap.size + 1) (by simp only [List.mem_cons, true_or, or_true])
         have k1_ := hC (w2.heap.size) (by simp only [List.mem_cons, true_or, or_true])
         clear hC
         go_simp
         rfl)
    | (with_reducible apply held_s (n := 7) 15
       · rfl
       · kernel_rfl
       · kernel_rfl
       · kernel_rfl
       · exact hQ
       · with_reducible exact hK
       · rfl)
  try simp only [Act.put, List.setIfInBounds_toArray, List.set_cons_zero, List.set_cons_succ, List.tail_cons]
  with_reducible apply held_v (n := 6) 16
  · rfl
  · kernel_rfl
  · kernel_rfl
  · kernel_rfl
  · exact hQ
  · with_reducible exact hK
  · rfl
  apply Exists.intro
  refine ⟨fun w' hC => ?_, ?_⟩
  · have k0_ := hC (w1.heap.size + 1) (by simp only [List.mem_cons, true_or, or_true])
    have k1_ := hC (w2.heap.size) (by simp only [List.mem_cons, true_or, or_true])
    clear hC
    go_simp
    rfl
  try simp only [Act.put, List.setIfInBounds_toArray, List.set_cons_zero, List.set_cons_succ, List.tail_cons]
  with_reducible apply held_v (n := 5) 17
  · rfl
  · kernel_rfl
  · kernel_rfl
  · kernel_rfl
  · exact hQ
  · with_reducible exact hK
  · rfl
  apply Exists.intro
  refine ⟨fun w' hC => ?_, ?_⟩
  · have k0_ := hC (w1.heap.size + 1) (by simp only [List.mem_cons, true_or, or_true])
    have k1_ := hC (w2.heap.size) (by simp only [List.mem_cons, true_or, or_true])
    clear hC
    go_simp
    rfl
  try simp only [Act.put, List.setIfInBounds_toArray, List.set_cons_zero, List.set_cons_succ, List.tail_cons]
  first
    | (with_reducible apply held_v (n := 4) 18
       · rfl
       · kernel_rfl
       · kernel_rfl
       · kernel_rfl
       · exact hQ
       · with_reducible exact hK
       · rfl
       apply Exists.intro
       refine ⟨fun w' hC => ?_, ?_⟩
       · have k0_ := hC (w1.heap.size + 1) (by simp only [List.mem_cons, true_or, or_true])
         have k1_ := hC (w2.heap.size) (by simp only [List.mem_cons, true_or, or_true])
         clear hC
         go_simp
         rfl)
    | (with_reducible apply held_s (n := 4) 18
       · rfl
       · kernel_rfl
       · kernel_rfl
       · kernel_rfl
       · exact hQ
       · with_reducible exact hK
       · rfl)
  try simp only [Act.put, List.setIfInBounds_toArray, List.set_cons_zero, List.set_cons_succ, List.tail_cons]
  first
    | (with_reducible apply held_v (n := 3) 19
       · rfl
       · kernel_rfl
       · kernel_rfl
       · kernel_rfl
       · exact hQ
       · with_reducible exact hK
       · rfl
       apply Exists.intro
       refine ⟨fun w' hC => ?_, ?_⟩
       · have k0_ := hC (w1.heap.size + 1) (by simp only [List.mem_cons, true_or, or_true])
         have k1_ := hC (w2.heap.size) (by simp only [List.mem_cons, true_or, or_true])
         clear hC
         go_simp
         rfl)
    | (with_reducible apply held_s (n := 3) 19
       · rfl
       · kernel_rfl
       · kernel_rfl
       · kernel_rfl
       · exact hQ
       · with_reducible exact hK
       · rfl)
  try simp only [Act.put, List.setIfInBounds_toArray, List.set_cons_zero, List.set_cons_succ, List.tail_cons]
  with_reducible apply held_call (n := 2) 20
  · rfl
  · kernel_rfl
  · rfl
  · with_reducible exact hK
  apply Exists.intro
  apply Exists.intro
  apply Exists.intro
  refine ⟨?_, ?_, ?_, ?_⟩
  · go_simp
    exact ⟨rfl, rfl⟩
  · exact bytesEq_c _ a (some ⟨g, 0, none⟩) n c n f (byt v) (hS.out.below (by repeat first | with_reducible exact Below.refl _ _ | with_reducible refine Below.drew ?_ | with_reducible refine below_dN ?_ | with_reducible refine Below.alloc ?_ (by first | omega | (simp; done) | (simp; omega)) _ | with_reducible refine Below.setCell ?_ (by first | omega | (simp; done) | (simp; omega)) _ | with_reducible refine Below.trans ?_ (Below.mono (by assumption) (by first | omega | (simp; done) | (simp; omega))))) (HB.out.below (by repeat first | with_reducible exact Below.refl _ _ | with_reducible refine Below.drew ?_ | with_reducible refine below_dN ?_ | with_reducible refine Below.alloc ?_ (by first | omega | (simp; done) | (simp; omega)) _ | with_reducible refine Below.setCell ?_ (by first | omega | (simp; done) | (simp; omega)) _ | with_reducible refine Below.trans ?_ (Below.mono (by assumption) (by first | omega | (simp; done) | (simp; omega))))).slice hfv.out
  · intro b hb
    simp only [List.mem_cons, List.not_mem_nil, or_false] at hb
    rcases hb with rfl | rfl <;> first | omega | (simp; done) | (simp; omega)
  intro v20 h20 hK
  obtain ⟨c20, f20, s20⟩ := bfacts h20
  try simp only [World.size_alloc, World.size_setCell, size_drew, size_drewN] at s20
  try simp only [Act.put, List.setIfInBounds_toArray, List.set_cons_zero, List.set_cons_succ, List.tail_cons]
  with_reducible apply held_v (n := 1) 21
  · rfl
  · kernel_rfl
  · kernel_rfl
  · kernel_rfl
  · exact hQ
  · with_reducible exact hK
  · rfl
  apply Exists.intro
  refine ⟨fun w' hC => ?_, ?_⟩
  · have k0_ := hC (w1.heap.size + 1) (by simp only [List.mem_cons, true_or, or_true])
    have k1_ := hC (w2.heap.size) (by simp only [List.mem_cons, true_or, or_true])
    clear hC
    go_simp
    rfl
  try simp only [Act.put, List.setIfInBounds_toArray, List.set_cons_zero, List.set_cons_succ, List.tail_cons]
  with_reducible apply held_v (n := 0) 22
  · rfl
  · kernel_rfl
  · kernel_rfl
  · kernel_rfl
  · exact hQ
  · with_reducible exact hK
  · rfl
  apply Exists.intro
  refine ⟨fun w' hC => ?_, ?_⟩
  · have k0_ := hC (w1.heap.size + 1) (by simp only [List.mem_cons, true_or, or_true])
    have k1_ := hC (w2.heap.size) (by simp only [List.mem_cons, true_or, or_true])
    clear hC
    go_simp
    rfl
  try simp only [Act.put, List.setIfInBounds_toArray, List.set_cons_zero, List.set_cons_succ, List.tail_cons]
  refine held_end (by kernel_rfl) ?_
  clear hK hQ
  go_wp2_with fail
  refine bodyPost_ret (v := .bool true) (by simp only [results, Tryd.results14]; go_simp) rfl ⟨rfl, ?_⟩
  repeat first
    | with_reducible exact Below.refl _ _
    | with_reducible refine Below.drew ?_
    | with_reducible refine below_dN ?_
    | with_reducible refine Below.alloc ?_ (by first | omega | (simp; done) | (simp; omega)) _
    | with_reducible refine Below.setCell ?_ (by first | omega | (simp; done) | (simp; omega)) _
    | with_reducible refine Below.trans ?_ (Below.mono (by assumption) (by first | omega | (simp; done) | (simp; omega)))

theorem pr_big (s : Bool) : 256 ^ 31 < pr s := by cases s <;> decide

theorem bytecodePacks_c (w : World) (s : Bool) (a : Option Addr) (n c : Nat) (f : Nat → Nat) (h : BytesArg w a n c f) (hL : Laid w) :
    Calls Tryd.prog 14 #[.bool s, .slice a n c] w fun e w' => e = .returned (.bool true) ∧ Below w.heap.size w w' := by
  by_cases h5 : 500 < n
  · exact packs_big s a n c h5 w (Lib.hid hL)
  · by_cases h6 : 31 < n
    · exact packs_long s a n c (by omega) h6 w (Lib.hid hL)
    · have hv := le_lt h.at_.lt n
      have hvp : le f n < pr s := Nat.lt_trans (Nat.lt_of_lt_of_le hv (Nat.pow_le_pow_right (by decide) (by omega))) (pr_big s)
      have e1 := fun w' hb => pack_c s a n c f (by omega) w' (h.at_.below hb)
      rw [mulm_red hvp] at e1
      exact packs_ok s a n c (RR s (le f n)) (le f n) f (by omega) w (Lib.hid hL) (Lib.hid h.at_) (Lib.hid fun j hj => (byt_le h.at_.lt hj).symm) (Lib.hid e1)
        (Lib.hid (unpack_ok s (le f n) n (by omega) hvp (Zf_of_lt hv))) (Lib.hid fun w' hb => refNumber_slice w' a n c f (by omega) (h.at_.below hb)) (Lib.hid (form7_c s _ (Nat.lt_trans hvp (pr_lt s))))

set_option maxRecDepth 100000 in
set_option maxHeartbeats 8000000 in
theorem unpacks_bad (s : Bool) (a v x g : Nat) (n : Int) (w : World) (HL : Hid (Laid w))
    (hm : Hid (∀ w, Calls Tryd.prog 25 #[vec (pr s), vec a] w fun e w' => e = .returned (vec v) ∧ Below w.heap.size w w'))
    (hf : Hid (∀ w, Calls Tryd.prog 37 #[vec (pr s), vec v] w fun e w' => e = .returned (vec x) ∧ Below w.heap.size w w'))
    (hq1 : Hid (∀ w, Calls Tryd.prog 44 #[fieldV s, vec x, .int .i64 n] w fun e w' => e = .returned (.tuple #[.slice none 0 0, .int .i64 (g : Int)]) ∧ Below w.heap.size w w'))
    (hq2 : Hid (∀ w, Calls Tryd.prog 45 #[vec v, .int .i64 n] w fun e w' => e = .returned (.tuple #[.slice none 0 0, .int .i64 (g : Int)]) ∧ Below w.heap.size w w')) :
    Calls Tryd.prog 13 #[.bool s, vec a, .int .i64 n] w fun e w' => e = .returned (.bool true) ∧ Below w.heap.size w w' := by
  go_enter Tryd.func13, Tryd.ntmps13
  go_wp2_with fail
  refine Calls.mono (get7_c s _ (HL.out.step (by repeat first | with_reducible exact Below.refl _ _ | with_reducible refine Below.drew ?_ | with_reducible refine below_dN ?_ | with_reducible refine Below.alloc ?_ (by first | omega | (simp; done) | (simp; omega)) _ | with_reducible refine Below.setCell ?_ (by first | omega | (simp; done) | (simp; omega)) _ | with_reducible refine Below.trans ?_ (Below.mono (by assumption) (by first | omega | (simp; done) | (simp; omega)))))) ?_
  rintro _ w1 ⟨rfl, h1⟩
  obtain ⟨c1, f1, s1⟩ := bfacts h1
  try simp only [World.size_alloc, World.size_setCell, size_drew, size_drewN] at s1
  have l_w_w1_0 : w.heap.size < w1.heap.size := by omega
  have lp_w_w1_0 : w.heap.size < w1.heap.size := by omega
  have lp_w_w1_1 : w.heap.size < w1.heap.size + 1 := by omega
  have lp_w_w1_2 : w.heap.size < w1.heap.size + 1 + 1 := by omega
  have lp_w_w1_3 : w.heap.size < w1.heap.size + 1 + 1 + 1 := by omega
  go_wp2_with fail
  refine Calls.mono (hm.out _) ?_
  rintro _ w2 ⟨rfl, h2⟩
  obtain ⟨c2, f2, s2⟩ := bfacts h2
  try simp only [World.size_alloc, World.size_setCell, size_drew, size_drewN] at s2
  have l_w1_w2_0 : w1.heap.size < w2.heap.size := by omega
  have l_w1_w2_1 : w1.heap.size + 1 < w2.heap.size := by omega
  go_wp2_with fail
  refine held_begin 11 [w1.heap.size, w1.heap.size + 1, w2.heap.size] (by kernel_rfl) rfl (by intro _ _ d _ _ h; cases d <;> exact h) ?_
  intro hQ hK
  with_reducible apply held_v (n := 10) 0
  · rfl
  · kernel_rfl
  · kernel_rfl
  · kernel_rfl
  · exact hQ
  · with_reducible exact hK
  · rfl
  apply Exists.intro
  refine ⟨fun w' hC => ?_, ?_⟩
  · have k0_ := hC (w1.heap.size) (by simp only [List.mem_cons, true_or, or_true])
    have k1_ := hC (w1.heap.size + 1) (by simp only [List.mem_cons, true_or, or_true])
    have k2_ := hC (w2.heap.size) (by simp only [List.mem_cons, true_or, or_true])
    clear hC
    go_simp
    rfl
  try simp only [Act.put, List.setIfInBounds_toArray, List.set_cons_zero, List.set_cons_succ, List.tail_cons]
  with_reducible apply held_v (n := 9) 1
  · rfl
  · kernel_rfl
  · kernel_rfl
  · kernel_rfl
  · exact hQ
  · with_reducible exact hK
  · rfl
  apply Exists.intro
  refine ⟨fun w' hC => ?_, ?_⟩
  · have k0_ := hC (w1.heap.size) (by simp only [List.mem_cons, true_or, or_true])
    have k1_ := hC (w1.heap.size + 1) (by simp only [List.mem_cons, true_or, or_true])
    have k2_ := hC (w2.heap.size) (by simp only [List.mem_cons, true_or, or_true])
    clear hC
    go_simp
    rfl
  try simp only [Act.put, List.setIfInBounds_toArray, List.set_cons_zero, List.set_cons_succ, List.tail_cons]
  with_reducible apply held_v (n := 8) 2
  · rfl
  · kernel_rfl
  · kernel_rfl
  · kernel_rfl
  · exact hQ
  · with_reducible exact hK
  · rfl
  apply Exists.intro
  refine ⟨fun w' hC => ?_, ?_⟩
  · have k0_ := hC (w1.heap.size) (by simp only [List.mem_cons, true_or, or_true])
    have k1_ := hC (w1.heap.size + 1) (by simp only [List.mem_cons, true_or, or_true])
    have k2_ := hC (w2.heap.size) (by simp only [List.mem_cons, true_or, or_true])
    clear hC
    go_simp
    rfl
  try simp only [Act.put, List.setIfInBounds_toArray, List.set_cons_zero, List.set_cons_succ, List.tail_cons]
  with_reducible apply held_v (n := 7) 4
  · rfl
  · kernel_rfl
  · kernel_rfl
  · kernel_rfl
  · exact hQ
  · with_reducible exact hK
  · rfl
  apply Exists.intro
  refine ⟨fun w' hC => ?_, ?_⟩
  · have k0_ := hC (w1.heap.size) (by simp only [List.mem_cons, true_or, or_true])
    have k1_ := hC (w1.heap.size + 1) (by simp only [List.mem_cons, true_or, or_true])
    have k2_ := hC (w2.heap.size) (by simp only [List.mem_cons, true_or, or_true])
    clear hC
    go_simp
    rfl
  try simp only [Act.put, List.setIfInBounds_toArray, List.set_cons_zero, List.set_cons_succ, List.tail_cons]
  with_reducible apply held_call (n := 6) 3
  · rfl
  · kernel_rfl
  · rfl
  · with_reducible exact hK
  apply Exists.intro
  apply Exists.intro
  apply Exists.intro
  refine ⟨?_, ?_, ?_, ?_⟩
  · go_simp
    exact ⟨rfl, rfl⟩
  · exact hf.out _
  · intro b hb
    simp only [List.mem_cons, List.not_mem_nil, or_false] at hb
    rcases hb with rfl | rfl | rfl <;> first | omega | (simp; done) | (simp; omega)
  intro v3 h3 hK
  obtain ⟨c3, f3, s3⟩ := bfacts h3
  try simp only [World.size_alloc, World.size_setCell, size_drew, size_drewN] at s3
  have l_w1_v3_0 : w1.heap.size < v3.heap.size := by omega
  have l_w1_v3_1 : w1.heap.size + 1 < v3.heap.size := by omega
  have l_w2_v3_0 : w2.heap.size < v3.heap.size := by omega
  try simp only [Act.put, List.setIfInBounds_toArray, List.set_cons_zero, List.set_cons_succ, List.tail_cons]
  with_reducible apply held_call (n := 5) 5
  · rfl
  · kernel_rfl
  · rfl
  · with_reducible exact hK
  apply Exists.intro
  apply Exists.intro
  apply Exists.intro
  refine ⟨?_, ?_, ?_, ?_⟩
  · go_simp
    exact ⟨rfl, rfl⟩
  · exact hq1.out _
  · intro b hb
    simp only [List.mem_cons, List.not_mem_nil, or_false] at hb
    rcases hb with rfl | rfl | rfl <;> first | omega | (simp; done) | (simp; omega)
  intro v5 h5 hK
  obtain ⟨c5, f5, s5⟩ := bfacts h5
  try simp only [World.size_alloc, World.size_setCell, size_drew, size_drewN] at s5
  have l_w1_v5_0 : w1.heap.size < v5.heap.size := by omega
  have l_w1_v5_1 : w1.heap.size + 1 < v5.heap.size := by omega
  have l_w2_v5_0 : w2.heap.size < v5.heap.size := by omega
  try simp only [Act.put, List.setIfInBounds_toArray, List.set_cons_zero, List.set_cons_succ, List.tail_cons]
  with_reducible apply held_v (n := 4) 6
  · rfl
  · kernel_rfl
  · kernel_rfl
  · kernel_rfl
  · exact hQ
  · with_reducible exact hK
  · rfl
  apply Exists.intro
  refine ⟨fun w' hC => ?_, ?_⟩
  · have k0_ := hC (w1.heap.size) (by simp only [List.mem_cons, true_or, or_true])
    have k1_ := hC (w1.heap.size + 1) (by simp only [List.mem_cons, true_or, or_true])
    have k2_ := hC (w2.heap.size) (by simp only [List.mem_cons, true_or, or_true])
    clear hC
    go_simp
    rfl
  try simp only [Act.put, List.setIfInBounds_toArray, List.set_cons_zero, List.set_cons_succ, List.tail_cons]
  with_reducible apply held_v (n := 3) 7
  · rfl
  · kernel_rfl
  · kernel_rfl
  · kernel_rfl
  · exact hQ
  · with_reducible exact hK
  · rfl
  apply Exists.intro
  refine ⟨fun w' hC => ?_, ?_⟩
  · have k0_ := hC (w1.heap.size) (by simp only [List.mem_cons, true_or, or_true])
    have k1_ := hC (w1.heap.size + 1) (by simp only [List.mem_cons, true_or, or_true])
    have k2_ := hC (w2.heap.size) (by simp only [List.mem_cons, true_or, or_true])
    clear hC
    go_simp
    rfl
  try simp only [Act.put, List.setIfInBounds_toArray, List.set_cons_zero, List.set_cons_succ, List.tail_cons]
  with_reducible apply held_v (n := 2) 8
  · rfl
  · kernel_rfl
  · kernel_rfl
  · kernel_rfl
  · exact hQ
  · with_reducible exact hK
  · rfl
  apply Exists.intro
  refine ⟨fun w' hC => ?_, ?_⟩
  · have k0_ := hC (w1.heap.size) (by simp only [List.mem_cons, true_or, or_true])
    have k1_ := hC (w1.heap.size + 1) (by simp only [List.mem_cons, true_or, or_true])
    have k2_ := hC (w2.heap.size) (by simp only [List.mem_cons, true_or, or_true])
    clear hC
    go_simp
    rfl
  try simp only [Act.put, List.setIfInBounds_toArray, List.set_cons_zero, List.set_cons_succ, List.tail_cons]
  with_reducible apply held_v (n := 1) 9
  · rfl
  · kernel_rfl
  · kernel_rfl
  · kernel_rfl
  · exact hQ
  · with_reducible exact hK
  · rfl
  apply Exists.intro
  refine ⟨fun w' hC => ?_, ?_⟩
  · have k0_ := hC (w1.heap.size) (by simp only [List.mem_cons, true_or, or_true])
    have k1_ := hC (w1.heap.size + 1) (by simp only [List.mem_cons, true_or, or_true])
    have k2_ := hC (w2.heap.size) (by simp only [List.mem_cons, true_or, or_true])
    clear hC
    go_simp
    rfl
  try simp only [Act.put, List.setIfInBounds_toArray, List.set_cons_zero, List.set_cons_succ, List.tail_cons]
  with_reducible apply held_v (n := 0) 10
  · rfl
  · kernel_rfl
  · kernel_rfl
  · kernel_rfl
  · exact hQ
  · with_reducible exact hK
  · rfl
  apply Exists.intro
  refine ⟨fun w' hC => ?_, ?_⟩
  · have k0_ := hC (w1.heap.size) (by simp only [List.mem_cons, true_or, or_true])
    have k1_ := hC (w1.heap.size + 1) (by simp only [List.mem_cons, true_or, or_true])
    have k2_ := hC (w2.heap.size) (by simp only [List.mem_cons, true_or, or_true])
    clear hC
    go_simp
    rfl
  try simp only [Act.put, List.setIfInBounds_toArray, List.set_cons_zero, List.set_cons_succ, List.tail_cons]
  refine held_end (by kernel_rfl) ?_
  clear hK hQ
  go_wp2_with fail
  refine Calls.mono (hq2.out _) ?_
  rintro _ w6 ⟨rfl, h6⟩
  obtain ⟨c6, f6, s6⟩ := bfacts h6
  try simp only [World.size_alloc, World.size_setCell, size_drew, size_drewN] at s6
  have l_w2_w6_0 : w2.heap.size < w6.heap.size := by omega
  go_wp2_with fail
  refine Calls.mono (alive7_c _ (HL.out.step (by repeat first | with_reducible exact Below.refl _ _ | with_reducible refine Below.drew ?_ | with_reducible refine below_dN ?_ | with_reducible refine Below.alloc ?_ (by first | omega | (simp; done) | (simp; omega)) _ | with_reducible refine Below.setCell ?_ (by first | omega | (simp; done) | (simp; omega)) _ | with_reducible refine Below.trans ?_ (Below.mono (by assumption) (by first | omega | (simp; done) | (simp; omega)))))) ?_
  rintro _ w7 ⟨rfl, h7⟩
  obtain ⟨c7, f7, s7⟩ := bfacts h7
  try simp only [World.size_alloc, World.size_setCell, size_drew, size_drewN] at s7
  go_wp2_with fail
  refine Calls.mono (bytesEq_c _ none none 0 0 0 (fun _ => 0) (fun _ => 0) ⟨fun _ => by decide, .inl rfl⟩ ⟨fun _ => by decide, .inl rfl⟩ (fun _ _ => rfl)) ?_
  rintro _ w8 ⟨rfl, h8⟩
  obtain ⟨c8, f8, s8⟩ := bfacts h8
  try simp only [World.size_alloc, World.size_setCell, size_drew, size_drewN] at s8
  go_wp2_with fail
  refine bodyPost_ret (v := .bool true) (by simp only [results, Tryd.results13]; go_simp) rfl ⟨rfl, ?_⟩
  repeat first
    | with_reducible exact Below.refl _ _
    | with_reducible refine Below.drew ?_
    | with_reducible refine below_dN ?_
    | with_reducible refine Below.alloc ?_ (by first | omega | (simp; done) | (simp; omega)) _
    | with_reducible refine Below.setCell ?_ (by first | omega | (simp; done) | (simp; omega)) _
    | with_reducible refine Below.trans ?_ (Below.mono (by assumption) (by first | omega | (simp; done) | (simp; omega)))

set_option maxRecDepth 100000 in
set_option maxHeartbeats 8000000 in
theorem unpacks_ok (s : Bool) (a v x m : Nat) (w : World) (HL : Hid (Laid w))
    (hm : Hid (∀ w, Calls Tryd.prog 25 #[vec (pr s), vec a] w fun e w' => e = .returned (vec v) ∧ Below w.heap.size w w'))
    (hf : Hid (∀ w, Calls Tryd.prog 37 #[vec (pr s), vec v] w fun e w' => e = .returned (vec x) ∧ Below w.heap.size w w'))
    (hq1 : Hid (∀ w, Calls Tryd.prog 44 #[fieldV s, vec x, .int .i64 (m : Int)] w fun e w' => (∃ r, e = .returned r ∧ ∃ g, r = .tuple #[.slice (some ⟨g, 0, none⟩) m m, .int .i64 0] ∧ BytesAt w' g 0 m (byt v)) ∧ Below w.heap.size w w'))
    (hq2 : Hid (∀ w, Calls Tryd.prog 45 #[vec v, .int .i64 (m : Int)] w fun e w' => (∃ r, e = .returned r ∧ ∃ g c, r = .tuple #[.slice (some ⟨g, 0, none⟩) m c, .int .i64 0] ∧ BytesAt w' g 0 m (byt v)) ∧ Below w.heap.size w w')) :
    Calls Tryd.prog 13 #[.bool s, vec a, .int .i64 (m : Int)] w fun e w' => e = .returned (.bool true) ∧ Below w.heap.size w w' := by
  go_enter Tryd.func13, Tryd.ntmps13
  go_wp2_with fail
  refine Calls.mono (get7_c s _ (HL.out.step (by repeat first | with_reducible exact Below.refl _ _ | with_reducible refine Below.drew ?_ | with_reducible refine below_dN ?_ | with_reducible refine Below.alloc ?_ (by first | omega | (simp; done) | (simp; omega)) _ | with_reducible refine Below.setCell ?_ (by first | omega | (simp; done) | (simp; omega)) _ | with_reducible refine Below.trans ?_ (Below.mono (by assumption) (by first | omega | (simp; done) | (simp; omega)))))) ?_
  rintro _ w1 ⟨rfl, h1⟩
  obtain ⟨c1, f1, s1⟩ := bfacts h1
  try simp only [World.size_alloc, World.size_setCell, size_drew, size_drewN] at s1
  have l_w_w1_0 : w.heap.size < w1.heap.size := by omega
  have lp_w_w1_0 : w.heap.size < w1.heap.size := by omega
  have lp_w_w1_1 : w.heap.size < w1.heap.size + 1 := by omega
  have lp_w_w1_2 : w.heap.size < w1.heap.size + 1 + 1 := by omega
  have lp_w_w1_3 : w.heap.size < w1.heap.size + 1 + 1 + 1 := by omega
  go_wp2_with fail
  refine Calls.mono (hm.out _) ?_
  rintro _ w2 ⟨rfl, h2⟩
  obtain ⟨c2, f2, s2⟩ := bfacts h2
  try simp only [World.size_alloc, World.size_setCell, size_drew, size_drewN] at s2
  have l_w1_w2_0 : w1.heap.size < w2.heap.size := by omega
  have l_w1_w2_1 : w1.heap.size + 1 < w2.heap.size := by omega
  go_wp2_with fail
  refine held_begin 11 [w1.heap.size, w1.heap.size + 1, w2.heap.size] (by kernel_rfl) rfl (by intro _ _ d _ _ h; cases d <;> exact h) ?_
  intro hQ hK
  with_reducible apply held_v (n := 10) 0
  · rfl
  · kernel_rfl
  · kernel_rfl
  · kernel_rfl
  · exact hQ
  · with_reducible exact hK
  · rfl
  apply Exists.intro
  refine ⟨fun w' hC => ?_, ?_⟩
  · have k0_ := hC (w1.heap.size) (by simp only [List.mem_cons, true_or, or_true])
    have k1_ := hC (w1.heap.size + 1) (by simp only [List.mem_cons, true_or, or_true])
    have k2_ := hC (w2.heap.size) (by simp only [List.mem_cons, true_or, or_true])
    clear hC
    go_simp
    rfl
  try simp only [Act.put, List.setIfInBounds_toArray, List.set_cons_zero, List.set_cons_succ, List.tail_cons]
  with_reducible apply held_v (n := 9) 1
  · rfl
  · kernel_rfl
  · kernel_rfl
  · kernel_rfl
  · exact hQ
  · with_reducible exact hK
  · rfl
  apply Exists.intro
  refine ⟨fun w' hC => ?_, ?_⟩
  · have k0_ := hC (w1.heap.size) (by simp only [List.mem_cons, true_or, or_true])
    have k1_ := hC (w1.heap.size + 1) (by simp only [List.mem_cons, true_or, or_true])
    have k2_ := hC (w2.heap.size) (by simp only [List.mem_cons, true_or, or_true])
    clear hC
    go_simp
    rfl
  try simp only [Act.put, List.setIfInBounds_toArray, List.set_cons_zero, List.set_cons_succ, List.tail_cons]
  with_reducible apply held_v (n := 8) 2
  · rfl
  · kernel_rfl
  · kernel_rfl
  · kernel_rfl
  · exact hQ
  · with_reducible exact hK
  · rfl
  apply Exists.intro
  refine ⟨fun w' hC => ?_, ?_⟩
  · have k0_ := hC (w1.heap.size) (by simp only [List.mem_cons, true_or, or_true])
    have k1_ := hC (w1.heap.size + 1) (by simp only [List.mem_cons, true_or, or_true])
    have k2_ := hC (w2.heap.size) (by simp only [List.mem_cons, true_or, or_true])
    clear hC
    go_simp
    rfl
  try simp only [Act.put, List.setIfInBounds_toArray, List.set_cons_zero, List.set_cons_succ, List.tail_cons]
  with_reducible apply held_v (n := 7) 4
  · rfl
  · kernel_rfl
  · kernel_rfl
  · kernel_rfl
  · exact hQ
  · with_reducible exact hK
  · rfl
  apply Exists.intro
  refine ⟨fun w' hC => ?_, ?_⟩
  · have k0_ := hC (w1.heap.size) (by simp only [List.mem_cons, true_or, or_true])
    have k1_ := hC (w1.heap.size + 1) (by simp only [List.mem_cons, true_or, or_true])
    have k2_ := hC (w2.heap.size) (by simp only [List.mem_cons, true_or, or_true])
    clear hC
    go_simp
    rfl
  try simp only [Act.put, List.setIfInBounds_toArray, List.set_cons_zero, List.set_cons_succ, List.tail_cons]
  with_reducible apply held_call (n := 6) 3
  · rfl
  · kernel_rfl
  · rfl
  · with_reducible exact hK
  apply Exists.intro
  apply Exists.intro
  apply Exists.intro
  refine ⟨?_, ?_, ?_, ?_⟩
  · go_simp
    exact ⟨rfl, rfl⟩
  · exact hf.out _
  · intro b hb
    simp only [List.mem_cons, List.not_mem_nil, or_false] at hb
    rcases hb with rfl | rfl | rfl <;> first | omega | (simp; done) | (simp; omega)
  intro v3 h3 hK
  obtain ⟨c3, f3, s3⟩ := bfacts h3
  try simp only [World.size_alloc, World.size_setCell, size_drew, size_drewN] at s3
  have l_w1_v3_0 : w1.heap.size < v3.heap.size := by omega
  have l_w1_v3_1 : w1.heap.size + 1 < v3.heap.size := by omega
  have l_w2_v3_0 : w2.heap.size < v3.heap.size := by omega
  try simp only [Act.put, List.setIfInBounds_toArray, List.set_cons_zero, List.set_cons_succ, List.tail_cons]
  with_reducible apply held_callx (n := 5) 5
  · rfl
  · kernel_rfl
  · rfl
  · with_reducible exact hK
  apply Exists.intro
  apply Exists.intro
  apply Exists.intro
  refine ⟨?_, ?_, ?_, ?_⟩
  · go_simp
    exact ⟨rfl, rfl⟩
  · exact hq1.out _
  · intro b hb
    simp only [List.mem_cons, List.not_mem_nil, or_false] at hb
    rcases hb with rfl | rfl | rfl <;> first | omega | (simp; done) | (simp; omega)
  rintro r5 v5 ⟨g, rfl, hB⟩ h5 hK
  obtain ⟨c5, f5, s5⟩ := bfacts h5
  try simp only [World.size_alloc, World.size_setCell, size_drew, size_drewN] at s5
  have l_w1_v5_0 : w1.heap.size < v5.heap.size := by omega
  have l_w1_v5_1 : w1.heap.size + 1 < v5.heap.size := by omega
  have l_w2_v5_0 : w2.heap.size < v5.heap.size := by omega
  try simp only [Act.put, List.setIfInBounds_toArray, List.set_cons_zero, List.set_cons_succ, List.tail_cons]
  with_reducible apply held_v (n := 4) 6
  · rfl
  · kernel_rfl
  · kernel_rfl
  · kernel_rfl
  · exact hQ
  · with_reducible exact hK
  · rfl
  apply Exists.intro
  refine ⟨fun w' hC => ?_, ?_⟩
  · have k0_ := hC (w1.heap.size) (by simp only [List.mem_cons, true_or, or_true])
    have k1_ := hC (w1.heap.size + 1) (by simp only [List.mem_cons, true_or, or_true])
    have k2_ := hC (w2.heap.size) (by simp only [List.mem_cons, true_or, or_true])
    clear hC
    go_simp
    rfl
  try simp only [Act.put, List.setIfInBounds_toArray, List.set_cons_zero, List.set_cons_succ, List.tail_cons]
  with_reducible apply held_v (n := 3) 7
  · rfl
  · kernel_rfl
  · kernel_rfl
  · kernel_rfl
  · exact hQ
  · with_reducible exact hK
  · rfl
  apply Exists.intro
  refine ⟨fun w' hC => ?_, ?_⟩
  · have k0_ := hC (w1.heap.size) (by simp only [List.mem_cons, true_or, or_true])
    have k1_ := hC (w1.heap.size + 1) (by simp only [List.mem_cons, true_or, or_true])
    have k2_ := hC (w2.heap.size) (by simp only [List.mem_cons, true_or, or_true])
    clear hC
    go_simp
    rfl
  try simp only [Act.put, List.setIfInBounds_toArray, List.set_cons_zero, List.set_cons_succ, List.tail_cons]
  with_reducible apply held_v (n := 2) 8
  · rfl
  · kernel_rfl
  · kernel_rfl
  · kernel_rfl
  · exact hQ
  · with_reducible exact hK
  · rfl
  apply Exists.intro
  refine ⟨fun w' hC => ?_, ?_⟩
  · have k0_ := hC (w1.heap.size) (by simp only [List.mem_cons, true_or, or_true])
    have k1_ := hC (w1.heap.size + 1) (by simp only [List.mem_cons, true_or, or_true])
    have k2_ := hC (w2.heap.size) (by simp only [List.mem_cons, true_or, or_true])
    clear hC
    go_simp
    rfl
  try simp only [Act.put, List.setIfInBounds_toArray, List.set_cons_zero, List.set_cons_succ, List.tail_cons]
  with_reducible apply held_v (n := 1) 9
  · rfl
  · kernel_rfl
  · kernel_rfl
  · kernel_rfl
  · exact hQ
  · with_reducible exact hK
  · rfl
  apply Exists.intro
  refine ⟨fun w' hC => ?_, ?_⟩
  · have k0_ := hC (w1.heap.size) (by simp only [List.mem_cons, true_or, or_true])
    have k1_ := hC (w1.heap.size + 1) (by simp only [List.mem_cons, true_or, or_true])
    have k2_ := hC (w2.heap.size) (by simp only [List.mem_cons, true_or, or_true])
    clear hC
    go_simp
    rfl
  try simp only [Act.put, List.setIfInBounds_toArray, List.set_cons_zero, List.set_cons_succ, List.tail_cons]
  with_reducible apply held_v (n := 0) 10
  · rfl
  · kernel_rfl
  · kernel_rfl
  · kernel_rfl
  · exact hQ
  · with_reducible exact hK
  · rfl
  apply Exists.intro
  refine ⟨fun w' hC => ?_, ?_⟩
  · have k0_ := hC (w1.heap.size) (by simp only [List.mem_cons, true_or, or_true])
    have k1_ := hC (w1.heap.size + 1) (by simp only [List.mem_cons, true_or, or_true])
    have k2_ := hC (w2.heap.size) (by simp only [List.mem_cons, true_or, or_true])
    clear hC
    go_simp
    rfl
  try simp only [Act.put, List.setIfInBounds_toArray, List.set_cons_zero, List.set_cons_succ, List.tail_cons]
  refine held_end (by kernel_rfl) ?_
  clear hK hQ
  have HB := Lib.hid hB
  have hgb : g < v5.heap.size := hB.blk
  clear hB
  go_wp2_with fail
  refine Calls.mono (hq2.out _) ?_
  rintro _ w6 ⟨⟨_, rfl, g2, c2, rfl, hB2⟩, h6⟩
  obtain ⟨c6, f6, s6⟩ := bfacts h6
  try simp only [World.size_alloc, World.size_setCell, size_drew, size_drewN] at s6
  have HB2 := Lib.hid hB2
  clear hB2
  have l_w2_w6_0 : w2.heap.size < w6.heap.size := by omega
  go_wp2_with fail
  refine Calls.mono (alive7_c _ (HL.out.step (by repeat first | with_reducible exact Below.refl _ _ | with_reducible refine Below.drew ?_ | with_reducible refine below_dN ?_ | with_reducible refine Below.alloc ?_ (by first | omega | (simp; done) | (simp; omega)) _ | with_reducible refine Below.setCell ?_ (by first | omega | (simp; done) | (simp; omega)) _ | with_reducible refine Below.trans ?_ (Below.mono (by assumption) (by first | omega | (simp; done) | (simp; omega)))))) ?_
  rintro _ w7 ⟨rfl, h7⟩
  obtain ⟨c7, f7, s7⟩ := bfacts h7
  try simp only [World.size_alloc, World.size_setCell, size_drew, size_drewN] at s7
  go_wp2_with fail
  refine Calls.mono (bytesEq_c _ (some ⟨g, 0, none⟩) (some ⟨g2, 0, none⟩) m m c2 (byt v) (byt v) (HB.out.below (by repeat first | with_reducible exact Below.refl _ _ | with_reducible refine Below.drew ?_ | with_reducible refine below_dN ?_ | with_reducible refine Below.alloc ?_ (by first | omega | (simp; done) | (simp; omega)) _ | with_reducible refine Below.setCell ?_ (by first | omega | (simp; done) | (simp; omega)) _ | with_reducible refine Below.trans ?_ (Below.mono (by assumption) (by first | omega | (simp; done) | (simp; omega))))).slice (HB2.out.below (by repeat first | with_reducible exact Below.refl _ _ | with_reducible refine Below.drew ?_ | with_reducible refine below_dN ?_ | with_reducible refine Below.alloc ?_ (by first | omega | (simp; done) | (simp; omega)) _ | with_reducible refine Below.setCell ?_ (by first | omega | (simp; done) | (simp; omega)) _ | with_reducible refine Below.trans ?_ (Below.mono (by assumption) (by first | omega | (simp; done) | (simp; omega))))).slice (fun _ _ => rfl)) ?_
  rintro _ w8 ⟨rfl, h8⟩
  obtain ⟨c8, f8, s8⟩ := bfacts h8
  try simp only [World.size_alloc, World.size_setCell, size_drew, size_drewN] at s8
  go_wp2_with fail
  refine bodyPost_ret (v := .bool true) (by simp only [results, Tryd.results13]; go_simp) rfl ⟨rfl, ?_⟩
  repeat first
    | with_reducible exact Below.refl _ _
    | with_reducible refine Below.drew ?_
    | with_reducible refine below_dN ?_
    | with_reducible refine Below.alloc ?_ (by first | omega | (simp; done) | (simp; omega)) _
    | with_reducible refine Below.setCell ?_ (by first | omega | (simp; done) | (simp; omega)) _
    | with_reducible refine Below.trans ?_ (Below.mono (by assumption) (by first | omega | (simp; done) | (simp; omega)))

theorem bytecodeUnpacks_c (s : Bool) (a : Nat) (n : Int) (ha : a < R4) (_ : (Lit.int .i64 n).wf = true) (w : World) (hL : Laid w) :
    Calls Tryd.prog 13 #[.bool s, vec a, .int .i64 n] w fun e w' => e = .returned (.bool true) ∧ Below w.heap.size w w' := by
  have hv := red_lt s a
  have hm := refMod_c (pr s) a (pr_lt s) (pr_gt1 s) ha
  obtain ⟨v, e⟩ : ∃ v, v = mulm (pr s) 1 a := ⟨_, rfl⟩
  rw [← e] at hv hm
  clear e
  have hv4 := Nat.lt_trans hv (pr_lt s)
  by_cases hn : n < 0 ∨ 31 < n
  · exact unpacks_bad s a v (RR s v) 8 n w (Lib.hid hL) (Lib.hid hm) (Lib.hid (form7_c s v hv4)) (Lib.hid (unpack_len s (RR s v) n hn)) (Lib.hid (refUnpack_len v n hn))
  · obtain ⟨m, rfl⟩ : ∃ m : Nat, n = (m : Int) := ⟨n.toNat, by omega⟩
    have hm31 : m ≤ 31 := by omega
    by_cases hz : Zf v m
    · exact unpacks_ok s a v (RR s v) m w (Lib.hid hL) (Lib.hid hm) (Lib.hid (form7_c s v hv4)) (Lib.hid (unpack_ok s v m hm31 hv hz)) (Lib.hid (refUnpack_ok v m hm31 hz))
    · exact unpacks_bad s a v (RR s v) 10 m w (Lib.hid hL) (Lib.hid hm) (Lib.hid (form7_c s v hv4)) (Lib.hid (unpack_pad s v m hm31 hv hz)) (Lib.hid (refUnpack_pad v m hm31 hz))
end Go.Proofs.YtpebojiijgkadaaDoor
