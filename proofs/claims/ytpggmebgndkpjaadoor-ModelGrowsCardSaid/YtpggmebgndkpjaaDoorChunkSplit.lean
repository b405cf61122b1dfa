/- The contract of chunks.Split. -/
import Derived.Test.YtpggmebgndkpjaaDoorBlk
namespace Go.Proofs.YtpggmebgndkpjaaDoor
set_option linter.all false
open Go Go.RowKit Go.Shelf
attribute [local go_sem] Oper.semAt_some

theorem wpi_name {F : Fence} {n : Nat} {P : Program} {Q : Exit → Act → World → Prop} {a : Act} {c : Code} {w : World} (h : ∀ wS, wS = w → c.wpIn F n P Q a wS) : c.wpIn F n P Q a w := h w rfl
/-- Chunk i of n bytes, as an element. -/
def ck (s : Bool) (n : Nat) (f : Nat → Nat) (i : Nat) : Nat := RR s (mulm (pr s) 1 (le (fun j => f (31 * i + j)) (cz n i)))

set_option maxRecDepth 100000 in
set_option maxHeartbeats 4000000 in
theorem split_ok (s : Bool) (a : Option Addr) (n c : Nat) (f : Nat → Nat) (hn : n ≤ 65535) (hc : n ≤ c) (w : World) (hS : SliceAt w a n f) :
    Calls Tryd.prog 35 #[fieldV s, .slice a n c] w fun e w' => (∃ v, e = .returned (.tuple #[v, .int .i64 0]) ∧ w'.ownsRow w.heap.size 45 4 v (cn n) (vcs ((List.range (cn n)).map (ck s n f)))) ∧ Below w.heap.size w w' := by
  have HS := Lib.hid hS
  have hd : decide (0 ≤ (n : Int) ∧ (n : Int) ≤ 65535) = true := by simp; omega
  have Hd := Lib.hid hd
  clear hS hd
  obtain ⟨i0, hi, hz0, hz1, hz2⟩ := info_parts infoElem
  have Hi := Lib.hid hi
  have Hz0 := Lib.hid hz0
  have Hz1 := Lib.hid hz1
  have Hz2 := Lib.hid hz2
  clear hi hz0 hz1 hz2
  refine (callsIn_wide (n := 6)).1 ?_
  refine callsIn_of_wp_marks Tryd.func35 rfl trivial ?_ rfl
  simp only [Tryd.ntmps35, List.size_toArray, List.length_cons, List.length_nil, Nat.reduceAdd, Nat.reduceSub, Array.replicate_succ, Array.replicate_zero, List.push_toArray, List.append_toArray, List.nil_append, List.cons_append]
  gi_wp2
  refine ⟨trivial, ?_⟩
  try (refine ⟨(fun h => by cases h), ?_⟩)
  refine CallsIn.mono (callsIn_wide.2 (valid_c _ _)) ?_
  rintro _ _ ⟨rfl, rfl⟩
  rw [Hd.out]
  gi_wp2
  refine ⟨trivial, ?_⟩
  try (refine ⟨(fun h => by cases h), ?_⟩)
  refine CallsIn.mono (callsIn_wide.2 (bounds_c _ _)) ?_
  rintro _ _ ⟨rfl, rfl⟩
  gi_wp2
  obtain ⟨b0, e0⟩ : ∃ b, b = w.heap.size := ⟨_, rfl⟩
  obtain ⟨b1, e1⟩ : ∃ b, b = b0 + 1 := ⟨_, rfl⟩
  obtain ⟨b2, e2⟩ : ∃ b, b = b1 + 1 := ⟨_, rfl⟩
  obtain ⟨b3, e3⟩ : ∃ b, b = b2 + 1 := ⟨_, rfl⟩
  obtain ⟨b4, e4⟩ : ∃ b, b = b3 + 1 := ⟨_, rfl⟩
  obtain ⟨b5, e5⟩ : ∃ b, b = b4 + 1 := ⟨_, rfl⟩
  rw [← e0, ← e1, ← e2, ← e3, ← e4, ← e5]
  refine wpi_name ?_
  intro W0 hW
  have hk0 : Blk W0 b0 (fieldA s) 47 ∧ Blk W0 b1 #[.slice a n c] 53 ∧ Blk W0 b2 #[.slice none 0 0] 50 ∧ Blk W0 b3 #[.int .i64 0] 27 ∧ Blk W0 b4 #[.slice none 0 0] 50 ∧ Blk W0 b5 #[.int .i64 (n : Int)] 3 ∧ W0.heap.size = b5 + 1 ∧ Below w.heap.size w W0 := by
    rw [hW]
    refine ⟨((((((Blk.new (by first | exact e0 | (simp only [World.size_alloc]; omega))).alloc _).alloc _).alloc _).alloc _).alloc _), (((((Blk.new (by first | exact e0 | (simp only [World.size_alloc]; omega))).alloc _).alloc _).alloc _).alloc _), ((((Blk.new (by first | exact e0 | (simp only [World.size_alloc]; omega))).alloc _).alloc _).alloc _), (((Blk.new (by first | exact e0 | (simp only [World.size_alloc]; omega))).alloc _).alloc _), ((Blk.new (by first | exact e0 | (simp only [World.size_alloc]; omega))).alloc _), (Blk.new (by first | exact e0 | (simp only [World.size_alloc]; omega))), by simp only [World.size_alloc]; omega, ?_⟩
    have := e0
    exact (by repeat first | with_reducible exact Below.refl _ _ | with_reducible refine Below.drew ?_ | with_reducible refine below_dN ?_ | with_reducible refine Below.alloc ?_ (by first | omega | (simp; done) | (simp; omega)) _ | with_reducible refine Below.setCell ?_ (by first | omega | (simp; done) | (simp; omega)) _ | with_reducible refine Below.trans ?_ (Below.mono (by assumption) (by first | omega | (simp; done) | (simp; omega))))
  obtain ⟨k0, k1, k2, k3, k4, k5, hsz, hBW⟩ := hk0
  rw [← e0] at hBW
  have HW := Lib.hid (And.intro hsz (And.intro e0 (And.intro e1 (And.intro e2 (And.intro e3 (And.intro e4 e5))))))
  have lb01 : b0 < b1 := by omega
  have lb12 : b1 < b2 := by omega
  have lb23 : b2 < b3 := by omega
  have lb34 : b3 < b4 := by omega
  have lb45 : b4 < b5 := by omega
  have lW : b5 < W0.heap.size := by omega
  have hw0 : w.heap.size ≤ b0 := by omega
  have hb0 : b0 ≤ w.heap.size := by omega
  clear hW hsz e0 e1 e2 e3 e4 e5
  refine wpIn_rangeFunc_ownG rfl (by decide) (gf := 88) (lb := #[.pointer (some ⟨b5, 0, none⟩)]) rfl trivial (enters_of Tryd.func88 (by kernel_rfl) rfl)
    (bounds_stops 5 (by decide) n b5 hn W0 k5.lt (k5.cell rfl)) KB_t (KB_b (by omega)) (Below.refl _ _) (fun _ => rfl)
    (fun pre W => (Blk W b0 (fieldA s) 47 ∧ Blk W b1 #[.slice a n c] 53 ∧ Blk W b2 #[.slice none 0 0] 50 ∧ Blk W b3 #[.int .i64 0] 27 ∧ Blk W b5 #[.int .i64 (n : Int)] 3 ∧
      (∃ v, Blk W b4 #[v] 50 ∧ W.ownsRow b0 45 4 v pre.length (vcs (pre.map fun i => ck s n f i.val)))) ∧ Below b0 w W)
    (fun _ _ _ => False)
    (OwnFrom.and (fun pre A B row hs hg hr => ⟨hs.1.kept hg (fun r e => (hr r e).2), hs.2.1.kept hg (fun r e => (hr r e).2), hs.2.2.1.kept hg (fun r e => (hr r e).2), hs.2.2.2.1.kept hg (fun r e => (hr r e).2), hs.2.2.2.2.1.kept hg (fun r e => (hr r e).2), hs.2.2.2.2.2.imp fun v h => ⟨h.1.kept hg (fun r e => (hr r e).2), row_kept h.2 hg (fun r e => (hr r e).2)⟩⟩) (ownFrom_below (by omega) (by omega)))
    (fun _ _ _ _ _ hs _ _ => hs)
    ⟨⟨k0, k1, k2, k3, k5, _, k4, World.ownsRow_nil _ _ _ _⟩, hBW⟩
    (fun x => { tmps := #[fieldV s, .slice a n c, .pointer (some ⟨b0, 0, none⟩), .pointer (some ⟨b1, 0, none⟩), .pointer (some ⟨b2, 0, none⟩), .pointer (some ⟨b3, 0, none⟩), .pointer (some ⟨b4, 0, none⟩), .int .i64 ((x.val : Nat) : Int), .int .i64 ((cz n x.val : Nat) : Int), undef, undef, undef, .slice a n c, .int .i64 (n : Int), .bool true, .bool false, .slice a n c, .int .i64 (n : Int), .func (.func 88) #[] #[.pointer (some ⟨b5, 0, none⟩)], .int .i64 ((x.val : Nat) : Int), .int .i64 ((cz n x.val : Nat) : Int), undef, undef, undef, undef, undef, undef, undef, undef, undef, undef, undef, undef, undef, undef, undef, undef, undef, undef, undef, undef, undef, undef, undef, undef], defers := [] }) ?assign ?body ?done ?stop
  case assign =>
    intro l x W K hK
    gi_wp2
    exact hK
  case body =>
    rintro l pre x W ⟨⟨j0, j1, j2, j3, j5, v, j4, ho⟩, hB⟩ hpre
    have hxn := x.isLt
    have hpre2 : pre.length < 2115 := by have : cn (n : Int) ≤ 2115 := (by unfold cn; split <;> omega); omega
    clear hpre
    have h31 := cn_lo hn hxn
    have hcn2 : x.val ≤ 2115 := by have : cn (n : Int) ≤ 2115 := (by unfold cn; split <;> omega); omega
    obtain ⟨m, em⟩ : ∃ m, m = cz n x.val := ⟨_, rfl⟩
    have hm31 : m ≤ 31 := by rw [em]; unfold cz; omega
    have hm0 : 0 < m := by rw [em]; unfold cz; omega
    have hmn : 31 * x.val + m ≤ n := by rw [em]; unfold cz; omega
    obtain ⟨i, ei⟩ : ∃ i, i = x.val := ⟨_, rfl⟩
    obtain ⟨o, eo⟩ : ∃ o, o = 31 * i := ⟨_, rfl⟩
    obtain ⟨h, eh⟩ : ∃ h, h = o + m := ⟨_, rfl⟩
    have hio : (i : Int) * 31 = (o : Int) := by omega
    have hwh : IntKind.i64.wrap ((o : Int) + (m : Int)) = (h : Int) := by rw [IntWalk.i64_in _ (by omega)]; omega
    obtain ⟨a', hcut, hSa⟩ := cut3 (c := c) (HS.out.below (by rw [show w.heap.size = b0 by omega]; exact hB)) hc eh (by omega) hm0
    rw [← em, ← ei]
    have HI := Lib.hid (And.intro em (And.intro ei (And.intro eo eh)))
    have HSa := Lib.hid hSa
    have HJ := Lib.hid (And.intro j0 (And.intro j1 (And.intro j2 (And.intro j3 (And.intro j4 (And.intro ho (And.intro hB j5)))))))
    have hi2 : i ≤ 2115 := by omega
    have c1 := j1.cell (j := 0) rfl
    have lw0 := j0.lt
    have lw1 := j1.lt
    have lw4 := j4.lt
    have lw5 := j5.lt
    clear em ei eo eh hSa j0 j1 j2 j3 j4 j5 ho hB hxn h31 hcn2
    gi_wp2
    refine heldr_begin 17 [b0, b1] (by kernel_rfl) rfl (by intro _ _ d _ _ h; cases d <;> exact h) ?_
    intro hQ hK
    with_reducible apply heldr_v (n := 16) 0
    · rfl
    · kernel_rfl
    · kernel_rfl
    · kernel_rfl
    · exact hQ
    · with_reducible exact hK
    · rfl
    apply Exists.intro
    refine ⟨fun w' hC => ?_, ?_⟩
    · have k0_ := hC (b0) (by simp only [List.mem_cons, true_or, or_true])
      have k1_ := hC (b1) (by simp only [List.mem_cons, true_or, or_true])
      clear hC
      have hl := load_field s (W := w') (b := b0) (fun j v hj => (k0_ j).trans (HJ.out.1.cell hj))
      exact exec_load rfl rfl hl
    try simp only [Act.put, List.setIfInBounds_toArray, List.set_cons_zero, List.set_cons_succ, List.tail_cons]
    with_reducible apply heldr_v (n := 15) 1
    · rfl
    · kernel_rfl
    · kernel_rfl
    · kernel_rfl
    · exact hQ
    · with_reducible exact hK
    · rfl
    apply Exists.intro
    refine ⟨fun w' hC => ?_, ?_⟩
    · have k0_ := hC (b0) (by simp only [List.mem_cons, true_or, or_true])
      have k1_ := hC (b1) (by simp only [List.mem_cons, true_or, or_true])
      clear hC
      go_simp
      rfl
    try simp only [Act.put, List.setIfInBounds_toArray, List.set_cons_zero, List.set_cons_succ, List.tail_cons]
    with_reducible apply heldr_v (n := 14) 2
    · rfl
    · kernel_rfl
    · kernel_rfl
    · kernel_rfl
    · exact hQ
    · with_reducible exact hK
    · rfl
    apply Exists.intro
    refine ⟨fun w' hC => ?_, ?_⟩
    · have k0_ := hC (b0) (by simp only [List.mem_cons, true_or, or_true])
      have k1_ := hC (b1) (by simp only [List.mem_cons, true_or, or_true])
      clear hC
      go_simp
      rfl
    try simp only [Act.put, List.setIfInBounds_toArray, List.set_cons_zero, List.set_cons_succ, List.tail_cons]
    with_reducible apply heldr_v (n := 13) 3
    · rfl
    · kernel_rfl
    · kernel_rfl
    · kernel_rfl
    · exact hQ
    · with_reducible exact hK
    · rfl
    apply Exists.intro
    refine ⟨fun w' hC => ?_, ?_⟩
    · have k0_ := hC (b0) (by simp only [List.mem_cons, true_or, or_true])
      have k1_ := hC (b1) (by simp only [List.mem_cons, true_or, or_true])
      clear hC
      go_simp
      rfl
    try simp only [Act.put, List.setIfInBounds_toArray, List.set_cons_zero, List.set_cons_succ, List.tail_cons]
    with_reducible apply heldr_v (n := 12) 4
    · rfl
    · kernel_rfl
    · kernel_rfl
    · kernel_rfl
    · exact hQ
    · with_reducible exact hK
    · rfl
    apply Exists.intro
    refine ⟨fun w' hC => ?_, ?_⟩
    · have k0_ := hC (b0) (by simp only [List.mem_cons, true_or, or_true])
      have k1_ := hC (b1) (by simp only [List.mem_cons, true_or, or_true])
      clear hC
      go_simp
      rfl
    try simp only [Act.put, List.setIfInBounds_toArray, List.set_cons_zero, List.set_cons_succ, List.tail_cons]
    with_reducible apply heldr_v (n := 11) 5
    · rfl
    · kernel_rfl
    · kernel_rfl
    · kernel_rfl
    · exact hQ
    · with_reducible exact hK
    · rfl
    apply Exists.intro
    refine ⟨fun w' hC => ?_, ?_⟩
    · have k0_ := hC (b0) (by simp only [List.mem_cons, true_or, or_true])
      have k1_ := hC (b1) (by simp only [List.mem_cons, true_or, or_true])
      clear hC
      go_simp
      rfl
    try simp only [Act.put, List.setIfInBounds_toArray, List.set_cons_zero, List.set_cons_succ, List.tail_cons]
    with_reducible apply heldr_v (n := 10) 6
    · rfl
    · kernel_rfl
    · kernel_rfl
    · kernel_rfl
    · exact hQ
    · with_reducible exact hK
    · rfl
    apply Exists.intro
    refine ⟨fun w' hC => ?_, ?_⟩
    · have k0_ := hC (b0) (by simp only [List.mem_cons, true_or, or_true])
      have k1_ := hC (b1) (by simp only [List.mem_cons, true_or, or_true])
      clear hC
      go_simp
      rfl
    try simp only [Act.put, List.setIfInBounds_toArray, List.set_cons_zero, List.set_cons_succ, List.tail_cons]
    with_reducible apply heldr_v (n := 9) 7
    · rfl
    · kernel_rfl
    · kernel_rfl
    · kernel_rfl
    · exact hQ
    · with_reducible exact hK
    · rfl
    apply Exists.intro
    refine ⟨fun w' hC => ?_, ?_⟩
    · have k0_ := hC (b0) (by simp only [List.mem_cons, true_or, or_true])
      have k1_ := hC (b1) (by simp only [List.mem_cons, true_or, or_true])
      clear hC
      go_simp
      rfl
    try simp only [Act.put, List.setIfInBounds_toArray, List.set_cons_zero, List.set_cons_succ, List.tail_cons]
    with_reducible apply heldr_v (n := 8) 8
    · rfl
    · kernel_rfl
    · kernel_rfl
    · kernel_rfl
    · exact hQ
    · with_reducible exact hK
    · rfl
    apply Exists.intro
    refine ⟨fun w' hC => ?_, ?_⟩
    · have k0_ := hC (b0) (by simp only [List.mem_cons, true_or, or_true])
      have k1_ := hC (b1) (by simp only [List.mem_cons, true_or, or_true])
      clear hC
      go_simp
      rfl
    try simp only [Act.put, List.setIfInBounds_toArray, List.set_cons_zero, List.set_cons_succ, List.tail_cons]
    with_reducible apply heldr_v (n := 7) 9
    · rfl
    · kernel_rfl
    · kernel_rfl
    · kernel_rfl
    · exact hQ
    · with_reducible exact hK
    · rfl
    apply Exists.intro
    refine ⟨fun w' hC => ?_, ?_⟩
    · have k0_ := hC (b0) (by simp only [List.mem_cons, true_or, or_true])
      have k1_ := hC (b1) (by simp only [List.mem_cons, true_or, or_true])
      clear hC
      go_simp
      rfl
    try simp only [Act.put, List.setIfInBounds_toArray, List.set_cons_zero, List.set_cons_succ, List.tail_cons]
    with_reducible apply heldr_two (n := 6) 10 14
    · rfl
    · rfl
    · kernel_rfl
    · rfl
    · rfl
    · with_reducible apply heldwr_call
      · with_reducible exact hK
      apply Exists.intro
      apply Exists.intro
      apply Exists.intro
      refine ⟨?_, ?_, ?_, ?_⟩
      · go_simp
        exact ⟨rfl, rfl⟩
      · exact pack_c s a' m m _ hm31 _ (HSa.out.below (by repeat first | with_reducible exact Below.refl _ _ | with_reducible refine Below.drew ?_ | with_reducible refine below_dN ?_ | with_reducible refine Below.alloc ?_ (by first | omega | (simp; done) | (simp; omega)) _ | with_reducible refine Below.setCell ?_ (by first | omega | (simp; done) | (simp; omega)) _ | with_reducible refine Below.trans ?_ (Below.mono (by assumption) (by first | omega | (simp; done) | (simp; omega)))))
      · intro b hb
        simp only [List.mem_cons, List.not_mem_nil, or_false] at hb
        rcases hb with rfl | rfl <;> first | omega | (simp; done) | (simp; omega)
      intro v10 h10 hK
      obtain ⟨c10, f10, s10⟩ := bfacts h10
      try simp only [World.size_alloc, World.size_setCell, size_drew, size_drewN] at s10
      try simp only [Act.put, List.setIfInBounds_toArray, List.set_cons_zero, List.set_cons_succ, List.tail_cons]
      with_reducible apply heldr_v (n := 5) 11
      · rfl
      · kernel_rfl
      · kernel_rfl
      · kernel_rfl
      · exact hQ
      · with_reducible exact hK
      · rfl
      apply Exists.intro
      refine ⟨fun w' hC => ?_, ?_⟩
      · have k0_ := hC (b0) (by simp only [List.mem_cons, true_or, or_true])
        have k1_ := hC (b1) (by simp only [List.mem_cons, true_or, or_true])
        clear hC
        go_simp
        rfl
      try simp only [Act.put, List.setIfInBounds_toArray, List.set_cons_zero, List.set_cons_succ, List.tail_cons]
      with_reducible apply heldr_v (n := 4) 12
      · rfl
      · kernel_rfl
      · kernel_rfl
      · kernel_rfl
      · exact hQ
      · with_reducible exact hK
      · rfl
      apply Exists.intro
      refine ⟨fun w' hC => ?_, ?_⟩
      · have k0_ := hC (b0) (by simp only [List.mem_cons, true_or, or_true])
        have k1_ := hC (b1) (by simp only [List.mem_cons, true_or, or_true])
        clear hC
        go_simp
        rfl
      try simp only [Act.put, List.setIfInBounds_toArray, List.set_cons_zero, List.set_cons_succ, List.tail_cons]
      with_reducible apply heldr_v (n := 3) 13
      · rfl
      · kernel_rfl
      · kernel_rfl
      · kernel_rfl
      · exact hQ
      · with_reducible exact hK
      · rfl
      apply Exists.intro
      refine ⟨fun w' hC => ?_, ?_⟩
      · have k0_ := hC (b0) (by simp only [List.mem_cons, true_or, or_true])
        have k1_ := hC (b1) (by simp only [List.mem_cons, true_or, or_true])
        clear hC
        go_simp
        rfl
      try simp only [Act.put, List.setIfInBounds_toArray, List.set_cons_zero, List.set_cons_succ, List.tail_cons]
      with_reducible apply heldr_o (n := 2) 14
      · rfl
      · kernel_rfl
      · rfl
      apply Exists.intro
      apply Exists.intro
      refine ⟨?_, ?_, ?_⟩
      · go_simp
        exact ⟨rfl, rfl⟩
      · repeat first
          | with_reducible exact hK
          | with_reducible refine KeepL.drewN ?_ _
          | with_reducible refine KeepL.drew ?_
          | with_reducible (refine KeepL.set ?_ _ _ (by intro b hb; simp only [List.mem_cons, List.not_mem_nil, or_false] at hb; rcases hb with rfl | rfl <;> (first | omega | (simp; done) | (simp; omega))))
          | with_reducible (refine KeepL.alloc ?_ _ (by intro b hb; simp only [List.mem_cons, List.not_mem_nil, or_false] at hb; rcases hb with rfl | rfl <;> (first | omega | (simp; done) | (simp; omega))))
          | exact fun _ _ _ => rfl
          | exact hK
          | exact KeepL.unalloc hK (by intro b hb; simp only [List.mem_cons, List.not_mem_nil, or_false] at hb; rcases hb with rfl | rfl <;> (first | omega | (simp; done) | (simp; omega)))
      intro hK
      try simp only [Act.put, List.setIfInBounds_toArray, List.set_cons_zero, List.set_cons_succ, List.tail_cons]
      with_reducible apply heldr_t (n := 1) 15
      · rfl
      · kernel_rfl
      · rfl
      apply Exists.intro
      refine ⟨?_, ?_, ?_⟩
      · go_simp
        rfl
      · repeat first
          | with_reducible exact hK
          | with_reducible refine KeepL.drewN ?_ _
          | with_reducible refine KeepL.drew ?_
          | with_reducible (refine KeepL.set ?_ _ _ (by intro b hb; simp only [List.mem_cons, List.not_mem_nil, or_false] at hb; rcases hb with rfl | rfl <;> (first | omega | (simp; done) | (simp; omega))))
          | with_reducible (refine KeepL.alloc ?_ _ (by intro b hb; simp only [List.mem_cons, List.not_mem_nil, or_false] at hb; rcases hb with rfl | rfl <;> (first | omega | (simp; done) | (simp; omega))))
          | exact fun _ _ _ => rfl
          | exact hK
          | exact KeepL.unalloc hK (by intro b hb; simp only [List.mem_cons, List.not_mem_nil, or_false] at hb; rcases hb with rfl | rfl <;> (first | omega | (simp; done) | (simp; omega)))
      intro hK
      try simp only [Act.put, List.setIfInBounds_toArray, List.set_cons_zero, List.set_cons_succ, List.tail_cons]
      with_reducible apply heldr_v (n := 0) 16
      · rfl
      · kernel_rfl
      · kernel_rfl
      · kernel_rfl
      · exact hQ
      · with_reducible exact hK
      · rfl
      apply Exists.intro
      refine ⟨fun w' hC => ?_, ?_⟩
      · have k0_ := hC (b0) (by simp only [List.mem_cons, true_or, or_true])
        have k1_ := hC (b1) (by simp only [List.mem_cons, true_or, or_true])
        clear hC
        go_simp
        rfl
      try simp only [Act.put, List.setIfInBounds_toArray, List.set_cons_zero, List.set_cons_succ, List.tail_cons]
      refine heldr_end (by kernel_rfl) ?_
      clear hK hQ
      refine then_name ?_
      intro W8 hW8
      obtain ⟨X, eX⟩ : ∃ X, X = RR s (mulm (pr s) 1 (le (fun j => f (o + j)) m)) := ⟨_, rfl⟩
      rw [← eX] at hW8 ⊢
      have EX := Lib.hid eX
      have hB8 : Below W.heap.size W W8 := by rw [hW8]; exact (by repeat first | with_reducible exact Below.refl _ _ | with_reducible refine Below.drew ?_ | with_reducible refine below_dN ?_ | with_reducible refine Below.alloc ?_ (by first | omega | (simp; done) | (simp; omega)) _ | with_reducible refine Below.setCell ?_ (by first | omega | (simp; done) | (simp; omega)) _ | with_reducible refine Below.trans ?_ (Below.mono (by assumption) (by first | omega | (simp; done) | (simp; omega))))
      have hbx : ∃ bx, bx = v10.heap.size ∨ bx = W.heap.size := ⟨_, .inl rfl⟩
      clear hbx
      first
        | (obtain ⟨bx, ebx⟩ : ∃ b, b = v10.heap.size := ⟨_, rfl⟩
           rw [← ebx]
           have x0 : W8.cell? ⟨bx, 0, none⟩ = some (.int .u64 ((dg 0 X : Nat) : Int)) := by rw [hW8, ebx]; go_simp
           have x1 : W8.cell? ⟨bx, 1, none⟩ = some (.int .u64 ((dg 1 X : Nat) : Int)) := by rw [hW8, ebx]; go_simp
           have x2 : W8.cell? ⟨bx, 2, none⟩ = some (.int .u64 ((dg 2 X : Nat) : Int)) := by rw [hW8, ebx]; go_simp
           have x3 : W8.cell? ⟨bx, 3, none⟩ = some (.int .u64 ((dg 3 X : Nat) : Int)) := by rw [hW8, ebx]; go_simp
           have lbx : W.heap.size ≤ bx := by omega
           clear ebx)
        | (obtain ⟨bx, ebx⟩ : ∃ b, b = W.heap.size := ⟨_, rfl⟩
           rw [← ebx]
           have x0 : W8.cell? ⟨bx, 0, none⟩ = some (.int .u64 ((dg 0 X : Nat) : Int)) := by rw [hW8, ebx]; go_simp
           have x1 : W8.cell? ⟨bx, 1, none⟩ = some (.int .u64 ((dg 1 X : Nat) : Int)) := by rw [hW8, ebx]; go_simp
           have x2 : W8.cell? ⟨bx, 2, none⟩ = some (.int .u64 ((dg 2 X : Nat) : Int)) := by rw [hW8, ebx]; go_simp
           have x3 : W8.cell? ⟨bx, 3, none⟩ = some (.int .u64 ((dg 3 X : Nat) : Int)) := by rw [hW8, ebx]; go_simp
           have lbx : W.heap.size ≤ bx := by omega
           clear ebx)
      obtain ⟨j0, j1, j2, j3, j4, ho, hB, j5⟩ := HJ.out
      obtain ⟨a4, c4, rfl⟩ := row_slice2 ho
      have y4 := (j4.below hB8 lw4).cell (j := 0) rfl
      have f4 := (j4.below hB8 lw4).fz 0
      have Ho8 := Lib.hid (row_below ho hB8)
      have HB8 := Lib.hid hB8
      have hs8 := hB8.size
      clear hW8 eX hB8 j0 j1 j2 j3 j4 ho hB j5 c1 c10 f10 h10 s10 hcut hwh hio
      gi_wp2_with (gi_at_builtin; refine wpListIn_append_own _ rfl (.tmp 40) (.tmp 42) 50 rfl b0 45 i0 _ 4 32 Tryd.underlying50 Hi.out Hz0.out Hz1.out Hz2.out rfl (by decide) (.slice a4 pre.length c4) pre.length _ rfl (Ho8.out.alloc _) ⟨W8.heap.size, 0, none⟩ 1 1 (vc X) rfl rfl (vec_src _ _ _) (vc_one X) (by unfold maxLen; omega) (by omega) (by simp only [World.size_alloc]; omega) ?_; intro v' w9 own9 grow9 _; obtain ⟨g9, c9, rfl⟩ := ownsRow_succ own9; obtain ⟨j0, j1, j2, j3, j4, ho, hB, j5⟩ := HJ.out; have hWr := ((Wrote.refl W b4 (Value.slice a4 pre.length c4).ownBlock).step (HB8.out.trans (Below.mono ((Below.refl _ W8).alloc (Nat.le_refl _) _) hs8))).grown grow9; have HWr := Lib.hid hWr; have Own9 := Lib.hid own9; have Hne := Lib.hid (row_ne ho j4 rfl); have b8 := (j4.below HB8.out lw4).alloc (.cells #[.int .u64 ((dg 0 X : Nat) : Int), .int .u64 ((dg 1 X : Nat) : Int), .int .u64 ((dg 2 X : Nat) : Int), .int .u64 ((dg 3 X : Nat) : Int)] 45); have b9 := b8.same (grow9.block b4 b8.lt (fun e => Hne.out e.symm)); have B9 := Lib.hid b9; have y9 := b9.cell (j := 0) rfl; have z9 := b9.fz 0; clear own9 grow9 hWr b8 b9 j0 j1 j2 j3 j4 ho hB j5 y4 f4)
      obtain ⟨j0, j1, j2, j3, j4, ho, hB, j5⟩ := HJ.out
      have hW2 := HWr.out.set 0 (.slice (some ⟨g9, 0, none⟩) (pre.length + 1) c9)
      have own := row_other (p := b4) (j := 0) (u := .slice (some ⟨g9, 0, none⟩) (pre.length + 1) c9) Own9.out (row_ne Own9.out B9.out rfl)
      refine ⟨hW2.keeps j4 (row_cells ho), hW2.block b5 lw5 (by omega) (fun e => row_ne ho j5 rfl e.symm), ⟨j0.same (hW2.block b0 lw0 (by omega) (fun e => row_ne ho j0 rfl e.symm)), j1.same (hW2.block b1 lw1 (by omega) (fun e => row_ne ho j1 rfl e.symm)),
        j2.same (hW2.block b2 j2.lt (by omega) (fun e => row_ne ho j2 rfl e.symm)), j3.same (hW2.block b3 j3.lt (by omega) (fun e => row_ne ho j3 rfl e.symm)), j5.same (hW2.block b5 lw5 (by omega) (fun e => row_ne ho j5 rfl e.symm)), _, B9.out.set, ?_⟩, ?_⟩
      · rw [List.length_append, List.map_append, List.map_cons, List.map_nil, vcs_snoc]
        have e : ck s n f x.val = X := by
          unfold ck
          rw [EX.out, HI.out.1, HI.out.2.2.1, HI.out.2.1]
        rw [e]
        exact own
      · exact hB.trans (hW2.below (by omega) (by omega) (fun k hk => (ho.lt k hk).1))
    · with_reducible apply heldwr_o
      apply Exists.intro
      apply Exists.intro
      refine ⟨?_, ?_, ?_⟩
      · go_simp
        exact ⟨rfl, rfl⟩
      · repeat first
          | with_reducible exact hK
          | with_reducible refine KeepL.drewN ?_ _
          | with_reducible refine KeepL.drew ?_
          | with_reducible (refine KeepL.set ?_ _ _ (by intro b hb; simp only [List.mem_cons, List.not_mem_nil, or_false] at hb; rcases hb with rfl | rfl <;> (first | omega | (simp; done) | (simp; omega))))
          | with_reducible (refine KeepL.alloc ?_ _ (by intro b hb; simp only [List.mem_cons, List.not_mem_nil, or_false] at hb; rcases hb with rfl | rfl <;> (first | omega | (simp; done) | (simp; omega))))
          | exact fun _ _ _ => rfl
          | exact hK
          | exact KeepL.unalloc hK (by intro b hb; simp only [List.mem_cons, List.not_mem_nil, or_false] at hb; rcases hb with rfl | rfl <;> (first | omega | (simp; done) | (simp; omega)))
      intro hK
      try simp only [Act.put, List.setIfInBounds_toArray, List.set_cons_zero, List.set_cons_succ, List.tail_cons]
      with_reducible apply heldr_call (n := 5) 10
      · rfl
      · kernel_rfl
      · rfl
      · with_reducible exact hK
      apply Exists.intro
      apply Exists.intro
      apply Exists.intro
      refine ⟨?_, ?_, ?_, ?_⟩
      · go_simp
        exact ⟨rfl, rfl⟩
      · exact pack_c s a' m m _ hm31 _ (HSa.out.below (by repeat first | with_reducible exact Below.refl _ _ | with_reducible refine Below.drew ?_ | with_reducible refine below_dN ?_ | with_reducible refine Below.alloc ?_ (by first | omega | (simp; done) | (simp; omega)) _ | with_reducible refine Below.setCell ?_ (by first | omega | (simp; done) | (simp; omega)) _ | with_reducible refine Below.trans ?_ (Below.mono (by assumption) (by first | omega | (simp; done) | (simp; omega)))))
      · intro b hb
        simp only [List.mem_cons, List.not_mem_nil, or_false] at hb
        rcases hb with rfl | rfl <;> first | omega | (simp; done) | (simp; omega)
      intro v10 h10 hK
      obtain ⟨c10, f10, s10⟩ := bfacts h10
      try simp only [World.size_alloc, World.size_setCell, size_drew, size_drewN] at s10
      try simp only [Act.put, List.setIfInBounds_toArray, List.set_cons_zero, List.set_cons_succ, List.tail_cons]
      with_reducible apply heldr_v (n := 4) 11
      · rfl
      · kernel_rfl
      · kernel_rfl
      · kernel_rfl
      · exact hQ
      · with_reducible exact hK
      · rfl
      apply Exists.intro
      refine ⟨fun w' hC => ?_, ?_⟩
      · have k0_ := hC (b0) (by simp only [List.mem_cons, true_or, or_true])
        have k1_ := hC (b1) (by simp only [List.mem_cons, true_or, or_true])
        clear hC
        go_simp
        rfl
      try simp only [Act.put, List.setIfInBounds_toArray, List.set_cons_zero, List.set_cons_succ, List.tail_cons]
      with_reducible apply heldr_v (n := 3) 12
      · rfl
      · kernel_rfl
      · kernel_rfl
      · kernel_rfl
      · exact hQ
      · with_reducible exact hK
      · rfl
      apply Exists.intro
      refine ⟨fun w' hC => ?_, ?_⟩
      · have k0_ := hC (b0) (by simp only [List.mem_cons, true_or, or_true])
        have k1_ := hC (b1) (by simp only [List.mem_cons, true_or, or_true])
        clear hC
        go_simp
        rfl
      try simp only [Act.put, List.setIfInBounds_toArray, List.set_cons_zero, List.set_cons_succ, List.tail_cons]
      with_reducible apply heldr_v (n := 2) 13
      · rfl
      · kernel_rfl
      · kernel_rfl
      · kernel_rfl
      · exact hQ
      · with_reducible exact hK
      · rfl
      apply Exists.intro
      refine ⟨fun w' hC => ?_, ?_⟩
      · have k0_ := hC (b0) (by simp only [List.mem_cons, true_or, or_true])
        have k1_ := hC (b1) (by simp only [List.mem_cons, true_or, or_true])
        clear hC
        go_simp
        rfl
      try simp only [Act.put, List.setIfInBounds_toArray, List.set_cons_zero, List.set_cons_succ, List.tail_cons]
      with_reducible apply heldr_t (n := 1) 15
      · rfl
      · kernel_rfl
      · rfl
      apply Exists.intro
      refine ⟨?_, ?_, ?_⟩
      · go_simp
        rfl
      · repeat first
          | with_reducible exact hK
          | with_reducible refine KeepL.drewN ?_ _
          | with_reducible refine KeepL.drew ?_
          | with_reducible (refine KeepL.set ?_ _ _ (by intro b hb; simp only [List.mem_cons, List.not_mem_nil, or_false] at hb; rcases hb with rfl | rfl <;> (first | omega | (simp; done) | (simp; omega))))
          | with_reducible (refine KeepL.alloc ?_ _ (by intro b hb; simp only [List.mem_cons, List.not_mem_nil, or_false] at hb; rcases hb with rfl | rfl <;> (first | omega | (simp; done) | (simp; omega))))
          | exact fun _ _ _ => rfl
          | exact hK
          | exact KeepL.unalloc hK (by intro b hb; simp only [List.mem_cons, List.not_mem_nil, or_false] at hb; rcases hb with rfl | rfl <;> (first | omega | (simp; done) | (simp; omega)))
      intro hK
      try simp only [Act.put, List.setIfInBounds_toArray, List.set_cons_zero, List.set_cons_succ, List.tail_cons]
      with_reducible apply heldr_v (n := 0) 16
      · rfl
      · kernel_rfl
      · kernel_rfl
      · kernel_rfl
      · exact hQ
      · with_reducible exact hK
      · rfl
      apply Exists.intro
      refine ⟨fun w' hC => ?_, ?_⟩
      · have k0_ := hC (b0) (by simp only [List.mem_cons, true_or, or_true])
        have k1_ := hC (b1) (by simp only [List.mem_cons, true_or, or_true])
        clear hC
        go_simp
        rfl
      try simp only [Act.put, List.setIfInBounds_toArray, List.set_cons_zero, List.set_cons_succ, List.tail_cons]
      refine heldr_end (by kernel_rfl) ?_
      clear hK hQ
      refine then_name ?_
      intro W8 hW8
      obtain ⟨X, eX⟩ : ∃ X, X = RR s (mulm (pr s) 1 (le (fun j => f (o + j)) m)) := ⟨_, rfl⟩
      rw [← eX] at hW8 ⊢
      have EX := Lib.hid eX
      have hB8 : Below W.heap.size W W8 := by rw [hW8]; exact (by repeat first | with_reducible exact Below.refl _ _ | with_reducible refine Below.drew ?_ | with_reducible refine below_dN ?_ | with_reducible refine Below.alloc ?_ (by first | omega | (simp; done) | (simp; omega)) _ | with_reducible refine Below.setCell ?_ (by first | omega | (simp; done) | (simp; omega)) _ | with_reducible refine Below.trans ?_ (Below.mono (by assumption) (by first | omega | (simp; done) | (simp; omega))))
      have hbx : ∃ bx, bx = v10.heap.size ∨ bx = W.heap.size := ⟨_, .inl rfl⟩
      clear hbx
      first
        | (obtain ⟨bx, ebx⟩ : ∃ b, b = v10.heap.size := ⟨_, rfl⟩
           rw [← ebx]
           have x0 : W8.cell? ⟨bx, 0, none⟩ = some (.int .u64 ((dg 0 X : Nat) : Int)) := by rw [hW8, ebx]; go_simp
           have x1 : W8.cell? ⟨bx, 1, none⟩ = some (.int .u64 ((dg 1 X : Nat) : Int)) := by rw [hW8, ebx]; go_simp
           have x2 : W8.cell? ⟨bx, 2, none⟩ = some (.int .u64 ((dg 2 X : Nat) : Int)) := by rw [hW8, ebx]; go_simp
           have x3 : W8.cell? ⟨bx, 3, none⟩ = some (.int .u64 ((dg 3 X : Nat) : Int)) := by rw [hW8, ebx]; go_simp
           have lbx : W.heap.size ≤ bx := by omega
           clear ebx)
        | (obtain ⟨bx, ebx⟩ : ∃ b, b = W.heap.size := ⟨_, rfl⟩
           rw [← ebx]
           have x0 : W8.cell? ⟨bx, 0, none⟩ = some (.int .u64 ((dg 0 X : Nat) : Int)) := by rw [hW8, ebx]; go_simp
           have x1 : W8.cell? ⟨bx, 1, none⟩ = some (.int .u64 ((dg 1 X : Nat) : Int)) := by rw [hW8, ebx]; go_simp
           have x2 : W8.cell? ⟨bx, 2, none⟩ = some (.int .u64 ((dg 2 X : Nat) : Int)) := by rw [hW8, ebx]; go_simp
           have x3 : W8.cell? ⟨bx, 3, none⟩ = some (.int .u64 ((dg 3 X : Nat) : Int)) := by rw [hW8, ebx]; go_simp
           have lbx : W.heap.size ≤ bx := by omega
           clear ebx)
      obtain ⟨j0, j1, j2, j3, j4, ho, hB, j5⟩ := HJ.out
      obtain ⟨a4, c4, rfl⟩ := row_slice2 ho
      have y4 := (j4.below hB8 lw4).cell (j := 0) rfl
      have f4 := (j4.below hB8 lw4).fz 0
      have Ho8 := Lib.hid (row_below ho hB8)
      have HB8 := Lib.hid hB8
      have hs8 := hB8.size
      clear hW8 eX hB8 j0 j1 j2 j3 j4 ho hB j5 c1 c10 f10 h10 s10 hcut hwh hio
      gi_wp2_with (gi_at_builtin; refine wpListIn_append_own _ rfl (.tmp 40) (.tmp 42) 50 rfl b0 45 i0 _ 4 32 Tryd.underlying50 Hi.out Hz0.out Hz1.out Hz2.out rfl (by decide) (.slice a4 pre.length c4) pre.length _ rfl (Ho8.out.alloc _) ⟨W8.heap.size, 0, none⟩ 1 1 (vc X) rfl rfl (vec_src _ _ _) (vc_one X) (by unfold maxLen; omega) (by omega) (by simp only [World.size_alloc]; omega) ?_; intro v' w9 own9 grow9 _; obtain ⟨g9, c9, rfl⟩ := ownsRow_succ own9; obtain ⟨j0, j1, j2, j3, j4, ho, hB, j5⟩ := HJ.out; have hWr := ((Wrote.refl W b4 (Value.slice a4 pre.length c4).ownBlock).step (HB8.out.trans (Below.mono ((Below.refl _ W8).alloc (Nat.le_refl _) _) hs8))).grown grow9; have HWr := Lib.hid hWr; have Own9 := Lib.hid own9; have Hne := Lib.hid (row_ne ho j4 rfl); have b8 := (j4.below HB8.out lw4).alloc (.cells #[.int .u64 ((dg 0 X : Nat) : Int), .int .u64 ((dg 1 X : Nat) : Int), .int .u64 ((dg 2 X : Nat) : Int), .int .u64 ((dg 3 X : Nat) : Int)] 45); have b9 := b8.same (grow9.block b4 b8.lt (fun e => Hne.out e.symm)); have B9 := Lib.hid b9; have y9 := b9.cell (j := 0) rfl; have z9 := b9.fz 0; clear own9 grow9 hWr b8 b9 j0 j1 j2 j3 j4 ho hB j5 y4 f4)
      obtain ⟨j0, j1, j2, j3, j4, ho, hB, j5⟩ := HJ.out
      have hW2 := HWr.out.set 0 (.slice (some ⟨g9, 0, none⟩) (pre.length + 1) c9)
      have own := row_other (p := b4) (j := 0) (u := .slice (some ⟨g9, 0, none⟩) (pre.length + 1) c9) Own9.out (row_ne Own9.out B9.out rfl)
      refine ⟨hW2.keeps j4 (row_cells ho), hW2.block b5 lw5 (by omega) (fun e => row_ne ho j5 rfl e.symm), ⟨j0.same (hW2.block b0 lw0 (by omega) (fun e => row_ne ho j0 rfl e.symm)), j1.same (hW2.block b1 lw1 (by omega) (fun e => row_ne ho j1 rfl e.symm)),
        j2.same (hW2.block b2 j2.lt (by omega) (fun e => row_ne ho j2 rfl e.symm)), j3.same (hW2.block b3 j3.lt (by omega) (fun e => row_ne ho j3 rfl e.symm)), j5.same (hW2.block b5 lw5 (by omega) (fun e => row_ne ho j5 rfl e.symm)), _, B9.out.set, ?_⟩, ?_⟩
      · rw [List.length_append, List.map_append, List.map_cons, List.map_nil, vcs_snoc]
        have e : ck s n f x.val = X := by
          unfold ck
          rw [EX.out, HI.out.1, HI.out.2.2.1, HI.out.2.1]
        rw [e]
        exact own
      · exact hB.trans (hW2.below (by omega) (by omega) (fun k hk => (ho.lt k hk).1))
  case done =>
    rintro D ys W hD rfl ⟨⟨j0, j1, j2, j3, j5, v, j4, ho⟩, hB⟩ hK
    obtain ⟨a4, c4, rfl⟩ := row_slice2 ho
    have y2 := j2.cell (j := 0) rfl
    have y3 := j3.cell (j := 0) rfl
    have y4 := j4.cell (j := 0) rfl
    have f2 := j2.fz 0
    have f3 := j3.fz 0
    have HJ := Lib.hid (And.intro j2 (And.intro j3 (And.intro ho hB)))
    clear j0 j1 j2 j3 j5 j4 ho hB
    have HK := Lib.hid hK
    clear hK
    gi_wp2
    obtain ⟨q2, q3, ho, hB⟩ := HJ.out
    have hK2 := (KeepsOthers.setCell _ ⟨b3, 0, none⟩ (.int .i64 0)).same D _ ((KeepsOthers.setCell W ⟨b2, 0, none⟩ (.slice a4 (upF (cn n) (cn n)).length c4)).same D _ HK.out rfl) rfl
    have hr : ∀ r, some D = some r → ∃ o : Obj, ((W.setCell ⟨b2, 0, none⟩ (.slice a4 (upF (cn n) (cn n)).length c4)).setCell ⟨b3, 0, none⟩ (.int .i64 0)).heap[r]? = some o ∧ o.isCells = false := fun r e => by cases e; exact ⟨_, hK2, rfl⟩
    refine ⟨by simp, .inl ⟨_, _, rfl, run_takeDeferred hK2, ?_⟩⟩
    have p2 := (q2.set (u := .slice a4 (upF (cn n) (cn n)).length c4)).other (p := b3) (j := 0) (u := .int .i64 0) (by omega)
    have p3 := (q3.other (p := b2) (j := 0) (u := .slice a4 (upF (cn n) (cn n)).length c4) (by omega)).set (u := .int .i64 0)
    have hg := grownBy_putObj' ((W.setCell ⟨b2, 0, none⟩ (.slice a4 (upF (cn n) (cn n)).length c4)).setCell ⟨b3, 0, none⟩ (.int .i64 0)) D (.deferred none)
    have z2 := (p2.kept hg hr).cell (j := 0) rfl
    have z3 := (p3.kept hg hr).cell (j := 0) rfl
    have o1 := row_kept (row_other (row_other ho (row_ne ho q2 rfl)) (p := b3) (j := 0) (u := .int .i64 0) (row_ne ho q3 rfl)) hg hr
    refine ⟨.tuple #[.slice a4 (upF (cn n) (cn n)).length c4, .int .i64 0], ?_, ⟨_, rfl, ?_⟩, ?_⟩
    · simp only [results, Tryd.results35]
      go_simp
    · have e : (upF (cn n) (cn n)).map (fun i => ck s n f i.val) = (List.range (cn n)).map (ck s n f) := upF_map (cn n) (ck s n f)
      rw [e, upF_len (Nat.le_refl _)] at o1
      rw [show w.heap.size = b0 by omega, upF_len (Nat.le_refl _)]
      exact o1
    · rw [show w.heap.size = b0 by omega]
      have h1 : Below b0 W ((W.setCell ⟨b2, 0, none⟩ (.slice a4 (upF (cn n) (cn n)).length c4)).setCell ⟨b3, 0, none⟩ (.int .i64 0)) := ((Below.refl b0 W).setCell (p := ⟨b2, 0, none⟩) (show b0 ≤ b2 by omega) _).setCell (p := ⟨b3, 0, none⟩) (show b0 ≤ b3 by omega) _
      exact hB.trans (h1.grown hg (by rw [World.size_setCell, World.size_setCell]; have := q3.lt; omega) (fun k e => by cases e; omega))
  case stop =>
    rintro D cc pre W _ _ h _
    exact h.elim

set_option maxRecDepth 100000 in
set_option maxHeartbeats 1000000 in
theorem split_big (s : Bool) (a : Option Addr) (n c : Nat) (hn : 65535 < n) (w : World) :
    Calls Tryd.prog 35 #[fieldV s, .slice a n c] w fun e w' => e = .returned (.tuple #[.slice none 0 0, .int .i64 6]) ∧ Below w.heap.size w w' := by
  have hd : decide (0 ≤ (n : Int) ∧ (n : Int) ≤ 65535) = false := by simp; omega
  have Hd := Lib.hid hd
  clear hd
  go_enter Tryd.func35, Tryd.ntmps35
  go_wp2_with fail
  refine Calls.mono (valid_c n _) ?_
  rintro _ _ ⟨rfl, rfl⟩
  rw [Hd.out]
  go_wp2_with fail
  exact bodyPost_ret (v := .tuple #[.slice none 0 0, .int .i64 6]) (by simp only [results, Tryd.results35]; go_simp) rfl ⟨rfl, (by repeat first | with_reducible exact Below.refl _ _ | with_reducible refine Below.drew ?_ | with_reducible refine below_dN ?_ | with_reducible refine Below.alloc ?_ (by first | omega | (simp; done) | (simp; omega)) _ | with_reducible refine Below.setCell ?_ (by first | omega | (simp; done) | (simp; omega)) _ | with_reducible refine Below.trans ?_ (Below.mono (by assumption) (by first | omega | (simp; done) | (simp; omega))))⟩

/-- The reference counts the same. -/
theorem refCount_c (n : Int) (hn : -9223372036854775808 ≤ n) (w : World) : Calls Tryd.prog 31 #[.int .i64 n] w fun e w' => e = .returned (.int .i64 (cn n : Int)) ∧ w = w' := by
  by_cases h1 : 65535 < n
  · have hc : cn n = 0 := by unfold cn; rw [if_neg (by omega)]
    go_enter Tryd.func31, Tryd.ntmps31
    go_wp2_with fail
    go_ret
    exact ⟨by rw [hc]; rfl, rfl⟩
  · skip
    go_enter Tryd.func31, Tryd.ntmps31
    go_wp2_with fail
    go_loop [0, 3] (fun x k => ∃ j : Nat, k = .int .i64 (j : Int) ∧ x = .int .i64 (n - 31 * (j : Int)) ∧ (j : Int) ≤ 2115 ∧ (0 < j → 0 < n - 31 * ((j : Int) - 1))) (fun x _ => (intOf x).toNat)
    case atStart => exact ⟨0, rfl, by simp, by omega, by omega⟩
    case round =>
      obtain ⟨j, rfl, rfl, hj, hp⟩ := hrel
      by_cases hlt : 0 < n - 31 * (j : Int)
      · go_wp2_with fail
        go_round
        case rel => exact ⟨j + 1, by go_num, by rw [show n - 31 * (j : Int) - 31 = n - 31 * ((j + 1 : Nat) : Int) by omega], by omega, fun _ => by omega⟩
        case measure => simp only [intOf]; omega
      · have hc : cn n = j := by unfold cn; by_cases h0 : 0 ≤ n
                                 · rw [if_pos ⟨h0, by omega⟩]; by_cases hz : j = 0
                                   · subst hz; omega
                                   · have := hp (by omega); omega
                                 · rw [if_neg (fun h => h0 h.1)]; by_cases hz : j = 0
                                   · omega
                                   · have := hp (by omega); omega
        go_wp2_with fail
        go_ret
        exact ⟨rfl, rfl⟩
end Go.Proofs.YtpggmebgndkpjaaDoor
