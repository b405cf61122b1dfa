/- The contract of chunks.Join. -/
import Derived.Test.YtpggmebgndkpjaaDoorChunkSplit
namespace Go.Proofs.YtpggmebgndkpjaaDoor
set_option linter.all false
open Go Go.RowKit Go.Shelf
attribute [local go_sem] Oper.semAt_some

/-- A slice of n vectors. -/
structure VecsAt (w : World) (a : Option Addr) (n : Nat) (X : Nat → Nat) : Prop where
  at_ : n = 0 ∨ ∃ b off, a = some ⟨b, off, none⟩ ∧ b < w.heap.size ∧ ∀ i, i < n → ∀ j, j < 4 → w.cell? ⟨b, off + i * 4 + j, none⟩ = some (.int .u64 ((dg j (X i) : Nat) : Int))
theorem VecsAt.below {w w' : World} {a : Option Addr} {n : Nat} {X : Nat → Nat} (h : VecsAt w a n X) (hb : Below w.heap.size w w') : VecsAt w' a n X :=
  ⟨h.at_.imp id fun ⟨b, off, e, hl, hc⟩ => ⟨b, off, e, Nat.lt_of_lt_of_le hl hb.size, fun i hi j hj => (hb.cell (p := ⟨b, off + i * 4 + j, none⟩) hl).trans (hc i hi j hj)⟩⟩
theorem load_elem {W : World} {b p x : Nat} (h : ∀ j, j < 4 → W.cell? ⟨b, p + j, none⟩ = some (.int .u64 ((dg j x : Nat) : Int))) : (Instr.loadAt 45 (.pointer (some ⟨b, p, none⟩))).run Tryd.prog W = .ok (vec x) W := by
  have := run_loadVar_at (P := Tryd.prog) W ⟨b, p, none⟩ 45 (vc x) _ (fun j v hj => by
    have e : (⟨b, p, none⟩ : Addr).add j = ⟨b, p + j, none⟩ := by unfold Addr.add; split <;> simp_all
    rw [e]
    have hj4 : j < 4 := (List.getElem?_eq_some_iff.1 hj).1
    rw [h j hj4, ← hj]
    have h4 : j = 0 ∨ j = 1 ∨ j = 2 ∨ j = 3 := by omega
    rcases h4 with rfl | rfl | rfl | rfl <;> rfl) Tryd.underlying45 rfl (by kernel_rfl)
  simp only [Instr.loadAt, Instr.sureAddr, Sem.run_bind, Sem.run_pure, Result.andThen_ok, this]
  rfl
theorem load_vec {W : World} {b p x : Nat} (h : ∀ j, j < 4 → W.cell? ⟨b, p + j, none⟩ = some (.int .u64 ((dg j x : Nat) : Int))) : (Instr.loadAt 44 (.pointer (some ⟨b, p, none⟩))).run Tryd.prog W = .ok (vec x) W := by
  have := run_loadVar_at (P := Tryd.prog) W ⟨b, p, none⟩ 44 (vc x) _ (fun j v hj => by
    have e : (⟨b, p, none⟩ : Addr).add j = ⟨b, p + j, none⟩ := by unfold Addr.add; split <;> simp_all
    rw [e]
    have hj4 : j < 4 := (List.getElem?_eq_some_iff.1 hj).1
    rw [h j hj4, ← hj]
    have h4 : j = 0 ∨ j = 1 ∨ j = 2 ∨ j = 3 := by omega
    rcases h4 with rfl | rfl | rfl | rfl <;> rfl) Tryd.underlying44 rfl (by kernel_rfl)
  simp only [Instr.loadAt, Instr.sureAddr, Sem.run_bind, Sem.run_pure, Result.andThen_ok, this]
  rfl

theorem unpack_ok (s : Bool) (v m : Nat) (hm : m ≤ 31) (hv : v < pr s) (hz : Zf v m) (w : World) :
    Calls Tryd.prog 61 #[fieldV s, vec (RR s v), .int .i64 (m : Int)] w fun e w' => (∃ r, e = .returned r ∧ ∃ g, r = .tuple #[.slice (some ⟨g, 0, none⟩) m m, .int .i64 0] ∧ w.heap.size ≤ g ∧ BytesAt w' g 0 m (byt v)) ∧ Below w.heap.size w w' := by
  refine (unpack_walk s (RR s v) v m hm w (Lib.hid (encode_c s v hv))).mono ?_
  rintro e w' ⟨⟨_, g, rfl, hg, hB⟩ | ⟨hn, _⟩, hb⟩
  · exact ⟨⟨_, rfl, g, rfl, hg, hB⟩, hb⟩
  · exact absurd hz hn
theorem unpack_bad (s : Bool) (v m : Nat) (hm : m ≤ 31) (hv : v < pr s) (hz : ¬ Zf v m) (w : World) :
    Calls Tryd.prog 61 #[fieldV s, vec (RR s v), .int .i64 (m : Int)] w fun e w' => e = .returned (.tuple #[.slice none 0 0, .int .i64 10]) ∧ Below w.heap.size w w' := by
  refine (unpack_walk s (RR s v) v m hm w (Lib.hid (encode_c s v hv))).mono ?_
  rintro e w' ⟨⟨h, _⟩ | ⟨_, rfl⟩, hb⟩
  · exact absurd h hz
  · exact ⟨rfl, hb⟩

/-- The chunks of pre are all well padded; their bytes. -/
def okC (N : Nat) (v : Nat → Nat) (l : List Nat) : Prop := ∀ i ∈ l, Zf (v i) (cz N i)
def byC (N : Nat) (v : Nat → Nat) (l : List Nat) : List Value := l.flatMap fun i => fl (byt (v i)) (cz N i)
theorem byC_snoc (N : Nat) (v : Nat → Nat) (l : List Nat) (i : Nat) : byC N v (l ++ [i]) = byC N v l ++ fl (byt (v i)) (cz N i) := by simp [byC]
theorem okC_snoc {N : Nat} {v : Nat → Nat} {l : List Nat} {i : Nat} : okC N v (l ++ [i]) ↔ okC N v l ∧ Zf (v i) (cz N i) := by
  unfold okC
  constructor
  · exact fun h => ⟨fun j hj => h j (List.mem_append_left _ hj), h i (by simp)⟩
  · rintro ⟨h1, h2⟩ j hj
    rw [List.mem_append, List.mem_singleton] at hj
    rcases hj with hj | rfl
    · exact h1 j hj
    · exact h2
/-- What holds between two rounds: all is well so far and the bytes have come, or something is wrong. -/
def JI (N : Nat) (v : Nat → Nat) (l : List Nat) (xs : List Value) (q : Int) : Prop := (okC N v l ∧ xs = byC N v l ∧ q = 0) ∨ (¬ okC N v l ∧ q = 10)
/-- What Join hands back. -/
def JO (base N : Nat) (v : Nat → Nat) (r : Value) (w : World) : Prop :=
  (okC N v (List.range (cn N)) ∧ ∃ out k, r = .tuple #[out, .int .i64 0] ∧ w.ownsRow base 5 1 out k (byC N v (List.range (cn N)))) ∨ (¬ okC N v (List.range (cn N)) ∧ r = .tuple #[.slice none 0 0, .int .i64 10])

set_option maxRecDepth 100000 in
set_option maxHeartbeats 4000000 in
theorem join_walk (s : Bool) (a : Option Addr) (N c : Nat) (v : Nat → Nat) (hN : N ≤ 65535) (w : World) (HX : Hid (VecsAt w a (cn N) (fun i => RR s (v i)))) (Hv : Hid (∀ i, i < cn N → v i < pr s)) :
    Calls Tryd.prog 34 #[fieldV s, .slice a (cn N) c, .int .i64 (N : Int)] w fun e w' => (∃ r, e = .returned r ∧ JO w.heap.size N v r w') ∧ Below w.heap.size w w' := by
  have hd : decide (0 ≤ (N : Int) ∧ (N : Int) ≤ 65535) = true := by simp; omega
  have Hd := Lib.hid hd
  clear hd
  have hcn : cn (N : Int) ≤ 2115 := by unfold cn; split <;> omega
  obtain ⟨i0, hi, hz0, hz1, hz2⟩ := info_parts infoByte
  have Hi := Lib.hid hi
  have Hz0 := Lib.hid hz0
  have Hz1 := Lib.hid hz1
  have Hz2 := Lib.hid hz2
  clear hi hz0 hz1 hz2
  refine (callsIn_wide (n := 6)).1 ?_
  refine callsIn_of_wp_marks Tryd.func34 rfl trivial ?_ rfl
  simp only [Tryd.ntmps34, List.size_toArray, List.length_cons, List.length_nil, Nat.reduceAdd, Nat.reduceSub, Array.replicate_succ, Array.replicate_zero, List.push_toArray, List.append_toArray, List.nil_append, List.cons_append]
  gi_wp2
  refine ⟨trivial, ?_⟩
  try (refine ⟨(fun h => by cases h), ?_⟩)
  refine CallsIn.mono (callsIn_wide.2 (valid_c _ _)) ?_
  rintro _ _ ⟨rfl, rfl⟩
  rw [Hd.out]
  gi_wp2
  refine wpIn_wide.2 (wp_np ?_)
  refine region_mix 5 [false, false, false, false, false] (fun w' => w' = World.drew _) (by kernel_rfl) (by kernel_rfl) (by intro _ _ d _ _ h; cases d <;> exact h) rfl ?_
  simp only [List.take_succ_cons, List.take_zero, List.drop_succ_cons, List.drop_zero]
  with_reducible refine mix_v ?_ ?_ ?_
  · rfl
  · rfl
  apply Exists.intro
  refine ⟨fun w' hC => ?_, ?_⟩
  · subst hC
    go_simp
    rfl
  try simp only [Act.put, List.setIfInBounds_toArray, List.set_cons_zero, List.set_cons_succ, List.tail_cons]
  with_reducible refine mix_v ?_ ?_ ?_
  · rfl
  · rfl
  apply Exists.intro
  refine ⟨fun w' hC => ?_, ?_⟩
  · subst hC
    go_simp
    rfl
  try simp only [Act.put, List.setIfInBounds_toArray, List.set_cons_zero, List.set_cons_succ, List.tail_cons]
  with_reducible refine mix_v ?_ ?_ ?_
  · rfl
  · rfl
  apply Exists.intro
  refine ⟨fun w' hC => ?_, ?_⟩
  · subst hC
    go_simp
    rfl
  try simp only [Act.put, List.setIfInBounds_toArray, List.set_cons_zero, List.set_cons_succ, List.tail_cons]
  with_reducible refine mix_c ?_ ?_ ?_
  · rfl
  · rfl
  apply Exists.intro
  apply Exists.intro
  apply Exists.intro
  refine ⟨fun w' hC => ?_, fun w' hC => ?_, ?_⟩
  · subst hC
    go_simp
    exact ⟨rfl, rfl⟩
  · subst hC
    exact same_of (count_c _ _)
  try simp only [Act.put, List.setIfInBounds_toArray, List.set_cons_zero, List.set_cons_succ, List.tail_cons]
  with_reducible refine mix_v ?_ ?_ ?_
  · rfl
  · rfl
  apply Exists.intro
  refine ⟨fun w' hC => ?_, ?_⟩
  · subst hC
    go_simp
    rfl
  try simp only [Act.put, List.setIfInBounds_toArray, List.set_cons_zero, List.set_cons_succ, List.tail_cons]
  refine mix_nil ?_
  rintro _ rfl
  go_wp2_with fail
  refine np_normal ?_
  gi_wp2
  refine ⟨trivial, ?_⟩
  try (refine ⟨(fun h => by cases h), ?_⟩)
  refine CallsIn.mono (callsIn_wide.2 (bounds_c _ _)) ?_
  rintro _ _ ⟨rfl, rfl⟩
  gi_wp2
  obtain ⟨b0, e0⟩ : ∃ b, b = w.heap.size := ⟨_, rfl⟩
  obtain ⟨b1, e1⟩ : ∃ b, b = b0 + 1 := ⟨_, rfl⟩
  obtain ⟨b2, e2⟩ : ∃ b, b = b1 + 1 := ⟨_, rfl⟩
  obtain ⟨b3, e3⟩ : ∃ b, b = b2 + 1 := ⟨_, rfl⟩
  obtain ⟨b4, e4⟩ : ∃ b, b = b3 + 1 := ⟨_, rfl⟩
  rw [← e0, ← e1, ← e2, ← e3, ← e4]
  refine wpi_name ?_
  intro W0 hW
  have hk0 : Blk W0 b0 (fieldA s) 47 ∧ Blk W0 b1 #[.slice a (cn (N : Int)) c] 50 ∧ Blk W0 b2 #[.slice none 0 0] 53 ∧ Blk W0 b3 #[.int .i64 0] 27 ∧ Blk W0 b4 #[.int .i64 (N : Int)] 3 ∧ W0.heap.size = b4 + 1 ∧ Below w.heap.size w W0 := by
    rw [hW]
    refine ⟨(((((Blk.new (by first | exact e0 | (simp only [World.size_alloc]; omega))).alloc _).alloc _).alloc _).alloc _), ((((Blk.new (by first | exact e0 | (simp only [World.size_alloc]; omega))).alloc _).alloc _).alloc _), (((Blk.new (by first | exact e0 | (simp only [World.size_alloc]; omega))).alloc _).alloc _), ((Blk.new (by first | exact e0 | (simp only [World.size_alloc]; omega))).alloc _), (Blk.new (by first | exact e0 | (simp only [World.size_alloc]; omega))), by simp only [World.size_drew, World.size_alloc]; omega, ?_⟩
    have := e0
    exact (by repeat first | with_reducible exact Below.refl _ _ | with_reducible refine Below.drew ?_ | with_reducible refine below_dN ?_ | with_reducible refine Below.alloc ?_ (by first | omega | (simp; done) | (simp; omega)) _ | with_reducible refine Below.setCell ?_ (by first | omega | (simp; done) | (simp; omega)) _ | with_reducible refine Below.trans ?_ (Below.mono (by assumption) (by first | omega | (simp; done) | (simp; omega))))
  obtain ⟨k0, k1, k2, k3, k4, hsz, hBW⟩ := hk0
  rw [← e0] at hBW
  have HW := Lib.hid (And.intro hsz (And.intro e0 (And.intro e1 (And.intro e2 (And.intro e3 e4)))))
  have lb01 : b0 < b1 := by omega
  have lb12 : b1 < b2 := by omega
  have lb23 : b2 < b3 := by omega
  have lb34 : b3 < b4 := by omega
  have lW : b4 < W0.heap.size := by omega
  have hw0 : w.heap.size ≤ b0 := by omega
  have hb0 : b0 ≤ w.heap.size := by omega
  clear hW hsz e0 e1 e2 e3 e4
  refine wpIn_rangeFunc_ownG rfl (by decide) (gf := 88) (lb := #[.pointer (some ⟨b4, 0, none⟩)]) rfl trivial (enters_of Tryd.func88 (by kernel_rfl) rfl)
    (bounds_stops 5 (by decide) N b4 hN W0 k4.lt (k4.cell rfl)) KB_t (KB_b (by omega)) (Below.refl _ _) (fun _ => rfl)
    (fun pre W => (Blk W b0 (fieldA s) 47 ∧ Blk W b1 #[.slice a (cn (N : Int)) c] 50 ∧ Blk W b4 #[.int .i64 (N : Int)] 3 ∧
      (∃ out k xs q, Blk W b2 #[out] 53 ∧ Blk W b3 #[.int .i64 q] 27 ∧ W.ownsRow b0 5 1 out k xs ∧ k ≤ 31 * pre.length ∧ JI N v (pre.map fun i => i.val) xs q)) ∧ Below b0 w W)
    (fun _ _ _ => False)
    (OwnFrom.and (fun pre A B row hs hg hr => ⟨hs.1.kept hg (fun r e => (hr r e).2), hs.2.1.kept hg (fun r e => (hr r e).2), hs.2.2.1.kept hg (fun r e => (hr r e).2), by
      obtain ⟨out, k, xs, q, h1, h2, h3, h4⟩ := hs.2.2.2
      exact ⟨out, k, xs, q, h1.kept hg (fun r e => (hr r e).2), h2.kept hg (fun r e => (hr r e).2), row_kept h3 hg (fun r e => (hr r e).2), h4⟩⟩) (ownFrom_below (by omega) (by omega)))
    (fun _ _ _ _ _ hs _ _ => hs)
    ⟨⟨k0, k1, k4, _, 0, [], 0, k2, k3, World.ownsRow_nil _ _ _ _, by omega, .inl ⟨(fun _ h => by cases h), rfl, rfl⟩⟩, hBW⟩
    (fun x => { tmps := #[fieldV s, .slice a (cn (N : Int)) c, .int .i64 (N : Int), .pointer (some ⟨b0, 0, none⟩), .pointer (some ⟨b1, 0, none⟩), undef, .slice none 0 0, .int .i64 0, .pointer (some ⟨b2, 0, none⟩), .pointer (some ⟨b3, 0, none⟩), .int .i64 ((x.val : Nat) : Int), .int .i64 ((cz N x.val : Nat) : Int), undef, undef, .bool false, .int .i64 (N : Int), .bool true, .bool false, .bool false, .slice a (cn (N : Int)) c, .int .i64 ((cn (N : Int) : Nat) : Int), .int .i64 (N : Int), .int .i64 ((cn (N : Int) : Nat) : Int), .bool false, .int .i64 (N : Int), .func (.func 88) #[] #[.pointer (some ⟨b4, 0, none⟩)], .int .i64 ((x.val : Nat) : Int), .int .i64 ((cz N x.val : Nat) : Int), undef, undef, undef, undef, undef, undef, undef, undef, undef, undef, undef, undef, undef, undef, undef, undef, undef, undef, undef, undef], defers := [] }) ?assign ?body ?done ?stop
  case assign =>
    intro l x W K hK
    gi_wp2
    exact hK
  case body =>
    rintro l pre x W ⟨⟨j0, j1, j4, out, k, xs, q, j2, j3, ho, hk, hJ⟩, hB⟩ hpre
    have hxn := x.isLt
    have hpre2 : pre.length < 2115 := by omega
    clear hpre
    obtain ⟨be, off, rfl, hbe, hcell⟩ := HX.out.at_.resolve_left (by omega)
    obtain ⟨m, em⟩ : ∃ m, m = cz N x.val := ⟨_, rfl⟩
    have hm31 : m ≤ 31 := by rw [em]; unfold cz; omega
    obtain ⟨i, ei⟩ : ∃ i, i = x.val := ⟨_, rfl⟩
    have hi2 : i < cn (N : Int) := by omega
    have hi3 : (i : Int) < ((cn (N : Int) : Nat) : Int) := by omega
    obtain ⟨y, ey⟩ : ∃ y, y = v i := ⟨_, rfl⟩
    have hy : y < pr s := by rw [ey]; exact Hv.out i hi2
    have hcx : ∀ j, j < 4 → W.cell? ⟨be, off + i * 4 + j, none⟩ = some (.int .u64 ((dg j (RR s y) : Nat) : Int)) := fun j hj => (hB.cell (p := ⟨be, off + i * 4 + j, none⟩) (by show be < b0; omega)).trans (by rw [ey]; exact hcell i hi2 j hj)
    have Hcx := Lib.hid hcx
    rw [← em, ← ei]
    have HI := Lib.hid (And.intro em (And.intro ei ey))
    have c1 := j1.cell (j := 0) rfl
    have lw0 := j0.lt
    have lw1 := j1.lt
    have lw2 := j2.lt
    have lw3 := j3.lt
    have lw4 := j4.lt
    have lwe : be < W.heap.size := by have := hB.size; omega
    have HJ := Lib.hid (And.intro j0 (And.intro j1 (And.intro j4 (And.intro j2 (And.intro j3 (And.intro ho (And.intro hk (And.intro hJ hB))))))))
    clear em ei ey hcx hcell j0 j1 j2 j3 j4 ho hk hJ hB hxn
    by_cases hz : Zf y m
    · have Hz := Lib.hid hz
      clear hz
      gi_wp2
      refine heldr_begin 12 [b0, b1, be] (by kernel_rfl) rfl (by intro _ _ d _ _ h; cases d <;> exact h) ?_
      intro hQ hK
      with_reducible apply heldr_v (n := 11) 0
      · rfl
      · kernel_rfl
      · kernel_rfl
      · kernel_rfl
      · exact hQ
      · with_reducible exact hK
      · rfl
      apply Exists.intro
      refine ⟨fun w' hC => ?_, ?_⟩
      · have k0_ := hC (b0) (by simp only [List.mem_cons, true_or, or_true])
        have k1_ := hC (b1) (by simp only [List.mem_cons, true_or, or_true])
        have k2_ := hC (be) (by simp only [List.mem_cons, true_or, or_true])
        clear hC
        have hl := load_field s (W := w') (b := b0) (fun j v hj => (k0_ j).trans (HJ.out.1.cell hj))
        exact exec_load rfl rfl hl
      try simp only [Act.put, List.setIfInBounds_toArray, List.set_cons_zero, List.set_cons_succ, List.tail_cons]
      with_reducible apply heldr_v (n := 10) 1
      · rfl
      · kernel_rfl
      · kernel_rfl
      · kernel_rfl
      · exact hQ
      · with_reducible exact hK
      · rfl
      apply Exists.intro
      refine ⟨fun w' hC => ?_, ?_⟩
      · have k0_ := hC (b0) (by simp only [List.mem_cons, true_or, or_true])
        have k1_ := hC (b1) (by simp only [List.mem_cons, true_or, or_true])
        have k2_ := hC (be) (by simp only [List.mem_cons, true_or, or_true])
        clear hC
        go_simp
        rfl
      try simp only [Act.put, List.setIfInBounds_toArray, List.set_cons_zero, List.set_cons_succ, List.tail_cons]
      with_reducible apply heldr_v (n := 9) 2
      · rfl
      · kernel_rfl
      · kernel_rfl
      · kernel_rfl
      · exact hQ
      · with_reducible exact hK
      · rfl
      apply Exists.intro
      refine ⟨fun w' hC => ?_, ?_⟩
      · have k0_ := hC (b0) (by simp only [List.mem_cons, true_or, or_true])
        have k1_ := hC (b1) (by simp only [List.mem_cons, true_or, or_true])
        have k2_ := hC (be) (by simp only [List.mem_cons, true_or, or_true])
        clear hC
        go_simp
        rfl
      try simp only [Act.put, List.setIfInBounds_toArray, List.set_cons_zero, List.set_cons_succ, List.tail_cons]
      with_reducible apply heldr_v (n := 8) 3
      · rfl
      · kernel_rfl
      · kernel_rfl
      · kernel_rfl
      · exact hQ
      · with_reducible exact hK
      · rfl
      apply Exists.intro
      refine ⟨fun w' hC => ?_, ?_⟩
      · have k0_ := hC (b0) (by simp only [List.mem_cons, true_or, or_true])
        have k1_ := hC (b1) (by simp only [List.mem_cons, true_or, or_true])
        have k2_ := hC (be) (by simp only [List.mem_cons, true_or, or_true])
        clear hC
        go_simp
        rfl
      try simp only [Act.put, List.setIfInBounds_toArray, List.set_cons_zero, List.set_cons_succ, List.tail_cons]
      with_reducible apply heldr_v (n := 7) 4
      · rfl
      · kernel_rfl
      · kernel_rfl
      · kernel_rfl
      · exact hQ
      · with_reducible exact hK
      · rfl
      apply Exists.intro
      refine ⟨fun w' hC => ?_, ?_⟩
      · have k0_ := hC (b0) (by simp only [List.mem_cons, true_or, or_true])
        have k1_ := hC (b1) (by simp only [List.mem_cons, true_or, or_true])
        have k2_ := hC (be) (by simp only [List.mem_cons, true_or, or_true])
        clear hC
        have hl := load_elem (W := w') (b := be) (p := off + i * 4) (x := RR s y) (fun j hj => (k2_ (off + i * 4 + j)).trans (Hcx.out j hj))
        exact exec_load rfl rfl hl
      try simp only [Act.put, List.setIfInBounds_toArray, List.set_cons_zero, List.set_cons_succ, List.tail_cons]
      with_reducible apply heldr_v (n := 6) 5
      · rfl
      · kernel_rfl
      · kernel_rfl
      · kernel_rfl
      · exact hQ
      · with_reducible exact hK
      · rfl
      apply Exists.intro
      refine ⟨fun w' hC => ?_, ?_⟩
      · have k0_ := hC (b0) (by simp only [List.mem_cons, true_or, or_true])
        have k1_ := hC (b1) (by simp only [List.mem_cons, true_or, or_true])
        have k2_ := hC (be) (by simp only [List.mem_cons, true_or, or_true])
        clear hC
        go_simp
        rfl
      try simp only [Act.put, List.setIfInBounds_toArray, List.set_cons_zero, List.set_cons_succ, List.tail_cons]
      with_reducible apply heldr_callx (n := 5) 6
      · rfl
      · kernel_rfl
      · rfl
      · with_reducible exact hK
      apply Exists.intro
      apply Exists.intro
      apply Exists.intro
      refine ⟨?_, ?_, ?_, ?_⟩
      · go_simp
        exact ⟨rfl, rfl⟩
      · exact unpack_ok s y m hm31 hy Hz.out _
      · intro b hb
        simp only [List.mem_cons, List.not_mem_nil, or_false] at hb
        rcases hb with rfl | rfl | rfl <;> first | omega | (simp; done) | (simp; omega)
      rintro r6 v6 ⟨g6, rfl, hg6, hB6⟩ h6 hK
      obtain ⟨c6, f6, s6⟩ := bfacts h6
      try simp only [World.size_alloc, World.size_setCell, size_drew, size_drewN] at s6
      try simp only [Act.put, List.setIfInBounds_toArray, List.set_cons_zero, List.set_cons_succ, List.tail_cons]
      with_reducible apply heldr_v (n := 4) 7
      · rfl
      · kernel_rfl
      · kernel_rfl
      · kernel_rfl
      · exact hQ
      · with_reducible exact hK
      · rfl
      apply Exists.intro
      refine ⟨fun w' hC => ?_, ?_⟩
      · have k0_ := hC (b0) (by simp only [List.mem_cons, true_or, or_true])
        have k1_ := hC (b1) (by simp only [List.mem_cons, true_or, or_true])
        have k2_ := hC (be) (by simp only [List.mem_cons, true_or, or_true])
        clear hC
        go_simp
        rfl
      try simp only [Act.put, List.setIfInBounds_toArray, List.set_cons_zero, List.set_cons_succ, List.tail_cons]
      with_reducible apply heldr_v (n := 3) 8
      · rfl
      · kernel_rfl
      · kernel_rfl
      · kernel_rfl
      · exact hQ
      · with_reducible exact hK
      · rfl
      apply Exists.intro
      refine ⟨fun w' hC => ?_, ?_⟩
      · have k0_ := hC (b0) (by simp only [List.mem_cons, true_or, or_true])
        have k1_ := hC (b1) (by simp only [List.mem_cons, true_or, or_true])
        have k2_ := hC (be) (by simp only [List.mem_cons, true_or, or_true])
        clear hC
        go_simp
        rfl
      try simp only [Act.put, List.setIfInBounds_toArray, List.set_cons_zero, List.set_cons_succ, List.tail_cons]
      with_reducible apply heldr_v (n := 2) 9
      · rfl
      · kernel_rfl
      · kernel_rfl
      · kernel_rfl
      · exact hQ
      · with_reducible exact hK
      · rfl
      apply Exists.intro
      refine ⟨fun w' hC => ?_, ?_⟩
      · have k0_ := hC (b0) (by simp only [List.mem_cons, true_or, or_true])
        have k1_ := hC (b1) (by simp only [List.mem_cons, true_or, or_true])
        have k2_ := hC (be) (by simp only [List.mem_cons, true_or, or_true])
        clear hC
        go_simp
        rfl
      try simp only [Act.put, List.setIfInBounds_toArray, List.set_cons_zero, List.set_cons_succ, List.tail_cons]
      with_reducible apply heldr_v (n := 1) 10
      · rfl
      · kernel_rfl
      · kernel_rfl
      · kernel_rfl
      · exact hQ
      · with_reducible exact hK
      · rfl
      apply Exists.intro
      refine ⟨fun w' hC => ?_, ?_⟩
      · have k0_ := hC (b0) (by simp only [List.mem_cons, true_or, or_true])
        have k1_ := hC (b1) (by simp only [List.mem_cons, true_or, or_true])
        have k2_ := hC (be) (by simp only [List.mem_cons, true_or, or_true])
        clear hC
        go_simp
        rfl
      try simp only [Act.put, List.setIfInBounds_toArray, List.set_cons_zero, List.set_cons_succ, List.tail_cons]
      with_reducible apply heldr_v (n := 0) 11
      · rfl
      · kernel_rfl
      · kernel_rfl
      · kernel_rfl
      · exact hQ
      · with_reducible exact hK
      · rfl
      apply Exists.intro
      refine ⟨fun w' hC => ?_, ?_⟩
      · have k0_ := hC (b0) (by simp only [List.mem_cons, true_or, or_true])
        have k1_ := hC (b1) (by simp only [List.mem_cons, true_or, or_true])
        have k2_ := hC (be) (by simp only [List.mem_cons, true_or, or_true])
        clear hC
        go_simp
        rfl
      try simp only [Act.put, List.setIfInBounds_toArray, List.set_cons_zero, List.set_cons_succ, List.tail_cons]
      refine heldr_end (by kernel_rfl) ?_
      clear hK hQ
      have hB8 : Below W.heap.size W v6 := (by repeat first | with_reducible exact Below.refl _ _ | with_reducible refine Below.drew ?_ | with_reducible refine below_dN ?_ | with_reducible refine Below.alloc ?_ (by first | omega | (simp; done) | (simp; omega)) _ | with_reducible refine Below.setCell ?_ (by first | omega | (simp; done) | (simp; omega)) _ | with_reducible refine Below.trans ?_ (Below.mono (by assumption) (by first | omega | (simp; done) | (simp; omega))))
      obtain ⟨j0, j1, j4, j2, j3, ho, hk, hJ, hB⟩ := HJ.out
      obtain ⟨ao, co, rfl⟩ := row_slice2 ho
      have y2 := (j2.below hB8 lw2).cell (j := 0) rfl
      have Ho8 := Lib.hid (row_below ho hB8)
      have HB8 := Lib.hid hB8
      have HB6 := Lib.hid hB6
      have hk2 : k ≤ 65565 := by omega
      have hs8 := hB8.size
      clear hB8 hB6 j0 j1 j2 j3 j4 ho hB hJ c1 c6 f6 h6
      gi_wp2_with (gi_at_builtin; refine wpListIn_append_own _ rfl (.tmp 41) (.tmp 42) 53 rfl b0 5 i0 _ 1 1 Tryd.underlying53 Hi.out Hz0.out Hz1.out Hz2.out rfl (by decide) (.slice ao k co) k xs rfl Ho8.out ⟨g6, 0, none⟩ m m (fl (byt y) m) rfl (by rw [fl_length, Nat.mul_one]) (bytes_src HB6.out) (fl_one1 _ _) (by unfold maxLen; omega) (by omega) (by omega) ?_; intro v' w9 own9 grow9 _; obtain ⟨a9, c9, rfl⟩ := row_slice2 own9; obtain ⟨j0, j1, j4, j2, j3, ho, hk', hJ, hB⟩ := HJ.out; have HWr := Lib.hid (((Wrote.refl W b2 (Value.slice ao k co).ownBlock).step HB8.out).grown grow9); have Own9 := Lib.hid own9; have Hne := Lib.hid (row_ne ho j2 rfl); have b8 := j2.below HB8.out lw2; have b9 := b8.same (grow9.block b2 b8.lt (fun e => Hne.out e.symm)); have B9 := Lib.hid b9; have y9 := b9.cell (j := 0) rfl; have z9 := b9.fz 0; clear own9 grow9 b8 b9 j0 j1 j2 j3 j4 ho hk' hJ hB y2)
      obtain ⟨j0, j1, j4, j2, j3, ho, hk', hJ, hB⟩ := HJ.out
      have hW2 := HWr.out.set 0 (.slice a9 (k + m) c9)
      have own := row_other (p := b2) (j := 0) (u := .slice a9 (k + m) c9) Own9.out (row_ne Own9.out B9.out rfl)
      refine ⟨hW2.keeps j2 (row_cells ho), hW2.block b4 lw4 (by omega) (fun e => row_ne ho j4 rfl e.symm), ⟨j0.same (hW2.block b0 lw0 (by omega) (fun e => row_ne ho j0 rfl e.symm)), j1.same (hW2.block b1 lw1 (by omega) (fun e => row_ne ho j1 rfl e.symm)),
        j4.same (hW2.block b4 lw4 (by omega) (fun e => row_ne ho j4 rfl e.symm)), _, k + m, _, q, B9.out.set, j3.same (hW2.block b3 lw3 (by omega) (fun e => row_ne ho j3 rfl e.symm)), own, by rw [List.length_append]; simp only [List.length_cons, List.length_nil]; omega, ?_⟩, ?_⟩
      · rw [List.map_append, List.map_cons, List.map_nil]
        have hz : Zf (v x.val) (cz N x.val) := by rw [← HI.out.1, ← HI.out.2.1, ← HI.out.2.2]; exact Hz.out
        rcases hJ with ⟨h1, h2, h3⟩ | ⟨h1, h2⟩
        · refine .inl ⟨okC_snoc.2 ⟨h1, hz⟩, ?_, h3⟩
          rw [byC_snoc, ← h2, ← HI.out.1, ← HI.out.2.1, ← HI.out.2.2]
        · exact .inr ⟨fun h => h1 (okC_snoc.1 h).1, h2⟩
      · exact hB.trans (hW2.below (by omega) (by omega) (fun k hk => (ho.lt k hk).1))
    · have Hz := Lib.hid hz
      clear hz
      gi_wp2
      refine heldr_begin 12 [b0, b1, be] (by kernel_rfl) rfl (by intro _ _ d _ _ h; cases d <;> exact h) ?_
      intro hQ hK
      with_reducible apply heldr_v (n := 11) 0
      · rfl
      · kernel_rfl
      · kernel_rfl
      · kernel_rfl
      · exact hQ
      · with_reducible exact hK
      · rfl
      apply Exists.intro
      refine ⟨fun w' hC => ?_, ?_⟩
      · have k0_ := hC (b0) (by simp only [List.mem_cons, true_or, or_true])
        have k1_ := hC (b1) (by simp only [List.mem_cons, true_or, or_true])
        have k2_ := hC (be) (by simp only [List.mem_cons, true_or, or_true])
        clear hC
        have hl := load_field s (W := w') (b := b0) (fun j v hj => (k0_ j).trans (HJ.out.1.cell hj))
        exact exec_load rfl rfl hl
      try simp only [Act.put, List.setIfInBounds_toArray, List.set_cons_zero, List.set_cons_succ, List.tail_cons]
      with_reducible apply heldr_v (n := 10) 1
      · rfl
      · kernel_rfl
      · kernel_rfl
      · kernel_rfl
      · exact hQ
      · with_reducible exact hK
      · rfl
      apply Exists.intro
      refine ⟨fun w' hC => ?_, ?_⟩
      · have k0_ := hC (b0) (by simp only [List.mem_cons, true_or, or_true])
        have k1_ := hC (b1) (by simp only [List.mem_cons, true_or, or_true])
        have k2_ := hC (be) (by simp only [List.mem_cons, true_or, or_true])
        clear hC
        go_simp
        rfl
      try simp only [Act.put, List.setIfInBounds_toArray, List.set_cons_zero, List.set_cons_succ, List.tail_cons]
      with_reducible apply heldr_v (n := 9) 2
      · rfl
      · kernel_rfl
      · kernel_rfl
      · kernel_rfl
      · exact hQ
      · with_reducible exact hK
      · rfl
      apply Exists.intro
      refine ⟨fun w' hC => ?_, ?_⟩
      · have k0_ := hC (b0) (by simp only [List.mem_cons, true_or, or_true])
        have k1_ := hC (b1) (by simp only [List.mem_cons, true_or, or_true])
        have k2_ := hC (be) (by simp only [List.mem_cons, true_or, or_true])
        clear hC
        go_simp
        rfl
      try simp only [Act.put, List.setIfInBounds_toArray, List.set_cons_zero, List.set_cons_succ, List.tail_cons]
      with_reducible apply heldr_v (n := 8) 3
      · rfl
      · kernel_rfl
      · kernel_rfl
      · kernel_rfl
      · exact hQ
      · with_reducible exact hK
      · rfl
      apply Exists.intro
      refine ⟨fun w' hC => ?_, ?_⟩
      · have k0_ := hC (b0) (by simp only [List.mem_cons, true_or, or_true])
        have k1_ := hC (b1) (by simp only [List.mem_cons, true_or, or_true])
        have k2_ := hC (be) (by simp only [List.mem_cons, true_or, or_true])
        clear hC
        go_simp
        rfl
      try simp only [Act.put, List.setIfInBounds_toArray, List.set_cons_zero, List.set_cons_succ, List.tail_cons]
      with_reducible apply heldr_v (n := 7) 4
      · rfl
      · kernel_rfl
      · kernel_rfl
      · kernel_rfl
      · exact hQ
      · with_reducible exact hK
      · rfl
      apply Exists.intro
      refine ⟨fun w' hC => ?_, ?_⟩
      · have k0_ := hC (b0) (by simp only [List.mem_cons, true_or, or_true])
        have k1_ := hC (b1) (by simp only [List.mem_cons, true_or, or_true])
        have k2_ := hC (be) (by simp only [List.mem_cons, true_or, or_true])
        clear hC
        have hl := load_elem (W := w') (b := be) (p := off + i * 4) (x := RR s y) (fun j hj => (k2_ (off + i * 4 + j)).trans (Hcx.out j hj))
        exact exec_load rfl rfl hl
      try simp only [Act.put, List.setIfInBounds_toArray, List.set_cons_zero, List.set_cons_succ, List.tail_cons]
      with_reducible apply heldr_v (n := 6) 5
      · rfl
      · kernel_rfl
      · kernel_rfl
      · kernel_rfl
      · exact hQ
      · with_reducible exact hK
      · rfl
      apply Exists.intro
      refine ⟨fun w' hC => ?_, ?_⟩
      · have k0_ := hC (b0) (by simp only [List.mem_cons, true_or, or_true])
        have k1_ := hC (b1) (by simp only [List.mem_cons, true_or, or_true])
        have k2_ := hC (be) (by simp only [List.mem_cons, true_or, or_true])
        clear hC
        go_simp
        rfl
      try simp only [Act.put, List.setIfInBounds_toArray, List.set_cons_zero, List.set_cons_succ, List.tail_cons]
      with_reducible apply heldr_call (n := 5) 6
      · rfl
      · kernel_rfl
      · rfl
      · with_reducible exact hK
      apply Exists.intro
      apply Exists.intro
      apply Exists.intro
      refine ⟨?_, ?_, ?_, ?_⟩
      · go_simp
        exact ⟨rfl, rfl⟩
      · exact unpack_bad s y m hm31 hy Hz.out _
      · intro b hb
        simp only [List.mem_cons, List.not_mem_nil, or_false] at hb
        rcases hb with rfl | rfl | rfl <;> first | omega | (simp; done) | (simp; omega)
      intro v6 h6 hK
      obtain ⟨c6, f6, s6⟩ := bfacts h6
      try simp only [World.size_alloc, World.size_setCell, size_drew, size_drewN] at s6
      try simp only [Act.put, List.setIfInBounds_toArray, List.set_cons_zero, List.set_cons_succ, List.tail_cons]
      with_reducible apply heldr_v (n := 4) 7
      · rfl
      · kernel_rfl
      · kernel_rfl
      · kernel_rfl
      · exact hQ
      · with_reducible exact hK
      · rfl
      apply Exists.intro
      refine ⟨fun w' hC => ?_, ?_⟩
      · have k0_ := hC (b0) (by simp only [List.mem_cons, true_or, or_true])
        have k1_ := hC (b1) (by simp only [List.mem_cons, true_or, or_true])
        have k2_ := hC (be) (by simp only [List.mem_cons, true_or, or_true])
        clear hC
        go_simp
        rfl
      try simp only [Act.put, List.setIfInBounds_toArray, List.set_cons_zero, List.set_cons_succ, List.tail_cons]
      with_reducible apply heldr_v (n := 3) 8
      · rfl
      · kernel_rfl
      · kernel_rfl
      · kernel_rfl
      · exact hQ
      · with_reducible exact hK
      · rfl
      apply Exists.intro
      refine ⟨fun w' hC => ?_, ?_⟩
      · have k0_ := hC (b0) (by simp only [List.mem_cons, true_or, or_true])
        have k1_ := hC (b1) (by simp only [List.mem_cons, true_or, or_true])
        have k2_ := hC (be) (by simp only [List.mem_cons, true_or, or_true])
        clear hC
        go_simp
        rfl
      try simp only [Act.put, List.setIfInBounds_toArray, List.set_cons_zero, List.set_cons_succ, List.tail_cons]
      with_reducible apply heldr_v (n := 2) 9
      · rfl
      · kernel_rfl
      · kernel_rfl
      · kernel_rfl
      · exact hQ
      · with_reducible exact hK
      · rfl
      apply Exists.intro
      refine ⟨fun w' hC => ?_, ?_⟩
      · have k0_ := hC (b0) (by simp only [List.mem_cons, true_or, or_true])
        have k1_ := hC (b1) (by simp only [List.mem_cons, true_or, or_true])
        have k2_ := hC (be) (by simp only [List.mem_cons, true_or, or_true])
        clear hC
        go_simp
        rfl
      try simp only [Act.put, List.setIfInBounds_toArray, List.set_cons_zero, List.set_cons_succ, List.tail_cons]
      with_reducible apply heldr_v (n := 1) 10
      · rfl
      · kernel_rfl
      · kernel_rfl
      · kernel_rfl
      · exact hQ
      · with_reducible exact hK
      · rfl
      apply Exists.intro
      refine ⟨fun w' hC => ?_, ?_⟩
      · have k0_ := hC (b0) (by simp only [List.mem_cons, true_or, or_true])
        have k1_ := hC (b1) (by simp only [List.mem_cons, true_or, or_true])
        have k2_ := hC (be) (by simp only [List.mem_cons, true_or, or_true])
        clear hC
        go_simp
        rfl
      try simp only [Act.put, List.setIfInBounds_toArray, List.set_cons_zero, List.set_cons_succ, List.tail_cons]
      with_reducible apply heldr_v (n := 0) 11
      · rfl
      · kernel_rfl
      · kernel_rfl
      · kernel_rfl
      · exact hQ
      · with_reducible exact hK
      · rfl
      apply Exists.intro
      refine ⟨fun w' hC => ?_, ?_⟩
      · have k0_ := hC (b0) (by simp only [List.mem_cons, true_or, or_true])
        have k1_ := hC (b1) (by simp only [List.mem_cons, true_or, or_true])
        have k2_ := hC (be) (by simp only [List.mem_cons, true_or, or_true])
        clear hC
        go_simp
        rfl
      try simp only [Act.put, List.setIfInBounds_toArray, List.set_cons_zero, List.set_cons_succ, List.tail_cons]
      refine heldr_end (by kernel_rfl) ?_
      clear hK hQ
      have hB8 : Below W.heap.size W v6 := (by repeat first | with_reducible exact Below.refl _ _ | with_reducible refine Below.drew ?_ | with_reducible refine below_dN ?_ | with_reducible refine Below.alloc ?_ (by first | omega | (simp; done) | (simp; omega)) _ | with_reducible refine Below.setCell ?_ (by first | omega | (simp; done) | (simp; omega)) _ | with_reducible refine Below.trans ?_ (Below.mono (by assumption) (by first | omega | (simp; done) | (simp; omega))))
      obtain ⟨j0, j1, j4, j2, j3, ho, hk, hJ, hB⟩ := HJ.out
      obtain ⟨ao, co, rfl⟩ := row_slice2 ho
      have y2 := (j2.below hB8 lw2).cell (j := 0) rfl
      have z2 := (j2.below hB8 lw2).fz 0
      have y3 := (j3.below hB8 lw3).cell (j := 0) rfl
      have z3 := (j3.below hB8 lw3).fz 0
      have Ho8 := Lib.hid (row_other (p := b3) (j := 0) (u := .int .i64 10) (row_below ho hB8) (row_ne ho j3 rfl))
      have HB8 := Lib.hid hB8
      have hs8 := hB8.size
      clear hB8 j0 j1 j2 j3 j4 ho hk hB hJ c1 c6 f6 h6
      gi_wp2_with (gi_at_builtin; refine wpListIn_append_none _ rfl (.tmp 41) (.tmp 42) 53 rfl b0 5 i0 1 Tryd.underlying53 Hi.out (.slice ao k co) k xs rfl Ho8.out rfl ?_)
      obtain ⟨j0, j1, j4, j2, j3, ho, hk, hJ, hB⟩ := HJ.out
      have hW2 := (((Wrote.refl W b2 (some b3)).step HB8.out).setr 0 (.int .i64 10)).set 0 (.slice ao k co)
      have p2 := (j2.below HB8.out lw2).other (p := b3) (j := 0) (u := .int .i64 10) (by omega)
      have p3 := ((j3.below HB8.out lw3).set (u := .int .i64 10)).other (p := b2) (j := 0) (u := .slice ao k co) (by omega)
      have own := row_other (p := b2) (j := 0) (u := .slice ao k co) Ho8.out (row_ne Ho8.out p2 rfl)
      refine ⟨hW2.keeps j2 (fun k e => by cases e; exact ⟨_, j3, rfl⟩), hW2.block b4 lw4 (by omega) (fun e => by cases e; omega), ⟨j0.same (hW2.block b0 lw0 (by omega) (fun e => by cases e; omega)), j1.same (hW2.block b1 lw1 (by omega) (fun e => by cases e; omega)),
        j4.same (hW2.block b4 lw4 (by omega) (fun e => by cases e; omega)), _, k, xs, 10, p2.set, p3, own, by rw [List.length_append]; simp only [List.length_cons, List.length_nil]; omega, ?_⟩, ?_⟩
      · rw [List.map_append, List.map_cons, List.map_nil]
        refine .inr ⟨fun h => Hz.out ?_, rfl⟩
        have := (okC_snoc.1 h).2
        rwa [← HI.out.1, ← HI.out.2.1, ← HI.out.2.2] at this
      · exact hB.trans (hW2.below (by omega) (by omega) (fun k e => by cases e; omega))
  case done =>
    rintro D ys W hD rfl ⟨⟨j0, j1, j4, out, k, xs, q, j2, j3, ho, hk, hJ⟩, hB⟩ hK
    obtain ⟨ao, co, rfl⟩ := row_slice2 ho
    have y2 := j2.cell (j := 0) rfl
    have y3 := j3.cell (j := 0) rfl
    have lW4 := j4.lt
    have HJ := Lib.hid (And.intro ho (And.intro hB hJ))
    have HK := Lib.hid hK
    clear j0 j1 j2 j3 j4 ho hB hK hk
    rcases hJ with ⟨h1, h2, rfl⟩ | ⟨h1, rfl⟩
    · have H1 := Lib.hid (And.intro h1 h2)
      clear h1 h2
      gi_wp2
      obtain ⟨ho, hB, _⟩ := HJ.out
      refine ⟨by simp, .inl ⟨_, _, rfl, run_takeDeferred HK.out, ?_⟩⟩
      have hr : ∀ r, some D = some r → ∃ o : Obj, W.heap[r]? = some o ∧ o.isCells = false := fun r e => by cases e; exact ⟨_, HK.out, rfl⟩
      have hg := grownBy_putObj' W D (.deferred none)
      have o1 := row_kept ho hg hr
      have em : (upF (cn (N : Int)) (cn (N : Int))).map (fun i => i.val) = List.range (cn (N : Int)) := (upF_map (cn (N : Int)) fun i => i).trans (List.map_id' _)
      refine ⟨.tuple #[.slice ao k co, .int .i64 0], ?_, ⟨_, rfl, .inl ⟨?_, _, k, rfl, ?_⟩⟩, ?_⟩
      · simp only [results, Tryd.results34]
        go_simp
      · have := H1.out.1
        rw [em] at this
        exact this
      · have h2 := H1.out.2
        rw [em] at h2
        rw [← h2, show w.heap.size = b0 by omega]
        exact o1
      · rw [show w.heap.size = b0 by omega]
        exact hB.grown hg (by show b0 ≤ W.heap.size; omega) (fun k e => by cases e; omega)
    · have H1 := Lib.hid h1
      clear h1
      gi_wp2
      refine wpIn_wide.2 (wp_np ?_)
      refine region_mix 2 [false, false] (fun w' => w' = World.drew _) (by kernel_rfl) (by kernel_rfl) (by intro _ _ d _ _ h; cases d <;> exact h) rfl ?_
      simp only [List.take_succ_cons, List.take_zero, List.drop_succ_cons, List.drop_zero]
      with_reducible refine mix_v ?_ ?_ ?_
      · rfl
      · rfl
      apply Exists.intro
      refine ⟨fun w' hC => ?_, ?_⟩
      · subst hC
        go_simp
        rfl
      try simp only [Act.put, List.setIfInBounds_toArray, List.set_cons_zero, List.set_cons_succ, List.tail_cons]
      with_reducible refine mix_v ?_ ?_ ?_
      · rfl
      · rfl
      apply Exists.intro
      refine ⟨fun w' hC => ?_, ?_⟩
      · subst hC
        go_simp
        rfl
      try simp only [Act.put, List.setIfInBounds_toArray, List.set_cons_zero, List.set_cons_succ, List.tail_cons]
      refine mix_nil ?_
      rintro _ rfl
      go_wp2_with fail
      refine np_normal ?_
      gi_wp2
      obtain ⟨ho, hB, _⟩ := HJ.out
      refine ⟨by simp, .inl ⟨_, _, rfl, run_takeDeferred HK.out, ?_⟩⟩
      have hr : ∀ r, some D = some r → ∃ o : Obj, W.heap[r]? = some o ∧ o.isCells = false := fun r e => by cases e; exact ⟨_, HK.out, rfl⟩
      have hg := grownBy_putObj' W.drew D (.deferred none)
      have em : (upF (cn (N : Int)) (cn (N : Int))).map (fun i => i.val) = List.range (cn (N : Int)) := (upF_map (cn (N : Int)) fun i => i).trans (List.map_id' _)
      refine ⟨.tuple #[.slice none 0 0, .int .i64 10], ?_, ⟨_, rfl, .inr ⟨?_, rfl⟩⟩, ?_⟩
      · simp only [results, Tryd.results34]
        go_simp
      · have := H1.out
        rw [em] at this
        exact this
      · rw [show w.heap.size = b0 by omega]
        exact (Below.trans (c := W.drew) hB ⟨rfl, rfl, rfl, Nat.le_refl _, fun _ _ => rfl⟩).grown hg (by show b0 ≤ W.heap.size; omega) (fun k e => by cases e; omega)
  case stop =>
    rintro D cc pre W _ _ h _
    exact h.elim

/-- Too long, or another count of chunks than the length says. -/
theorem join_big (s : Bool) (a : Option Addr) (n c : Nat) (N : Int) (hN : ¬ (0 ≤ N ∧ N ≤ 65535)) (w : World) :
    Calls Tryd.prog 34 #[fieldV s, .slice a n c, .int .i64 N] w fun e w' => e = .returned (.tuple #[.slice none 0 0, .int .i64 6]) ∧ Below w.heap.size w w' := by
  have hd : decide (0 ≤ N ∧ N ≤ 65535) = false := by simpa using hN
  have Hd := Lib.hid hd
  clear hd hN
  go_enter Tryd.func34, Tryd.ntmps34
  go_wp2_with fail
  refine Calls.mono (valid_c _ _) ?_
  rintro _ _ ⟨rfl, rfl⟩
  rw [Hd.out]
  go_wp2_with fail
  exact bodyPost_ret (v := .tuple #[.slice none 0 0, .int .i64 6]) (by simp only [results, Tryd.results34]; go_simp) rfl ⟨rfl, (by repeat first | with_reducible exact Below.refl _ _ | with_reducible refine Below.drew ?_ | with_reducible refine below_dN ?_ | with_reducible refine Below.alloc ?_ (by first | omega | (simp; done) | (simp; omega)) _ | with_reducible refine Below.setCell ?_ (by first | omega | (simp; done) | (simp; omega)) _ | with_reducible refine Below.trans ?_ (Below.mono (by assumption) (by first | omega | (simp; done) | (simp; omega))))⟩
theorem join_ne (s : Bool) (a : Option Addr) (n c : Nat) (N : Nat) (hN : N ≤ 65535) (hne : n ≠ cn N) (w : World) :
    Calls Tryd.prog 34 #[fieldV s, .slice a n c, .int .i64 (N : Int)] w fun e w' => e = .returned (.tuple #[.slice none 0 0, .int .i64 8]) ∧ Below w.heap.size w w' := by
  have hd : decide (0 ≤ (N : Int) ∧ (N : Int) ≤ 65535) = true := by simp; omega
  have Hd := Lib.hid hd
  have hne2 : (n : Int) ≠ ((cn (N : Int) : Nat) : Int) := by omega
  clear hd
  go_enter Tryd.func34, Tryd.ntmps34
  go_wp2_with fail
  refine Calls.mono (valid_c _ _) ?_
  rintro _ _ ⟨rfl, rfl⟩
  rw [Hd.out]
  go_wp2_with fail
  refine region_mix 5 [false, false, false, false, false] (fun w' => w' = World.drew _) (by kernel_rfl) (by kernel_rfl) (by intro _ _ d _ _ h; cases d <;> exact h) rfl ?_
  simp only [List.take_succ_cons, List.take_zero, List.drop_succ_cons, List.drop_zero]
  with_reducible refine mix_v ?_ ?_ ?_
  · rfl
  · rfl
  apply Exists.intro
  refine ⟨fun w' hC => ?_, ?_⟩
  · subst hC
    go_simp
    rfl
  try simp only [Act.put, List.setIfInBounds_toArray, List.set_cons_zero, List.set_cons_succ, List.tail_cons]
  with_reducible refine mix_v ?_ ?_ ?_
  · rfl
  · rfl
  apply Exists.intro
  refine ⟨fun w' hC => ?_, ?_⟩
  · subst hC
    go_simp
    rfl
  try simp only [Act.put, List.setIfInBounds_toArray, List.set_cons_zero, List.set_cons_succ, List.tail_cons]
  with_reducible refine mix_v ?_ ?_ ?_
  · rfl
  · rfl
  apply Exists.intro
  refine ⟨fun w' hC => ?_, ?_⟩
  · subst hC
    go_simp
    rfl
  try simp only [Act.put, List.setIfInBounds_toArray, List.set_cons_zero, List.set_cons_succ, List.tail_cons]
  with_reducible refine mix_c ?_ ?_ ?_
  · rfl
  · rfl
  apply Exists.intro
  apply Exists.intro
  apply Exists.intro
  refine ⟨fun w' hC => ?_, fun w' hC => ?_, ?_⟩
  · subst hC
    go_simp
    exact ⟨rfl, rfl⟩
  · subst hC
    exact same_of (count_c _ _)
  try simp only [Act.put, List.setIfInBounds_toArray, List.set_cons_zero, List.set_cons_succ, List.tail_cons]
  with_reducible refine mix_v ?_ ?_ ?_
  · rfl
  · rfl
  apply Exists.intro
  refine ⟨fun w' hC => ?_, ?_⟩
  · subst hC
    go_simp
    rfl
  try simp only [Act.put, List.setIfInBounds_toArray, List.set_cons_zero, List.set_cons_succ, List.tail_cons]
  refine mix_nil ?_
  rintro _ rfl
  go_wp2_with fail
  exact bodyPost_ret (v := .tuple #[.slice none 0 0, .int .i64 8]) (by simp only [results, Tryd.results34]; go_simp) rfl ⟨rfl, (by repeat first | with_reducible exact Below.refl _ _ | with_reducible refine Below.drew ?_ | with_reducible refine below_dN ?_ | with_reducible refine Below.alloc ?_ (by first | omega | (simp; done) | (simp; omega)) _ | with_reducible refine Below.setCell ?_ (by first | omega | (simp; done) | (simp; omega)) _ | with_reducible refine Below.trans ?_ (Below.mono (by assumption) (by first | omega | (simp; done) | (simp; omega))))⟩
end Go.Proofs.YtpggmebgndkpjaaDoor
