/- The contract of the reference's block. -/
import Derived.Test.YtdaggankfokloaaDoorRefConst
import Derived.Test.YtdaggankfokloaaDoorAfter
namespace Go.Proofs.YtdaggankfokloaaDoor
set_option linter.all false
open Go Go.RowKit

theorem word_val {x0 x1 x2 x3 : Nat} (h0 : x0 < 256) (h1 : x1 < 256) (h2 : x2 < 256) (h3 : x3 < 256) (v : Nat) (hv : v = x0 * 16777216 + x1 * 65536 + x2 * 256 + x3) :
    IntKind.u32.wrap (IntKind.u32.wrap (IntKind.u32.wrap (IntKind.u32.wrap (IntKind.u32.wrap (x0 : Int) * 16777216) + IntKind.u32.wrap (IntKind.u32.wrap (x1 : Int) * 65536)) + IntKind.u32.wrap (IntKind.u32.wrap (x2 : Int) * 256)) + IntKind.u32.wrap (x3 : Int)) = (v : Int) := by
  simp only [IntKind.wrap_u32]
  omega

theorem row_below {w w' : World} {C : Nat} {e : TypeId} {size n : Nat} {v : Value} {xs : List Value} (h : w.ownsRow C e size v n xs) (hb : Below w.heap.size w w') : w'.ownsRow C e size v n xs := by
  refine h.kept (row := none) ⟨hb.os, hb.tape, hb.output, hb.size, fun k hk _ => hb.block k hk⟩ ?_
  cases hv : v.ownBlock with
  | none => exact .inl rfl
  | some k => exact .inr (fun h => by cases h)
theorem row_form {w : World} {base : Nat} {e : TypeId} {size : Nat} {v : Value} {n : Nat} {xs : List Value} (h : w.ownsRow base e size v n xs) (hn : 0 < n) : ∃ g cap, v = .slice (some ⟨g, 0, none⟩) n cap ∧ base ≤ g ∧ g < w.heap.size ∧ n ≤ cap := by
  rcases h.2 with ⟨_, h0⟩ | ⟨g, cap, cur, hv, hb, hg, hc, _⟩
  · omega
  · exact ⟨g, cap, hv, hb, (Array.getElem?_eq_some_iff.1 hg).1, hc⟩
theorem ws_succ (g : Nat → Nat) (n : Nat) : ws g (n + 1) = ws g n ++ [.int .u32 ((g n : Nat) : Int)] := by unfold ws; rw [List.range_succ, List.map_append]; rfl
theorem one_src {w : World} {b : Nat} {v : Value} {T : TypeId} (h : w.heap[b]? = some (.cells #[v] T (0, 0))) : ∀ j u, ([v] : List Value)[j]? = some u → w.cell? ((⟨b, 0, none⟩ : Addr).add j) = some u := fun j u hj => by
  cases j with
  | zero => cases hj; exact (cell_of_row _ b 0 _ _ _ h).trans rfl
  | succ j => cases hj

theorem refCh_val {e f g : Nat} (he : e < B) (hf : f < B) (hg : g < B) :
    bits BinOp.xor IntKind.u32 (bits BinOp.and IntKind.u32 ((e : Nat) : Int) ((f : Nat) : Int)) (bits BinOp.and IntKind.u32 (bits BinOp.xor IntKind.u32 IntKind.u32.max ((e : Nat) : Int)) ((g : Nat) : Int)) = ((ch e f g : Nat) : Int) := by
  have hm : (4294967295 : Nat) < B := by decide
  rw [show IntKind.u32.max = ((4294967295 : Nat) : Int) from rfl, xor_val hm he, u32_and_nat e f he hf, u32_and_nat (4294967295 ^^^ e) g (xor_lt hm he) hg, xor_val (and_lt hf) (and_lt hg), ch_ref he hg]
theorem refMj_val {a b c : Nat} (ha : a < B) (hb : b < B) (hc : c < B) :
    bits BinOp.xor IntKind.u32 (bits BinOp.xor IntKind.u32 (bits BinOp.and IntKind.u32 ((a : Nat) : Int) ((b : Nat) : Int)) (bits BinOp.and IntKind.u32 ((a : Nat) : Int) ((c : Nat) : Int))) (bits BinOp.and IntKind.u32 ((b : Nat) : Int) ((c : Nat) : Int)) = ((mj a b c : Nat) : Int) := by
  rw [u32_and_nat a b ha hb, u32_and_nat a c ha hc, u32_and_nat b c hb hc, xor_val (and_lt hb) (and_lt hc), xor_val (xor_lt (and_lt hb) (and_lt hc)) (and_lt hc), mj_ref]
theorem refT1_val {k x sa sb' sc sd se sf sg sh : Nat} (he : se < B) (hf : sf < B) (hg : sg < B) :
    IntKind.u32.wrap (IntKind.u32.wrap (IntKind.u32.wrap (IntKind.u32.wrap (((sh : Nat) : Int) + bits BinOp.xor IntKind.u32 (bits BinOp.xor IntKind.u32 ((rr 6 se : Nat) : Int) ((rr 11 se : Nat) : Int)) ((rr 25 se : Nat) : Int)) +
      bits BinOp.xor IntKind.u32 (bits BinOp.and IntKind.u32 ((se : Nat) : Int) ((sf : Nat) : Int)) (bits BinOp.and IntKind.u32 (bits BinOp.xor IntKind.u32 IntKind.u32.max ((se : Nat) : Int)) ((sg : Nat) : Int))) + ((k : Nat) : Int)) + ((x : Nat) : Int))
      = ((t1 k x ⟨sa, sb', sc, sd, se, sf, sg, sh⟩ : Nat) : Int) := by
  rw [S1_val he, refCh_val he hf hg]
  simp only [IntKind.wrap_u32]
  unfold t1 ad B
  generalize S1 se = p
  generalize ch se sf sg = q
  dsimp only
  omega
theorem refT2_val {sa sb' sc sd se sf sg sh : Nat} (ha : sa < B) (hb : sb' < B) (hc : sc < B) :
    IntKind.u32.wrap (bits BinOp.xor IntKind.u32 (bits BinOp.xor IntKind.u32 ((rr 2 sa : Nat) : Int) ((rr 13 sa : Nat) : Int)) ((rr 22 sa : Nat) : Int) +
      bits BinOp.xor IntKind.u32 (bits BinOp.xor IntKind.u32 (bits BinOp.and IntKind.u32 ((sa : Nat) : Int) ((sb' : Nat) : Int)) (bits BinOp.and IntKind.u32 ((sa : Nat) : Int) ((sc : Nat) : Int))) (bits BinOp.and IntKind.u32 ((sb' : Nat) : Int) ((sc : Nat) : Int)))
      = ((t2 ⟨sa, sb', sc, sd, se, sf, sg, sh⟩ : Nat) : Int) := by
  rw [S0_val ha, refMj_val ha hb hc]
  simp only [IntKind.wrap_u32]
  exact add2_val _ _
theorem wrap_ad (x y : Nat) : IntKind.u32.wrap (((x : Nat) : Int) + ((y : Nat) : Int)) = ((ad x y : Nat) : Int) := by
  simp only [IntKind.wrap_u32]
  exact add2_val _ _

set_option maxRecDepth 100000 in
set_option maxHeartbeats 8000000 in
theorem block_walk (s : St) (f : Nat → Nat) (bs cs bk ck bb off c : Nat) (hcs : 8 ≤ cs) (hck : 64 ≤ ck) (hc : 64 ≤ c) (w : World) (HO : Hid s.Ok) (HS : Hid (∀ j, j < 8 → w.cell? ⟨bs, j, none⟩ = some (.int .u32 ((s.at j : Nat) : Int))))
    (HK : Hid (∀ j, j < 64 → w.cell? ⟨bk, j, none⟩ = some (.int .u32 ((K j : Nat) : Int)))) (HB : Hid (BytesAt w bb off 64 f)) :
    Calls Tryd.prog 21 #[.slice (some ⟨bs, 0, none⟩) 8 cs, .slice (some ⟨bk, 0, none⟩) 64 ck, .slice (some ⟨bb, off, none⟩) 64 c] w
      fun e w' => (∃ b c', e = .returned (.slice (some ⟨b, 0, none⟩) 8 c') ∧ 8 ≤ c' ∧ w.heap.size ≤ b ∧ ∀ j, j < 8 → w'.cell? ⟨b, j, none⟩ = some (.int .u32 (((blk K s f).at j : Nat) : Int))) ∧ Below w.heap.size w w' := by
  obtain ⟨i0, hi, hz0, hz1, hz2⟩ := info_parts infoWord
  have Hi := Lib.hid hi
  have Hz0 := Lib.hid hz0
  have Hz1 := Lib.hid hz1
  have Hz2 := Lib.hid hz2
  clear hi hz0 hz1 hz2
  go_enter Tryd.func21, Tryd.ntmps21
  go_wp2_with fail
  go_loopw [7, 8] (fun s i wr => ∃ (a : Option Addr) (c t : Nat), t ≤ 64 ∧ s = .slice a t c ∧ i = .int .i64 (t : Int) ∧ Hid (wr.ownsRow w.heap.size 42 1 (.slice a t c) t (ws (wv f) t) ∧ Below w.heap.size w wr)) (fun _ i _ => 64 - (intOf i).toNat)
  case atStart => exact ⟨none, 0, 0, by omega, rfl, rfl, World.ownsRow_nil _ _ _ _, Below.refl _ _⟩
  case round =>
    obtain ⟨a, cw, t, ht, rfl, rfl, H⟩ := hrel
    by_cases h16 : t < 16
    · have hcell : ∀ i, i < 4 → wr.cell? ⟨bb, off + (4 * t + i), none⟩ = some (.int .u8 ((f (4 * t + i) : Nat) : Int)) := fun i hi => (H.out.2.cell (p := ⟨bb, off + (4 * t + i), none⟩) HB.out.blk).trans (HB.out.cell _ (by omega))
      have c0 := hcell 0 (by omega)
      have c1 := hcell 1 (by omega)
      have c2 := hcell 2 (by omega)
      have c3 := hcell 3 (by omega)
      have hb := Nat.lt_of_lt_of_le HB.out.blk H.out.2.size
      obtain ⟨x0, e0⟩ : ∃ x, x = f (4 * t + 0) := ⟨_, rfl⟩
      obtain ⟨x1, e1⟩ : ∃ x, x = f (4 * t + 1) := ⟨_, rfl⟩
      obtain ⟨x2, e2⟩ : ∃ x, x = f (4 * t + 2) := ⟨_, rfl⟩
      obtain ⟨x3, e3⟩ : ∃ x, x = f (4 * t + 3) := ⟨_, rfl⟩
      have l0 : x0 < 256 := by rw [e0]; exact HB.out.lt _
      have l1 : x1 < 256 := by rw [e1]; exact HB.out.lt _
      have l2 : x2 < 256 := by rw [e2]; exact HB.out.lt _
      have l3 : x3 < 256 := by rw [e3]; exact HB.out.lt _
      rw [← e0] at c0
      rw [← e1] at c1
      rw [← e2] at c2
      rw [← e3] at c3
      have ew := word_val l0 l1 l2 l3 (wv f t) (by rw [e0, e1, e2, e3]; exact wv_lo f h16)
      clear e0 e1 e2 e3 hcell
      obtain ⟨q, hq⟩ : ∃ q, q = 4 * t := ⟨_, rfl⟩
      obtain ⟨q1, hq1⟩ : ∃ q, q = 4 * t + 1 := ⟨_, rfl⟩
      obtain ⟨q2, hq2⟩ : ∃ q, q = 4 * t + 2 := ⟨_, rfl⟩
      obtain ⟨q3, hq3⟩ : ∃ q, q = 4 * t + 3 := ⟨_, rfl⟩
      rw [Nat.add_zero, ← hq] at c0
      rw [← hq1] at c1
      rw [← hq2] at c2
      rw [← hq3] at c3
      have k0 : IntKind.i64.wrap (4 * (t : Int)) = (q : Int) := by rw [IntKind.wrap_i64]; omega
      have k1 : IntKind.i64.wrap ((q : Int) + 1) = (q1 : Int) := by rw [IntKind.wrap_i64]; omega
      have k2 : IntKind.i64.wrap ((q : Int) + 2) = (q2 : Int) := by rw [IntKind.wrap_i64]; omega
      have k3 : IntKind.i64.wrap ((q : Int) + 3) = (q3 : Int) := by rw [IntKind.wrap_i64]; omega
      have b0 : (q : Int) < 64 := by omega
      have b1 : (q1 : Int) < 64 := by omega
      have b2 : (q2 : Int) < 64 := by omega
      have b3 : (q3 : Int) < 64 := by omega
      clear hq hq1 hq2 hq3
      go_wp2_with fail
      have hdk : decide ((t : Int) < 16) = true := decide_eq_true (by omega)
      simp only [hdk]
      clear hdk
      go_wp2_with fail
      refine region_grow 35 [0, 1, 2, 3, 4, 5, 6, 7, 8, 9, 10, 11, 12, 13, 14, 15, 16, 17, 18, 19, 20, 21, 22, 23, 24, 25, 26, 27, 28, 29, 30, 31, 32, 33, 34] [(34, (fun b => Value.slice (some ⟨b, 0, Option.none⟩) 1 1), (Obj.cells #[.int .u32 ((wv f t : Nat) : Int)] 42 (0, 0)))] [] (by kernel_rfl) (by kernel_rfl) ?_
      with_reducible apply grow_v
      · rfl
      · rfl
      · rfl
      apply Exists.intro
      refine ⟨fun w' hC => ?_, ?_⟩
      · have hcell := below_cells hC
        clear hC
        go_simp
        rfl
      try simp only [Act.put, List.setIfInBounds_toArray, List.set_cons_zero, List.set_cons_succ, List.tail_cons]
      with_reducible apply grow_v
      · rfl
      · rfl
      · rfl
      apply Exists.intro
      refine ⟨fun w' hC => ?_, ?_⟩
      · have hcell := below_cells hC
        clear hC
        go_simp
        rfl
      try simp only [Act.put, List.setIfInBounds_toArray, List.set_cons_zero, List.set_cons_succ, List.tail_cons]
      with_reducible apply grow_v
      · rfl
      · rfl
      · rfl
      apply Exists.intro
      refine ⟨fun w' hC => ?_, ?_⟩
      · have hcell := below_cells hC
        clear hC
        go_simp
        rfl
      try simp only [Act.put, List.setIfInBounds_toArray, List.set_cons_zero, List.set_cons_succ, List.tail_cons]
      with_reducible apply grow_v
      · rfl
      · rfl
      · rfl
      apply Exists.intro
      refine ⟨fun w' hC => ?_, ?_⟩
      · have hcell := below_cells hC
        clear hC
        go_simp
        rfl
      try simp only [Act.put, List.setIfInBounds_toArray, List.set_cons_zero, List.set_cons_succ, List.tail_cons]
      with_reducible apply grow_v
      · rfl
      · rfl
      · rfl
      apply Exists.intro
      refine ⟨fun w' hC => ?_, ?_⟩
      · have hcell := below_cells hC
        clear hC
        go_simp
        rfl
      try simp only [Act.put, List.setIfInBounds_toArray, List.set_cons_zero, List.set_cons_succ, List.tail_cons]
      with_reducible apply grow_v
      · rfl
      · rfl
      · rfl
      apply Exists.intro
      refine ⟨fun w' hC => ?_, ?_⟩
      · have hcell := below_cells hC
        clear hC
        simp only [World.size_drew] at hcell
        go_simp
        rfl
      try simp only [Act.put, List.setIfInBounds_toArray, List.set_cons_zero, List.set_cons_succ, List.tail_cons]
      with_reducible apply grow_v
      · rfl
      · rfl
      · rfl
      apply Exists.intro
      refine ⟨fun w' hC => ?_, ?_⟩
      · have hcell := below_cells hC
        clear hC
        go_simp
        rfl
      try simp only [Act.put, List.setIfInBounds_toArray, List.set_cons_zero, List.set_cons_succ, List.tail_cons]
      with_reducible apply grow_v
      · rfl
      · rfl
      · rfl
      apply Exists.intro
      refine ⟨fun w' hC => ?_, ?_⟩
      · have hcell := below_cells hC
        clear hC
        go_simp
        rfl
      try simp only [Act.put, List.setIfInBounds_toArray, List.set_cons_zero, List.set_cons_succ, List.tail_cons]
      with_reducible apply grow_v
      · rfl
      · rfl
      · rfl
      apply Exists.intro
      refine ⟨fun w' hC => ?_, ?_⟩
      · have hcell := below_cells hC
        clear hC
        go_simp
        rfl
      try simp only [Act.put, List.setIfInBounds_toArray, List.set_cons_zero, List.set_cons_succ, List.tail_cons]
      with_reducible apply grow_v
      · rfl
      · rfl
      · rfl
      apply Exists.intro
      refine ⟨fun w' hC => ?_, ?_⟩
      · have hcell := below_cells hC
        clear hC
        go_simp
        rfl
      try simp only [Act.put, List.setIfInBounds_toArray, List.set_cons_zero, List.set_cons_succ, List.tail_cons]
      with_reducible apply grow_v
      · rfl
      · rfl
      · rfl
      apply Exists.intro
      refine ⟨fun w' hC => ?_, ?_⟩
      · have hcell := below_cells hC
        clear hC
        go_simp
        rfl
      try simp only [Act.put, List.setIfInBounds_toArray, List.set_cons_zero, List.set_cons_succ, List.tail_cons]
      with_reducible apply grow_v
      · rfl
      · rfl
      · rfl
      apply Exists.intro
      refine ⟨fun w' hC => ?_, ?_⟩
      · have hcell := below_cells hC
        clear hC
        go_simp
        rfl
      try simp only [Act.put, List.setIfInBounds_toArray, List.set_cons_zero, List.set_cons_succ, List.tail_cons]
      with_reducible apply grow_v
      · rfl
      · rfl
      · rfl
      apply Exists.intro
      refine ⟨fun w' hC => ?_, ?_⟩
      · have hcell := below_cells hC
        clear hC
        go_simp
        rfl
      try simp only [Act.put, List.setIfInBounds_toArray, List.set_cons_zero, List.set_cons_succ, List.tail_cons]
      with_reducible apply grow_v
      · rfl
      · rfl
      · rfl
      apply Exists.intro
      refine ⟨fun w' hC => ?_, ?_⟩
      · have hcell := below_cells hC
        clear hC
        simp only [World.size_drew] at hcell
        go_simp
        rfl
      try simp only [Act.put, List.setIfInBounds_toArray, List.set_cons_zero, List.set_cons_succ, List.tail_cons]
      with_reducible apply grow_v
      · rfl
      · rfl
      · rfl
      apply Exists.intro
      refine ⟨fun w' hC => ?_, ?_⟩
      · have hcell := below_cells hC
        clear hC
        go_simp
        rfl
      try simp only [Act.put, List.setIfInBounds_toArray, List.set_cons_zero, List.set_cons_succ, List.tail_cons]
      with_reducible apply grow_v
      · rfl
      · rfl
      · rfl
      apply Exists.intro
      refine ⟨fun w' hC => ?_, ?_⟩
      · have hcell := below_cells hC
        clear hC
        go_simp
        rfl
      try simp only [Act.put, List.setIfInBounds_toArray, List.set_cons_zero, List.set_cons_succ, List.tail_cons]
      with_reducible apply grow_v
      · rfl
      · rfl
      · rfl
      apply Exists.intro
      refine ⟨fun w' hC => ?_, ?_⟩
      · have hcell := below_cells hC
        clear hC
        go_simp
        rfl
      try simp only [Act.put, List.setIfInBounds_toArray, List.set_cons_zero, List.set_cons_succ, List.tail_cons]
      with_reducible apply grow_v
      · rfl
      · rfl
      · rfl
      apply Exists.intro
      refine ⟨fun w' hC => ?_, ?_⟩
      · have hcell := below_cells hC
        clear hC
        go_simp
        rfl
      try simp only [Act.put, List.setIfInBounds_toArray, List.set_cons_zero, List.set_cons_succ, List.tail_cons]
      with_reducible apply grow_v
      · rfl
      · rfl
      · rfl
      apply Exists.intro
      refine ⟨fun w' hC => ?_, ?_⟩
      · have hcell := below_cells hC
        clear hC
        go_simp
        rfl
      try simp only [Act.put, List.setIfInBounds_toArray, List.set_cons_zero, List.set_cons_succ, List.tail_cons]
      with_reducible apply grow_v
      · rfl
      · rfl
      · rfl
      apply Exists.intro
      refine ⟨fun w' hC => ?_, ?_⟩
      · have hcell := below_cells hC
        clear hC
        go_simp
        rfl
      try simp only [Act.put, List.setIfInBounds_toArray, List.set_cons_zero, List.set_cons_succ, List.tail_cons]
      with_reducible apply grow_v
      · rfl
      · rfl
      · rfl
      apply Exists.intro
      refine ⟨fun w' hC => ?_, ?_⟩
      · have hcell := below_cells hC
        clear hC
        go_simp
        rfl
      try simp only [Act.put, List.setIfInBounds_toArray, List.set_cons_zero, List.set_cons_succ, List.tail_cons]
      with_reducible apply grow_v
      · rfl
      · rfl
      · rfl
      apply Exists.intro
      refine ⟨fun w' hC => ?_, ?_⟩
      · have hcell := below_cells hC
        clear hC
        go_simp
        rfl
      try simp only [Act.put, List.setIfInBounds_toArray, List.set_cons_zero, List.set_cons_succ, List.tail_cons]
      with_reducible apply grow_v
      · rfl
      · rfl
      · rfl
      apply Exists.intro
      refine ⟨fun w' hC => ?_, ?_⟩
      · have hcell := below_cells hC
        clear hC
        simp only [World.size_drew] at hcell
        go_simp
        rfl
      try simp only [Act.put, List.setIfInBounds_toArray, List.set_cons_zero, List.set_cons_succ, List.tail_cons]
      with_reducible apply grow_v
      · rfl
      · rfl
      · rfl
      apply Exists.intro
      refine ⟨fun w' hC => ?_, ?_⟩
      · have hcell := below_cells hC
        clear hC
        go_simp
        rfl
      try simp only [Act.put, List.setIfInBounds_toArray, List.set_cons_zero, List.set_cons_succ, List.tail_cons]
      with_reducible apply grow_v
      · rfl
      · rfl
      · rfl
      apply Exists.intro
      refine ⟨fun w' hC => ?_, ?_⟩
      · have hcell := below_cells hC
        clear hC
        go_simp
        rfl
      try simp only [Act.put, List.setIfInBounds_toArray, List.set_cons_zero, List.set_cons_succ, List.tail_cons]
      with_reducible apply grow_v
      · rfl
      · rfl
      · rfl
      apply Exists.intro
      refine ⟨fun w' hC => ?_, ?_⟩
      · have hcell := below_cells hC
        clear hC
        go_simp
        rfl
      try simp only [Act.put, List.setIfInBounds_toArray, List.set_cons_zero, List.set_cons_succ, List.tail_cons]
      with_reducible apply grow_v
      · rfl
      · rfl
      · rfl
      apply Exists.intro
      refine ⟨fun w' hC => ?_, ?_⟩
      · have hcell := below_cells hC
        clear hC
        go_simp
        rfl
      try simp only [Act.put, List.setIfInBounds_toArray, List.set_cons_zero, List.set_cons_succ, List.tail_cons]
      with_reducible apply grow_v
      · rfl
      · rfl
      · rfl
      apply Exists.intro
      refine ⟨fun w' hC => ?_, ?_⟩
      · have hcell := below_cells hC
        clear hC
        go_simp
        rfl
      try simp only [Act.put, List.setIfInBounds_toArray, List.set_cons_zero, List.set_cons_succ, List.tail_cons]
      with_reducible apply grow_v
      · rfl
      · rfl
      · rfl
      apply Exists.intro
      refine ⟨fun w' hC => ?_, ?_⟩
      · have hcell := below_cells hC
        clear hC
        go_simp
        rfl
      try simp only [Act.put, List.setIfInBounds_toArray, List.set_cons_zero, List.set_cons_succ, List.tail_cons]
      with_reducible apply grow_v
      · rfl
      · rfl
      · rfl
      apply Exists.intro
      refine ⟨fun w' hC => ?_, ?_⟩
      · have hcell := below_cells hC
        clear hC
        go_simp
        rfl
      try simp only [Act.put, List.setIfInBounds_toArray, List.set_cons_zero, List.set_cons_succ, List.tail_cons]
      with_reducible apply grow_v
      · rfl
      · rfl
      · rfl
      apply Exists.intro
      refine ⟨fun w' hC => ?_, ?_⟩
      · have hcell := below_cells hC
        clear hC
        go_simp
        rfl
      try simp only [Act.put, List.setIfInBounds_toArray, List.set_cons_zero, List.set_cons_succ, List.tail_cons]
      with_reducible apply grow_v
      · rfl
      · rfl
      · rfl
      apply Exists.intro
      refine ⟨fun w' hC => ?_, ?_⟩
      · have hcell := below_cells hC
        clear hC
        simp only [World.size_drew] at hcell
        go_simp
        rfl
      try simp only [Act.put, List.setIfInBounds_toArray, List.set_cons_zero, List.set_cons_succ, List.tail_cons]
      with_reducible apply grow_v
      · rfl
      · rfl
      · rfl
      apply Exists.intro
      refine ⟨fun w' hC => ?_, ?_⟩
      · have hcell := below_cells hC
        clear hC
        go_simp
        rfl
      try simp only [Act.put, List.setIfInBounds_toArray, List.set_cons_zero, List.set_cons_succ, List.tail_cons]
      with_reducible apply grow_v
      · rfl
      · rfl
      · rfl
      apply Exists.intro
      refine ⟨fun w' hC => ?_, ?_⟩
      · have hcell := below_cells hC
        clear hC
        go_simp
        rfl
      try simp only [Act.put, List.setIfInBounds_toArray, List.set_cons_zero, List.set_cons_succ, List.tail_cons]
      with_reducible apply grow_m
      · rfl
      · rfl
      · rfl
      refine ⟨fun w' hC => ?_, fun b34 => ?_⟩
      · (clear hC; go_simp)
      try dsimp only
      try simp only [Act.put, List.setIfInBounds_toArray, List.set_cons_zero, List.set_cons_succ, List.tail_cons]
      refine grow_end ?_
      intro wg6 hg6
      obtain ⟨cg6, fg6, sg6⟩ := bfacts hg6.grows
      try simp only [World.size_alloc, World.size_setCell, size_drew, size_drewN] at sg6
      have hb34 := Lib.hid (hg6.has (b34, Obj.cells #[.int .u32 ((wv f t : Nat) : Int)] 42 (0, 0)) (by simp only [List.mem_cons, true_or, or_true]))
      have lb34 : b34 < wg6.heap.size := (Array.getElem?_eq_some_iff.1 hb34.out).1
      have nb34 := hg6.new (b34, Obj.cells #[.int .u32 ((wv f t : Nat) : Int)] 42 (0, 0)) (by simp only [List.mem_cons, true_or, or_true])
      try simp only [World.size_alloc, World.size_setCell, size_drew, size_drewN] at nb34
      have Hg6 : Below _ _ wg6 := hg6.grows
      clear hg6
      simp only [List.drop_succ_cons, List.drop_zero]
      have Hrow6 := Lib.hid (row_below (w' := wg6) H.out.1 (show Below wr.heap.size wr wg6 from ⟨Hg6.os, Hg6.tape, Hg6.output, Hg6.size, Hg6.block⟩))
      have HB6 := Lib.hid (show Below w.heap.size w wg6 from H.out.2.trans (Below.mono (⟨Hg6.os, Hg6.tape, Hg6.output, Hg6.size, Hg6.block⟩ : Below wr.heap.size wr wg6) H.out.2.size))
      go_wp2_with (at_builtin; refine wpList_append_own _ rfl (.tmp 26) (.tmp 60) 39 rfl w.heap.size 42 i0 (.int .u32 0) 1 4 Tryd.underlying39 Hi.out Hz0.out Hz1.out Hz2.out rfl (by decide) (.slice a t cw) t (ws (wv f) t) rfl Hrow6.out ⟨b34, 0, none⟩ 1 1 [.int .u32 ((wv f t : Nat) : Int)] rfl rfl (one_src hb34.out) (fun u hu => by rw [List.mem_singleton] at hu; subst hu; rfl) (by unfold maxLen; omega) (by omega) HB6.out.size ?_; intro v' w1 hown' hgrow' hnil)
      rw [← ws_succ] at hown'
      obtain ⟨a', c', rfl⟩ := row_slice2 hown'
      have Hown' := Lib.hid hown'
      have HB1 := Lib.hid (HB6.out.grown hgrow' HB6.out.size (fun k hk => (Hrow6.out.lt k hk).1))
      clear hown' hgrow' hnil cg6 fg6 sg6 Hg6
      go_wp2_with fail
      go_roundw
      case rel => exact ⟨a', c', t + 1, by omega, rfl, by go_num, Hown'.out, HB1.out⟩
      case measure => simp [intOf]; omega
    · by_cases hlt : t < 64
      · obtain ⟨gw, cp, ea, hg1, hg2, _⟩ := row_form H.out.1 (by omega)
        obtain ⟨rfl, rfl⟩ : a = some ⟨gw, 0, none⟩ ∧ cw = cp := by injection ea with e1 e2 e3; exact ⟨e1, e3⟩
        have hcell : ∀ j, j < t → wr.cell? ⟨gw, j, none⟩ = some (.int .u32 ((wv f j : Nat) : Int)) := fun j hj => (H.out.1.cellAt j (by omega)).trans (ws_get _ _ j hj)
        obtain ⟨p14, q14⟩ : ∃ q, q = t - 2 := ⟨_, rfl⟩
        obtain ⟨p9, q9⟩ : ∃ q, q = t - 7 := ⟨_, rfl⟩
        obtain ⟨p1, q1⟩ : ∃ q, q = t - 15 := ⟨_, rfl⟩
        obtain ⟨p0, q0⟩ : ∃ q, q = t - 16 := ⟨_, rfl⟩
        have c14 := hcell p14 (by omega)
        have c9 := hcell p9 (by omega)
        have c1 := hcell p1 (by omega)
        have c0 := hcell p0 (by omega)
        have w14 : IntKind.i64.wrap ((t : Int) - 2) = (p14 : Int) := by rw [q14, IntKind.wrap_i64]; omega
        have w9 : IntKind.i64.wrap ((t : Int) - 7) = (p9 : Int) := by rw [q9, IntKind.wrap_i64]; omega
        have w1 : IntKind.i64.wrap ((t : Int) - 15) = (p1 : Int) := by rw [q1, IntKind.wrap_i64]; omega
        have w0 : IntKind.i64.wrap ((t : Int) - 16) = (p0 : Int) := by rw [q0, IntKind.wrap_i64]; omega
        have b14 : (p14 : Int) < (t : Int) := by omega
        have b9 : (p9 : Int) < (t : Int) := by omega
        have b1 : (p1 : Int) < (t : Int) := by omega
        have b0 : (p0 : Int) < (t : Int) := by omega
        have hi64 : (t : Int) < 64 := by omega
        have hi16 : ¬ (t : Int) < 16 := by omega
        obtain ⟨x14, e14⟩ : ∃ x, x = wv f p14 := ⟨_, rfl⟩
        obtain ⟨x9, e9⟩ : ∃ x, x = wv f p9 := ⟨_, rfl⟩
        obtain ⟨x1, e1⟩ : ∃ x, x = wv f p1 := ⟨_, rfl⟩
        obtain ⟨x0, e0⟩ : ∃ x, x = wv f p0 := ⟨_, rfl⟩
        rw [← e14] at c14
        rw [← e9] at c9
        rw [← e1] at c1
        rw [← e0] at c0
        have l14 : Hid (x14 < B) := by rw [e14]; exact wv_lt HB.out.lt _
        have l1 : Hid (x1 < B) := by rw [e1]; exact wv_lt HB.out.lt _
        have ev : wv f t = ad (ad (ad (sg1 x14) x9) (sg0 x1)) x0 := by
          rw [wv_hi f (by omega), e14, e9, e1, e0, q14, q9, q1, q0]
        have Ev := Lib.hid ev
        have Hg1 := Lib.hid hg1
        have Hlt := Lib.hid hlt
        clear q14 q9 q1 q0 e14 e9 e1 e0 hcell ea ev hg1 h16 hlt ht
        go_wp2_with fail
        refine Calls.mono (refRot_c 17 x14 (by decide) l14.out _) ?_
        rintro _ _ ⟨rfl, rfl⟩
        go_wp2_with fail
        refine Calls.mono (refRot_c 19 x14 (by decide) l14.out _) ?_
        rintro _ _ ⟨rfl, rfl⟩
        go_wp2_with fail
        refine Calls.mono (refShr_c 10 x14 (by decide) l14.out _) ?_
        rintro _ _ ⟨rfl, rfl⟩
        go_wp2_with fail
        refine Calls.mono (refRot_c 7 x1 (by decide) l1.out _) ?_
        rintro _ _ ⟨rfl, rfl⟩
        go_wp2_with fail
        refine Calls.mono (refRot_c 18 x1 (by decide) l1.out _) ?_
        rintro _ _ ⟨rfl, rfl⟩
        go_wp2_with fail
        refine Calls.mono (refShr_c 3 x1 (by decide) l1.out _) ?_
        rintro _ _ ⟨rfl, rfl⟩
        go_wp2_with fail
        have ew : IntKind.u32.wrap (IntKind.u32.wrap (IntKind.u32.wrap (bits BinOp.xor IntKind.u32 (bits BinOp.xor IntKind.u32 ((rr 17 x14 : Nat) : Int) ((rr 19 x14 : Nat) : Int)) ((x14 : Int) / 1024) + (x9 : Int)) +
            bits BinOp.xor IntKind.u32 (bits BinOp.xor IntKind.u32 ((rr 7 x1 : Nat) : Int) ((rr 18 x1 : Nat) : Int)) ((x1 : Int) / 8)) + (x0 : Int)) = ((wv f t : Nat) : Int) := by
          rw [Ev.out, ← sched_val l14.out l1.out]
          simp only [IntKind.wrap_u32]
          omega
        refine region_grow 17 [0, 1, 2, 3, 4, 5, 6, 7, 8, 9, 10, 11, 12, 13, 14, 15, 16] [(16, (fun b => Value.slice (some ⟨b, 0, Option.none⟩) 1 1), (Obj.cells #[.int .u32 ((wv f t : Nat) : Int)] 42 (0, 0)))] [] (by kernel_rfl) (by kernel_rfl) ?_
        with_reducible apply grow_v
        · rfl
        · rfl
        · rfl
        apply Exists.intro
        refine ⟨fun w' hC => ?_, ?_⟩
        · have hcell := below_cells hC
          clear hC
          go_simp
          rfl
        try simp only [Act.put, List.setIfInBounds_toArray, List.set_cons_zero, List.set_cons_succ, List.tail_cons]
        with_reducible apply grow_v
        · rfl
        · rfl
        · rfl
        apply Exists.intro
        refine ⟨fun w' hC => ?_, ?_⟩
        · have hcell := below_cells hC
          clear hC
          go_simp
          rfl
        try simp only [Act.put, List.setIfInBounds_toArray, List.set_cons_zero, List.set_cons_succ, List.tail_cons]
        with_reducible apply grow_v
        · rfl
        · rfl
        · rfl
        apply Exists.intro
        refine ⟨fun w' hC => ?_, ?_⟩
        · have hcell := below_cells hC
          clear hC
          go_simp
          rfl
        try simp only [Act.put, List.setIfInBounds_toArray, List.set_cons_zero, List.set_cons_succ, List.tail_cons]
        with_reducible apply grow_v
        · rfl
        · rfl
        · rfl
        apply Exists.intro
        refine ⟨fun w' hC => ?_, ?_⟩
        · have hcell := below_cells hC
          clear hC
          go_simp
          rfl
        try simp only [Act.put, List.setIfInBounds_toArray, List.set_cons_zero, List.set_cons_succ, List.tail_cons]
        with_reducible apply grow_v
        · rfl
        · rfl
        · rfl
        apply Exists.intro
        refine ⟨fun w' hC => ?_, ?_⟩
        · have hcell := below_cells hC
          clear hC
          go_simp
          rfl
        try simp only [Act.put, List.setIfInBounds_toArray, List.set_cons_zero, List.set_cons_succ, List.tail_cons]
        with_reducible apply grow_v
        · rfl
        · rfl
        · rfl
        apply Exists.intro
        refine ⟨fun w' hC => ?_, ?_⟩
        · have hcell := below_cells hC
          clear hC
          go_simp
          rfl
        try simp only [Act.put, List.setIfInBounds_toArray, List.set_cons_zero, List.set_cons_succ, List.tail_cons]
        with_reducible apply grow_v
        · rfl
        · rfl
        · rfl
        apply Exists.intro
        refine ⟨fun w' hC => ?_, ?_⟩
        · have hcell := below_cells hC
          clear hC
          simp only [World.size_drew] at hcell
          go_simp
          rfl
        try simp only [Act.put, List.setIfInBounds_toArray, List.set_cons_zero, List.set_cons_succ, List.tail_cons]
        with_reducible apply grow_v
        · rfl
        · rfl
        · rfl
        apply Exists.intro
        refine ⟨fun w' hC => ?_, ?_⟩
        · have hcell := below_cells hC
          clear hC
          go_simp
          rfl
        try simp only [Act.put, List.setIfInBounds_toArray, List.set_cons_zero, List.set_cons_succ, List.tail_cons]
        with_reducible apply grow_v
        · rfl
        · rfl
        · rfl
        apply Exists.intro
        refine ⟨fun w' hC => ?_, ?_⟩
        · have hcell := below_cells hC
          clear hC
          go_simp
          rfl
        try simp only [Act.put, List.setIfInBounds_toArray, List.set_cons_zero, List.set_cons_succ, List.tail_cons]
        with_reducible apply grow_v
        · rfl
        · rfl
        · rfl
        apply Exists.intro
        refine ⟨fun w' hC => ?_, ?_⟩
        · have hcell := below_cells hC
          clear hC
          go_simp
          rfl
        try simp only [Act.put, List.setIfInBounds_toArray, List.set_cons_zero, List.set_cons_succ, List.tail_cons]
        with_reducible apply grow_v
        · rfl
        · rfl
        · rfl
        apply Exists.intro
        refine ⟨fun w' hC => ?_, ?_⟩
        · have hcell := below_cells hC
          clear hC
          go_simp
          rfl
        try simp only [Act.put, List.setIfInBounds_toArray, List.set_cons_zero, List.set_cons_succ, List.tail_cons]
        with_reducible apply grow_v
        · rfl
        · rfl
        · rfl
        apply Exists.intro
        refine ⟨fun w' hC => ?_, ?_⟩
        · have hcell := below_cells hC
          clear hC
          go_simp
          rfl
        try simp only [Act.put, List.setIfInBounds_toArray, List.set_cons_zero, List.set_cons_succ, List.tail_cons]
        with_reducible apply grow_v
        · rfl
        · rfl
        · rfl
        apply Exists.intro
        refine ⟨fun w' hC => ?_, ?_⟩
        · have hcell := below_cells hC
          clear hC
          go_simp
          rfl
        try simp only [Act.put, List.setIfInBounds_toArray, List.set_cons_zero, List.set_cons_succ, List.tail_cons]
        with_reducible apply grow_v
        · rfl
        · rfl
        · rfl
        apply Exists.intro
        refine ⟨fun w' hC => ?_, ?_⟩
        · have hcell := below_cells hC
          clear hC
          go_simp
          rfl
        try simp only [Act.put, List.setIfInBounds_toArray, List.set_cons_zero, List.set_cons_succ, List.tail_cons]
        with_reducible apply grow_v
        · rfl
        · rfl
        · rfl
        apply Exists.intro
        refine ⟨fun w' hC => ?_, ?_⟩
        · have hcell := below_cells hC
          clear hC
          simp only [World.size_drew] at hcell
          go_simp
          rfl
        try simp only [Act.put, List.setIfInBounds_toArray, List.set_cons_zero, List.set_cons_succ, List.tail_cons]
        with_reducible apply grow_v
        · rfl
        · rfl
        · rfl
        apply Exists.intro
        refine ⟨fun w' hC => ?_, ?_⟩
        · have hcell := below_cells hC
          clear hC
          go_simp
          rfl
        try simp only [Act.put, List.setIfInBounds_toArray, List.set_cons_zero, List.set_cons_succ, List.tail_cons]
        with_reducible apply grow_m
        · rfl
        · rfl
        · rfl
        refine ⟨fun w' hC => ?_, fun b16 => ?_⟩
        · (clear hC; go_simp; first | done | rw [ew])
        try dsimp only
        try simp only [Act.put, List.setIfInBounds_toArray, List.set_cons_zero, List.set_cons_succ, List.tail_cons]
        refine grow_end ?_
        intro wg11 hg11
        obtain ⟨cg11, fg11, sg11⟩ := bfacts hg11.grows
        try simp only [World.size_alloc, World.size_setCell, size_drew, size_drewN] at sg11
        have hb16 := Lib.hid (hg11.has (b16, Obj.cells #[.int .u32 ((wv f t : Nat) : Int)] 42 (0, 0)) (by simp only [List.mem_cons, true_or, or_true]))
        have lb16 : b16 < wg11.heap.size := (Array.getElem?_eq_some_iff.1 hb16.out).1
        have nb16 := hg11.new (b16, Obj.cells #[.int .u32 ((wv f t : Nat) : Int)] 42 (0, 0)) (by simp only [List.mem_cons, true_or, or_true])
        try simp only [World.size_alloc, World.size_setCell, size_drew, size_drewN] at nb16
        have Hg11 : Below _ _ wg11 := hg11.grows
        clear hg11
        simp only [List.drop_succ_cons, List.drop_zero]
        clear ew w14 w9 w1 w0 b14 b9 b1 b0 c14 c9 c1 c0 hi16
        have Hrow6 := Lib.hid (row_below (w' := wg11) H.out.1 (show Below wr.heap.size wr wg11 from ⟨Hg11.os, Hg11.tape, Hg11.output, Hg11.size, Hg11.block⟩))
        have HB6 := Lib.hid (show Below w.heap.size w wg11 from H.out.2.trans (Below.mono (⟨Hg11.os, Hg11.tape, Hg11.output, Hg11.size, Hg11.block⟩ : Below wr.heap.size wr wg11) H.out.2.size))
        go_wp2_with (at_builtin; refine wpList_append_own _ rfl (.tmp 88) (.tmp 104) 39 rfl w.heap.size 42 i0 (.int .u32 0) 1 4 Tryd.underlying39 Hi.out Hz0.out Hz1.out Hz2.out rfl (by decide) (.slice (some ⟨gw, 0, none⟩) t cw) t (ws (wv f) t) rfl Hrow6.out ⟨b16, 0, none⟩ 1 1 [.int .u32 ((wv f t : Nat) : Int)] rfl rfl (one_src hb16.out) (fun u hu => by rw [List.mem_singleton] at hu; subst hu; rfl) (by unfold maxLen; omega) (by omega) HB6.out.size ?_; intro v' w1 hown' hgrow' hnil)
        rw [← ws_succ] at hown'
        obtain ⟨a', c', rfl⟩ := row_slice2 hown'
        have Hown' := Lib.hid hown'
        have HB1 := Lib.hid (HB6.out.grown hgrow' HB6.out.size (fun k hk => (Hrow6.out.lt k hk).1))
        clear hown' hgrow' hnil cg11 fg11 sg11 Hg11
        go_wp2_with fail
        go_roundw
        case rel => exact ⟨a', c', t + 1, Hlt.out, rfl, by go_num, Hown'.out, HB1.out⟩
        case measure => have := Hlt.out; simp [intOf]; omega
      · obtain rfl : t = 64 := by omega
        obtain ⟨gw, cp, ea, hg1, hg2, _⟩ := row_form H.out.1 (by omega)
        obtain ⟨rfl, rfl⟩ : a = some ⟨gw, 0, none⟩ ∧ cw = cp := by injection ea with e1 e2 e3; exact ⟨e1, e3⟩
        have hcell : ∀ j, j < 64 → wr.cell? ⟨gw, j, none⟩ = some (.int .u32 ((wv f j : Nat) : Int)) := fun j hj => (H.out.1.cellAt j (by omega)).trans (ws_get _ _ j hj)
        have HW := Lib.hid hcell
        have HB1 := Lib.hid H.out.2
        have Hgw := Lib.hid (And.intro hg1 hg2)
        clear hlt h16 ht H hcell hg1 hg2 ea
        have hsrc : ∀ j v, (ws s.at 8)[j]? = some v → ((wr.alloc (.cells #[] 42)).cell? ((⟨bs, 0, none⟩ : Addr).add j)) = some v := fun j v hj => by
          have hjn : j < 8 := by
            have := (List.getElem?_eq_some_iff.1 hj).1
            rwa [ws_len] at this
          rw [ws_get s.at 8 j hjn] at hj
          cases hj
          have e : (⟨bs, 0, none⟩ : Addr).add j = ⟨bs, 0 + j, none⟩ := by unfold Addr.add; split <;> simp_all
          rw [e, Nat.zero_add]
          exact ((HB1.out.alloc HB1.out.size _).cell (p := ⟨bs, j, none⟩) (lt_of_cell (HS.out 0 (by decide)))).trans (HS.out j hjn)
        have Hsrc := Lib.hid hsrc
        have hown0 : (wr.alloc (.cells #[] 42)).ownsRow w.heap.size 42 1 (.slice (some ⟨wr.heap.size, 0, none⟩) 0 0) 0 [] := World.ownsRow_made wr #[] 0 HB1.out.size (by unfold maxLen; omega) rfl
        have Hown0 := Lib.hid hown0
        clear hsrc hown0
        go_wp2_with (at_builtin; refine wpList_append_own _ rfl (.tmp 106) (.tmp 107) 39 rfl w.heap.size 42 i0 (.int .u32 0) 1 4 Tryd.underlying39 Hi.out Hz0.out Hz1.out Hz2.out rfl (by decide) (.slice (some ⟨wr.heap.size, 0, none⟩) 0 0) 0 [] rfl Hown0.out ⟨bs, 0, none⟩ 8 cs (ws s.at 8) rfl (by rw [ws_len]) Hsrc.out (ws_oneL _ _) (by unfold maxLen; omega) (by omega) (by have := HB1.out.size; simp only [World.size_alloc]; omega) ?_; intro v' w1 hown' hgrow' hnil)
        simp only [Nat.zero_add, List.nil_append] at hown'
        obtain ⟨gv, cv, rfl, hv1, hv2, hv3⟩ := row_form hown' (by omega)
        have hBw : Below wr.heap.size wr w1 := ((Below.refl _ _).alloc (Nat.le_refl _) _).grown hgrow' (by simp only [World.size_alloc]; omega) (fun k hk => by cases hk; exact Nat.le_refl _)
        have Hvw : Hid (WordsAt w1 gv 8 s.at) := ⟨hv2, fun j hj => (hown'.cellAt j (by omega)).trans (ws_get _ _ j hj), fun j => hown'.frozenAt j⟩
        have Hv := Lib.hid (And.intro hv1 hv3)
        have HBw := Lib.hid (HB1.out.trans (Below.mono hBw HB1.out.size))
        have HWw : Hid (∀ j, j < 64 → w1.cell? ⟨gw, j, none⟩ = some (.int .u32 ((wv f j : Nat) : Int))) := fun j hj => (hBw.cell (p := ⟨gw, j, none⟩) Hgw.out.2).trans (HW.out j hj)
        have Hgw1 : Hid (gw < w1.heap.size) := lt_of_cell (HWw.out 0 (by decide))
        clear hown' hgrow' hnil hv1 hv2 hv3 hBw
        go_wp2_with fail
        go_loopw [13, 14] (fun v i wq => ∃ (gv cv t : Nat) (S : St), t ≤ 64 ∧ v = .slice (some ⟨gv, 0, none⟩) 8 cv ∧ i = .int .i64 (t : Int) ∧ Hid (S = rnd K (wv f) s t ∧ S.Ok ∧ 8 ≤ cv ∧ w.heap.size ≤ gv ∧ WordsAt wq gv 8 S.at ∧ Below w1.heap.size w1 wq)) (fun _ i _ => 64 - (intOf i).toNat)
        case atStart => exact ⟨gv, cv, 0, s, by omega, rfl, rfl, rfl, HO.out, Hv.out.2, Hv.out.1, Hvw.out, Below.refl _ _⟩
        case round =>
          obtain ⟨gv, cv, t, S, ht, rfl, rfl, G⟩ := hrel
          by_cases hlt : t < 64
          · have hlt2 : (t : Int) < 64 := by omega
            obtain ⟨sa, sb', sc, sd, se, sf, sg, sh⟩ := S
            have c0 : wr.cell? ⟨gv, 0, none⟩ = some (.int .u32 ((sa : Nat) : Int)) := G.out.2.2.2.2.1.cell 0 (by decide)
            have c1 : wr.cell? ⟨gv, 1, none⟩ = some (.int .u32 ((sb' : Nat) : Int)) := G.out.2.2.2.2.1.cell 1 (by decide)
            have c2 : wr.cell? ⟨gv, 2, none⟩ = some (.int .u32 ((sc : Nat) : Int)) := G.out.2.2.2.2.1.cell 2 (by decide)
            have c3 : wr.cell? ⟨gv, 3, none⟩ = some (.int .u32 ((sd : Nat) : Int)) := G.out.2.2.2.2.1.cell 3 (by decide)
            have c4 : wr.cell? ⟨gv, 4, none⟩ = some (.int .u32 ((se : Nat) : Int)) := G.out.2.2.2.2.1.cell 4 (by decide)
            have c5 : wr.cell? ⟨gv, 5, none⟩ = some (.int .u32 ((sf : Nat) : Int)) := G.out.2.2.2.2.1.cell 5 (by decide)
            have c6 : wr.cell? ⟨gv, 6, none⟩ = some (.int .u32 ((sg : Nat) : Int)) := G.out.2.2.2.2.1.cell 6 (by decide)
            have c7 : wr.cell? ⟨gv, 7, none⟩ = some (.int .u32 ((sh : Nat) : Int)) := G.out.2.2.2.2.1.cell 7 (by decide)
            have HBq := Lib.hid (HBw.out.trans (Below.mono G.out.2.2.2.2.2 HBw.out.size))
            have hk : wr.cell? ⟨bk, t, none⟩ = some (.int .u32 ((K t : Nat) : Int)) := (HBq.out.cell (p := ⟨bk, t, none⟩) (lt_of_cell (HK.out 0 (by decide)))).trans (HK.out t hlt)
            have hw : wr.cell? ⟨gw, t, none⟩ = some (.int .u32 ((wv f t : Nat) : Int)) := (G.out.2.2.2.2.2.cell (p := ⟨gw, t, none⟩) Hgw1.out).trans (HWw.out t hlt)
            obtain ⟨k, ek⟩ : ∃ k, k = K t := ⟨_, rfl⟩
            obtain ⟨x, ex⟩ : ∃ k, k = wv f t := ⟨_, rfl⟩
            rw [← ek] at hk
            rw [← ex] at hw
            have Ek := Lib.hid ek
            have Ex := Lib.hid ex
            have la : Hid (sa < B) := G.out.2.1.a
            have le : Hid (se < B) := G.out.2.1.e
            have Hlt := Lib.hid hlt
            clear ek ex ht hlt
            go_wp2_with fail
            refine region_mix 35 [false, false, false, false, false, false, false, false, false, false, false, false, false, false, false, false, false, false, false, false, false, false, false, false, false, false, false, false, false, false, false, false, false, false, false] (fun w' => w' = World.drew _) (by kernel_rfl) (by kernel_rfl) (by intro _ _ d _ _ h; cases d <;> exact h) rfl ?_
            simp only [List.take_succ_cons, List.take_zero, List.drop_succ_cons, List.drop_zero]
            with_reducible refine mix_v ?_ ?_ ?_
            · rfl
            · rfl
            apply Exists.intro
            refine ⟨fun w' hC => ?_, ?_⟩
            · subst hC
              go_simp
              rfl
            try simp only [Act.put, List.setIfInBounds_toArray, List.set_cons_zero, List.set_cons_succ, List.tail_cons]
            with_reducible refine mix_v ?_ ?_ ?_
            · rfl
            · rfl
            apply Exists.intro
            refine ⟨fun w' hC => ?_, ?_⟩
            · subst hC
              go_simp
              rfl
            try simp only [Act.put, List.setIfInBounds_toArray, List.set_cons_zero, List.set_cons_succ, List.tail_cons]
            with_reducible refine mix_v ?_ ?_ ?_
            · rfl
            · rfl
            apply Exists.intro
            refine ⟨fun w' hC => ?_, ?_⟩
            · subst hC
              go_simp
              rfl
            try simp only [Act.put, List.setIfInBounds_toArray, List.set_cons_zero, List.set_cons_succ, List.tail_cons]
            with_reducible refine mix_v ?_ ?_ ?_
            · rfl
            · rfl
            apply Exists.intro
            refine ⟨fun w' hC => ?_, ?_⟩
            · subst hC
              go_simp
              rfl
            try simp only [Act.put, List.setIfInBounds_toArray, List.set_cons_zero, List.set_cons_succ, List.tail_cons]
            with_reducible refine mix_c ?_ ?_ ?_
            · rfl
            · rfl
            apply Exists.intro
            apply Exists.intro
            apply Exists.intro
            refine ⟨fun w' hC => ?_, fun w' hC => ?_, ?_⟩
            · subst hC
              go_simp
              exact ⟨rfl, rfl⟩
            · subst hC
              exact same_of (refRot_c 6 se (by decide) le.out _)
            try simp only [Act.put, List.setIfInBounds_toArray, List.set_cons_zero, List.set_cons_succ, List.tail_cons]
            with_reducible refine mix_v ?_ ?_ ?_
            · rfl
            · rfl
            apply Exists.intro
            refine ⟨fun w' hC => ?_, ?_⟩
            · subst hC
              go_simp
              rfl
            try simp only [Act.put, List.setIfInBounds_toArray, List.set_cons_zero, List.set_cons_succ, List.tail_cons]
            with_reducible refine mix_c ?_ ?_ ?_
            · rfl
            · rfl
            apply Exists.intro
            apply Exists.intro
            apply Exists.intro
            refine ⟨fun w' hC => ?_, fun w' hC => ?_, ?_⟩
            · subst hC
              go_simp
              exact ⟨rfl, rfl⟩
            · subst hC
              exact same_of (refRot_c 11 se (by decide) le.out _)
            try simp only [Act.put, List.setIfInBounds_toArray, List.set_cons_zero, List.set_cons_succ, List.tail_cons]
            with_reducible refine mix_v ?_ ?_ ?_
            · rfl
            · rfl
            apply Exists.intro
            refine ⟨fun w' hC => ?_, ?_⟩
            · subst hC
              go_simp
              rfl
            try simp only [Act.put, List.setIfInBounds_toArray, List.set_cons_zero, List.set_cons_succ, List.tail_cons]
            with_reducible refine mix_v ?_ ?_ ?_
            · rfl
            · rfl
            apply Exists.intro
            refine ⟨fun w' hC => ?_, ?_⟩
            · subst hC
              go_simp
              rfl
            try simp only [Act.put, List.setIfInBounds_toArray, List.set_cons_zero, List.set_cons_succ, List.tail_cons]
            with_reducible refine mix_c ?_ ?_ ?_
            · rfl
            · rfl
            apply Exists.intro
            apply Exists.intro
            apply Exists.intro
            refine ⟨fun w' hC => ?_, fun w' hC => ?_, ?_⟩
            · subst hC
              go_simp
              exact ⟨rfl, rfl⟩
            · subst hC
              exact same_of (refRot_c 25 se (by decide) le.out _)
            try simp only [Act.put, List.setIfInBounds_toArray, List.set_cons_zero, List.set_cons_succ, List.tail_cons]
            with_reducible refine mix_v ?_ ?_ ?_
            · rfl
            · rfl
            apply Exists.intro
            refine ⟨fun w' hC => ?_, ?_⟩
            · subst hC
              go_simp
              rfl
            try simp only [Act.put, List.setIfInBounds_toArray, List.set_cons_zero, List.set_cons_succ, List.tail_cons]
            with_reducible refine mix_v ?_ ?_ ?_
            · rfl
            · rfl
            apply Exists.intro
            refine ⟨fun w' hC => ?_, ?_⟩
            · subst hC
              go_simp
              rfl
            try simp only [Act.put, List.setIfInBounds_toArray, List.set_cons_zero, List.set_cons_succ, List.tail_cons]
            with_reducible refine mix_v ?_ ?_ ?_
            · rfl
            · rfl
            apply Exists.intro
            refine ⟨fun w' hC => ?_, ?_⟩
            · subst hC
              go_simp
              rfl
            try simp only [Act.put, List.setIfInBounds_toArray, List.set_cons_zero, List.set_cons_succ, List.tail_cons]
            with_reducible refine mix_v ?_ ?_ ?_
            · rfl
            · rfl
            apply Exists.intro
            refine ⟨fun w' hC => ?_, ?_⟩
            · subst hC
              go_simp
              rfl
            try simp only [Act.put, List.setIfInBounds_toArray, List.set_cons_zero, List.set_cons_succ, List.tail_cons]
            with_reducible refine mix_v ?_ ?_ ?_
            · rfl
            · rfl
            apply Exists.intro
            refine ⟨fun w' hC => ?_, ?_⟩
            · subst hC
              go_simp
              rfl
            try simp only [Act.put, List.setIfInBounds_toArray, List.set_cons_zero, List.set_cons_succ, List.tail_cons]
            with_reducible refine mix_v ?_ ?_ ?_
            · rfl
            · rfl
            apply Exists.intro
            refine ⟨fun w' hC => ?_, ?_⟩
            · subst hC
              go_simp
              rfl
            try simp only [Act.put, List.setIfInBounds_toArray, List.set_cons_zero, List.set_cons_succ, List.tail_cons]
            with_reducible refine mix_v ?_ ?_ ?_
            · rfl
            · rfl
            apply Exists.intro
            refine ⟨fun w' hC => ?_, ?_⟩
            · subst hC
              go_simp
              rfl
            try simp only [Act.put, List.setIfInBounds_toArray, List.set_cons_zero, List.set_cons_succ, List.tail_cons]
            with_reducible refine mix_v ?_ ?_ ?_
            · rfl
            · rfl
            apply Exists.intro
            refine ⟨fun w' hC => ?_, ?_⟩
            · subst hC
              go_simp
              rfl
            try simp only [Act.put, List.setIfInBounds_toArray, List.set_cons_zero, List.set_cons_succ, List.tail_cons]
            with_reducible refine mix_v ?_ ?_ ?_
            · rfl
            · rfl
            apply Exists.intro
            refine ⟨fun w' hC => ?_, ?_⟩
            · subst hC
              go_simp
              rfl
            try simp only [Act.put, List.setIfInBounds_toArray, List.set_cons_zero, List.set_cons_succ, List.tail_cons]
            with_reducible refine mix_v ?_ ?_ ?_
            · rfl
            · rfl
            apply Exists.intro
            refine ⟨fun w' hC => ?_, ?_⟩
            · subst hC
              go_simp
              rfl
            try simp only [Act.put, List.setIfInBounds_toArray, List.set_cons_zero, List.set_cons_succ, List.tail_cons]
            with_reducible refine mix_v ?_ ?_ ?_
            · rfl
            · rfl
            apply Exists.intro
            refine ⟨fun w' hC => ?_, ?_⟩
            · subst hC
              go_simp
              rfl
            try simp only [Act.put, List.setIfInBounds_toArray, List.set_cons_zero, List.set_cons_succ, List.tail_cons]
            with_reducible refine mix_v ?_ ?_ ?_
            · rfl
            · rfl
            apply Exists.intro
            refine ⟨fun w' hC => ?_, ?_⟩
            · subst hC
              go_simp
              rfl
            try simp only [Act.put, List.setIfInBounds_toArray, List.set_cons_zero, List.set_cons_succ, List.tail_cons]
            with_reducible refine mix_v ?_ ?_ ?_
            · rfl
            · rfl
            apply Exists.intro
            refine ⟨fun w' hC => ?_, ?_⟩
            · subst hC
              go_simp
              rfl
            try simp only [Act.put, List.setIfInBounds_toArray, List.set_cons_zero, List.set_cons_succ, List.tail_cons]
            with_reducible refine mix_v ?_ ?_ ?_
            · rfl
            · rfl
            apply Exists.intro
            refine ⟨fun w' hC => ?_, ?_⟩
            · subst hC
              go_simp
              rfl
            try simp only [Act.put, List.setIfInBounds_toArray, List.set_cons_zero, List.set_cons_succ, List.tail_cons]
            with_reducible refine mix_v ?_ ?_ ?_
            · rfl
            · rfl
            apply Exists.intro
            refine ⟨fun w' hC => ?_, ?_⟩
            · subst hC
              go_simp
              rfl
            try simp only [Act.put, List.setIfInBounds_toArray, List.set_cons_zero, List.set_cons_succ, List.tail_cons]
            with_reducible refine mix_v ?_ ?_ ?_
            · rfl
            · rfl
            apply Exists.intro
            refine ⟨fun w' hC => ?_, ?_⟩
            · subst hC
              go_simp
              rfl
            try simp only [Act.put, List.setIfInBounds_toArray, List.set_cons_zero, List.set_cons_succ, List.tail_cons]
            with_reducible refine mix_v ?_ ?_ ?_
            · rfl
            · rfl
            apply Exists.intro
            refine ⟨fun w' hC => ?_, ?_⟩
            · subst hC
              go_simp
              rfl
            try simp only [Act.put, List.setIfInBounds_toArray, List.set_cons_zero, List.set_cons_succ, List.tail_cons]
            with_reducible refine mix_v ?_ ?_ ?_
            · rfl
            · rfl
            apply Exists.intro
            refine ⟨fun w' hC => ?_, ?_⟩
            · subst hC
              go_simp
              rfl
            try simp only [Act.put, List.setIfInBounds_toArray, List.set_cons_zero, List.set_cons_succ, List.tail_cons]
            with_reducible refine mix_v ?_ ?_ ?_
            · rfl
            · rfl
            apply Exists.intro
            refine ⟨fun w' hC => ?_, ?_⟩
            · subst hC
              go_simp
              rfl
            try simp only [Act.put, List.setIfInBounds_toArray, List.set_cons_zero, List.set_cons_succ, List.tail_cons]
            with_reducible refine mix_v ?_ ?_ ?_
            · rfl
            · rfl
            apply Exists.intro
            refine ⟨fun w' hC => ?_, ?_⟩
            · subst hC
              go_simp
              rfl
            try simp only [Act.put, List.setIfInBounds_toArray, List.set_cons_zero, List.set_cons_succ, List.tail_cons]
            with_reducible refine mix_v ?_ ?_ ?_
            · rfl
            · rfl
            apply Exists.intro
            refine ⟨fun w' hC => ?_, ?_⟩
            · subst hC
              go_simp
              rfl
            try simp only [Act.put, List.setIfInBounds_toArray, List.set_cons_zero, List.set_cons_succ, List.tail_cons]
            with_reducible refine mix_v ?_ ?_ ?_
            · rfl
            · rfl
            apply Exists.intro
            refine ⟨fun w' hC => ?_, ?_⟩
            · subst hC
              go_simp
              rfl
            try simp only [Act.put, List.setIfInBounds_toArray, List.set_cons_zero, List.set_cons_succ, List.tail_cons]
            with_reducible refine mix_v ?_ ?_ ?_
            · rfl
            · rfl
            apply Exists.intro
            refine ⟨fun w' hC => ?_, ?_⟩
            · subst hC
              go_simp
              rfl
            try simp only [Act.put, List.setIfInBounds_toArray, List.set_cons_zero, List.set_cons_succ, List.tail_cons]
            with_reducible refine mix_v ?_ ?_ ?_
            · rfl
            · rfl
            apply Exists.intro
            refine ⟨fun w' hC => ?_, ?_⟩
            · subst hC
              go_simp
              rfl
            try simp only [Act.put, List.setIfInBounds_toArray, List.set_cons_zero, List.set_cons_succ, List.tail_cons]
            with_reducible refine mix_v ?_ ?_ ?_
            · rfl
            · rfl
            apply Exists.intro
            refine ⟨fun w' hC => ?_, ?_⟩
            · subst hC
              go_simp
              rfl
            try simp only [Act.put, List.setIfInBounds_toArray, List.set_cons_zero, List.set_cons_succ, List.tail_cons]
            refine mix_nil ?_
            rintro _ rfl
            go_wp2_with fail
            refine region_mix 28 [false, false, false, false, false, false, false, false, false, false, false, false, false, false, false, false, false, false, false, false, false, false, false, false, false, false, false, false] (fun w' => w' = World.drew _) (by kernel_rfl) (by kernel_rfl) (by intro _ _ d _ _ h; cases d <;> exact h) rfl ?_
            simp only [List.take_succ_cons, List.take_zero, List.drop_succ_cons, List.drop_zero]
            with_reducible refine mix_v ?_ ?_ ?_
            · rfl
            · rfl
            apply Exists.intro
            refine ⟨fun w' hC => ?_, ?_⟩
            · subst hC
              go_simp
              rfl
            try simp only [Act.put, List.setIfInBounds_toArray, List.set_cons_zero, List.set_cons_succ, List.tail_cons]
            with_reducible refine mix_c ?_ ?_ ?_
            · rfl
            · rfl
            apply Exists.intro
            apply Exists.intro
            apply Exists.intro
            refine ⟨fun w' hC => ?_, fun w' hC => ?_, ?_⟩
            · subst hC
              go_simp
              exact ⟨rfl, rfl⟩
            · subst hC
              exact same_of (refRot_c 2 sa (by decide) la.out _)
            try simp only [Act.put, List.setIfInBounds_toArray, List.set_cons_zero, List.set_cons_succ, List.tail_cons]
            with_reducible refine mix_v ?_ ?_ ?_
            · rfl
            · rfl
            apply Exists.intro
            refine ⟨fun w' hC => ?_, ?_⟩
            · subst hC
              go_simp
              rfl
            try simp only [Act.put, List.setIfInBounds_toArray, List.set_cons_zero, List.set_cons_succ, List.tail_cons]
            with_reducible refine mix_c ?_ ?_ ?_
            · rfl
            · rfl
            apply Exists.intro
            apply Exists.intro
            apply Exists.intro
            refine ⟨fun w' hC => ?_, fun w' hC => ?_, ?_⟩
            · subst hC
              go_simp
              exact ⟨rfl, rfl⟩
            · subst hC
              exact same_of (refRot_c 13 sa (by decide) la.out _)
            try simp only [Act.put, List.setIfInBounds_toArray, List.set_cons_zero, List.set_cons_succ, List.tail_cons]
            with_reducible refine mix_v ?_ ?_ ?_
            · rfl
            · rfl
            apply Exists.intro
            refine ⟨fun w' hC => ?_, ?_⟩
            · subst hC
              go_simp
              rfl
            try simp only [Act.put, List.setIfInBounds_toArray, List.set_cons_zero, List.set_cons_succ, List.tail_cons]
            with_reducible refine mix_v ?_ ?_ ?_
            · rfl
            · rfl
            apply Exists.intro
            refine ⟨fun w' hC => ?_, ?_⟩
            · subst hC
              go_simp
              rfl
            try simp only [Act.put, List.setIfInBounds_toArray, List.set_cons_zero, List.set_cons_succ, List.tail_cons]
            with_reducible refine mix_c ?_ ?_ ?_
            · rfl
            · rfl
            apply Exists.intro
            apply Exists.intro
            apply Exists.intro
            refine ⟨fun w' hC => ?_, fun w' hC => ?_, ?_⟩
            · subst hC
              go_simp
              exact ⟨rfl, rfl⟩
            · subst hC
              exact same_of (refRot_c 22 sa (by decide) la.out _)
            try simp only [Act.put, List.setIfInBounds_toArray, List.set_cons_zero, List.set_cons_succ, List.tail_cons]
            with_reducible refine mix_v ?_ ?_ ?_
            · rfl
            · rfl
            apply Exists.intro
            refine ⟨fun w' hC => ?_, ?_⟩
            · subst hC
              go_simp
              rfl
            try simp only [Act.put, List.setIfInBounds_toArray, List.set_cons_zero, List.set_cons_succ, List.tail_cons]
            with_reducible refine mix_v ?_ ?_ ?_
            · rfl
            · rfl
            apply Exists.intro
            refine ⟨fun w' hC => ?_, ?_⟩
            · subst hC
              go_simp
              rfl
            try simp only [Act.put, List.setIfInBounds_toArray, List.set_cons_zero, List.set_cons_succ, List.tail_cons]
            with_reducible refine mix_v ?_ ?_ ?_
            · rfl
            · rfl
            apply Exists.intro
            refine ⟨fun w' hC => ?_, ?_⟩
            · subst hC
              go_simp
              rfl
            try simp only [Act.put, List.setIfInBounds_toArray, List.set_cons_zero, List.set_cons_succ, List.tail_cons]
            with_reducible refine mix_v ?_ ?_ ?_
            · rfl
            · rfl
            apply Exists.intro
            refine ⟨fun w' hC => ?_, ?_⟩
            · subst hC
              go_simp
              rfl
            try simp only [Act.put, List.setIfInBounds_toArray, List.set_cons_zero, List.set_cons_succ, List.tail_cons]
            with_reducible refine mix_v ?_ ?_ ?_
            · rfl
            · rfl
            apply Exists.intro
            refine ⟨fun w' hC => ?_, ?_⟩
            · subst hC
              go_simp
              rfl
            try simp only [Act.put, List.setIfInBounds_toArray, List.set_cons_zero, List.set_cons_succ, List.tail_cons]
            with_reducible refine mix_v ?_ ?_ ?_
            · rfl
            · rfl
            apply Exists.intro
            refine ⟨fun w' hC => ?_, ?_⟩
            · subst hC
              go_simp
              rfl
            try simp only [Act.put, List.setIfInBounds_toArray, List.set_cons_zero, List.set_cons_succ, List.tail_cons]
            with_reducible refine mix_v ?_ ?_ ?_
            · rfl
            · rfl
            apply Exists.intro
            refine ⟨fun w' hC => ?_, ?_⟩
            · subst hC
              go_simp
              rfl
            try simp only [Act.put, List.setIfInBounds_toArray, List.set_cons_zero, List.set_cons_succ, List.tail_cons]
            with_reducible refine mix_v ?_ ?_ ?_
            · rfl
            · rfl
            apply Exists.intro
            refine ⟨fun w' hC => ?_, ?_⟩
            · subst hC
              go_simp
              rfl
            try simp only [Act.put, List.setIfInBounds_toArray, List.set_cons_zero, List.set_cons_succ, List.tail_cons]
            with_reducible refine mix_v ?_ ?_ ?_
            · rfl
            · rfl
            apply Exists.intro
            refine ⟨fun w' hC => ?_, ?_⟩
            · subst hC
              go_simp
              rfl
            try simp only [Act.put, List.setIfInBounds_toArray, List.set_cons_zero, List.set_cons_succ, List.tail_cons]
            with_reducible refine mix_v ?_ ?_ ?_
            · rfl
            · rfl
            apply Exists.intro
            refine ⟨fun w' hC => ?_, ?_⟩
            · subst hC
              go_simp
              rfl
            try simp only [Act.put, List.setIfInBounds_toArray, List.set_cons_zero, List.set_cons_succ, List.tail_cons]
            with_reducible refine mix_v ?_ ?_ ?_
            · rfl
            · rfl
            apply Exists.intro
            refine ⟨fun w' hC => ?_, ?_⟩
            · subst hC
              go_simp
              rfl
            try simp only [Act.put, List.setIfInBounds_toArray, List.set_cons_zero, List.set_cons_succ, List.tail_cons]
            with_reducible refine mix_v ?_ ?_ ?_
            · rfl
            · rfl
            apply Exists.intro
            refine ⟨fun w' hC => ?_, ?_⟩
            · subst hC
              go_simp
              rfl
            try simp only [Act.put, List.setIfInBounds_toArray, List.set_cons_zero, List.set_cons_succ, List.tail_cons]
            with_reducible refine mix_v ?_ ?_ ?_
            · rfl
            · rfl
            apply Exists.intro
            refine ⟨fun w' hC => ?_, ?_⟩
            · subst hC
              go_simp
              rfl
            try simp only [Act.put, List.setIfInBounds_toArray, List.set_cons_zero, List.set_cons_succ, List.tail_cons]
            with_reducible refine mix_v ?_ ?_ ?_
            · rfl
            · rfl
            apply Exists.intro
            refine ⟨fun w' hC => ?_, ?_⟩
            · subst hC
              go_simp
              rfl
            try simp only [Act.put, List.setIfInBounds_toArray, List.set_cons_zero, List.set_cons_succ, List.tail_cons]
            with_reducible refine mix_v ?_ ?_ ?_
            · rfl
            · rfl
            apply Exists.intro
            refine ⟨fun w' hC => ?_, ?_⟩
            · subst hC
              go_simp
              rfl
            try simp only [Act.put, List.setIfInBounds_toArray, List.set_cons_zero, List.set_cons_succ, List.tail_cons]
            with_reducible refine mix_v ?_ ?_ ?_
            · rfl
            · rfl
            apply Exists.intro
            refine ⟨fun w' hC => ?_, ?_⟩
            · subst hC
              go_simp
              rfl
            try simp only [Act.put, List.setIfInBounds_toArray, List.set_cons_zero, List.set_cons_succ, List.tail_cons]
            with_reducible refine mix_v ?_ ?_ ?_
            · rfl
            · rfl
            apply Exists.intro
            refine ⟨fun w' hC => ?_, ?_⟩
            · subst hC
              go_simp
              rfl
            try simp only [Act.put, List.setIfInBounds_toArray, List.set_cons_zero, List.set_cons_succ, List.tail_cons]
            with_reducible refine mix_v ?_ ?_ ?_
            · rfl
            · rfl
            apply Exists.intro
            refine ⟨fun w' hC => ?_, ?_⟩
            · subst hC
              go_simp
              rfl
            try simp only [Act.put, List.setIfInBounds_toArray, List.set_cons_zero, List.set_cons_succ, List.tail_cons]
            with_reducible refine mix_v ?_ ?_ ?_
            · rfl
            · rfl
            apply Exists.intro
            refine ⟨fun w' hC => ?_, ?_⟩
            · subst hC
              go_simp
              rfl
            try simp only [Act.put, List.setIfInBounds_toArray, List.set_cons_zero, List.set_cons_succ, List.tail_cons]
            with_reducible refine mix_v ?_ ?_ ?_
            · rfl
            · rfl
            apply Exists.intro
            refine ⟨fun w' hC => ?_, ?_⟩
            · subst hC
              go_simp
              rfl
            try simp only [Act.put, List.setIfInBounds_toArray, List.set_cons_zero, List.set_cons_succ, List.tail_cons]
            with_reducible refine mix_v ?_ ?_ ?_
            · rfl
            · rfl
            apply Exists.intro
            refine ⟨fun w' hC => ?_, ?_⟩
            · subst hC
              go_simp
              rfl
            try simp only [Act.put, List.setIfInBounds_toArray, List.set_cons_zero, List.set_cons_succ, List.tail_cons]
            refine mix_nil ?_
            rintro _ rfl
            go_wp2_with fail
            rw [refT1_val (sa := sa) (sb' := sb') (sc := sc) (sd := sd) le.out G.out.2.1.f G.out.2.1.g, refT2_val (sd := sd) (se := se) (sf := sf) (sg := sg) (sh := sh) la.out G.out.2.1.b G.out.2.1.c]
            obtain ⟨T1, eT1⟩ : ∃ z, z = t1 k x ⟨sa, sb', sc, sd, se, sf, sg, sh⟩ := ⟨_, rfl⟩
            obtain ⟨T2, eT2⟩ : ∃ z, z = t2 ⟨sa, sb', sc, sd, se, sf, sg, sh⟩ := ⟨_, rfl⟩
            rw [← eT1, ← eT2]
            have hgv : gv < wr.heap.size := G.out.2.2.2.2.1.blk
            have ET1 := Lib.hid eT1
            have ET2 := Lib.hid eT2
            clear eT1 eT2
            refine region_grow 23 [0, 1, 2, 3, 4, 5, 6, 7, 8, 9, 10, 11, 12, 13, 14, 15, 16, 17, 18, 19, 20, 21, 22] [(22, (fun b => Value.slice (some ⟨b, 0, Option.none⟩) 8 8), (Obj.cells #[.int .u32 ((ad T1 T2 : Nat) : Int), .int .u32 ((sa : Nat) : Int), .int .u32 ((sb' : Nat) : Int), .int .u32 ((sc : Nat) : Int), .int .u32 ((ad sd T1 : Nat) : Int), .int .u32 ((se : Nat) : Int), .int .u32 ((sf : Nat) : Int), .int .u32 ((sg : Nat) : Int)] 42 (0, 0)))] [] (by kernel_rfl) (by kernel_rfl) ?_
            with_reducible apply grow_v
            · rfl
            · rfl
            · rfl
            apply Exists.intro
            refine ⟨fun w' hC => ?_, ?_⟩
            · have hcell := below_cells hC
              clear hC
              go_simp
              rfl
            try simp only [Act.put, List.setIfInBounds_toArray, List.set_cons_zero, List.set_cons_succ, List.tail_cons]
            with_reducible apply grow_v
            · rfl
            · rfl
            · rfl
            apply Exists.intro
            refine ⟨fun w' hC => ?_, ?_⟩
            · have hcell := below_cells hC
              clear hC
              go_simp
              rfl
            try simp only [Act.put, List.setIfInBounds_toArray, List.set_cons_zero, List.set_cons_succ, List.tail_cons]
            with_reducible apply grow_v
            · rfl
            · rfl
            · rfl
            apply Exists.intro
            refine ⟨fun w' hC => ?_, ?_⟩
            · have hcell := below_cells hC
              clear hC
              go_simp
              rfl
            try simp only [Act.put, List.setIfInBounds_toArray, List.set_cons_zero, List.set_cons_succ, List.tail_cons]
            with_reducible apply grow_v
            · rfl
            · rfl
            · rfl
            apply Exists.intro
            refine ⟨fun w' hC => ?_, ?_⟩
            · have hcell := below_cells hC
              clear hC
              go_simp
              rfl
            try simp only [Act.put, List.setIfInBounds_toArray, List.set_cons_zero, List.set_cons_succ, List.tail_cons]
            with_reducible apply grow_v
            · rfl
            · rfl
            · rfl
            apply Exists.intro
            refine ⟨fun w' hC => ?_, ?_⟩
            · have hcell := below_cells hC
              clear hC
              go_simp
              rfl
            try simp only [Act.put, List.setIfInBounds_toArray, List.set_cons_zero, List.set_cons_succ, List.tail_cons]
            with_reducible apply grow_v
            · rfl
            · rfl
            · rfl
            apply Exists.intro
            refine ⟨fun w' hC => ?_, ?_⟩
            · have hcell := below_cells hC
              clear hC
              go_simp
              rfl
            try simp only [Act.put, List.setIfInBounds_toArray, List.set_cons_zero, List.set_cons_succ, List.tail_cons]
            with_reducible apply grow_v
            · rfl
            · rfl
            · rfl
            apply Exists.intro
            refine ⟨fun w' hC => ?_, ?_⟩
            · have hcell := below_cells hC
              clear hC
              simp only [World.size_drew] at hcell
              go_simp
              rfl
            try simp only [Act.put, List.setIfInBounds_toArray, List.set_cons_zero, List.set_cons_succ, List.tail_cons]
            with_reducible apply grow_v
            · rfl
            · rfl
            · rfl
            apply Exists.intro
            refine ⟨fun w' hC => ?_, ?_⟩
            · have hcell := below_cells hC
              clear hC
              go_simp
              rfl
            try simp only [Act.put, List.setIfInBounds_toArray, List.set_cons_zero, List.set_cons_succ, List.tail_cons]
            with_reducible apply grow_v
            · rfl
            · rfl
            · rfl
            apply Exists.intro
            refine ⟨fun w' hC => ?_, ?_⟩
            · have hcell := below_cells hC
              clear hC
              go_simp
              rfl
            try simp only [Act.put, List.setIfInBounds_toArray, List.set_cons_zero, List.set_cons_succ, List.tail_cons]
            with_reducible apply grow_v
            · rfl
            · rfl
            · rfl
            apply Exists.intro
            refine ⟨fun w' hC => ?_, ?_⟩
            · have hcell := below_cells hC
              clear hC
              simp only [World.size_drew] at hcell
              go_simp
              rfl
            try simp only [Act.put, List.setIfInBounds_toArray, List.set_cons_zero, List.set_cons_succ, List.tail_cons]
            with_reducible apply grow_v
            · rfl
            · rfl
            · rfl
            apply Exists.intro
            refine ⟨fun w' hC => ?_, ?_⟩
            · have hcell := below_cells hC
              clear hC
              go_simp
              rfl
            try simp only [Act.put, List.setIfInBounds_toArray, List.set_cons_zero, List.set_cons_succ, List.tail_cons]
            with_reducible apply grow_v
            · rfl
            · rfl
            · rfl
            apply Exists.intro
            refine ⟨fun w' hC => ?_, ?_⟩
            · have hcell := below_cells hC
              clear hC
              go_simp
              rfl
            try simp only [Act.put, List.setIfInBounds_toArray, List.set_cons_zero, List.set_cons_succ, List.tail_cons]
            with_reducible apply grow_v
            · rfl
            · rfl
            · rfl
            apply Exists.intro
            refine ⟨fun w' hC => ?_, ?_⟩
            · have hcell := below_cells hC
              clear hC
              simp only [World.size_drew] at hcell
              go_simp
              rfl
            try simp only [Act.put, List.setIfInBounds_toArray, List.set_cons_zero, List.set_cons_succ, List.tail_cons]
            with_reducible apply grow_v
            · rfl
            · rfl
            · rfl
            apply Exists.intro
            refine ⟨fun w' hC => ?_, ?_⟩
            · have hcell := below_cells hC
              clear hC
              go_simp
              rfl
            try simp only [Act.put, List.setIfInBounds_toArray, List.set_cons_zero, List.set_cons_succ, List.tail_cons]
            with_reducible apply grow_v
            · rfl
            · rfl
            · rfl
            apply Exists.intro
            refine ⟨fun w' hC => ?_, ?_⟩
            · have hcell := below_cells hC
              clear hC
              go_simp
              rfl
            try simp only [Act.put, List.setIfInBounds_toArray, List.set_cons_zero, List.set_cons_succ, List.tail_cons]
            with_reducible apply grow_v
            · rfl
            · rfl
            · rfl
            apply Exists.intro
            refine ⟨fun w' hC => ?_, ?_⟩
            · have hcell := below_cells hC
              clear hC
              go_simp
              rfl
            try simp only [Act.put, List.setIfInBounds_toArray, List.set_cons_zero, List.set_cons_succ, List.tail_cons]
            with_reducible apply grow_v
            · rfl
            · rfl
            · rfl
            apply Exists.intro
            refine ⟨fun w' hC => ?_, ?_⟩
            · have hcell := below_cells hC
              clear hC
              go_simp
              rfl
            try simp only [Act.put, List.setIfInBounds_toArray, List.set_cons_zero, List.set_cons_succ, List.tail_cons]
            with_reducible apply grow_v
            · rfl
            · rfl
            · rfl
            apply Exists.intro
            refine ⟨fun w' hC => ?_, ?_⟩
            · have hcell := below_cells hC
              clear hC
              go_simp
              rfl
            try simp only [Act.put, List.setIfInBounds_toArray, List.set_cons_zero, List.set_cons_succ, List.tail_cons]
            with_reducible apply grow_v
            · rfl
            · rfl
            · rfl
            apply Exists.intro
            refine ⟨fun w' hC => ?_, ?_⟩
            · have hcell := below_cells hC
              clear hC
              simp only [World.size_drew] at hcell
              go_simp
              rfl
            try simp only [Act.put, List.setIfInBounds_toArray, List.set_cons_zero, List.set_cons_succ, List.tail_cons]
            with_reducible apply grow_v
            · rfl
            · rfl
            · rfl
            apply Exists.intro
            refine ⟨fun w' hC => ?_, ?_⟩
            · have hcell := below_cells hC
              clear hC
              go_simp
              rfl
            try simp only [Act.put, List.setIfInBounds_toArray, List.set_cons_zero, List.set_cons_succ, List.tail_cons]
            with_reducible apply grow_v
            · rfl
            · rfl
            · rfl
            apply Exists.intro
            refine ⟨fun w' hC => ?_, ?_⟩
            · have hcell := below_cells hC
              clear hC
              go_simp
              rfl
            try simp only [Act.put, List.setIfInBounds_toArray, List.set_cons_zero, List.set_cons_succ, List.tail_cons]
            with_reducible apply grow_v
            · rfl
            · rfl
            · rfl
            apply Exists.intro
            refine ⟨fun w' hC => ?_, ?_⟩
            · have hcell := below_cells hC
              clear hC
              simp only [World.size_drew] at hcell
              go_simp
              rfl
            try simp only [Act.put, List.setIfInBounds_toArray, List.set_cons_zero, List.set_cons_succ, List.tail_cons]
            with_reducible apply grow_m
            · rfl
            · rfl
            · rfl
            refine ⟨fun w' hC => ?_, fun b22 => ?_⟩
            · (clear hC; go_simp; first | done | simp only [wrap_ad])
            try dsimp only
            try simp only [Act.put, List.setIfInBounds_toArray, List.set_cons_zero, List.set_cons_succ, List.tail_cons]
            refine grow_end ?_
            intro wg20 hg20
            obtain ⟨cg20, fg20, sg20⟩ := bfacts hg20.grows
            try simp only [World.size_alloc, World.size_setCell, size_drew, size_drewN] at sg20
            have hb22 := Lib.hid (hg20.has (b22, Obj.cells #[.int .u32 ((ad T1 T2 : Nat) : Int), .int .u32 ((sa : Nat) : Int), .int .u32 ((sb' : Nat) : Int), .int .u32 ((sc : Nat) : Int), .int .u32 ((ad sd T1 : Nat) : Int), .int .u32 ((se : Nat) : Int), .int .u32 ((sf : Nat) : Int), .int .u32 ((sg : Nat) : Int)] 42 (0, 0)) (by simp only [List.mem_cons, true_or, or_true]))
            have lb22 : b22 < wg20.heap.size := (Array.getElem?_eq_some_iff.1 hb22.out).1
            have nb22 := hg20.new (b22, Obj.cells #[.int .u32 ((ad T1 T2 : Nat) : Int), .int .u32 ((sa : Nat) : Int), .int .u32 ((sb' : Nat) : Int), .int .u32 ((sc : Nat) : Int), .int .u32 ((ad sd T1 : Nat) : Int), .int .u32 ((se : Nat) : Int), .int .u32 ((sf : Nat) : Int), .int .u32 ((sg : Nat) : Int)] 42 (0, 0)) (by simp only [List.mem_cons, true_or, or_true])
            try simp only [World.size_alloc, World.size_setCell, size_drew, size_drewN] at nb22
            have Hg20 : Below _ _ wg20 := hg20.grows
            clear hg20
            simp only [List.drop_succ_cons, List.drop_zero]
            have Hst : Hid (w.heap.size ≤ b22) := Nat.le_trans HBq.out.size nb22
            have Hw22 : Hid (WordsAt wg20 b22 8 (step k x ⟨sa, sb', sc, sd, se, sf, sg, sh⟩).at) := words_lit hb22.out (fun j hj => by
              unfold step
              rw [← ET1.out, ← ET2.out]
              have h : j = 0 ∨ j = 1 ∨ j = 2 ∨ j = 3 ∨ j = 4 ∨ j = 5 ∨ j = 6 ∨ j = 7 := by omega
              rcases h with rfl | rfl | rfl | rfl | rfl | rfl | rfl | rfl <;> rfl)
            have HBn : Hid (Below w1.heap.size w1 wg20) := G.out.2.2.2.2.2.drew.drew.drew.trans (Below.mono Hg20 (by simp only [World.size_drew]; exact G.out.2.2.2.2.2.size))
            clear c0 c1 c2 c3 c4 c5 c6 c7 hk hw cg20 fg20 hb22 Hg20 hgv
            go_wp2_with fail
            go_roundw
            case rel =>
              refine ⟨b22, 8, t + 1, step k x ⟨sa, sb', sc, sd, se, sf, sg, sh⟩, Hlt.out, rfl, by go_num, ?_, step_ok G.out.2.1, Nat.le_refl _, Hst.out, Hw22.out, HBn.out⟩
              show _ = step (K t) (wv f t) (rnd K (wv f) s t)
              rw [← G.out.1, ← Ek.out, ← Ex.out]
            case measure => have := Hlt.out; simp [intOf]; omega
          · obtain rfl : t = 64 := by omega
            obtain ⟨w2, ew2⟩ : ∃ w2 : World, w2 = wr := ⟨_, rfl⟩
            subst ew2
            have HS2 : Hid (S = rnd K (wv f) s 64) := G.out.1
            have HV2 : Hid (WordsAt w2 gv 8 S.at) := G.out.2.2.2.2.1
            have HB2 := Lib.hid (HBw.out.trans (Below.mono G.out.2.2.2.2.2 HBw.out.size))
            have Hgv : Hid (8 ≤ cv ∧ w.heap.size ≤ gv) := ⟨G.out.2.2.1, G.out.2.2.2.1⟩
            clear hlt ht G
            go_wp2_with fail
            go_loopw [19] (fun i wq => ∃ (t : Nat), t ≤ 8 ∧ i = .int .i64 (t : Int) ∧ Hid (WordsAt wq gv 8 (fun j => if j < t then ad (S.at j) (s.at j) else S.at j) ∧ Below w.heap.size w wq)) (fun i _ => 8 - (intOf i).toNat)
            case atStart => exact ⟨0, by omega, rfl, ⟨HV2.out, HB2.out⟩⟩
            case round =>
              obtain ⟨t, ht, rfl, H⟩ := hrel
              by_cases hlt : t < 8
              · have hlt2 : (t : Int) < 8 := by omega
                have c0 : wr.cell? ⟨gv, t, none⟩ = some (.int .u32 ((S.at t : Nat) : Int)) := (H.out.1.cell t hlt).trans (by rw [if_neg (by omega)])
                have c1 : wr.cell? ⟨bs, t, none⟩ = some (.int .u32 ((s.at t : Nat) : Int)) := (H.out.2.cell (p := ⟨bs, t, none⟩) (lt_of_cell (HS.out 0 (by decide)))).trans (HS.out t hlt)
                have cf : wr.frozen? ⟨gv, t, none⟩ = false := H.out.1.fz t
                obtain ⟨x, ex⟩ : ∃ x, x = S.at t := ⟨_, rfl⟩
                obtain ⟨y, ey⟩ : ∃ y, y = s.at t := ⟨_, rfl⟩
                rw [← ex] at c0
                rw [← ey] at c1
                have Ex := Lib.hid ex
                have Ey := Lib.hid ey
                have Hlt := Lib.hid hlt
                clear ex ey ht hlt
                go_wp2_with fail
                refine region_mix 10 [false, false, false, false, false, false, false, false, false, false] (fun w' => w' = World.drew _) (by kernel_rfl) (by kernel_rfl) (by intro _ _ d _ _ h; cases d <;> exact h) rfl ?_
                simp only [List.take_succ_cons, List.take_zero, List.drop_succ_cons, List.drop_zero]
                with_reducible refine mix_v ?_ ?_ ?_
                · rfl
                · rfl
                apply Exists.intro
                refine ⟨fun w' hC => ?_, ?_⟩
                · subst hC
                  go_simp
                  rfl
                try simp only [Act.put, List.setIfInBounds_toArray, List.set_cons_zero, List.set_cons_succ, List.tail_cons]
                with_reducible refine mix_v ?_ ?_ ?_
                · rfl
                · rfl
                apply Exists.intro
                refine ⟨fun w' hC => ?_, ?_⟩
                · subst hC
                  go_simp
                  rfl
                try simp only [Act.put, List.setIfInBounds_toArray, List.set_cons_zero, List.set_cons_succ, List.tail_cons]
                with_reducible refine mix_v ?_ ?_ ?_
                · rfl
                · rfl
                apply Exists.intro
                refine ⟨fun w' hC => ?_, ?_⟩
                · subst hC
                  go_simp
                  rfl
                try simp only [Act.put, List.setIfInBounds_toArray, List.set_cons_zero, List.set_cons_succ, List.tail_cons]
                with_reducible refine mix_v ?_ ?_ ?_
                · rfl
                · rfl
                apply Exists.intro
                refine ⟨fun w' hC => ?_, ?_⟩
                · subst hC
                  go_simp
                  rfl
                try simp only [Act.put, List.setIfInBounds_toArray, List.set_cons_zero, List.set_cons_succ, List.tail_cons]
                with_reducible refine mix_v ?_ ?_ ?_
                · rfl
                · rfl
                apply Exists.intro
                refine ⟨fun w' hC => ?_, ?_⟩
                · subst hC
                  go_simp
                  rfl
                try simp only [Act.put, List.setIfInBounds_toArray, List.set_cons_zero, List.set_cons_succ, List.tail_cons]
                with_reducible refine mix_v ?_ ?_ ?_
                · rfl
                · rfl
                apply Exists.intro
                refine ⟨fun w' hC => ?_, ?_⟩
                · subst hC
                  go_simp
                  rfl
                try simp only [Act.put, List.setIfInBounds_toArray, List.set_cons_zero, List.set_cons_succ, List.tail_cons]
                with_reducible refine mix_v ?_ ?_ ?_
                · rfl
                · rfl
                apply Exists.intro
                refine ⟨fun w' hC => ?_, ?_⟩
                · subst hC
                  go_simp
                  rfl
                try simp only [Act.put, List.setIfInBounds_toArray, List.set_cons_zero, List.set_cons_succ, List.tail_cons]
                with_reducible refine mix_v ?_ ?_ ?_
                · rfl
                · rfl
                apply Exists.intro
                refine ⟨fun w' hC => ?_, ?_⟩
                · subst hC
                  go_simp
                  rfl
                try simp only [Act.put, List.setIfInBounds_toArray, List.set_cons_zero, List.set_cons_succ, List.tail_cons]
                with_reducible refine mix_v ?_ ?_ ?_
                · rfl
                · rfl
                apply Exists.intro
                refine ⟨fun w' hC => ?_, ?_⟩
                · subst hC
                  go_simp
                  rfl
                try simp only [Act.put, List.setIfInBounds_toArray, List.set_cons_zero, List.set_cons_succ, List.tail_cons]
                with_reducible refine mix_v ?_ ?_ ?_
                · rfl
                · rfl
                apply Exists.intro
                refine ⟨fun w' hC => ?_, ?_⟩
                · subst hC
                  go_simp
                  rfl
                try simp only [Act.put, List.setIfInBounds_toArray, List.set_cons_zero, List.set_cons_succ, List.tail_cons]
                refine mix_nil ?_
                rintro _ rfl
                go_wp2_with fail
                go_roundw
                case rel =>
                  rw [add2_val]
                  have h := (H.out.1.set Hlt.out (ad x y)).drew
                  refine ⟨t + 1, Hlt.out, by go_num, ⟨h.blk, fun j hj => (h.cell j hj).trans ?_, h.fz⟩, (H.out.2.setCell Hgv.out.2 _).drew⟩
                  unfold upd
                  dsimp only
                  by_cases e : j = t
                  · subst e
                    rw [if_pos rfl, if_pos (Nat.lt_succ_self _), Ex.out, Ey.out]
                  · rw [if_neg e]
                    by_cases h2 : j < t
                    · rw [if_pos h2, if_pos (by omega)]
                    · rw [if_neg h2, if_neg (by omega)]
                case measure => have := Hlt.out; simp [intOf]; omega
              · obtain rfl : t = 8 := by omega
                clear hlt ht
                go_wp2_with fail
                go_ret
                refine ⟨⟨gv, cv, rfl, Hgv.out.1, Hgv.out.2, fun j hj => (H.out.1.cell j hj).trans ?_⟩, H.out.2⟩
                rw [if_pos hj]
                show _ = some (Value.int IntKind.u32 ((((addS (rnd K (wv f) s 64) s).at j : Nat)) : Int))
                rw [addS_at _ _ j hj, HS2.out]
end Go.Proofs.YtdaggankfokloaaDoor
