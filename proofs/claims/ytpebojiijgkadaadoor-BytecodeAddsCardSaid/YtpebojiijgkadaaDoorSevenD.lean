/- bytes.Equal and bytes.HasPrefix on slices of known bytes. The law 'held' where two operations may come up: both ways. The contracts of law 7's get, form and alive. The walk of law 7's BytecodeReduces. -/
import Derived.Test.YtpebojiijgkadaaDoorSevenB
import Derived.Test.YtpebojiijgkadaaDoorHeldM
import Derived.Test.YtpebojiijgkadaaDoorSevenC
import Derived.Test.YtpebojiijgkadaaDoorLawAlive
import Derived.Test.YtpebojiijgkadaaDoorLawPair
import Derived.Test.YtpebojiijgkadaaDoorHeldx
namespace Go.Proofs.YtpebojiijgkadaaDoor
set_option linter.all false
open Go Go.RowKit

/-- The numbers of n bytes. -/
def nl (f : Nat → Nat) (n : Nat) : List Int := (List.range n).map fun j => ((f j : Nat) : Int)
theorem nl_len (f : Nat → Nat) (n : Nat) : (nl f n).length = n := by simp [nl]
theorem nl_get (f : Nat → Nat) (n i : Nat) (h : i < n) : (nl f n).getD i 0 = ((f i : Nat) : Int) := by simp [nl, List.getD, h]
theorem nl_congr {f g : Nat → Nat} {n : Nat} (h : ∀ j, j < n → f j = g j) : nl f n = nl g n := by
  unfold nl
  exact List.map_congr_left fun j hj => by rw [h j (List.mem_range.1 hj)]
theorem SliceAt.bytesIn {w : World} {a : Option Addr} {n : Nat} {f : Nat → Nat} (h : SliceAt w a n f) : Lib.BytesIn w a n (nl f n) := by
  intro hn
  obtain ⟨b, off, rfl, hB⟩ := h.pos hn
  refine ⟨b, off, rfl, fun i hi => ?_⟩
  rw [nl_get f n i hi]
  exact hB.cell i hi

theorem bytesEq_c (w : World) (a b : Option Addr) (n c d : Nat) (f g : Nat → Nat) (h1 : SliceAt w a n f) (h2 : SliceAt w b n g) (h : ∀ j, j < n → f j = g j) :
    Calls Tryd.prog 41 #[.slice a n c, .slice b n d] w fun e w' => e = .returned (.bool true) ∧ Below w.heap.size w w' := by
  refine (Tryd.bytes_Equal_all a b n c n d (nl f n) (nl g n) w (nl_len f n) (nl_len g n) h1.bytesIn h2.bytesIn).mono ?_
  rintro e w' ⟨rfl, rfl⟩
  refine ⟨?_, Below.refl _ _⟩
  rw [nl_congr h]
  simp
theorem bytesPre_c (w : World) (a b : Option Addr) (n c m d : Nat) (f g : Nat → Nat) (hc : n ≤ c) (hm : m ≤ n) (h1 : SliceAt w a n f) (h2 : SliceAt w b m g) (h : ∀ j, j < m → f j = g j) :
    Calls Tryd.prog 65 #[.slice a n c, .slice b m d] w fun e w' => e = .returned (.bool true) ∧ Below w.heap.size w w' := by
  refine (Tryd.bytes_HasPrefix_all a b n c m d (nl f n) (nl g m) w (nl_len f n) (nl_len g m) hc h1.bytesIn h2.bytesIn).mono ?_
  rintro e w' ⟨rfl, rfl⟩
  refine ⟨?_, Below.refl _ _⟩
  rw [← Lib.bytes_hasPrefix, nl_len, nl_len]
  have e : (nl f n).take m = nl g m := by
    rw [← nl_congr h]
    unfold nl
    rw [← List.map_take, List.take_range, Nat.min_eq_left hm]
  rw [e]
  simp [hm]
end Go.Proofs.YtpebojiijgkadaaDoor

namespace Go.Proofs.YtpebojiijgkadaaDoor
set_option linter.all false
open Go Go.RowKit

/-- None but i and k may come up. -/
def soleM2 (md : Region.Mode) (m i k : Nat) : Nat → List Oper → Bool
  | _, [] => true
  | j, y :: r => (j == i || j == k || m.testBit j || y.after.any fun e => Region.binds md e && !m.testBit e.on) && soleM2 md m i k (j + 1) r
theorem soleM2_spec {md : Region.Mode} {m i k' : Nat} : ∀ {l : List Oper} {k : Nat}, soleM2 md m i k' k l = true → ∀ j y, l[j]? = some y → k + j = i ∨ k + j = k' ∨ m.testBit (k + j) = true ∨ ∃ e ∈ y.after, Region.binds md e = true ∧ m.testBit e.on = false
  | [], _, _, j, y, h => by simp at h
  | y :: r, k, hB, j, z, h => by
    simp only [soleM2, Bool.and_eq_true, Bool.or_eq_true, beq_iff_eq, Array.any_eq_true', Bool.not_eq_true'] at hB
    cases j with
    | zero =>
      simp only [List.getElem?_cons_zero, Option.some.injEq] at h
      subst h
      rcases hB.1 with ((h1 | h1) | h1) | ⟨e, h1, h2, h3⟩
      · exact .inl h1
      · exact .inr (.inl h1)
      · exact .inr (.inr (.inl h1))
      · exact .inr (.inr (.inr ⟨e, h1, h2, h3⟩))
    | succ j =>
      have := soleM2_spec hB.2 j z (by simpa using h)
      rwa [show k + 1 + j = k + (j + 1) by omega] at this

section
variable {P : Program} {Q : Exit → Act → World → Prop} {L : List Nat} {V : World} {md : Region.Mode} {ops : Array Oper} {n N m m1 m2 : Nat} {a : Act} {w : World} {o o2 : Oper}

theorem heldm_two (i k : Nat) {r r2 : List Oper} (hN : ops.size ≤ N) (hi : ops.toList.drop i = o :: r) (hk : ops.toList.drop k = o2 :: r2) (hun : m.testBit i = false) (haf : afterM md m o = true) (hlt : o.after.all (fun e => e.on < N) = true)
    (hso : soleM2 md m i k 0 ops.toList = true) (hm1 : m ||| 1 <<< i = m1) (hm2 : m ||| 1 <<< k = m2)
    (hg1 : Region.wanted o (yielded ops a.tmps) = true) (hg2 : Region.wanted o2 (yielded ops a.tmps) = true)
    (h1 : o.wp P a w (fun a' w' => KeepL L V w' ∧ wpAnyH P md ops Q (KeepL L V) n (lsM N m1) a' w') Q)
    (h2 : o2.wp P a w (fun a' w' => KeepL L V w' ∧ wpAnyH P md ops Q (KeepL L V) n (lsM N m2) a' w') Q) : wpAnyH P md ops Q (KeepL L V) (n + 1) (lsM N m) a w := by
  have hr := readyM (md := md) hN hi hun haf hlt
  rw [← lsM_set hm1] at h1
  rw [← lsM_set hm2] at h2
  refine ⟨fun h0 => (by rw [h0] at hr; cases hr), fun j hj => ?_⟩
  obtain ⟨hjun, oj, hoj, hall⟩ := mem_ready.1 hj
  have hl := (Array.getElem?_eq_some_iff.1 hoj).1
  rw [lsM_getD, if_pos (by omega)] at hjun
  have e : j = i ∨ j = k := by
    rcases soleM2_spec hso j oj (by simpa using hoj) with h1 | h1 | h1 | ⟨e, h1, h2, h3⟩
    · omega
    · omega
    · rw [Nat.zero_add, hjun] at h1; cases h1
    · have h4 := hall e h1 h2
      rw [lsM_getD] at h4
      split at h4
      · rw [h3] at h4; cases h4
      · cases h4
  rcases e with rfl | rfl
  · unfold wpOp
    simp only [drop_at hi]
    rw [if_pos hg1]
    exact .inl h1
  · unfold wpOp
    simp only [drop_at hk]
    rw [if_pos hg2]
    exact .inl h2
theorem heldw_call {K : Act → World → Prop} (hS : KeepL L V w)
    (h : ∃ f args v, (execOp a.eval o).run P w = .ok (.enter f args) w ∧ (Calls P f args w fun e w' => e = .returned v ∧ Below w.heap.size w w') ∧ (∀ b ∈ L, b < w.heap.size) ∧
      ∀ w', Below w.heap.size w w' → KeepL L V w' → K (a.put o.dst v) w') : o.wp P a w (fun a' w' => KeepL L V w' ∧ K a' w') Q := by
  obtain ⟨f, args, v, he, hc, hL, hk⟩ := h
  unfold Oper.wp
  rw [he]
  refine hc.mono ?_
  rintro _ w' ⟨rfl, hb⟩
  exact ⟨hS.below hb hL, hk w' hb (hS.below hb hL)⟩
theorem heldw_o {K : Act → World → Prop} (h : ∃ v w', (execOp a.eval o).run P w = .ok (.value v) w' ∧ KeepL L V w' ∧ (KeepL L V w' → K (a.put o.dst v) w')) : o.wp P a w (fun a' w' => KeepL L V w' ∧ K a' w') Q := by
  obtain ⟨v, w', he, hk, h⟩ := h
  unfold Oper.wp
  rw [he]
  exact ⟨hk, h hk⟩
end
end Go.Proofs.YtpebojiijgkadaaDoor

namespace Go.Proofs.YtpebojiijgkadaaDoor
set_option linter.all false
open Go Go.RowKit

theorem lawID_b (s : Bool) (w : World) : Calls Tryd.prog 48 #[.bool s] w fun e w' => e = .returned (.int .i64 (fid s)) ∧ Below w.heap.size w w' :=
  (lawID_c s w).mono fun e w' ⟨h, h2⟩ => ⟨h, h2 ▸ Below.refl _ _⟩

set_option maxRecDepth 100000 in
set_option maxHeartbeats 4000000 in
theorem get7_c (s : Bool) (w : World) (hL : Laid w) :
    Calls Tryd.prog 34 #[.bool s] w fun e w' => e = .returned (.tuple #[fieldV s, vec (pr s)]) ∧ Below w.heap.size w w' := by
  go_enter Tryd.func34, Tryd.ntmps34
  go_wp2_with fail
  refine Calls.mono (lawID_c s _) ?_
  rintro _ _ ⟨rfl, rfl⟩
  go_wp2_with fail
  refine Calls.mono (get_c s _ (hL.step (by repeat first | with_reducible exact Below.refl _ _ | with_reducible refine Below.drew ?_ | with_reducible refine below_dN ?_ | with_reducible refine Below.alloc ?_ (by first | omega | (simp; done) | (simp; omega)) _ | with_reducible refine Below.setCell ?_ (by first | omega | (simp; done) | (simp; omega)) _ | with_reducible refine Below.trans ?_ (Below.mono (by assumption) (by first | omega | (simp; done) | (simp; omega)))))) ?_
  rintro _ w1 ⟨rfl, h1⟩
  obtain ⟨c1, f1, s1⟩ := bfacts h1
  try simp only [World.size_alloc, World.size_setCell, size_drew, size_drewN] at s1
  have l_w_w1_0 : w.heap.size < w1.heap.size := by omega
  have l_w_w1_1 : w.heap.size + 1 < w1.heap.size := by omega
  have lp_w_w1_0 : w.heap.size < w1.heap.size := by omega
  have lp_w_w1_1 : w.heap.size < w1.heap.size + 1 := by omega
  have lp_w_w1_2 : w.heap.size < w1.heap.size + 1 + 1 := by omega
  have lp_w_w1_3 : w.heap.size < w1.heap.size + 1 + 1 + 1 := by omega
  go_wp2_with fail
  refine held_begin 6 [w1.heap.size] (by kernel_rfl) rfl (by intro _ _ d _ _ h; cases d <;> exact h) ?_
  intro hQ hK
  with_reducible apply held_v (n := 5) 0
  · rfl
  · kernel_rfl
  · kernel_rfl
  · kernel_rfl
  · exact hQ
  · with_reducible exact hK
  · rfl
  apply Exists.intro
  refine ⟨fun w' hC => ?_, ?_⟩
  · have k0_ := hC (w1.heap.size) (by simp only [List.mem_cons, true_or, or_true])
    clear hC
    go_simp
    rfl
  try simp only [Act.put, List.setIfInBounds_toArray, List.set_cons_zero, List.set_cons_succ, List.tail_cons]
  with_reducible apply held_v (n := 4) 1
  · rfl
  · kernel_rfl
  · kernel_rfl
  · kernel_rfl
  · exact hQ
  · with_reducible exact hK
  · rfl
  apply Exists.intro
  refine ⟨fun w' hC => ?_, ?_⟩
  · have k0_ := hC (w1.heap.size) (by simp only [List.mem_cons, true_or, or_true])
    clear hC
    go_simp
    rfl
  try simp only [Act.put, List.setIfInBounds_toArray, List.set_cons_zero, List.set_cons_succ, List.tail_cons]
  with_reducible apply held_call (n := 3) 2
  · rfl
  · kernel_rfl
  · rfl
  · with_reducible exact hK
  apply Exists.intro
  apply Exists.intro
  apply Exists.intro
  refine ⟨?_, ?_, ?_, ?_⟩
  · go_simp
    exact ⟨rfl, rfl⟩
  · exact lawID_b s _
  · intro b hb
    simp only [List.mem_cons, List.not_mem_nil, or_false] at hb
    rcases hb with rfl <;> first | omega | (simp; done) | (simp; omega)
  intro v2 h2 hK
  obtain ⟨c2, f2, s2⟩ := bfacts h2
  try simp only [World.size_alloc, World.size_setCell, size_drew, size_drewN] at s2
  have l_w_v2_0 : w.heap.size < v2.heap.size := by omega
  have l_w_v2_1 : w.heap.size + 1 < v2.heap.size := by omega
  have l_w1_v2_0 : w1.heap.size < v2.heap.size := by omega
  try simp only [Act.put, List.setIfInBounds_toArray, List.set_cons_zero, List.set_cons_succ, List.tail_cons]
  with_reducible apply held_call (n := 2) 3
  · rfl
  · kernel_rfl
  · rfl
  · with_reducible exact hK
  apply Exists.intro
  apply Exists.intro
  apply Exists.intro
  refine ⟨?_, ?_, ?_, ?_⟩
  · go_simp
    exact ⟨rfl, rfl⟩
  · exact refModulus_c s _
  · intro b hb
    simp only [List.mem_cons, List.not_mem_nil, or_false] at hb
    rcases hb with rfl <;> first | omega | (simp; done) | (simp; omega)
  intro v3 h3 hK
  obtain ⟨c3, f3, s3⟩ := bfacts h3
  try simp only [World.size_alloc, World.size_setCell, size_drew, size_drewN] at s3
  have l_w_v3_0 : w.heap.size < v3.heap.size := by omega
  have l_w_v3_1 : w.heap.size + 1 < v3.heap.size := by omega
  have l_w1_v3_0 : w1.heap.size < v3.heap.size := by omega
  try simp only [Act.put, List.setIfInBounds_toArray, List.set_cons_zero, List.set_cons_succ, List.tail_cons]
  with_reducible apply held_t (n := 1) 4
  · rfl
  · kernel_rfl
  · rfl
  apply Exists.intro
  refine ⟨?_, ?_, ?_⟩
  · go_simp
    rfl
  · repeat first
      | with_reducible exact hK
      | with_reducible refine KeepL.drewN ?_ _
      | with_reducible (refine KeepL.set ?_ _ _ (by intro b hb; simp only [List.mem_cons, List.not_mem_nil, or_false] at hb; rcases hb with rfl <;> (first | omega | (simp; done) | (simp; omega))))
      | with_reducible (refine KeepL.alloc ?_ _ (by intro b hb; simp only [List.mem_cons, List.not_mem_nil, or_false] at hb; rcases hb with rfl <;> (first | omega | (simp; done) | (simp; omega))))
  intro hK
  try simp only [Act.put, List.setIfInBounds_toArray, List.set_cons_zero, List.set_cons_succ, List.tail_cons]
  with_reducible apply held_t (n := 0) 5
  · rfl
  · kernel_rfl
  · rfl
  apply Exists.intro
  refine ⟨?_, ?_, ?_⟩
  · go_simp
    rfl
  · repeat first
      | with_reducible exact hK
      | with_reducible refine KeepL.drewN ?_ _
      | with_reducible (refine KeepL.set ?_ _ _ (by intro b hb; simp only [List.mem_cons, List.not_mem_nil, or_false] at hb; rcases hb with rfl <;> (first | omega | (simp; done) | (simp; omega))))
      | with_reducible (refine KeepL.alloc ?_ _ (by intro b hb; simp only [List.mem_cons, List.not_mem_nil, or_false] at hb; rcases hb with rfl <;> (first | omega | (simp; done) | (simp; omega))))
  intro hK
  try simp only [Act.put, List.setIfInBounds_toArray, List.set_cons_zero, List.set_cons_succ, List.tail_cons]
  refine held_end (by kernel_rfl) ?_
  clear hK hQ
  go_wp2_with fail
  have e1 : w.heap.size < w.heap.size + 1 := by omega
  have e2 : w.heap.size < w.heap.size + 1 + 1 := by omega
  have e3 : w.heap.size + 1 < w.heap.size + 1 + 1 := by omega
  refine bp_name ?_
  intro wS hN
  have hB_wS : Below w.heap.size w wS := by rw [hN]; exact (by repeat first | with_reducible exact Below.refl _ _ | with_reducible refine Below.drew ?_ | with_reducible refine below_dN ?_ | with_reducible refine Below.alloc ?_ (by first | omega | (simp; done) | (simp; omega)) _ | with_reducible refine Below.setCell ?_ (by first | omega | (simp; done) | (simp; omega)) _ | with_reducible refine Below.trans ?_ (Below.mono (by assumption) (by first | omega | (simp; done) | (simp; omega))))
  have pzwS0x0 : wS.cell? ⟨w.heap.size, 0, none⟩ = some (.int .i64 (fid s)) := by rw [hN]; go_simp
  have pzwS0x1 : wS.cell? ⟨w.heap.size, 1, none⟩ = some (.int .u64 ((dg 0 (pr s) : Nat) : Int)) := by rw [hN]; go_simp
  have pzwS0x2 : wS.cell? ⟨w.heap.size, 2, none⟩ = some (.int .u64 ((dg 1 (pr s) : Nat) : Int)) := by rw [hN]; go_simp
  have pzwS0x3 : wS.cell? ⟨w.heap.size, 3, none⟩ = some (.int .u64 ((dg 2 (pr s) : Nat) : Int)) := by rw [hN]; go_simp
  have pzwS0x4 : wS.cell? ⟨w.heap.size, 4, none⟩ = some (.int .u64 ((dg 3 (pr s) : Nat) : Int)) := by rw [hN]; go_simp
  have pzwS0x5 : wS.cell? ⟨w.heap.size, 5, none⟩ = some (.int .u64 ((ninv s : Nat) : Int)) := by rw [hN]; go_simp
  have pzwS0x6 : wS.cell? ⟨w.heap.size, 6, none⟩ = some (.int .u64 ((dg 0 (rone s) : Nat) : Int)) := by rw [hN]; go_simp
  have pzwS0x7 : wS.cell? ⟨w.heap.size, 7, none⟩ = some (.int .u64 ((dg 1 (rone s) : Nat) : Int)) := by rw [hN]; go_simp
  have pzwS0x8 : wS.cell? ⟨w.heap.size, 8, none⟩ = some (.int .u64 ((dg 2 (rone s) : Nat) : Int)) := by rw [hN]; go_simp
  have pzwS0x9 : wS.cell? ⟨w.heap.size, 9, none⟩ = some (.int .u64 ((dg 3 (rone s) : Nat) : Int)) := by rw [hN]; go_simp
  have pzwS0x10 : wS.cell? ⟨w.heap.size, 10, none⟩ = some (.int .u64 ((dg 0 (rsq s) : Nat) : Int)) := by rw [hN]; go_simp
  have pzwS0x11 : wS.cell? ⟨w.heap.size, 11, none⟩ = some (.int .u64 ((dg 1 (rsq s) : Nat) : Int)) := by rw [hN]; go_simp
  have pzwS0x12 : wS.cell? ⟨w.heap.size, 12, none⟩ = some (.int .u64 ((dg 2 (rsq s) : Nat) : Int)) := by rw [hN]; go_simp
  have pzwS0x13 : wS.cell? ⟨w.heap.size, 13, none⟩ = some (.int .u64 ((dg 3 (rsq s) : Nat) : Int)) := by rw [hN]; go_simp
  have pswS0 : w.heap.size < wS.heap.size := by rw [hN]; first | omega | (simp; done) | (simp; omega)
  have pzwS1x0 : wS.cell? ⟨w.heap.size + 1, 0, none⟩ = some (.int .u64 ((dg 0 (pr s) : Nat) : Int)) := by rw [hN]; go_simp
  have pzwS1x1 : wS.cell? ⟨w.heap.size + 1, 1, none⟩ = some (.int .u64 ((dg 1 (pr s) : Nat) : Int)) := by rw [hN]; go_simp
  have pzwS1x2 : wS.cell? ⟨w.heap.size + 1, 2, none⟩ = some (.int .u64 ((dg 2 (pr s) : Nat) : Int)) := by rw [hN]; go_simp
  have pzwS1x3 : wS.cell? ⟨w.heap.size + 1, 3, none⟩ = some (.int .u64 ((dg 3 (pr s) : Nat) : Int)) := by rw [hN]; go_simp
  have pswS1 : w.heap.size + 1 < wS.heap.size := by rw [hN]; first | omega | (simp; done) | (simp; omega)
  clear hN
  refine bodyPost_ret (v := .tuple #[fieldV s, vec (pr s)]) (by simp only [results, Tryd.results34]; go_simp) rfl ⟨rfl, ?_⟩
  exact hB_wS

theorem form7_c (s : Bool) (b : Nat) (hb : b < R4) (w : World) :
    Calls Tryd.prog 37 #[vec (pr s), vec b] w fun e w' => e = .returned (vec (RR s b)) ∧ Below w.heap.size w w' := by
  have hp := pr_lt s
  have hp1 := pr_gt1 s
  have H := Lib.hid (refForm_c (pr s) b hp hp1 hb)
  unfold RR
  go_enter Tryd.func37, Tryd.ntmps37
  go_wp2_with fail
  refine Calls.mono (H.out _) ?_
  rintro _ w1 ⟨rfl, h1⟩
  obtain ⟨c1, f1, s1⟩ := bfacts h1
  try simp only [World.size_alloc, World.size_setCell, size_drew, size_drewN] at s1
  have l_w_w1_0 : w.heap.size < w1.heap.size := by omega
  have l_w_w1_1 : w.heap.size + 1 < w1.heap.size := by omega
  have l_w_w1_2 : w.heap.size + 1 + 1 < w1.heap.size := by omega
  go_wp2_with fail
  refine bodyPost_ret (v := vec (mulm (pr s) (R4 % pr s) b)) (by simp only [results, Tryd.results37]; go_simp) rfl ⟨rfl, ?_⟩
  repeat first
    | with_reducible exact Below.refl _ _
    | with_reducible refine Below.drew ?_
    | with_reducible refine below_dN ?_
    | with_reducible refine Below.alloc ?_ (by first | omega | (simp; done) | (simp; omega)) _
    | with_reducible refine Below.setCell ?_ (by first | omega | (simp; done) | (simp; omega)) _
    | with_reducible refine Below.trans ?_ (Below.mono (by assumption) (by first | omega | (simp; done) | (simp; omega)))
theorem exec_make {P : Program} {ρ : Operand → Value} {o : Oper} {w w' : World} {ty : TypeId} {x y : Operand} {p q v : Value} (ho : o.op = .makeSlice ty x y) (hx : ρ x = p) (hy : ρ y = q) (hv : (Instr.makeSlice ty p q).run P w = .ok v w') : (execOp ρ o).run P w = .ok (.value v) w' := by
  unfold execOp
  simp only [ho, hx, hy, Sem.run_bind, Sem.run_pure, Result.andThen_ok, hv]
theorem run_make64 (w : World) : (Instr.makeSlice 47 (.int .i64 64) (.int .i64 64)).run Tryd.prog w = .ok (.slice (some ⟨w.heap.size, 0, none⟩) 64 64) (w.alloc (.cells (madeCells #[.int .u8 0] 64) 5)) := by
  obtain ⟨i0, hi, hz0, hz1, hz2⟩ := info_parts infoByte
  have hr := run_make (P := Tryd.prog) w 47 5 i0 (.int .u8 0) Tryd.underlying47 hi hz0 .i64 .i64 64 64 (by decide) (Int.le_refl _) (by rw [hz2]; decide) (by decide)
  rw [hz1] at hr
  exact hr
theorem made_at {w : World} {b : Nat} {t : TypeId} (h : w.heap[b]? = some (.cells (madeCells #[.int .u8 0] 64) t)) : BytesAt w b 0 64 (fun _ => 0) := by
  refine ⟨fun _ => by decide, (Array.getElem?_eq_some_iff.1 h).1, fun j hj => ?_⟩
  rw [Nat.zero_add, cell_of_row w b j _ _ _ h]
  simp [madeCells, hj, Nat.mod_one]

/-- What Encode hands back. -/
def EncR (B v : Nat) (r : Value) (w : World) : Prop := ∃ g c, r = .slice (some ⟨g, 0, none⟩) 32 c ∧ B ≤ g ∧ 32 ≤ c ∧ BytesAt w g 0 32 (byt v)
theorem encode_r (s : Bool) (v : Nat) (hv : v < pr s) (w : World) :
    Calls Tryd.prog 39 #[fieldV s, vec (RR s v)] w fun e w' => (∃ r, e = .returned r ∧ EncR w.heap.size v r w') ∧ Below w.heap.size w w' := by
  refine (encode_c s v hv w).mono ?_
  rintro e w' ⟨⟨g, c, rfl, h⟩, hb⟩
  exact ⟨⟨_, rfl, g, c, rfl, h⟩, hb⟩
theorem lit_at {w : World} {b n : Nat} {cs : List Value} {t : TypeId} {f : Nat → Nat} (h : w.heap[b]? = some (.cells cs.toArray t)) (hf : ∀ j, f j < 256) (hc : ∀ j, j < n → cs[j]? = some (.int .u8 ((f j : Nat) : Int))) : BytesAt w b 0 n f := by
  refine ⟨hf, (Array.getElem?_eq_some_iff.1 h).1, fun j hj => ?_⟩
  rw [Nat.zero_add, cell_of_row w b j _ _ _ h, List.getElem?_toArray]
  exact hc j hj
def bex (j : Nat) : Nat := if j = 0 then 2 else if j = 1 then 1 else 0
theorem bex_lt (j : Nat) : bex j < 256 := by unfold bex; split; decide; split <;> decide
theorem bex_lit : ∀ j, j < 3 → ([.int .u8 2, .int .u8 1, .int .u8 0] : List Value)[j]? = some (.int .u8 ((bex j : Nat) : Int)) := fun j hj => by
  have h : j = 0 ∨ j = 1 ∨ j = 2 := by omega
  rcases h with rfl | rfl | rfl <;> rfl
theorem bex_byt : ∀ j, j < 3 → byt 258 j = bex j := fun j hj => by
  have h : j = 0 ∨ j = 1 ∨ j = 2 := by omega
  rcases h with rfl | rfl | rfl <;> decide

set_option maxRecDepth 100000 in
set_option maxHeartbeats 8000000 in
theorem alive7_walk (x : Nat) (w : World) (HL : Hid (Laid w))
    (hget : Hid (∀ w, Laid w → Calls Tryd.prog 34 #[.bool true] w fun e w' => e = .returned (.tuple #[fieldV true, vec (pr true)]) ∧ Below w.heap.size w w'))
    (hform : Hid (∀ w, Calls Tryd.prog 37 #[vec (pr true), .agg #[.int .u64 258, .int .u64 0, .int .u64 0, .int .u64 0]] w fun e w' => e = .returned (vec x) ∧ Below w.heap.size w w'))
    (hen : Hid (∀ w, Calls Tryd.prog 39 #[fieldV true, vec x] w fun e w' => (∃ r, e = .returned r ∧ EncR w.heap.size 258 r w') ∧ Below w.heap.size w w'))
    (hwide : Hid (∀ b w, BytesAt w b 0 64 (fun _ => 0) → Calls Tryd.prog 35 #[fieldV true, .slice (some ⟨b, 0, none⟩) 64 64] w fun e w' => e = .returned (.tuple #[.agg #[.int .u64 0, .int .u64 0, .int .u64 0, .int .u64 0], .int .i64 0]) ∧ Below w.heap.size w w')) :
    Calls Tryd.prog 33 #[] w fun e w' => e = .returned (.bool true) ∧ Below w.heap.size w w' := by
  go_enter Tryd.func33, Tryd.ntmps33
  go_wp2_with fail
  refine Calls.mono (hget.out _ HL.out) ?_
  rintro _ w1 ⟨rfl, h1⟩
  obtain ⟨c1, f1, s1⟩ := bfacts h1
  try simp only [World.size_alloc, World.size_setCell, size_drew, size_drewN] at s1
  go_wp2_with fail
  refine held_begin 6 [w1.heap.size, w1.heap.size + 1] (by kernel_rfl) rfl (by intro _ _ d _ _ h; cases d <;> exact h) ?_
  intro hQ hK
  with_reducible apply held_v (n := 5) 0
  · rfl
  · kernel_rfl
  · kernel_rfl
  · kernel_rfl
  · exact hQ
  · with_reducible exact hK
  · rfl
  apply Exists.intro
  refine ⟨fun w' hC => ?_, ?_⟩
  · have k0_ := hC (w1.heap.size) (by simp only [List.mem_cons, true_or, or_true])
    have k1_ := hC (w1.heap.size + 1) (by simp only [List.mem_cons, true_or, or_true])
    clear hC
    go_simp
    rfl
  try simp only [Act.put, List.setIfInBounds_toArray, List.set_cons_zero, List.set_cons_succ, List.tail_cons]
  with_reducible apply held_v (n := 4) 1
  · rfl
  · kernel_rfl
  · kernel_rfl
  · kernel_rfl
  · exact hQ
  · with_reducible exact hK
  · rfl
  apply Exists.intro
  refine ⟨fun w' hC => ?_, ?_⟩
  · have k0_ := hC (w1.heap.size) (by simp only [List.mem_cons, true_or, or_true])
    have k1_ := hC (w1.heap.size + 1) (by simp only [List.mem_cons, true_or, or_true])
    clear hC
    go_simp
    rfl
  try simp only [Act.put, List.setIfInBounds_toArray, List.set_cons_zero, List.set_cons_succ, List.tail_cons]
  with_reducible apply held_v (n := 3) 2
  · rfl
  · kernel_rfl
  · kernel_rfl
  · kernel_rfl
  · exact hQ
  · with_reducible exact hK
  · rfl
  apply Exists.intro
  refine ⟨fun w' hC => ?_, ?_⟩
  · have k0_ := hC (w1.heap.size) (by simp only [List.mem_cons, true_or, or_true])
    have k1_ := hC (w1.heap.size + 1) (by simp only [List.mem_cons, true_or, or_true])
    clear hC
    go_simp
    rfl
  try simp only [Act.put, List.setIfInBounds_toArray, List.set_cons_zero, List.set_cons_succ, List.tail_cons]
  with_reducible apply held_call (n := 2) 3
  · rfl
  · kernel_rfl
  · rfl
  · with_reducible exact hK
  apply Exists.intro
  apply Exists.intro
  apply Exists.intro
  refine ⟨?_, ?_, ?_, ?_⟩
  · go_simp
    exact ⟨rfl, rfl⟩
  · exact hform.out _
  · intro b hb
    simp only [List.mem_cons, List.not_mem_nil, or_false] at hb
    rcases hb with rfl | rfl <;> first | omega | (simp; done) | (simp; omega)
  intro v3 h3 hK
  obtain ⟨c3, f3, s3⟩ := bfacts h3
  try simp only [World.size_alloc, World.size_setCell, size_drew, size_drewN] at s3
  have l_w1_v3_0 : w1.heap.size < v3.heap.size := by omega
  have l_w1_v3_1 : w1.heap.size + 1 < v3.heap.size := by omega
  try simp only [Act.put, List.setIfInBounds_toArray, List.set_cons_zero, List.set_cons_succ, List.tail_cons]
  with_reducible apply held_callx (n := 1) 4
  · rfl
  · kernel_rfl
  · rfl
  · with_reducible exact hK
  apply Exists.intro
  apply Exists.intro
  apply Exists.intro
  refine ⟨?_, ?_, ?_, ?_⟩
  · go_simp
    exact ⟨rfl, rfl⟩
  · exact hen.out _
  · intro b hb
    simp only [List.mem_cons, List.not_mem_nil, or_false] at hb
    rcases hb with rfl | rfl <;> first | omega | (simp; done) | (simp; omega)
  rintro r4 v4 ⟨g, c, rfl, hg, hc, hB⟩ h4 hK
  obtain ⟨c4, f4, s4⟩ := bfacts h4
  try simp only [World.size_alloc, World.size_setCell, size_drew, size_drewN] at s4
  have l_w1_v4_0 : w1.heap.size < v4.heap.size := by omega
  have l_w1_v4_1 : w1.heap.size + 1 < v4.heap.size := by omega
  try simp only [Act.put, List.setIfInBounds_toArray, List.set_cons_zero, List.set_cons_succ, List.tail_cons]
  with_reducible apply held_v (n := 0) 5
  · rfl
  · kernel_rfl
  · kernel_rfl
  · kernel_rfl
  · exact hQ
  · with_reducible exact hK
  · rfl
  apply Exists.intro
  refine ⟨fun w' hC => ?_, ?_⟩
  · have k0_ := hC (w1.heap.size) (by simp only [List.mem_cons, true_or, or_true])
    have k1_ := hC (w1.heap.size + 1) (by simp only [List.mem_cons, true_or, or_true])
    clear hC
    go_simp
    rfl
  try simp only [Act.put, List.setIfInBounds_toArray, List.set_cons_zero, List.set_cons_succ, List.tail_cons]
  refine held_end (by kernel_rfl) ?_
  clear hK hQ
  have HB := Lib.hid hB
  have Hc := Lib.hid hc
  have hge : g < v4.heap.size := hB.blk
  clear hB hc hg
  go_wp2_with fail
  refine heldm_begin 9 [w1.heap.size] (by kernel_rfl) rfl (by intro _ _ d _ _ h; cases d <;> exact h) ?_
  intro hQ hK
  with_reducible apply heldm_v (n := 8) (m' := 1) 0
  · exact Nat.le_of_ble_eq_true (by kernel_rfl)
  · rfl
  · kernel_rfl
  · kernel_rfl
  · kernel_rfl
  · kernel_rfl
  · kernel_rfl
  · kernel_rfl
  · exact hQ
  · with_reducible exact hK
  · rfl
  apply Exists.intro
  refine ⟨fun w' hC => ?_, ?_⟩
  · have k0_ := hC (w1.heap.size) (by simp only [List.mem_cons, true_or, or_true])
    clear hC
    go_simp
    rfl
  try simp only [Act.put, List.setIfInBounds_toArray, List.set_cons_zero, List.set_cons_succ, List.tail_cons]
  with_reducible apply heldm_two (n := 7) (m1 := 3) (m2 := 65) 1 6
  · exact Nat.le_of_ble_eq_true (by kernel_rfl)
  · rfl
  · rfl
  · kernel_rfl
  · kernel_rfl
  · kernel_rfl
  · kernel_rfl
  · kernel_rfl
  · kernel_rfl
  · rfl
  · rfl
  · with_reducible apply heldw_o
    apply Exists.intro
    apply Exists.intro
    refine ⟨?_, ?_, ?_⟩
    · exact exec_make rfl rfl rfl (run_make64 _)
    · repeat first
        | with_reducible exact hK
        | with_reducible refine KeepL.drewN ?_ _
        | with_reducible refine KeepL.drew ?_
        | with_reducible (refine KeepL.set ?_ _ _ (by intro b hb; simp only [List.mem_cons, List.not_mem_nil, or_false] at hb; rcases hb with rfl <;> (first | omega | (simp; done) | (simp; omega))))
        | with_reducible (refine KeepL.alloc ?_ _ (by intro b hb; simp only [List.mem_cons, List.not_mem_nil, or_false] at hb; rcases hb with rfl <;> (first | omega | (simp; done) | (simp; omega))))
        | exact fun _ _ _ => rfl
        | exact hK
    intro hK
    try simp only [Act.put, List.setIfInBounds_toArray, List.set_cons_zero, List.set_cons_succ, List.tail_cons]
    with_reducible apply heldm_two (n := 6) (m1 := 7) (m2 := 67) 2 6
    · exact Nat.le_of_ble_eq_true (by kernel_rfl)
    · rfl
    · rfl
    · kernel_rfl
    · kernel_rfl
    · kernel_rfl
    · kernel_rfl
    · kernel_rfl
    · kernel_rfl
    · rfl
    · rfl
    · with_reducible apply heldw_call
      · with_reducible exact hK
      apply Exists.intro
      apply Exists.intro
      apply Exists.intro
      refine ⟨?_, ?_, ?_, ?_⟩
      · go_simp
        exact ⟨rfl, rfl⟩
      · exact hwide.out _ _ (by first | exact made_at (heap_alloc_at (by first | rfl | simp only [World.size_alloc, World.size_drew])) | exact BytesAt.below (w := v4.alloc (.cells (madeCells #[.int .u8 0] 64) 5)) (made_at (heap_alloc_at (by first | rfl | simp only [World.size_alloc, World.size_drew]))) (by repeat first | with_reducible exact Below.refl _ _ | with_reducible refine Below.drew ?_ | with_reducible refine below_dN ?_ | with_reducible refine Below.alloc ?_ (by first | omega | (simp; done) | (simp; omega)) _ | with_reducible refine Below.setCell ?_ (by first | omega | (simp; done) | (simp; omega)) _ | with_reducible refine Below.trans ?_ (Below.mono (by assumption) (by first | omega | (simp; done) | (simp; omega)))))
      · intro b hb
        simp only [List.mem_cons, List.not_mem_nil, or_false] at hb
        rcases hb with rfl <;> first | omega | (simp; done) | (simp; omega)
      intro v2 h2 hK
      obtain ⟨c2, f2, s2⟩ := bfacts h2
      try simp only [World.size_alloc, World.size_setCell, size_drew, size_drewN] at s2
      try simp only [Act.put, List.setIfInBounds_toArray, List.set_cons_zero, List.set_cons_succ, List.tail_cons]
      with_reducible apply heldm_v (n := 5) (m' := 15) 3
      · exact Nat.le_of_ble_eq_true (by kernel_rfl)
      · rfl
      · kernel_rfl
      · kernel_rfl
      · kernel_rfl
      · kernel_rfl
      · kernel_rfl
      · kernel_rfl
      · exact hQ
      · with_reducible exact hK
      · rfl
      apply Exists.intro
      refine ⟨fun w' hC => ?_, ?_⟩
      · have k0_ := hC (w1.heap.size) (by simp only [List.mem_cons, true_or, or_true])
        clear hC
        go_simp
        rfl
      try simp only [Act.put, List.setIfInBounds_toArray, List.set_cons_zero, List.set_cons_succ, List.tail_cons]
      with_reducible apply heldm_v (n := 4) (m' := 31) 4
      · exact Nat.le_of_ble_eq_true (by kernel_rfl)
      · rfl
      · kernel_rfl
      · kernel_rfl
      · kernel_rfl
      · kernel_rfl
      · kernel_rfl
      · kernel_rfl
      · exact hQ
      · with_reducible exact hK
      · rfl
      apply Exists.intro
      refine ⟨fun w' hC => ?_, ?_⟩
      · have k0_ := hC (w1.heap.size) (by simp only [List.mem_cons, true_or, or_true])
        clear hC
        go_simp
        rfl
      try simp only [Act.put, List.setIfInBounds_toArray, List.set_cons_zero, List.set_cons_succ, List.tail_cons]
      with_reducible apply heldm_v (n := 3) (m' := 63) 5
      · exact Nat.le_of_ble_eq_true (by kernel_rfl)
      · rfl
      · kernel_rfl
      · kernel_rfl
      · kernel_rfl
      · kernel_rfl
      · kernel_rfl
      · kernel_rfl
      · exact hQ
      · with_reducible exact hK
      · rfl
      apply Exists.intro
      refine ⟨fun w' hC => ?_, ?_⟩
      · have k0_ := hC (w1.heap.size) (by simp only [List.mem_cons, true_or, or_true])
        clear hC
        go_simp
        rfl
      try simp only [Act.put, List.setIfInBounds_toArray, List.set_cons_zero, List.set_cons_succ, List.tail_cons]
      with_reducible apply heldm_o (n := 2) (m' := 127) 6
      · exact Nat.le_of_ble_eq_true (by kernel_rfl)
      · rfl
      · kernel_rfl
      · kernel_rfl
      · kernel_rfl
      · kernel_rfl
      · kernel_rfl
      · rfl
      apply Exists.intro
      apply Exists.intro
      refine ⟨?_, ?_, ?_⟩
      · go_simp
        exact ⟨rfl, rfl⟩
      · repeat first
          | with_reducible exact hK
          | with_reducible refine KeepL.drewN ?_ _
          | with_reducible refine KeepL.drew ?_
          | with_reducible (refine KeepL.set ?_ _ _ (by intro b hb; simp only [List.mem_cons, List.not_mem_nil, or_false] at hb; rcases hb with rfl <;> (first | omega | (simp; done) | (simp; omega))))
          | with_reducible (refine KeepL.alloc ?_ _ (by intro b hb; simp only [List.mem_cons, List.not_mem_nil, or_false] at hb; rcases hb with rfl <;> (first | omega | (simp; done) | (simp; omega))))
          | exact fun _ _ _ => rfl
          | exact hK
      intro hK
      try simp only [Act.put, List.setIfInBounds_toArray, List.set_cons_zero, List.set_cons_succ, List.tail_cons]
      with_reducible apply heldm_t (n := 1) (m' := 255) 7
      · exact Nat.le_of_ble_eq_true (by kernel_rfl)
      · rfl
      · kernel_rfl
      · kernel_rfl
      · kernel_rfl
      · kernel_rfl
      · kernel_rfl
      · rfl
      apply Exists.intro
      refine ⟨?_, ?_, ?_⟩
      · go_simp
        rfl
      · repeat first
          | with_reducible exact hK
          | with_reducible refine KeepL.drewN ?_ _
          | with_reducible refine KeepL.drew ?_
          | with_reducible (refine KeepL.set ?_ _ _ (by intro b hb; simp only [List.mem_cons, List.not_mem_nil, or_false] at hb; rcases hb with rfl <;> (first | omega | (simp; done) | (simp; omega))))
          | with_reducible (refine KeepL.alloc ?_ _ (by intro b hb; simp only [List.mem_cons, List.not_mem_nil, or_false] at hb; rcases hb with rfl <;> (first | omega | (simp; done) | (simp; omega))))
          | exact fun _ _ _ => rfl
          | exact hK
      intro hK
      try simp only [Act.put, List.setIfInBounds_toArray, List.set_cons_zero, List.set_cons_succ, List.tail_cons]
      with_reducible apply heldm_v (n := 0) (m' := 511) 8
      · exact Nat.le_of_ble_eq_true (by kernel_rfl)
      · rfl
      · kernel_rfl
      · kernel_rfl
      · kernel_rfl
      · kernel_rfl
      · kernel_rfl
      · kernel_rfl
      · exact hQ
      · with_reducible exact hK
      · rfl
      apply Exists.intro
      refine ⟨fun w' hC => ?_, ?_⟩
      · have k0_ := hC (w1.heap.size) (by simp only [List.mem_cons, true_or, or_true])
        clear hC
        go_simp
        rfl
      try simp only [Act.put, List.setIfInBounds_toArray, List.set_cons_zero, List.set_cons_succ, List.tail_cons]
      refine heldm_end (Nat.le_of_ble_eq_true (by kernel_rfl)) (by kernel_rfl) ?_
      clear hK hQ
      go_wp2_with fail
      try have q1 : v4.heap.size < v2.heap.size := by omega
      try have q2 : v4.heap.size + 1 < v2.heap.size := by omega
      have q3 : v4.heap.size < v4.heap.size + 1 := by omega
      have q4 : v4.heap.size < v4.heap.size + 1 + 1 := by omega
      have q5 : v4.heap.size + 1 < v4.heap.size + 1 + 1 := by omega
      refine Calls.mono (bytesPre_c _ (some ⟨g, 0, none⟩) _ 32 c 3 3 (byt 258) bex Hc.out (by decide) (HB.out.below (by repeat first | with_reducible exact Below.refl _ _ | with_reducible refine Below.drew ?_ | with_reducible refine below_dN ?_ | with_reducible refine Below.alloc ?_ (by first | omega | (simp; done) | (simp; omega)) _ | with_reducible refine Below.setCell ?_ (by first | omega | (simp; done) | (simp; omega)) _ | with_reducible refine Below.trans ?_ (Below.mono (by assumption) (by first | omega | (simp; done) | (simp; omega))))).slice (lit_at (heap_alloc_at (by first | rfl | simp only [World.size_alloc, World.size_setCell])) bex_lt bex_lit).slice bex_byt) ?_
      rintro _ w5 ⟨rfl, h5⟩
      obtain ⟨c5, f5, s5⟩ := bfacts h5
      try simp only [World.size_alloc, World.size_setCell, size_drew, size_drewN] at s5
      have q6 : v2.heap.size < v2.heap.size + 1 := by omega
      have q7 : v2.heap.size < v2.heap.size + 1 + 1 := by omega
      have q8 : v2.heap.size < w5.heap.size := by omega
      try have q9 : v4.heap.size < v2.heap.size + 1 := by omega
      try have q10 : v4.heap.size + 1 < v2.heap.size + 1 := by omega
      go_wp2_with fail
      refine bodyPost_ret (v := .bool true) (by simp only [results, Tryd.results33]; go_simp) rfl ⟨rfl, ?_⟩
      repeat first
        | with_reducible exact Below.refl _ _
        | with_reducible refine Below.drew ?_
        | with_reducible refine below_dN ?_
        | with_reducible refine Below.alloc ?_ (by first | omega | (simp; done) | (simp; omega)) _
        | with_reducible refine Below.setCell ?_ (by first | omega | (simp; done) | (simp; omega)) _
        | with_reducible refine Below.trans ?_ (Below.mono (by assumption) (by first | omega | (simp; done) | (simp; omega)))
    · with_reducible apply heldw_o
      apply Exists.intro
      apply Exists.intro
      refine ⟨?_, ?_, ?_⟩
      · go_simp
        exact ⟨rfl, rfl⟩
      · repeat first
          | with_reducible exact hK
          | with_reducible refine KeepL.drewN ?_ _
          | with_reducible refine KeepL.drew ?_
          | with_reducible (refine KeepL.set ?_ _ _ (by intro b hb; simp only [List.mem_cons, List.not_mem_nil, or_false] at hb; rcases hb with rfl <;> (first | omega | (simp; done) | (simp; omega))))
          | with_reducible (refine KeepL.alloc ?_ _ (by intro b hb; simp only [List.mem_cons, List.not_mem_nil, or_false] at hb; rcases hb with rfl <;> (first | omega | (simp; done) | (simp; omega))))
          | exact fun _ _ _ => rfl
          | exact hK
      intro hK
      try simp only [Act.put, List.setIfInBounds_toArray, List.set_cons_zero, List.set_cons_succ, List.tail_cons]
      with_reducible apply heldm_call (n := 5) (m' := 71) 2
      · exact Nat.le_of_ble_eq_true (by kernel_rfl)
      · rfl
      · kernel_rfl
      · kernel_rfl
      · kernel_rfl
      · kernel_rfl
      · kernel_rfl
      · rfl
      · with_reducible exact hK
      apply Exists.intro
      apply Exists.intro
      apply Exists.intro
      refine ⟨?_, ?_, ?_, ?_⟩
      · go_simp
        exact ⟨rfl, rfl⟩
      · exact hwide.out _ _ (by first | exact made_at (heap_alloc_at (by first | rfl | simp only [World.size_alloc, World.size_drew])) | exact BytesAt.below (w := v4.alloc (.cells (madeCells #[.int .u8 0] 64) 5)) (made_at (heap_alloc_at (by first | rfl | simp only [World.size_alloc, World.size_drew]))) (by repeat first | with_reducible exact Below.refl _ _ | with_reducible refine Below.drew ?_ | with_reducible refine below_dN ?_ | with_reducible refine Below.alloc ?_ (by first | omega | (simp; done) | (simp; omega)) _ | with_reducible refine Below.setCell ?_ (by first | omega | (simp; done) | (simp; omega)) _ | with_reducible refine Below.trans ?_ (Below.mono (by assumption) (by first | omega | (simp; done) | (simp; omega)))))
      · intro b hb
        simp only [List.mem_cons, List.not_mem_nil, or_false] at hb
        rcases hb with rfl <;> first | omega | (simp; done) | (simp; omega)
      intro v2 h2 hK
      obtain ⟨c2, f2, s2⟩ := bfacts h2
      try simp only [World.size_alloc, World.size_setCell, size_drew, size_drewN] at s2
      try simp only [Act.put, List.setIfInBounds_toArray, List.set_cons_zero, List.set_cons_succ, List.tail_cons]
      with_reducible apply heldm_v (n := 4) (m' := 79) 3
      · exact Nat.le_of_ble_eq_true (by kernel_rfl)
      · rfl
      · kernel_rfl
      · kernel_rfl
      · kernel_rfl
      · kernel_rfl
      · kernel_rfl
      · kernel_rfl
      · exact hQ
      · with_reducible exact hK
      · rfl
      apply Exists.intro
      refine ⟨fun w' hC => ?_, ?_⟩
      · have k0_ := hC (w1.heap.size) (by simp only [List.mem_cons, true_or, or_true])
        clear hC
        go_simp
        rfl
      try simp only [Act.put, List.setIfInBounds_toArray, List.set_cons_zero, List.set_cons_succ, List.tail_cons]
      with_reducible apply heldm_v (n := 3) (m' := 95) 4
      · exact Nat.le_of_ble_eq_true (by kernel_rfl)
      · rfl
      · kernel_rfl
      · kernel_rfl
      · kernel_rfl
      · kernel_rfl
      · kernel_rfl
      · kernel_rfl
      · exact hQ
      · with_reducible exact hK
      · rfl
      apply Exists.intro
      refine ⟨fun w' hC => ?_, ?_⟩
      · have k0_ := hC (w1.heap.size) (by simp only [List.mem_cons, true_or, or_true])
        clear hC
        go_simp
        rfl
      try simp only [Act.put, List.setIfInBounds_toArray, List.set_cons_zero, List.set_cons_succ, List.tail_cons]
      with_reducible apply heldm_v (n := 2) (m' := 127) 5
      · exact Nat.le_of_ble_eq_true (by kernel_rfl)
      · rfl
      · kernel_rfl
      · kernel_rfl
      · kernel_rfl
      · kernel_rfl
      · kernel_rfl
      · kernel_rfl
      · exact hQ
      · with_reducible exact hK
      · rfl
      apply Exists.intro
      refine ⟨fun w' hC => ?_, ?_⟩
      · have k0_ := hC (w1.heap.size) (by simp only [List.mem_cons, true_or, or_true])
        clear hC
        go_simp
        rfl
      try simp only [Act.put, List.setIfInBounds_toArray, List.set_cons_zero, List.set_cons_succ, List.tail_cons]
      with_reducible apply heldm_t (n := 1) (m' := 255) 7
      · exact Nat.le_of_ble_eq_true (by kernel_rfl)
      · rfl
      · kernel_rfl
      · kernel_rfl
      · kernel_rfl
      · kernel_rfl
      · kernel_rfl
      · rfl
      apply Exists.intro
      refine ⟨?_, ?_, ?_⟩
      · go_simp
        rfl
      · repeat first
          | with_reducible exact hK
          | with_reducible refine KeepL.drewN ?_ _
          | with_reducible refine KeepL.drew ?_
          | with_reducible (refine KeepL.set ?_ _ _ (by intro b hb; simp only [List.mem_cons, List.not_mem_nil, or_false] at hb; rcases hb with rfl <;> (first | omega | (simp; done) | (simp; omega))))
          | with_reducible (refine KeepL.alloc ?_ _ (by intro b hb; simp only [List.mem_cons, List.not_mem_nil, or_false] at hb; rcases hb with rfl <;> (first | omega | (simp; done) | (simp; omega))))
          | exact fun _ _ _ => rfl
          | exact hK
      intro hK
      try simp only [Act.put, List.setIfInBounds_toArray, List.set_cons_zero, List.set_cons_succ, List.tail_cons]
      with_reducible apply heldm_v (n := 0) (m' := 511) 8
      · exact Nat.le_of_ble_eq_true (by kernel_rfl)
      · rfl
      · kernel_rfl
      · kernel_rfl
      · kernel_rfl
      · kernel_rfl
      · kernel_rfl
      · kernel_rfl
      · exact hQ
      · with_reducible exact hK
      · rfl
      apply Exists.intro
      refine ⟨fun w' hC => ?_, ?_⟩
      · have k0_ := hC (w1.heap.size) (by simp only [List.mem_cons, true_or, or_true])
        clear hC
        go_simp
        rfl
      try simp only [Act.put, List.setIfInBounds_toArray, List.set_cons_zero, List.set_cons_succ, List.tail_cons]
      refine heldm_end (Nat.le_of_ble_eq_true (by kernel_rfl)) (by kernel_rfl) ?_
      clear hK hQ
      go_wp2_with fail
      try have q1 : v4.heap.size < v2.heap.size := by omega
      try have q2 : v4.heap.size + 1 < v2.heap.size := by omega
      have q3 : v4.heap.size < v4.heap.size + 1 := by omega
      have q4 : v4.heap.size < v4.heap.size + 1 + 1 := by omega
      have q5 : v4.heap.size + 1 < v4.heap.size + 1 + 1 := by omega
      refine Calls.mono (bytesPre_c _ (some ⟨g, 0, none⟩) _ 32 c 3 3 (byt 258) bex Hc.out (by decide) (HB.out.below (by repeat first | with_reducible exact Below.refl _ _ | with_reducible refine Below.drew ?_ | with_reducible refine below_dN ?_ | with_reducible refine Below.alloc ?_ (by first | omega | (simp; done) | (simp; omega)) _ | with_reducible refine Below.setCell ?_ (by first | omega | (simp; done) | (simp; omega)) _ | with_reducible refine Below.trans ?_ (Below.mono (by assumption) (by first | omega | (simp; done) | (simp; omega))))).slice (lit_at (heap_alloc_at (by first | rfl | simp only [World.size_alloc, World.size_setCell])) bex_lt bex_lit).slice bex_byt) ?_
      rintro _ w5 ⟨rfl, h5⟩
      obtain ⟨c5, f5, s5⟩ := bfacts h5
      try simp only [World.size_alloc, World.size_setCell, size_drew, size_drewN] at s5
      have q6 : v2.heap.size < v2.heap.size + 1 := by omega
      have q7 : v2.heap.size < v2.heap.size + 1 + 1 := by omega
      have q8 : v2.heap.size < w5.heap.size := by omega
      try have q9 : v4.heap.size < v2.heap.size + 1 := by omega
      try have q10 : v4.heap.size + 1 < v2.heap.size + 1 := by omega
      go_wp2_with fail
      refine bodyPost_ret (v := .bool true) (by simp only [results, Tryd.results33]; go_simp) rfl ⟨rfl, ?_⟩
      repeat first
        | with_reducible exact Below.refl _ _
        | with_reducible refine Below.drew ?_
        | with_reducible refine below_dN ?_
        | with_reducible refine Below.alloc ?_ (by first | omega | (simp; done) | (simp; omega)) _
        | with_reducible refine Below.setCell ?_ (by first | omega | (simp; done) | (simp; omega)) _
        | with_reducible refine Below.trans ?_ (Below.mono (by assumption) (by first | omega | (simp; done) | (simp; omega)))
  · with_reducible apply heldw_o
    apply Exists.intro
    apply Exists.intro
    refine ⟨?_, ?_, ?_⟩
    · go_simp
      exact ⟨rfl, rfl⟩
    · repeat first
        | with_reducible exact hK
        | with_reducible refine KeepL.drewN ?_ _
        | with_reducible refine KeepL.drew ?_
        | with_reducible (refine KeepL.set ?_ _ _ (by intro b hb; simp only [List.mem_cons, List.not_mem_nil, or_false] at hb; rcases hb with rfl <;> (first | omega | (simp; done) | (simp; omega))))
        | with_reducible (refine KeepL.alloc ?_ _ (by intro b hb; simp only [List.mem_cons, List.not_mem_nil, or_false] at hb; rcases hb with rfl <;> (first | omega | (simp; done) | (simp; omega))))
        | exact fun _ _ _ => rfl
        | exact hK
    intro hK
    try simp only [Act.put, List.setIfInBounds_toArray, List.set_cons_zero, List.set_cons_succ, List.tail_cons]
    with_reducible apply heldm_o (n := 6) (m' := 67) 1
    · exact Nat.le_of_ble_eq_true (by kernel_rfl)
    · rfl
    · kernel_rfl
    · kernel_rfl
    · kernel_rfl
    · kernel_rfl
    · kernel_rfl
    · rfl
    apply Exists.intro
    apply Exists.intro
    refine ⟨?_, ?_, ?_⟩
    · exact exec_make rfl rfl rfl (run_make64 _)
    · repeat first
        | with_reducible exact hK
        | with_reducible refine KeepL.drewN ?_ _
        | with_reducible refine KeepL.drew ?_
        | with_reducible (refine KeepL.set ?_ _ _ (by intro b hb; simp only [List.mem_cons, List.not_mem_nil, or_false] at hb; rcases hb with rfl <;> (first | omega | (simp; done) | (simp; omega))))
        | with_reducible (refine KeepL.alloc ?_ _ (by intro b hb; simp only [List.mem_cons, List.not_mem_nil, or_false] at hb; rcases hb with rfl <;> (first | omega | (simp; done) | (simp; omega))))
        | exact fun _ _ _ => rfl
        | exact hK
    intro hK
    try simp only [Act.put, List.setIfInBounds_toArray, List.set_cons_zero, List.set_cons_succ, List.tail_cons]
    with_reducible apply heldm_call (n := 5) (m' := 71) 2
    · exact Nat.le_of_ble_eq_true (by kernel_rfl)
    · rfl
    · kernel_rfl
    · kernel_rfl
    · kernel_rfl
    · kernel_rfl
    · kernel_rfl
    · rfl
    · with_reducible exact hK
    apply Exists.intro
    apply Exists.intro
    apply Exists.intro
    refine ⟨?_, ?_, ?_, ?_⟩
    · go_simp
      exact ⟨rfl, rfl⟩
    · exact hwide.out _ _ (by first | exact made_at (heap_alloc_at (by first | rfl | simp only [World.size_alloc, World.size_drew])) | exact BytesAt.below (w := v4.alloc (.cells (madeCells #[.int .u8 0] 64) 5)) (made_at (heap_alloc_at (by first | rfl | simp only [World.size_alloc, World.size_drew]))) (by repeat first | with_reducible exact Below.refl _ _ | with_reducible refine Below.drew ?_ | with_reducible refine below_dN ?_ | with_reducible refine Below.alloc ?_ (by first | omega | (simp; done) | (simp; omega)) _ | with_reducible refine Below.setCell ?_ (by first | omega | (simp; done) | (simp; omega)) _ | with_reducible refine Below.trans ?_ (Below.mono (by assumption) (by first | omega | (simp; done) | (simp; omega)))))
    · intro b hb
      simp only [List.mem_cons, List.not_mem_nil, or_false] at hb
      rcases hb with rfl <;> first | omega | (simp; done) | (simp; omega)
    intro v2 h2 hK
    obtain ⟨c2, f2, s2⟩ := bfacts h2
    try simp only [World.size_alloc, World.size_setCell, size_drew, size_drewN] at s2
    try simp only [Act.put, List.setIfInBounds_toArray, List.set_cons_zero, List.set_cons_succ, List.tail_cons]
    with_reducible apply heldm_v (n := 4) (m' := 79) 3
    · exact Nat.le_of_ble_eq_true (by kernel_rfl)
    · rfl
    · kernel_rfl
    · kernel_rfl
    · kernel_rfl
    · kernel_rfl
    · kernel_rfl
    · kernel_rfl
    · exact hQ
    · with_reducible exact hK
    · rfl
    apply Exists.intro
    refine ⟨fun w' hC => ?_, ?_⟩
    · have k0_ := hC (w1.heap.size) (by simp only [List.mem_cons, true_or, or_true])
      clear hC
      go_simp
      rfl
    try simp only [Act.put, List.setIfInBounds_toArray, List.set_cons_zero, List.set_cons_succ, List.tail_cons]
    with_reducible apply heldm_v (n := 3) (m' := 95) 4
    · exact Nat.le_of_ble_eq_true (by kernel_rfl)
    · rfl
    · kernel_rfl
    · kernel_rfl
    · kernel_rfl
    · kernel_rfl
    · kernel_rfl
    · kernel_rfl
    · exact hQ
    · with_reducible exact hK
    · rfl
    apply Exists.intro
    refine ⟨fun w' hC => ?_, ?_⟩
    · have k0_ := hC (w1.heap.size) (by simp only [List.mem_cons, true_or, or_true])
      clear hC
      go_simp
      rfl
    try simp only [Act.put, List.setIfInBounds_toArray, List.set_cons_zero, List.set_cons_succ, List.tail_cons]
    with_reducible apply heldm_v (n := 2) (m' := 127) 5
    · exact Nat.le_of_ble_eq_true (by kernel_rfl)
    · rfl
    · kernel_rfl
    · kernel_rfl
    · kernel_rfl
    · kernel_rfl
    · kernel_rfl
    · kernel_rfl
    · exact hQ
    · with_reducible exact hK
    · rfl
    apply Exists.intro
    refine ⟨fun w' hC => ?_, ?_⟩
    · have k0_ := hC (w1.heap.size) (by simp only [List.mem_cons, true_or, or_true])
      clear hC
      go_simp
      rfl
    try simp only [Act.put, List.setIfInBounds_toArray, List.set_cons_zero, List.set_cons_succ, List.tail_cons]
    with_reducible apply heldm_t (n := 1) (m' := 255) 7
    · exact Nat.le_of_ble_eq_true (by kernel_rfl)
    · rfl
    · kernel_rfl
    · kernel_rfl
    · kernel_rfl
    · kernel_rfl
    · kernel_rfl
    · rfl
    apply Exists.intro
    refine ⟨?_, ?_, ?_⟩
    · go_simp
      rfl
    · repeat first
        | with_reducible exact hK
        | with_reducible refine KeepL.drewN ?_ _
        | with_reducible refine KeepL.drew ?_
        | with_reducible (refine KeepL.set ?_ _ _ (by intro b hb; simp only [List.mem_cons, List.not_mem_nil, or_false] at hb; rcases hb with rfl <;> (first | omega | (simp; done) | (simp; omega))))
        | with_reducible (refine KeepL.alloc ?_ _ (by intro b hb; simp only [List.mem_cons, List.not_mem_nil, or_false] at hb; rcases hb with rfl <;> (first | omega | (simp; done) | (simp; omega))))
        | exact fun _ _ _ => rfl
        | exact hK
    intro hK
    try simp only [Act.put, List.setIfInBounds_toArray, List.set_cons_zero, List.set_cons_succ, List.tail_cons]
    with_reducible apply heldm_v (n := 0) (m' := 511) 8
    · exact Nat.le_of_ble_eq_true (by kernel_rfl)
    · rfl
    · kernel_rfl
    · kernel_rfl
    · kernel_rfl
    · kernel_rfl
    · kernel_rfl
    · kernel_rfl
    · exact hQ
    · with_reducible exact hK
    · rfl
    apply Exists.intro
    refine ⟨fun w' hC => ?_, ?_⟩
    · have k0_ := hC (w1.heap.size) (by simp only [List.mem_cons, true_or, or_true])
      clear hC
      go_simp
      rfl
    try simp only [Act.put, List.setIfInBounds_toArray, List.set_cons_zero, List.set_cons_succ, List.tail_cons]
    refine heldm_end (Nat.le_of_ble_eq_true (by kernel_rfl)) (by kernel_rfl) ?_
    clear hK hQ
    go_wp2_with fail
    try have q1 : v4.heap.size < v2.heap.size := by omega
    try have q2 : v4.heap.size + 1 < v2.heap.size := by omega
    have q3 : v4.heap.size < v4.heap.size + 1 := by omega
    have q4 : v4.heap.size < v4.heap.size + 1 + 1 := by omega
    have q5 : v4.heap.size + 1 < v4.heap.size + 1 + 1 := by omega
    refine Calls.mono (bytesPre_c _ (some ⟨g, 0, none⟩) _ 32 c 3 3 (byt 258) bex Hc.out (by decide) (HB.out.below (by repeat first | with_reducible exact Below.refl _ _ | with_reducible refine Below.drew ?_ | with_reducible refine below_dN ?_ | with_reducible refine Below.alloc ?_ (by first | omega | (simp; done) | (simp; omega)) _ | with_reducible refine Below.setCell ?_ (by first | omega | (simp; done) | (simp; omega)) _ | with_reducible refine Below.trans ?_ (Below.mono (by assumption) (by first | omega | (simp; done) | (simp; omega))))).slice (lit_at (heap_alloc_at (by first | rfl | simp only [World.size_alloc, World.size_setCell])) bex_lt bex_lit).slice bex_byt) ?_
    rintro _ w5 ⟨rfl, h5⟩
    obtain ⟨c5, f5, s5⟩ := bfacts h5
    try simp only [World.size_alloc, World.size_setCell, size_drew, size_drewN] at s5
    have q6 : v2.heap.size < v2.heap.size + 1 := by omega
    have q7 : v2.heap.size < v2.heap.size + 1 + 1 := by omega
    have q8 : v2.heap.size < w5.heap.size := by omega
    try have q9 : v4.heap.size < v2.heap.size + 1 := by omega
    try have q10 : v4.heap.size + 1 < v2.heap.size + 1 := by omega
    go_wp2_with fail
    refine bodyPost_ret (v := .bool true) (by simp only [results, Tryd.results33]; go_simp) rfl ⟨rfl, ?_⟩
    repeat first
      | with_reducible exact Below.refl _ _
      | with_reducible refine Below.drew ?_
      | with_reducible refine below_dN ?_
      | with_reducible refine Below.alloc ?_ (by first | omega | (simp; done) | (simp; omega)) _
      | with_reducible refine Below.setCell ?_ (by first | omega | (simp; done) | (simp; omega)) _
      | with_reducible refine Below.trans ?_ (Below.mono (by assumption) (by first | omega | (simp; done) | (simp; omega)))

theorem alive7_c (w : World) (hL : Laid w) : Calls Tryd.prog 33 #[] w fun e w' => e = .returned (.bool true) ∧ Below w.heap.size w w' := by
  have v258 : vec 258 = .agg #[.int .u64 258, .int .u64 0, .int .u64 0, .int .u64 0] := vec_of (a := 258) (b := 0) (c := 0) (d := 0) (by decide) (by decide) (by decide) (by decide)
  have hf := form7_c true 258 (by decide)
  rw [v258] at hf
  refine alive7_walk (RR true 258) w (Lib.hid hL) (Lib.hid (get7_c true)) (Lib.hid hf) (Lib.hid (encode_r true 258 (by decide))) (Lib.hid fun b w hB => ?_)
  have h := wide_c true b 0 64 (by decide) _ w hB
  have e : wideV true (fun _ => 0) = 0 := by
    have hl : ∀ n, le (fun _ => 0) n = 0 := fun n => by
      induction n with
      | zero => rfl
      | succ n ih => unfold le; rw [ih]; simp
    unfold wideV
    rw [hl]
    unfold mulm RR mulm addm
    simp
  rw [e, show RR true 0 = 0 by unfold RR mulm; simp, z4] at h
  exact h

end Go.Proofs.YtpebojiijgkadaaDoor

namespace Go.Proofs.YtpebojiijgkadaaDoor
set_option linter.all false
open Go Go.RowKit

/-- A slice argument: its bytes, and that its length is within its capacity. -/
structure BytesArg (w : World) (a : Option Addr) (n c : Nat) (f : Nat → Nat) : Prop where
  at_ : SliceAt w a n f
  cap : n ≤ c

set_option maxRecDepth 100000 in
set_option maxHeartbeats 8000000 in
theorem reduces_big (s : Bool) (a : Option Addr) (n c : Nat) (hn : 500 < n) (w : World) (HL : Hid (Laid w)) :
    Calls Tryd.prog 9 #[.bool s, .slice a n c] w fun e w' => e = .returned (.bool true) ∧ Below w.heap.size w w' := by
  have hn2 : (500 : Int) < (n : Int) := by omega
  clear hn
  go_enter Tryd.func9, Tryd.ntmps9
  go_wp2_with fail
  refine Calls.mono (alive7_c _ (HL.out.step (by repeat first | with_reducible exact Below.refl _ _ | with_reducible refine Below.drew ?_ | with_reducible refine below_dN ?_ | with_reducible refine Below.alloc ?_ (by first | omega | (simp; done) | (simp; omega)) _ | with_reducible refine Below.setCell ?_ (by first | omega | (simp; done) | (simp; omega)) _ | with_reducible refine Below.trans ?_ (Below.mono (by assumption) (by first | omega | (simp; done) | (simp; omega)))))) ?_
  rintro _ w1 ⟨rfl, h1⟩
  obtain ⟨c1, f1, s1⟩ := bfacts h1
  try simp only [World.size_alloc, World.size_setCell, size_drew, size_drewN] at s1
  go_wp2_with fail
  refine bodyPost_ret (v := .bool true) (by simp only [results, Tryd.results9]; go_simp) rfl ⟨rfl, ?_⟩
  repeat first
    | with_reducible exact Below.refl _ _
    | with_reducible refine Below.drew ?_
    | with_reducible refine below_dN ?_
    | with_reducible refine Below.alloc ?_ (by first | omega | (simp; done) | (simp; omega)) _
    | with_reducible refine Below.setCell ?_ (by first | omega | (simp; done) | (simp; omega)) _
    | with_reducible refine Below.trans ?_ (Below.mono (by assumption) (by first | omega | (simp; done) | (simp; omega)))

set_option maxRecDepth 100000 in
set_option maxHeartbeats 8000000 in
theorem reduces_bad (s : Bool) (a : Option Addr) (n c : Nat) (hn : n ≤ 500) (hne : n ≠ 64) (w : World) (HL : Hid (Laid w)) :
    Calls Tryd.prog 9 #[.bool s, .slice a n c] w fun e w' => e = .returned (.bool true) ∧ Below w.heap.size w w' := by
  have hn2 : ¬ (500 : Int) < (n : Int) := by omega
  have h1 := wide_len s a n c hne
  have h2 := refWide_len (pr s) a n c hne
  rw [z4] at h1 h2
  have H1 := Lib.hid h1
  have H2 := Lib.hid h2
  clear hn hne h1 h2
  go_enter Tryd.func9, Tryd.ntmps9
  go_wp2_with fail
  refine Calls.mono (get7_c s _ (HL.out.step (by repeat first | with_reducible exact Below.refl _ _ | with_reducible refine Below.drew ?_ | with_reducible refine below_dN ?_ | with_reducible refine Below.alloc ?_ (by first | omega | (simp; done) | (simp; omega)) _ | with_reducible refine Below.setCell ?_ (by first | omega | (simp; done) | (simp; omega)) _ | with_reducible refine Below.trans ?_ (Below.mono (by assumption) (by first | omega | (simp; done) | (simp; omega)))))) ?_
  rintro _ w1 ⟨rfl, h1⟩
  obtain ⟨c1, f1, s1⟩ := bfacts h1
  try simp only [World.size_alloc, World.size_setCell, size_drew, size_drewN] at s1
  go_wp2_with fail
  refine Calls.mono (H1.out _) ?_
  rintro _ w2 ⟨rfl, h2⟩
  obtain ⟨c2, f2, s2⟩ := bfacts h2
  try simp only [World.size_alloc, World.size_setCell, size_drew, size_drewN] at s2
  have l_w1_w2_0 : w1.heap.size < w2.heap.size := by omega
  have l_w1_w2_1 : w1.heap.size + 1 < w2.heap.size := by omega
  go_wp2_with fail
  refine Calls.mono (H2.out _) ?_
  rintro _ w3 ⟨rfl, h3⟩
  obtain ⟨c3, f3, s3⟩ := bfacts h3
  try simp only [World.size_alloc, World.size_setCell, size_drew, size_drewN] at s3
  have l_w1_w3_0 : w1.heap.size < w3.heap.size := by omega
  have l_w1_w3_1 : w1.heap.size + 1 < w3.heap.size := by omega
  have l_w2_w3_0 : w2.heap.size < w3.heap.size := by omega
  go_wp2_with fail
  refine Calls.mono (alive7_c _ (HL.out.step (by repeat first | with_reducible exact Below.refl _ _ | with_reducible refine Below.drew ?_ | with_reducible refine below_dN ?_ | with_reducible refine Below.alloc ?_ (by first | omega | (simp; done) | (simp; omega)) _ | with_reducible refine Below.setCell ?_ (by first | omega | (simp; done) | (simp; omega)) _ | with_reducible refine Below.trans ?_ (Below.mono (by assumption) (by first | omega | (simp; done) | (simp; omega)))))) ?_
  rintro _ w4 ⟨rfl, h4⟩
  obtain ⟨c4, f4, s4⟩ := bfacts h4
  try simp only [World.size_alloc, World.size_setCell, size_drew, size_drewN] at s4
  have l_w2_w4_0 : w2.heap.size < w4.heap.size := by omega
  have l_w3_w4_0 : w3.heap.size < w4.heap.size := by omega
  go_wp2_with fail
  refine bodyPost_ret (v := .bool true) (by simp only [results, Tryd.results9]; go_simp) rfl ⟨rfl, ?_⟩
  repeat first
    | with_reducible exact Below.refl _ _
    | with_reducible refine Below.drew ?_
    | with_reducible refine below_dN ?_
    | with_reducible refine Below.alloc ?_ (by first | omega | (simp; done) | (simp; omega)) _
    | with_reducible refine Below.setCell ?_ (by first | omega | (simp; done) | (simp; omega)) _
    | with_reducible refine Below.trans ?_ (Below.mono (by assumption) (by first | omega | (simp; done) | (simp; omega)))

set_option maxRecDepth 100000 in
set_option maxHeartbeats 8000000 in
theorem reduces_ok (s : Bool) (b off c x v : Nat) (w : World) (HL : Hid (Laid w))
    (hw : Hid (∀ w', Below w.heap.size w w' → Calls Tryd.prog 35 #[fieldV s, .slice (some ⟨b, off, none⟩) 64 c] w' fun e w'' => e = .returned (.tuple #[vec x, .int .i64 0]) ∧ Below w'.heap.size w' w''))
    (hr : Hid (∀ w', Below w.heap.size w w' → Calls Tryd.prog 36 #[vec (pr s), .slice (some ⟨b, off, none⟩) 64 c] w' fun e w'' => e = .returned (.tuple #[vec v, .int .i64 0]) ∧ Below w'.heap.size w' w''))
    (hf : Hid (∀ w, Calls Tryd.prog 37 #[vec (pr s), vec v] w fun e w' => e = .returned (vec x) ∧ Below w.heap.size w w')) :
    Calls Tryd.prog 9 #[.bool s, .slice (some ⟨b, off, none⟩) 64 c] w fun e w' => e = .returned (.bool true) ∧ Below w.heap.size w w' := by
  go_enter Tryd.func9, Tryd.ntmps9
  go_wp2_with fail
  refine Calls.mono (get7_c s _ (HL.out.step (by repeat first | with_reducible exact Below.refl _ _ | with_reducible refine Below.drew ?_ | with_reducible refine below_dN ?_ | with_reducible refine Below.alloc ?_ (by first | omega | (simp; done) | (simp; omega)) _ | with_reducible refine Below.setCell ?_ (by first | omega | (simp; done) | (simp; omega)) _ | with_reducible refine Below.trans ?_ (Below.mono (by assumption) (by first | omega | (simp; done) | (simp; omega)))))) ?_
  rintro _ w1 ⟨rfl, h1⟩
  obtain ⟨c1, f1, s1⟩ := bfacts h1
  try simp only [World.size_alloc, World.size_setCell, size_drew, size_drewN] at s1
  go_wp2_with fail
  refine Calls.mono (hw.out _ (by repeat first | with_reducible exact Below.refl _ _ | with_reducible refine Below.drew ?_ | with_reducible refine below_dN ?_ | with_reducible refine Below.alloc ?_ (by first | omega | (simp; done) | (simp; omega)) _ | with_reducible refine Below.setCell ?_ (by first | omega | (simp; done) | (simp; omega)) _ | with_reducible refine Below.trans ?_ (Below.mono (by assumption) (by first | omega | (simp; done) | (simp; omega))))) ?_
  rintro _ w2 ⟨rfl, h2⟩
  obtain ⟨c2, f2, s2⟩ := bfacts h2
  try simp only [World.size_alloc, World.size_setCell, size_drew, size_drewN] at s2
  have l_w1_w2_0 : w1.heap.size < w2.heap.size := by omega
  have l_w1_w2_1 : w1.heap.size + 1 < w2.heap.size := by omega
  go_wp2_with fail
  refine Calls.mono (hr.out _ (by repeat first | with_reducible exact Below.refl _ _ | with_reducible refine Below.drew ?_ | with_reducible refine below_dN ?_ | with_reducible refine Below.alloc ?_ (by first | omega | (simp; done) | (simp; omega)) _ | with_reducible refine Below.setCell ?_ (by first | omega | (simp; done) | (simp; omega)) _ | with_reducible refine Below.trans ?_ (Below.mono (by assumption) (by first | omega | (simp; done) | (simp; omega))))) ?_
  rintro _ w3 ⟨rfl, h3⟩
  obtain ⟨c3, f3, s3⟩ := bfacts h3
  try simp only [World.size_alloc, World.size_setCell, size_drew, size_drewN] at s3
  have l_w1_w3_0 : w1.heap.size < w3.heap.size := by omega
  have l_w1_w3_1 : w1.heap.size + 1 < w3.heap.size := by omega
  have l_w2_w3_0 : w2.heap.size < w3.heap.size := by omega
  go_wp2_with fail
  refine held_begin 13 [w1.heap.size + 1, w2.heap.size, w3.heap.size] (by kernel_rfl) rfl (by intro _ _ d _ _ h; cases d <;> exact h) ?_
  intro hQ hK
  with_reducible apply held_call (n := 12) 0
  · rfl
  · kernel_rfl
  · rfl
  · with_reducible exact hK
  apply Exists.intro
  apply Exists.intro
  apply Exists.intro
  refine ⟨?_, ?_, ?_, ?_⟩
  · go_simp
    exact ⟨rfl, rfl⟩
  · exact alive7_c _ (HL.out.step (by repeat first | with_reducible exact Below.refl _ _ | with_reducible refine Below.drew ?_ | with_reducible refine below_dN ?_ | with_reducible refine Below.alloc ?_ (by first | omega | (simp; done) | (simp; omega)) _ | with_reducible refine Below.setCell ?_ (by first | omega | (simp; done) | (simp; omega)) _ | with_reducible refine Below.trans ?_ (Below.mono (by assumption) (by first | omega | (simp; done) | (simp; omega)))))
  · intro b hb
    simp only [List.mem_cons, List.not_mem_nil, or_false] at hb
    rcases hb with rfl | rfl | rfl <;> first | omega | (simp; done) | (simp; omega)
  intro v0 h0 hK
  obtain ⟨c0, f0, s0⟩ := bfacts h0
  try simp only [World.size_alloc, World.size_setCell, size_drew, size_drewN] at s0
  try simp only [Act.put, List.setIfInBounds_toArray, List.set_cons_zero, List.set_cons_succ, List.tail_cons]
  with_reducible apply held_v (n := 11) 1
  · rfl
  · kernel_rfl
  · kernel_rfl
  · kernel_rfl
  · exact hQ
  · with_reducible exact hK
  · rfl
  apply Exists.intro
  refine ⟨fun w' hC => ?_, ?_⟩
  · have k0_ := hC (w1.heap.size + 1) (by simp only [List.mem_cons, true_or, or_true])
    have k1_ := hC (w2.heap.size) (by simp only [List.mem_cons, true_or, or_true])
    have k2_ := hC (w3.heap.size) (by simp only [List.mem_cons, true_or, or_true])
    clear hC
    go_simp
    rfl
  try simp only [Act.put, List.setIfInBounds_toArray, List.set_cons_zero, List.set_cons_succ, List.tail_cons]
  first
    | (with_reducible apply held_v (n := 10) 2
       · rfl
       · kernel_rfl
       · kernel_rfl
       · kernel_rfl
       · exact hQ
       · with_reducible exact hK
       · rfl
       apply Exists.intro
       refine ⟨fun w' hC => ?_, ?_⟩
       · have k0_ := hC (w1.heap.size + 1) (by simp only [List.mem_cons, true_or, or_true])
         have k1_ := hC (w2.heap.size) (by simp only [List.mem_cons, true_or, or_true])
         have k2_ := hC (w3.heap.size) (by simp only [List.mem_cons, true_or, or_true])
         clear hC
         go_simp
         rfl)
    | (with_reducible apply held_s (n := 10) 2
       · rfl
       · kernel_rfl
       · kernel_rfl
       · kernel_rfl
       · exact hQ
       · with_reducible exact hK
       · rfl)
  try simp only [Act.put, List.setIfInBounds_toArray, List.set_cons_zero, List.set_cons_succ, List.tail_cons]
  first
    | (with_reducible apply held_v (n := 9) 3
       · rfl
       · kernel_rfl
       · kernel_rfl
       · kernel_rfl
       · exact hQ
       · with_reducible exact hK
       · rfl
       apply Exists.intro
       refine ⟨fun w' hC => ?_, ?_⟩
       · have k0_ := hC (w1.heap.size + 1) (by simp only [List.mem_cons, true_or, or_true])
         have k1_ := hC (w2.heap.size) (by simp only [List.mem_cons, true_or, or_true])
         have k2_ := hC (w3.heap.size) (by simp only [List.mem_cons, true_or, or_true])
         clear hC
         go_simp
         rfl)
    | (with_reducible apply held_s (n := 9) 3
       · rfl
       · kernel_rfl
       · kernel_rfl
       · kernel_rfl
       · exact hQ
       · with_reducible exact hK
       · rfl)
  try simp only [Act.put, List.setIfInBounds_toArray, List.set_cons_zero, List.set_cons_succ, List.tail_cons]
  first
    | (with_reducible apply held_v (n := 8) 4
       · rfl
       · kernel_rfl
       · kernel_rfl
       · kernel_rfl
       · exact hQ
       · with_reducible exact hK
       · rfl
       apply Exists.intro
       refine ⟨fun w' hC => ?_, ?_⟩
       · have k0_ := hC (w1.heap.size + 1) (by simp only [List.mem_cons, true_or, or_true])
         have k1_ := hC (w2.heap.size) (by simp only [List.mem_cons, true_or, or_true])
         have k2_ := hC (w3.heap.size) (by simp only [List.mem_cons, true_or, or_true])
         clear hC
         go_simp
         rfl)
    | (with_reducible apply held_s (n := 8) 4
       · rfl
       · kernel_rfl
       · kernel_rfl
       · kernel_rfl
       · exact hQ
       · with_reducible exact hK
       · rfl)
  try simp only [Act.put, List.setIfInBounds_toArray, List.set_cons_zero, List.set_cons_succ, List.tail_cons]
  with_reducible apply held_call (n := 7) 5
  · rfl
  · kernel_rfl
  · rfl
  · with_reducible exact hK
  apply Exists.intro
  apply Exists.intro
  apply Exists.intro
  refine ⟨?_, ?_, ?_, ?_⟩
  · go_simp
    exact ⟨rfl, rfl⟩
  · exact hf.out _
  · intro b hb
    simp only [List.mem_cons, List.not_mem_nil, or_false] at hb
    rcases hb with rfl | rfl | rfl <;> first | omega | (simp; done) | (simp; omega)
  intro v5 h5 hK
  obtain ⟨c5, f5, s5⟩ := bfacts h5
  try simp only [World.size_alloc, World.size_setCell, size_drew, size_drewN] at s5
  try simp only [Act.put, List.setIfInBounds_toArray, List.set_cons_zero, List.set_cons_succ, List.tail_cons]
  first
    | (with_reducible apply held_v (n := 6) 6
       · rfl
       · kernel_rfl
       · kernel_rfl
       · kernel_rfl
       · exact hQ
       · with_reducible exact hK
       · rfl
       apply Exists.intro
       refine ⟨fun w' hC => ?_, ?_⟩
       · have k0_ := hC (w1.heap.size + 1) (by simp only [List.mem_cons, true_or, or_true])
         have k1_ := hC (w2.heap.size) (by simp only [List.mem_cons, true_or, or_true])
         have k2_ := hC (w3.heap.size) (by simp only [List.mem_cons, true_or, or_true])
         clear hC
         go_simp
         rfl)
    | (with_reducible apply held_s (n := 6) 6
       · rfl
       · kernel_rfl
       · kernel_rfl
       · kernel_rfl
       · exact hQ
       · with_reducible exact hK
       · rfl)
  try simp only [Act.put, List.setIfInBounds_toArray, List.set_cons_zero, List.set_cons_succ, List.tail_cons]
  with_reducible apply held_v (n := 5) 7
  · rfl
  · kernel_rfl
  · kernel_rfl
  · kernel_rfl
  · exact hQ
  · with_reducible exact hK
  · rfl
  apply Exists.intro
  refine ⟨fun w' hC => ?_, ?_⟩
  · have k0_ := hC (w1.heap.size + 1) (by simp only [List.mem_cons, true_or, or_true])
    have k1_ := hC (w2.heap.size) (by simp only [List.mem_cons, true_or, or_true])
    have k2_ := hC (w3.heap.size) (by simp only [List.mem_cons, true_or, or_true])
    clear hC
    go_simp
    rfl
  try simp only [Act.put, List.setIfInBounds_toArray, List.set_cons_zero, List.set_cons_succ, List.tail_cons]
  with_reducible apply held_v (n := 4) 8
  · rfl
  · kernel_rfl
  · kernel_rfl
  · kernel_rfl
  · exact hQ
  · with_reducible exact hK
  · rfl
  apply Exists.intro
  refine ⟨fun w' hC => ?_, ?_⟩
  · have k0_ := hC (w1.heap.size + 1) (by simp only [List.mem_cons, true_or, or_true])
    have k1_ := hC (w2.heap.size) (by simp only [List.mem_cons, true_or, or_true])
    have k2_ := hC (w3.heap.size) (by simp only [List.mem_cons, true_or, or_true])
    clear hC
    go_simp
    rfl
  try simp only [Act.put, List.setIfInBounds_toArray, List.set_cons_zero, List.set_cons_succ, List.tail_cons]
  first
    | (with_reducible apply held_v (n := 3) 9
       · rfl
       · kernel_rfl
       · kernel_rfl
       · kernel_rfl
       · exact hQ
       · with_reducible exact hK
       · rfl
       apply Exists.intro
       refine ⟨fun w' hC => ?_, ?_⟩
       · have k0_ := hC (w1.heap.size + 1) (by simp only [List.mem_cons, true_or, or_true])
         have k1_ := hC (w2.heap.size) (by simp only [List.mem_cons, true_or, or_true])
         have k2_ := hC (w3.heap.size) (by simp only [List.mem_cons, true_or, or_true])
         clear hC
         go_simp
         rfl)
    | (with_reducible apply held_s (n := 3) 9
       · rfl
       · kernel_rfl
       · kernel_rfl
       · kernel_rfl
       · exact hQ
       · with_reducible exact hK
       · rfl)
  try simp only [Act.put, List.setIfInBounds_toArray, List.set_cons_zero, List.set_cons_succ, List.tail_cons]
  first
    | (with_reducible apply held_v (n := 2) 10
       · rfl
       · kernel_rfl
       · kernel_rfl
       · kernel_rfl
       · exact hQ
       · with_reducible exact hK
       · rfl
       apply Exists.intro
       refine ⟨fun w' hC => ?_, ?_⟩
       · have k0_ := hC (w1.heap.size + 1) (by simp only [List.mem_cons, true_or, or_true])
         have k1_ := hC (w2.heap.size) (by simp only [List.mem_cons, true_or, or_true])
         have k2_ := hC (w3.heap.size) (by simp only [List.mem_cons, true_or, or_true])
         clear hC
         go_simp
         rfl)
    | (with_reducible apply held_s (n := 2) 10
       · rfl
       · kernel_rfl
       · kernel_rfl
       · kernel_rfl
       · exact hQ
       · with_reducible exact hK
       · rfl)
  try simp only [Act.put, List.setIfInBounds_toArray, List.set_cons_zero, List.set_cons_succ, List.tail_cons]
  with_reducible apply held_v (n := 1) 11
  · rfl
  · kernel_rfl
  · kernel_rfl
  · kernel_rfl
  · exact hQ
  · with_reducible exact hK
  · rfl
  apply Exists.intro
  refine ⟨fun w' hC => ?_, ?_⟩
  · have k0_ := hC (w1.heap.size + 1) (by simp only [List.mem_cons, true_or, or_true])
    have k1_ := hC (w2.heap.size) (by simp only [List.mem_cons, true_or, or_true])
    have k2_ := hC (w3.heap.size) (by simp only [List.mem_cons, true_or, or_true])
    clear hC
    go_simp
    rfl
  try simp only [Act.put, List.setIfInBounds_toArray, List.set_cons_zero, List.set_cons_succ, List.tail_cons]
  with_reducible apply held_v (n := 0) 12
  · rfl
  · kernel_rfl
  · kernel_rfl
  · kernel_rfl
  · exact hQ
  · with_reducible exact hK
  · rfl
  apply Exists.intro
  refine ⟨fun w' hC => ?_, ?_⟩
  · have k0_ := hC (w1.heap.size + 1) (by simp only [List.mem_cons, true_or, or_true])
    have k1_ := hC (w2.heap.size) (by simp only [List.mem_cons, true_or, or_true])
    have k2_ := hC (w3.heap.size) (by simp only [List.mem_cons, true_or, or_true])
    clear hC
    go_simp
    rfl
  try simp only [Act.put, List.setIfInBounds_toArray, List.set_cons_zero, List.set_cons_succ, List.tail_cons]
  refine held_end (by kernel_rfl) ?_
  clear hK hQ
  go_wp2_with fail
  refine bodyPost_ret (v := .bool true) (by simp only [results, Tryd.results9]; go_simp) rfl ⟨rfl, ?_⟩
  repeat first
    | with_reducible exact Below.refl _ _
    | with_reducible refine Below.drew ?_
    | with_reducible refine below_dN ?_
    | with_reducible refine Below.alloc ?_ (by first | omega | (simp; done) | (simp; omega)) _
    | with_reducible refine Below.setCell ?_ (by first | omega | (simp; done) | (simp; omega)) _
    | with_reducible refine Below.trans ?_ (Below.mono (by assumption) (by first | omega | (simp; done) | (simp; omega)))

theorem bytecodeReduces_c (w : World) (s : Bool) (a : Option Addr) (n c : Nat) (f : Nat → Nat) (h : BytesArg w a n c f) (hL : Laid w) :
    Calls Tryd.prog 9 #[.bool s, .slice a n c] w fun e w' => e = .returned (.bool true) ∧ Below w.heap.size w w' := by
  by_cases h5 : 500 < n
  · exact reduces_big s a n c h5 w (Lib.hid hL)
  · by_cases h6 : n = 64
    · subst h6
      obtain ⟨b, off, rfl, hB⟩ := h.at_.pos (by decide)
      exact reduces_ok s b off c (RR s (wideV s f)) (wideV s f) w (Lib.hid hL) (Lib.hid fun w' hb => wide_c s b off c h.cap f w' (hB.below hb)) (Lib.hid fun w' hb => refWide_c s b off c h.cap f w' (hB.below hb))
        (Lib.hid (form7_c s _ (Nat.lt_trans (wideV_lt s f) (pr_lt s))))
    · exact reduces_bad s a n c (by omega) h6 w (Lib.hid hL)
end Go.Proofs.YtpebojiijgkadaaDoor
