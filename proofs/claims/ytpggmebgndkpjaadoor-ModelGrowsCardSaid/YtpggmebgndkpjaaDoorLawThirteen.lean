/- The contracts of law 13's get, alive and ChunksCount. -/
import Derived.Test.YtpggmebgndkpjaaDoorChunkOut
import Derived.Test.YtpggmebgndkpjaaDoorLaws5
import Derived.Test.YtpggmebgndkpjaaDoorWalk0
import Derived.Lib.SmallJoins
namespace Go.Proofs.YtpggmebgndkpjaaDoor
set_option linter.all false
open Go Go.RowKit Go.Shelf

theorem lawID_b (s : Bool) (w : World) : Calls Tryd.prog 56 #[.bool s] w fun e w' => e = .returned (.int .i64 (fid s)) ∧ Below w.heap.size w w' :=
  (lawID_c s w).mono fun e w' ⟨h, h2⟩ => ⟨h, h2 ▸ Below.refl _ _⟩

set_option maxRecDepth 100000 in
set_option maxHeartbeats 4000000 in
theorem get13_c (s : Bool) (w : World) (hL : Laid w) :
    Calls Tryd.prog 32 #[.bool s] w fun e w' => e = .returned (.tuple #[fieldV s, vec (pr s)]) ∧ Below w.heap.size w w' := by
  go_enter Tryd.func32, Tryd.ntmps32
  go_wp2_with fail
  refine Calls.mono (lawID_c s _) ?_
  rintro _ _ ⟨rfl, rfl⟩
  go_wp2_with fail
  refine Calls.mono (get_c s _ (hL.step (by repeat first | with_reducible exact Below.refl _ _ | with_reducible refine Below.drew ?_ | with_reducible refine below_dN ?_ | with_reducible refine Below.alloc ?_ (by first | omega | (simp; done) | (simp; omega)) _ | with_reducible refine Below.setCell ?_ (by first | omega | (simp; done) | (simp; omega)) _ | with_reducible refine Below.trans ?_ (Below.mono (by assumption) (by first | omega | (simp; done) | (simp; omega)))))) ?_
  rintro _ w1 ⟨rfl, h1⟩
  obtain ⟨c1, f1, s1⟩ := bfacts h1
  try simp only [World.size_alloc, World.size_setCell, size_drew, size_drewN] at s1
  have l_w_w1_0 : w.heap.size < w1.heap.size := by omega
  have l_w_w1_1 : w.heap.size + 1 < w1.heap.size := by omega
  have lp_w_w1_0 : w.heap.size < w1.heap.size := by omega
  have lp_w_w1_1 : w.heap.size < w1.heap.size + 1 := by omega
  have lp_w_w1_2 : w.heap.size < w1.heap.size + 1 + 1 := by omega
  have lp_w_w1_3 : w.heap.size < w1.heap.size + 1 + 1 + 1 := by omega
  go_wp2_with fail
  refine held_begin 6 [w1.heap.size] (by kernel_rfl) rfl (by intro _ _ d _ _ h; cases d <;> exact h) ?_
  intro hQ hK
  with_reducible apply held_v (n := 5) 0
  · rfl
  · kernel_rfl
  · kernel_rfl
  · kernel_rfl
  · exact hQ
  · with_reducible exact hK
  · rfl
  apply Exists.intro
  refine ⟨fun w' hC => ?_, ?_⟩
  · have k0_ := hC (w1.heap.size) (by simp only [List.mem_cons, true_or, or_true])
    clear hC
    go_simp
    rfl
  try simp only [Act.put, List.setIfInBounds_toArray, List.set_cons_zero, List.set_cons_succ, List.tail_cons]
  with_reducible apply held_v (n := 4) 1
  · rfl
  · kernel_rfl
  · kernel_rfl
  · kernel_rfl
  · exact hQ
  · with_reducible exact hK
  · rfl
  apply Exists.intro
  refine ⟨fun w' hC => ?_, ?_⟩
  · have k0_ := hC (w1.heap.size) (by simp only [List.mem_cons, true_or, or_true])
    clear hC
    go_simp
    rfl
  try simp only [Act.put, List.setIfInBounds_toArray, List.set_cons_zero, List.set_cons_succ, List.tail_cons]
  with_reducible apply held_call (n := 3) 2
  · rfl
  · kernel_rfl
  · rfl
  · with_reducible exact hK
  apply Exists.intro
  apply Exists.intro
  apply Exists.intro
  refine ⟨?_, ?_, ?_, ?_⟩
  · go_simp
    exact ⟨rfl, rfl⟩
  · exact lawID_b s _
  · intro b hb
    simp only [List.mem_cons, List.not_mem_nil, or_false] at hb
    rcases hb with rfl <;> first | omega | (simp; done) | (simp; omega)
  intro v2 h2 hK
  obtain ⟨c2, f2, s2⟩ := bfacts h2
  try simp only [World.size_alloc, World.size_setCell, size_drew, size_drewN] at s2
  have l_w_v2_0 : w.heap.size < v2.heap.size := by omega
  have l_w_v2_1 : w.heap.size + 1 < v2.heap.size := by omega
  have l_w1_v2_0 : w1.heap.size < v2.heap.size := by omega
  try simp only [Act.put, List.setIfInBounds_toArray, List.set_cons_zero, List.set_cons_succ, List.tail_cons]
  with_reducible apply held_call (n := 2) 3
  · rfl
  · kernel_rfl
  · rfl
  · with_reducible exact hK
  apply Exists.intro
  apply Exists.intro
  apply Exists.intro
  refine ⟨?_, ?_, ?_, ?_⟩
  · go_simp
    exact ⟨rfl, rfl⟩
  · exact refModulus_c s _
  · intro b hb
    simp only [List.mem_cons, List.not_mem_nil, or_false] at hb
    rcases hb with rfl <;> first | omega | (simp; done) | (simp; omega)
  intro v3 h3 hK
  obtain ⟨c3, f3, s3⟩ := bfacts h3
  try simp only [World.size_alloc, World.size_setCell, size_drew, size_drewN] at s3
  have l_w_v3_0 : w.heap.size < v3.heap.size := by omega
  have l_w_v3_1 : w.heap.size + 1 < v3.heap.size := by omega
  have l_w1_v3_0 : w1.heap.size < v3.heap.size := by omega
  try simp only [Act.put, List.setIfInBounds_toArray, List.set_cons_zero, List.set_cons_succ, List.tail_cons]
  with_reducible apply held_t (n := 1) 4
  · rfl
  · kernel_rfl
  · rfl
  apply Exists.intro
  refine ⟨?_, ?_, ?_⟩
  · go_simp
    rfl
  · repeat first
      | with_reducible exact hK
      | with_reducible refine KeepL.drewN ?_ _
      | with_reducible refine KeepL.drew ?_
      | with_reducible (refine KeepL.set ?_ _ _ (by intro b hb; simp only [List.mem_cons, List.not_mem_nil, or_false] at hb; rcases hb with rfl <;> (first | omega | (simp; done) | (simp; omega))))
      | with_reducible (refine KeepL.alloc ?_ _ (by intro b hb; simp only [List.mem_cons, List.not_mem_nil, or_false] at hb; rcases hb with rfl <;> (first | omega | (simp; done) | (simp; omega))))
      | exact fun _ _ _ => rfl
  intro hK
  try simp only [Act.put, List.setIfInBounds_toArray, List.set_cons_zero, List.set_cons_succ, List.tail_cons]
  with_reducible apply held_t (n := 0) 5
  · rfl
  · kernel_rfl
  · rfl
  apply Exists.intro
  refine ⟨?_, ?_, ?_⟩
  · go_simp
    rfl
  · repeat first
      | with_reducible exact hK
      | with_reducible refine KeepL.drewN ?_ _
      | with_reducible refine KeepL.drew ?_
      | with_reducible (refine KeepL.set ?_ _ _ (by intro b hb; simp only [List.mem_cons, List.not_mem_nil, or_false] at hb; rcases hb with rfl <;> (first | omega | (simp; done) | (simp; omega))))
      | with_reducible (refine KeepL.alloc ?_ _ (by intro b hb; simp only [List.mem_cons, List.not_mem_nil, or_false] at hb; rcases hb with rfl <;> (first | omega | (simp; done) | (simp; omega))))
      | exact fun _ _ _ => rfl
  intro hK
  try simp only [Act.put, List.setIfInBounds_toArray, List.set_cons_zero, List.set_cons_succ, List.tail_cons]
  refine held_end (by kernel_rfl) ?_
  clear hK hQ
  go_wp2_with fail
  have e1 : w.heap.size < w.heap.size + 1 := by omega
  have e2 : w.heap.size < w.heap.size + 1 + 1 := by omega
  have e3 : w.heap.size + 1 < w.heap.size + 1 + 1 := by omega
  refine bp_name ?_
  intro wS hN
  have hB_wS : Below w.heap.size w wS := by rw [hN]; exact (by repeat first | with_reducible exact Below.refl _ _ | with_reducible refine Below.drew ?_ | with_reducible refine below_dN ?_ | with_reducible refine Below.alloc ?_ (by first | omega | (simp; done) | (simp; omega)) _ | with_reducible refine Below.setCell ?_ (by first | omega | (simp; done) | (simp; omega)) _ | with_reducible refine Below.trans ?_ (Below.mono (by assumption) (by first | omega | (simp; done) | (simp; omega))))
  have pzwS0x0 : wS.cell? ⟨w.heap.size, 0, none⟩ = some (.int .i64 (fid s)) := by rw [hN]; go_simp
  have pzwS0x1 : wS.cell? ⟨w.heap.size, 1, none⟩ = some (.int .u64 ((dg 0 (pr s) : Nat) : Int)) := by rw [hN]; go_simp
  have pzwS0x2 : wS.cell? ⟨w.heap.size, 2, none⟩ = some (.int .u64 ((dg 1 (pr s) : Nat) : Int)) := by rw [hN]; go_simp
  have pzwS0x3 : wS.cell? ⟨w.heap.size, 3, none⟩ = some (.int .u64 ((dg 2 (pr s) : Nat) : Int)) := by rw [hN]; go_simp
  have pzwS0x4 : wS.cell? ⟨w.heap.size, 4, none⟩ = some (.int .u64 ((dg 3 (pr s) : Nat) : Int)) := by rw [hN]; go_simp
  have pzwS0x5 : wS.cell? ⟨w.heap.size, 5, none⟩ = some (.int .u64 ((ninv s : Nat) : Int)) := by rw [hN]; go_simp
  have pzwS0x6 : wS.cell? ⟨w.heap.size, 6, none⟩ = some (.int .u64 ((dg 0 (rone s) : Nat) : Int)) := by rw [hN]; go_simp
  have pzwS0x7 : wS.cell? ⟨w.heap.size, 7, none⟩ = some (.int .u64 ((dg 1 (rone s) : Nat) : Int)) := by rw [hN]; go_simp
  have pzwS0x8 : wS.cell? ⟨w.heap.size, 8, none⟩ = some (.int .u64 ((dg 2 (rone s) : Nat) : Int)) := by rw [hN]; go_simp
  have pzwS0x9 : wS.cell? ⟨w.heap.size, 9, none⟩ = some (.int .u64 ((dg 3 (rone s) : Nat) : Int)) := by rw [hN]; go_simp
  have pzwS0x10 : wS.cell? ⟨w.heap.size, 10, none⟩ = some (.int .u64 ((dg 0 (rsq s) : Nat) : Int)) := by rw [hN]; go_simp
  have pzwS0x11 : wS.cell? ⟨w.heap.size, 11, none⟩ = some (.int .u64 ((dg 1 (rsq s) : Nat) : Int)) := by rw [hN]; go_simp
  have pzwS0x12 : wS.cell? ⟨w.heap.size, 12, none⟩ = some (.int .u64 ((dg 2 (rsq s) : Nat) : Int)) := by rw [hN]; go_simp
  have pzwS0x13 : wS.cell? ⟨w.heap.size, 13, none⟩ = some (.int .u64 ((dg 3 (rsq s) : Nat) : Int)) := by rw [hN]; go_simp
  have pswS0 : w.heap.size < wS.heap.size := by rw [hN]; first | omega | (simp; done) | (simp; omega)
  have pzwS1x0 : wS.cell? ⟨w.heap.size + 1, 0, none⟩ = some (.int .u64 ((dg 0 (pr s) : Nat) : Int)) := by rw [hN]; go_simp
  have pzwS1x1 : wS.cell? ⟨w.heap.size + 1, 1, none⟩ = some (.int .u64 ((dg 1 (pr s) : Nat) : Int)) := by rw [hN]; go_simp
  have pzwS1x2 : wS.cell? ⟨w.heap.size + 1, 2, none⟩ = some (.int .u64 ((dg 2 (pr s) : Nat) : Int)) := by rw [hN]; go_simp
  have pzwS1x3 : wS.cell? ⟨w.heap.size + 1, 3, none⟩ = some (.int .u64 ((dg 3 (pr s) : Nat) : Int)) := by rw [hN]; go_simp
  have pswS1 : w.heap.size + 1 < wS.heap.size := by rw [hN]; first | omega | (simp; done) | (simp; omega)
  clear hN
  refine bodyPost_ret (v := .tuple #[fieldV s, vec (pr s)]) (by simp only [results, Tryd.results32]; go_simp) rfl ⟨rfl, ?_⟩
  exact hB_wS

/-- The bytes of the example. -/
def sec (j : Nat) : Nat := if j = 0 then 115 else if j = 1 then 101 else if j = 2 then 99 else if j = 3 then 114 else if j = 4 then 101 else 116
theorem sec_lt (j : Nat) : sec j < 256 := by unfold sec; split; decide; split; decide; split; decide; split; decide; split <;> decide
def secL : List Value := [.int .u8 115, .int .u8 101, .int .u8 99, .int .u8 114, .int .u8 101, .int .u8 116]
theorem sec_lit : ∀ j, j < 6 → secL[j]? = some (.int .u8 ((sec j : Nat) : Int)) := fun j hj => by
  have h : j = 0 ∨ j = 1 ∨ j = 2 ∨ j = 3 ∨ j = 4 ∨ j = 5 := by omega
  rcases h with rfl | rfl | rfl | rfl | rfl | rfl <;> rfl
theorem lit_at {w : World} {b n : Nat} {cs : List Value} {t : TypeId} {q : Nat × Nat} {f : Nat → Nat} (h : w.heap[b]? = some (.cells cs.toArray t q)) (hf : ∀ j, f j < 256) (hc : ∀ j, j < n → cs[j]? = some (.int .u8 ((f j : Nat) : Int))) : BytesAt w b 0 n f := by
  refine ⟨hf, (Array.getElem?_eq_some_iff.1 h).1, fun j hj => ?_⟩
  have : w.cell? ⟨b, 0 + j, none⟩ = cs.toArray[0 + j]? := by simp [World.cell?, h]
  rw [this, Nat.zero_add, List.getElem?_toArray]
  exact hc j hj
/-- The numbers of n bytes. -/
def nl (f : Nat → Nat) (n : Nat) : List Int := (List.range n).map fun j => ((f j : Nat) : Int)
theorem nl_len (f : Nat → Nat) (n : Nat) : (nl f n).length = n := by simp [nl]
theorem nl_get (f : Nat → Nat) (n i : Nat) (h : i < n) : (nl f n).getD i 0 = ((f i : Nat) : Int) := by simp [nl, List.getD, h]
theorem nl_congr {f g : Nat → Nat} {n : Nat} (h : ∀ j, j < n → f j = g j) : nl f n = nl g n := by
  unfold nl
  exact List.map_congr_left fun j hj => by rw [h j (List.mem_range.1 hj)]
theorem SliceAt.bytesIn {w : World} {a : Option Addr} {n : Nat} {f : Nat → Nat} (h : SliceAt w a n f) : Lib.BytesIn w a n (nl f n) := by
  intro hn
  obtain ⟨b, off, rfl, hB⟩ := h.pos hn
  refine ⟨b, off, rfl, fun i hi => ?_⟩
  rw [nl_get f n i hi]
  exact hB.cell i hi
theorem bytesEq_c (w : World) (a b : Option Addr) (n c d : Nat) (f g : Nat → Nat) (h1 : SliceAt w a n f) (h2 : SliceAt w b n g) (h : ∀ j, j < n → f j = g j) :
    Calls Tryd.prog 38 #[.slice a n c, .slice b n d] w fun e w' => e = .returned (.bool true) ∧ Below w.heap.size w w' := by
  refine (Tryd.bytes_Equal_all a b n c n d (nl f n) (nl g n) w (nl_len f n) (nl_len g n) h1.bytesIn h2.bytesIn).mono ?_
  rintro e w' ⟨rfl, rfl⟩
  refine ⟨?_, Below.refl _ _⟩
  rw [nl_congr h]
  simp
theorem sec_str {w : World} {a : Option Addr} {c : Nat} (h : SliceAt w a 6 sec) : (convert 53 9 (.slice a 6 c)).run Tryd.prog w = .ok (.string { data := #[115, 101, 99, 114, 101, 116] }) w := by
  rw [h.bytesIn.convert (nl_len _ _) c 53 5 9 (by kernel_rfl) (by kernel_rfl) (by kernel_rfl)]
  have e : strOfNums (nl sec 6) = { data := #[115, 101, 99, 114, 101, 116] } := by decide
  rw [e]

end Go.Proofs.YtpggmebgndkpjaaDoor
