/- The contract of Write. -/
import Derived.Test.YtdaggankfokloaaDoorHash
import Derived.Test.YtdaggankfokloaaDoorHeld
import Derived.Test.YtdaggankfokloaaDoorGrow
import Derived.Laws.AppendOwnNone
namespace Go.Proofs.YtdaggankfokloaaDoor
set_option linter.all false
open Go Go.RowKit

/-- f up to n, then g. -/
def cat (f : Nat → Nat) (n : Nat) (g : Nat → Nat) (j : Nat) : Nat := if j < n then f j else g (j - n)
theorem cat_lt {f g : Nat → Nat} (hf : ∀ j, f j < 256) (hg : ∀ j, g j < 256) (n j : Nat) : cat f n g j < 256 := by unfold cat; split; exact hf _; exact hg _
theorem cat_rest (f g : Nat → Nat) (n m : Nat) : fl (fun j => f (64 * (n / 64) + j)) (n % 64) ++ fl g m = fl (fun j => cat f n g (64 * (n / 64) + j)) (n % 64 + m) := by
  rw [← fl_add]
  congr 1
  · exact fl_congr fun j hj => by unfold cat; rw [if_pos (by omega)]
  · exact fl_congr fun j _ => by unfold cat; rw [if_neg (by omega)]; congr 1; omega
theorem hs_cat (f g : Nat → Nat) (n : Nat) : hs K s0 f (n / 64) = hs K s0 (cat f n g) (n / 64) := hs_congr _ fun j hj => by unfold cat; rw [if_pos (by omega)]

/-- Of the old blocks only p (and the row r) may have been written. -/
structure Wrote (w w' : World) (p : Nat) (r : Option Nat) : Prop where
  os : w'.os = w.os
  tape : w'.tape = w.tape
  output : w'.output = w.output
  size : w.heap.size ≤ w'.heap.size
  block : ∀ k, k < w.heap.size → k ≠ p → some k ≠ r → w'.heap[k]? = w.heap[k]?
theorem Wrote.below {w w' : World} {p C : Nat} {r : Option Nat} (h : Wrote w w' p r) (hC : C ≤ p) (hw : C ≤ w.heap.size) (hr : ∀ k, r = some k → C ≤ k) : Below C w w' :=
  ⟨h.os, h.tape, h.output, h.size, fun k hk => h.block k (by omega) (by omega) (fun e => by have := hr k e.symm; omega)⟩

theorem Wrote.refl (w : World) (p : Nat) (r : Option Nat) : Wrote w w p r := ⟨rfl, rfl, rfl, Nat.le_refl _, fun _ _ _ _ => rfl⟩
theorem Wrote.step {w a b : World} {p : Nat} {r : Option Nat} (h : Wrote w a p r) (hb : Below a.heap.size a b) : Wrote w b p r :=
  ⟨hb.os.trans h.os, hb.tape.trans h.tape, hb.output.trans h.output, Nat.le_trans h.size hb.size, fun k hk h1 h2 => (hb.block k (Nat.lt_of_lt_of_le hk h.size)).trans (h.block k hk h1 h2)⟩
theorem Wrote.set {w a : World} {p : Nat} {r : Option Nat} (h : Wrote w a p r) (j : Nat) (v : Value) : Wrote w (a.setCell ⟨p, j, none⟩ v) p r :=
  ⟨h.os, h.tape, h.output, by simpa [World.setCell] using h.size, fun k hk h1 h2 => (Below.heap_setCell _ _ _ _ h1).trans (h.block k hk h1 h2)⟩
theorem Wrote.grown {w a b : World} {p : Nat} {r : Option Nat} (h : Wrote w a p r) (hg : a.grownBy b r) : Wrote w b p r :=
  ⟨hg.os.trans h.os, hg.tape.trans h.tape, hg.output.trans h.output, Nat.le_trans h.size hg.size, fun k hk h1 h2 => (hg.block k (Nat.lt_of_lt_of_le hk h.size) h2).trans (h.block k hk h1 h2)⟩

/-- The head of a hash: its state and its count; its slice lies there. -/
structure HeadAt (w : World) (p : Nat) (S : St) (N : Nat) : Prop where
  blk : p < w.heap.size
  st : ∀ j, j < 8 → w.cell? ⟨p, j, none⟩ = some (.int .u32 ((S.at j : Nat) : Int))
  c8 : (w.cell? ⟨p, 8, none⟩).isSome = true
  c9 : w.cell? ⟨p, 9, none⟩ = some (.int .i64 (N : Int))
  fz : ∀ j, w.frozen? ⟨p, j, none⟩ = false
theorem HeadAt.below {w w' : World} {p : Nat} {S : St} {N : Nat} (h : HeadAt w p S N) (hb : Below w.heap.size w w') : HeadAt w' p S N :=
  ⟨Nat.lt_of_lt_of_le h.blk hb.size, fun j hj => (hb.cell (p := ⟨p, j, none⟩) h.blk).trans (h.st j hj), by rw [hb.cell (p := ⟨p, 8, none⟩) h.blk]; exact h.c8,
    (hb.cell (p := ⟨p, 9, none⟩) h.blk).trans h.c9, fun j => (hb.frozen (p := ⟨p, j, none⟩) h.blk).trans (h.fz j)⟩

theorem write_head {C p n m : Nat} {f : Nat → Nat} {w w1 : World} {r : Value} (H : HashAt w C p f n) (hr : w.cell? ⟨p, 8, none⟩ = some r) (hrp : r.ownBlock ≠ some p)
    (hg : (w.setCell ⟨p, 9, none⟩ (.int .i64 ((n : Int) + (m : Int)))).grownBy w1 r.ownBlock) : HeadAt w1 p (hs K s0 f (n / 64)) (n + m) := by
  have hne : some p ≠ r.ownBlock := fun e => hrp e.symm
  have other : ∀ j v, j ≠ 9 → w.cell? ⟨p, j, none⟩ = some v → w1.cell? ⟨p, j, none⟩ = some v := fun j v hj h =>
    hg.cell (a := ⟨p, j, none⟩) ((World.cell?_setCell_other (w := w) (v := .int .i64 ((n : Int) + (m : Int))) (a := ⟨p, 9, none⟩) (b := ⟨p, j, none⟩) (fun e => by injection e with _ e2; omega)).trans h) hne
  refine ⟨Nat.lt_of_lt_of_le (by simpa [World.setCell] using H.blk) hg.size, fun j hj => other j _ (by omega) (H.st j hj), by rw [other 8 _ (by decide) hr]; rfl, ?_, fun j => ?_⟩
  · exact hg.cell (a := ⟨p, 9, none⟩) (World.cell?_setCell_same' w _ _ (by rw [H.len]; rfl)) hne
  · rw [World.frozen?_of_block (w := w.setCell ⟨p, 9, none⟩ (.int .i64 ((n : Int) + (m : Int)))) (hg.block p (by simpa [World.setCell] using H.blk) hne), World.frozen?_setCell]
    exact H.fz j
def lnOf : Value → Nat | .slice _ l _ => l | _ => 0
theorem HeadAt.there {w : World} {p : Nat} {S : St} {N : Nat} {g : Nat → Nat} (h : HeadAt w p S N) : w.there p 0 (ws g 8).toArray.size := by
  rw [List.size_toArray, ws_len]
  exact fun j hj => by rw [Nat.zero_add]; exact ⟨by rw [h.st j hj]; rfl, h.fz j⟩
/-- The state is written anew. -/
theorem HeadAt.stored {w : World} {p : Nat} {S S' : St} {N : Nat} (h : HeadAt w p S N) : HeadAt (w.setCells p 0 (ws S'.at 8)) p S' N := by
  have ht : w.there p 0 8 := fun j hj => by rw [Nat.zero_add]; exact ⟨by rw [h.st j hj]; rfl, h.fz j⟩
  have out : ∀ j, 8 ≤ j → (w.setCells p 0 (ws S'.at 8)).cell? ⟨p, j, none⟩ = w.cell? ⟨p, j, none⟩ := fun j hj =>
    World.cell?_setCells_out p _ 0 w ⟨p, j, none⟩ (fun _ _ => .inr (by rw [ws_len]; simpa using hj))
  refine ⟨by rw [size_setCells]; exact h.blk, fun j hj => ?_, by rw [out 8 (by decide)]; exact h.c8, by rw [out 9 (by decide)]; exact h.c9, fun j => by rw [World.frozen?_setCells]; exact h.fz j⟩
  have := World.rangeAt_setCells_same w p 0 (ws S'.at 8) (by rw [ws_len]; exact ht) j _ (ws_get S'.at 8 j hj)
  rwa [Nat.zero_add] at this

theorem Laid.drew {w : World} (h : Laid w) : Laid w.drew := ⟨h.k, h.s⟩
theorem BytesAt.drew {w : World} {b off n : Nat} {f : Nat → Nat} (h : BytesAt w b off n f) : BytesAt w.drew b off n f := ⟨h.lt, h.blk, h.cell⟩
theorem BytesAt.setCells {w : World} {b off n p : Nat} {f : Nat → Nat} (h : BytesAt w b off n f) (hp : b ≠ p) (vs : List Value) : BytesAt (w.setCells p 0 vs) b off n f :=
  ⟨h.lt, by rw [size_setCells]; exact h.blk, fun j hj => (World.cell?_setCells_out p vs 0 w ⟨b, off + j, none⟩ (fun e => absurd e hp)).trans (h.cell j hj)⟩
theorem Wrote.setCells {w : World} {p : Nat} {r : Option Nat} : ∀ (vs : List Value) (o : Nat) (a : World), Wrote w a p r → Wrote w (a.setCells p o vs) p r
  | [], _, _, h => h
  | v :: l, o, a, h => by
    unfold World.setCells
    exact Wrote.setCells l (o + 1) _ (h.set o v)
theorem after_c (w : World) (b off c : Nat) (f : Nat → Nat) (s : St) (hO : s.Ok) (hL : Laid w) (hB : BytesAt w b off 64 f) (hc : 64 ≤ c) :
    Calls Tryd.prog 22 #[stV s, .slice (some ⟨b, off, none⟩) 64 c] w fun e w' => e = .returned (stV (blk K s f)) ∧ Below w.heap.size w w' :=
  after_walk f b off c s w (Lib.hid hO) (Lib.hid hL) (Lib.hid hB.lt) (Lib.hid fun w' hb => schedule_c f b off c hc w' (hB.below hb))
theorem hash_of {w : World} {C p N k : Nat} {F G : Nat → Nat} {a : Option Addr} {l c : Nat} (hF : ∀ j, F j < 256) (hC : C ≤ p) (hh : HeadAt w p (hs K s0 F (N / 64)) N)
    (ho : w.ownsRow C 5 1 (.slice a l c) k (fl G k)) (hne : (Value.slice a l c).ownBlock ≠ some p) (hk : N % 64 = k) (hG : ∀ j, j < k → G j = F (64 * (N / 64) + j)) :
    HashAt (w.setCell ⟨p, 8, none⟩ (.slice a l c)) C p F N := by
  have out : ∀ j v, j ≠ 8 → w.cell? ⟨p, j, none⟩ = some v → (w.setCell ⟨p, 8, none⟩ (.slice a l c)).cell? ⟨p, j, none⟩ = some v := fun j v hj h =>
    (World.cell?_setCell_other (w := w) (v := .slice a l c) (a := ⟨p, 8, none⟩) (b := ⟨p, j, none⟩) (fun e => by injection e with _ e2; omega)).trans h
  refine ⟨hF, hC, by simpa [World.setCell] using hh.blk, fun j hj => out j _ (by omega) (hh.st j hj), ⟨.slice a l c, World.cell?_setCell_same' w _ _ hh.c8, ?_, hne⟩, out 9 _ (by decide) hh.c9, fun j => by rw [World.frozen?_setCell]; exact hh.fz j⟩
  rw [hk, ← fl_congr hG]
  exact ho.kept (row := some p) ⟨rfl, rfl, rfl, by simp [World.setCell], fun k hk hne => Below.heap_setCell _ _ _ _ (fun e => hne (by rw [e]))⟩ (.inr hne)
theorem row_slice {w : World} {C : Nat} {e : TypeId} {size n : Nat} {v : Value} {xs : List Value} (h : w.ownsRow C e size v n xs) : ∃ a m c, v = .slice a m c := by
  rcases h.2 with ⟨rfl, _⟩ | ⟨g, cap, cur, rfl, _⟩
  · exact ⟨_, _, _, rfl⟩
  · exact ⟨_, _, _, rfl⟩
theorem row_slice2 {w : World} {C : Nat} {e : TypeId} {size n : Nat} {v : Value} {xs : List Value} (h : w.ownsRow C e size v n xs) : ∃ a c, v = .slice a n c := by
  rcases h.2 with ⟨rfl, rfl⟩ | ⟨g, cap, cur, rfl, _⟩
  · exact ⟨_, _, rfl⟩
  · exact ⟨_, _, rfl⟩
theorem row_sliceAt {w : World} {C n c : Nat} {a : Option Addr} {F : Nat → Nat} (h : w.ownsRow C 5 1 (.slice a n c) n (fl F n)) (hF : ∀ j, F j < 256) : SliceAt w a n c F := by
  rcases h.2 with ⟨e, h0⟩ | ⟨g, cap, cur, e, _, hg, hle, _⟩
  · injection e with e1 e2 e3
    subst e1 e3 h0
    exact ⟨hF, Nat.le_refl _, .inl ⟨rfl, rfl, rfl⟩⟩
  · injection e with e1 e2 e3
    subst e1 e3
    refine ⟨hF, hle, .inr ⟨_, rfl, fun _ => ⟨g, 0, rfl, hF, (h.lt g rfl).2, fun j hj => ?_⟩⟩⟩
    have := h.cells (g := g) rfl j _ (fl_get F n j hj)
    have e : (⟨g, 0, none⟩ : Addr).add j = ⟨g, 0 + j, none⟩ := by unfold Addr.add; split <;> simp_all
    rwa [e] at this
theorem HashAt.kept {w w' : World} {C p n : Nat} {f : Nat → Nat} (h : HashAt w C p f n) (hb : Below w.heap.size w w') : HashAt w' C p f n := by
  obtain ⟨r, hr, ho, hne⟩ := h.rest
  refine ⟨h.lt, h.own, Nat.lt_of_lt_of_le h.blk hb.size, fun j hj => (hb.cell (p := ⟨p, j, none⟩) h.blk).trans (h.st j hj), ⟨r, (hb.cell (p := ⟨p, 8, none⟩) h.blk).trans hr, ?_, hne⟩, (hb.cell (p := ⟨p, 9, none⟩) h.blk).trans h.len, fun j => (hb.frozen (p := ⟨p, j, none⟩) h.blk).trans (h.fz j)⟩
  refine ⟨ho.1, ho.2.imp id fun ⟨g, cap, cur, e, hg, hh, k⟩ => ⟨g, cap, cur, e, hg, (hb.block g (Array.getElem?_eq_some_iff.1 hh).1).trans hh, k⟩⟩
/-- Only the first n bytes count. -/
theorem HashAt.congr {w : World} {C p n : Nat} {f g : Nat → Nat} (h : HashAt w C p f n) (hg : ∀ j, g j < 256) (e : ∀ j, j < n → g j = f j) : HashAt w C p g n := by
  refine ⟨hg, h.own, h.blk, fun j hj => ?_, ?_, h.len, h.fz⟩
  · rw [hs_congr (f := g) (g := f) (n / 64) (fun j hj => e j (by omega))]
    exact h.st j hj
  · obtain ⟨r, hr, ho, hne⟩ := h.rest
    refine ⟨r, hr, ?_, hne⟩
    rw [fl_congr (f := fun j => g (64 * (n / 64) + j)) (g := fun j => f (64 * (n / 64) + j)) (fun j hj => e _ (by omega))]
    exact ho
theorem ownsRow_mono {w : World} {C D : Nat} {e : TypeId} {size n : Nat} {v : Value} {xs : List Value} (h : w.ownsRow D e size v n xs) (hC : C ≤ D) : w.ownsRow C e size v n xs :=
  ⟨h.1, h.2.imp id fun ⟨g, cap, cur, e, hb, k⟩ => ⟨g, cap, cur, e, Nat.le_trans hC hb, k⟩⟩
theorem row_bytes {w : World} {C gb n cap : Nat} {F : Nat → Nat} (h : w.ownsRow C 5 1 (.slice (some ⟨gb, 0, none⟩) n cap) n (fl F n)) (hF : ∀ j, F j < 256) : BytesAt w gb 0 n F := by
  refine ⟨hF, (h.lt gb rfl).2, fun j hj => ?_⟩
  have := h.cells (g := gb) rfl j _ (fl_get F n j hj)
  have e : (⟨gb, 0, none⟩ : Addr).add j = ⟨gb, 0 + j, none⟩ := by unfold Addr.add; split <;> simp_all
  rwa [e] at this

set_option maxRecDepth 100000 in
set_option maxHeartbeats 8000000 in
theorem write_walk (C p n m c : Nat) (ad : Addr) (f g : Nat → Nat) (hn : n + m ≤ 1000000) (w : World) (HL : Hid (Laid w)) (H : Hid (HashAt w C p f n)) (hg : Hid (∀ j, g j < 256)) (hB : Hid (0 < m → ∃ b0 off, ad = ⟨b0, off, none⟩ ∧ b0 ≠ p ∧ BytesAt w b0 off m g)) (hC1 : Hid (1 < C)) (hC2 : Hid (0 < C)) :
    Calls Tryd.prog 15 #[.pointer (some ⟨p, 0, none⟩), .slice (some ad) m c] w fun e w' => e = .returned (.tuple #[]) ∧ HashAt w' C p (cat f n g) (n + m) ∧ (∀ r', w'.cell? ⟨p, 8, none⟩ = some r' → ∀ k, r'.ownBlock = some k → w.heap.size ≤ k) ∧ ∀ r, w.cell? ⟨p, 8, none⟩ = some r → Wrote w w' p r.ownBlock := by
  obtain ⟨i0, hi, hz0, hz1, hz2⟩ := info_parts infoByte
  have Hi := Lib.hid hi
  have Hz0 := Lib.hid hz0
  have Hz1 := Lib.hid hz1
  have Hz2 := Lib.hid hz2
  clear hi hz0 hz1 hz2
  obtain ⟨r, hr, hown, hrp⟩ := H.out.rest
  have hlen := H.out.len
  have hfz := H.out.fz 9
  have hnb : (n : Int) + (m : Int) ≤ 1000000 := by omega
  have hown1 := hown.kept (w' := w.setCell ⟨p, 9, none⟩ (.int .i64 ((n : Int) + (m : Int)))) (row := some p) ⟨rfl, rfl, rfl, by simp [World.setCell], fun k hk hne => Below.heap_setCell _ _ _ _ (fun e => hne (by rw [e]))⟩ (.inr hrp)
  have Hown := Lib.hid hown1
  have hsrc : ∀ j v, (fl g m)[j]? = some v → (w.setCell ⟨p, 9, none⟩ (.int .i64 ((n : Int) + (m : Int)))).cell? (ad.add j) = some v := fun j v hv => by
    have hj : j < m := by have := (List.getElem?_eq_some_iff.1 hv).1; rwa [fl_len] at this
    obtain ⟨b0, off, rfl, hb0, hBB⟩ := hB.out (by omega)
    have h := hBB.src j v hv
    have e : (⟨b0, off, none⟩ : Addr).add j = ⟨b0, off + j, none⟩ := by unfold Addr.add; split <;> simp_all
    rw [e] at h ⊢
    rw [World.cell?_setCell_other (w := w) (v := .int .i64 ((n : Int) + (m : Int))) (a := ⟨p, 9, none⟩) (b := ⟨b0, off + j, none⟩) (fun e => by injection e with e1 _; exact hb0 e1.symm)]
    exact h
  have Hsrc := Lib.hid hsrc
  clear hown hown1 hsrc
  go_enter Tryd.func15, Tryd.ntmps15
  go_wp2_with (at_builtin; refine wpList_append_own_at _ rfl (.tmp 19) (.tmp 20) 22 rfl C 5 i0 (.int .u8 0) 1 1 Tryd.underlying22 Hi.out Hz0.out Hz1.out Hz2.out rfl (by decide) r (n % 64) _ rfl Hown.out ad m c (fl g m) rfl (by rw [fl_len]; omega) Hsrc.out (fl_one g m) (by unfold maxLen; omega) (by omega) (by have := H.out.own; have := H.out.blk; simp [World.setCell]; omega) ?_; intro v' w1 hown' hgrow' hnil hat)
  rw [cat_rest] at hown'
  have hvp : v'.ownBlock ≠ some p := by
    rcases hat with e | e
    · rw [e]; exact hrp
    · rw [e]; intro h; have := H.out.blk; simp [World.setCell] at h; omega
  have hW1 := Lib.hid (((Wrote.refl w p r.ownBlock).set 9 (.int .i64 ((n : Int) + (m : Int)))).grown hgrow')
  have hrC : Hid (∀ k, r.ownBlock = some k → C ≤ k) := fun k hk => (Hown.out.lt k hk).1
  have hH1 := Lib.hid (write_head H.out hr hrp hgrow')
  rw [hs_cat f g n] at hH1
  have HL1 := Lib.hid (HL.out.kept (hW1.out.below H.out.own (by have := H.out.own; have := H.out.blk; omega) hrC.out) hC1.out hC2.out)
  have hrowlt := hown'.lt
  obtain ⟨T, eT⟩ : ∃ T, T = n % 64 + m := ⟨_, rfl⟩
  rw [← eT] at hown'
  have hT2 : (n % 64 + m : Nat) = T := eT.symm
  have ET := Lib.hid eT
  obtain ⟨Fs, eF⟩ : ∃ Fs, Fs = fun j => cat f n g (64 * (n / 64) + j) := ⟨_, rfl⟩
  rw [← eF] at hown'
  have EF := Lib.hid eF
  have hFl : Hid (∀ j, Fs j < 256) := fun j => by rw [eF]; exact cat_lt H.out.lt hg.out n _
  have Hvp := Lib.hid hvp
  have Hrow := Lib.hid hown'
  have Hn := Lib.hid hn
  have Hr := Lib.hid hr
  clear hgrow' hnil hat hrp hlen hfz hnb hvp eT eF hr hn
  rcases hown'.2 with ⟨rfl, h0⟩ | ⟨gb, cap, cur, rfl, hCg, hheap, hle, hmx, hsz, htk⟩
  · have hq2 : (n + m) / 64 = n / 64 ∧ (n + m) % 64 = 0 := by have := ET.out; omega
    have Hq2 := Lib.hid hq2
    clear hq2 hown'
    go_wp2_with fail
    go_loopw [4] (fun d wr => d = .slice none 0 0 ∧ wr = w1) (fun _ _ => 0)
    case atStart => exact ⟨rfl, rfl⟩
    case round =>
      obtain ⟨rfl, rfl⟩ := hrel
      go_wp2_with fail
      refine Calls.mono (clone_nil _) ?_
      rintro _ w6 ⟨⟨r2, rfl, ho2⟩, h6⟩
      obtain ⟨c6, f6, s6⟩ := bfacts h6
      try simp only [World.size_alloc, World.size_setCell, size_drew, size_drewN] at s6
      have GH6 := Lib.hid (hH1.out.below h6)
      obtain ⟨v8, k8⟩ := Option.isSome_iff_exists.1 GH6.out.c8
      have z8 := GH6.out.fz 8
      obtain ⟨a2, n2, c2, rfl⟩ := row_slice ho2
      have Ho2 := Lib.hid ho2
      have H6 := Lib.hid h6
      clear ho2 h6 c6 f6
      go_wp2_with fail
      refine bodyPost_end (v := .tuple #[]) (by simp only [results, Tryd.results15]; go_simp) rfl ⟨rfl, ?_, fun r' hr' k hk => ?_, fun r' hr' => ?_⟩
      · refine hash_of (k := 0) (G := fun _ => 0) (cat_lt H.out.lt hg.out n) H.out.own (by rw [Hq2.out.1]; exact GH6.out) (ownsRow_mono Ho2.out (by have := hH1.out.blk; have := H.out.own; omega)) (fun e => ?_) Hq2.out.2 (fun j hj => by omega)
        have := (Ho2.out.lt p e).1
        have := hH1.out.blk
        omega
      · have hcell := World.cell?_setCell_same' w6 ⟨p, 8, none⟩ (.slice a2 n2 c2) GH6.out.c8
        rw [hcell] at hr'
        cases hr'
        exact Nat.le_trans (hW1.size) (Ho2.out.lt k hk).1
      · rw [Hr.out] at hr'
        cases hr'
        exact (hW1.out.step H6.out).set 8 _
  · clear hheap hmx hsz htk hown'
    have hgp : Hid (gb ≠ p) := fun e => Hvp.out (by rw [e]; rfl)
    have hcells : Hid (BytesAt w1 gb 0 T Fs) := row_bytes Hrow.out hFl.out
    go_wp2_with fail
    go_loopw [4] (fun d wr => ∃ q o, 64 * q ≤ T ∧ d = .slice (some ⟨gb, o, none⟩) (T - 64 * q) (cap - 64 * q) ∧ (0 < cap - 64 * q → o = 64 * q) ∧ Hid (HeadAt wr p (hs K s0 (cat f n g) (n / 64 + q)) (n + m) ∧ BytesAt wr gb 0 T Fs ∧ Laid wr ∧ Wrote w wr p r.ownBlock)) (fun d _ => lnOf d)
    case atStart => exact ⟨0, 0, by omega, rfl, fun _ => rfl, hH1.out, hcells.out, HL1.out, hW1.out⟩
    case round =>
      obtain ⟨q, o, hq, rfl, ho, G⟩ := hrel
      by_cases h64 : 64 ≤ T - 64 * q
      · have hi : (64 : Int) ≤ ((T - 64 * q : Nat) : Int) := by omega
        have hcp : 64 ≤ cap - 64 * q := by omega
        obtain rfl := ho (by omega)
        have hci : (64 : Int) ≤ ((cap - 64 * q : Nat) : Int) := by omega
        obtain ⟨S, eS⟩ : ∃ S, S = hs K s0 (cat f n g) (n / 64 + q) := ⟨_, rfl⟩
        have ES := Lib.hid eS
        have HO : Hid S.Ok := by rw [eS]; exact hs_ok s0_ok _
        have GH : Hid (HeadAt wr p S (n + m)) := by rw [eS]; exact G.out.1
        have lp := GH.out.blk
        have k0 : wr.cell? ⟨p, 0, none⟩ = some (.int .u32 ((S.a : Nat) : Int)) := GH.out.st 0 (by decide)
        have k1 : wr.cell? ⟨p, 1, none⟩ = some (.int .u32 ((S.b : Nat) : Int)) := GH.out.st 1 (by decide)
        have k2 : wr.cell? ⟨p, 2, none⟩ = some (.int .u32 ((S.c : Nat) : Int)) := GH.out.st 2 (by decide)
        have k3 : wr.cell? ⟨p, 3, none⟩ = some (.int .u32 ((S.d : Nat) : Int)) := GH.out.st 3 (by decide)
        have k4 : wr.cell? ⟨p, 4, none⟩ = some (.int .u32 ((S.e : Nat) : Int)) := GH.out.st 4 (by decide)
        have k5 : wr.cell? ⟨p, 5, none⟩ = some (.int .u32 ((S.f : Nat) : Int)) := GH.out.st 5 (by decide)
        have k6 : wr.cell? ⟨p, 6, none⟩ = some (.int .u32 ((S.g : Nat) : Int)) := GH.out.st 6 (by decide)
        have k7 : wr.cell? ⟨p, 7, none⟩ = some (.int .u32 ((S.h : Nat) : Int)) := GH.out.st 7 (by decide)
        have HBq := Lib.hid (G.out.2.1.part (64 * q) 64 (by omega))
        obtain ⟨S', eS'⟩ : ∃ S', S' = blk K S (fun j => Fs (64 * q + j)) := ⟨_, rfl⟩
        have haf := fun w hL hB => after_c w gb (64 * q) (cap - 64 * q) (fun j => Fs (64 * q + j)) S HO.out hL hB hcp
        rw [← eS'] at haf
        have Haf := Lib.hid haf
        have ES' := Lib.hid eS'
        clear eS hcp haf eS'
        go_wp2_with fail
        refine region_grow 10 [0, 1, 2, 3, 4, 5, 6, 7, 8, 9] [] [7] (by kernel_rfl) (by kernel_rfl) ?_
        with_reducible apply grow_v
        · rfl
        · rfl
        · rfl
        apply Exists.intro
        refine ⟨fun w' hC => ?_, ?_⟩
        · have hcell := below_cells hC
          clear hC
          go_simp
          rfl
        try simp only [Act.put, List.setIfInBounds_toArray, List.set_cons_zero, List.set_cons_succ, List.tail_cons]
        with_reducible apply grow_v
        · rfl
        · rfl
        · rfl
        apply Exists.intro
        refine ⟨fun w' hC => ?_, ?_⟩
        · have hcell := below_cells hC
          clear hC
          go_simp
          rfl
        try simp only [Act.put, List.setIfInBounds_toArray, List.set_cons_zero, List.set_cons_succ, List.tail_cons]
        with_reducible apply grow_v
        · rfl
        · rfl
        · rfl
        apply Exists.intro
        refine ⟨fun w' hC => ?_, ?_⟩
        · have hcell := below_cells hC
          clear hC
          go_simp
          rfl
        try simp only [Act.put, List.setIfInBounds_toArray, List.set_cons_zero, List.set_cons_succ, List.tail_cons]
        with_reducible apply grow_v
        · rfl
        · rfl
        · rfl
        apply Exists.intro
        refine ⟨fun w' hC => ?_, ?_⟩
        · have hcell := below_cells hC
          clear hC
          go_simp
          rfl
        try simp only [Act.put, List.setIfInBounds_toArray, List.set_cons_zero, List.set_cons_succ, List.tail_cons]
        with_reducible apply grow_v
        · rfl
        · rfl
        · rfl
        apply Exists.intro
        refine ⟨fun w' hC => ?_, ?_⟩
        · have hcell := below_cells hC
          clear hC
          simp only [World.size_drew] at hcell
          go_simp
          rfl
        try simp only [Act.put, List.setIfInBounds_toArray, List.set_cons_zero, List.set_cons_succ, List.tail_cons]
        with_reducible apply grow_v
        · rfl
        · rfl
        · rfl
        apply Exists.intro
        refine ⟨fun w' hC => ?_, ?_⟩
        · have hcell := below_cells hC
          clear hC
          go_simp
          rfl
        try simp only [Act.put, List.setIfInBounds_toArray, List.set_cons_zero, List.set_cons_succ, List.tail_cons]
        with_reducible apply grow_v
        · rfl
        · rfl
        · rfl
        apply Exists.intro
        refine ⟨fun w' hC => ?_, ?_⟩
        · have hcell := below_cells hC
          clear hC
          go_simp
          rfl
        try simp only [Act.put, List.setIfInBounds_toArray, List.set_cons_zero, List.set_cons_succ, List.tail_cons]
        with_reducible apply grow_c
        · rfl
        · rfl
        · rfl
        · rfl
        apply Exists.intro
        apply Exists.intro
        apply Exists.intro
        refine ⟨fun w' hC => ?_, fun w' hC => ?_, ?_⟩
        · have hcell := below_cells hC
          clear hC
          go_simp
          exact ⟨rfl, rfl⟩
        · exact Haf.out _ (G.out.2.2.1.drew.step hC) (by have := (HBq.out.drew).below hC; rwa [Nat.zero_add] at this)
        try simp only [Act.put, List.setIfInBounds_toArray, List.set_cons_zero, List.set_cons_succ, List.tail_cons]
        with_reducible apply grow_v
        · rfl
        · rfl
        · rfl
        apply Exists.intro
        refine ⟨fun w' hC => ?_, ?_⟩
        · have hcell := below_cells hC
          clear hC
          go_simp
          rfl
        try simp only [Act.put, List.setIfInBounds_toArray, List.set_cons_zero, List.set_cons_succ, List.tail_cons]
        with_reducible apply grow_v
        · rfl
        · rfl
        · rfl
        apply Exists.intro
        refine ⟨fun w' hC => ?_, ?_⟩
        · have hcell := below_cells hC
          clear hC
          go_simp
          rfl
        try simp only [Act.put, List.setIfInBounds_toArray, List.set_cons_zero, List.set_cons_succ, List.tail_cons]
        refine grow_end ?_
        intro wg4 hg4
        obtain ⟨cg4, fg4, sg4⟩ := bfacts hg4.grows
        try simp only [World.size_alloc, World.size_setCell, size_drew, size_drewN] at sg4
        have Hg4 : Below _ _ wg4 := hg4.grows
        clear hg4
        simp only [List.drop_succ_cons, List.drop_zero]
        have hBr : Below wr.heap.size wr wg4 := ⟨Hg4.os, Hg4.tape, Hg4.output, Hg4.size, Hg4.block⟩
        have HBr := Lib.hid hBr
        have GH4 := Lib.hid (GH.out.below hBr)
        clear cg4 fg4 sg4 Hg4 hBr k0 k1 k2 k3 k4 k5 k6 k7
        go_wp2_with ((with_reducible show wpList _ _ _ (⟨none, .store _ _ (.tmp 32), _, _, _, _⟩ :: []) _ _); refine wpList_store_mid rfl 44 (.tmp 34) (.tmp 32) rfl p 0 (ws S'.at 8).toArray rfl rfl GH4.out.there (info_ws (by kernel_rfl)) (ws_one _ 8) ?_; simp only [Act.put, List.setIfInBounds_toArray, List.set_cons_zero, List.set_cons_succ, List.tail_cons])
        go_roundw
        case rel =>
          refine ⟨q + 1, if cap - 64 * q = 64 then 64 * q else 64 * q + 64, by omega, ?_, fun h => by rw [if_neg (by omega)]; omega, ?_, (G.out.2.1.below HBr.out).setCells hgp.out _, ?_, Wrote.setCells _ _ _ (G.out.2.2.2.step HBr.out)⟩
          · rw [show 64 * (q + 1) = 64 * q + 64 by omega, ← Nat.sub_sub, ← Nat.sub_sub]
            split <;> rfl
          · have e : hs K s0 (cat f n g) (n / 64 + (q + 1)) = blk K S fun j => Fs (64 * q + j) := by
              rw [← Nat.add_assoc]
              show blk K (hs K s0 (cat f n g) (n / 64 + q)) (fun j => cat f n g (64 * (n / 64 + q) + j)) = _
              rw [← ES.out, EF.out]
              exact blk_congr fun j _ => by rw [Nat.mul_add, Nat.add_assoc]
            rw [e, ← ES'.out]
            exact GH4.out.stored
          · exact HL.out.kept ((Wrote.setCells _ _ _ (G.out.2.2.2.step HBr.out)).below H.out.own (by have := H.out.own; have := H.out.blk; omega) hrC.out) hC1.out hC2.out
        case measure => simp [lnOf]; omega
      · have hq2 : (n + m) / 64 = n / 64 + q ∧ (n + m) % 64 = T - 64 * q := by have := ET.out; omega
        have hSl : Hid (SliceAt wr (some ⟨gb, o, none⟩) (T - 64 * q) (cap - 64 * q) (fun j => Fs (64 * q + j))) :=
          ⟨fun j => hFl.out _, by omega, .inr ⟨_, rfl, fun h0 => ⟨gb, o, rfl, by have e := ho (by omega); subst e; have := G.out.2.1.part (64 * q) (T - 64 * q) (by omega); rwa [Nat.zero_add] at this⟩⟩⟩
        have hi : ¬ (64 : Int) ≤ ((T - 64 * q : Nat) : Int) := by omega
        have hsm : Hid (T - 64 * q ≤ 1000000) := (by omega : T - 64 * q ≤ 1000000)
        have Hq2 := Lib.hid hq2
        clear hq2 ho h64 hq hle
        go_wp2_with fail
        refine Calls.mono (clone_c _ (some ⟨gb, o, none⟩) (T - 64 * q) (cap - 64 * q) (fun j => Fs (64 * q + j)) hsm.out (hSl.out.below (Below.refl _ _))) ?_
        rintro _ w6 ⟨⟨r2, rfl, ho2⟩, h6⟩
        obtain ⟨c6, f6, s6⟩ := bfacts h6
        try simp only [World.size_alloc, World.size_setCell, size_drew, size_drewN] at s6
        have GH6 := Lib.hid (G.out.1.below h6)
        obtain ⟨v8, k8⟩ := Option.isSome_iff_exists.1 GH6.out.c8
        have z8 := GH6.out.fz 8
        obtain ⟨a2, n2, c2, rfl⟩ := row_slice ho2
        have Ho2 := Lib.hid ho2
        have H6 := Lib.hid h6
        clear ho2 h6 c6 f6
        go_wp2_with fail
        refine bodyPost_end (v := .tuple #[]) (by simp only [results, Tryd.results15]; go_simp) rfl ⟨rfl, ?_, fun r' hr' k hk => ?_, fun r' hr' => ?_⟩
        · refine hash_of (cat_lt H.out.lt hg.out n) H.out.own (by rw [Hq2.out.1]; exact GH6.out) (ownsRow_mono Ho2.out (by have := G.out.1.blk; have := H.out.own; omega)) (fun e => ?_) Hq2.out.2 (fun j _ => by rw [EF.out, Hq2.out.1, Nat.mul_add, Nat.add_assoc])
          have := (Ho2.out.lt p e).1
          have := G.out.1.blk
          omega
        · have hcell := World.cell?_setCell_same' w6 ⟨p, 8, none⟩ (.slice a2 n2 c2) GH6.out.c8
          rw [hcell] at hr'
          cases hr'
          exact Nat.le_trans (G.out.2.2.2.size) (Ho2.out.lt k hk).1
        · rw [Hr.out] at hr'
          cases hr'
          exact (G.out.2.2.2.step H6.out).set 8 _

set_option maxRecDepth 100000 in
set_option maxHeartbeats 4000000 in
theorem write_nil (C p n : Nat) (f : Nat → Nat) (hn : n ≤ 1000000) (w : World) (H : Hid (HashAt w C p f n)) :
    Calls Tryd.prog 15 #[.pointer (some ⟨p, 0, none⟩), .slice none 0 0] w fun e w' => e = .returned (.tuple #[]) ∧ HashAt w' C p f n ∧ (∀ r', w'.cell? ⟨p, 8, none⟩ = some r' → ∀ k, r'.ownBlock = some k → w.heap.size ≤ k) ∧ ∀ r, w.cell? ⟨p, 8, none⟩ = some r → Wrote w w' p r.ownBlock := by
  obtain ⟨i0, hi, hz0, hz1, hz2⟩ := info_parts infoByte
  have Hi := Lib.hid hi
  clear hi hz0 hz1 hz2
  obtain ⟨r, hr, hown, hrp⟩ := H.out.rest
  obtain ⟨ra, rc, rfl⟩ := row_slice2 hown
  have hlen := H.out.len
  have hfz := H.out.fz 9
  have hnb : (n : Int) ≤ 1000000 := by omega
  have hown1 := hown.kept (w' := w.setCell ⟨p, 9, none⟩ (.int .i64 (n : Int))) (row := some p) ⟨rfl, rfl, rfl, by simp [World.setCell], fun k hk hne => Below.heap_setCell _ _ _ _ (fun e => hne (by rw [e]))⟩ (.inr hrp)
  have Hown := Lib.hid hown1
  go_enter Tryd.func15, Tryd.ntmps15
  go_wp2_with (at_builtin; refine wpList_append_own_none rfl (.tmp 19) (.tmp 20) 22 rfl C 5 i0 1 Tryd.underlying22 Hi.out (.slice ra (n % 64) rc) (n % 64) _ rfl Hown.out rfl ?_)
  have hi : ¬ (64 : Int) ≤ ((n % 64 : Nat) : Int) := by omega
  have e0 : ((n : Int) + ((0 : Nat) : Int)) = (n : Int) := by omega
  have hH1 := Lib.hid (write_head (m := 0) (w1 := w.setCell ⟨p, 9, none⟩ (.int .i64 (n : Int))) H.out hr hrp (by rw [e0]; exact ⟨rfl, rfl, rfl, Nat.le_refl _, fun _ _ _ => rfl⟩))
  have hsl := Lib.hid (row_sliceAt (F := fun j => f (64 * (n / 64) + j)) Hown.out (fun j => H.out.lt _))
  have Hr := Lib.hid hr
  have hsz : Hid ((w.setCell ⟨p, 9, none⟩ (.int .i64 (n : Int))).heap.size = w.heap.size) := by simp [Hid, World.setCell]
  clear e0 hr hrp hlen hfz hnb hown hown1
  go_wp2_with fail
  go_loopw [4] (fun d wr => d = .slice ra (n % 64) rc ∧ wr = w.setCell ⟨p, 9, none⟩ (.int .i64 (n : Int))) (fun _ _ => 0)
  case atStart => exact ⟨rfl, rfl⟩
  case round =>
    obtain ⟨rfl, rfl⟩ := hrel
    go_wp2_with fail
    refine Calls.mono (clone_c _ ra (n % 64) rc (fun j => f (64 * (n / 64) + j)) (by omega) hsl.out) ?_
    rintro _ w6 ⟨⟨r2, rfl, ho2⟩, h6⟩
    obtain ⟨c6, f6, s6⟩ := bfacts h6
    try simp only [World.size_alloc, World.size_setCell, size_drew, size_drewN] at s6
    have GH6 := Lib.hid (hH1.out.below h6)
    obtain ⟨v8, k8⟩ := Option.isSome_iff_exists.1 GH6.out.c8
    have z8 := GH6.out.fz 8
    obtain ⟨a2, n2, c2, rfl⟩ := row_slice ho2
    have Ho2 := Lib.hid ho2
    have H6 := Lib.hid h6
    clear ho2 h6 c6 f6 hi
    go_wp2_with fail
    refine bodyPost_end (v := .tuple #[]) (by simp only [results, Tryd.results15]; go_simp) rfl ⟨rfl, ?_, fun r' hr' k hk => ?_, fun r' hr' => ?_⟩
    · refine hash_of (k := n % 64) H.out.lt H.out.own GH6.out (ownsRow_mono Ho2.out (by rw [hsz.out]; have := H.out.blk; have := H.out.own; omega)) (fun e => ?_) rfl (fun j _ => rfl)
      have := (Ho2.out.lt p e).1
      rw [hsz.out] at this
      have := H.out.blk
      omega
    · have hcell := World.cell?_setCell_same' w6 ⟨p, 8, none⟩ (.slice a2 n2 c2) GH6.out.c8
      rw [hcell] at hr'
      cases hr'
      exact Nat.le_trans (Nat.le_of_eq hsz.out.symm) (Ho2.out.lt k hk).1
    · rw [Hr.out] at hr'
      cases hr'
      exact (((Wrote.refl w p _).set 9 _).step H6.out).set 8 _

/-- Write of n bytes that lie below C. -/
theorem write_c (C p n m c : Nat) (a : Option Addr) (f g : Nat → Nat) (hn : n + m ≤ 1000000) (w : World) (hL : Laid w) (h : HashAt w C p f n) (hS : SliceAt w a m c g) (hlow : 0 < m → ∀ ad, a = some ad → ad.block ≠ p)
    (hC1 : 1 < C) (hC2 : 0 < C) :
    Calls Tryd.prog 15 #[.pointer (some ⟨p, 0, none⟩), .slice a m c] w fun e w' => e = .returned (.tuple #[]) ∧ HashAt w' C p (cat f n g) (n + m) ∧ (∀ r', w'.cell? ⟨p, 8, none⟩ = some r' → ∀ k, r'.ownBlock = some k → w.heap.size ≤ k) ∧ ∀ r, w.cell? ⟨p, 8, none⟩ = some r → Wrote w w' p r.ownBlock := by
  rcases hS.at_ with ⟨rfl, rfl, rfl⟩ | ⟨ad, rfl, k⟩
  · refine (write_nil C p n f (by omega) w (Lib.hid h)).mono ?_
    rintro e w' ⟨rfl, hh, hfr, hw⟩
    exact ⟨rfl, hh.congr (cat_lt h.lt hS.lt n) (fun j hj => by unfold cat; rw [if_pos (by omega)]), hfr, hw⟩
  · refine write_walk C p n m c ad f g hn w (Lib.hid hL) (Lib.hid h) (Lib.hid hS.lt) (Lib.hid fun h0 => ?_) (Lib.hid hC1) (Lib.hid hC2)
    obtain ⟨b, off, rfl, hB⟩ := k h0
    exact ⟨b, off, rfl, hlow h0 _ rfl, hB⟩
end Go.Proofs.YtdaggankfokloaaDoor
