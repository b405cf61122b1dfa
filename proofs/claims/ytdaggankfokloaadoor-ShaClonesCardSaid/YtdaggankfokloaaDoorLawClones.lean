/- The walk of law 12's ShaClones. -/
import Derived.Test.YtdaggankfokloaaDoorLawStays
import Derived.IntWalk
namespace Go.Proofs.YtdaggankfokloaaDoor
set_option linter.all false
open Go Go.RowKit

/-- Where the slice of a hash lies: from D on, below E. -/
def RowIn (w : World) (p D E : Nat) : Prop := ∀ r, w.cell? ⟨p, 8, none⟩ = some r → ∀ k, r.ownBlock = some k → D ≤ k ∧ k < E
theorem HashAt.rowIn {w : World} {C p n : Nat} {f : Nat → Nat} (h : HashAt w C p f n) : RowIn w p C w.heap.size := fun r hr k hk => by
  obtain ⟨r', hr', ho, _⟩ := h.rest
  rw [hr] at hr'
  cases hr'
  exact ho.lt k hk
theorem RowIn.kept {w w' : World} {p D E : Nat} (h : RowIn w p D E) (hp : p < w.heap.size) (hb : Below w.heap.size w w') : RowIn w' p D E := fun r hr => h r ((hb.cell (p := ⟨p, 8, none⟩) hp).symm.trans hr)
theorem RowIn.mono {w : World} {p D E D' E' : Nat} (h : RowIn w p D E) (hD : D' ≤ D) (hE : E ≤ E') : RowIn w p D' E' := fun r hr k hk => ⟨Nat.le_trans hD (h r hr k hk).1, Nat.lt_of_lt_of_le (h r hr k hk).2 hE⟩
theorem HashAt.mono {w : World} {C D p n : Nat} {f : Nat → Nat} (h : HashAt w D p f n) (hC : C ≤ D) : HashAt w C p f n :=
  ⟨h.lt, Nat.le_trans hC h.own, h.blk, h.st, h.rest.imp fun r ⟨hr, ho, k⟩ => ⟨hr, ownsRow_mono ho hC, k⟩, h.len, h.fz⟩
/-- A write to another hash. -/
theorem HashAt.other {w w' : World} {C p q n D E : Nat} {f : Nat → Nat} {ro : Option Nat} (h : HashAt w C p f n) (hW : Wrote w w' q ro) (hI : RowIn w p D E) (hE : E ≤ w.heap.size) (hpq : p ≠ q) (hpr : ro ≠ some p) (hrow : ∀ k, D ≤ k → k < E → k ≠ q ∧ ro ≠ some k) :
    HashAt w' C p f n ∧ RowIn w' p D E := by
  have hp := h.blk
  have out : ∀ i, w'.cell? ⟨p, i, none⟩ = w.cell? ⟨p, i, none⟩ := fun i => cell?_block (hW.block p hp hpq (fun e => hpr e.symm)) i
  obtain ⟨r, hr, ho, hne⟩ := h.rest
  refine ⟨⟨h.lt, h.own, Nat.lt_of_lt_of_le hp hW.size, fun i hi => (out i).trans (h.st i hi), ⟨r, (out 8).trans hr, ?_, hne⟩, (out 9).trans h.len, fun i => (frozen?_block (hW.block p hp hpq (fun e => hpr e.symm)) i).trans (h.fz i)⟩, fun r hr => hI r ((out 8).symm.trans hr)⟩
  refine ⟨ho.1, ho.2.imp id fun ⟨g, cap, cur, e, hg, hh, k⟩ => ⟨g, cap, cur, e, hg, ?_, k⟩⟩
  obtain ⟨h1, h2⟩ := hI r hr g (by rw [e]; rfl)
  obtain ⟨h3, h4⟩ := hrow g h1 h2
  exact (hW.block g (by omega) h3 (fun e => h4 e.symm)).trans hh
theorem zero_row0 {Z : Array Value} {T : TypeId} (w : World) (h : Z = (fl (fun _ => 0) 32).toArray) : RowB (w.alloc (.cells Z T)) w.heap.size 32 (fun _ => 0) T := by
  subst h
  exact heap_alloc_new w _
/-- A write, with where the rows lie. -/
theorem write_in (C p n m c D E : Nat) (a : Option Addr) (f g : Nat → Nat) (hn : n + m ≤ 1000000) (w : World) (hL : Laid w) (h : HashAt w C p f n) (hI : RowIn w p D E) (hS : SliceAt w a m c g) (hlow : 0 < m → ∀ ad, a = some ad → ad.block ≠ p)
    (hC1 : 1 < C) (hC2 : 0 < C) (hC : C ≤ w.heap.size) :
    Calls Tryd.prog 15 #[.pointer (some ⟨p, 0, none⟩), .slice a m c] w fun e w' => e = .returned (.tuple #[]) ∧ HashAt w' C p (cat f n g) (n + m) ∧ RowIn w' p w.heap.size w'.heap.size ∧ Below C w w' ∧
      ∃ ro, Wrote w w' p ro ∧ ∀ k, ro = some k → D ≤ k ∧ k < E := by
  refine (write_c C p n m c a f g hn w hL h hS hlow hC1 hC2).mono ?_
  rintro e w' ⟨he, hh, hfr, hW⟩
  obtain ⟨r, hr, ho, _⟩ := h.rest
  have hi := hh.rowIn
  exact ⟨he, hh, fun r' hr' k hk => ⟨hfr r' hr' k hk, (hi r' hr' k hk).2⟩, (hW _ hr).below h.own hC (fun k hk => (ho.lt k hk).1), r.ownBlock, hW _ hr, fun k hk => hI r hr k hk⟩
theorem lenB_c (C p n : Nat) (f : Nat → Nat) (w : World) (h : HashAt w C p f n) :
    Calls Tryd.prog 17 #[.pointer (some ⟨p, 0, none⟩)] w fun e w' => e = .returned (.int .i64 (n : Int)) ∧ Below w.heap.size w w' := (len_c p n w h.len).mono fun e w' ⟨h1, h2⟩ => ⟨h1, by subst h2; exact Below.refl _ _⟩

set_option maxRecDepth 100000 in
set_option maxHeartbeats 8000000 in
theorem shaClones_c (a b : Option Addr) (n m c d : Nat) (f g : Nat → Nat) (hn : n ≤ 140737488351232) (hm : m ≤ 140737488351232) (w : World) (hL : Laid w) (hA : SliceAt w a n c f) (hB : SliceAt w b m d g) :
    Calls Tryd.prog 6 #[.slice a n c, .slice b m d] w fun e w' => e = .returned (.bool true) ∧ Below w.heap.size w w' := by
  have HL := Lib.hid hL
  have HA := Lib.hid hA
  have HB := Lib.hid hB
  clear hL hA hB
  by_cases hbig : 2000 < n + m
  · skip
    go_enter Tryd.func6, Tryd.ntmps6
    go_wp2_with fail
    refine Calls.mono (lawalive_c _ HL.out) ?_
    rintro _ w1 ⟨rfl, h1⟩
    obtain ⟨c1, f1, s1⟩ := bfacts h1
    try simp only [World.size_alloc, World.size_setCell, size_drew, size_drewN] at s1
    go_wp2_with fail
    go_ret
    exact ⟨rfl, (by repeat first | with_reducible exact Below.refl _ _ | with_reducible refine Below.drew ?_ | with_reducible refine below_dN ?_ | with_reducible refine Below.alloc ?_ (by first | omega | (simp; done) | (simp; omega)) _ | with_reducible refine Below.setCell ?_ (by first | omega | (simp; done) | (simp; omega)) _ | with_reducible refine Below.trans ?_ (Below.mono (by assumption) (by first | omega | (simp; done) | (simp; omega))))⟩
  · have hn2 : n + m ≤ 2000 := by omega
    clear hn hm hbig
    have hg1 : 1 < w.heap.size := lt_of_cell (HL.out.k 0 (by decide))
    have hg2 : 0 < w.heap.size := lt_of_cell (HL.out.s 0 (by decide))
    have Hg := Lib.hid (And.intro hg1 hg2)
    clear hg1 hg2
    go_enter Tryd.func6, Tryd.ntmps6
    go_wp2_with fail
    refine Calls.mono (new_c (fun _ => 0) (fun _ => by decide) _ HL.out) ?_
    rintro _ w1 ⟨⟨p, rfl, hp⟩, h1⟩
    obtain ⟨c1, f1, s1⟩ := bfacts h1
    try simp only [World.size_alloc, World.size_setCell, size_drew, size_drewN] at s1
    have Hp := Lib.hid hp
    have HB1 := Lib.hid h1
    have lp1 := hp.own
    have lp2 := hp.blk
    clear hp h1 c1 f1
    go_wp2_with fail
    refine Calls.mono (write_in w.heap.size p 0 n c w.heap.size w1.heap.size a (fun _ => 0) f (by omega) _ (HL.out.step HB1.out) Hp.out Hp.out.rowIn (HA.out.below HB1.out) (fun h0 ad e => by have := HA.out.low ad e h0; omega) Hg.out.1 Hg.out.2 HB1.out.size) ?_
    rintro _ w2 ⟨rfl, hh2, hi2, hb2, ro2, hW2, _⟩
    have HB2 := Lib.hid (HB1.out.trans hb2)
    have hp2 := hh2.congr HA.out.lt (fun j hj => cat_zero _ f j)
    rw [Nat.zero_add] at hp2
    have Hp2 := Lib.hid hp2
    have Hi2 := Lib.hid (hi2.mono (Nat.le_trans HB1.out.size (Nat.le_refl _)) (Nat.le_refl _))
    have hs12 := hW2.size
    clear hh2 hi2 hb2 hW2 hp2
    go_wp2_with fail
    refine Calls.mono (cloneH_c w.heap.size p n f (by omega) _ Hp2.out) ?_
    rintro _ w3 ⟨⟨q1, rfl, hq1⟩, h3⟩
    obtain ⟨c3, f3, s3⟩ := bfacts h3
    try simp only [World.size_alloc, World.size_setCell, size_drew, size_drewN] at s3
    have HB3 := Lib.hid (HB2.out.trans (Below.mono h3 HB2.out.size))
    have Hp3 := Lib.hid (Hp2.out.kept h3)
    have Hi3 := Lib.hid (Hi2.out.kept Hp2.out.blk h3)
    have Hq3 := Lib.hid hq1
    have lq1 := hq1.own
    have lq1' := hq1.blk
    clear hq1 h3 c3 f3
    go_wp2_with fail
    refine Calls.mono (cloneH_c w.heap.size p n f (by omega) _ Hp3.out) ?_
    rintro _ w4 ⟨⟨q2, rfl, hq2⟩, h4⟩
    obtain ⟨c4, f4, s4⟩ := bfacts h4
    try simp only [World.size_alloc, World.size_setCell, size_drew, size_drewN] at s4
    have HB4 := Lib.hid (HB3.out.trans (Below.mono h4 HB3.out.size))
    have Hp4 := Lib.hid (Hp3.out.kept h4)
    have Hi4 := Lib.hid (Hi3.out.kept Hp3.out.blk h4)
    have Hq4 := Lib.hid ((Hq3.out.kept h4).mono (C := w.heap.size) HB2.out.size)
    have Hj4 := Lib.hid (Hq3.out.rowIn.kept Hq3.out.blk h4)
    have Hz4 := Lib.hid (hq2.mono (C := w.heap.size) HB3.out.size)
    have Hk4 := Lib.hid hq2.rowIn
    have lq2 := hq2.own
    have lq2' := hq2.blk
    have hs2 := HB2.out.size
    clear hq2 h4 c4 f4
    go_wp2_with fail
    refine Calls.mono (write_in w.heap.size q1 n m d w2.heap.size w3.heap.size b f g (by omega) _ (HL.out.step HB4.out) Hq4.out Hj4.out (HB.out.below HB4.out) (fun h0 ad e => by have := HB.out.low ad e h0; omega) Hg.out.1 Hg.out.2 HB4.out.size) ?_
    rintro _ w5 ⟨rfl, hh5, hi5, hb5, ro5, hW5, hr5⟩
    have HB5 := Lib.hid (HB4.out.trans hb5)
    have Hq5 := Lib.hid hh5
    have Hj5 := Lib.hid hi5
    have hp5 := Hp4.out.other hW5 Hi4.out (by omega) (by omega) (fun e => by have := hr5 p e; omega) (fun k h1 h2 => ⟨by omega, fun e => by have := hr5 k e; omega⟩)
    have hz5 := Hz4.out.other hW5 Hk4.out (Nat.le_refl _) (by omega) (fun e => by have := hr5 q2 e; omega) (fun k h1 h2 => ⟨by omega, fun e => by have := hr5 k e; omega⟩)
    have Hp5 := Lib.hid hp5
    have Hz5 := Lib.hid hz5
    have hs45 := hW5.size
    clear hh5 hi5 hb5 hW5 hr5 hp5 hz5 Hp4 Hz4 Hi4 Hk4 Hj4 Hq4
    go_wp2_with fail
    refine Calls.mono (write_in w.heap.size q1 (n + m) m d w4.heap.size w5.heap.size b (cat f n g) g (by omega) _ (HL.out.step HB5.out) Hq5.out Hj5.out (HB.out.below HB5.out) (fun h0 ad e => by have := HB.out.low ad e h0; omega) Hg.out.1 Hg.out.2 HB5.out.size) ?_
    rintro _ w6 ⟨rfl, hh6, hi6, hb6, ro6, hW6, hr6⟩
    have HB6 := Lib.hid (HB5.out.trans hb6)
    have Hq6 := Lib.hid hh6
    have Hj6 := Lib.hid hi6
    have hp6 := Hp5.out.1.other hW6 Hp5.out.2 (by omega) (by omega) (fun e => by have := hr6 p e; omega) (fun k h1 h2 => ⟨by omega, fun e => by have := hr6 k e; omega⟩)
    have hz6 := Hz5.out.1.other hW6 Hz5.out.2 (by omega) (by omega) (fun e => by have := hr6 q2 e; omega) (fun k h1 h2 => ⟨by omega, fun e => by have := hr6 k e; omega⟩)
    have Hp6 := Lib.hid hp6
    have Hz6 := Lib.hid hz6
    have hs56 := hW6.size
    clear hh6 hi6 hb6 hW6 hr6 hp6 hz6 Hp5 Hz5 Hj5 Hq5
    go_wp2_with fail
    refine Calls.mono (write_in w.heap.size p n m d w.heap.size w2.heap.size b f g (by omega) _ (HL.out.step HB6.out) Hp6.out.1 Hp6.out.2 (HB.out.below HB6.out) (fun h0 ad e => by have := HB.out.low ad e h0; omega) Hg.out.1 Hg.out.2 HB6.out.size) ?_
    rintro _ w7 ⟨rfl, hh7, _, hb7, ro7, hW7, hr7⟩
    have HB7 := Lib.hid (HB6.out.trans hb7)
    have Hp7 := Lib.hid hh7
    have hq7 := Hq6.out.other hW7 Hj6.out (Nat.le_refl _) (by omega) (fun e => by have := hr7 q1 e; omega) (fun k h1 h2 => ⟨by omega, fun e => by have := hr7 k e; omega⟩)
    have hz7 := Hz6.out.1.other hW7 Hz6.out.2 (by omega) (by omega) (fun e => by have := hr7 q2 e; omega) (fun k h1 h2 => ⟨by omega, fun e => by have := hr7 k e; omega⟩)
    have Hq7 := Lib.hid hq7.1
    have Hz7 := Lib.hid hz7.1
    have hsw := HB7.out.size
    obtain ⟨H, eH⟩ : ∃ H, H = cat f n g := ⟨_, rfl⟩
    have EHl : Hid (([] : List Value) ++ fl f n ++ fl g m = fl H (n + m)) := by rw [eH, List.nil_append]; exact fl_cat f g n m
    rw [← eH] at Hp7 Hq7
    have HHl := Lib.hid Hp7.out.lt
    clear hh7 hb7 hW7 hr7 hq7 hz7 Hp6 Hz6 Hj6 Hq6 eH
    have hst : ∀ (W : World), W = w7.alloc (.cells #[] 5) → W.ownsRow w7.heap.size 5 1 (.slice (some ⟨w7.heap.size, 0, none⟩) 0 0) 0 [] ∧ w7.heap.size ≤ W.heap.size ∧ Below w7.heap.size w7 W := fun W e => by
      subst e
      exact ⟨World.ownsRow_made w7 #[] 0 (Nat.le_refl _) (by unfold maxLen; omega) rfl, by simp only [World.size_alloc]; omega, (Below.refl _ _).alloc (Nat.le_refl _) _⟩
    have Hst := Lib.hid hst
    clear hst
    go_wp2_with (first
      | (at_builtin; refine append_bytes rfl (.tmp 41) (.tmp 42) rfl w7.heap.size (.slice (some ⟨w7.heap.size, 0, none⟩) 0 0) 0 [] rfl (Hst.out _ rfl).1 a n c f rfl (HA.out.below (HB7.out.trans (Below.mono (Hst.out _ rfl).2.2 hsw))) (by omega) (Hst.out _ rfl).2.1 ?_; intro v8 w8 own8 grow8; have h8 := Lib.hid ((Hst.out _ rfl).2.2.grown grow8 (Hst.out _ rfl).2.1 (fun k hk => by cases hk; exact Nat.le_refl _)); have Own8 := Lib.hid own8; clear own8 grow8)
      | (at_builtin; refine append_bytes rfl (.tmp 43) (.tmp 44) rfl w7.heap.size v8 _ _ rfl Own8.out b m d g rfl (HB.out.below (HB7.out.trans (Below.mono h8.out hsw))) (by omega) h8.out.size ?_; intro v9 w9 own9 grow9; have h9 := Lib.hid (h8.out.grown grow9 h8.out.size (fun k hk => (Own8.out.lt k hk).1)); rw [Nat.zero_add, EHl.out] at own9; obtain ⟨a9, c9, rfl⟩ := row_slice2 own9; have HS9 := Lib.hid (row_sliceAt own9 HHl.out); clear own9 grow9 h8 Own8))
    refine Calls.mono (refSum_any a9 (n + m) c9 H (by omega) _ HS9.out) ?_
    rintro _ w10 ⟨rfl, h10⟩
    obtain ⟨c10, f10, s10⟩ := bfacts h10
    try simp only [World.size_alloc, World.size_setCell, size_drew, size_drewN] at s10
    have HB10 := Lib.hid (HB7.out.trans (Below.mono (h9.out.trans (Below.mono h10 h9.out.size)) hsw))
    have H10 := Lib.hid (h9.out.trans (Below.mono h10 h9.out.size))
    have hsw10 := HB10.out.size
    clear h10 c10 f10 h9 Hst HS9
    have HR1 := Lib.hid (show RowB (w10.alloc (.cells #[.int .u8 0, .int .u8 0, .int .u8 0, .int .u8 0, .int .u8 0, .int .u8 0, .int .u8 0, .int .u8 0, .int .u8 0, .int .u8 0, .int .u8 0, .int .u8 0, .int .u8 0, .int .u8 0, .int .u8 0, .int .u8 0, .int .u8 0, .int .u8 0, .int .u8 0, .int .u8 0, .int .u8 0, .int .u8 0, .int .u8 0, .int .u8 0, .int .u8 0, .int .u8 0, .int .u8 0, .int .u8 0, .int .u8 0, .int .u8 0, .int .u8 0, .int .u8 0] 25)) w10.heap.size 32 (fun _ => 0) 25 from zero_row0 w10 rfl)
    obtain ⟨F, eF⟩ : ∃ F, F = sm H (n + m) := ⟨_, rfl⟩
    rw [← eF]
    have EF := Lib.hid eF
    clear eF
    go_wp2_with ((with_reducible show wpList _ _ _ (⟨none, Op.store _ (.tmp 8) _, _, _, _, _⟩ :: _) _ _); refine wpl_name ?_; intro wB hB; have HtB' : Hid (wB.there w10.heap.size 0 (fl F 32).toArray.size) := Lib.hid (by rw [hB]; exact HR1.out.there); have HBB : Hid (Below w10.heap.size w10 wB) := Lib.hid (by rw [hB]; exact (Below.refl _ _).alloc (Nat.le_refl _) _); have hsB : w10.heap.size + 1 = wB.heap.size := (by rw [hB]; simp only [World.size_alloc]); clear hB HR1; refine wpList_store_mid rfl 25 (.tmp 8) (.tmp 46) rfl w10.heap.size 0 (fl F 32).toArray rfl rfl HtB'.out (info_fl (by kernel_rfl)) (fl_oneA F 32) ?_; refine wpl_name ?_; intro wC hC; have HcF' : Hid (∀ j, j < 32 → wC.cell? ⟨w10.heap.size, j, none⟩ = some (.int .u8 ((F j : Nat) : Int))) := Lib.hid (by rw [hC]; exact stored_of HtB'.out); have HBC : Hid (Below w10.heap.size w10 wC) := Lib.hid (by rw [hC]; exact below_setCells (Nat.le_refl _) _ _ _ _ HBB.out); have hsC : w10.heap.size + 1 ≤ wC.heap.size := (by rw [hC, size_setCells]; omega); clear hC HtB' HBB hsB; simp only [Act.put, List.setIfInBounds_toArray, List.set_cons_zero, List.set_cons_succ, List.tail_cons])
    have H7C := Lib.hid (H10.out.trans (Below.mono HBC.out H10.out.size))
    have HpC := Lib.hid (Hp7.out.kept H7C.out)
    have HqC := Lib.hid (Hq7.out.kept H7C.out)
    have HzC := Lib.hid (Hz7.out.kept H7C.out)
    have HBwC := Lib.hid (HB7.out.trans (Below.mono H7C.out hsw))
    have hswC := HBwC.out.size
    have hE := eqF_refl F 32
    have hE2 := eqF_refl (sm f n) 32
    have hw1 : IntKind.i64.wrap (2 * (m : Int)) = 2 * (m : Int) := IntWalk.i64_in _ (by omega)
    have hw2 : IntKind.i64.wrap ((n : Int) + 2 * (m : Int)) = (n : Int) + 2 * (m : Int) := IntWalk.i64_in _ (by omega)
    have hl3 : ((n + m + m : Nat) : Int) = (n : Int) + 2 * (m : Int) := by omega
    clear Hp7 Hq7 Hz7 HB10 H10 HBC H7C
    refine held_begin 33 [w10.heap.size] (by kernel_rfl) rfl (by intro _ _ d _ _ h; cases d <;> exact h) ?_
    intro hQ hK
    with_reducible apply held_call (n := 32) 0
    · rfl
    · kernel_rfl
    · rfl
    · with_reducible exact hK
    apply Exists.intro
    apply Exists.intro
    apply Exists.intro
    refine ⟨?_, ?_, ?_, ?_⟩
    · go_simp
      exact ⟨rfl, rfl⟩
    · exact lawalive_c _ (HL.out.step (HBwC.out.trans (Below.mono (by repeat first | with_reducible exact Below.refl _ _ | with_reducible refine Below.drew ?_ | with_reducible refine below_dN ?_ | with_reducible refine Below.alloc ?_ (by first | omega | (simp; done) | (simp; omega)) _ | with_reducible refine Below.setCell ?_ (by first | omega | (simp; done) | (simp; omega)) _ | with_reducible refine Below.trans ?_ (Below.mono (by assumption) (by first | omega | (simp; done) | (simp; omega)))) hswC)))
    · intro b hb
      simp only [List.mem_cons, List.not_mem_nil, or_false] at hb
      rcases hb with rfl <;> first | omega | (simp; done) | (simp; omega)
    intro v0 h0 hK
    obtain ⟨c0, f0, s0⟩ := bfacts h0
    try simp only [World.size_alloc, World.size_setCell, size_drew, size_drewN] at s0
    try simp only [Act.put, List.setIfInBounds_toArray, List.set_cons_zero, List.set_cons_succ, List.tail_cons]
    with_reducible apply held_v (n := 31) 1
    · rfl
    · kernel_rfl
    · kernel_rfl
    · kernel_rfl
    · exact hQ
    · with_reducible exact hK
    · rfl
    apply Exists.intro
    refine ⟨fun w' hC => ?_, ?_⟩
    · have k0_ := hC (w10.heap.size) (by simp only [List.mem_cons, true_or, or_true])
      clear hC
      go_simp
      rfl
    try simp only [Act.put, List.setIfInBounds_toArray, List.set_cons_zero, List.set_cons_succ, List.tail_cons]
    first
      | (with_reducible apply held_v (n := 30) 2
         · rfl
         · kernel_rfl
         · kernel_rfl
         · kernel_rfl
         · exact hQ
         · with_reducible exact hK
         · rfl
         apply Exists.intro
         refine ⟨fun w' hC => ?_, ?_⟩
         · have k0_ := hC (w10.heap.size) (by simp only [List.mem_cons, true_or, or_true])
           clear hC
           go_simp
           rfl)
      | (with_reducible apply held_s (n := 30) 2
         · rfl
         · kernel_rfl
         · kernel_rfl
         · kernel_rfl
         · exact hQ
         · with_reducible exact hK
         · rfl)
    try simp only [Act.put, List.setIfInBounds_toArray, List.set_cons_zero, List.set_cons_succ, List.tail_cons]
    first
      | (with_reducible apply held_v (n := 29) 4
         · rfl
         · kernel_rfl
         · kernel_rfl
         · kernel_rfl
         · exact hQ
         · with_reducible exact hK
         · rfl
         apply Exists.intro
         refine ⟨fun w' hC => ?_, ?_⟩
         · have k0_ := hC (w10.heap.size) (by simp only [List.mem_cons, true_or, or_true])
           clear hC
           have hl := load_bytes (w := w') (g := F) (n := 32) (fun j hj => (k0_ j).trans (HcF'.out j hj)) Tryd.underlying25 (by kernel_rfl)
           exact exec_load rfl rfl hl)
      | (with_reducible apply held_s (n := 29) 4
         · rfl
         · kernel_rfl
         · kernel_rfl
         · kernel_rfl
         · exact hQ
         · with_reducible exact hK
         · rfl)
    try simp only [Act.put, List.setIfInBounds_toArray, List.set_cons_zero, List.set_cons_succ, List.tail_cons]
    with_reducible apply held_call (n := 28) 3
    · rfl
    · kernel_rfl
    · rfl
    · with_reducible exact hK
    apply Exists.intro
    apply Exists.intro
    apply Exists.intro
    refine ⟨?_, ?_, ?_, ?_⟩
    · go_simp
      exact ⟨rfl, rfl⟩
    · exact (show Calls _ _ _ _ (fun e w' => e = .returned (.agg (fl F 32).toArray) ∧ Below _ _ w') from EF.out ▸ sumM_any w.heap.size p (n + m) H (by omega) _ (HL.out.step (HBwC.out.trans (Below.mono (by repeat first | with_reducible exact Below.refl _ _ | with_reducible refine Below.drew ?_ | with_reducible refine below_dN ?_ | with_reducible refine Below.alloc ?_ (by first | omega | (simp; done) | (simp; omega)) _ | with_reducible refine Below.setCell ?_ (by first | omega | (simp; done) | (simp; omega)) _ | with_reducible refine Below.trans ?_ (Below.mono (by assumption) (by first | omega | (simp; done) | (simp; omega)))) hswC))) (HpC.out.kept (by repeat first | with_reducible exact Below.refl _ _ | with_reducible refine Below.drew ?_ | with_reducible refine below_dN ?_ | with_reducible refine Below.alloc ?_ (by first | omega | (simp; done) | (simp; omega)) _ | with_reducible refine Below.setCell ?_ (by first | omega | (simp; done) | (simp; omega)) _ | with_reducible refine Below.trans ?_ (Below.mono (by assumption) (by first | omega | (simp; done) | (simp; omega))))))
    · intro b hb
      simp only [List.mem_cons, List.not_mem_nil, or_false] at hb
      rcases hb with rfl <;> first | omega | (simp; done) | (simp; omega)
    intro v3 h3 hK
    obtain ⟨c3, f3, s3⟩ := bfacts h3
    try simp only [World.size_alloc, World.size_setCell, size_drew, size_drewN] at s3
    try simp only [Act.put, List.setIfInBounds_toArray, List.set_cons_zero, List.set_cons_succ, List.tail_cons]
    first
      | (with_reducible apply held_v (n := 27) 5
         · rfl
         · kernel_rfl
         · kernel_rfl
         · kernel_rfl
         · exact hQ
         · with_reducible exact hK
         · rfl
         apply Exists.intro
         refine ⟨fun w' hC => ?_, ?_⟩
         · have k0_ := hC (w10.heap.size) (by simp only [List.mem_cons, true_or, or_true])
           clear hC
           go_simp
           rfl)
      | (with_reducible apply held_s (n := 27) 5
         · rfl
         · kernel_rfl
         · kernel_rfl
         · kernel_rfl
         · exact hQ
         · with_reducible exact hK
         · rfl)
    try simp only [Act.put, List.setIfInBounds_toArray, List.set_cons_zero, List.set_cons_succ, List.tail_cons]
    with_reducible apply held_v (n := 26) 6
    · rfl
    · kernel_rfl
    · kernel_rfl
    · kernel_rfl
    · exact hQ
    · with_reducible exact hK
    · rfl
    apply Exists.intro
    refine ⟨fun w' hC => ?_, ?_⟩
    · have k0_ := hC (w10.heap.size) (by simp only [List.mem_cons, true_or, or_true])
      clear hC
      go_simp
      rfl
    try simp only [Act.put, List.setIfInBounds_toArray, List.set_cons_zero, List.set_cons_succ, List.tail_cons]
    with_reducible apply held_v (n := 25) 7
    · rfl
    · kernel_rfl
    · kernel_rfl
    · kernel_rfl
    · exact hQ
    · with_reducible exact hK
    · rfl
    apply Exists.intro
    refine ⟨fun w' hC => ?_, ?_⟩
    · have k0_ := hC (w10.heap.size) (by simp only [List.mem_cons, true_or, or_true])
      clear hC
      go_simp
      rfl
    try simp only [Act.put, List.setIfInBounds_toArray, List.set_cons_zero, List.set_cons_succ, List.tail_cons]
    first
      | (with_reducible apply held_v (n := 24) 8
         · rfl
         · kernel_rfl
         · kernel_rfl
         · kernel_rfl
         · exact hQ
         · with_reducible exact hK
         · rfl
         apply Exists.intro
         refine ⟨fun w' hC => ?_, ?_⟩
         · have k0_ := hC (w10.heap.size) (by simp only [List.mem_cons, true_or, or_true])
           clear hC
           go_simp
           rfl)
      | (with_reducible apply held_s (n := 24) 8
         · rfl
         · kernel_rfl
         · kernel_rfl
         · kernel_rfl
         · exact hQ
         · with_reducible exact hK
         · rfl)
    try simp only [Act.put, List.setIfInBounds_toArray, List.set_cons_zero, List.set_cons_succ, List.tail_cons]
    first
      | (with_reducible apply held_v (n := 23) 10
         · rfl
         · kernel_rfl
         · kernel_rfl
         · kernel_rfl
         · exact hQ
         · with_reducible exact hK
         · rfl
         apply Exists.intro
         refine ⟨fun w' hC => ?_, ?_⟩
         · have k0_ := hC (w10.heap.size) (by simp only [List.mem_cons, true_or, or_true])
           clear hC
           go_simp
           rfl)
      | (with_reducible apply held_s (n := 23) 10
         · rfl
         · kernel_rfl
         · kernel_rfl
         · kernel_rfl
         · exact hQ
         · with_reducible exact hK
         · rfl)
    try simp only [Act.put, List.setIfInBounds_toArray, List.set_cons_zero, List.set_cons_succ, List.tail_cons]
    with_reducible apply held_call (n := 22) 9
    · rfl
    · kernel_rfl
    · rfl
    · with_reducible exact hK
    apply Exists.intro
    apply Exists.intro
    apply Exists.intro
    refine ⟨?_, ?_, ?_, ?_⟩
    · go_simp
      exact ⟨rfl, rfl⟩
    · exact sumM_any w.heap.size q2 n f (by omega) _ (HL.out.step (HBwC.out.trans (Below.mono (by repeat first | with_reducible exact Below.refl _ _ | with_reducible refine Below.drew ?_ | with_reducible refine below_dN ?_ | with_reducible refine Below.alloc ?_ (by first | omega | (simp; done) | (simp; omega)) _ | with_reducible refine Below.setCell ?_ (by first | omega | (simp; done) | (simp; omega)) _ | with_reducible refine Below.trans ?_ (Below.mono (by assumption) (by first | omega | (simp; done) | (simp; omega)))) hswC))) (HzC.out.kept (by repeat first | with_reducible exact Below.refl _ _ | with_reducible refine Below.drew ?_ | with_reducible refine below_dN ?_ | with_reducible refine Below.alloc ?_ (by first | omega | (simp; done) | (simp; omega)) _ | with_reducible refine Below.setCell ?_ (by first | omega | (simp; done) | (simp; omega)) _ | with_reducible refine Below.trans ?_ (Below.mono (by assumption) (by first | omega | (simp; done) | (simp; omega)))))
    · intro b hb
      simp only [List.mem_cons, List.not_mem_nil, or_false] at hb
      rcases hb with rfl <;> first | omega | (simp; done) | (simp; omega)
    intro v9 h9 hK
    obtain ⟨c9, f9, s9⟩ := bfacts h9
    try simp only [World.size_alloc, World.size_setCell, size_drew, size_drewN] at s9
    try simp only [Act.put, List.setIfInBounds_toArray, List.set_cons_zero, List.set_cons_succ, List.tail_cons]
    with_reducible apply held_call (n := 21) 11
    · rfl
    · kernel_rfl
    · rfl
    · with_reducible exact hK
    apply Exists.intro
    apply Exists.intro
    apply Exists.intro
    refine ⟨?_, ?_, ?_, ?_⟩
    · go_simp
      exact ⟨rfl, rfl⟩
    · exact refSum_any a n c f (by omega) _ (HA.out.below (HBwC.out.trans (Below.mono (by repeat first | with_reducible exact Below.refl _ _ | with_reducible refine Below.drew ?_ | with_reducible refine below_dN ?_ | with_reducible refine Below.alloc ?_ (by first | omega | (simp; done) | (simp; omega)) _ | with_reducible refine Below.setCell ?_ (by first | omega | (simp; done) | (simp; omega)) _ | with_reducible refine Below.trans ?_ (Below.mono (by assumption) (by first | omega | (simp; done) | (simp; omega)))) hswC)))
    · intro b hb
      simp only [List.mem_cons, List.not_mem_nil, or_false] at hb
      rcases hb with rfl <;> first | omega | (simp; done) | (simp; omega)
    intro v11 h11 hK
    obtain ⟨c11, f11, s11⟩ := bfacts h11
    try simp only [World.size_alloc, World.size_setCell, size_drew, size_drewN] at s11
    try simp only [Act.put, List.setIfInBounds_toArray, List.set_cons_zero, List.set_cons_succ, List.tail_cons]
    first
      | (with_reducible apply held_v (n := 20) 12
         · rfl
         · kernel_rfl
         · kernel_rfl
         · kernel_rfl
         · exact hQ
         · with_reducible exact hK
         · rfl
         apply Exists.intro
         refine ⟨fun w' hC => ?_, ?_⟩
         · have k0_ := hC (w10.heap.size) (by simp only [List.mem_cons, true_or, or_true])
           clear hC
           go_simp
           rfl)
      | (with_reducible apply held_s (n := 20) 12
         · rfl
         · kernel_rfl
         · kernel_rfl
         · kernel_rfl
         · exact hQ
         · with_reducible exact hK
         · rfl)
    try simp only [Act.put, List.setIfInBounds_toArray, List.set_cons_zero, List.set_cons_succ, List.tail_cons]
    with_reducible apply held_v (n := 19) 13
    · rfl
    · kernel_rfl
    · kernel_rfl
    · kernel_rfl
    · exact hQ
    · with_reducible exact hK
    · rfl
    apply Exists.intro
    refine ⟨fun w' hC => ?_, ?_⟩
    · have k0_ := hC (w10.heap.size) (by simp only [List.mem_cons, true_or, or_true])
      clear hC
      go_simp
      rfl
    try simp only [Act.put, List.setIfInBounds_toArray, List.set_cons_zero, List.set_cons_succ, List.tail_cons]
    with_reducible apply held_v (n := 18) 14
    · rfl
    · kernel_rfl
    · kernel_rfl
    · kernel_rfl
    · exact hQ
    · with_reducible exact hK
    · rfl
    apply Exists.intro
    refine ⟨fun w' hC => ?_, ?_⟩
    · have k0_ := hC (w10.heap.size) (by simp only [List.mem_cons, true_or, or_true])
      clear hC
      go_simp
      rfl
    try simp only [Act.put, List.setIfInBounds_toArray, List.set_cons_zero, List.set_cons_succ, List.tail_cons]
    first
      | (with_reducible apply held_v (n := 17) 15
         · rfl
         · kernel_rfl
         · kernel_rfl
         · kernel_rfl
         · exact hQ
         · with_reducible exact hK
         · rfl
         apply Exists.intro
         refine ⟨fun w' hC => ?_, ?_⟩
         · have k0_ := hC (w10.heap.size) (by simp only [List.mem_cons, true_or, or_true])
           clear hC
           go_simp
           rfl)
      | (with_reducible apply held_s (n := 17) 15
         · rfl
         · kernel_rfl
         · kernel_rfl
         · kernel_rfl
         · exact hQ
         · with_reducible exact hK
         · rfl)
    try simp only [Act.put, List.setIfInBounds_toArray, List.set_cons_zero, List.set_cons_succ, List.tail_cons]
    first
      | (with_reducible apply held_v (n := 16) 17
         · rfl
         · kernel_rfl
         · kernel_rfl
         · kernel_rfl
         · exact hQ
         · with_reducible exact hK
         · rfl
         apply Exists.intro
         refine ⟨fun w' hC => ?_, ?_⟩
         · have k0_ := hC (w10.heap.size) (by simp only [List.mem_cons, true_or, or_true])
           clear hC
           go_simp
           rfl)
      | (with_reducible apply held_s (n := 16) 17
         · rfl
         · kernel_rfl
         · kernel_rfl
         · kernel_rfl
         · exact hQ
         · with_reducible exact hK
         · rfl)
    try simp only [Act.put, List.setIfInBounds_toArray, List.set_cons_zero, List.set_cons_succ, List.tail_cons]
    first
      | (with_reducible apply held_v (n := 15) 18
         · rfl
         · kernel_rfl
         · kernel_rfl
         · kernel_rfl
         · exact hQ
         · with_reducible exact hK
         · rfl
         apply Exists.intro
         refine ⟨fun w' hC => ?_, ?_⟩
         · have k0_ := hC (w10.heap.size) (by simp only [List.mem_cons, true_or, or_true])
           clear hC
           go_simp
           rfl)
      | (with_reducible apply held_s (n := 15) 18
         · rfl
         · kernel_rfl
         · kernel_rfl
         · kernel_rfl
         · exact hQ
         · with_reducible exact hK
         · rfl)
    try simp only [Act.put, List.setIfInBounds_toArray, List.set_cons_zero, List.set_cons_succ, List.tail_cons]
    first
      | (with_reducible apply held_v (n := 14) 19
         · rfl
         · kernel_rfl
         · kernel_rfl
         · kernel_rfl
         · exact hQ
         · with_reducible exact hK
         · rfl
         apply Exists.intro
         refine ⟨fun w' hC => ?_, ?_⟩
         · have k0_ := hC (w10.heap.size) (by simp only [List.mem_cons, true_or, or_true])
           clear hC
           go_simp
           rfl)
      | (with_reducible apply held_s (n := 14) 19
         · rfl
         · kernel_rfl
         · kernel_rfl
         · kernel_rfl
         · exact hQ
         · with_reducible exact hK
         · rfl)
    try simp only [Act.put, List.setIfInBounds_toArray, List.set_cons_zero, List.set_cons_succ, List.tail_cons]
    first
      | (with_reducible apply held_v (n := 13) 20
         · rfl
         · kernel_rfl
         · kernel_rfl
         · kernel_rfl
         · exact hQ
         · with_reducible exact hK
         · rfl
         apply Exists.intro
         refine ⟨fun w' hC => ?_, ?_⟩
         · have k0_ := hC (w10.heap.size) (by simp only [List.mem_cons, true_or, or_true])
           clear hC
           go_simp
           rfl)
      | (with_reducible apply held_s (n := 13) 20
         · rfl
         · kernel_rfl
         · kernel_rfl
         · kernel_rfl
         · exact hQ
         · with_reducible exact hK
         · rfl)
    try simp only [Act.put, List.setIfInBounds_toArray, List.set_cons_zero, List.set_cons_succ, List.tail_cons]
    first
      | (with_reducible apply held_v (n := 12) 21
         · rfl
         · kernel_rfl
         · kernel_rfl
         · kernel_rfl
         · exact hQ
         · with_reducible exact hK
         · rfl
         apply Exists.intro
         refine ⟨fun w' hC => ?_, ?_⟩
         · have k0_ := hC (w10.heap.size) (by simp only [List.mem_cons, true_or, or_true])
           clear hC
           go_simp
           rfl)
      | (with_reducible apply held_s (n := 12) 21
         · rfl
         · kernel_rfl
         · kernel_rfl
         · kernel_rfl
         · exact hQ
         · with_reducible exact hK
         · rfl)
    try simp only [Act.put, List.setIfInBounds_toArray, List.set_cons_zero, List.set_cons_succ, List.tail_cons]
    first
      | (with_reducible apply held_v (n := 11) 22
         · rfl
         · kernel_rfl
         · kernel_rfl
         · kernel_rfl
         · exact hQ
         · with_reducible exact hK
         · rfl
         apply Exists.intro
         refine ⟨fun w' hC => ?_, ?_⟩
         · have k0_ := hC (w10.heap.size) (by simp only [List.mem_cons, true_or, or_true])
           clear hC
           go_simp
           rfl)
      | (with_reducible apply held_s (n := 11) 22
         · rfl
         · kernel_rfl
         · kernel_rfl
         · kernel_rfl
         · exact hQ
         · with_reducible exact hK
         · rfl)
    try simp only [Act.put, List.setIfInBounds_toArray, List.set_cons_zero, List.set_cons_succ, List.tail_cons]
    with_reducible apply held_call (n := 10) 16
    · rfl
    · kernel_rfl
    · rfl
    · with_reducible exact hK
    apply Exists.intro
    apply Exists.intro
    apply Exists.intro
    refine ⟨?_, ?_, ?_, ?_⟩
    · go_simp
      exact ⟨rfl, rfl⟩
    · exact lenB_c w.heap.size q1 (n + m + m) _ _ (HqC.out.kept (by repeat first | with_reducible exact Below.refl _ _ | with_reducible refine Below.drew ?_ | with_reducible refine below_dN ?_ | with_reducible refine Below.alloc ?_ (by first | omega | (simp; done) | (simp; omega)) _ | with_reducible refine Below.setCell ?_ (by first | omega | (simp; done) | (simp; omega)) _ | with_reducible refine Below.trans ?_ (Below.mono (by assumption) (by first | omega | (simp; done) | (simp; omega)))))
    · intro b hb
      simp only [List.mem_cons, List.not_mem_nil, or_false] at hb
      rcases hb with rfl <;> first | omega | (simp; done) | (simp; omega)
    intro v16 h16 hK
    obtain ⟨c16, f16, s16⟩ := bfacts h16
    try simp only [World.size_alloc, World.size_setCell, size_drew, size_drewN] at s16
    try simp only [Act.put, List.setIfInBounds_toArray, List.set_cons_zero, List.set_cons_succ, List.tail_cons]
    first
      | (with_reducible apply held_v (n := 9) 23
         · rfl
         · kernel_rfl
         · kernel_rfl
         · kernel_rfl
         · exact hQ
         · with_reducible exact hK
         · rfl
         apply Exists.intro
         refine ⟨fun w' hC => ?_, ?_⟩
         · have k0_ := hC (w10.heap.size) (by simp only [List.mem_cons, true_or, or_true])
           clear hC
           go_simp
           rfl)
      | (with_reducible apply held_s (n := 9) 23
         · rfl
         · kernel_rfl
         · kernel_rfl
         · kernel_rfl
         · exact hQ
         · with_reducible exact hK
         · rfl)
    try simp only [Act.put, List.setIfInBounds_toArray, List.set_cons_zero, List.set_cons_succ, List.tail_cons]
    with_reducible apply held_v (n := 8) 24
    · rfl
    · kernel_rfl
    · kernel_rfl
    · kernel_rfl
    · exact hQ
    · with_reducible exact hK
    · rfl
    apply Exists.intro
    refine ⟨fun w' hC => ?_, ?_⟩
    · have k0_ := hC (w10.heap.size) (by simp only [List.mem_cons, true_or, or_true])
      clear hC
      go_simp
      rfl
    try simp only [Act.put, List.setIfInBounds_toArray, List.set_cons_zero, List.set_cons_succ, List.tail_cons]
    with_reducible apply held_v (n := 7) 25
    · rfl
    · kernel_rfl
    · kernel_rfl
    · kernel_rfl
    · exact hQ
    · with_reducible exact hK
    · rfl
    apply Exists.intro
    refine ⟨fun w' hC => ?_, ?_⟩
    · have k0_ := hC (w10.heap.size) (by simp only [List.mem_cons, true_or, or_true])
      clear hC
      go_simp
      rfl
    try simp only [Act.put, List.setIfInBounds_toArray, List.set_cons_zero, List.set_cons_succ, List.tail_cons]
    first
      | (with_reducible apply held_v (n := 6) 26
         · rfl
         · kernel_rfl
         · kernel_rfl
         · kernel_rfl
         · exact hQ
         · with_reducible exact hK
         · rfl
         apply Exists.intro
         refine ⟨fun w' hC => ?_, ?_⟩
         · have k0_ := hC (w10.heap.size) (by simp only [List.mem_cons, true_or, or_true])
           clear hC
           go_simp
           rfl)
      | (with_reducible apply held_s (n := 6) 26
         · rfl
         · kernel_rfl
         · kernel_rfl
         · kernel_rfl
         · exact hQ
         · with_reducible exact hK
         · rfl)
    try simp only [Act.put, List.setIfInBounds_toArray, List.set_cons_zero, List.set_cons_succ, List.tail_cons]
    first
      | (with_reducible apply held_v (n := 5) 28
         · rfl
         · kernel_rfl
         · kernel_rfl
         · kernel_rfl
         · exact hQ
         · with_reducible exact hK
         · rfl
         apply Exists.intro
         refine ⟨fun w' hC => ?_, ?_⟩
         · have k0_ := hC (w10.heap.size) (by simp only [List.mem_cons, true_or, or_true])
           clear hC
           go_simp
           rfl)
      | (with_reducible apply held_s (n := 5) 28
         · rfl
         · kernel_rfl
         · kernel_rfl
         · kernel_rfl
         · exact hQ
         · with_reducible exact hK
         · rfl)
    try simp only [Act.put, List.setIfInBounds_toArray, List.set_cons_zero, List.set_cons_succ, List.tail_cons]
    first
      | (with_reducible apply held_v (n := 4) 29
         · rfl
         · kernel_rfl
         · kernel_rfl
         · kernel_rfl
         · exact hQ
         · with_reducible exact hK
         · rfl
         apply Exists.intro
         refine ⟨fun w' hC => ?_, ?_⟩
         · have k0_ := hC (w10.heap.size) (by simp only [List.mem_cons, true_or, or_true])
           clear hC
           go_simp
           rfl)
      | (with_reducible apply held_s (n := 4) 29
         · rfl
         · kernel_rfl
         · kernel_rfl
         · kernel_rfl
         · exact hQ
         · with_reducible exact hK
         · rfl)
    try simp only [Act.put, List.setIfInBounds_toArray, List.set_cons_zero, List.set_cons_succ, List.tail_cons]
    with_reducible apply held_call (n := 3) 27
    · rfl
    · kernel_rfl
    · rfl
    · with_reducible exact hK
    apply Exists.intro
    apply Exists.intro
    apply Exists.intro
    refine ⟨?_, ?_, ?_, ?_⟩
    · go_simp
      exact ⟨rfl, rfl⟩
    · exact lenB_c w.heap.size q2 n _ _ (HzC.out.kept (by repeat first | with_reducible exact Below.refl _ _ | with_reducible refine Below.drew ?_ | with_reducible refine below_dN ?_ | with_reducible refine Below.alloc ?_ (by first | omega | (simp; done) | (simp; omega)) _ | with_reducible refine Below.setCell ?_ (by first | omega | (simp; done) | (simp; omega)) _ | with_reducible refine Below.trans ?_ (Below.mono (by assumption) (by first | omega | (simp; done) | (simp; omega)))))
    · intro b hb
      simp only [List.mem_cons, List.not_mem_nil, or_false] at hb
      rcases hb with rfl <;> first | omega | (simp; done) | (simp; omega)
    intro v27 h27 hK
    obtain ⟨c27, f27, s27⟩ := bfacts h27
    try simp only [World.size_alloc, World.size_setCell, size_drew, size_drewN] at s27
    try simp only [Act.put, List.setIfInBounds_toArray, List.set_cons_zero, List.set_cons_succ, List.tail_cons]
    first
      | (with_reducible apply held_v (n := 2) 30
         · rfl
         · kernel_rfl
         · kernel_rfl
         · kernel_rfl
         · exact hQ
         · with_reducible exact hK
         · rfl
         apply Exists.intro
         refine ⟨fun w' hC => ?_, ?_⟩
         · have k0_ := hC (w10.heap.size) (by simp only [List.mem_cons, true_or, or_true])
           clear hC
           go_simp
           rfl)
      | (with_reducible apply held_s (n := 2) 30
         · rfl
         · kernel_rfl
         · kernel_rfl
         · kernel_rfl
         · exact hQ
         · with_reducible exact hK
         · rfl)
    try simp only [Act.put, List.setIfInBounds_toArray, List.set_cons_zero, List.set_cons_succ, List.tail_cons]
    with_reducible apply held_v (n := 1) 31
    · rfl
    · kernel_rfl
    · kernel_rfl
    · kernel_rfl
    · exact hQ
    · with_reducible exact hK
    · rfl
    apply Exists.intro
    refine ⟨fun w' hC => ?_, ?_⟩
    · have k0_ := hC (w10.heap.size) (by simp only [List.mem_cons, true_or, or_true])
      clear hC
      go_simp
      rfl
    try simp only [Act.put, List.setIfInBounds_toArray, List.set_cons_zero, List.set_cons_succ, List.tail_cons]
    with_reducible apply held_v (n := 0) 32
    · rfl
    · kernel_rfl
    · kernel_rfl
    · kernel_rfl
    · exact hQ
    · with_reducible exact hK
    · rfl
    apply Exists.intro
    refine ⟨fun w' hC => ?_, ?_⟩
    · have k0_ := hC (w10.heap.size) (by simp only [List.mem_cons, true_or, or_true])
      clear hC
      go_simp
      rfl
    try simp only [Act.put, List.setIfInBounds_toArray, List.set_cons_zero, List.set_cons_succ, List.tail_cons]
    refine held_end (by kernel_rfl) ?_
    clear hK hQ
    go_wp2_with fail
    go_ret
    exact ⟨rfl, HBwC.out.trans (Below.mono (by repeat first | with_reducible exact Below.refl _ _ | with_reducible refine Below.drew ?_ | with_reducible refine below_dN ?_ | with_reducible refine Below.alloc ?_ (by first | omega | (simp; done) | (simp; omega)) _ | with_reducible refine Below.setCell ?_ (by first | omega | (simp; done) | (simp; omega)) _ | with_reducible refine Below.trans ?_ (Below.mono (by assumption) (by first | omega | (simp; done) | (simp; omega)))) hswC)⟩
end Go.Proofs.YtdaggankfokloaaDoor
