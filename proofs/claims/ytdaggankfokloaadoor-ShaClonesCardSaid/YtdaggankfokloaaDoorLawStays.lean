/- The walk of law 12's ShaStays. -/
import Derived.Test.YtdaggankfokloaaDoorLawParts
import Derived.Test.YtdaggankfokloaaDoorHeldTwo
namespace Go.Proofs.YtdaggankfokloaaDoor
set_option linter.all false
open Go Go.RowKit

/-- Where the slice of a hash lies: from D on. -/
def RowFrom (w : World) (p D : Nat) : Prop := ∀ r, w.cell? ⟨p, 8, none⟩ = some r → ∀ k, r.ownBlock = some k → D ≤ k
theorem HashAt.setOther {w : World} {C p n b : Nat} {f : Nat → Nat} (h : HashAt w C p f n) (hb : p ≠ b) (j : Nat) (v : Value) (hr : ∀ r, w.cell? ⟨p, 8, none⟩ = some r → ∀ k, r.ownBlock = some k → k ≠ b) : HashAt (w.setCell ⟨b, j, none⟩ v) C p f n := by
  have out : ∀ i, (w.setCell ⟨b, j, none⟩ v).cell? ⟨p, i, none⟩ = w.cell? ⟨p, i, none⟩ := fun i =>
    World.cell?_setCell_other (w := w) (v := v) (a := ⟨b, j, none⟩) (b := ⟨p, i, none⟩) (fun e => by injection e with e1 _; exact hb e1.symm)
  obtain ⟨r, hr1, ho, hne⟩ := h.rest
  refine ⟨h.lt, h.own, by rw [World.size_setCell]; exact h.blk, fun i hi => (out i).trans (h.st i hi), ⟨r, (out 8).trans hr1, ?_, hne⟩, (out 9).trans h.len, fun i => by rw [World.frozen?_setCell]; exact h.fz i⟩
  refine ⟨ho.1, ho.2.imp id fun ⟨g, cap, cur, e, hg, hh, k⟩ => ⟨g, cap, cur, e, hg, ?_, k⟩⟩
  have hgb : g ≠ b := hr r hr1 g (by rw [e]; rfl)
  exact (Below.heap_setCell _ _ _ _ hgb).trans hh
theorem RowFrom.setOther {w : World} {p D b : Nat} (h : RowFrom w p D) (hb : p ≠ b) (j : Nat) (v : Value) : RowFrom (w.setCell ⟨b, j, none⟩ v) p D := fun r hr => h r ((World.cell?_setCell_other (w := w) (v := v) (a := ⟨b, j, none⟩) (b := ⟨p, 8, none⟩) (fun e => by injection e with e1 _; exact hb e1.symm)).symm.trans hr)

theorem KeepL.grown {L : List Nat} {V w w' : World} {row : Option Nat} (h : KeepL L V w) (hg : w.grownBy w' row) (hL : ∀ b ∈ L, b < w.heap.size) (hr : ∀ b ∈ L, some b ≠ row) : KeepL L V w' :=
  fun b hm o => by
    have e := hg.block b (hL b hm) (hr b hm)
    simp only [World.cell?, e] at *
    exact h b hm o
theorem wpa_name {P : Program} {md : Region.Mode} {ops : Array Oper} {Q : Exit → Act → World → Prop} {S : World → Prop} {n : Nat} {ls : Array Bool} {a : Act} {w : World} (h : ∀ wS, wS = w → wpAnyH P md ops Q S n ls a wS) : wpAnyH P md ops Q S n ls a w := h w rfl
theorem opw_name {P : Program} {o : Oper} {a : Act} {w : World} {K : Act → World → Prop} {Q : Exit → Act → World → Prop} (h : ∀ wS, wS = w → o.wp P a wS K Q) : o.wp P a w K Q := h w rfl
theorem append_run (w : World) (base : Nat) (v : Value) (n : Nat) (xs : List Value) (hown : w.ownsRow base 5 1 v n xs)
    (ad : Option Addr) (m c : Nat) (g : Nat → Nat) (hS : SliceAt w ad m c g) (hlen : n + m ≤ 1000000) (hbase : base ≤ w.heap.size) :
    ∃ v' w', (Builtin.append_ #[22, 22] 22 #[v, .slice ad m c]).run Tryd.prog w = .ok v' w' ∧ w'.ownsRow base 5 1 v' (n + m) (xs ++ fl g m) ∧ w.grownBy w' v.ownBlock := by
  obtain ⟨i0, hi, hz0, hz1, hz2⟩ := info_parts infoByte
  rcases hS.at_ with ⟨rfl, rfl, rfl⟩ | ⟨ad, rfl, hB⟩
  · refine ⟨v, w, run_append_owned_none w base 22 22 5 i0 1 Tryd.underlying22 hi v n xs hown, ?_, ⟨rfl, rfl, rfl, Nat.le_refl _, fun _ _ _ => rfl⟩⟩
    rw [show fl g 0 = [] from rfl, List.append_nil]; exact hown
  · obtain ⟨v', w', e, o, gr, _⟩ := run_append_own w base 22 22 5 i0 (.int .u8 0) 1 1 Tryd.underlying22 hi hz0 hz1 hz2 rfl (by decide) v n xs hown ad m c (fl g m) (by rw [fl_len, Nat.mul_one]) (fun j u hj => by
      have hjm : j < m := by have := (List.getElem?_eq_some_iff.1 hj).1; rwa [fl_len] at this
      obtain ⟨b, off, rfl, hB'⟩ := hB (by omega)
      exact hB'.src j u hj) (fl_one g m) (by unfold maxLen; omega) (by omega) hbase
    exact ⟨v', w', e, o, gr⟩
theorem exec_append {ρ : Operand → Value} {o : Oper} {s x : Operand} {v u v' : Value} {w w' : World} (ho : (o.op, o.type) = (.call { callee := .builtin .append, args := #[s, x], argTypes := #[22, 22] }, 22)) (hs : ρ s = v) (hx : ρ x = u)
    (h : (Builtin.append_ #[22, 22] 22 #[v, u]).run Tryd.prog w = .ok v' w') : (execOp ρ o).run Tryd.prog w = .ok (.value v') w' := by
  injection ho with ho ht
  simp [execOp, ho, ht, resolve, invoke, builtin, hs, hx, h, Result.andThen]
theorem fl_cat (f g : Nat → Nat) (n m : Nat) : fl f n ++ fl g m = fl (cat f n g) (n + m) := by
  rw [← fl_add]
  congr 1
  · exact fl_congr fun j hj => by unfold cat; rw [if_pos hj]
  · exact fl_congr fun j _ => by unfold cat; rw [if_neg (by omega)]; congr 1; omega
theorem sumM_any (C p n : Nat) (f : Nat → Nat) (hn : n ≤ 100000) (w : World) (HL : Laid w) (H : HashAt w C p f n) :
    Calls Tryd.prog 16 #[.pointer (some ⟨p, 0, none⟩)] w fun e w' => e = .returned (.agg (fl (sm f n) 32).toArray) ∧ Below w.heap.size w w' := sum_walk C p n f hn w (Lib.hid HL) (Lib.hid H)
theorem cat_zero (e f : Nat → Nat) (j : Nat) : f j = cat e 0 f j := by unfold cat; rw [if_neg (Nat.not_lt_zero _), Nat.sub_zero]
theorem cell?_block {w w' : World} {k : Nat} (h : w'.heap[k]? = w.heap[k]?) (j : Nat) : w'.cell? ⟨k, j, none⟩ = w.cell? ⟨k, j, none⟩ := by simp only [World.cell?, h]
theorem frozen?_block {w w' : World} {k : Nat} (h : w'.heap[k]? = w.heap[k]?) (j : Nat) : w'.frozen? ⟨k, j, none⟩ = w.frozen? ⟨k, j, none⟩ := by simp only [World.frozen?, h]
/-- A row of bytes that may be written. -/
def BRow (w : World) (b n : Nat) (f : Nat → Nat) : Prop := BytesAt w b 0 n f ∧ ∀ j, w.frozen? ⟨b, j, none⟩ = false
theorem BRow.same {w w' : World} {b n : Nat} {f : Nat → Nat} (h : BRow w b n f) (e : w'.heap[b]? = w.heap[b]?) (hs : w.heap.size ≤ w'.heap.size) : BRow w' b n f :=
  ⟨⟨h.1.lt, Nat.lt_of_lt_of_le h.1.blk hs, fun j hj => (cell?_block e _).trans (h.1.cell j hj)⟩, fun j => (frozen?_block e j).trans (h.2 j)⟩
theorem BRow.set {w : World} {b n i v : Nat} {f : Nat → Nat} (h : BRow w b n f) (hi : i < n) (hv : v < 256) : BRow (w.setCell ⟨b, i, none⟩ (.int .u8 ((v : Nat) : Int))) b n (upd f i v) :=
  ⟨h.1.set hi hv, fun j => by rw [World.frozen?_setCell]; exact h.2 j⟩

set_option maxRecDepth 100000 in
set_option maxHeartbeats 8000000 in
theorem shaStays_c (a b : Option Addr) (n m c d : Nat) (f g : Nat → Nat) (hn : n ≤ 140737488351232) (hm : m ≤ 140737488351232) (w : World) (hL : Laid w) (hA : SliceAt w a n c f) (hB : SliceAt w b m d g) :
    Calls Tryd.prog 5 #[.slice a n c, .slice b m d] w fun e w' => e = .returned (.bool true) ∧ Below w.heap.size w w' := by
  have HL := Lib.hid hL
  have HA := Lib.hid hA
  have HB := Lib.hid hB
  clear hL hA hB
  by_cases hbig : 2000 < n + m
  · skip
    go_enter Tryd.func5, Tryd.ntmps5
    go_wp2_with fail
    refine Calls.mono (lawalive_c _ HL.out) ?_
    rintro _ w1 ⟨rfl, h1⟩
    obtain ⟨c1, f1, s1⟩ := bfacts h1
    try simp only [World.size_alloc, World.size_setCell, size_drew, size_drewN] at s1
    go_wp2_with fail
    go_ret
    exact ⟨rfl, (by repeat first | with_reducible exact Below.refl _ _ | with_reducible refine Below.drew ?_ | with_reducible refine below_dN ?_ | with_reducible refine Below.alloc ?_ (by first | omega | (simp; done) | (simp; omega)) _ | with_reducible refine Below.setCell ?_ (by first | omega | (simp; done) | (simp; omega)) _ | with_reducible refine Below.trans ?_ (Below.mono (by assumption) (by first | omega | (simp; done) | (simp; omega))))⟩
  · have hn2 : n + m ≤ 2000 := by omega
    clear hn hm hbig
    have hg1 : 1 < w.heap.size := lt_of_cell (HL.out.k 0 (by decide))
    have hg2 : 0 < w.heap.size := lt_of_cell (HL.out.s 0 (by decide))
    have Hg := Lib.hid (And.intro hg1 hg2)
    clear hg1 hg2
    go_enter Tryd.func5, Tryd.ntmps5
    go_wp2_with fail
    refine Calls.mono (new_c (fun _ => 0) (fun _ => by decide) _ HL.out) ?_
    rintro _ w1 ⟨⟨p, rfl, hp⟩, h1⟩
    obtain ⟨c1, f1, s1⟩ := bfacts h1
    try simp only [World.size_alloc, World.size_setCell, size_drew, size_drewN] at s1
    have Hp := Lib.hid hp
    have HB1 := Lib.hid h1
    have lp1 := hp.own
    clear hp h1 c1 f1
    go_wp2_with fail
    refine Calls.mono (bytesClone_c _ a n c f (by omega) (HA.out.below HB1.out)) ?_
    rintro _ w2 ⟨⟨a', c', rfl, ho⟩, h2⟩
    obtain ⟨c2, f2, s2⟩ := bfacts h2
    try simp only [World.size_alloc, World.size_setCell, size_drew, size_drewN] at s2
    have HB2 := Lib.hid (HB1.out.trans (Below.mono h2 HB1.out.size))
    have Hp2 := Lib.hid (Hp.out.kept h2)
    have H12 := Lib.hid h2
    have Ho := Lib.hid ho
    have lp2 := Hp.out.blk
    have hgq : ∃ gq, 0 < n → a' = some ⟨gq, 0, none⟩ ∧ w1.heap.size ≤ gq ∧ gq < w2.heap.size := by
      by_cases h0 : n = 0
      · exact ⟨0, fun h => by omega⟩
      · obtain ⟨gq, cq, e1, hgq, hgq2, _⟩ := row_form ho (by omega)
        injection e1 with e1 _ _
        exact ⟨gq, fun _ => ⟨e1, hgq, hgq2⟩⟩
    obtain ⟨gq, hgq⟩ := hgq
    have Hgq := Lib.hid hgq
    have HSc := Lib.hid (row_sliceAt ho HA.out.lt)
    have hlow : 0 < n → ∀ ad, a' = some ad → ad.block ≠ p := fun h0 ad e => by
      obtain ⟨e1, h3, h4⟩ := hgq h0
      rw [e1] at e
      cases e
      show gq ≠ p
      omega
    have Hlow := Lib.hid hlow
    clear hgq ho h2 c2 f2 hlow
    go_wp2_with fail
    refine Calls.mono (write_c w.heap.size p 0 n c' a' (fun _ => 0) f (by omega) _ (HL.out.step HB2.out) Hp2.out HSc.out Hlow.out Hg.out.1 Hg.out.2) ?_
    rintro _ w3 ⟨rfl, hh3, hfr3, hW3⟩
    have hp3 := hh3.congr HA.out.lt (fun j hj => cat_zero _ f j)
    rw [Nat.zero_add] at hp3
    have Hp3 := Lib.hid hp3
    have Hf3 : Hid (RowFrom w3 p w2.heap.size) := hfr3
    obtain ⟨r2, hr2, hro2, _⟩ := Hp.out.rest
    have hW := hW3 r2 ((H12.out.cell (p := ⟨p, 8, none⟩) lp2).trans hr2)
    have HB3 := Lib.hid (HB2.out.trans (hW.below lp1 HB2.out.size (fun k hk => (hro2.lt k hk).1)))
    have hrow3 : 0 < n → BRow w3 gq n f := fun h0 => by
      obtain ⟨e1, h3, h4⟩ := Hgq.out h0
      have ho := Ho.out
      rw [e1] at ho
      exact BRow.same ⟨row_bytes ho HA.out.lt, fun j => ho.frozenAt j⟩ (hW.block gq h4 (by omega) (fun e => by have := (hro2.lt gq e.symm).2; omega)) hW.size
    have Hrow3 := Lib.hid hrow3
    clear hp3 hh3 hfr3 hW3 hr2 hro2 hW hrow3
    go_wp2_with fail
    go_loopw [27] (fun i wq => ∃ (t : Nat) (f' : Nat → Nat), t ≤ n ∧ i = .int .i64 (t : Int) ∧ Hid (HashAt wq w.heap.size p f n ∧ RowFrom wq p w2.heap.size ∧ (0 < n → BRow wq gq n f') ∧ Below w.heap.size w wq)) (fun i _ => n - (intOf i).toNat)
    case atStart => exact ⟨0, f, Nat.zero_le _, rfl, Hp3.out, Hf3.out, Hrow3.out, HB3.out⟩
    case round =>
      clear Hp3 Hf3 Hrow3 HB3
      obtain ⟨t, f', ht, rfl, G⟩ := hrel
      by_cases hlt : t < n
      · obtain ⟨e1, h3, h4⟩ := Hgq.out (by omega)
        have hR := G.out.2.2.1 (by omega)
        have HR := Lib.hid hR
        subst e1
        have ci := hR.1.cell t hlt
        rw [Nat.zero_add] at ci
        have fi := hR.2 t
        obtain ⟨x, ex⟩ : ∃ x, x = f' t := ⟨_, rfl⟩
        have hx : x < 256 := by rw [ex]; exact hR.1.lt t
        rw [← ex] at ci
        have hlt2 : (t : Int) < (n : Int) := by omega
        have Hlt := Lib.hid hlt
        clear hR ex hlt ht
        go_wp2_with fail
        go_roundw
        case rel =>
          rw [show ((x : Int) + 1) % 256 = (((x + 1) % 256 : Nat) : Int) from rfl]
          exact ⟨t + 1, upd f' t ((x + 1) % 256), Hlt.out, by go_num, G.out.1.setOther (by omega) t _ (fun r hr k hk => by have := G.out.2.1 r hr k hk; omega), G.out.2.1.setOther (by omega) t _, fun _ => HR.out.set Hlt.out (Nat.mod_lt _ (by decide)), G.out.2.2.2.setCell (show w.heap.size ≤ gq by have := HB1.out.size; omega) _⟩
        case measure => simp [intOf]; omega
      · obtain rfl : t = n := by omega
        clear hlt ht
        go_wp2_with fail
        have Hp4 := Lib.hid G.out.1
        have HB4 := Lib.hid G.out.2.2.2
        clear G
        refine Calls.mono (sum_walk w.heap.size p t f (by omega) _ (Lib.hid (HL.out.step HB4.out)) Hp4) ?_
        rintro _ w5 ⟨rfl, h5⟩
        obtain ⟨c5, f5, s5⟩ := bfacts h5
        try simp only [World.size_alloc, World.size_setCell, size_drew, size_drewN] at s5
        have HB5 := Lib.hid (HB4.out.trans (Below.mono h5 HB4.out.size))
        have Hp5 := Lib.hid (Hp4.out.kept h5)
        clear h5 c5 f5
        go_wp2_with fail
        refine Calls.mono (sum_walk w.heap.size p t f (by omega) _ (Lib.hid (HL.out.step HB5.out)) Hp5) ?_
        rintro _ w6 ⟨rfl, h6⟩
        obtain ⟨c6, f6, s6⟩ := bfacts h6
        try simp only [World.size_alloc, World.size_setCell, size_drew, size_drewN] at s6
        have HB6 := Lib.hid (HB5.out.trans (Below.mono h6 HB5.out.size))
        have Hp6 := Lib.hid (Hp5.out.kept h6)
        have hs6 := HB6.out.size
        clear h6 c6 f6
        have HR1 := Lib.hid (show RowB ((w6.alloc (.cells #[.int .u8 0, .int .u8 0, .int .u8 0, .int .u8 0, .int .u8 0, .int .u8 0, .int .u8 0, .int .u8 0, .int .u8 0, .int .u8 0, .int .u8 0, .int .u8 0, .int .u8 0, .int .u8 0, .int .u8 0, .int .u8 0, .int .u8 0, .int .u8 0, .int .u8 0, .int .u8 0, .int .u8 0, .int .u8 0, .int .u8 0, .int .u8 0, .int .u8 0, .int .u8 0, .int .u8 0, .int .u8 0, .int .u8 0, .int .u8 0, .int .u8 0, .int .u8 0] 25)).alloc (.cells #[.int .u8 0, .int .u8 0, .int .u8 0, .int .u8 0, .int .u8 0, .int .u8 0, .int .u8 0, .int .u8 0, .int .u8 0, .int .u8 0, .int .u8 0, .int .u8 0, .int .u8 0, .int .u8 0, .int .u8 0, .int .u8 0, .int .u8 0, .int .u8 0, .int .u8 0, .int .u8 0, .int .u8 0, .int .u8 0, .int .u8 0, .int .u8 0, .int .u8 0, .int .u8 0, .int .u8 0, .int .u8 0, .int .u8 0, .int .u8 0, .int .u8 0, .int .u8 0] 25)) w6.heap.size 32 (fun _ => 0) 25 from zero_row1 w6 rfl)
        have HR2 := Lib.hid (show RowB ((w6.alloc (.cells #[.int .u8 0, .int .u8 0, .int .u8 0, .int .u8 0, .int .u8 0, .int .u8 0, .int .u8 0, .int .u8 0, .int .u8 0, .int .u8 0, .int .u8 0, .int .u8 0, .int .u8 0, .int .u8 0, .int .u8 0, .int .u8 0, .int .u8 0, .int .u8 0, .int .u8 0, .int .u8 0, .int .u8 0, .int .u8 0, .int .u8 0, .int .u8 0, .int .u8 0, .int .u8 0, .int .u8 0, .int .u8 0, .int .u8 0, .int .u8 0, .int .u8 0, .int .u8 0] 25)).alloc (.cells #[.int .u8 0, .int .u8 0, .int .u8 0, .int .u8 0, .int .u8 0, .int .u8 0, .int .u8 0, .int .u8 0, .int .u8 0, .int .u8 0, .int .u8 0, .int .u8 0, .int .u8 0, .int .u8 0, .int .u8 0, .int .u8 0, .int .u8 0, .int .u8 0, .int .u8 0, .int .u8 0, .int .u8 0, .int .u8 0, .int .u8 0, .int .u8 0, .int .u8 0, .int .u8 0, .int .u8 0, .int .u8 0, .int .u8 0, .int .u8 0, .int .u8 0, .int .u8 0] 25)) (w6.heap.size + 1) 32 (fun _ => 0) 25 from zero_row2 w6 rfl)
        obtain ⟨F, eF⟩ : ∃ F, F = sb (sumS K s0 f t) := ⟨_, rfl⟩
        rw [← eF]
        have EF := Lib.hid eF
        clear eF
        go_wp2_with (first
          | ((with_reducible show wpList _ _ _ (⟨none, Op.store _ (.tmp 8) _, _, _, _, _⟩ :: _) _ _); refine wpl_name ?_; intro wA hA; have HtA : Hid (wA.there w6.heap.size 0 (fl F 32).toArray.size) := Lib.hid (by rw [hA]; exact HR1.out.there); have HtB : Hid (wA.there (w6.heap.size + 1) 0 (fl F 32).toArray.size) := Lib.hid (by rw [hA]; exact HR2.out.there); have HBA : Hid (Below w6.heap.size w6 wA) := Lib.hid (by rw [hA]; exact ((Below.refl _ _).alloc (Nat.le_refl _) _).alloc (by simp only [World.size_alloc]; omega) _); have hsA : w6.heap.size + 2 = wA.heap.size := (by rw [hA]; simp only [World.size_alloc]); clear hA HR1 HR2; refine wpList_store_mid rfl 25 (.tmp 8) (.tmp 38) rfl w6.heap.size 0 (fl F 32).toArray rfl rfl HtA.out (info_fl (by kernel_rfl)) (fl_oneA F 32) ?_; simp only [Act.put, List.setIfInBounds_toArray, List.set_cons_zero, List.set_cons_succ, List.tail_cons])
          | ((with_reducible show wpList _ _ _ (⟨none, Op.store _ (.tmp 9) _, _, _, _, _⟩ :: _) _ _); refine wpl_name ?_; intro wB hB; have HcF : Hid (∀ j, j < 32 → wB.cell? ⟨w6.heap.size, j, none⟩ = some (.int .u8 ((F j : Nat) : Int))) := Lib.hid (by rw [hB]; exact stored_of HtA.out); have HtB' : Hid (wB.there (w6.heap.size + 1) 0 (fl F 32).toArray.size) := Lib.hid (by rw [hB]; exact there_other HtB.out (by omega) _); have HBB : Hid (Below w6.heap.size w6 wB) := Lib.hid (by rw [hB]; exact below_setCells (Nat.le_refl _) _ _ _ _ HBA.out); have hsB : w6.heap.size + 2 = wB.heap.size := (by rw [hB, size_setCells]; exact hsA); clear hB HtA HtB HBA hsA; refine wpList_store_mid rfl 25 (.tmp 9) (.tmp 40) rfl (w6.heap.size + 1) 0 (fl F 32).toArray rfl rfl HtB'.out (info_fl (by kernel_rfl)) (fl_oneA F 32) ?_; refine wpl_name ?_; intro wC hC; have HcF' : Hid (∀ j, j < 32 → wC.cell? ⟨w6.heap.size, j, none⟩ = some (.int .u8 ((F j : Nat) : Int))) := Lib.hid (fun j hj => (by rw [hC, World.cell?_setCells_out (w6.heap.size + 1) _ 0 wB ⟨w6.heap.size, j, none⟩ (fun e => absurd e (by simp))]; exact HcF.out j hj)); have HcG : Hid (∀ j, j < 32 → wC.cell? ⟨w6.heap.size + 1, j, none⟩ = some (.int .u8 ((F j : Nat) : Int))) := Lib.hid (by rw [hC]; exact stored_of HtB'.out); have HBC : Hid (Below w6.heap.size w6 wC) := Lib.hid (by rw [hC]; exact below_setCells (Nat.le_succ _) _ _ _ _ HBB.out); have hsC : w6.heap.size + 2 ≤ wC.heap.size := (by rw [hC, size_setCells]; omega); clear hC HtB' HBB hsB HcF; simp only [Act.put, List.setIfInBounds_toArray, List.set_cons_zero, List.set_cons_succ, List.tail_cons]))
        have HpC := Lib.hid (Hp6.out.kept HBC.out)
        have HBCw := Lib.hid (HB6.out.trans (Below.mono HBC.out HB6.out.size))
        have HBb := Lib.hid (HB.out.below HBCw.out)
        have lp6 := Hp6.out.blk
        refine Calls.mono (write_c w.heap.size p t m d b f g (by omega) _ (HL.out.step HBCw.out) HpC.out HBb.out (fun h0 ad e => by have := HB.out.low ad e h0; omega) Hg.out.1 Hg.out.2) ?_
        rintro _ w7 ⟨rfl, hh7, _, hW7⟩
        obtain ⟨r7, hr7, hro7, _⟩ := Hp6.out.rest
        have hW := hW7 r7 ((HBC.out.cell (p := ⟨p, 8, none⟩) lp6).trans hr7)
        have HB7 := Lib.hid (HBCw.out.trans (hW.below lp1 HBCw.out.size (fun k hk => (hro7.lt k hk).1)))
        have Hp7 := Lib.hid hh7
        have HF7 : Hid (∀ j, j < 32 → w7.cell? ⟨w6.heap.size, j, none⟩ = some (.int .u8 ((F j : Nat) : Int))) := fun j hj => (cell?_block (hW.block w6.heap.size (by omega) (by omega) (fun e => by have := (hro7.lt _ e.symm).2; omega)) j).trans (HcF'.out j hj)
        have HG7 : Hid (∀ j, j < 32 → w7.cell? ⟨w6.heap.size + 1, j, none⟩ = some (.int .u8 ((F j : Nat) : Int))) := fun j hj => (cell?_block (hW.block (w6.heap.size + 1) (by omega) (by omega) (fun e => by have := (hro7.lt _ e.symm).2; omega)) j).trans (HcG.out j hj)
        have hs7 : w6.heap.size + 2 ≤ w7.heap.size := by have := hW.size; omega
        have hsw := HB7.out.size
        obtain ⟨H, eH⟩ : ∃ H, H = cat f t g := ⟨_, rfl⟩
        rw [← eH] at Hp7
        have EHl : Hid (([] : List Value) ++ fl f t ++ fl g m = fl H (t + m)) := by rw [eH, List.nil_append]; exact fl_cat f g t m
        have hHl : ∀ j, H j < 256 := Hp7.out.lt
        have HHl := Lib.hid hHl
        have hE := eqF_refl F 32
        have hE2 := eqF_refl (sm H (t + m)) 32
        have hsmF : Hid (sm f t = F) := EF.out.symm
        clear eH hW hW7 hh7 hr7 hro7 HpC HBCw HBb HcF' HcG HBC hHl
        go_wp2_with fail
        refine heldm_begin 24 [w6.heap.size, w6.heap.size + 1] (by kernel_rfl) rfl (by intro _ _ d _ _ h; cases d <;> exact h) ?_
        intro hQ hK
        with_reducible apply heldm_call (n := 23) (m' := 1) 0
        · exact Nat.le_of_ble_eq_true (by kernel_rfl)
        · rfl
        · kernel_rfl
        · kernel_rfl
        · kernel_rfl
        · kernel_rfl
        · kernel_rfl
        · rfl
        · with_reducible exact hK
        apply Exists.intro
        apply Exists.intro
        apply Exists.intro
        refine ⟨?_, ?_, ?_, ?_⟩
        · go_simp
          exact ⟨rfl, rfl⟩
        · exact lawalive_c _ (HL.out.step (HB7.out.trans (Below.mono (by repeat first | with_reducible exact Below.refl _ _ | with_reducible refine Below.drew ?_ | with_reducible refine below_dN ?_ | with_reducible refine Below.alloc ?_ (by first | omega | (simp; done) | (simp; omega)) _ | with_reducible refine Below.setCell ?_ (by first | omega | (simp; done) | (simp; omega)) _ | with_reducible refine Below.trans ?_ (Below.mono (by assumption) (by first | omega | (simp; done) | (simp; omega)))) hsw)))
        · intro b hb
          simp only [List.mem_cons, List.not_mem_nil, or_false] at hb
          rcases hb with rfl | rfl <;> first | omega | (simp; done) | (simp; omega)
        intro v0 h0 hK
        obtain ⟨c0, f0, s0⟩ := bfacts h0
        try simp only [World.size_alloc, World.size_setCell, size_drew, size_drewN] at s0
        try simp only [Act.put, List.setIfInBounds_toArray, List.set_cons_zero, List.set_cons_succ, List.tail_cons]
        with_reducible apply heldm_v (n := 22) (m' := 3) 1
        · exact Nat.le_of_ble_eq_true (by kernel_rfl)
        · rfl
        · kernel_rfl
        · kernel_rfl
        · kernel_rfl
        · kernel_rfl
        · kernel_rfl
        · kernel_rfl
        · exact hQ
        · with_reducible exact hK
        · rfl
        apply Exists.intro
        refine ⟨fun w' hC => ?_, ?_⟩
        · have k0_ := hC (w6.heap.size) (by simp only [List.mem_cons, true_or, or_true])
          have k1_ := hC (w6.heap.size + 1) (by simp only [List.mem_cons, true_or, or_true])
          clear hC
          go_simp
          rfl
        try simp only [Act.put, List.setIfInBounds_toArray, List.set_cons_zero, List.set_cons_succ, List.tail_cons]
        with_reducible apply heldm_v (n := 21) (m' := 7) 2
        · exact Nat.le_of_ble_eq_true (by kernel_rfl)
        · rfl
        · kernel_rfl
        · kernel_rfl
        · kernel_rfl
        · kernel_rfl
        · kernel_rfl
        · kernel_rfl
        · exact hQ
        · with_reducible exact hK
        · rfl
        apply Exists.intro
        refine ⟨fun w' hC => ?_, ?_⟩
        · have k0_ := hC (w6.heap.size) (by simp only [List.mem_cons, true_or, or_true])
          have k1_ := hC (w6.heap.size + 1) (by simp only [List.mem_cons, true_or, or_true])
          clear hC
          have hl := load_bytes (w := w') (g := F) (n := 32) (fun j hj => (k0_ j).trans (HF7.out j hj)) Tryd.underlying25 (by kernel_rfl)
          exact exec_load rfl rfl hl
        try simp only [Act.put, List.setIfInBounds_toArray, List.set_cons_zero, List.set_cons_succ, List.tail_cons]
        with_reducible apply heldm_v (n := 20) (m' := 15) 3
        · exact Nat.le_of_ble_eq_true (by kernel_rfl)
        · rfl
        · kernel_rfl
        · kernel_rfl
        · kernel_rfl
        · kernel_rfl
        · kernel_rfl
        · kernel_rfl
        · exact hQ
        · with_reducible exact hK
        · rfl
        apply Exists.intro
        refine ⟨fun w' hC => ?_, ?_⟩
        · have k0_ := hC (w6.heap.size) (by simp only [List.mem_cons, true_or, or_true])
          have k1_ := hC (w6.heap.size + 1) (by simp only [List.mem_cons, true_or, or_true])
          clear hC
          go_simp
          rfl
        try simp only [Act.put, List.setIfInBounds_toArray, List.set_cons_zero, List.set_cons_succ, List.tail_cons]
        with_reducible apply heldm_call (n := 19) (m' := 31) 4
        · exact Nat.le_of_ble_eq_true (by kernel_rfl)
        · rfl
        · kernel_rfl
        · kernel_rfl
        · kernel_rfl
        · kernel_rfl
        · kernel_rfl
        · rfl
        · with_reducible exact hK
        apply Exists.intro
        apply Exists.intro
        apply Exists.intro
        refine ⟨?_, ?_, ?_, ?_⟩
        · go_simp
          exact ⟨rfl, rfl⟩
        · exact (show Calls _ _ _ _ (fun e w' => e = .returned (.agg (fl F 32).toArray) ∧ Below _ _ w') from hsmF.out ▸ refSum_any a t c f (by omega) _ (HA.out.below (HB7.out.trans (Below.mono (by repeat first | with_reducible exact Below.refl _ _ | with_reducible refine Below.drew ?_ | with_reducible refine below_dN ?_ | with_reducible refine Below.alloc ?_ (by first | omega | (simp; done) | (simp; omega)) _ | with_reducible refine Below.setCell ?_ (by first | omega | (simp; done) | (simp; omega)) _ | with_reducible refine Below.trans ?_ (Below.mono (by assumption) (by first | omega | (simp; done) | (simp; omega)))) hsw))))
        · intro b hb
          simp only [List.mem_cons, List.not_mem_nil, or_false] at hb
          rcases hb with rfl | rfl <;> first | omega | (simp; done) | (simp; omega)
        intro v4 h4 hK
        obtain ⟨c4, f4, s4⟩ := bfacts h4
        try simp only [World.size_alloc, World.size_setCell, size_drew, size_drewN] at s4
        try simp only [Act.put, List.setIfInBounds_toArray, List.set_cons_zero, List.set_cons_succ, List.tail_cons]
        with_reducible apply heldm_v (n := 18) (m' := 63) 5
        · exact Nat.le_of_ble_eq_true (by kernel_rfl)
        · rfl
        · kernel_rfl
        · kernel_rfl
        · kernel_rfl
        · kernel_rfl
        · kernel_rfl
        · kernel_rfl
        · exact hQ
        · with_reducible exact hK
        · rfl
        apply Exists.intro
        refine ⟨fun w' hC => ?_, ?_⟩
        · have k0_ := hC (w6.heap.size) (by simp only [List.mem_cons, true_or, or_true])
          have k1_ := hC (w6.heap.size + 1) (by simp only [List.mem_cons, true_or, or_true])
          clear hC
          go_simp
          rfl
        try simp only [Act.put, List.setIfInBounds_toArray, List.set_cons_zero, List.set_cons_succ, List.tail_cons]
        with_reducible apply heldm_v (n := 17) (m' := 127) 6
        · exact Nat.le_of_ble_eq_true (by kernel_rfl)
        · rfl
        · kernel_rfl
        · kernel_rfl
        · kernel_rfl
        · kernel_rfl
        · kernel_rfl
        · kernel_rfl
        · exact hQ
        · with_reducible exact hK
        · rfl
        apply Exists.intro
        refine ⟨fun w' hC => ?_, ?_⟩
        · have k0_ := hC (w6.heap.size) (by simp only [List.mem_cons, true_or, or_true])
          have k1_ := hC (w6.heap.size + 1) (by simp only [List.mem_cons, true_or, or_true])
          clear hC
          go_simp
          rfl
        try simp only [Act.put, List.setIfInBounds_toArray, List.set_cons_zero, List.set_cons_succ, List.tail_cons]
        with_reducible apply heldm_v (n := 16) (m' := 255) 7
        · exact Nat.le_of_ble_eq_true (by kernel_rfl)
        · rfl
        · kernel_rfl
        · kernel_rfl
        · kernel_rfl
        · kernel_rfl
        · kernel_rfl
        · kernel_rfl
        · exact hQ
        · with_reducible exact hK
        · rfl
        apply Exists.intro
        refine ⟨fun w' hC => ?_, ?_⟩
        · have k0_ := hC (w6.heap.size) (by simp only [List.mem_cons, true_or, or_true])
          have k1_ := hC (w6.heap.size + 1) (by simp only [List.mem_cons, true_or, or_true])
          clear hC
          go_simp
          rfl
        try simp only [Act.put, List.setIfInBounds_toArray, List.set_cons_zero, List.set_cons_succ, List.tail_cons]
        with_reducible apply heldm_v (n := 15) (m' := 511) 8
        · exact Nat.le_of_ble_eq_true (by kernel_rfl)
        · rfl
        · kernel_rfl
        · kernel_rfl
        · kernel_rfl
        · kernel_rfl
        · kernel_rfl
        · kernel_rfl
        · exact hQ
        · with_reducible exact hK
        · rfl
        apply Exists.intro
        refine ⟨fun w' hC => ?_, ?_⟩
        · have k0_ := hC (w6.heap.size) (by simp only [List.mem_cons, true_or, or_true])
          have k1_ := hC (w6.heap.size + 1) (by simp only [List.mem_cons, true_or, or_true])
          clear hC
          have hl := load_bytes (w := w') (g := F) (n := 32) (fun j hj => (k1_ j).trans (HG7.out j hj)) Tryd.underlying25 (by kernel_rfl)
          exact exec_load rfl rfl hl
        try simp only [Act.put, List.setIfInBounds_toArray, List.set_cons_zero, List.set_cons_succ, List.tail_cons]
        with_reducible apply heldm_v (n := 14) (m' := 1023) 9
        · exact Nat.le_of_ble_eq_true (by kernel_rfl)
        · rfl
        · kernel_rfl
        · kernel_rfl
        · kernel_rfl
        · kernel_rfl
        · kernel_rfl
        · kernel_rfl
        · exact hQ
        · with_reducible exact hK
        · rfl
        apply Exists.intro
        refine ⟨fun w' hC => ?_, ?_⟩
        · have k0_ := hC (w6.heap.size) (by simp only [List.mem_cons, true_or, or_true])
          have k1_ := hC (w6.heap.size + 1) (by simp only [List.mem_cons, true_or, or_true])
          clear hC
          have hl := load_bytes (w := w') (g := F) (n := 32) (fun j hj => (k0_ j).trans (HF7.out j hj)) Tryd.underlying25 (by kernel_rfl)
          exact exec_load rfl rfl hl
        try simp only [Act.put, List.setIfInBounds_toArray, List.set_cons_zero, List.set_cons_succ, List.tail_cons]
        with_reducible apply heldm_v (n := 13) (m' := 2047) 10
        · exact Nat.le_of_ble_eq_true (by kernel_rfl)
        · rfl
        · kernel_rfl
        · kernel_rfl
        · kernel_rfl
        · kernel_rfl
        · kernel_rfl
        · kernel_rfl
        · exact hQ
        · with_reducible exact hK
        · rfl
        apply Exists.intro
        refine ⟨fun w' hC => ?_, ?_⟩
        · have k0_ := hC (w6.heap.size) (by simp only [List.mem_cons, true_or, or_true])
          have k1_ := hC (w6.heap.size + 1) (by simp only [List.mem_cons, true_or, or_true])
          clear hC
          go_simp
          rfl
        try simp only [Act.put, List.setIfInBounds_toArray, List.set_cons_zero, List.set_cons_succ, List.tail_cons]
        with_reducible apply heldm_v (n := 12) (m' := 4095) 11
        · exact Nat.le_of_ble_eq_true (by kernel_rfl)
        · rfl
        · kernel_rfl
        · kernel_rfl
        · kernel_rfl
        · kernel_rfl
        · kernel_rfl
        · kernel_rfl
        · exact hQ
        · with_reducible exact hK
        · rfl
        apply Exists.intro
        refine ⟨fun w' hC => ?_, ?_⟩
        · have k0_ := hC (w6.heap.size) (by simp only [List.mem_cons, true_or, or_true])
          have k1_ := hC (w6.heap.size + 1) (by simp only [List.mem_cons, true_or, or_true])
          clear hC
          go_simp
          rfl
        try simp only [Act.put, List.setIfInBounds_toArray, List.set_cons_zero, List.set_cons_succ, List.tail_cons]
        with_reducible apply heldm_v (n := 11) (m' := 8191) 12
        · exact Nat.le_of_ble_eq_true (by kernel_rfl)
        · rfl
        · kernel_rfl
        · kernel_rfl
        · kernel_rfl
        · kernel_rfl
        · kernel_rfl
        · kernel_rfl
        · exact hQ
        · with_reducible exact hK
        · rfl
        apply Exists.intro
        refine ⟨fun w' hC => ?_, ?_⟩
        · have k0_ := hC (w6.heap.size) (by simp only [List.mem_cons, true_or, or_true])
          have k1_ := hC (w6.heap.size + 1) (by simp only [List.mem_cons, true_or, or_true])
          clear hC
          go_simp
          rfl
        try simp only [Act.put, List.setIfInBounds_toArray, List.set_cons_zero, List.set_cons_succ, List.tail_cons]
        with_reducible apply heldm_v (n := 10) (m' := 16383) 13
        · exact Nat.le_of_ble_eq_true (by kernel_rfl)
        · rfl
        · kernel_rfl
        · kernel_rfl
        · kernel_rfl
        · kernel_rfl
        · kernel_rfl
        · kernel_rfl
        · exact hQ
        · with_reducible exact hK
        · rfl
        apply Exists.intro
        refine ⟨fun w' hC => ?_, ?_⟩
        · have k0_ := hC (w6.heap.size) (by simp only [List.mem_cons, true_or, or_true])
          have k1_ := hC (w6.heap.size + 1) (by simp only [List.mem_cons, true_or, or_true])
          clear hC
          go_simp
          rfl
        try simp only [Act.put, List.setIfInBounds_toArray, List.set_cons_zero, List.set_cons_succ, List.tail_cons]
        with_reducible apply heldm_v (n := 9) (m' := 81919) 16
        · exact Nat.le_of_ble_eq_true (by kernel_rfl)
        · rfl
        · kernel_rfl
        · kernel_rfl
        · kernel_rfl
        · kernel_rfl
        · kernel_rfl
        · kernel_rfl
        · exact hQ
        · with_reducible exact hK
        · rfl
        apply Exists.intro
        refine ⟨fun w' hC => ?_, ?_⟩
        · have k0_ := hC (w6.heap.size) (by simp only [List.mem_cons, true_or, or_true])
          have k1_ := hC (w6.heap.size + 1) (by simp only [List.mem_cons, true_or, or_true])
          clear hC
          go_simp
          rfl
        try simp only [Act.put, List.setIfInBounds_toArray, List.set_cons_zero, List.set_cons_succ, List.tail_cons]
        with_reducible apply heldm_v (n := 8) (m' := 344063) 18
        · exact Nat.le_of_ble_eq_true (by kernel_rfl)
        · rfl
        · kernel_rfl
        · kernel_rfl
        · kernel_rfl
        · kernel_rfl
        · kernel_rfl
        · kernel_rfl
        · exact hQ
        · with_reducible exact hK
        · rfl
        apply Exists.intro
        refine ⟨fun w' hC => ?_, ?_⟩
        · have k0_ := hC (w6.heap.size) (by simp only [List.mem_cons, true_or, or_true])
          have k1_ := hC (w6.heap.size + 1) (by simp only [List.mem_cons, true_or, or_true])
          clear hC
          go_simp
          rfl
        try simp only [Act.put, List.setIfInBounds_toArray, List.set_cons_zero, List.set_cons_succ, List.tail_cons]
        with_reducible apply heldm_two (n := 7) (m1 := 360447) (m2 := 376831) 14 15
        · exact Nat.le_of_ble_eq_true (by kernel_rfl)
        · rfl
        · rfl
        · kernel_rfl
        · kernel_rfl
        · kernel_rfl
        · kernel_rfl
        · kernel_rfl
        · kernel_rfl
        · rfl
        · rfl
        · with_reducible apply heldw_call
          · with_reducible exact hK
          apply Exists.intro
          apply Exists.intro
          apply Exists.intro
          refine ⟨?_, ?_, ?_, ?_⟩
          · go_simp
            exact ⟨rfl, rfl⟩
          · exact sumM_any w.heap.size p (t + m) H (by omega) _ (HL.out.step (HB7.out.trans (Below.mono (by repeat first | with_reducible exact Below.refl _ _ | with_reducible refine Below.drew ?_ | with_reducible refine below_dN ?_ | with_reducible refine Below.alloc ?_ (by first | omega | (simp; done) | (simp; omega)) _ | with_reducible refine Below.setCell ?_ (by first | omega | (simp; done) | (simp; omega)) _ | with_reducible refine Below.trans ?_ (Below.mono (by assumption) (by first | omega | (simp; done) | (simp; omega)))) hsw))) (Hp7.out.kept (by repeat first | with_reducible exact Below.refl _ _ | with_reducible refine Below.drew ?_ | with_reducible refine below_dN ?_ | with_reducible refine Below.alloc ?_ (by first | omega | (simp; done) | (simp; omega)) _ | with_reducible refine Below.setCell ?_ (by first | omega | (simp; done) | (simp; omega)) _ | with_reducible refine Below.trans ?_ (Below.mono (by assumption) (by first | omega | (simp; done) | (simp; omega)))))
          · intro b hb
            simp only [List.mem_cons, List.not_mem_nil, or_false] at hb
            rcases hb with rfl | rfl <;> first | omega | (simp; done) | (simp; omega)
          intro v14 h14 hK
          obtain ⟨c14, f14, s14⟩ := bfacts h14
          try simp only [World.size_alloc, World.size_setCell, size_drew, size_drewN] at s14
          try simp only [Act.put, List.setIfInBounds_toArray, List.set_cons_zero, List.set_cons_succ, List.tail_cons]
          first | with_reducible refine wpa_name ?_ | with_reducible refine opw_name ?_
          intro wz15 hz15
          have hKa := hK
          rw [← hz15] at hKa
          have z15 : Below w7.heap.size w7 wz15 := by rw [hz15]; exact (by repeat first | with_reducible exact Below.refl _ _ | with_reducible refine Below.drew ?_ | with_reducible refine below_dN ?_ | with_reducible refine Below.alloc ?_ (by first | omega | (simp; done) | (simp; omega)) _ | with_reducible refine Below.setCell ?_ (by first | omega | (simp; done) | (simp; omega)) _ | with_reducible refine Below.trans ?_ (Below.mono (by assumption) (by first | omega | (simp; done) | (simp; omega))))
          have sz15 := z15.size
          clear hz15 hK
          have hK := hKa
          clear hKa
          with_reducible apply heldm_o (n := 6) (m' := 393215) 15
          · exact Nat.le_of_ble_eq_true (by kernel_rfl)
          · rfl
          · kernel_rfl
          · kernel_rfl
          · kernel_rfl
          · kernel_rfl
          · kernel_rfl
          · rfl
          apply Exists.intro
          apply Exists.intro
          refine ⟨?_, ?_, ?_⟩
          · go_simp
            exact ⟨rfl, rfl⟩
          · exact hK.alloc _ (by intro b hb; simp only [List.mem_cons, List.not_mem_nil, or_false] at hb; rcases hb with rfl | rfl <;> (first | omega | (simp; done) | (simp; omega)))
          intro hK
          have own15 : (wz15.alloc (.cells #[] 5)).ownsRow w7.heap.size 5 1 (.slice (some ⟨wz15.heap.size, 0, none⟩) 0 0) 0 [] := World.ownsRow_made wz15 #[] 0 sz15 (by unfold maxLen; omega) rfl
          try simp only [Act.put, List.setIfInBounds_toArray, List.set_cons_zero, List.set_cons_succ, List.tail_cons]
          first | with_reducible refine wpa_name ?_ | with_reducible refine opw_name ?_
          intro wa17 ha17
          have hKa := hK
          rw [← ha17] at hKa
          have oa17 : wa17.ownsRow w7.heap.size 5 1 (.slice (some ⟨wz15.heap.size, 0, none⟩) 0 0) (0) ([]) := by rw [ha17]; exact (by first | exact own15 | exact row_below own15 (by repeat first | with_reducible exact Below.refl _ _ | with_reducible refine Below.drew ?_ | with_reducible refine below_dN ?_ | with_reducible refine Below.alloc ?_ (by first | omega | (simp; done) | (simp; omega)) _ | with_reducible refine Below.setCell ?_ (by first | omega | (simp; done) | (simp; omega)) _ | with_reducible refine Below.trans ?_ (Below.mono (by assumption) (by first | omega | (simp; done) | (simp; omega)))))
          have sa17 : SliceAt wa17 a (t) (c) f := by rw [ha17]; exact (HA.out.below (HB7.out.trans (Below.mono (by repeat first | with_reducible exact Below.refl _ _ | with_reducible refine Below.drew ?_ | with_reducible refine below_dN ?_ | with_reducible refine Below.alloc ?_ (by first | omega | (simp; done) | (simp; omega)) _ | with_reducible refine Below.setCell ?_ (by first | omega | (simp; done) | (simp; omega)) _ | with_reducible refine Below.trans ?_ (Below.mono (by assumption) (by first | omega | (simp; done) | (simp; omega)))) hsw)))
          have pa17 : Below w7.heap.size w7 wa17 := by rw [ha17]; exact (by repeat first | with_reducible exact Below.refl _ _ | with_reducible refine Below.drew ?_ | with_reducible refine below_dN ?_ | with_reducible refine Below.alloc ?_ (by first | omega | (simp; done) | (simp; omega)) _ | with_reducible refine Below.setCell ?_ (by first | omega | (simp; done) | (simp; omega)) _ | with_reducible refine Below.trans ?_ (Below.mono (by assumption) (by first | omega | (simp; done) | (simp; omega))))
          have za17 : w7.heap.size ≤ wa17.heap.size := pa17.size
          clear ha17 hK
          obtain ⟨x17, w17, e17, o17, g17⟩ := append_run wa17 w7.heap.size (.slice (some ⟨wz15.heap.size, 0, none⟩) 0 0) (0) ([]) oa17 a (t) (c) f sa17 (by omega) za17
          have h17 : Below w7.heap.size w7 w17 := pa17.trans ((Below.refl w7.heap.size wa17).grown g17 za17 (fun k hk => (oa17.lt k hk).1))
          have s17 := h17.size
          with_reducible apply heldm_o (n := 5) (m' := 524287) 17
          · exact Nat.le_of_ble_eq_true (by kernel_rfl)
          · rfl
          · kernel_rfl
          · kernel_rfl
          · kernel_rfl
          · kernel_rfl
          · kernel_rfl
          · rfl
          refine ⟨x17, w17, ?_, ?_, ?_⟩
          · exact exec_append rfl rfl rfl e17
          · refine KeepL.grown hKa g17 (fun b hb => ?_) (fun b hb e => ?_)
            · simp only [List.mem_cons, List.not_mem_nil, or_false] at hb
              rcases hb with rfl | rfl <;> first | omega | (simp; done) | (simp; omega)
            · have := (oa17.lt b e.symm).1
              simp only [List.mem_cons, List.not_mem_nil, or_false] at hb
              rcases hb with rfl | rfl <;> first | omega | (simp; done) | (simp; omega)
          clear hKa oa17 sa17 pa17 za17 e17 g17
          intro hK
          try simp only [Act.put, List.setIfInBounds_toArray, List.set_cons_zero, List.set_cons_succ, List.tail_cons]
          first | with_reducible refine wpa_name ?_ | with_reducible refine opw_name ?_
          intro wa19 ha19
          have hKa := hK
          rw [← ha19] at hKa
          have oa19 : wa19.ownsRow w7.heap.size 5 1 x17 (0 + t) ([] ++ fl f t) := by rw [ha19]; exact (by first | exact o17 | exact row_below o17 (by repeat first | with_reducible exact Below.refl _ _ | with_reducible refine Below.drew ?_ | with_reducible refine below_dN ?_ | with_reducible refine Below.alloc ?_ (by first | omega | (simp; done) | (simp; omega)) _ | with_reducible refine Below.setCell ?_ (by first | omega | (simp; done) | (simp; omega)) _ | with_reducible refine Below.trans ?_ (Below.mono (by assumption) (by first | omega | (simp; done) | (simp; omega)))))
          have sa19 : SliceAt wa19 b (m) (d) g := by rw [ha19]; exact (HB.out.below (HB7.out.trans (Below.mono (by repeat first | with_reducible exact Below.refl _ _ | with_reducible refine Below.drew ?_ | with_reducible refine below_dN ?_ | with_reducible refine Below.alloc ?_ (by first | omega | (simp; done) | (simp; omega)) _ | with_reducible refine Below.setCell ?_ (by first | omega | (simp; done) | (simp; omega)) _ | with_reducible refine Below.trans ?_ (Below.mono (by assumption) (by first | omega | (simp; done) | (simp; omega)))) hsw)))
          have pa19 : Below w7.heap.size w7 wa19 := by rw [ha19]; exact (by repeat first | with_reducible exact Below.refl _ _ | with_reducible refine Below.drew ?_ | with_reducible refine below_dN ?_ | with_reducible refine Below.alloc ?_ (by first | omega | (simp; done) | (simp; omega)) _ | with_reducible refine Below.setCell ?_ (by first | omega | (simp; done) | (simp; omega)) _ | with_reducible refine Below.trans ?_ (Below.mono (by assumption) (by first | omega | (simp; done) | (simp; omega))))
          have za19 : w7.heap.size ≤ wa19.heap.size := pa19.size
          clear ha19 hK
          obtain ⟨x19, w19, e19, o19, g19⟩ := append_run wa19 w7.heap.size x17 (0 + t) ([] ++ fl f t) oa19 b (m) (d) g sa19 (by omega) za19
          have h19 : Below w7.heap.size w7 w19 := pa19.trans ((Below.refl w7.heap.size wa19).grown g19 za19 (fun k hk => (oa19.lt k hk).1))
          have s19 := h19.size
          with_reducible apply heldm_o (n := 4) (m' := 1048575) 19
          · exact Nat.le_of_ble_eq_true (by kernel_rfl)
          · rfl
          · kernel_rfl
          · kernel_rfl
          · kernel_rfl
          · kernel_rfl
          · kernel_rfl
          · rfl
          refine ⟨x19, w19, ?_, ?_, ?_⟩
          · exact exec_append rfl rfl rfl e19
          · refine KeepL.grown hKa g19 (fun b hb => ?_) (fun b hb e => ?_)
            · simp only [List.mem_cons, List.not_mem_nil, or_false] at hb
              rcases hb with rfl | rfl <;> first | omega | (simp; done) | (simp; omega)
            · have := (oa19.lt b e.symm).1
              simp only [List.mem_cons, List.not_mem_nil, or_false] at hb
              rcases hb with rfl | rfl <;> first | omega | (simp; done) | (simp; omega)
          clear hKa oa19 sa19 pa19 za19 e19 g19
          intro hK
          rw [Nat.zero_add, EHl.out] at o19
          obtain ⟨b19, c19, rfl⟩ := row_slice2 o19
          have hs19 := row_sliceAt o19 HHl.out
          try simp only [Act.put, List.setIfInBounds_toArray, List.set_cons_zero, List.set_cons_succ, List.tail_cons]
          with_reducible apply heldm_call (n := 3) (m' := 2097151) 20
          · exact Nat.le_of_ble_eq_true (by kernel_rfl)
          · rfl
          · kernel_rfl
          · kernel_rfl
          · kernel_rfl
          · kernel_rfl
          · kernel_rfl
          · rfl
          · with_reducible exact hK
          apply Exists.intro
          apply Exists.intro
          apply Exists.intro
          refine ⟨?_, ?_, ?_, ?_⟩
          · go_simp
            exact ⟨rfl, rfl⟩
          · exact refSum_any b19 (t + m) c19 H (by omega) _ (by first | exact hs19 | exact hs19.below (by repeat first | with_reducible exact Below.refl _ _ | with_reducible refine Below.drew ?_ | with_reducible refine below_dN ?_ | with_reducible refine Below.alloc ?_ (by first | omega | (simp; done) | (simp; omega)) _ | with_reducible refine Below.setCell ?_ (by first | omega | (simp; done) | (simp; omega)) _ | with_reducible refine Below.trans ?_ (Below.mono (by assumption) (by first | omega | (simp; done) | (simp; omega)))))
          · intro b hb
            simp only [List.mem_cons, List.not_mem_nil, or_false] at hb
            rcases hb with rfl | rfl <;> first | omega | (simp; done) | (simp; omega)
          intro v20 h20 hK
          obtain ⟨c20, f20, s20⟩ := bfacts h20
          try simp only [World.size_alloc, World.size_setCell, size_drew, size_drewN] at s20
          try simp only [Act.put, List.setIfInBounds_toArray, List.set_cons_zero, List.set_cons_succ, List.tail_cons]
          with_reducible apply heldm_v (n := 2) (m' := 4194303) 21
          · exact Nat.le_of_ble_eq_true (by kernel_rfl)
          · rfl
          · kernel_rfl
          · kernel_rfl
          · kernel_rfl
          · kernel_rfl
          · kernel_rfl
          · kernel_rfl
          · exact hQ
          · with_reducible exact hK
          · rfl
          apply Exists.intro
          refine ⟨fun w' hC => ?_, ?_⟩
          · have k0_ := hC (w6.heap.size) (by simp only [List.mem_cons, true_or, or_true])
            have k1_ := hC (w6.heap.size + 1) (by simp only [List.mem_cons, true_or, or_true])
            clear hC
            go_simp
            rfl
          try simp only [Act.put, List.setIfInBounds_toArray, List.set_cons_zero, List.set_cons_succ, List.tail_cons]
          with_reducible apply heldm_v (n := 1) (m' := 8388607) 22
          · exact Nat.le_of_ble_eq_true (by kernel_rfl)
          · rfl
          · kernel_rfl
          · kernel_rfl
          · kernel_rfl
          · kernel_rfl
          · kernel_rfl
          · kernel_rfl
          · exact hQ
          · with_reducible exact hK
          · rfl
          apply Exists.intro
          refine ⟨fun w' hC => ?_, ?_⟩
          · have k0_ := hC (w6.heap.size) (by simp only [List.mem_cons, true_or, or_true])
            have k1_ := hC (w6.heap.size + 1) (by simp only [List.mem_cons, true_or, or_true])
            clear hC
            go_simp
            rfl
          try simp only [Act.put, List.setIfInBounds_toArray, List.set_cons_zero, List.set_cons_succ, List.tail_cons]
          with_reducible apply heldm_v (n := 0) (m' := 16777215) 23
          · exact Nat.le_of_ble_eq_true (by kernel_rfl)
          · rfl
          · kernel_rfl
          · kernel_rfl
          · kernel_rfl
          · kernel_rfl
          · kernel_rfl
          · kernel_rfl
          · exact hQ
          · with_reducible exact hK
          · rfl
          apply Exists.intro
          refine ⟨fun w' hC => ?_, ?_⟩
          · have k0_ := hC (w6.heap.size) (by simp only [List.mem_cons, true_or, or_true])
            have k1_ := hC (w6.heap.size + 1) (by simp only [List.mem_cons, true_or, or_true])
            clear hC
            go_simp
            rfl
          try simp only [Act.put, List.setIfInBounds_toArray, List.set_cons_zero, List.set_cons_succ, List.tail_cons]
          refine heldm_end (Nat.le_of_ble_eq_true (by kernel_rfl)) (by kernel_rfl) ?_
          clear hK hQ
          go_wp2_with fail
          go_ret
          exact ⟨rfl, HB7.out.trans (Below.mono (by repeat first | with_reducible exact Below.refl _ _ | with_reducible refine Below.drew ?_ | with_reducible refine below_dN ?_ | with_reducible refine Below.alloc ?_ (by first | omega | (simp; done) | (simp; omega)) _ | with_reducible refine Below.setCell ?_ (by first | omega | (simp; done) | (simp; omega)) _ | with_reducible refine Below.trans ?_ (Below.mono (by assumption) (by first | omega | (simp; done) | (simp; omega)))) hsw)⟩
        · first | with_reducible refine wpa_name ?_ | with_reducible refine opw_name ?_
          intro wz15 hz15
          have hKa := hK
          rw [← hz15] at hKa
          have z15 : Below w7.heap.size w7 wz15 := by rw [hz15]; exact (by repeat first | with_reducible exact Below.refl _ _ | with_reducible refine Below.drew ?_ | with_reducible refine below_dN ?_ | with_reducible refine Below.alloc ?_ (by first | omega | (simp; done) | (simp; omega)) _ | with_reducible refine Below.setCell ?_ (by first | omega | (simp; done) | (simp; omega)) _ | with_reducible refine Below.trans ?_ (Below.mono (by assumption) (by first | omega | (simp; done) | (simp; omega))))
          have sz15 := z15.size
          clear hz15 hK
          have hK := hKa
          clear hKa
          with_reducible apply heldw_o
          apply Exists.intro
          apply Exists.intro
          refine ⟨?_, ?_, ?_⟩
          · go_simp
            exact ⟨rfl, rfl⟩
          · exact hK.alloc _ (by intro b hb; simp only [List.mem_cons, List.not_mem_nil, or_false] at hb; rcases hb with rfl | rfl <;> (first | omega | (simp; done) | (simp; omega)))
          intro hK
          have own15 : (wz15.alloc (.cells #[] 5)).ownsRow w7.heap.size 5 1 (.slice (some ⟨wz15.heap.size, 0, none⟩) 0 0) 0 [] := World.ownsRow_made wz15 #[] 0 sz15 (by unfold maxLen; omega) rfl
          try simp only [Act.put, List.setIfInBounds_toArray, List.set_cons_zero, List.set_cons_succ, List.tail_cons]
          with_reducible apply heldm_call (n := 6) (m' := 393215) 14
          · exact Nat.le_of_ble_eq_true (by kernel_rfl)
          · rfl
          · kernel_rfl
          · kernel_rfl
          · kernel_rfl
          · kernel_rfl
          · kernel_rfl
          · rfl
          · with_reducible exact hK
          apply Exists.intro
          apply Exists.intro
          apply Exists.intro
          refine ⟨?_, ?_, ?_, ?_⟩
          · go_simp
            exact ⟨rfl, rfl⟩
          · exact sumM_any w.heap.size p (t + m) H (by omega) _ (HL.out.step (HB7.out.trans (Below.mono (by repeat first | with_reducible exact Below.refl _ _ | with_reducible refine Below.drew ?_ | with_reducible refine below_dN ?_ | with_reducible refine Below.alloc ?_ (by first | omega | (simp; done) | (simp; omega)) _ | with_reducible refine Below.setCell ?_ (by first | omega | (simp; done) | (simp; omega)) _ | with_reducible refine Below.trans ?_ (Below.mono (by assumption) (by first | omega | (simp; done) | (simp; omega)))) hsw))) (Hp7.out.kept (by repeat first | with_reducible exact Below.refl _ _ | with_reducible refine Below.drew ?_ | with_reducible refine below_dN ?_ | with_reducible refine Below.alloc ?_ (by first | omega | (simp; done) | (simp; omega)) _ | with_reducible refine Below.setCell ?_ (by first | omega | (simp; done) | (simp; omega)) _ | with_reducible refine Below.trans ?_ (Below.mono (by assumption) (by first | omega | (simp; done) | (simp; omega)))))
          · intro b hb
            simp only [List.mem_cons, List.not_mem_nil, or_false] at hb
            rcases hb with rfl | rfl <;> first | omega | (simp; done) | (simp; omega)
          intro v14 h14 hK
          obtain ⟨c14, f14, s14⟩ := bfacts h14
          try simp only [World.size_alloc, World.size_setCell, size_drew, size_drewN] at s14
          try simp only [Act.put, List.setIfInBounds_toArray, List.set_cons_zero, List.set_cons_succ, List.tail_cons]
          first | with_reducible refine wpa_name ?_ | with_reducible refine opw_name ?_
          intro wa17 ha17
          have hKa := hK
          rw [← ha17] at hKa
          have oa17 : wa17.ownsRow w7.heap.size 5 1 (.slice (some ⟨wz15.heap.size, 0, none⟩) 0 0) (0) ([]) := by rw [ha17]; exact (by first | exact own15 | exact row_below own15 (by repeat first | with_reducible exact Below.refl _ _ | with_reducible refine Below.drew ?_ | with_reducible refine below_dN ?_ | with_reducible refine Below.alloc ?_ (by first | omega | (simp; done) | (simp; omega)) _ | with_reducible refine Below.setCell ?_ (by first | omega | (simp; done) | (simp; omega)) _ | with_reducible refine Below.trans ?_ (Below.mono (by assumption) (by first | omega | (simp; done) | (simp; omega)))))
          have sa17 : SliceAt wa17 a (t) (c) f := by rw [ha17]; exact (HA.out.below (HB7.out.trans (Below.mono (by repeat first | with_reducible exact Below.refl _ _ | with_reducible refine Below.drew ?_ | with_reducible refine below_dN ?_ | with_reducible refine Below.alloc ?_ (by first | omega | (simp; done) | (simp; omega)) _ | with_reducible refine Below.setCell ?_ (by first | omega | (simp; done) | (simp; omega)) _ | with_reducible refine Below.trans ?_ (Below.mono (by assumption) (by first | omega | (simp; done) | (simp; omega)))) hsw)))
          have pa17 : Below w7.heap.size w7 wa17 := by rw [ha17]; exact (by repeat first | with_reducible exact Below.refl _ _ | with_reducible refine Below.drew ?_ | with_reducible refine below_dN ?_ | with_reducible refine Below.alloc ?_ (by first | omega | (simp; done) | (simp; omega)) _ | with_reducible refine Below.setCell ?_ (by first | omega | (simp; done) | (simp; omega)) _ | with_reducible refine Below.trans ?_ (Below.mono (by assumption) (by first | omega | (simp; done) | (simp; omega))))
          have za17 : w7.heap.size ≤ wa17.heap.size := pa17.size
          clear ha17 hK
          obtain ⟨x17, w17, e17, o17, g17⟩ := append_run wa17 w7.heap.size (.slice (some ⟨wz15.heap.size, 0, none⟩) 0 0) (0) ([]) oa17 a (t) (c) f sa17 (by omega) za17
          have h17 : Below w7.heap.size w7 w17 := pa17.trans ((Below.refl w7.heap.size wa17).grown g17 za17 (fun k hk => (oa17.lt k hk).1))
          have s17 := h17.size
          with_reducible apply heldm_o (n := 5) (m' := 524287) 17
          · exact Nat.le_of_ble_eq_true (by kernel_rfl)
          · rfl
          · kernel_rfl
          · kernel_rfl
          · kernel_rfl
          · kernel_rfl
          · kernel_rfl
          · rfl
          refine ⟨x17, w17, ?_, ?_, ?_⟩
          · exact exec_append rfl rfl rfl e17
          · refine KeepL.grown hKa g17 (fun b hb => ?_) (fun b hb e => ?_)
            · simp only [List.mem_cons, List.not_mem_nil, or_false] at hb
              rcases hb with rfl | rfl <;> first | omega | (simp; done) | (simp; omega)
            · have := (oa17.lt b e.symm).1
              simp only [List.mem_cons, List.not_mem_nil, or_false] at hb
              rcases hb with rfl | rfl <;> first | omega | (simp; done) | (simp; omega)
          clear hKa oa17 sa17 pa17 za17 e17 g17
          intro hK
          try simp only [Act.put, List.setIfInBounds_toArray, List.set_cons_zero, List.set_cons_succ, List.tail_cons]
          first | with_reducible refine wpa_name ?_ | with_reducible refine opw_name ?_
          intro wa19 ha19
          have hKa := hK
          rw [← ha19] at hKa
          have oa19 : wa19.ownsRow w7.heap.size 5 1 x17 (0 + t) ([] ++ fl f t) := by rw [ha19]; exact (by first | exact o17 | exact row_below o17 (by repeat first | with_reducible exact Below.refl _ _ | with_reducible refine Below.drew ?_ | with_reducible refine below_dN ?_ | with_reducible refine Below.alloc ?_ (by first | omega | (simp; done) | (simp; omega)) _ | with_reducible refine Below.setCell ?_ (by first | omega | (simp; done) | (simp; omega)) _ | with_reducible refine Below.trans ?_ (Below.mono (by assumption) (by first | omega | (simp; done) | (simp; omega)))))
          have sa19 : SliceAt wa19 b (m) (d) g := by rw [ha19]; exact (HB.out.below (HB7.out.trans (Below.mono (by repeat first | with_reducible exact Below.refl _ _ | with_reducible refine Below.drew ?_ | with_reducible refine below_dN ?_ | with_reducible refine Below.alloc ?_ (by first | omega | (simp; done) | (simp; omega)) _ | with_reducible refine Below.setCell ?_ (by first | omega | (simp; done) | (simp; omega)) _ | with_reducible refine Below.trans ?_ (Below.mono (by assumption) (by first | omega | (simp; done) | (simp; omega)))) hsw)))
          have pa19 : Below w7.heap.size w7 wa19 := by rw [ha19]; exact (by repeat first | with_reducible exact Below.refl _ _ | with_reducible refine Below.drew ?_ | with_reducible refine below_dN ?_ | with_reducible refine Below.alloc ?_ (by first | omega | (simp; done) | (simp; omega)) _ | with_reducible refine Below.setCell ?_ (by first | omega | (simp; done) | (simp; omega)) _ | with_reducible refine Below.trans ?_ (Below.mono (by assumption) (by first | omega | (simp; done) | (simp; omega))))
          have za19 : w7.heap.size ≤ wa19.heap.size := pa19.size
          clear ha19 hK
          obtain ⟨x19, w19, e19, o19, g19⟩ := append_run wa19 w7.heap.size x17 (0 + t) ([] ++ fl f t) oa19 b (m) (d) g sa19 (by omega) za19
          have h19 : Below w7.heap.size w7 w19 := pa19.trans ((Below.refl w7.heap.size wa19).grown g19 za19 (fun k hk => (oa19.lt k hk).1))
          have s19 := h19.size
          with_reducible apply heldm_o (n := 4) (m' := 1048575) 19
          · exact Nat.le_of_ble_eq_true (by kernel_rfl)
          · rfl
          · kernel_rfl
          · kernel_rfl
          · kernel_rfl
          · kernel_rfl
          · kernel_rfl
          · rfl
          refine ⟨x19, w19, ?_, ?_, ?_⟩
          · exact exec_append rfl rfl rfl e19
          · refine KeepL.grown hKa g19 (fun b hb => ?_) (fun b hb e => ?_)
            · simp only [List.mem_cons, List.not_mem_nil, or_false] at hb
              rcases hb with rfl | rfl <;> first | omega | (simp; done) | (simp; omega)
            · have := (oa19.lt b e.symm).1
              simp only [List.mem_cons, List.not_mem_nil, or_false] at hb
              rcases hb with rfl | rfl <;> first | omega | (simp; done) | (simp; omega)
          clear hKa oa19 sa19 pa19 za19 e19 g19
          intro hK
          rw [Nat.zero_add, EHl.out] at o19
          obtain ⟨b19, c19, rfl⟩ := row_slice2 o19
          have hs19 := row_sliceAt o19 HHl.out
          try simp only [Act.put, List.setIfInBounds_toArray, List.set_cons_zero, List.set_cons_succ, List.tail_cons]
          with_reducible apply heldm_call (n := 3) (m' := 2097151) 20
          · exact Nat.le_of_ble_eq_true (by kernel_rfl)
          · rfl
          · kernel_rfl
          · kernel_rfl
          · kernel_rfl
          · kernel_rfl
          · kernel_rfl
          · rfl
          · with_reducible exact hK
          apply Exists.intro
          apply Exists.intro
          apply Exists.intro
          refine ⟨?_, ?_, ?_, ?_⟩
          · go_simp
            exact ⟨rfl, rfl⟩
          · exact refSum_any b19 (t + m) c19 H (by omega) _ (by first | exact hs19 | exact hs19.below (by repeat first | with_reducible exact Below.refl _ _ | with_reducible refine Below.drew ?_ | with_reducible refine below_dN ?_ | with_reducible refine Below.alloc ?_ (by first | omega | (simp; done) | (simp; omega)) _ | with_reducible refine Below.setCell ?_ (by first | omega | (simp; done) | (simp; omega)) _ | with_reducible refine Below.trans ?_ (Below.mono (by assumption) (by first | omega | (simp; done) | (simp; omega)))))
          · intro b hb
            simp only [List.mem_cons, List.not_mem_nil, or_false] at hb
            rcases hb with rfl | rfl <;> first | omega | (simp; done) | (simp; omega)
          intro v20 h20 hK
          obtain ⟨c20, f20, s20⟩ := bfacts h20
          try simp only [World.size_alloc, World.size_setCell, size_drew, size_drewN] at s20
          try simp only [Act.put, List.setIfInBounds_toArray, List.set_cons_zero, List.set_cons_succ, List.tail_cons]
          with_reducible apply heldm_v (n := 2) (m' := 4194303) 21
          · exact Nat.le_of_ble_eq_true (by kernel_rfl)
          · rfl
          · kernel_rfl
          · kernel_rfl
          · kernel_rfl
          · kernel_rfl
          · kernel_rfl
          · kernel_rfl
          · exact hQ
          · with_reducible exact hK
          · rfl
          apply Exists.intro
          refine ⟨fun w' hC => ?_, ?_⟩
          · have k0_ := hC (w6.heap.size) (by simp only [List.mem_cons, true_or, or_true])
            have k1_ := hC (w6.heap.size + 1) (by simp only [List.mem_cons, true_or, or_true])
            clear hC
            go_simp
            rfl
          try simp only [Act.put, List.setIfInBounds_toArray, List.set_cons_zero, List.set_cons_succ, List.tail_cons]
          with_reducible apply heldm_v (n := 1) (m' := 8388607) 22
          · exact Nat.le_of_ble_eq_true (by kernel_rfl)
          · rfl
          · kernel_rfl
          · kernel_rfl
          · kernel_rfl
          · kernel_rfl
          · kernel_rfl
          · kernel_rfl
          · exact hQ
          · with_reducible exact hK
          · rfl
          apply Exists.intro
          refine ⟨fun w' hC => ?_, ?_⟩
          · have k0_ := hC (w6.heap.size) (by simp only [List.mem_cons, true_or, or_true])
            have k1_ := hC (w6.heap.size + 1) (by simp only [List.mem_cons, true_or, or_true])
            clear hC
            go_simp
            rfl
          try simp only [Act.put, List.setIfInBounds_toArray, List.set_cons_zero, List.set_cons_succ, List.tail_cons]
          with_reducible apply heldm_v (n := 0) (m' := 16777215) 23
          · exact Nat.le_of_ble_eq_true (by kernel_rfl)
          · rfl
          · kernel_rfl
          · kernel_rfl
          · kernel_rfl
          · kernel_rfl
          · kernel_rfl
          · kernel_rfl
          · exact hQ
          · with_reducible exact hK
          · rfl
          apply Exists.intro
          refine ⟨fun w' hC => ?_, ?_⟩
          · have k0_ := hC (w6.heap.size) (by simp only [List.mem_cons, true_or, or_true])
            have k1_ := hC (w6.heap.size + 1) (by simp only [List.mem_cons, true_or, or_true])
            clear hC
            go_simp
            rfl
          try simp only [Act.put, List.setIfInBounds_toArray, List.set_cons_zero, List.set_cons_succ, List.tail_cons]
          refine heldm_end (Nat.le_of_ble_eq_true (by kernel_rfl)) (by kernel_rfl) ?_
          clear hK hQ
          go_wp2_with fail
          go_ret
          exact ⟨rfl, HB7.out.trans (Below.mono (by repeat first | with_reducible exact Below.refl _ _ | with_reducible refine Below.drew ?_ | with_reducible refine below_dN ?_ | with_reducible refine Below.alloc ?_ (by first | omega | (simp; done) | (simp; omega)) _ | with_reducible refine Below.setCell ?_ (by first | omega | (simp; done) | (simp; omega)) _ | with_reducible refine Below.trans ?_ (Below.mono (by assumption) (by first | omega | (simp; done) | (simp; omega)))) hsw)⟩
end Go.Proofs.YtdaggankfokloaaDoor
