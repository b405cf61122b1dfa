/- The contract of the reference's Sum. -/
import Derived.Test.YtdaggankfokloaaDoorRefBlock
import Derived.Test.YtdaggankfokloaaDoorSumM
import Derived.Laws.AppendOwnNone
namespace Go.Proofs.YtdaggankfokloaaDoor
set_option linter.all false
open Go Go.RowKit

/-- append to bytes of the call's own: the source may be nil. -/
theorem append_bytes {w : World} {ops : Array Oper} {rest : List Oper} {o : Oper} {a : Act} {Q : Exit → Act → World → Prop} (hgd : o.guard = none) (s x : Operand)
    (ho : o.op = .call { callee := .builtin .append, args := #[s, x], argTypes := #[22, 22] }) (base : Nat)
    (v : Value) (n : Nat) (xs : List Value) (hs : a.eval s = v) (hown : w.ownsRow base 5 1 v n xs)
    (ad : Option Addr) (m c : Nat) (g : Nat → Nat) (hx : a.eval x = .slice ad m c) (hS : SliceAt w ad m c g) (hlen : n + m ≤ 1000000) (hbase : base ≤ w.heap.size)
    (h : ∀ v' w', w'.ownsRow base 5 1 v' (n + m) (xs ++ fl g m) → w.grownBy w' v.ownBlock → wpList Tryd.prog ops Q rest (a.put o.dst v') w') : wpList Tryd.prog ops Q (o :: rest) a w := by
  obtain ⟨i0, hi, hz0, hz1, hz2⟩ := info_parts infoByte
  rcases hS.at_ with ⟨rfl, rfl, rfl⟩ | ⟨ad, rfl, hB⟩
  · refine wpList_append_own_none hgd s x 22 ho base 5 i0 1 Tryd.underlying22 hi v n xs hs hown hx (h v w ?_ ?_)
    · rw [show fl g 0 = [] from rfl, List.append_nil]; exact hown
    · exact ⟨rfl, rfl, rfl, Nat.le_refl _, fun _ _ _ => rfl⟩
  · refine wpList_append_own w hgd s x 22 ho base 5 i0 (.int .u8 0) 1 1 Tryd.underlying22 hi hz0 hz1 hz2 rfl (by decide) v n xs hs hown ad m c (fl g m) hx (by rw [fl_len, Nat.mul_one]) (fun j u hj => ?_) (fl_one g m) (by unfold maxLen; omega) (by omega) hbase (fun v' w' h1 h2 _ => h v' w' h1 h2)
    have hjm : j < m := by have := (List.getElem?_eq_some_iff.1 hj).1; rwa [fl_len] at this
    obtain ⟨b, off, rfl, hB'⟩ := hB (by omega)
    exact hB'.src j u hj
theorem fl_succ (f : Nat → Nat) (n : Nat) : fl f (n + 1) = fl f n ++ [.int .u8 ((f n : Nat) : Int)] := by unfold fl; rw [List.range_succ, List.map_append]; rfl
/-- A block of one byte as a source. -/
theorem one_byte {w : World} {v : Nat} (hv : v < 256) {T : TypeId} : SliceAt (w.alloc (.cells #[.int .u8 ((v : Nat) : Int)] T)) (some ⟨w.heap.size, 0, none⟩) 1 1 (fun _ => v) :=
  ⟨fun _ => hv, Nat.le_refl _, .inr ⟨_, rfl, fun _ => ⟨_, _, rfl, fun _ => hv, by simp only [World.size_alloc]; omega, fun j hj => by
    obtain rfl : j = 0 := by omega
    exact (cell_of_row _ w.heap.size 0 _ _ _ (heap_alloc_new w _)).trans rfl⟩⟩⟩
/-- The length's bytes, the last t of them written. -/
def lf (n t j : Nat) : Nat := if j < 8 ∧ 8 - t ≤ j then 8 * n / 256 ^ (7 - j) % 256 else 0
theorem lf_lt (n t j : Nat) : lf n t j < 256 := by
  unfold lf
  split
  · exact Nat.mod_lt _ (by decide)
  · decide
theorem lf_step {w : World} {b n t d x : Nat} {T : TypeId} (h : RowB w b 8 (upd (lf n t) d (x % 256)) T) (hd : 7 - t = d) (ht : t < 8) (hx : x = 8 * n / 256 ^ t) : RowB w b 8 (lf n (t + 1)) T := by
  unfold RowB at *
  rw [← fl_congr (f := upd (lf n t) d (x % 256)) (g := lf n (t + 1)) (n := 8) (fun j hj => ?_)]
  · exact h
  · unfold upd lf
    by_cases e : j = d
    · rw [if_pos e, if_pos (by omega), hx, show 7 - j = t by omega]
    · rw [if_neg e]
      by_cases h2 : 8 - t ≤ j
      · rw [if_pos ⟨hj, h2⟩, if_pos (by omega)]
      · rw [if_neg (by omega), if_neg (by omega)]
def slen : Value → Nat | .slice _ n _ => n | _ => 0
theorem pd_lt {g : Nat → Nat} (hg : ∀ j, g j < 256) (n j : Nat) : pd g n j < 256 := by
  unfold pd
  split
  · exact hg _
  · split
    · decide
    · split
      · decide
      · exact Nat.mod_lt _ (by decide)

set_option maxRecDepth 100000 in
set_option maxHeartbeats 8000000 in
theorem refSum_walk (ad : Addr) (n c : Nat) (g : Nat → Nat) (hn : n ≤ 100000) (w : World) (HS : Hid (SliceAt w (some ad) n c g)) :
    Calls Tryd.prog 12 #[.slice (some ad) n c] w fun e w' => e = .returned (.agg (fl (sb (sumS K s0 g n)) 32).toArray) ∧ Below w.heap.size w w' := by
  obtain ⟨P, eP⟩ : ∃ P, P = pd g n := ⟨_, rfl⟩
  obtain ⟨z, ez⟩ : ∃ z, z = zs n := ⟨_, rfl⟩
  obtain ⟨M, eM⟩ : ∃ M, M = blocks n := ⟨_, rfl⟩
  have hM : 64 * M = n + z + 9 := by rw [eM, ez]; exact blocks_eq n
  have hz : (n + 1 + z) % 64 = 56 := by rw [ez]; unfold zs; omega
  have hz2 : z < 64 := by rw [ez]; unfold zs; omega
  have hP : ∀ j, P j < 256 := by rw [eP]; exact pd_lt HS.out.lt n
  have hp1 : fl g n = fl P n := fl_congr fun j hj => by rw [eP]; unfold pd; rw [if_pos hj]
  have hp2 : P n = 128 := by rw [eP]; unfold pd; rw [if_neg (by omega), if_pos rfl]
  have hp3 : ∀ k, n < k → k ≤ n + z → P k = 0 := fun k h1 h2 => by rw [eP]; unfold pd; rw [if_neg (by omega), if_neg (by omega), if_pos (by omega)]
  have hp4 : ∀ j, j < 8 → P (n + 1 + z + j) = 8 * n / 256 ^ (7 - j) % 256 := fun j hj => by
    rw [eP]; unfold pd; rw [if_neg (by omega), if_neg (by omega), if_neg (by omega), show n + 1 + z + j - (n + zs n + 1) = j by omega]
  have hs : sumS K s0 g n = hs K s0 P M := by rw [eP, eM]; rfl
  have HM := Lib.hid hM
  have Hz := Lib.hid (And.intro hz hz2)
  have HP := Lib.hid hP
  have Hp1 := Lib.hid hp1
  have Hp2 := Lib.hid hp2
  have Hp3 := Lib.hid hp3
  have Hp4 := Lib.hid hp4
  have HSum := Lib.hid hs
  have Hn := Lib.hid hn
  clear eP ez eM hM hz hz2 hP hp1 hp2 hp3 hp4 hs hn
  go_enter Tryd.func12, Tryd.ntmps12
  have hst : ∀ (o : Obj) (W : World), W = (w.alloc o).alloc (.cells #[] 5) → W.ownsRow (w.heap.size + 1) 5 1 (.slice (some ⟨w.heap.size + 1, 0, none⟩) 0 0) 0 [] ∧ SliceAt W (some ad) n c g ∧ w.heap.size + 1 ≤ W.heap.size ∧ Below (w.heap.size + 1) (w.alloc o) W := fun o W e => by
    subst e
    have h1 := World.ownsRow_made (base := w.heap.size + 1) (w.alloc o) #[] 0 (e := 5) (size := 1) (by simp only [World.size_alloc]; omega) (by unfold maxLen; omega) rfl
    have hb : Below w.heap.size w ((w.alloc o).alloc (.cells #[] 5)) := ((Below.refl _ _).alloc (Nat.le_refl _) _).alloc (by simp) _
    exact ⟨by simpa only [World.size_alloc] using h1, HS.out.below hb, by simp only [World.size_alloc]; omega, (Below.refl _ _).alloc (by simp) _⟩
  have Hst := Lib.hid hst
  clear hst
  go_wp2_with (first
    | (at_builtin; refine append_bytes rfl (.tmp 14) (.tmp 15) rfl (w.heap.size + 1) (.slice (some ⟨w.heap.size + 1, 0, none⟩) 0 0) 0 [] rfl (Hst.out _ _ rfl).1 (some ad) n c g rfl (Hst.out _ _ rfl).2.1 (by have := Hn.out; omega) (Hst.out _ _ rfl).2.2.1 ?_; intro v1 w1 own1 grow1; have HB1 := Lib.hid ((Hst.out _ _ rfl).2.2.2.grown grow1 (Hst.out _ _ rfl).2.2.1 (fun k hk => by cases hk; exact Nat.le_refl _)); have Own1 := Lib.hid own1; clear own1 grow1)
    | (at_builtin; refine append_bytes rfl (.tmp 16) (.tmp 17) rfl (w.heap.size + 1) v1 _ _ rfl (Own1.out.alloc _) (some ⟨w1.heap.size, 0, none⟩) 1 1 (fun _ => 128) rfl (one_byte (by decide)) (by have := Hn.out; omega) (by have := HB1.out.size; simp only [World.size_alloc] at this ⊢; omega) ?_; intro v2 w2 own2 grow2; have HB2 := Lib.hid ((HB1.out.alloc (by have := HB1.out.size; simp only [World.size_alloc] at this ⊢; omega) _).grown grow2 (by have := HB1.out.size; simp only [World.size_alloc] at this ⊢; omega) (fun k hk => (Own1.out.lt k hk).1)); have Own2 := Lib.hid own2; clear own2 grow2 HB1 Own1))
  have Hout : Hid (RowB w2 w.heap.size 32 (fun _ => 0) 25) := (HB2.out.block w.heap.size (Nat.lt_succ_self _)).trans (heap_alloc_new w _)
  have HBw : Hid (Below w.heap.size w w2) := ((Below.refl _ _).alloc (Nat.le_refl _) _).trans (Below.mono HB2.out (Nat.le_succ _))
  have own2 := Own2.out
  rw [List.nil_append, Hp1.out, show fl (fun _ => 128) 1 = [Value.int .u8 ((P n : Nat) : Int)] by rw [Hp2.out]; rfl, ← fl_succ, Nat.zero_add] at own2
  obtain ⟨gp, cp, rfl, hgp, hgp2, hcp⟩ := row_form own2 (by omega)
  have Own := Lib.hid own2
  have hz0 := Hz.out.2
  have hn0 := Hn.out
  have hs2 : w.heap.size + 1 ≤ w2.heap.size := by have := HB2.out.size; simpa only [World.size_alloc] using this
  have Hs2 := Lib.hid hs2
  clear Hst HB2 Own2 own2 hgp hgp2 hcp hs2
  go_loopw [3] (fun v wr => ∃ (gp cp k : Nat), n + 1 ≤ k ∧ k ≤ n + 1 + z ∧ v = .slice (some ⟨gp, 0, none⟩) k cp ∧ Hid (wr.ownsRow (w.heap.size + 1) 5 1 (.slice (some ⟨gp, 0, none⟩) k cp) k (fl P k) ∧ Below (w.heap.size + 1) w2 wr)) (fun v _ => n + 1 + z - slen v)
  case atStart => exact ⟨gp, cp, n + 1, Nat.le_refl _, Nat.le_add_right _ _, rfl, Own.out, Below.refl _ _⟩
  case round =>
    clear Own
    obtain ⟨gq, cq, k, hk1, hk2, rfl, G⟩ := hrel
    by_cases hlt : k < n + 1 + z
    · have h56 : ((k : Int) % 64 == 56) = false := by have := Hz.out.1; simp; omega
      have h56' : (k : Int) % 64 ≠ 56 := by have := Hz.out.1; omega
      have hkP := Hp3.out k (by omega) (by omega)
      have HkP := Lib.hid hkP
      have Hlt := Lib.hid (And.intro hk1 hlt)
      clear hkP hlt hk1 hk2
      go_wp2_with (at_builtin; refine append_bytes rfl (.tmp 23) (.tmp 24) rfl (w.heap.size + 1) (.slice (some ⟨gq, 0, none⟩) k cq) k (fl P k) rfl (G.out.1.alloc _) (some ⟨wr.heap.size, 0, none⟩) 1 1 (fun _ => 0) rfl (one_byte (by decide)) (by have := Hlt.out; omega) (by have := G.out.2.size; have := Hs2.out; simp only [World.size_alloc]; omega) ?_; intro v3 w3 own3 grow3)
      rw [show fl (fun _ => 0) 1 = [Value.int .u8 ((P k : Nat) : Int)] by rw [HkP.out]; rfl, ← fl_succ] at own3
      obtain ⟨gr, cr, rfl, hgr, hgr2, hcr⟩ := row_form own3 (by omega)
      refine ⟨⟨gr, cr, k + 1, Nat.le_succ_of_le Hlt.out.1, Hlt.out.2, rfl, own3, ?_⟩, ?_⟩
      · exact (G.out.2.alloc (Nat.le_trans Hs2.out G.out.2.size) _).grown grow3 (by have := G.out.2.size; have := Hs2.out; simp only [World.size_alloc]; omega) (fun k hk => (G.out.1.lt k hk).1)
      · have := Hlt.out
        simp only [slen]
        omega
    · have hk : k = n + 1 + z := by omega
      have h56 : ((k : Int) % 64 != 56) = false := by have := Hz.out.1; rw [← hk] at this; simp; omega
      have Hk := Lib.hid hk
      have hk3 : (k : Int) ≤ 100065 := by omega
      have hgq := (G.out.1.lt gq rfl).2
      have HrowL : Hid (RowB (wr.alloc (.cells #[.int .u8 0, .int .u8 0, .int .u8 0, .int .u8 0, .int .u8 0, .int .u8 0, .int .u8 0, .int .u8 0] 38)) wr.heap.size 8 (lf n 0) 38) := heap_alloc_new wr _
      obtain ⟨wo, ewo⟩ : ∃ wo : World, wo = wr := ⟨_, rfl⟩
      subst ewo
      clear hk hlt hk1 hk2
      go_wp2_with fail
      go_loopw [4, 6] (fun nn i wq => ∃ t : Nat, t ≤ 8 ∧ i = .int .i64 ((7 : Int) - (t : Int)) ∧ nn = .int .u64 ((8 * n / 256 ^ t : Nat) : Int) ∧ Hid (RowB wq wo.heap.size 8 (lf n t) 38 ∧ Below wo.heap.size wo wq)) (fun _ i _ => (intOf i + 1).toNat)
      case atStart => exact ⟨0, by omega, rfl, by rw [Nat.pow_zero, Nat.div_one]; go_num, HrowL.out, (Below.refl _ _).alloc (Nat.le_refl _) _⟩
      case round =>
        clear HrowL
        obtain ⟨t, ht, rfl, rfl, G2⟩ := hrel
        by_cases hlt : t < 8
        · obtain ⟨x, ex⟩ : ∃ x, x = 8 * n / 256 ^ t := ⟨_, rfl⟩
          rw [← ex]
          have hx : x ≤ 800000 := by rw [ex]; exact Nat.le_trans (Nat.div_le_self _ _) (by have := Hn.out; omega)
          obtain ⟨d, ed⟩ : ∃ d, d = 7 - t := ⟨_, rfl⟩
          have hd1 : (7 : Int) - (t : Int) = (d : Int) := by omega
          have hd8 : (d : Int) < 8 := by omega
          have cd := G2.out.1.cell (j := d) (by omega)
          have fd := G2.out.1.fz d
          have Ex := Lib.hid ex
          have Ed := Lib.hid ed
          have Hlt := Lib.hid hlt
          clear ex ed hlt ht
          go_wp2_with fail
          go_roundw
          case rel =>
            refine ⟨t + 1, Hlt.out, ?_, ?_, lf_step (G2.out.1.set (by have := Ed.out; omega) (x % 256)) Ed.out.symm Hlt.out Ex.out, G2.out.2.setCell (Nat.le_refl _) _⟩
            · rw [show (d : Int) - 1 = (7 : Int) - ((t + 1 : Nat) : Int) by omega]
            · rw [Nat.pow_succ, ← Nat.div_div_eq_div_mul, ← Ex.out]
              rfl
          case measure => have := Hlt.out; simp only [intOf]; omega
        · obtain rfl : t = 8 := by omega
          have hi : (7 : Int) - ((8 : Nat) : Int) = -1 := by omega
          rw [hi]
          have HB8 : Hid (BytesAt wr wo.heap.size 0 8 (lf n 8)) := G2.out.1.bytes (lf_lt n 8)
          have Hown := Lib.hid (row_below G.out.1 G2.out.2)
          have HBo := Lib.hid (G.out.2.trans (Below.mono G2.out.2 (Nat.le_trans Hs2.out G.out.2.size)))
          have hsz := HBo.out.size
          have hs2 := Hs2.out
          clear hlt ht hi
          go_wp2_with (at_builtin; refine append_bytes rfl (.tmp 41) (.tmp 42) rfl (w.heap.size + 1) (.slice (some ⟨gq, 0, none⟩) k cq) k (fl P k) rfl Hown.out (some ⟨wo.heap.size, 0, none⟩) 8 8 (lf n 8) rfl ⟨lf_lt n 8, Nat.le_refl _, .inr ⟨_, rfl, fun _ => ⟨_, _, rfl, HB8.out⟩⟩⟩ (by omega) (by omega) ?_; intro v4 w4 own4 grow4)
          obtain ⟨L, eL⟩ : ∃ L, L = k + 8 := ⟨_, rfl⟩
          have hLM : L = 64 * M := by have := HM.out; have := Hk.out; omega
          have hpl : fl (lf n 8) 8 = fl (fun j => P (k + j)) 8 := fl_congr fun j hj => by
            rw [Hk.out, Hp4.out j hj]; unfold lf; rw [if_pos ⟨hj, by omega⟩]
          rw [hpl, fl_add, ← eL] at own4
          obtain ⟨gm, cm, rfl, hgm, hgm2, hcm⟩ := row_form own4 (by omega)
          have hbm := row_bytes own4 HP.out
          have hb4 : Below (w.heap.size + 1) w2 w4 := HBo.out.grown grow4 (by omega) (fun k hk => (Hown.out.lt k hk).1)
          have Hbm := Lib.hid hbm
          have Hb4 := Lib.hid hb4
          have HLM := Lib.hid hLM
          have hLb : (L : Int) ≤ 100073 := by omega
          have hcmL : (L : Int) ≤ (cm : Int) := by omega
          have hs4 : w.heap.size + 1 ≤ w4.heap.size := by have := hb4.size; omega
          clear hpl own4 grow4 hbm hb4 hLM eL HB8 Hown HBo hgm hcm G2 hsz hk3 h56
          refine Calls.mono (refK_c _) ?_
          rintro _ w5 ⟨⟨r5, rfl, hr5⟩, h5⟩
          obtain ⟨c5, f5, s5⟩ := bfacts h5
          try simp only [World.size_alloc, World.size_setCell, size_drew, size_drewN] at s5
          obtain ⟨gk, ck, rfl, hgk, hgk2, hck⟩ := row_form hr5 (by omega)
          have HK5 : Hid (∀ j, j < 64 → w5.cell? ⟨gk, j, none⟩ = some (.int .u32 ((K j : Nat) : Int))) := fun j hj => (hr5.cellAt j (by omega)).trans (ws_get _ _ j hj)
          clear hr5
          go_wp2_with fail
          refine Calls.mono (refS_c _) ?_
          rintro _ w6 ⟨⟨r6, rfl, hr6⟩, h6⟩
          obtain ⟨c6, f6, s6⟩ := bfacts h6
          try simp only [World.size_alloc, World.size_setCell, size_drew, size_drewN] at s6
          obtain ⟨gs, cs, rfl, hgs, hgs2, hcs⟩ := row_form hr6 (by omega)
          have HS6 : Hid (∀ j, j < 8 → w6.cell? ⟨gs, j, none⟩ = some (.int .u32 ((s0.at j : Nat) : Int))) := fun j hj => (hr6.cellAt j (by omega)).trans (ws_get _ _ j hj)
          have HK6 : Hid (∀ j, j < 64 → w6.cell? ⟨gk, j, none⟩ = some (.int .u32 ((K j : Nat) : Int))) := fun j hj => (h6.cell (p := ⟨gk, j, none⟩) hgk2).trans (HK5.out j hj)
          have Hbm6 : Hid (BytesAt w6 gm 0 L P) := (Hbm.out.below h5).below h6
          have Hb6 : Hid (Below (w.heap.size + 1) w2 w6) := (Hb4.out.trans (Below.mono h5 hs4)).trans (Below.mono h6 (by omega))
          have hs6 : w.heap.size + 1 ≤ w6.heap.size := by omega
          clear hr6 hgs hgk HK5 c5 c6 f5 f6 h5 h6 Hbm Hb4 hs4
          go_wp2_with fail
          go_loopw [8, 9] (fun s i wq => ∃ (gs cs m o : Nat), m ≤ M ∧ o = 64 * m ∧ i = .int .i64 (o : Int) ∧ s = .slice (some ⟨gs, 0, none⟩) 8 cs ∧ Hid (8 ≤ cs ∧ gs < wq.heap.size ∧ (∀ j, j < 8 → wq.cell? ⟨gs, j, none⟩ = some (.int .u32 (((hs K s0 P m).at j : Nat) : Int))) ∧ Below w6.heap.size w6 wq)) (fun _ i _ => L - (intOf i).toNat)
          case atStart => exact ⟨gs, cs, 0, 0, Nat.zero_le _, rfl, rfl, rfl, by omega, hgs2, HS6.out, Below.refl _ _⟩
          case round =>
            clear HS6
            obtain ⟨gt, ct, m, o, hm, ho, rfl, rfl, G3⟩ := hrel
            by_cases hlt : m < M
            · have holt : (o : Int) + 64 ≤ (L : Int) := by have := HLM.out; omega
              have Hm := Lib.hid (And.intro hlt ho)
              clear hlt hm ho
              go_wp2_with fail
              refine Calls.mono (block_walk (hs K s0 P m) (fun j => P (o + j)) gt ct gk ck gm o (cm - o) G3.out.1 hck (by omega) _ (Lib.hid (hs_ok s0_ok m)) (Lib.hid G3.out.2.2.1) (Lib.hid fun j hj => (G3.out.2.2.2.cell (p := ⟨gk, j, none⟩) (lt_of_cell (HK6.out 0 (by decide)))).trans (HK6.out j hj)) (Lib.hid (by have := (Hbm6.out.below G3.out.2.2.2).part o 64 (by omega); rwa [Nat.zero_add] at this))) ?_
              rintro _ w7 ⟨⟨gu, cu, rfl, hcu, hgu, hcells⟩, h7⟩
              obtain ⟨c7, f7, s7⟩ := bfacts h7
              try simp only [World.size_alloc, World.size_setCell, size_drew, size_drewN] at s7
              have hgu2 := lt_of_cell (hcells 0 (by decide))
              have Hcells := Lib.hid hcells
              have HB7 := Lib.hid (G3.out.2.2.2.trans (Below.mono h7 G3.out.2.2.2.size))
              clear hcells c7 f7 h7
              go_wp2_with fail
              go_roundw
              case rel =>
                refine ⟨gu, cu, m + 1, o + 64, Hm.out.1, by have := Hm.out.2; omega, by go_num, rfl, hcu, hgu2, fun j hj => ?_, HB7.out⟩
                rw [Hcells.out j hj, Hm.out.2]
                rfl
              case measure => simp [intOf]; omega
            · obtain rfl : m = M := by omega
              have hoL : (o : Int) = (L : Int) := by have := HLM.out; omega
              obtain ⟨S, eS⟩ : ∃ S, S = hs K s0 P m := ⟨_, rfl⟩
              have hcS := G3.out.2.2.1
              rw [← eS] at hcS
              have HcS := Lib.hid hcS
              have HSok : Hid S.Ok := by rw [eS]; exact hs_ok s0_ok m
              have Hgt := Lib.hid G3.out.2.1
              have HES : Hid (sumS K s0 g n = S) := by rw [eS]; exact HSum.out
              have HBe := Lib.hid (Hb6.out.trans (Below.mono G3.out.2.2.2 hs6))
              have Hout' : Hid (RowB wr w.heap.size 32 (fun _ => 0) 25) := Hout.out.below HBe.out (Nat.lt_succ_self _)
              have HBw' := Lib.hid (HBw.out.trans (Below.mono HBe.out (Nat.le_succ _)))
              have hwS : w.heap.size < wr.heap.size := Hout'.out.blk
              obtain ⟨wv, ewv⟩ : ∃ wv : World, wv = wr := ⟨_, rfl⟩
              subst ewv
              have HrowO : Hid (RowB (wv.alloc (.cells (fl (fun _ => 0) 32).toArray 25)) wv.heap.size 32 (fun _ => 0) 25) := heap_alloc_new wv _
              have hoL' : ¬ (o : Int) < (L : Int) := by omega
              have HoL := Lib.hid hoL
              clear hlt hm hcS eS ho hoL
              go_wp2_with fail
              go_loopw [11] (fun i wq => ∃ (k : Nat) (g' : Nat → Nat), k ≤ 32 ∧ i = .int .i64 (k : Int) ∧ Hid (RowB wq wv.heap.size 32 g' 25 ∧ (∀ j, g' j = if j < k then sb S j else 0) ∧ Below wv.heap.size wv wq)) (fun i _ => 32 - (intOf i).toNat)
              case atStart => exact ⟨0, fun _ => 0, by omega, rfl, HrowO.out, fun j => by rw [if_neg (Nat.not_lt_zero _)], (Below.refl _ _).alloc (Nat.le_refl _) _⟩
              case round =>
                clear HrowO
                obtain ⟨k, g', hk, rfl, G4⟩ := hrel
                by_cases hlt : k < 32
                · obtain ⟨d, ed⟩ : ∃ d, d = k / 4 := ⟨_, rfl⟩
                  obtain ⟨q, eq⟩ : ∃ q, q = k % 4 := ⟨_, rfl⟩
                  obtain ⟨X, eX⟩ : ∃ X, X = S.at d := ⟨_, rfl⟩
                  have hdk : (k : Int) / 4 = (d : Int) := by omega
                  have hwd : IntKind.i64.wrap ((k : Int) / 4) = (d : Int) := by rw [ed, IntKind.wrap_i64]; omega
                  have hd8 : (d : Int) < 8 := by omega
                  have hqk : (k : Int) % 4 = (q : Int) := by omega
                  have hq4 : (q : Int) ≤ 3 := by omega
                  have cS : wr.cell? ⟨gt, d, none⟩ = some (.int .u32 ((X : Nat) : Int)) := (G4.out.2.2.cell (p := ⟨gt, d, none⟩) Hgt.out).trans (by rw [eX]; exact HcS.out d (by omega))
                  have Hdq := Lib.hid (And.intro ed (And.intro eq eX))
                  have hXB : X < 4294967296 := by rw [eX]; exact St.at_lt HSok.out d
                  have ck' := G4.out.1.cell (j := k) hlt
                  have fk := G4.out.1.fz k
                  clear ed eq eX
                  go_wp2_with fail
                  obtain ⟨wi, ewi⟩ : ∃ wi : World, wi = wr := ⟨_, rfl⟩
                  subst ewi
                  have Hqk := Lib.hid (And.intro hqk hlt)
                  clear hlt hk hdk hwd hd8
                  go_loop [12, 13] (fun x j => ∃ t : Nat, t + q ≤ 3 ∧ j = .int .i64 ((3 : Int) - (t : Int)) ∧ x = .int .u32 ((X / 256 ^ t : Nat) : Int)) (fun _ j => (intOf j).toNat)
                  case atStart => exact ⟨0, by omega, rfl, by rw [Nat.pow_zero, Nat.div_one]⟩
                  case round =>
                    obtain ⟨t, ht, rfl, rfl⟩ := hrel
                    have hqk := Hqk.out.1
                    by_cases hlt : t + q < 3
                    · have ht3 : (q : Int) < 3 - (t : Int) := by omega
                      obtain ⟨x, ex⟩ : ∃ x, x = X / 256 ^ t := ⟨_, rfl⟩
                      rw [← ex]
                      have hxB : x < 4294967296 := by rw [ex]; exact Nat.lt_of_le_of_lt (Nat.div_le_self _ _) hXB
                      have Ex := Lib.hid ex
                      clear ex
                      go_wp2_with fail
                      go_round
                      case rel =>
                        refine ⟨t + 1, by omega, by rw [show (3 : Int) - (t : Int) - 1 = (3 : Int) - ((t + 1 : Nat) : Int) by omega], ?_⟩
                        rw [Nat.pow_succ, ← Nat.div_div_eq_div_mul, ← Ex.out]
                        rfl
                      case measure => simp [intOf]; omega
                    · have ht3 : (3 : Int) - (t : Int) = (q : Int) := by omega
                      obtain ⟨x, ex⟩ : ∃ x, x = X / 256 ^ t := ⟨_, rfl⟩
                      rw [← ex]
                      have hxB : x < 4294967296 := by rw [ex]; exact Nat.lt_of_le_of_lt (Nat.div_le_self _ _) hXB
                      have Ex := Lib.hid ex
                      have Ht := Lib.hid (show t = 3 - q by omega)
                      clear ex hlt ht
                      go_wp2_with fail
                      go_roundw
                      case rel =>
                        have hv : x % 256 = sb S k := by
                          rw [Ex.out, Ht.out, Hdq.out.2.2, Hdq.out.1]
                          unfold sb
                          rw [show (256 : Nat) ^ (3 - q) = 2 ^ (24 - 8 * (k % 4)) by rw [show (256 : Nat) = 2 ^ 8 by decide, ← Nat.pow_mul]; congr 1; have := Hdq.out.2.1; omega]
                        refine ⟨k + 1, upd g' k (x % 256), Hqk.out.2, by go_num, G4.out.1.set Hqk.out.2 (x % 256), fun j => ?_, G4.out.2.2.setCell (Nat.le_refl _) _⟩
                        unfold upd
                        by_cases e : j = k
                        · subst e
                          rw [if_pos rfl, if_pos (Nat.lt_succ_self _), hv]
                        · rw [if_neg e, G4.out.2.1 j]
                          by_cases h2 : j < k
                          · rw [if_pos h2, if_pos (by omega)]
                          · rw [if_neg h2, if_neg (by omega)]
                      case measure => have := Hqk.out.2; simp [intOf]; omega
                · obtain rfl : k = 32 := by omega
                  have HG := Lib.hid (show fl (sb S) 32 = fl g' 32 from fl_congr fun j hj => by rw [G4.out.2.1 j, if_pos hj])
                  have HoutE : Hid (RowB wr w.heap.size 32 (fun _ => 0) 25) := Hout'.out.below G4.out.2.2 hwS
                  have HBE := Lib.hid (HBw'.out.trans (Below.mono G4.out.2.2 (Nat.le_of_lt hwS)))
                  clear hlt hk
                  go_wp2_with (first
                    | (refine wpList_load_of rfl 25 (.tmp 10) rfl (.pointer (some ⟨wv.heap.size, 0, none⟩)) (.agg (fl g' 32).toArray) rfl (load_bytes (g := g') (n := 32) (fun j hj => G4.out.1.cell hj) Tryd.underlying25 (by kernel_rfl)) ?_; simp only [Act.put, List.setIfInBounds_toArray, List.set_cons_zero, List.set_cons_succ, List.tail_cons])
                    | ((with_reducible show wpList _ _ _ (⟨none, _, _, _, _, _⟩ :: []) _ _); refine wpList_store_mid rfl 25 (.tmp 2) (.tmp 82) rfl w.heap.size 0 (fl g' 32).toArray rfl rfl HoutE.out.there (info_fl (by kernel_rfl)) (fl_oneA g' 32) ?_; simp only [Act.put, List.setIfInBounds_toArray, List.set_cons_zero, List.set_cons_succ, List.tail_cons]))
                  exact bodyPost_ret (v := .agg (fl (sb (sumS K s0 g n)) 32).toArray) (by rw [HES.out, HG.out]; exact results_bytes (g := g') (b := w.heap.size) rfl rfl HoutE.out.stored Tryd.underlying25 (by kernel_rfl)) rfl ⟨rfl, below_setCells (Nat.le_refl _) _ _ _ _ HBE.out⟩
set_option maxRecDepth 100000 in
set_option maxHeartbeats 8000000 in
theorem refSum_nil  (n c : Nat) (g : Nat → Nat) (hn : n ≤ 100000) (w : World) (HS : Hid (SliceAt w none n c g)) :
    Calls Tryd.prog 12 #[.slice none n c] w fun e w' => e = .returned (.agg (fl (sb (sumS K s0 g n)) 32).toArray) ∧ Below w.heap.size w w' := by
  obtain ⟨P, eP⟩ : ∃ P, P = pd g n := ⟨_, rfl⟩
  obtain ⟨z, ez⟩ : ∃ z, z = zs n := ⟨_, rfl⟩
  obtain ⟨M, eM⟩ : ∃ M, M = blocks n := ⟨_, rfl⟩
  have hM : 64 * M = n + z + 9 := by rw [eM, ez]; exact blocks_eq n
  have hz : (n + 1 + z) % 64 = 56 := by rw [ez]; unfold zs; omega
  have hz2 : z < 64 := by rw [ez]; unfold zs; omega
  have hP : ∀ j, P j < 256 := by rw [eP]; exact pd_lt HS.out.lt n
  have hp1 : fl g n = fl P n := fl_congr fun j hj => by rw [eP]; unfold pd; rw [if_pos hj]
  have hp2 : P n = 128 := by rw [eP]; unfold pd; rw [if_neg (by omega), if_pos rfl]
  have hp3 : ∀ k, n < k → k ≤ n + z → P k = 0 := fun k h1 h2 => by rw [eP]; unfold pd; rw [if_neg (by omega), if_neg (by omega), if_pos (by omega)]
  have hp4 : ∀ j, j < 8 → P (n + 1 + z + j) = 8 * n / 256 ^ (7 - j) % 256 := fun j hj => by
    rw [eP]; unfold pd; rw [if_neg (by omega), if_neg (by omega), if_neg (by omega), show n + 1 + z + j - (n + zs n + 1) = j by omega]
  have hs : sumS K s0 g n = hs K s0 P M := by rw [eP, eM]; rfl
  have HM := Lib.hid hM
  have Hz := Lib.hid (And.intro hz hz2)
  have HP := Lib.hid hP
  have Hp1 := Lib.hid hp1
  have Hp2 := Lib.hid hp2
  have Hp3 := Lib.hid hp3
  have Hp4 := Lib.hid hp4
  have HSum := Lib.hid hs
  have Hn := Lib.hid hn
  clear eP ez eM hM hz hz2 hP hp1 hp2 hp3 hp4 hs hn
  go_enter Tryd.func12, Tryd.ntmps12
  have hst : ∀ (o : Obj) (W : World), W = (w.alloc o).alloc (.cells #[] 5) → W.ownsRow (w.heap.size + 1) 5 1 (.slice (some ⟨w.heap.size + 1, 0, none⟩) 0 0) 0 [] ∧ SliceAt W none n c g ∧ w.heap.size + 1 ≤ W.heap.size ∧ Below (w.heap.size + 1) (w.alloc o) W := fun o W e => by
    subst e
    have h1 := World.ownsRow_made (base := w.heap.size + 1) (w.alloc o) #[] 0 (e := 5) (size := 1) (by simp only [World.size_alloc]; omega) (by unfold maxLen; omega) rfl
    have hb : Below w.heap.size w ((w.alloc o).alloc (.cells #[] 5)) := ((Below.refl _ _).alloc (Nat.le_refl _) _).alloc (by simp) _
    exact ⟨by simpa only [World.size_alloc] using h1, HS.out.below hb, by simp only [World.size_alloc]; omega, (Below.refl _ _).alloc (by simp) _⟩
  have Hst := Lib.hid hst
  clear hst
  go_wp2_with (first
    | (at_builtin; refine append_bytes rfl (.tmp 14) (.tmp 15) rfl (w.heap.size + 1) (.slice (some ⟨w.heap.size + 1, 0, none⟩) 0 0) 0 [] rfl (Hst.out _ _ rfl).1 none n c g rfl (Hst.out _ _ rfl).2.1 (by have := Hn.out; omega) (Hst.out _ _ rfl).2.2.1 ?_; intro v1 w1 own1 grow1; have HB1 := Lib.hid ((Hst.out _ _ rfl).2.2.2.grown grow1 (Hst.out _ _ rfl).2.2.1 (fun k hk => by cases hk; exact Nat.le_refl _)); have Own1 := Lib.hid own1; clear own1 grow1)
    | (at_builtin; refine append_bytes rfl (.tmp 16) (.tmp 17) rfl (w.heap.size + 1) v1 _ _ rfl (Own1.out.alloc _) (some ⟨w1.heap.size, 0, none⟩) 1 1 (fun _ => 128) rfl (one_byte (by decide)) (by have := Hn.out; omega) (by have := HB1.out.size; simp only [World.size_alloc] at this ⊢; omega) ?_; intro v2 w2 own2 grow2; have HB2 := Lib.hid ((HB1.out.alloc (by have := HB1.out.size; simp only [World.size_alloc] at this ⊢; omega) _).grown grow2 (by have := HB1.out.size; simp only [World.size_alloc] at this ⊢; omega) (fun k hk => (Own1.out.lt k hk).1)); have Own2 := Lib.hid own2; clear own2 grow2 HB1 Own1))
  have Hout : Hid (RowB w2 w.heap.size 32 (fun _ => 0) 25) := (HB2.out.block w.heap.size (Nat.lt_succ_self _)).trans (heap_alloc_new w _)
  have HBw : Hid (Below w.heap.size w w2) := ((Below.refl _ _).alloc (Nat.le_refl _) _).trans (Below.mono HB2.out (Nat.le_succ _))
  have own2 := Own2.out
  rw [List.nil_append, Hp1.out, show fl (fun _ => 128) 1 = [Value.int .u8 ((P n : Nat) : Int)] by rw [Hp2.out]; rfl, ← fl_succ, Nat.zero_add] at own2
  obtain ⟨gp, cp, rfl, hgp, hgp2, hcp⟩ := row_form own2 (by omega)
  have Own := Lib.hid own2
  have hz0 := Hz.out.2
  have hn0 := Hn.out
  have hs2 : w.heap.size + 1 ≤ w2.heap.size := by have := HB2.out.size; simpa only [World.size_alloc] using this
  have Hs2 := Lib.hid hs2
  clear Hst HB2 Own2 own2 hgp hgp2 hcp hs2
  go_loopw [3] (fun v wr => ∃ (gp cp k : Nat), n + 1 ≤ k ∧ k ≤ n + 1 + z ∧ v = .slice (some ⟨gp, 0, none⟩) k cp ∧ Hid (wr.ownsRow (w.heap.size + 1) 5 1 (.slice (some ⟨gp, 0, none⟩) k cp) k (fl P k) ∧ Below (w.heap.size + 1) w2 wr)) (fun v _ => n + 1 + z - slen v)
  case atStart => exact ⟨gp, cp, n + 1, Nat.le_refl _, Nat.le_add_right _ _, rfl, Own.out, Below.refl _ _⟩
  case round =>
    clear Own
    obtain ⟨gq, cq, k, hk1, hk2, rfl, G⟩ := hrel
    by_cases hlt : k < n + 1 + z
    · have h56 : ((k : Int) % 64 == 56) = false := by have := Hz.out.1; simp; omega
      have h56' : (k : Int) % 64 ≠ 56 := by have := Hz.out.1; omega
      have hkP := Hp3.out k (by omega) (by omega)
      have HkP := Lib.hid hkP
      have Hlt := Lib.hid (And.intro hk1 hlt)
      clear hkP hlt hk1 hk2
      go_wp2_with (at_builtin; refine append_bytes rfl (.tmp 23) (.tmp 24) rfl (w.heap.size + 1) (.slice (some ⟨gq, 0, none⟩) k cq) k (fl P k) rfl (G.out.1.alloc _) (some ⟨wr.heap.size, 0, none⟩) 1 1 (fun _ => 0) rfl (one_byte (by decide)) (by have := Hlt.out; omega) (by have := G.out.2.size; have := Hs2.out; simp only [World.size_alloc]; omega) ?_; intro v3 w3 own3 grow3)
      rw [show fl (fun _ => 0) 1 = [Value.int .u8 ((P k : Nat) : Int)] by rw [HkP.out]; rfl, ← fl_succ] at own3
      obtain ⟨gr, cr, rfl, hgr, hgr2, hcr⟩ := row_form own3 (by omega)
      refine ⟨⟨gr, cr, k + 1, Nat.le_succ_of_le Hlt.out.1, Hlt.out.2, rfl, own3, ?_⟩, ?_⟩
      · exact (G.out.2.alloc (Nat.le_trans Hs2.out G.out.2.size) _).grown grow3 (by have := G.out.2.size; have := Hs2.out; simp only [World.size_alloc]; omega) (fun k hk => (G.out.1.lt k hk).1)
      · have := Hlt.out
        simp only [slen]
        omega
    · have hk : k = n + 1 + z := by omega
      have h56 : ((k : Int) % 64 != 56) = false := by have := Hz.out.1; rw [← hk] at this; simp; omega
      have Hk := Lib.hid hk
      have hk3 : (k : Int) ≤ 100065 := by omega
      have hgq := (G.out.1.lt gq rfl).2
      have HrowL : Hid (RowB (wr.alloc (.cells #[.int .u8 0, .int .u8 0, .int .u8 0, .int .u8 0, .int .u8 0, .int .u8 0, .int .u8 0, .int .u8 0] 38)) wr.heap.size 8 (lf n 0) 38) := heap_alloc_new wr _
      obtain ⟨wo, ewo⟩ : ∃ wo : World, wo = wr := ⟨_, rfl⟩
      subst ewo
      clear hk hlt hk1 hk2
      go_wp2_with fail
      go_loopw [4, 6] (fun nn i wq => ∃ t : Nat, t ≤ 8 ∧ i = .int .i64 ((7 : Int) - (t : Int)) ∧ nn = .int .u64 ((8 * n / 256 ^ t : Nat) : Int) ∧ Hid (RowB wq wo.heap.size 8 (lf n t) 38 ∧ Below wo.heap.size wo wq)) (fun _ i _ => (intOf i + 1).toNat)
      case atStart => exact ⟨0, by omega, rfl, by rw [Nat.pow_zero, Nat.div_one]; go_num, HrowL.out, (Below.refl _ _).alloc (Nat.le_refl _) _⟩
      case round =>
        clear HrowL
        obtain ⟨t, ht, rfl, rfl, G2⟩ := hrel
        by_cases hlt : t < 8
        · obtain ⟨x, ex⟩ : ∃ x, x = 8 * n / 256 ^ t := ⟨_, rfl⟩
          rw [← ex]
          have hx : x ≤ 800000 := by rw [ex]; exact Nat.le_trans (Nat.div_le_self _ _) (by have := Hn.out; omega)
          obtain ⟨d, ed⟩ : ∃ d, d = 7 - t := ⟨_, rfl⟩
          have hd1 : (7 : Int) - (t : Int) = (d : Int) := by omega
          have hd8 : (d : Int) < 8 := by omega
          have cd := G2.out.1.cell (j := d) (by omega)
          have fd := G2.out.1.fz d
          have Ex := Lib.hid ex
          have Ed := Lib.hid ed
          have Hlt := Lib.hid hlt
          clear ex ed hlt ht
          go_wp2_with fail
          go_roundw
          case rel =>
            refine ⟨t + 1, Hlt.out, ?_, ?_, lf_step (G2.out.1.set (by have := Ed.out; omega) (x % 256)) Ed.out.symm Hlt.out Ex.out, G2.out.2.setCell (Nat.le_refl _) _⟩
            · rw [show (d : Int) - 1 = (7 : Int) - ((t + 1 : Nat) : Int) by omega]
            · rw [Nat.pow_succ, ← Nat.div_div_eq_div_mul, ← Ex.out]
              rfl
          case measure => have := Hlt.out; simp only [intOf]; omega
        · obtain rfl : t = 8 := by omega
          have hi : (7 : Int) - ((8 : Nat) : Int) = -1 := by omega
          rw [hi]
          have HB8 : Hid (BytesAt wr wo.heap.size 0 8 (lf n 8)) := G2.out.1.bytes (lf_lt n 8)
          have Hown := Lib.hid (row_below G.out.1 G2.out.2)
          have HBo := Lib.hid (G.out.2.trans (Below.mono G2.out.2 (Nat.le_trans Hs2.out G.out.2.size)))
          have hsz := HBo.out.size
          have hs2 := Hs2.out
          clear hlt ht hi
          go_wp2_with (at_builtin; refine append_bytes rfl (.tmp 41) (.tmp 42) rfl (w.heap.size + 1) (.slice (some ⟨gq, 0, none⟩) k cq) k (fl P k) rfl Hown.out (some ⟨wo.heap.size, 0, none⟩) 8 8 (lf n 8) rfl ⟨lf_lt n 8, Nat.le_refl _, .inr ⟨_, rfl, fun _ => ⟨_, _, rfl, HB8.out⟩⟩⟩ (by omega) (by omega) ?_; intro v4 w4 own4 grow4)
          obtain ⟨L, eL⟩ : ∃ L, L = k + 8 := ⟨_, rfl⟩
          have hLM : L = 64 * M := by have := HM.out; have := Hk.out; omega
          have hpl : fl (lf n 8) 8 = fl (fun j => P (k + j)) 8 := fl_congr fun j hj => by
            rw [Hk.out, Hp4.out j hj]; unfold lf; rw [if_pos ⟨hj, by omega⟩]
          rw [hpl, fl_add, ← eL] at own4
          obtain ⟨gm, cm, rfl, hgm, hgm2, hcm⟩ := row_form own4 (by omega)
          have hbm := row_bytes own4 HP.out
          have hb4 : Below (w.heap.size + 1) w2 w4 := HBo.out.grown grow4 (by omega) (fun k hk => (Hown.out.lt k hk).1)
          have Hbm := Lib.hid hbm
          have Hb4 := Lib.hid hb4
          have HLM := Lib.hid hLM
          have hLb : (L : Int) ≤ 100073 := by omega
          have hcmL : (L : Int) ≤ (cm : Int) := by omega
          have hs4 : w.heap.size + 1 ≤ w4.heap.size := by have := hb4.size; omega
          clear hpl own4 grow4 hbm hb4 hLM eL HB8 Hown HBo hgm hcm G2 hsz hk3 h56
          refine Calls.mono (refK_c _) ?_
          rintro _ w5 ⟨⟨r5, rfl, hr5⟩, h5⟩
          obtain ⟨c5, f5, s5⟩ := bfacts h5
          try simp only [World.size_alloc, World.size_setCell, size_drew, size_drewN] at s5
          obtain ⟨gk, ck, rfl, hgk, hgk2, hck⟩ := row_form hr5 (by omega)
          have HK5 : Hid (∀ j, j < 64 → w5.cell? ⟨gk, j, none⟩ = some (.int .u32 ((K j : Nat) : Int))) := fun j hj => (hr5.cellAt j (by omega)).trans (ws_get _ _ j hj)
          clear hr5
          go_wp2_with fail
          refine Calls.mono (refS_c _) ?_
          rintro _ w6 ⟨⟨r6, rfl, hr6⟩, h6⟩
          obtain ⟨c6, f6, s6⟩ := bfacts h6
          try simp only [World.size_alloc, World.size_setCell, size_drew, size_drewN] at s6
          obtain ⟨gs, cs, rfl, hgs, hgs2, hcs⟩ := row_form hr6 (by omega)
          have HS6 : Hid (∀ j, j < 8 → w6.cell? ⟨gs, j, none⟩ = some (.int .u32 ((s0.at j : Nat) : Int))) := fun j hj => (hr6.cellAt j (by omega)).trans (ws_get _ _ j hj)
          have HK6 : Hid (∀ j, j < 64 → w6.cell? ⟨gk, j, none⟩ = some (.int .u32 ((K j : Nat) : Int))) := fun j hj => (h6.cell (p := ⟨gk, j, none⟩) hgk2).trans (HK5.out j hj)
          have Hbm6 : Hid (BytesAt w6 gm 0 L P) := (Hbm.out.below h5).below h6
          have Hb6 : Hid (Below (w.heap.size + 1) w2 w6) := (Hb4.out.trans (Below.mono h5 hs4)).trans (Below.mono h6 (by omega))
          have hs6 : w.heap.size + 1 ≤ w6.heap.size := by omega
          clear hr6 hgs hgk HK5 c5 c6 f5 f6 h5 h6 Hbm Hb4 hs4
          go_wp2_with fail
          go_loopw [8, 9] (fun s i wq => ∃ (gs cs m o : Nat), m ≤ M ∧ o = 64 * m ∧ i = .int .i64 (o : Int) ∧ s = .slice (some ⟨gs, 0, none⟩) 8 cs ∧ Hid (8 ≤ cs ∧ gs < wq.heap.size ∧ (∀ j, j < 8 → wq.cell? ⟨gs, j, none⟩ = some (.int .u32 (((hs K s0 P m).at j : Nat) : Int))) ∧ Below w6.heap.size w6 wq)) (fun _ i _ => L - (intOf i).toNat)
          case atStart => exact ⟨gs, cs, 0, 0, Nat.zero_le _, rfl, rfl, rfl, by omega, hgs2, HS6.out, Below.refl _ _⟩
          case round =>
            clear HS6
            obtain ⟨gt, ct, m, o, hm, ho, rfl, rfl, G3⟩ := hrel
            by_cases hlt : m < M
            · have holt : (o : Int) + 64 ≤ (L : Int) := by have := HLM.out; omega
              have Hm := Lib.hid (And.intro hlt ho)
              clear hlt hm ho
              go_wp2_with fail
              refine Calls.mono (block_walk (hs K s0 P m) (fun j => P (o + j)) gt ct gk ck gm o (cm - o) G3.out.1 hck (by omega) _ (Lib.hid (hs_ok s0_ok m)) (Lib.hid G3.out.2.2.1) (Lib.hid fun j hj => (G3.out.2.2.2.cell (p := ⟨gk, j, none⟩) (lt_of_cell (HK6.out 0 (by decide)))).trans (HK6.out j hj)) (Lib.hid (by have := (Hbm6.out.below G3.out.2.2.2).part o 64 (by omega); rwa [Nat.zero_add] at this))) ?_
              rintro _ w7 ⟨⟨gu, cu, rfl, hcu, hgu, hcells⟩, h7⟩
              obtain ⟨c7, f7, s7⟩ := bfacts h7
              try simp only [World.size_alloc, World.size_setCell, size_drew, size_drewN] at s7
              have hgu2 := lt_of_cell (hcells 0 (by decide))
              have Hcells := Lib.hid hcells
              have HB7 := Lib.hid (G3.out.2.2.2.trans (Below.mono h7 G3.out.2.2.2.size))
              clear hcells c7 f7 h7
              go_wp2_with fail
              go_roundw
              case rel =>
                refine ⟨gu, cu, m + 1, o + 64, Hm.out.1, by have := Hm.out.2; omega, by go_num, rfl, hcu, hgu2, fun j hj => ?_, HB7.out⟩
                rw [Hcells.out j hj, Hm.out.2]
                rfl
              case measure => simp [intOf]; omega
            · obtain rfl : m = M := by omega
              have hoL : (o : Int) = (L : Int) := by have := HLM.out; omega
              obtain ⟨S, eS⟩ : ∃ S, S = hs K s0 P m := ⟨_, rfl⟩
              have hcS := G3.out.2.2.1
              rw [← eS] at hcS
              have HcS := Lib.hid hcS
              have HSok : Hid S.Ok := by rw [eS]; exact hs_ok s0_ok m
              have Hgt := Lib.hid G3.out.2.1
              have HES : Hid (sumS K s0 g n = S) := by rw [eS]; exact HSum.out
              have HBe := Lib.hid (Hb6.out.trans (Below.mono G3.out.2.2.2 hs6))
              have Hout' : Hid (RowB wr w.heap.size 32 (fun _ => 0) 25) := Hout.out.below HBe.out (Nat.lt_succ_self _)
              have HBw' := Lib.hid (HBw.out.trans (Below.mono HBe.out (Nat.le_succ _)))
              have hwS : w.heap.size < wr.heap.size := Hout'.out.blk
              obtain ⟨wv, ewv⟩ : ∃ wv : World, wv = wr := ⟨_, rfl⟩
              subst ewv
              have HrowO : Hid (RowB (wv.alloc (.cells (fl (fun _ => 0) 32).toArray 25)) wv.heap.size 32 (fun _ => 0) 25) := heap_alloc_new wv _
              have hoL' : ¬ (o : Int) < (L : Int) := by omega
              have HoL := Lib.hid hoL
              clear hlt hm hcS eS ho hoL
              go_wp2_with fail
              go_loopw [11] (fun i wq => ∃ (k : Nat) (g' : Nat → Nat), k ≤ 32 ∧ i = .int .i64 (k : Int) ∧ Hid (RowB wq wv.heap.size 32 g' 25 ∧ (∀ j, g' j = if j < k then sb S j else 0) ∧ Below wv.heap.size wv wq)) (fun i _ => 32 - (intOf i).toNat)
              case atStart => exact ⟨0, fun _ => 0, by omega, rfl, HrowO.out, fun j => by rw [if_neg (Nat.not_lt_zero _)], (Below.refl _ _).alloc (Nat.le_refl _) _⟩
              case round =>
                clear HrowO
                obtain ⟨k, g', hk, rfl, G4⟩ := hrel
                by_cases hlt : k < 32
                · obtain ⟨d, ed⟩ : ∃ d, d = k / 4 := ⟨_, rfl⟩
                  obtain ⟨q, eq⟩ : ∃ q, q = k % 4 := ⟨_, rfl⟩
                  obtain ⟨X, eX⟩ : ∃ X, X = S.at d := ⟨_, rfl⟩
                  have hdk : (k : Int) / 4 = (d : Int) := by omega
                  have hwd : IntKind.i64.wrap ((k : Int) / 4) = (d : Int) := by rw [ed, IntKind.wrap_i64]; omega
                  have hd8 : (d : Int) < 8 := by omega
                  have hqk : (k : Int) % 4 = (q : Int) := by omega
                  have hq4 : (q : Int) ≤ 3 := by omega
                  have cS : wr.cell? ⟨gt, d, none⟩ = some (.int .u32 ((X : Nat) : Int)) := (G4.out.2.2.cell (p := ⟨gt, d, none⟩) Hgt.out).trans (by rw [eX]; exact HcS.out d (by omega))
                  have Hdq := Lib.hid (And.intro ed (And.intro eq eX))
                  have hXB : X < 4294967296 := by rw [eX]; exact St.at_lt HSok.out d
                  have ck' := G4.out.1.cell (j := k) hlt
                  have fk := G4.out.1.fz k
                  clear ed eq eX
                  go_wp2_with fail
                  obtain ⟨wi, ewi⟩ : ∃ wi : World, wi = wr := ⟨_, rfl⟩
                  subst ewi
                  have Hqk := Lib.hid (And.intro hqk hlt)
                  clear hlt hk hdk hwd hd8
                  go_loop [12, 13] (fun x j => ∃ t : Nat, t + q ≤ 3 ∧ j = .int .i64 ((3 : Int) - (t : Int)) ∧ x = .int .u32 ((X / 256 ^ t : Nat) : Int)) (fun _ j => (intOf j).toNat)
                  case atStart => exact ⟨0, by omega, rfl, by rw [Nat.pow_zero, Nat.div_one]⟩
                  case round =>
                    obtain ⟨t, ht, rfl, rfl⟩ := hrel
                    have hqk := Hqk.out.1
                    by_cases hlt : t + q < 3
                    · have ht3 : (q : Int) < 3 - (t : Int) := by omega
                      obtain ⟨x, ex⟩ : ∃ x, x = X / 256 ^ t := ⟨_, rfl⟩
                      rw [← ex]
                      have hxB : x < 4294967296 := by rw [ex]; exact Nat.lt_of_le_of_lt (Nat.div_le_self _ _) hXB
                      have Ex := Lib.hid ex
                      clear ex
                      go_wp2_with fail
                      go_round
                      case rel =>
                        refine ⟨t + 1, by omega, by rw [show (3 : Int) - (t : Int) - 1 = (3 : Int) - ((t + 1 : Nat) : Int) by omega], ?_⟩
                        rw [Nat.pow_succ, ← Nat.div_div_eq_div_mul, ← Ex.out]
                        rfl
                      case measure => simp [intOf]; omega
                    · have ht3 : (3 : Int) - (t : Int) = (q : Int) := by omega
                      obtain ⟨x, ex⟩ : ∃ x, x = X / 256 ^ t := ⟨_, rfl⟩
                      rw [← ex]
                      have hxB : x < 4294967296 := by rw [ex]; exact Nat.lt_of_le_of_lt (Nat.div_le_self _ _) hXB
                      have Ex := Lib.hid ex
                      have Ht := Lib.hid (show t = 3 - q by omega)
                      clear ex hlt ht
                      go_wp2_with fail
                      go_roundw
                      case rel =>
                        have hv : x % 256 = sb S k := by
                          rw [Ex.out, Ht.out, Hdq.out.2.2, Hdq.out.1]
                          unfold sb
                          rw [show (256 : Nat) ^ (3 - q) = 2 ^ (24 - 8 * (k % 4)) by rw [show (256 : Nat) = 2 ^ 8 by decide, ← Nat.pow_mul]; congr 1; have := Hdq.out.2.1; omega]
                        refine ⟨k + 1, upd g' k (x % 256), Hqk.out.2, by go_num, G4.out.1.set Hqk.out.2 (x % 256), fun j => ?_, G4.out.2.2.setCell (Nat.le_refl _) _⟩
                        unfold upd
                        by_cases e : j = k
                        · subst e
                          rw [if_pos rfl, if_pos (Nat.lt_succ_self _), hv]
                        · rw [if_neg e, G4.out.2.1 j]
                          by_cases h2 : j < k
                          · rw [if_pos h2, if_pos (by omega)]
                          · rw [if_neg h2, if_neg (by omega)]
                      case measure => have := Hqk.out.2; simp [intOf]; omega
                · obtain rfl : k = 32 := by omega
                  have HG := Lib.hid (show fl (sb S) 32 = fl g' 32 from fl_congr fun j hj => by rw [G4.out.2.1 j, if_pos hj])
                  have HoutE : Hid (RowB wr w.heap.size 32 (fun _ => 0) 25) := Hout'.out.below G4.out.2.2 hwS
                  have HBE := Lib.hid (HBw'.out.trans (Below.mono G4.out.2.2 (Nat.le_of_lt hwS)))
                  clear hlt hk
                  go_wp2_with (first
                    | (refine wpList_load_of rfl 25 (.tmp 10) rfl (.pointer (some ⟨wv.heap.size, 0, none⟩)) (.agg (fl g' 32).toArray) rfl (load_bytes (g := g') (n := 32) (fun j hj => G4.out.1.cell hj) Tryd.underlying25 (by kernel_rfl)) ?_; simp only [Act.put, List.setIfInBounds_toArray, List.set_cons_zero, List.set_cons_succ, List.tail_cons])
                    | ((with_reducible show wpList _ _ _ (⟨none, _, _, _, _, _⟩ :: []) _ _); refine wpList_store_mid rfl 25 (.tmp 2) (.tmp 82) rfl w.heap.size 0 (fl g' 32).toArray rfl rfl HoutE.out.there (info_fl (by kernel_rfl)) (fl_oneA g' 32) ?_; simp only [Act.put, List.setIfInBounds_toArray, List.set_cons_zero, List.set_cons_succ, List.tail_cons]))
                  exact bodyPost_ret (v := .agg (fl (sb (sumS K s0 g n)) 32).toArray) (by rw [HES.out, HG.out]; exact results_bytes (g := g') (b := w.heap.size) rfl rfl HoutE.out.stored Tryd.underlying25 (by kernel_rfl)) rfl ⟨rfl, below_setCells (Nat.le_refl _) _ _ _ _ HBE.out⟩
theorem refSum_c (a : Option Addr) (n c : Nat) (g : Nat → Nat) (hn : n ≤ 100000) (w : World) (h : SliceAt w a n c g) :
    Calls Tryd.prog 12 #[.slice a n c] w fun e w' => e = .returned (.agg (fl (sb (sumS K s0 g n)) 32).toArray) ∧ Below w.heap.size w w' := by
  cases a with
  | none => exact refSum_nil n c g hn w (Lib.hid h)
  | some ad => exact refSum_walk ad n c g hn w (Lib.hid h)
end Go.Proofs.YtdaggankfokloaaDoor
