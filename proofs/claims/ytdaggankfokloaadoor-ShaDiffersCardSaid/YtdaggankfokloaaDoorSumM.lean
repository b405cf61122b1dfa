/- The contract of the method Sum. -/
import Derived.Test.YtdaggankfokloaaDoorCloneH
import Derived.Laws.MakeOwn
namespace Go.Proofs.YtdaggankfokloaaDoor
set_option linter.all false
open Go Go.RowKit

/-- Block b is the bytes g and nothing else. -/
def RowB (w : World) (b n : Nat) (g : Nat → Nat) (T : TypeId) : Prop := w.heap[b]? = some (.cells (fl g n).toArray T (0, 0))
theorem RowB.cell {w : World} {b n : Nat} {g : Nat → Nat} {T : TypeId} (h : RowB w b n g T) {j : Nat} (hj : j < n) : w.cell? ⟨b, j, none⟩ = some (.int .u8 ((g j : Nat) : Int)) := by
  rw [cell_of_row w b j _ _ _ h, List.getElem?_toArray]; exact fl_get g n j hj
theorem RowB.fz {w : World} {b n : Nat} {g : Nat → Nat} {T : TypeId} (h : RowB w b n g T) (j : Nat) : w.frozen? ⟨b, j, none⟩ = false := frozen_of_row w b j _ _ h
theorem RowB.blk {w : World} {b n : Nat} {g : Nat → Nat} {T : TypeId} (h : RowB w b n g T) : b < w.heap.size := (Array.getElem?_eq_some_iff.1 h).1
theorem fl_set (g : Nat → Nat) (n i v : Nat) (hi : i < n) : (fl g n).set i (.int .u8 ((v : Nat) : Int)) = fl (upd g i v) n := by
  apply List.ext_getElem?
  intro j
  by_cases hj : j < n
  · rw [fl_get _ n j hj, List.getElem?_set]
    unfold upd
    by_cases e : i = j
    · subst e; rw [if_pos rfl, if_pos (by rw [fl_len]; exact hi), if_pos rfl]
    · rw [if_neg e, if_neg (fun q => e q.symm), fl_get g n j hj]
  · rw [List.getElem?_eq_none (by rw [List.length_set, fl_len]; omega), List.getElem?_eq_none (by rw [fl_len]; omega)]
theorem RowB.set {w : World} {b n i : Nat} {g : Nat → Nat} {T : TypeId} (h : RowB w b n g T) (hi : i < n) (v : Nat) : RowB (w.setCell ⟨b, i, none⟩ (.int .u8 ((v : Nat) : Int))) b n (upd g i v) T := by
  unfold RowB
  rw [heap_setCell_same w b i _ T _ h, List.setIfInBounds_toArray, fl_set g n i v hi]
theorem RowB.below {w w' : World} {C b n : Nat} {g : Nat → Nat} {T : TypeId} (h : RowB w b n g T) (hb : Below C w w') (hC : b < C) : RowB w' b n g T := (hb.block b hC).trans h
theorem RowB.bytes {w : World} {b n : Nat} {g : Nat → Nat} {T : TypeId} (h : RowB w b n g T) (hg : ∀ j, g j < 256) : BytesAt w b 0 n g := ⟨hg, h.blk, fun j hj => by rw [Nat.zero_add]; exact h.cell hj⟩

theorem load_bytes {w : World} {b n : Nat} {g : Nat → Nat} {ty e : TypeId} {m : Nat} (h : ∀ j, j < n → w.cell? ⟨b, j, none⟩ = some (.int .u8 ((g j : Nat) : Int))) (hu : Tryd.prog.underlying ty = some (.array m e))
    (hi : (Tryd.prog.info? ty).map (·.size) = some n) : (Instr.loadAt ty (.pointer (some ⟨b, 0, none⟩))).run Tryd.prog w = .ok (.agg (fl g n).toArray) w := by
  have := run_loadVar_at (P := Tryd.prog) w ⟨b, 0, none⟩ ty e m (fl g n) (fun j v hj => by
    have hjn : j < n := by
      have := (List.getElem?_eq_some_iff.1 hj).1
      rwa [fl_len] at this
    rw [fl_get g n j hjn] at hj
    cases hj
    have e : (⟨b, 0, none⟩ : Addr).add j = ⟨b, 0 + j, none⟩ := by unfold Addr.add; split <;> simp_all
    rw [e, Nat.zero_add]
    exact h j hjn) hu (by rw [fl_len]; exact hi)
  simp only [Instr.loadAt, Instr.sureAddr, Sem.run_bind, Sem.run_pure, Result.andThen_ok, this]
theorem RowB.there {w : World} {b n : Nat} {g g' : Nat → Nat} {T : TypeId} (h : RowB w b n g T) : w.there b 0 (fl g' n).toArray.size := by
  rw [List.size_toArray, fl_len]
  exact fun j hj => by rw [Nat.zero_add]; exact ⟨by rw [h.cell hj]; rfl, h.fz j⟩
theorem info_fl {ty : TypeId} {n : Nat} {g : Nat → Nat} (hi : (Tryd.prog.info? ty).map (·.size) = some n) : (Tryd.prog.info? ty).map (·.size) = some (fl g n).toArray.size := by rw [List.size_toArray, fl_len]; exact hi
theorem fl_oneA (g : Nat → Nat) (n : Nat) : (fl g n).toArray.all (·.oneCell') = true := all_oneCell_toArray (fl_one g n)
theorem RowB.stored {w : World} {b n : Nat} {g g' : Nat → Nat} {T : TypeId} (h : RowB w b n g T) : ∀ j, j < n → (w.setCells b 0 (fl g' n)).cell? ⟨b, j, none⟩ = some (.int .u8 ((g' j : Nat) : Int)) := fun j hj => by
  have := World.rangeAt_setCells_same w b 0 (fl g' n) (by have := h.there (g' := g'); rwa [List.size_toArray] at this) j _ (fl_get g' n j hj)
  rwa [Nat.zero_add] at this
theorem results_bytes {fn : Func} {x : Tmp} {ty e : TypeId} {m n b : Nat} {g : Nat → Nat} {w : World} {tmps : Array Value} (hr : fn.results = #[.cell x ty]) (hx : tmps.getD x undef = .pointer (some ⟨b, 0, none⟩)) (h : ∀ j, j < n → w.cell? ⟨b, j, none⟩ = some (.int .u8 ((g j : Nat) : Int)))
    (hu : Tryd.prog.underlying ty = some (.array m e)) (hi : (Tryd.prog.info? ty).map (·.size) = some n) : (results fn tmps).run Tryd.prog w = .ok (.agg (fl g n).toArray) w := by
  have hl := load_bytes h hu hi
  simp only [Instr.loadAt, Instr.sureAddr, Sem.run_bind, Sem.run_pure, Result.andThen_ok] at hl
  have hx' : tmps[x]?.getD undef = .pointer (some ⟨b, 0, none⟩) := by simpa using hx
  simp [results, hr, hx', Sem.run_bind, asAddr, hl]

/-- The tail: the mark, zeros, the length; i of the length's bytes are laid. -/
def tl (n L i j : Nat) : Nat := if j = 0 then 128 else if L ≤ j + i then 8 * n / 256 ^ (L - 1 - j) % 256 else 0

theorem tl_start {w : World} {b n L : Nat} {T : TypeId} (h : RowB w b L (upd (fun _ => 0) 0 128) T) (hL : 9 ≤ L) : RowB w b L (tl n L 0) T := by
  unfold RowB at *
  rw [← fl_congr (f := upd (fun _ => 0) 0 128) (g := tl n L 0) (n := L) (fun j hj => by unfold upd tl; by_cases e : j = 0 <;> simp [e]; omega)]
  exact h
theorem tl_lt (n L i j : Nat) : tl n L i j < 256 := by
  unfold tl
  split
  · decide
  · split
    · exact Nat.mod_lt _ (by decide)
    · decide
theorem tl_step {w : World} {b n L k x : Nat} {T : TypeId} (h : RowB w b L (upd (tl n L k) x (8 * n / 256 ^ k % 256)) T) (hx : x = L - 1 - k) (hL : 9 ≤ L) (hk : k < 8) : RowB w b L (tl n L (k + 1)) T := by
  unfold RowB at *
  rw [← fl_congr (f := upd (tl n L k) x (8 * n / 256 ^ k % 256)) (g := tl n L (k + 1)) (n := L) (fun j hj => ?_)]
  · exact h
  · unfold upd tl
    by_cases e : j = x
    · subst e
      rw [if_pos rfl, if_neg (by omega), if_pos (by omega), show L - 1 - j = k by omega]
    · rw [if_neg e]
      by_cases e0 : j = 0
      · rw [if_pos e0, if_pos e0]
      · rw [if_neg e0, if_neg e0]
        by_cases e1 : L ≤ j + k
        · rw [if_pos e1, if_pos (by omega)]
        · rw [if_neg e1, if_neg (by omega)]
theorem len_val (n k : Nat) : ((n : Nat) : Int) * 8 / 2 ^ (8 * k) % 256 = ((8 * n / 256 ^ k % 256 : Nat) : Int) := by
  have e : (2 : Nat) ^ (8 * k) = 256 ^ k := by rw [Nat.pow_mul]
  rw [← e, show ((2 : Int) ^ (8 * k)) = ((2 ^ (8 * k) : Nat) : Int) from (Int.natCast_pow 2 _).symm, Nat.mul_comm 8 n]
  generalize 2 ^ (8 * k) = m
  rfl
/-- The padded message. -/
theorem sum_state (f : Nat → Nat) (n L : Nat) {z : Nat} (hz : z = zs n) (hL : L = z + 9) : sumS K s0 f n = hs K s0 (cat f n (tl n L 8)) ((n + L) / 64) := by
  have hb := blocks_eq n
  have e : (n + L) / 64 = blocks n := by omega
  rw [e]
  unfold sumS
  refine hs_congr _ fun j hj => ?_
  unfold pd cat tl
  by_cases h1 : j < n
  · rw [if_pos h1, if_pos h1]
  · rw [if_neg h1, if_neg h1]
    by_cases h2 : j = n
    · rw [if_pos h2, if_pos (show j - n = 0 by omega)]
    · rw [if_neg h2, if_neg (show ¬ j - n = 0 by omega)]
      by_cases h3 : j ≤ n + zs n
      · rw [if_pos h3, if_neg (show ¬ L ≤ j - n + 8 by omega)]
      · rw [if_neg h3, if_pos (show L ≤ j - n + 8 by omega), show 7 - (j - (n + zs n + 1)) = L - 1 - (j - n) by omega]
theorem sb_val (x t : Nat) : ((x : Nat) : Int) / 2 ^ t % 256 = ((x / 2 ^ t % 256 : Nat) : Int) := by
  rw [show ((2 : Int) ^ t) = ((2 ^ t : Nat) : Int) from (Int.natCast_pow 2 _).symm]
  generalize 2 ^ t = m
  rfl
theorem made_fl (L : Nat) : madeCells #[.int .u8 0] L = (fl (fun _ => 0) L).toArray := by
  rw [← Array.toArray_toList (xs := madeCells #[.int .u8 0] L), toList_madeCells_one]
  congr 1
  unfold fl
  rw [List.map_const', List.length_range]
  rfl
theorem run_makeL (L : Nat) (hL : L ≤ 1000) (w : World) : (Instr.makeSlice 22 (.int .i64 (L : Int)) (.int .i64 (L : Int))).run Tryd.prog w = .ok (.slice (some ⟨w.heap.size, 0, none⟩) L L) (w.alloc (.cells (fl (fun _ => 0) L).toArray 5)) := by
  obtain ⟨i0, hi, hz0, hz1, hz2⟩ := info_parts infoByte
  have hr := run_make (P := Tryd.prog) w 22 5 i0 (.int .u8 0) Tryd.underlying22 hi hz0 .i64 .i64 (L : Int) (L : Int) (by omega) (Int.le_refl _) (by rw [hz2]; omega) (by omega)
  rw [hz1] at hr
  simp only [Int.toNat_natCast, Nat.mul_one] at hr
  rw [← made_fl]
  exact hr

set_option maxRecDepth 100000 in
set_option maxHeartbeats 8000000 in
theorem sum_walk (C p n : Nat) (f : Nat → Nat) (hn : n ≤ 100000) (w : World) (HL : Hid (Laid w)) (H : Hid (HashAt w C p f n)) :
    Calls Tryd.prog 16 #[.pointer (some ⟨p, 0, none⟩)] w fun e w' => e = .returned (.agg (fl (sb (sumS K s0 f n)) 32).toArray) ∧ Below w.heap.size w w' := by
  obtain ⟨m, em⟩ : ∃ m, m = n % 64 := ⟨_, rfl⟩
  obtain ⟨z, ez⟩ : ∃ z, z = zs n := ⟨_, rfl⟩
  obtain ⟨L, eL⟩ : ∃ L, L = z + 9 := ⟨_, rfl⟩
  have hz : ((119 : Int) - (m : Int)) % 64 = (z : Int) := by rw [em, ez]; unfold zs; omega
  have hz64 : (z : Int) < 64 := by rw [ez]; unfold zs; omega
  have hm64 : (m : Int) < 64 := by omega
  have hL1 : (1 : Int) + (z : Int) + 8 = (L : Int) := by omega
  have hL0 : (0 : Int) < (L : Int) := by omega
  have hL2 : Hid (9 ≤ L ∧ L ≤ 72) := ⟨by omega, by rw [eL, ez]; unfold zs; omega⟩
  have hmk := run_makeL L (by have := hL2.out; omega)
  have Em := Lib.hid em
  have Ez := Lib.hid ez
  have EL := Lib.hid eL
  have Hn := Lib.hid hn
  clear hn ez eL
  go_enter Tryd.func16, Tryd.ntmps16
  go_wp2_with fail
  refine Calls.mono (cloneH_c C p n f (by have := Hn.out; omega) _ (H.out.kept (by repeat first | with_reducible exact Below.refl _ _ | with_reducible refine Below.drew ?_ | with_reducible refine below_dN ?_ | with_reducible refine Below.alloc ?_ (by first | omega | (simp; done) | (simp; omega)) _ | with_reducible refine Below.setCell ?_ (by first | omega | (simp; done) | (simp; omega)) _ | with_reducible refine Below.trans ?_ (Below.mono (by assumption) (by first | omega | (simp; done) | (simp; omega)))))) ?_
  rintro _ w1 ⟨⟨q, rfl, hq⟩, h1⟩
  obtain ⟨c1, f1, s1⟩ := bfacts h1
  try simp only [World.size_alloc, World.size_setCell, size_drew, size_drewN] at s1
  obtain ⟨r, hr, hown, hrp⟩ := hq.rest
  obtain ⟨ra, rc, rfl⟩ := row_slice2 hown
  rw [← em] at hr
  have Hq := Lib.hid hq
  have HL1 := Lib.hid (HL.out.step (show Below w.heap.size w w1 from (by repeat first | with_reducible exact Below.refl _ _ | with_reducible refine Below.drew ?_ | with_reducible refine below_dN ?_ | with_reducible refine Below.alloc ?_ (by first | omega | (simp; done) | (simp; omega)) _ | with_reducible refine Below.setCell ?_ (by first | omega | (simp; done) | (simp; omega)) _ | with_reducible refine Below.trans ?_ (Below.mono (by assumption) (by first | omega | (simp; done) | (simp; omega))))))
  have HB1 := Lib.hid (show Below w.heap.size w w1 from (by repeat first | with_reducible exact Below.refl _ _ | with_reducible refine Below.drew ?_ | with_reducible refine below_dN ?_ | with_reducible refine Below.alloc ?_ (by first | omega | (simp; done) | (simp; omega)) _ | with_reducible refine Below.setCell ?_ (by first | omega | (simp; done) | (simp; omega)) _ | with_reducible refine Below.trans ?_ (Below.mono (by assumption) (by first | omega | (simp; done) | (simp; omega)))))
  have Hp1 := Lib.hid (H.out.kept (show Below w.heap.size w w1 from (by repeat first | with_reducible exact Below.refl _ _ | with_reducible refine Below.drew ?_ | with_reducible refine below_dN ?_ | with_reducible refine Below.alloc ?_ (by first | omega | (simp; done) | (simp; omega)) _ | with_reducible refine Below.setCell ?_ (by first | omega | (simp; done) | (simp; omega)) _ | with_reducible refine Below.trans ?_ (Below.mono (by assumption) (by first | omega | (simp; done) | (simp; omega))))))
  have hout := Lib.hid ((h1.block w.heap.size (by simp only [World.size_alloc]; omega)).trans (heap_alloc_new w _))
  have lw : w.heap.size < w1.heap.size := by omega
  clear hq hown hrp em h1 c1 f1
  have hrow0 : RowB (w1.alloc (.cells (fl (fun _ => 0) L).toArray 5)) w1.heap.size L (fun _ => 0) 5 := heap_alloc_new w1 _
  have hc0 := hrow0.cell (j := 0) (by have := hL2.out; omega)
  have hf0 := hrow0.fz 0
  have Hrow1 : Hid (RowB (w1.alloc (.cells ((fl (fun _ => 0) L).set 0 (.int .u8 128)).toArray 5)) w1.heap.size L (upd (fun _ => 0) 0 128) 5) := by
    have e := fl_set (fun _ => 0) L 0 128 (by have := hL2.out; omega)
    show (w1.alloc _).heap[w1.heap.size]? = some (.cells (fl (upd (fun _ => 0) 0 128) L).toArray _ (0, 0))
    rw [← e]
    exact heap_alloc_new w1 _
  have HBt := Lib.hid (show Below w1.heap.size w1 (w1.alloc (.cells ((fl (fun _ => 0) L).set 0 (.int .u8 128)).toArray 5)) from (Below.refl _ _).alloc (Nat.le_refl _) _)
  clear hrow0
  go_wp2_with fail
  go_loopw [26] (fun i wr => ∃ k : Nat, k ≤ 8 ∧ i = .int .i64 (k : Int) ∧ Hid (RowB wr w1.heap.size L (tl n L k) 5 ∧ Below w1.heap.size w1 wr)) (fun i _ => 8 - (intOf i).toNat)
  case atStart => exact ⟨0, by omega, rfl, tl_start Hrow1.out hL2.out.1, HBt.out⟩
  case round =>
    obtain ⟨k, hk, rfl, G⟩ := hrel
    by_cases hlt : k < 8
    · obtain ⟨x, ex⟩ : ∃ x, x = L - 1 - k := ⟨_, rfl⟩
      have hx1 : (L : Int) - 1 - (k : Int) = (x : Int) := by have := hL2.out; omega
      have hxL : (x : Int) < (L : Int) := by have := hL2.out; omega
      have cx := G.out.1.cell (j := x) (by have := hL2.out; omega)
      have fx := G.out.1.fz x
      have hlen := (Hp1.out.kept G.out.2).len
      have hn8 : (n : Int) ≤ 100000 := by have := Hn.out; omega
      have Ex := Lib.hid ex
      clear ex
      go_wp2_with fail
      go_roundw
      case rel =>
        rw [len_val n k]
        exact ⟨k + 1, by omega, by go_num, tl_step (G.out.1.set (i := x) (by have := hL2.out; omega) _) Ex.out (by have := hL2.out; omega) hlt, G.out.2.setCell (Nat.le_refl _) _⟩
      case measure => simp [intOf]; omega
    · obtain rfl : k = 8 := by omega
      clear hlt hk
      have hg1 : 1 < w.heap.size := lt_of_cell (HL.out.k 0 (by decide))
      have hg2 : 0 < w.heap.size := lt_of_cell (HL.out.s 0 (by decide))
      have hqo : w.heap.size + 1 ≤ q := by have := Hq.out.own; simpa only [World.size_alloc] using this
      have hwr := write_c (w.heap.size + 1) q n L L (some ⟨w1.heap.size, 0, none⟩) f (tl n L 8) (by have := hL2.out; have := Hn.out; omega) wr (HL1.out.step G.out.2) (by have := Hq.out.kept G.out.2; simpa only [World.size_alloc] using this)
        ⟨tl_lt n L 8, Nat.le_refl _, .inr ⟨_, rfl, fun _ => ⟨w1.heap.size, 0, rfl, G.out.1.bytes (tl_lt n L 8)⟩⟩⟩ (fun _ ad e => by cases e; have := Hq.out.blk; show w1.heap.size ≠ q; omega) (by omega) (by omega)
      go_wp2_with fail
      refine Calls.mono hwr ?_
      rintro _ w2 ⟨rfl, hh, _, hW⟩
      obtain ⟨r1, hr1, ho1, hne1⟩ := (Hq.out.kept G.out.2).rest
      have hb2 : Below (w.heap.size + 1) wr w2 := (hW _ hr1).below hqo (by have := G.out.2.size; omega) (fun k hk => by have := (ho1.lt k hk).1; simpa only [World.size_alloc] using this)
      have Hout : Hid (RowB w2 w.heap.size 32 (fun _ => 0) 25) := (hb2.block _ (Nat.lt_succ_self _)).trans ((G.out.2.block _ lw).trans hout.out)
      have HB2 := Lib.hid ((HB1.out.trans (Below.mono G.out.2 (Nat.le_of_lt lw))).trans (Below.mono hb2 (Nat.le_succ _)))
      obtain ⟨S, eS⟩ : ∃ S, S = sumS K s0 f n := ⟨_, rfl⟩
      have HS : Hid (∀ j, j < 8 → w2.cell? ⟨q, j, none⟩ = some (.int .u32 ((S.at j : Nat) : Int))) := fun j hj => by
        rw [eS, sum_state f n L Ez.out EL.out]
        exact hh.st j hj
      have HSl : Hid (S.Ok) := by rw [eS]; exact hs_ok s0_ok _
      have ES := Lib.hid eS
      clear hwr hh hW hr1 ho1 hne1 hb2 eS
      go_wp2_with fail
      go_loopw [50] (fun i wr => ∃ (k : Nat) (g : Nat → Nat), k ≤ 32 ∧ i = .int .i64 (k : Int) ∧ Hid (RowB wr w.heap.size 32 g 25 ∧ (∀ j, g j = if j < k then sb S j else 0) ∧ (∀ j, j < 8 → wr.cell? ⟨q, j, none⟩ = some (.int .u32 ((S.at j : Nat) : Int))) ∧ Below w.heap.size w wr)) (fun i _ => 32 - (intOf i).toNat)
      case atStart => exact ⟨0, fun _ => 0, by omega, rfl, Hout.out, fun j => by rw [if_neg (Nat.not_lt_zero _)], HS.out, HB2.out⟩
      case round =>
        obtain ⟨k, g, hk, rfl, G2⟩ := hrel
        by_cases hlt : k < 32
        · obtain ⟨d, ed⟩ : ∃ d, d = k / 4 := ⟨_, rfl⟩
          obtain ⟨t, et⟩ : ∃ t, t = 24 - 8 * (k % 4) := ⟨_, rfl⟩
          have hwd : IntKind.i64.wrap ((k : Int) / 4) = (d : Int) := by rw [ed, IntKind.wrap_i64]; omega
          have hd8 : (d : Int) < 8 := by omega
          have ht : (24 : Int) - 8 * ((k : Int) % 4) = (t : Int) := by omega
          have cS := G2.out.2.2.1 d (by omega)
          have ck := G2.out.1.cell (j := k) hlt
          have fk := G2.out.1.fz k
          have Ed := Lib.hid ed
          have Et := Lib.hid et
          clear ed et
          go_wp2_with fail
          go_roundw
          case rel =>
            rw [sb_val (S.at d) t]
            refine ⟨k + 1, upd g k (S.at d / 2 ^ t % 256), by omega, by go_num, G2.out.1.set hlt _, fun j => ?_, fun j hj => ?_, G2.out.2.2.2.setCell (Nat.le_refl _) _⟩
            · unfold upd
              by_cases e : j = k
              · subst e
                rw [if_pos rfl, if_pos (Nat.lt_succ_self _), Ed.out, Et.out]
                rfl
              · rw [if_neg e, G2.out.2.1 j]
                by_cases h : j < k
                · rw [if_pos h, if_pos (by omega)]
                · rw [if_neg h, if_neg (by omega)]
            · exact (World.cell?_setCell_other (w := wr) (v := .int .u8 ((S.at d / 2 ^ t % 256 : Nat) : Int)) (a := ⟨w.heap.size, k, none⟩) (b := ⟨q, j, none⟩) (fun e => by injection e with e1 _; omega)).trans (G2.out.2.2.1 j hj)
          case measure => simp [intOf]; omega
        · obtain rfl : k = 32 := by omega
          clear hlt hk
          have E := Lib.hid (show fl (sb (sumS K s0 f n)) 32 = fl g 32 from fl_congr fun j hj => by rw [G2.out.2.1 j, if_pos hj, ES.out])
          go_wp2_with (first
            | (refine wpList_load_of rfl 25 (.tmp 2) rfl (.pointer (some ⟨w.heap.size, 0, none⟩)) (.agg (fl g 32).toArray) rfl (load_bytes (g := g) (n := 32) (fun j hj => G2.out.1.cell hj) Tryd.underlying25 (by kernel_rfl)) ?_; simp only [Act.put, List.setIfInBounds_toArray, List.set_cons_zero, List.set_cons_succ, List.tail_cons])
            | ((with_reducible show wpList _ _ _ (⟨none, _, _, _, _, _⟩ :: []) _ _); refine wpList_store_mid rfl 25 (.tmp 2) (.tmp 69) rfl w.heap.size 0 (fl g 32).toArray rfl rfl G2.out.1.there (info_fl (by kernel_rfl)) (fl_oneA g 32) ?_; simp only [Act.put, List.setIfInBounds_toArray, List.set_cons_zero, List.set_cons_succ, List.tail_cons]))
          exact bodyPost_ret (v := .agg (fl (sb (sumS K s0 f n)) 32).toArray) (by rw [E.out]; exact results_bytes (g := g) (b := w.heap.size) rfl rfl G2.out.1.stored Tryd.underlying25 (by kernel_rfl)) rfl ⟨rfl, below_setCells (Nat.le_refl _) _ _ _ _ G2.out.2.2.2⟩
end Go.Proofs.YtdaggankfokloaaDoor
