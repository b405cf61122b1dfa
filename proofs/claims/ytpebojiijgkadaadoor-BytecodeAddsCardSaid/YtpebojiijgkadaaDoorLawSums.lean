/- The walk of law 7's BytecodeAdds. -/
import Derived.Test.YtpebojiijgkadaaDoorSevenD
import Derived.Test.YtpebojiijgkadaaDoorGrow
namespace Go.Proofs.YtpebojiijgkadaaDoor
set_option linter.all false
open Go Go.RowKit

theorem wpList_copy_row {P : Program} {w : World} {ops : Array Oper} {rest : List Oper} {o : Oper} {a : Act} {Q : Exit → Act → World → Prop} (hgd : o.guard = none) (d s : Operand) (dT sT : TypeId)
    (ho : o.op = .call { callee := .builtin .copy, args := #[d, s], argTypes := #[dT, sT] }) (elem : TypeId) (hu : P.underlying dT = some (.slice elem)) (hsz : (P.info? elem).map (·.size) = some 1)
    (g off dLen dCap : Nat) (ad : Addr) (sLen sCap : Nat) (hd : a.eval d = .slice (some ⟨g, off, none⟩) dLen dCap) (hs : a.eval s = .slice (some ad) sLen sCap)
    (cur : List Value) (t : TypeId) (hg : w.heap[g]? = some (.cells cur.toArray t (0, 0))) (cs : List Value) (hn : cs.length = Nat.min sLen dLen)
    (hsrc : ∀ j v, cs[j]? = some v → w.cell? (ad.add j) = some v) (hfit : off + cs.length ≤ cur.length) (h1 : ∀ v ∈ cs, v.oneCell' = true)
    (h : ∀ w', Hid (w'.heap[g]? = some (.cells (splice cur off cs).toArray t (0, 0))) → Hid (∀ k, k ≠ g → w'.heap[k]? = w.heap[k]?) → w'.heap.size = w.heap.size → Hid (∀ B, B ≤ g → Below B w w') → wpList P ops Q rest (a.put o.dst (goInt cs.length)) w') :
    wpList P ops Q (o :: rest) a w := by
  refine wpList_copy_own hgd d s dT sT ho elem hu hsz g off dLen dCap ad sLen sCap hd hs cur.toArray t hg cs hn hsrc (by simpa using hfit) h1 ?_
  refine h _ ?_ (fun k hk => setRow_other w g k _ hk) (by simp [World.setRow]) (fun B hB => below_setRow (Below.refl _ _) hB _)
  show _ = _
  rw [setRow_heap w g _ _ t _ hg]
  simp [splice]

theorem BytesAt.src {w : World} {b off n : Nat} {f : Nat → Nat} (h : BytesAt w b off n f) : ∀ j v, (fl f n)[j]? = some v → w.cell? ((⟨b, off, none⟩ : Addr).add j) = some v := fun j v hv => by
  have hj : j < n := by have := (List.getElem?_eq_some_iff.1 hv).1; rwa [fl_len] at this
  rw [fl_get f n j hj] at hv
  cases hv
  have e : (⟨b, off, none⟩ : Addr).add j = ⟨b, off + j, none⟩ := by unfold Addr.add; split <;> simp_all
  rw [e]
  exact h.cell j hj
theorem splice_at {w : World} {b off : Nat} {h : Nat → Nat} {t : TypeId} (hh : ∀ j, h j < 256) (hoff : off + 32 ≤ 64) (hg : w.heap[b]? = some (.cells (splice (List.replicate 64 (Value.int .u8 0)) off (fl h 32)).toArray t (0, 0))) :
    BytesAt w b 0 64 (fun j => if off ≤ j ∧ j < off + 32 then h (j - off) else 0) := by
  refine ⟨fun j => (by split; exact hh _; decide), (Array.getElem?_eq_some_iff.1 hg).1, fun j hj => ?_⟩
  rw [Nat.zero_add, cell_of_row w b j _ _ _ hg, List.getElem?_toArray]
  simp only [splice, fl_len]
  by_cases h1 : off ≤ j ∧ j < off + 32
  · rw [if_pos h1, List.getElem?_append_right (by simp; omega), List.length_take, List.length_replicate, Nat.min_eq_left (by omega), List.getElem?_append_left (by rw [fl_len]; omega), fl_get h 32 (j - off) (by omega)]
  · rw [if_neg h1]
    by_cases h2 : j < off
    · rw [List.getElem?_append_left (by simp; omega), List.getElem?_take, if_pos h2, List.getElem?_replicate, if_pos (by omega)]
      rfl
    · rw [List.getElem?_append_right (by simp; omega), List.length_take, List.length_replicate, Nat.min_eq_left (by omega), List.getElem?_append_right (by rw [fl_len]; omega), fl_len, List.getElem?_drop, List.getElem?_replicate, if_pos (by omega)]
      rfl

set_option maxRecDepth 100000 in
set_option maxHeartbeats 4000000 in
theorem sums_bad (s : Bool) (a : Option Addr) (n c : Nat) (hn : n ≠ 64) (w : World) (HL : Hid (Laid w)) :
    Calls Tryd.prog 10 #[.bool s, .slice a n c] w fun e w' => e = .returned (.bool true) ∧ Below w.heap.size w w' := by
  have hn2 : (((n : Nat) : Int) != 64) = true := by rw [bne_iff_ne]; omega
  clear hn
  go_enter Tryd.func10, Tryd.ntmps10
  go_wp2_with fail
  refine Calls.mono (alive7_c _ (HL.out.step (by repeat first | with_reducible exact Below.refl _ _ | with_reducible refine Below.drew ?_ | with_reducible refine below_dN ?_ | with_reducible refine Below.alloc ?_ (by first | omega | (simp; done) | (simp; omega)) _ | with_reducible refine Below.setCell ?_ (by first | omega | (simp; done) | (simp; omega)) _ | with_reducible refine Below.trans ?_ (Below.mono (by assumption) (by first | omega | (simp; done) | (simp; omega)))))) ?_
  rintro _ w1 ⟨rfl, h1⟩
  obtain ⟨c1, f1, s1⟩ := bfacts h1
  try simp only [World.size_alloc, World.size_setCell, size_drew, size_drewN] at s1
  go_wp2_with fail
  refine bodyPost_ret (v := .bool true) (by simp only [results, Tryd.results10]; go_simp) rfl ⟨rfl, ?_⟩
  repeat first
    | with_reducible exact Below.refl _ _
    | with_reducible refine Below.drew ?_
    | with_reducible refine below_dN ?_
    | with_reducible refine Below.alloc ?_ (by first | omega | (simp; done) | (simp; omega)) _
    | with_reducible refine Below.setCell ?_ (by first | omega | (simp; done) | (simp; omega)) _
    | with_reducible refine Below.trans ?_ (Below.mono (by assumption) (by first | omega | (simp; done) | (simp; omega)))

set_option maxRecDepth 100000 in
set_option maxHeartbeats 16000000 in
theorem sums_walk (s : Bool) (b off c x y z ym zm N q : Nat) (hc : 64 ≤ c) (f lo hi : Nat → Nat) (w : World) (HL : Hid (Laid w)) (HB : Hid (BytesAt w b off 64 f))
    (hlo : Hid (lo = fun j => if 0 ≤ j ∧ j < 0 + 32 then f (j - 0) else 0)) (hhi : Hid (hi = fun j => if 32 ≤ j ∧ j < 32 + 32 then f (32 + (j - 32)) else 0))
    (hx : Hid (∀ w', Below w.heap.size w w' → Calls Tryd.prog 35 #[fieldV s, .slice (some ⟨b, off, none⟩) 64 c] w' fun e w'' => e = .returned (.tuple #[vec x, .int .i64 0]) ∧ Below w'.heap.size w' w''))
    (hy : Hid (∀ g w, BytesAt w g 0 64 lo → Calls Tryd.prog 35 #[fieldV s, .slice (some ⟨g, 0, none⟩) 64 64] w fun e w' => e = .returned (.tuple #[vec y, .int .i64 0]) ∧ Below w.heap.size w w'))
    (hz : Hid (∀ g w, BytesAt w g 0 64 hi → Calls Tryd.prog 35 #[fieldV s, .slice (some ⟨g, 0, none⟩) 64 64] w fun e w' => e = .returned (.tuple #[vec z, .int .i64 0]) ∧ Below w.heap.size w w'))
    (hym : Hid (∀ w, Calls Tryd.prog 25 #[vec (pr s), vec y] w fun e w' => e = .returned (vec ym) ∧ Below w.heap.size w w'))
    (hzm : Hid (∀ w, Calls Tryd.prog 25 #[vec (pr s), vec z] w fun e w' => e = .returned (vec zm) ∧ Below w.heap.size w w'))
    (hadd : Hid (∀ w, Calls Tryd.prog 19 #[vec (pr s), vec ym, vec zm] w fun e w' => e = .returned (vec x) ∧ Below w.heap.size w w'))
    (hnum : Hid (∀ w', Below w.heap.size w w' → Calls Tryd.prog 38 #[.slice (some ⟨b, off, none⟩) 32 c] w' fun e w'' => e = .returned (vec N) ∧ Below w'.heap.size w' w''))
    (hq : Hid (∀ w, Calls Tryd.prog 25 #[vec (pr s), vec N] w fun e w' => e = .returned (vec q) ∧ Below w.heap.size w w'))
    (hf : Hid (∀ w, Calls Tryd.prog 37 #[vec (pr s), vec q] w fun e w' => e = .returned (vec y) ∧ Below w.heap.size w w')) :
    Calls Tryd.prog 10 #[.bool s, .slice (some ⟨b, off, none⟩) 64 c] w fun e w' => e = .returned (.bool true) ∧ Below w.heap.size w w' := by
  have hc1 : ¬ c = 32 := by omega
  have hc2 : (32 : Int) ≤ (c : Int) := by omega
  have hlt := HB.out.blk
  go_enter Tryd.func10, Tryd.ntmps10
  go_wp2_with fail
  refine Calls.mono (get7_c s _ (HL.out.step (by repeat first | with_reducible exact Below.refl _ _ | with_reducible refine Below.drew ?_ | with_reducible refine below_dN ?_ | with_reducible refine Below.alloc ?_ (by first | omega | (simp; done) | (simp; omega)) _ | with_reducible refine Below.setCell ?_ (by first | omega | (simp; done) | (simp; omega)) _ | with_reducible refine Below.trans ?_ (Below.mono (by assumption) (by first | omega | (simp; done) | (simp; omega)))))) ?_
  rintro _ w1 ⟨rfl, h1⟩
  obtain ⟨c1, f1, s1⟩ := bfacts h1
  try simp only [World.size_alloc, World.size_setCell, size_drew, size_drewN] at s1
  go_wp2_with fail
  refine region_grow 3 [0, 2, 1] [(0, (fun b => Value.slice (some ⟨b, 0, Option.none⟩) 64 64), (Obj.cells (madeCells #[.int .u8 0] 64) 5)), (1, (fun b => Value.slice (some ⟨b, 0, Option.none⟩) 64 64), (Obj.cells (madeCells #[.int .u8 0] 64) 5))] [] (by kernel_rfl) (by kernel_rfl) ?_
  with_reducible apply grow_m
  · rfl
  · rfl
  · rfl
  refine ⟨fun w' hC => ?_, fun b0 => ?_⟩
  · exact exec_make rfl rfl rfl (run_make64 w')
  try dsimp only
  try simp only [Act.put, List.setIfInBounds_toArray, List.set_cons_zero, List.set_cons_succ, List.tail_cons]
  with_reducible apply grow_v
  · rfl
  · rfl
  · rfl
  apply Exists.intro
  refine ⟨fun w' hC => ?_, ?_⟩
  · have hcell := below_cells hC
    clear hC
    go_simp
    rfl
  try simp only [Act.put, List.setIfInBounds_toArray, List.set_cons_zero, List.set_cons_succ, List.tail_cons]
  with_reducible apply grow_m
  · rfl
  · rfl
  · rfl
  refine ⟨fun w' hC => ?_, fun b1 => ?_⟩
  · exact exec_make rfl rfl rfl (run_make64 w')
  try dsimp only
  try simp only [Act.put, List.setIfInBounds_toArray, List.set_cons_zero, List.set_cons_succ, List.tail_cons]
  refine grow_end ?_
  intro wg4 hg4
  obtain ⟨cg4, fg4, sg4⟩ := bfacts hg4.grows
  try simp only [World.size_alloc, World.size_setCell, size_drew, size_drewN] at sg4
  have hb0 := Lib.hid (hg4.has (b0, Obj.cells (madeCells #[.int .u8 0] 64) 5) (by simp only [List.mem_cons, true_or, or_true]))
  have lb0 : b0 < wg4.heap.size := (Array.getElem?_eq_some_iff.1 hb0.out).1
  have nb0 := hg4.new (b0, Obj.cells (madeCells #[.int .u8 0] 64) 5) (by simp only [List.mem_cons, true_or, or_true])
  try simp only [World.size_alloc, World.size_setCell, size_drew, size_drewN] at nb0
  have hb1 := Lib.hid (hg4.has (b1, Obj.cells (madeCells #[.int .u8 0] 64) 5) (by simp only [List.mem_cons, true_or, or_true]))
  have lb1 : b1 < wg4.heap.size := (Array.getElem?_eq_some_iff.1 hb1.out).1
  have nb1 := hg4.new (b1, Obj.cells (madeCells #[.int .u8 0] 64) 5) (by simp only [List.mem_cons, true_or, or_true])
  try simp only [World.size_alloc, World.size_setCell, size_drew, size_drewN] at nb1
  have nd0_1 : b0 ≠ b1 := by have := hg4.nodup; simp only [List.map_cons, List.map_nil, List.nodup_cons, List.mem_cons, List.not_mem_nil, or_false, not_or] at this; omega
  have nd1_0 : b1 ≠ b0 := Ne.symm nd0_1
  have Hg4 : Below _ _ wg4 := hg4.grows
  clear hg4
  simp only [List.drop_succ_cons, List.drop_zero]
  have hb0' : wg4.heap[b0]? = some (.cells (List.replicate 64 (Value.int .u8 0)).toArray 5 (0, 0)) := by rw [← toList_madeCells_one, Array.toArray_toList]; exact hb0.out
  have hb1' : wg4.heap[b1]? = some (.cells (List.replicate 64 (Value.int .u8 0)).toArray 5 (0, 0)) := by rw [← toList_madeCells_one, Array.toArray_toList]; exact hb1.out
  have Hb0 := Lib.hid hb0'
  have Hb1 := Lib.hid hb1'
  have HBg : Hid (BytesAt wg4 b off 64 f) := HB.out.below (by repeat first | with_reducible exact Below.refl _ _ | with_reducible refine Below.drew ?_ | with_reducible refine below_dN ?_ | with_reducible refine Below.alloc ?_ (by first | omega | (simp; done) | (simp; omega)) _ | with_reducible refine Below.setCell ?_ (by first | omega | (simp; done) | (simp; omega)) _ | with_reducible refine Below.trans ?_ (Below.mono (by assumption) (by first | omega | (simp; done) | (simp; omega))))
  have Hne := Lib.hid nd1_0
  have e1 : w1.heap.size < w1.heap.size + 1 := by omega
  have e2 : w1.heap.size < w1.heap.size + 1 + 1 := by omega
  have e3 : w1.heap.size + 1 < w1.heap.size + 1 + 1 := by omega
  have hb0p : w1.heap.size + 1 + 1 ≤ b0 := by omega
  have hb1p : w1.heap.size + 1 + 1 ≤ b1 := by omega
  clear hb0' hb1' hb0 hb1
  go_wp2_with ((with_reducible show wpList _ _ _ (⟨some 30, _, _, _, _, _⟩ :: []) _ _); refine wpList_copy_row (by rfl) (.tmp 27) (.tmp 29) 47 47 (by rfl) 5 Tryd.underlying47 byteCells b0 0 64 64 ⟨b, off, none⟩ 32 c (by rfl) (by rfl) (List.replicate 64 (Value.int .u8 0)) 5 Hb0.out (fl f 32) (by rw [fl_len]; rfl) (HBg.out.take 32 (by decide)).src (by rw [fl_len, List.length_replicate]; decide) (fl_one f 32) ?_; intro wc hc0 hck hcs hcb)
  have h5 := hcb.out (w1.heap.size + 1 + 1) hb0p
  obtain ⟨c5, f5, s5⟩ := bfactsB h5
  have Hc1 : Hid (wc.heap[b1]? = some (.cells (List.replicate 64 (Value.int .u8 0)).toArray 5 (0, 0))) := (hck.out b1 Hne.out).trans Hb1.out
  have HBc := Lib.hid (HB.out.below (show Below w.heap.size w wc from (by repeat first | with_reducible exact Below.refl _ _ | with_reducible refine Below.drew ?_ | with_reducible refine below_dN ?_ | with_reducible refine Below.alloc ?_ (by first | omega | (simp; done) | (simp; omega)) _ | with_reducible refine Below.setCell ?_ (by first | omega | (simp; done) | (simp; omega)) _ | with_reducible refine Below.trans ?_ (Below.mono (by assumption) (by first | omega | (simp; done) | (simp; omega))))))
  have lc0 : b0 < wc.heap.size := by omega
  have lc1 : b1 < wc.heap.size := by omega
  have l_w1_wc_0 : w1.heap.size < wc.heap.size := by omega
  have l_w1_wc_1 : w1.heap.size + 1 < wc.heap.size := by omega
  clear hck hcb hcs Hb0 Hb1
  refine region_grow 4 [0, 1, 2, 3] [] [] (by kernel_rfl) (by kernel_rfl) ?_
  with_reducible apply grow_v
  · rfl
  · rfl
  · rfl
  apply Exists.intro
  refine ⟨fun w' hC => ?_, ?_⟩
  · have hcell := below_cells hC
    clear hC
    go_simp
    rfl
  try simp only [Act.put, List.setIfInBounds_toArray, List.set_cons_zero, List.set_cons_succ, List.tail_cons]
  with_reducible apply grow_v
  · rfl
  · rfl
  · rfl
  apply Exists.intro
  refine ⟨fun w' hC => ?_, ?_⟩
  · have hcell := below_cells hC
    clear hC
    go_simp
    rfl
  try simp only [Act.put, List.setIfInBounds_toArray, List.set_cons_zero, List.set_cons_succ, List.tail_cons]
  with_reducible apply grow_v
  · rfl
  · rfl
  · rfl
  apply Exists.intro
  refine ⟨fun w' hC => ?_, ?_⟩
  · have hcell := below_cells hC
    clear hC
    go_simp
    rfl
  try simp only [Act.put, List.setIfInBounds_toArray, List.set_cons_zero, List.set_cons_succ, List.tail_cons]
  with_reducible apply grow_v
  · rfl
  · rfl
  · rfl
  apply Exists.intro
  refine ⟨fun w' hC => ?_, ?_⟩
  · have hcell := below_cells hC
    clear hC
    go_simp
    rfl
  try simp only [Act.put, List.setIfInBounds_toArray, List.set_cons_zero, List.set_cons_succ, List.tail_cons]
  refine grow_end ?_
  intro wg6 hg6
  obtain ⟨cg6, fg6, sg6⟩ := bfacts hg6.grows
  try simp only [World.size_alloc, World.size_setCell, size_drew, size_drewN] at sg6
  have Hg6 : Below _ _ wg6 := hg6.grows
  clear hg6
  simp only [List.drop_succ_cons, List.drop_zero]
  simp only [World.size_drew] at cg6 fg6
  have Hd0 : Hid (wg6.heap[b0]? = _) := (Hg6.block b0 lc0).trans hc0.out
  have Hd1 : Hid (wg6.heap[b1]? = _) := (Hg6.block b1 lc1).trans Hc1.out
  have HBd := Lib.hid (HB.out.below (show Below w.heap.size w wg6 from (by repeat first | with_reducible exact Below.refl _ _ | with_reducible refine Below.drew ?_ | with_reducible refine below_dN ?_ | with_reducible refine Below.alloc ?_ (by first | omega | (simp; done) | (simp; omega)) _ | with_reducible refine Below.setCell ?_ (by first | omega | (simp; done) | (simp; omega)) _ | with_reducible refine Below.trans ?_ (Below.mono (by assumption) (by first | omega | (simp; done) | (simp; omega))))))
  go_wp2_with ((with_reducible show wpList _ _ _ (⟨some 35, _, _, _, _, _⟩ :: []) _ _); refine wpList_copy_row (by rfl) (.tmp 32) (.tmp 34) 47 47 (by rfl) 5 Tryd.underlying47 byteCells b1 32 32 32 ⟨b, off + 32, none⟩ 32 (c - 32) (by rfl) (by rfl) (List.replicate 64 (Value.int .u8 0)) 5 Hd1.out (fl (fun j => f (32 + j)) 32) (by rw [fl_len]; rfl) (HBd.out.part 32 32 (by decide)).src (by rw [fl_len, List.length_replicate]; decide) (fl_one _ 32) ?_; intro wd hd1 hdk hds hdb; refine Hid.out ?_)
  have h7 := hdb.out (w1.heap.size + 1 + 1) hb1p
  obtain ⟨c7, f7, s7⟩ := bfactsB h7
  have l_w1_wd_0 : w1.heap.size < wd.heap.size := by omega
  have l_w1_wd_1 : w1.heap.size + 1 < wd.heap.size := by omega
  clear hds
  have Hlo : Hid (BytesAt wd b0 0 64 lo) := by
    rw [hlo.out]
    exact splice_at HB.out.lt (by decide) ((hdk.out b0 (fun e => Hne.out e.symm)).trans Hd0.out)
  have Hhi : Hid (BytesAt wd b1 0 64 hi) := by
    rw [hhi.out]
    exact splice_at (h := fun j => f (32 + j)) (fun j => HB.out.lt _) (by decide) hd1.out
  clear hd1 hdk hdb hc0 Hc1 Hd0 Hd1
  refine Lib.hid ?_
  go_wp2_with fail
  refine Calls.mono (hx.out _ (by repeat first | with_reducible exact Below.refl _ _ | with_reducible refine Below.drew ?_ | with_reducible refine below_dN ?_ | with_reducible refine Below.alloc ?_ (by first | omega | (simp; done) | (simp; omega)) _ | with_reducible refine Below.setCell ?_ (by first | omega | (simp; done) | (simp; omega)) _ | with_reducible refine Below.trans ?_ (Below.mono (by assumption) (by first | omega | (simp; done) | (simp; omega))))) ?_
  rintro _ w11 ⟨rfl, h11⟩
  obtain ⟨c11, f11, s11⟩ := bfacts h11
  try simp only [World.size_alloc, World.size_setCell, size_drew, size_drewN] at s11
  have l_w1_w11_0 : w1.heap.size < w11.heap.size := by omega
  have l_w1_w11_1 : w1.heap.size + 1 < w11.heap.size := by omega
  go_wp2_with fail
  refine Calls.mono (hy.out _ _ (Hlo.out.below (by repeat first | with_reducible exact Below.refl _ _ | with_reducible refine Below.drew ?_ | with_reducible refine below_dN ?_ | with_reducible refine Below.alloc ?_ (by first | omega | (simp; done) | (simp; omega)) _ | with_reducible refine Below.setCell ?_ (by first | omega | (simp; done) | (simp; omega)) _ | with_reducible refine Below.trans ?_ (Below.mono (by assumption) (by first | omega | (simp; done) | (simp; omega)))))) ?_
  rintro _ w12 ⟨rfl, h12⟩
  obtain ⟨c12, f12, s12⟩ := bfacts h12
  try simp only [World.size_alloc, World.size_setCell, size_drew, size_drewN] at s12
  have l_w1_w12_0 : w1.heap.size < w12.heap.size := by omega
  have l_w1_w12_1 : w1.heap.size + 1 < w12.heap.size := by omega
  have l_w11_w12_0 : w11.heap.size < w12.heap.size := by omega
  go_wp2_with fail
  refine Calls.mono (hz.out _ _ (Hhi.out.below (by repeat first | with_reducible exact Below.refl _ _ | with_reducible refine Below.drew ?_ | with_reducible refine below_dN ?_ | with_reducible refine Below.alloc ?_ (by first | omega | (simp; done) | (simp; omega)) _ | with_reducible refine Below.setCell ?_ (by first | omega | (simp; done) | (simp; omega)) _ | with_reducible refine Below.trans ?_ (Below.mono (by assumption) (by first | omega | (simp; done) | (simp; omega)))))) ?_
  rintro _ w13 ⟨rfl, h13⟩
  obtain ⟨c13, f13, s13⟩ := bfacts h13
  try simp only [World.size_alloc, World.size_setCell, size_drew, size_drewN] at s13
  have l_w1_w13_0 : w1.heap.size < w13.heap.size := by omega
  have l_w1_w13_1 : w1.heap.size + 1 < w13.heap.size := by omega
  have l_w11_w13_0 : w11.heap.size < w13.heap.size := by omega
  have l_w12_w13_0 : w12.heap.size < w13.heap.size := by omega
  go_wp2_with fail
  refine region_grow 9 [0, 1, 2, 3, 4, 5, 6, 7, 8] [(8, (fun b => Value.pointer (some ⟨b, 0, Option.none⟩)), (Obj.cells #[.int .u64 0, .int .u64 0, .int .u64 0, .int .u64 0] 23))] [3, 6, 7] (by kernel_rfl) (by kernel_rfl) ?_
  with_reducible apply grow_v
  · rfl
  · rfl
  · rfl
  apply Exists.intro
  refine ⟨fun w' hC => ?_, ?_⟩
  · have hcell := below_cells hC
    clear hC
    go_simp
    rfl
  try simp only [Act.put, List.setIfInBounds_toArray, List.set_cons_zero, List.set_cons_succ, List.tail_cons]
  with_reducible apply grow_v
  · rfl
  · rfl
  · rfl
  apply Exists.intro
  refine ⟨fun w' hC => ?_, ?_⟩
  · have hcell := below_cells hC
    clear hC
    go_simp
    rfl
  try simp only [Act.put, List.setIfInBounds_toArray, List.set_cons_zero, List.set_cons_succ, List.tail_cons]
  with_reducible apply grow_v
  · rfl
  · rfl
  · rfl
  apply Exists.intro
  refine ⟨fun w' hC => ?_, ?_⟩
  · have hcell := below_cells hC
    clear hC
    go_simp
    rfl
  try simp only [Act.put, List.setIfInBounds_toArray, List.set_cons_zero, List.set_cons_succ, List.tail_cons]
  with_reducible apply grow_c
  · rfl
  · rfl
  · rfl
  · rfl
  apply Exists.intro
  apply Exists.intro
  apply Exists.intro
  refine ⟨fun w' hC => ?_, fun w' hC => ?_, ?_⟩
  · have hcell := below_cells hC
    clear hC
    go_simp
    exact ⟨rfl, rfl⟩
  · exact hym.out _
  try simp only [Act.put, List.setIfInBounds_toArray, List.set_cons_zero, List.set_cons_succ, List.tail_cons]
  with_reducible apply grow_v
  · rfl
  · rfl
  · rfl
  apply Exists.intro
  refine ⟨fun w' hC => ?_, ?_⟩
  · have hcell := below_cells hC
    clear hC
    go_simp
    rfl
  try simp only [Act.put, List.setIfInBounds_toArray, List.set_cons_zero, List.set_cons_succ, List.tail_cons]
  with_reducible apply grow_v
  · rfl
  · rfl
  · rfl
  apply Exists.intro
  refine ⟨fun w' hC => ?_, ?_⟩
  · have hcell := below_cells hC
    clear hC
    go_simp
    rfl
  try simp only [Act.put, List.setIfInBounds_toArray, List.set_cons_zero, List.set_cons_succ, List.tail_cons]
  with_reducible apply grow_c
  · rfl
  · rfl
  · rfl
  · rfl
  apply Exists.intro
  apply Exists.intro
  apply Exists.intro
  refine ⟨fun w' hC => ?_, fun w' hC => ?_, ?_⟩
  · have hcell := below_cells hC
    clear hC
    go_simp
    exact ⟨rfl, rfl⟩
  · exact hzm.out _
  try simp only [Act.put, List.setIfInBounds_toArray, List.set_cons_zero, List.set_cons_succ, List.tail_cons]
  with_reducible apply grow_c
  · rfl
  · rfl
  · rfl
  · rfl
  apply Exists.intro
  apply Exists.intro
  apply Exists.intro
  refine ⟨fun w' hC => ?_, fun w' hC => ?_, ?_⟩
  · have hcell := below_cells hC
    clear hC
    go_simp
    exact ⟨rfl, rfl⟩
  · exact hadd.out _
  try simp only [Act.put, List.setIfInBounds_toArray, List.set_cons_zero, List.set_cons_succ, List.tail_cons]
  with_reducible apply grow_m
  · rfl
  · rfl
  · rfl
  refine ⟨fun w' hC => ?_, fun b8 => ?_⟩
  · clear hC
    go_simp
  try dsimp only
  try simp only [Act.put, List.setIfInBounds_toArray, List.set_cons_zero, List.set_cons_succ, List.tail_cons]
  refine grow_end ?_
  intro wg10 hg10
  obtain ⟨cg10, fg10, sg10⟩ := bfacts hg10.grows
  try simp only [World.size_alloc, World.size_setCell, size_drew, size_drewN] at sg10
  obtain ⟨kb8, fb8, lb8⟩ := has_cells (hg10.has (b8, Obj.cells #[.int .u64 0, .int .u64 0, .int .u64 0, .int .u64 0] 23) (by simp only [List.mem_cons, true_or, or_true]))
  have nb8 := hg10.new (b8, Obj.cells #[.int .u64 0, .int .u64 0, .int .u64 0, .int .u64 0] 23) (by simp only [List.mem_cons, true_or, or_true])
  try simp only [World.size_alloc, World.size_setCell, size_drew, size_drewN] at nb8
  have kb8_0 := kb8 0 _ rfl
  have kb8_1 := kb8 1 _ rfl
  have kb8_2 := kb8 2 _ rfl
  have kb8_3 := kb8 3 _ rfl
  clear kb8
  have Hg10 : Below _ _ wg10 := hg10.grows
  clear hg10
  simp only [List.drop_succ_cons, List.drop_zero]
  go_wp2_with fail
  have l_w1_wg10_0 : w1.heap.size < wg10.heap.size := by omega
  have l_w1_wg10_1 : w1.heap.size + 1 < wg10.heap.size := by omega
  have l_w11_wg10_0 : w11.heap.size < wg10.heap.size := by omega
  have l_w12_wg10_0 : w12.heap.size < wg10.heap.size := by omega
  refine heldm_begin 30 [w1.heap.size + 1, w11.heap.size, w12.heap.size, b8] (by kernel_rfl) rfl (by intro _ _ d _ _ h; cases d <;> exact h) ?_
  intro hQ hK
  with_reducible apply heldm_call (n := 29) (m' := 1) 0
  · exact Nat.le_of_ble_eq_true (by kernel_rfl)
  · rfl
  · kernel_rfl
  · kernel_rfl
  · kernel_rfl
  · kernel_rfl
  · kernel_rfl
  · rfl
  · with_reducible exact hK
  apply Exists.intro
  apply Exists.intro
  apply Exists.intro
  refine ⟨?_, ?_, ?_, ?_⟩
  · go_simp
    exact ⟨rfl, rfl⟩
  · exact alive7_c _ (HL.out.step (by repeat first | with_reducible exact Below.refl _ _ | with_reducible refine Below.drew ?_ | with_reducible refine below_dN ?_ | with_reducible refine Below.alloc ?_ (by first | omega | (simp; done) | (simp; omega)) _ | with_reducible refine Below.setCell ?_ (by first | omega | (simp; done) | (simp; omega)) _ | with_reducible refine Below.trans ?_ (Below.mono (by assumption) (by first | omega | (simp; done) | (simp; omega)))))
  · intro b hb
    simp only [List.mem_cons, List.not_mem_nil, or_false] at hb
    rcases hb with rfl | rfl | rfl | rfl <;> first | omega | (simp; done) | (simp; omega)
  intro v0 h0 hK
  obtain ⟨c0, f0, s0⟩ := bfacts h0
  try simp only [World.size_alloc, World.size_setCell, size_drew, size_drewN] at s0
  have l_w1_v0_0 : w1.heap.size < v0.heap.size := by omega
  have l_w1_v0_1 : w1.heap.size + 1 < v0.heap.size := by omega
  have l_w11_v0_0 : w11.heap.size < v0.heap.size := by omega
  have l_w12_v0_0 : w12.heap.size < v0.heap.size := by omega
  have lb_v0_b8 : b8 < v0.heap.size := by omega
  try simp only [Act.put, List.setIfInBounds_toArray, List.set_cons_zero, List.set_cons_succ, List.tail_cons]
  with_reducible apply heldm_v (n := 28) (m' := 3) 1
  · exact Nat.le_of_ble_eq_true (by kernel_rfl)
  · rfl
  · kernel_rfl
  · kernel_rfl
  · kernel_rfl
  · kernel_rfl
  · kernel_rfl
  · kernel_rfl
  · exact hQ
  · with_reducible exact hK
  · rfl
  apply Exists.intro
  refine ⟨fun w' hC => ?_, ?_⟩
  · have k0_ := hC (w1.heap.size + 1) (by simp only [List.mem_cons, true_or, or_true])
    have k1_ := hC (w11.heap.size) (by simp only [List.mem_cons, true_or, or_true])
    have k2_ := hC (w12.heap.size) (by simp only [List.mem_cons, true_or, or_true])
    have k3_ := hC (b8) (by simp only [List.mem_cons, true_or, or_true])
    clear hC
    go_simp
    rfl
  try simp only [Act.put, List.setIfInBounds_toArray, List.set_cons_zero, List.set_cons_succ, List.tail_cons]
  first
    | (with_reducible apply heldm_v (n := 27) (m' := 7) 2
       · exact Nat.le_of_ble_eq_true (by kernel_rfl)
       · rfl
       · kernel_rfl
       · kernel_rfl
       · kernel_rfl
       · kernel_rfl
       · kernel_rfl
       · kernel_rfl
       · exact hQ
       · with_reducible exact hK
       · rfl
       apply Exists.intro
       refine ⟨fun w' hC => ?_, ?_⟩
       · have k0_ := hC (w1.heap.size + 1) (by simp only [List.mem_cons, true_or, or_true])
         have k1_ := hC (w11.heap.size) (by simp only [List.mem_cons, true_or, or_true])
         have k2_ := hC (w12.heap.size) (by simp only [List.mem_cons, true_or, or_true])
         have k3_ := hC (b8) (by simp only [List.mem_cons, true_or, or_true])
         clear hC
         go_simp
         rfl)
    | (with_reducible apply heldm_s (n := 27) (m' := 7) 2
       · exact Nat.le_of_ble_eq_true (by kernel_rfl)
       · rfl
       · kernel_rfl
       · kernel_rfl
       · kernel_rfl
       · kernel_rfl
       · kernel_rfl
       · kernel_rfl
       · exact hQ
       · with_reducible exact hK
       · rfl)
  try simp only [Act.put, List.setIfInBounds_toArray, List.set_cons_zero, List.set_cons_succ, List.tail_cons]
  first
    | (with_reducible apply heldm_v (n := 26) (m' := 15) 3
       · exact Nat.le_of_ble_eq_true (by kernel_rfl)
       · rfl
       · kernel_rfl
       · kernel_rfl
       · kernel_rfl
       · kernel_rfl
       · kernel_rfl
       · kernel_rfl
       · exact hQ
       · with_reducible exact hK
       · rfl
       apply Exists.intro
       refine ⟨fun w' hC => ?_, ?_⟩
       · have k0_ := hC (w1.heap.size + 1) (by simp only [List.mem_cons, true_or, or_true])
         have k1_ := hC (w11.heap.size) (by simp only [List.mem_cons, true_or, or_true])
         have k2_ := hC (w12.heap.size) (by simp only [List.mem_cons, true_or, or_true])
         have k3_ := hC (b8) (by simp only [List.mem_cons, true_or, or_true])
         clear hC
         go_simp
         rfl)
    | (with_reducible apply heldm_s (n := 26) (m' := 15) 3
       · exact Nat.le_of_ble_eq_true (by kernel_rfl)
       · rfl
       · kernel_rfl
       · kernel_rfl
       · kernel_rfl
       · kernel_rfl
       · kernel_rfl
       · kernel_rfl
       · exact hQ
       · with_reducible exact hK
       · rfl)
  try simp only [Act.put, List.setIfInBounds_toArray, List.set_cons_zero, List.set_cons_succ, List.tail_cons]
  with_reducible apply heldm_v (n := 25) (m' := 31) 4
  · exact Nat.le_of_ble_eq_true (by kernel_rfl)
  · rfl
  · kernel_rfl
  · kernel_rfl
  · kernel_rfl
  · kernel_rfl
  · kernel_rfl
  · kernel_rfl
  · exact hQ
  · with_reducible exact hK
  · rfl
  apply Exists.intro
  refine ⟨fun w' hC => ?_, ?_⟩
  · have k0_ := hC (w1.heap.size + 1) (by simp only [List.mem_cons, true_or, or_true])
    have k1_ := hC (w11.heap.size) (by simp only [List.mem_cons, true_or, or_true])
    have k2_ := hC (w12.heap.size) (by simp only [List.mem_cons, true_or, or_true])
    have k3_ := hC (b8) (by simp only [List.mem_cons, true_or, or_true])
    clear hC
    go_simp
    rfl
  try simp only [Act.put, List.setIfInBounds_toArray, List.set_cons_zero, List.set_cons_succ, List.tail_cons]
  with_reducible apply heldm_v (n := 24) (m' := 63) 5
  · exact Nat.le_of_ble_eq_true (by kernel_rfl)
  · rfl
  · kernel_rfl
  · kernel_rfl
  · kernel_rfl
  · kernel_rfl
  · kernel_rfl
  · kernel_rfl
  · exact hQ
  · with_reducible exact hK
  · rfl
  apply Exists.intro
  refine ⟨fun w' hC => ?_, ?_⟩
  · have k0_ := hC (w1.heap.size + 1) (by simp only [List.mem_cons, true_or, or_true])
    have k1_ := hC (w11.heap.size) (by simp only [List.mem_cons, true_or, or_true])
    have k2_ := hC (w12.heap.size) (by simp only [List.mem_cons, true_or, or_true])
    have k3_ := hC (b8) (by simp only [List.mem_cons, true_or, or_true])
    clear hC
    go_simp
    rfl
  try simp only [Act.put, List.setIfInBounds_toArray, List.set_cons_zero, List.set_cons_succ, List.tail_cons]
  first
    | (with_reducible apply heldm_v (n := 23) (m' := 127) 6
       · exact Nat.le_of_ble_eq_true (by kernel_rfl)
       · rfl
       · kernel_rfl
       · kernel_rfl
       · kernel_rfl
       · kernel_rfl
       · kernel_rfl
       · kernel_rfl
       · exact hQ
       · with_reducible exact hK
       · rfl
       apply Exists.intro
       refine ⟨fun w' hC => ?_, ?_⟩
       · have k0_ := hC (w1.heap.size + 1) (by simp only [List.mem_cons, true_or, or_true])
         have k1_ := hC (w11.heap.size) (by simp only [List.mem_cons, true_or, or_true])
         have k2_ := hC (w12.heap.size) (by simp only [List.mem_cons, true_or, or_true])
         have k3_ := hC (b8) (by simp only [List.mem_cons, true_or, or_true])
         clear hC
         go_simp
         rfl)
    | (with_reducible apply heldm_s (n := 23) (m' := 127) 6
       · exact Nat.le_of_ble_eq_true (by kernel_rfl)
       · rfl
       · kernel_rfl
       · kernel_rfl
       · kernel_rfl
       · kernel_rfl
       · kernel_rfl
       · kernel_rfl
       · exact hQ
       · with_reducible exact hK
       · rfl)
  try simp only [Act.put, List.setIfInBounds_toArray, List.set_cons_zero, List.set_cons_succ, List.tail_cons]
  first
    | (with_reducible apply heldm_v (n := 22) (m' := 255) 7
       · exact Nat.le_of_ble_eq_true (by kernel_rfl)
       · rfl
       · kernel_rfl
       · kernel_rfl
       · kernel_rfl
       · kernel_rfl
       · kernel_rfl
       · kernel_rfl
       · exact hQ
       · with_reducible exact hK
       · rfl
       apply Exists.intro
       refine ⟨fun w' hC => ?_, ?_⟩
       · have k0_ := hC (w1.heap.size + 1) (by simp only [List.mem_cons, true_or, or_true])
         have k1_ := hC (w11.heap.size) (by simp only [List.mem_cons, true_or, or_true])
         have k2_ := hC (w12.heap.size) (by simp only [List.mem_cons, true_or, or_true])
         have k3_ := hC (b8) (by simp only [List.mem_cons, true_or, or_true])
         clear hC
         go_simp
         rfl)
    | (with_reducible apply heldm_s (n := 22) (m' := 255) 7
       · exact Nat.le_of_ble_eq_true (by kernel_rfl)
       · rfl
       · kernel_rfl
       · kernel_rfl
       · kernel_rfl
       · kernel_rfl
       · kernel_rfl
       · kernel_rfl
       · exact hQ
       · with_reducible exact hK
       · rfl)
  try simp only [Act.put, List.setIfInBounds_toArray, List.set_cons_zero, List.set_cons_succ, List.tail_cons]
  with_reducible apply heldm_v (n := 21) (m' := 511) 8
  · exact Nat.le_of_ble_eq_true (by kernel_rfl)
  · rfl
  · kernel_rfl
  · kernel_rfl
  · kernel_rfl
  · kernel_rfl
  · kernel_rfl
  · kernel_rfl
  · exact hQ
  · with_reducible exact hK
  · rfl
  apply Exists.intro
  refine ⟨fun w' hC => ?_, ?_⟩
  · have k0_ := hC (w1.heap.size + 1) (by simp only [List.mem_cons, true_or, or_true])
    have k1_ := hC (w11.heap.size) (by simp only [List.mem_cons, true_or, or_true])
    have k2_ := hC (w12.heap.size) (by simp only [List.mem_cons, true_or, or_true])
    have k3_ := hC (b8) (by simp only [List.mem_cons, true_or, or_true])
    clear hC
    go_simp
    rfl
  try simp only [Act.put, List.setIfInBounds_toArray, List.set_cons_zero, List.set_cons_succ, List.tail_cons]
  with_reducible apply heldm_v (n := 20) (m' := 1023) 9
  · exact Nat.le_of_ble_eq_true (by kernel_rfl)
  · rfl
  · kernel_rfl
  · kernel_rfl
  · kernel_rfl
  · kernel_rfl
  · kernel_rfl
  · kernel_rfl
  · exact hQ
  · with_reducible exact hK
  · rfl
  apply Exists.intro
  refine ⟨fun w' hC => ?_, ?_⟩
  · have k0_ := hC (w1.heap.size + 1) (by simp only [List.mem_cons, true_or, or_true])
    have k1_ := hC (w11.heap.size) (by simp only [List.mem_cons, true_or, or_true])
    have k2_ := hC (w12.heap.size) (by simp only [List.mem_cons, true_or, or_true])
    have k3_ := hC (b8) (by simp only [List.mem_cons, true_or, or_true])
    clear hC
    go_simp
    rfl
  try simp only [Act.put, List.setIfInBounds_toArray, List.set_cons_zero, List.set_cons_succ, List.tail_cons]
  first
    | (with_reducible apply heldm_v (n := 19) (m' := 2047) 10
       · exact Nat.le_of_ble_eq_true (by kernel_rfl)
       · rfl
       · kernel_rfl
       · kernel_rfl
       · kernel_rfl
       · kernel_rfl
       · kernel_rfl
       · kernel_rfl
       · exact hQ
       · with_reducible exact hK
       · rfl
       apply Exists.intro
       refine ⟨fun w' hC => ?_, ?_⟩
       · have k0_ := hC (w1.heap.size + 1) (by simp only [List.mem_cons, true_or, or_true])
         have k1_ := hC (w11.heap.size) (by simp only [List.mem_cons, true_or, or_true])
         have k2_ := hC (w12.heap.size) (by simp only [List.mem_cons, true_or, or_true])
         have k3_ := hC (b8) (by simp only [List.mem_cons, true_or, or_true])
         clear hC
         go_simp
         rfl)
    | (with_reducible apply heldm_s (n := 19) (m' := 2047) 10
       · exact Nat.le_of_ble_eq_true (by kernel_rfl)
       · rfl
       · kernel_rfl
       · kernel_rfl
       · kernel_rfl
       · kernel_rfl
       · kernel_rfl
       · kernel_rfl
       · exact hQ
       · with_reducible exact hK
       · rfl)
  try simp only [Act.put, List.setIfInBounds_toArray, List.set_cons_zero, List.set_cons_succ, List.tail_cons]
  first
    | (with_reducible apply heldm_v (n := 18) (m' := 4095) 11
       · exact Nat.le_of_ble_eq_true (by kernel_rfl)
       · rfl
       · kernel_rfl
       · kernel_rfl
       · kernel_rfl
       · kernel_rfl
       · kernel_rfl
       · kernel_rfl
       · exact hQ
       · with_reducible exact hK
       · rfl
       apply Exists.intro
       refine ⟨fun w' hC => ?_, ?_⟩
       · have k0_ := hC (w1.heap.size + 1) (by simp only [List.mem_cons, true_or, or_true])
         have k1_ := hC (w11.heap.size) (by simp only [List.mem_cons, true_or, or_true])
         have k2_ := hC (w12.heap.size) (by simp only [List.mem_cons, true_or, or_true])
         have k3_ := hC (b8) (by simp only [List.mem_cons, true_or, or_true])
         clear hC
         go_simp
         rfl)
    | (with_reducible apply heldm_s (n := 18) (m' := 4095) 11
       · exact Nat.le_of_ble_eq_true (by kernel_rfl)
       · rfl
       · kernel_rfl
       · kernel_rfl
       · kernel_rfl
       · kernel_rfl
       · kernel_rfl
       · kernel_rfl
       · exact hQ
       · with_reducible exact hK
       · rfl)
  try simp only [Act.put, List.setIfInBounds_toArray, List.set_cons_zero, List.set_cons_succ, List.tail_cons]
  with_reducible apply heldm_v (n := 17) (m' := 8191) 12
  · exact Nat.le_of_ble_eq_true (by kernel_rfl)
  · rfl
  · kernel_rfl
  · kernel_rfl
  · kernel_rfl
  · kernel_rfl
  · kernel_rfl
  · kernel_rfl
  · exact hQ
  · with_reducible exact hK
  · rfl
  apply Exists.intro
  refine ⟨fun w' hC => ?_, ?_⟩
  · have k0_ := hC (w1.heap.size + 1) (by simp only [List.mem_cons, true_or, or_true])
    have k1_ := hC (w11.heap.size) (by simp only [List.mem_cons, true_or, or_true])
    have k2_ := hC (w12.heap.size) (by simp only [List.mem_cons, true_or, or_true])
    have k3_ := hC (b8) (by simp only [List.mem_cons, true_or, or_true])
    clear hC
    go_simp
    rfl
  try simp only [Act.put, List.setIfInBounds_toArray, List.set_cons_zero, List.set_cons_succ, List.tail_cons]
  with_reducible apply heldm_v (n := 16) (m' := 16383) 13
  · exact Nat.le_of_ble_eq_true (by kernel_rfl)
  · rfl
  · kernel_rfl
  · kernel_rfl
  · kernel_rfl
  · kernel_rfl
  · kernel_rfl
  · kernel_rfl
  · exact hQ
  · with_reducible exact hK
  · rfl
  apply Exists.intro
  refine ⟨fun w' hC => ?_, ?_⟩
  · have k0_ := hC (w1.heap.size + 1) (by simp only [List.mem_cons, true_or, or_true])
    have k1_ := hC (w11.heap.size) (by simp only [List.mem_cons, true_or, or_true])
    have k2_ := hC (w12.heap.size) (by simp only [List.mem_cons, true_or, or_true])
    have k3_ := hC (b8) (by simp only [List.mem_cons, true_or, or_true])
    clear hC
    go_simp
    rfl
  try simp only [Act.put, List.setIfInBounds_toArray, List.set_cons_zero, List.set_cons_succ, List.tail_cons]
  first
    | (with_reducible apply heldm_v (n := 15) (m' := 32767) 14
       · exact Nat.le_of_ble_eq_true (by kernel_rfl)
       · rfl
       · kernel_rfl
       · kernel_rfl
       · kernel_rfl
       · kernel_rfl
       · kernel_rfl
       · kernel_rfl
       · exact hQ
       · with_reducible exact hK
       · rfl
       apply Exists.intro
       refine ⟨fun w' hC => ?_, ?_⟩
       · have k0_ := hC (w1.heap.size + 1) (by simp only [List.mem_cons, true_or, or_true])
         have k1_ := hC (w11.heap.size) (by simp only [List.mem_cons, true_or, or_true])
         have k2_ := hC (w12.heap.size) (by simp only [List.mem_cons, true_or, or_true])
         have k3_ := hC (b8) (by simp only [List.mem_cons, true_or, or_true])
         clear hC
         go_simp
         rfl)
    | (with_reducible apply heldm_s (n := 15) (m' := 32767) 14
       · exact Nat.le_of_ble_eq_true (by kernel_rfl)
       · rfl
       · kernel_rfl
       · kernel_rfl
       · kernel_rfl
       · kernel_rfl
       · kernel_rfl
       · kernel_rfl
       · exact hQ
       · with_reducible exact hK
       · rfl)
  try simp only [Act.put, List.setIfInBounds_toArray, List.set_cons_zero, List.set_cons_succ, List.tail_cons]
  first
    | (with_reducible apply heldm_v (n := 14) (m' := 65535) 15
       · exact Nat.le_of_ble_eq_true (by kernel_rfl)
       · rfl
       · kernel_rfl
       · kernel_rfl
       · kernel_rfl
       · kernel_rfl
       · kernel_rfl
       · kernel_rfl
       · exact hQ
       · with_reducible exact hK
       · rfl
       apply Exists.intro
       refine ⟨fun w' hC => ?_, ?_⟩
       · have k0_ := hC (w1.heap.size + 1) (by simp only [List.mem_cons, true_or, or_true])
         have k1_ := hC (w11.heap.size) (by simp only [List.mem_cons, true_or, or_true])
         have k2_ := hC (w12.heap.size) (by simp only [List.mem_cons, true_or, or_true])
         have k3_ := hC (b8) (by simp only [List.mem_cons, true_or, or_true])
         clear hC
         go_simp
         rfl)
    | (with_reducible apply heldm_s (n := 14) (m' := 65535) 15
       · exact Nat.le_of_ble_eq_true (by kernel_rfl)
       · rfl
       · kernel_rfl
       · kernel_rfl
       · kernel_rfl
       · kernel_rfl
       · kernel_rfl
       · kernel_rfl
       · exact hQ
       · with_reducible exact hK
       · rfl)
  try simp only [Act.put, List.setIfInBounds_toArray, List.set_cons_zero, List.set_cons_succ, List.tail_cons]
  first
    | (with_reducible apply heldm_v (n := 13) (m' := 131071) 16
       · exact Nat.le_of_ble_eq_true (by kernel_rfl)
       · rfl
       · kernel_rfl
       · kernel_rfl
       · kernel_rfl
       · kernel_rfl
       · kernel_rfl
       · kernel_rfl
       · exact hQ
       · with_reducible exact hK
       · rfl
       apply Exists.intro
       refine ⟨fun w' hC => ?_, ?_⟩
       · have k0_ := hC (w1.heap.size + 1) (by simp only [List.mem_cons, true_or, or_true])
         have k1_ := hC (w11.heap.size) (by simp only [List.mem_cons, true_or, or_true])
         have k2_ := hC (w12.heap.size) (by simp only [List.mem_cons, true_or, or_true])
         have k3_ := hC (b8) (by simp only [List.mem_cons, true_or, or_true])
         clear hC
         go_simp
         rfl)
    | (with_reducible apply heldm_s (n := 13) (m' := 131071) 16
       · exact Nat.le_of_ble_eq_true (by kernel_rfl)
       · rfl
       · kernel_rfl
       · kernel_rfl
       · kernel_rfl
       · kernel_rfl
       · kernel_rfl
       · kernel_rfl
       · exact hQ
       · with_reducible exact hK
       · rfl)
  try simp only [Act.put, List.setIfInBounds_toArray, List.set_cons_zero, List.set_cons_succ, List.tail_cons]
  with_reducible apply heldm_v (n := 12) (m' := 262143) 17
  · exact Nat.le_of_ble_eq_true (by kernel_rfl)
  · rfl
  · kernel_rfl
  · kernel_rfl
  · kernel_rfl
  · kernel_rfl
  · kernel_rfl
  · kernel_rfl
  · exact hQ
  · with_reducible exact hK
  · rfl
  apply Exists.intro
  refine ⟨fun w' hC => ?_, ?_⟩
  · have k0_ := hC (w1.heap.size + 1) (by simp only [List.mem_cons, true_or, or_true])
    have k1_ := hC (w11.heap.size) (by simp only [List.mem_cons, true_or, or_true])
    have k2_ := hC (w12.heap.size) (by simp only [List.mem_cons, true_or, or_true])
    have k3_ := hC (b8) (by simp only [List.mem_cons, true_or, or_true])
    clear hC
    go_simp
    rfl
  try simp only [Act.put, List.setIfInBounds_toArray, List.set_cons_zero, List.set_cons_succ, List.tail_cons]
  with_reducible apply heldm_v (n := 11) (m' := 524287) 18
  · exact Nat.le_of_ble_eq_true (by kernel_rfl)
  · rfl
  · kernel_rfl
  · kernel_rfl
  · kernel_rfl
  · kernel_rfl
  · kernel_rfl
  · kernel_rfl
  · exact hQ
  · with_reducible exact hK
  · rfl
  apply Exists.intro
  refine ⟨fun w' hC => ?_, ?_⟩
  · have k0_ := hC (w1.heap.size + 1) (by simp only [List.mem_cons, true_or, or_true])
    have k1_ := hC (w11.heap.size) (by simp only [List.mem_cons, true_or, or_true])
    have k2_ := hC (w12.heap.size) (by simp only [List.mem_cons, true_or, or_true])
    have k3_ := hC (b8) (by simp only [List.mem_cons, true_or, or_true])
    clear hC
    go_simp
    rfl
  try simp only [Act.put, List.setIfInBounds_toArray, List.set_cons_zero, List.set_cons_succ, List.tail_cons]
  first
    | (with_reducible apply heldm_v (n := 10) (m' := 1048575) 19
       · exact Nat.le_of_ble_eq_true (by kernel_rfl)
       · rfl
       · kernel_rfl
       · kernel_rfl
       · kernel_rfl
       · kernel_rfl
       · kernel_rfl
       · kernel_rfl
       · exact hQ
       · with_reducible exact hK
       · rfl
       apply Exists.intro
       refine ⟨fun w' hC => ?_, ?_⟩
       · have k0_ := hC (w1.heap.size + 1) (by simp only [List.mem_cons, true_or, or_true])
         have k1_ := hC (w11.heap.size) (by simp only [List.mem_cons, true_or, or_true])
         have k2_ := hC (w12.heap.size) (by simp only [List.mem_cons, true_or, or_true])
         have k3_ := hC (b8) (by simp only [List.mem_cons, true_or, or_true])
         clear hC
         go_simp
         rfl)
    | (with_reducible apply heldm_s (n := 10) (m' := 1048575) 19
       · exact Nat.le_of_ble_eq_true (by kernel_rfl)
       · rfl
       · kernel_rfl
       · kernel_rfl
       · kernel_rfl
       · kernel_rfl
       · kernel_rfl
       · kernel_rfl
       · exact hQ
       · with_reducible exact hK
       · rfl)
  try simp only [Act.put, List.setIfInBounds_toArray, List.set_cons_zero, List.set_cons_succ, List.tail_cons]
  first
    | (with_reducible apply heldm_v (n := 9) (m' := 2097151) 20
       · exact Nat.le_of_ble_eq_true (by kernel_rfl)
       · rfl
       · kernel_rfl
       · kernel_rfl
       · kernel_rfl
       · kernel_rfl
       · kernel_rfl
       · kernel_rfl
       · exact hQ
       · with_reducible exact hK
       · rfl
       apply Exists.intro
       refine ⟨fun w' hC => ?_, ?_⟩
       · have k0_ := hC (w1.heap.size + 1) (by simp only [List.mem_cons, true_or, or_true])
         have k1_ := hC (w11.heap.size) (by simp only [List.mem_cons, true_or, or_true])
         have k2_ := hC (w12.heap.size) (by simp only [List.mem_cons, true_or, or_true])
         have k3_ := hC (b8) (by simp only [List.mem_cons, true_or, or_true])
         clear hC
         go_simp
         rfl)
    | (with_reducible apply heldm_s (n := 9) (m' := 2097151) 20
       · exact Nat.le_of_ble_eq_true (by kernel_rfl)
       · rfl
       · kernel_rfl
       · kernel_rfl
       · kernel_rfl
       · kernel_rfl
       · kernel_rfl
       · kernel_rfl
       · exact hQ
       · with_reducible exact hK
       · rfl)
  try simp only [Act.put, List.setIfInBounds_toArray, List.set_cons_zero, List.set_cons_succ, List.tail_cons]
  first
    | (with_reducible apply heldm_v (n := 8) (m' := 4194303) 21
       · exact Nat.le_of_ble_eq_true (by kernel_rfl)
       · rfl
       · kernel_rfl
       · kernel_rfl
       · kernel_rfl
       · kernel_rfl
       · kernel_rfl
       · kernel_rfl
       · exact hQ
       · with_reducible exact hK
       · rfl
       apply Exists.intro
       refine ⟨fun w' hC => ?_, ?_⟩
       · have k0_ := hC (w1.heap.size + 1) (by simp only [List.mem_cons, true_or, or_true])
         have k1_ := hC (w11.heap.size) (by simp only [List.mem_cons, true_or, or_true])
         have k2_ := hC (w12.heap.size) (by simp only [List.mem_cons, true_or, or_true])
         have k3_ := hC (b8) (by simp only [List.mem_cons, true_or, or_true])
         clear hC
         go_simp
         rfl)
    | (with_reducible apply heldm_s (n := 8) (m' := 4194303) 21
       · exact Nat.le_of_ble_eq_true (by kernel_rfl)
       · rfl
       · kernel_rfl
       · kernel_rfl
       · kernel_rfl
       · kernel_rfl
       · kernel_rfl
       · kernel_rfl
       · exact hQ
       · with_reducible exact hK
       · rfl)
  try simp only [Act.put, List.setIfInBounds_toArray, List.set_cons_zero, List.set_cons_succ, List.tail_cons]
  first
    | (with_reducible apply heldm_v (n := 7) (m' := 8388607) 22
       · exact Nat.le_of_ble_eq_true (by kernel_rfl)
       · rfl
       · kernel_rfl
       · kernel_rfl
       · kernel_rfl
       · kernel_rfl
       · kernel_rfl
       · kernel_rfl
       · exact hQ
       · with_reducible exact hK
       · rfl
       apply Exists.intro
       refine ⟨fun w' hC => ?_, ?_⟩
       · have k0_ := hC (w1.heap.size + 1) (by simp only [List.mem_cons, true_or, or_true])
         have k1_ := hC (w11.heap.size) (by simp only [List.mem_cons, true_or, or_true])
         have k2_ := hC (w12.heap.size) (by simp only [List.mem_cons, true_or, or_true])
         have k3_ := hC (b8) (by simp only [List.mem_cons, true_or, or_true])
         clear hC
         go_simp
         rfl)
    | (with_reducible apply heldm_s (n := 7) (m' := 8388607) 22
       · exact Nat.le_of_ble_eq_true (by kernel_rfl)
       · rfl
       · kernel_rfl
       · kernel_rfl
       · kernel_rfl
       · kernel_rfl
       · kernel_rfl
       · kernel_rfl
       · exact hQ
       · with_reducible exact hK
       · rfl)
  try simp only [Act.put, List.setIfInBounds_toArray, List.set_cons_zero, List.set_cons_succ, List.tail_cons]
  first
    | (with_reducible apply heldm_v (n := 6) (m' := 16777215) 23
       · exact Nat.le_of_ble_eq_true (by kernel_rfl)
       · rfl
       · kernel_rfl
       · kernel_rfl
       · kernel_rfl
       · kernel_rfl
       · kernel_rfl
       · kernel_rfl
       · exact hQ
       · with_reducible exact hK
       · rfl
       apply Exists.intro
       refine ⟨fun w' hC => ?_, ?_⟩
       · have k0_ := hC (w1.heap.size + 1) (by simp only [List.mem_cons, true_or, or_true])
         have k1_ := hC (w11.heap.size) (by simp only [List.mem_cons, true_or, or_true])
         have k2_ := hC (w12.heap.size) (by simp only [List.mem_cons, true_or, or_true])
         have k3_ := hC (b8) (by simp only [List.mem_cons, true_or, or_true])
         clear hC
         go_simp
         rfl)
    | (with_reducible apply heldm_s (n := 6) (m' := 16777215) 23
       · exact Nat.le_of_ble_eq_true (by kernel_rfl)
       · rfl
       · kernel_rfl
       · kernel_rfl
       · kernel_rfl
       · kernel_rfl
       · kernel_rfl
       · kernel_rfl
       · exact hQ
       · with_reducible exact hK
       · rfl)
  try simp only [Act.put, List.setIfInBounds_toArray, List.set_cons_zero, List.set_cons_succ, List.tail_cons]
  with_reducible apply heldm_call (n := 5) (m' := 33554431) 24
  · exact Nat.le_of_ble_eq_true (by kernel_rfl)
  · rfl
  · kernel_rfl
  · kernel_rfl
  · kernel_rfl
  · kernel_rfl
  · kernel_rfl
  · rfl
  · with_reducible exact hK
  apply Exists.intro
  apply Exists.intro
  apply Exists.intro
  refine ⟨?_, ?_, ?_, ?_⟩
  · go_simp
    exact ⟨rfl, rfl⟩
  · exact hnum.out _ (by repeat first | with_reducible exact Below.refl _ _ | with_reducible refine Below.drew ?_ | with_reducible refine below_dN ?_ | with_reducible refine Below.alloc ?_ (by first | omega | (simp; done) | (simp; omega)) _ | with_reducible refine Below.setCell ?_ (by first | omega | (simp; done) | (simp; omega)) _ | with_reducible refine Below.trans ?_ (Below.mono (by assumption) (by first | omega | (simp; done) | (simp; omega))))
  · intro b hb
    simp only [List.mem_cons, List.not_mem_nil, or_false] at hb
    rcases hb with rfl | rfl | rfl | rfl <;> first | omega | (simp; done) | (simp; omega)
  intro v24 h24 hK
  obtain ⟨c24, f24, s24⟩ := bfacts h24
  try simp only [World.size_alloc, World.size_setCell, size_drew, size_drewN] at s24
  have l_w1_v24_0 : w1.heap.size < v24.heap.size := by omega
  have l_w1_v24_1 : w1.heap.size + 1 < v24.heap.size := by omega
  have l_w11_v24_0 : w11.heap.size < v24.heap.size := by omega
  have l_w12_v24_0 : w12.heap.size < v24.heap.size := by omega
  have lb_v24_b8 : b8 < v24.heap.size := by omega
  try simp only [Act.put, List.setIfInBounds_toArray, List.set_cons_zero, List.set_cons_succ, List.tail_cons]
  with_reducible apply heldm_call (n := 4) (m' := 67108863) 25
  · exact Nat.le_of_ble_eq_true (by kernel_rfl)
  · rfl
  · kernel_rfl
  · kernel_rfl
  · kernel_rfl
  · kernel_rfl
  · kernel_rfl
  · rfl
  · with_reducible exact hK
  apply Exists.intro
  apply Exists.intro
  apply Exists.intro
  refine ⟨?_, ?_, ?_, ?_⟩
  · go_simp
    exact ⟨rfl, rfl⟩
  · exact hq.out _
  · intro b hb
    simp only [List.mem_cons, List.not_mem_nil, or_false] at hb
    rcases hb with rfl | rfl | rfl | rfl <;> first | omega | (simp; done) | (simp; omega)
  intro v25 h25 hK
  obtain ⟨c25, f25, s25⟩ := bfacts h25
  try simp only [World.size_alloc, World.size_setCell, size_drew, size_drewN] at s25
  have l_w1_v25_0 : w1.heap.size < v25.heap.size := by omega
  have l_w1_v25_1 : w1.heap.size + 1 < v25.heap.size := by omega
  have l_w11_v25_0 : w11.heap.size < v25.heap.size := by omega
  have l_w12_v25_0 : w12.heap.size < v25.heap.size := by omega
  have lb_v25_b8 : b8 < v25.heap.size := by omega
  try simp only [Act.put, List.setIfInBounds_toArray, List.set_cons_zero, List.set_cons_succ, List.tail_cons]
  with_reducible apply heldm_call (n := 3) (m' := 134217727) 26
  · exact Nat.le_of_ble_eq_true (by kernel_rfl)
  · rfl
  · kernel_rfl
  · kernel_rfl
  · kernel_rfl
  · kernel_rfl
  · kernel_rfl
  · rfl
  · with_reducible exact hK
  apply Exists.intro
  apply Exists.intro
  apply Exists.intro
  refine ⟨?_, ?_, ?_, ?_⟩
  · go_simp
    exact ⟨rfl, rfl⟩
  · exact hf.out _
  · intro b hb
    simp only [List.mem_cons, List.not_mem_nil, or_false] at hb
    rcases hb with rfl | rfl | rfl | rfl <;> first | omega | (simp; done) | (simp; omega)
  intro v26 h26 hK
  obtain ⟨c26, f26, s26⟩ := bfacts h26
  try simp only [World.size_alloc, World.size_setCell, size_drew, size_drewN] at s26
  try simp only [Act.put, List.setIfInBounds_toArray, List.set_cons_zero, List.set_cons_succ, List.tail_cons]
  first
    | (with_reducible apply heldm_v (n := 2) (m' := 268435455) 27
       · exact Nat.le_of_ble_eq_true (by kernel_rfl)
       · rfl
       · kernel_rfl
       · kernel_rfl
       · kernel_rfl
       · kernel_rfl
       · kernel_rfl
       · kernel_rfl
       · exact hQ
       · with_reducible exact hK
       · rfl
       apply Exists.intro
       refine ⟨fun w' hC => ?_, ?_⟩
       · have k0_ := hC (w1.heap.size + 1) (by simp only [List.mem_cons, true_or, or_true])
         have k1_ := hC (w11.heap.size) (by simp only [List.mem_cons, true_or, or_true])
         have k2_ := hC (w12.heap.size) (by simp only [List.mem_cons, true_or, or_true])
         have k3_ := hC (b8) (by simp only [List.mem_cons, true_or, or_true])
         clear hC
         go_simp
         rfl)
    | (with_reducible apply heldm_s (n := 2) (m' := 268435455) 27
       · exact Nat.le_of_ble_eq_true (by kernel_rfl)
       · rfl
       · kernel_rfl
       · kernel_rfl
       · kernel_rfl
       · kernel_rfl
       · kernel_rfl
       · kernel_rfl
       · exact hQ
       · with_reducible exact hK
       · rfl)
  try simp only [Act.put, List.setIfInBounds_toArray, List.set_cons_zero, List.set_cons_succ, List.tail_cons]
  with_reducible apply heldm_v (n := 1) (m' := 536870911) 28
  · exact Nat.le_of_ble_eq_true (by kernel_rfl)
  · rfl
  · kernel_rfl
  · kernel_rfl
  · kernel_rfl
  · kernel_rfl
  · kernel_rfl
  · kernel_rfl
  · exact hQ
  · with_reducible exact hK
  · rfl
  apply Exists.intro
  refine ⟨fun w' hC => ?_, ?_⟩
  · have k0_ := hC (w1.heap.size + 1) (by simp only [List.mem_cons, true_or, or_true])
    have k1_ := hC (w11.heap.size) (by simp only [List.mem_cons, true_or, or_true])
    have k2_ := hC (w12.heap.size) (by simp only [List.mem_cons, true_or, or_true])
    have k3_ := hC (b8) (by simp only [List.mem_cons, true_or, or_true])
    clear hC
    go_simp
    rfl
  try simp only [Act.put, List.setIfInBounds_toArray, List.set_cons_zero, List.set_cons_succ, List.tail_cons]
  with_reducible apply heldm_v (n := 0) (m' := 1073741823) 29
  · exact Nat.le_of_ble_eq_true (by kernel_rfl)
  · rfl
  · kernel_rfl
  · kernel_rfl
  · kernel_rfl
  · kernel_rfl
  · kernel_rfl
  · kernel_rfl
  · exact hQ
  · with_reducible exact hK
  · rfl
  apply Exists.intro
  refine ⟨fun w' hC => ?_, ?_⟩
  · have k0_ := hC (w1.heap.size + 1) (by simp only [List.mem_cons, true_or, or_true])
    have k1_ := hC (w11.heap.size) (by simp only [List.mem_cons, true_or, or_true])
    have k2_ := hC (w12.heap.size) (by simp only [List.mem_cons, true_or, or_true])
    have k3_ := hC (b8) (by simp only [List.mem_cons, true_or, or_true])
    clear hC
    go_simp
    rfl
  try simp only [Act.put, List.setIfInBounds_toArray, List.set_cons_zero, List.set_cons_succ, List.tail_cons]
  refine heldm_end (Nat.le_of_ble_eq_true (by kernel_rfl)) (by kernel_rfl) ?_
  clear hK hQ
  go_wp2_with fail
  refine bodyPost_ret (v := .bool true) (by simp only [results, Tryd.results10]; go_simp) rfl ⟨rfl, ?_⟩
  repeat first
    | with_reducible exact Below.refl _ _
    | with_reducible refine Below.drew ?_
    | with_reducible refine below_dN ?_
    | with_reducible refine Below.alloc ?_ (by first | omega | (simp; done) | (simp; omega)) _
    | with_reducible refine Below.setCell ?_ (by first | omega | (simp; done) | (simp; omega)) _
    | with_reducible refine Below.trans ?_ (Below.mono (by assumption) (by first | omega | (simp; done) | (simp; omega)))

theorem addm_zero_r {p x : Nat} (hx : x < p) : addm p x 0 = x := by unfold addm; rw [Nat.add_zero, Nat.mod_eq_of_lt hx]
theorem addm_zero_l {p x : Nat} (hx : x < p) : addm p 0 x = x := by unfold addm; rw [Nat.zero_add, Nat.mod_eq_of_lt hx]
theorem le_all_zero (n : Nat) {f : Nat → Nat} (h : ∀ j, j < n → f j = 0) : le f n = 0 := by
  rw [le_congr (g := fun _ => 0) n h]
  induction n with
  | zero => rfl
  | succ n ih => unfold le; rw [ih (fun j hj => h j (by omega))]; simp
theorem mulm_zero (p q : Nat) : mulm p q 0 = 0 := by unfold mulm; simp

theorem bytecodeAdds_c (w : World) (s : Bool) (a : Option Addr) (n c : Nat) (f : Nat → Nat) (h : BytesArg w a n c f) (hL : Laid w) :
    Calls Tryd.prog 10 #[.bool s, .slice a n c] w fun e w' => e = .returned (.bool true) ∧ Below w.heap.size w w' := by
  by_cases h6 : n = 64
  · subst h6
    obtain ⟨b, off, rfl, hB⟩ := h.at_.pos (by decide)
    obtain ⟨lo, hlo⟩ : ∃ lo, lo = fun j => if 0 ≤ j ∧ j < 0 + 32 then f (j - 0) else 0 := ⟨_, rfl⟩
    obtain ⟨hi, hhi⟩ : ∃ hi, hi = fun j => if 32 ≤ j ∧ j < 32 + 32 then f (32 + (j - 32)) else 0 := ⟨_, rfl⟩
    have hq := red_lt s (le f 32)
    have hqh := red_lt s (le (fun j => f (32 + j)) 32)
    have hlo32 : le lo 32 = le f 32 := le_congr 32 fun j hj => by rw [hlo]; simp only; rw [if_pos ⟨Nat.zero_le _, by omega⟩, Nat.sub_zero]
    have hlo0 : le (fun j => lo (32 + j)) 32 = 0 := le_all_zero 32 fun j hj => by rw [hlo]; simp only; rw [if_neg (by omega)]
    have hhi0 : le hi 32 = 0 := le_all_zero 32 fun j hj => by rw [hhi]; simp only; rw [if_neg (by omega)]
    have hhi32 : le (fun j => hi (32 + j)) 32 = le (fun j => f (32 + j)) 32 := le_congr 32 fun j hj => by rw [hhi]; simp only; rw [if_pos (by omega), show 32 + (32 + j - 32) = 32 + j by omega]
    obtain ⟨q, eq⟩ : ∃ q, q = mulm (pr s) 1 (le f 32) := ⟨_, rfl⟩
    obtain ⟨qh, eqh⟩ : ∃ q, q = mulm (pr s) 1 (le (fun j => f (32 + j)) 32) := ⟨_, rfl⟩
    rw [← eq] at hq
    rw [← eqh] at hqh
    have ex : wideV s f = addm (pr s) q (RR s qh) := by unfold wideV; rw [← eq, ← eqh]
    have ey : wideV s lo = q := by unfold wideV; rw [hlo32, hlo0, mulm_zero, RR_zero, ← eq, addm_zero_r hq]
    have ez : wideV s hi = RR s qh := by unfold wideV; rw [hhi0, hhi32, mulm_zero, ← eqh, addm_zero_l (RR_lt s _)]
    have wy := fun g w (k : BytesAt w g 0 64 lo) => wide_c s g 0 64 (Nat.le_refl _) lo w k
    have wz := fun g w (k : BytesAt w g 0 64 hi) => wide_c s g 0 64 (Nat.le_refl _) hi w k
    have wx := fun w' hb => wide_c s b off c h.cap f w' (hB.below hb)
    rw [ey] at wy
    rw [ez] at wz
    rw [ex] at wx
    have my := refMod_c (pr s) (RR s q) (pr_lt s) (pr_gt1 s) (RR_lt4 s q)
    have mz := refMod_c (pr s) (RR s (RR s qh)) (pr_lt s) (pr_gt1 s) (RR_lt4 s _)
    rw [mulm_red (RR_lt s _)] at my mz
    have ad := refAdd_c (pr s) (RR s q) (RR s (RR s qh)) (pr_lt s) (RR_lt s _) (RR_lt s _)
    rw [add_RR] at ad
    have mq := refMod_c (pr s) (le f 32) (pr_lt s) (pr_gt1 s) (le32_lt hB.lt)
    rw [← eq] at mq
    exact sums_walk s b off c _ (RR s q) (RR s (RR s qh)) (RR s q) (RR s (RR s qh)) (le f 32) q h.cap f lo hi w (Lib.hid hL) (Lib.hid hB) (Lib.hid hlo) (Lib.hid hhi) (Lib.hid wx) (Lib.hid wy) (Lib.hid wz) (Lib.hid my) (Lib.hid mz) (Lib.hid ad)
      (Lib.hid fun w' hb => refNumber_at f b off 32 c (by omega) w' ((hB.below hb).take 32 (by omega))) (Lib.hid mq) (Lib.hid (form7_c s q (Nat.lt_trans hq (pr_lt s))))
  · exact sums_bad s a n c h6 w (Lib.hid hL)
end Go.Proofs.YtpebojiijgkadaaDoor
