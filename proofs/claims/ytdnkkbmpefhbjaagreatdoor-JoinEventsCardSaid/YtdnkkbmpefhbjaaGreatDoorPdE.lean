/- Part 5 of what the proof of JoinEvents needs: joined out of the texts of this seat, only what is used. -/
import Derived.Test.YtdnkkbmpefhbjaaGreatDoorPdD
import Derived.Test.YtdnkkbmpefhbjaaGreatDoorRows
import Derived.WalkKit
import Derived.ProofKit
import Derived.LaidMore
import Derived.OpenShut
import Derived.ShutString
import Derived.ChangeOld
import Derived.Below
namespace Go.Proofs.YtdnkkbmpefhbjaaGreatDoor
set_option linter.all false
open Go Go.RowKit Alg
theorem sh2_cells {y0 y1 y2 a0 a1 a2 : Nat} : en shc (sh3 y0 y1 y2 a0 a1 a2) 2 = [.int .i64 1, .int .i64 2, .int .i64 1, .int .i64 1, .slice (some ⟨a0, 0, none⟩) 1 1, .int .i64 1, .int .i64 2, .int .i64 2, .int .i64 1, .slice (some ⟨a1, 0, none⟩) 1 1] := rfl
section
variable {b a0 a1 a2 y2 TB TP : Nat} {w : World}
theorem sh2_in {y0 y1 : Nat} (h : (blk b [.int .i64 1, .int .i64 2, .int .i64 1, .int .i64 1, .slice (some ⟨a0, 0, none⟩) 1 1, .int .i64 1, .int .i64 2, .int .i64 2, .int .i64 1, .slice (some ⟨a1, 0, none⟩) 1 1] TB).ok w)
    (h0 : (blk a0 (vq (mq (zn false y0))) TP).ok w) (h1 : (blk a1 (vq (mq (zn false y1))) TP).ok w) : (shareR (some ⟨b, 0, none⟩) 2 2 (sh3 y0 y1 0 a0 a1 0)).ok w := by
  intro x hx
  simp only [List.mem_cons, List.not_mem_nil, or_false] at hx
  rcases hx with rfl | rfl
  · exact blk_lst (by rw [sh2_cells]; exact h) (en_len shc_len) (Nat.le_refl _)
  · intro y hy
    obtain ⟨k, hk, rfl⟩ := List.mem_map.1 hy
    have hk' := List.mem_range.1 hk
    match k, hk' with
    | 0, _ => exact blk_lst h0 rfl (Nat.le_refl _)
    | 1, _ => exact blk_lst h1 rfl (Nat.le_refl _)
variable (HS : (shareR (some ⟨b, 0, none⟩) 2 2 (sh3 8 11 0 a0 a1 0)).ok w) (HL : Laid w)
include HS HL
theorem alVal : Calls Tryz.prog 41 #[.pointer none, .slice (some ⟨b, 0, none⟩) 2 2] w fun e w' => ∃ a c, e = .returned (.tuple #[.slice a 1 c, .int .i64 0]) ∧ Sat no w [row 56 4 (.slice a 1 c) 1 (en vq (fun _ => mq (zn false 5)) 1)] [] w' := by
  have h := valuesN HS HL sh2_ok sh2_good sh2_err (by decide) (by show (1 : Nat) ≤ 4; decide)
  have e : en vq (fun i => mq (valZ false (sh3 8 11 0 a0 a1 0) 2 i)) 1 = en vq (fun _ => mq (zn false 5)) 1 := en_congr fun i hi => by rw [Nat.lt_one_iff.1 hi, sh2_val]
  refine h.mono fun _ _ h => ?_
  obtain ⟨a, c, h1, h2⟩ := h
  refine ⟨a, c, h1, ?_⟩
  rw [← e]
  exact h2
theorem alCom : Calls Tryz.prog 44 #[.pointer none, .slice (some ⟨b, 0, none⟩) 2 2] w fun e w' => ∃ a k c, e = .returned (.tuple #[.slice a k c, .int .i64 0]) ∧ Sat no w [row 5 1 (.slice a k c) k (el bc [5])] [] w' := by
  have h := combN HS HL sh2_ok sh2_good sh2_err (by decide) (by show (1 : Nat) ≤ 4; decide)
  refine h.mono fun _ _ h => ?_
  obtain ⟨a, k, c, h1, h2⟩ := h
  have e1 : jErr 1 1 (valN false (sh3 8 11 0 a0 a1 0) 2) = 0 := jErr_5 sh2_vN
  have e2 : jBytes 1 1 (valN false (sh3 8 11 0 a0 a1 0) 2) = [5] := jBytes_5 sh2_vN
  have h1' : _ = Ending.returned (.tuple #[.slice a k c, .int .i64 (jErr 1 1 (valN false (sh3 8 11 0 a0 a1 0) 2))]) := h1
  have h2' : Sat no w [row 5 1 (.slice a k c) k (el bc (jBytes 1 1 (valN false (sh3 8 11 0 a0 a1 0) 2)))] [] _ := h2
  rw [e1] at h1'
  rw [e2] at h2'
  exact ⟨a, k, c, h1', h2'⟩
theorem alAt : Calls Tryz.prog 47 #[.pointer none, .slice (some ⟨b, 0, none⟩) 2 2, .int .i64 3] w fun e w' => ∃ a c, e = .returned (.tuple #[.agg #[.int .i64 1, .int .i64 2, .int .i64 3, .int .i64 1, .slice a 1 c], .int .i64 0]) ∧ Sat no w [row 56 4 (.slice a 1 c) 1 (en vq (fun _ => mq (zn false 14)) 1)] [] w' := by
  have h := atN HS HL sh2_ok sh2_good sh2_err (by decide) (by show (1 : Nat) ≤ 4; decide) 3 (by decide) (by decide)
  have e : en vq (fun i => mq (atZ false (sh3 8 11 0 a0 a1 0) 2 (zn false 3) i)) 1 = en vq (fun _ => mq (zn false 14)) 1 := en_congr fun i hi => by rw [Nat.lt_one_iff.1 hi, sh2_at]
  refine h.mono fun _ _ h => ?_
  obtain ⟨a, c, h1, h2⟩ := h
  refine ⟨a, c, h1, ?_⟩
  rw [← e]
  exact h2
end
theorem litE {w : World} {b x T : Nat} (h : (blk b (vq x) T).ok w) : LstAt w 4 (.slice (some ⟨b, 0, none⟩) 1 1) 1 (en vq (fun _ => x) 1) := by
  have e : en vq (fun _ : Nat => x) 1 = vq x := by simp [en]
  rw [e]
  exact blk_lst h (vq_len x) (Nat.le_refl _)
theorem lit5 {w : World} {a : Option Addr} {c : Nat} (h : LstAt w 1 (.slice a 1 c) 1 [.int .u8 5]) : LstAt w 1 (.slice a 1 c) 1 (el bc [5]) := h
theorem alive17_s (v pb : Nat) (W : World) (HP : (blk pb (vq (pr false)) 47).ok W) (hv : v < 1000) : Calls Tryz.prog 76 [.int .u64 ((v : Nat) : Int), .pointer (some ⟨pb, 0, none⟩)].toArray W fun e w => ∃ b, e = .returned (.slice (some ⟨b, 0, none⟩) 1 1) ∧ Sat no W [blk b (vq (mq (zn false v))) 56] [] w := by
 refine c_enter (args := [.int .u64 ((v : Nat) : Int), .pointer (some ⟨pb, 0, none⟩)]) Tryz.func76 rfl rfl rfl fun a hk => ?_
 have hs := Sat.start W [blk pb [.int .u64 ((dg 0 (pr false) : Nat) : Int), .int .u64 ((dg 1 (pr false) : Nat) : Int), .int .u64 ((dg 2 (pr false) : Nat) : Int), .int .u64 ((dg 3 (pr false) : Nat) : Int)] 47] (okr1 HP)
 refine wS (wR ?_)
 refine q_v hk (w_as rfl) fun a hk => ?_
 refine c_end (x_t (wS (wR ?_)))
 refine q_v hk (w_ldv (z := pr false) rfl ty47 (.blk (n := 4) (hs.ri 0 rfl) rfl)) fun a hk => ?_
 refine q_v hk (w_mv rfl) fun a hk => ?_
 refine q_v hk (w_bldv1 (k := v) rfl (by omega) (by unfold Go.Proofs.YtdnkkbmpefhbjaaGreatDoor.W; omega) Tryz.underlying47 ty46 zr47) fun a hk => ?_
 refine q_call (caps := []) hk rfl rfl Tryz.func43 fo43 rfl rfl (rform_s v hv _) ?_
 rintro _ w ⟨rfl, hb⟩
 have hs := hs.below hb
 refine ⟨_, rfl, fun a hk => ?_⟩
 refine q_bsl (els := [.tmp 7]) (cs := [.int .u64 ((dg 0 (mq (zn false v)) : Nat) : Int), .int .u64 ((dg 1 (mq (zn false v)) : Nat) : Int), .int .u64 ((dg 2 (mq (zn false v)) : Nat) : Int), .int .u64 ((dg 3 (mq (zn false v)) : Nat) : Int)]) hk hs rfl Tryz.underlying51 ty56 zr56 rfl rfl rfl rfl rfl rfl rfl fun b1 w a hk hs => ?_
 refine q_v hk (w_as rfl) fun a hk => ?_
 refine c_end (x_t ?_)
 refine (wpIn_ret ?_)
 refine c_ret1 hk rfl rfl ?_
 exact ⟨_, rfl, hs.fin⟩
theorem eqE_c (n lc yc : Nat) (la ya : Option Addr) (f : Nat → Nat) (W : World) (HX : LstAt W 4 (.slice la n lc) n (en vq f n)) (HY : LstAt W 4 (.slice ya n yc) n (en vq f n)) (hn : n ≤ 1000000) (hf : ∀ i, i < n → f i < R4) : Calls Tryz.prog 77 [.slice la n lc, .slice ya n yc].toArray W fun e w => e = .returned (.bool true) ∧ Below W.heap.size W w := by
 refine c_enter (args := [.slice la n lc, .slice ya n yc]) Tryz.func77 rfl rfl rfl fun a hk => ?_
 have hs := Sat.start W [lst 4 (.slice la n lc) n (en vq (fun i => f i) n), lst 4 (.slice ya n yc) n (en vq (fun i => f i) n)] (okrc HX (okr1 HY))
 refine wS (wR ?_)
 refine q_v hk (w_as rfl) fun a hk => ?_
 refine c_end (x_t (wS (wS (wR ?_))))
 refine q_v hk (w_mv rfl) fun a hk => ?_
 refine q_v hk (w_len rfl Tryz.underlying51) fun a hk => ?_
 refine q_v hk (w_mv rfl) fun a hk => ?_
 refine q_v hk (w_len rfl Tryz.underlying51) fun a hk => ?_
 refine q_v hk (w_ne rfl rfl (decide_eq_false (by omega))) fun a hk => ?_
 refine c_end (x_t ?_)
 refine c_F hk rfl ?_
 refine (wpIn_skip (x_t ?_))
 refine wS (wS (wR ?_))
 refine q_v hk (w_mv rfl) fun a hk => ?_
 refine q_v hk (w_len rfl Tryz.underlying51) fun a hk => ?_
 refine q_v hk (w_mv rfl) fun a hk => ?_
 refine c_end (x_t ?_)
 refine wpIn_block ?_
 refine c_loop (α := Nat) (fun k a w => k ≤ n ∧ Kn [] 26 [(13, .int .i64 ((k : Nat) : Int)), (12, .int .i64 ((n : Nat) : Int)), (0, .slice la n lc), (1, .slice ya n yc)] a ∧ Sat no W [] [lst 4 (.slice la n lc) n (en vq (fun i => f i) n), lst 4 (.slice ya n yc) n (en vq (fun i => f i) n)] w) (fun k => n - k) 0 ?_ ?_
 · exact ⟨(by omega), hk.k rfl (hk.k rfl (hk.k rfl (hk.k rfl hk.nil))), hs⟩
 rintro k a w ⟨hf0, hk, hs⟩
 refine wS (wR ?_)
 rcases Classical.em (((k : Nat) : Int) < ((n : Nat) : Int)) with hc1 | hc1
 ·
  have hlt : k < n := by omega
  refine q_v hk (w_lt rfl rfl (decide_eq_true hc1)) fun a hk => ?_
  refine c_end (x_t (wS ?_))
  refine c_T hk rfl ?_
  refine (wpIn_skip (x_t ?_))
  refine wS ?_
  refine wpIn_block ?_
  refine wS (wR ?_)
  refine q_v hk (w_mv rfl) fun a hk => ?_
  refine q_v hk (w_as rfl) fun a hk => ?_
  refine c_end (x_t (wS ?_))
  have hL := okL.cons (hs.ri 0 rfl) (okL.cons (hs.ri 1 rfl) okL.nil)
  refine d_begin _ 9 (by kernel_rfl) rfl hs hL fun w hs hL => ?_
  refine d_w 0 1 hk hL rfl (fun w hL => w_mv rfl) fun a hk => ?_
  refine d_w 1 3 hk hL rfl (fun w hL => w_mv rfl) fun a hk => ?_
  refine d_w 2 7 hk hL rfl (fun w hL => w_iaL (k := k) rfl rfl Tryz.underlying51 ty56 (hL.at 0 rfl) (by omega) (by omega)) fun a hk => ?_
  refine d_w 3 15 hk hL rfl (fun w hL => w_ldv (z := f k) rfl ty56 (lstq (k := k) (hL.at 0 rfl) (by omega) (en_chunk vq_len (by omega)))) fun a hk => ?_
  refine d_w 4 31 hk hL rfl (fun w hL => w_mv rfl) fun a hk => ?_
  refine d_w 5 63 hk hL rfl (fun w hL => w_mv rfl) fun a hk => ?_
  refine d_w 6 127 hk hL rfl (fun w hL => w_iaL (k := k) rfl rfl Tryz.underlying51 ty56 (hL.at 1 rfl) (by omega) (by omega)) fun a hk => ?_
  refine d_w 7 255 hk hL rfl (fun w hL => w_ldv (z := f k) rfl ty56 (lstq (k := k) (hL.at 1 rfl) (by omega) (en_chunk vq_len (by omega)))) fun a hk => ?_
  refine d_w 8 511 hk hL rfl (fun w hL => w_vne rfl rfl (hf k hlt) (hf k hlt) Tryz.underlying56 Tryz.underlying46 ty46 eg56 (decide_eq_false (fun h => h rfl))) fun a hk => ?_
  refine d_end (by kernel_rfl) ?_
  refine (x_t ?_)
  refine c_F hk rfl ?_
  refine (wpIn_skip (x_b (x_t ?_)))
  refine wR ?_
  refine q_v hk (w_add rfl rfl (wr64 (by omega) (by omega))) fun a hk => ?_
  refine q_v hk (w_mv rfl) fun a hk => ?_
  refine c_end (x_t ?_)
  exact ⟨k + 1, ⟨(by omega), hk.k rfl (hk.k rfl (hk.k rfl (hk.k rfl hk.nil))), hs⟩, by omega⟩
 ·
  refine q_v hk (w_lt rfl rfl (decide_eq_false hc1)) fun a hk => ?_
  refine c_end (x_t (wS ?_))
  refine c_F hk rfl ?_
  refine (wpIn_exit (x_te (x_te (x_be ?_))))
  refine (x_t ?_)
  refine wS (wR ?_)
  refine q_v hk (w_as rfl) fun a hk => ?_
  refine c_end (x_t ?_)
  refine (wpIn_ret ?_)
  refine c_ret1 hk rfl rfl ?_
  exact ⟨rfl, hs.toBelow⟩
theorem alive17_c  (W : World) (HL : Laid W) : Calls Tryz.prog 40 [].toArray W fun e w => e = .returned (.bool true) ∧ Below W.heap.size W w := by
 refine c_enter (args := []) Tryz.func40 rfl rfl rfl fun a hk => ?_
 have hs := Sat.start W [] (fun _ h => by cases h)
 refine wS (wR ?_)
 refine q_v hk (w_as rfl) fun a hk => ?_
 refine c_end (x_t (wS (wR ?_)))
 refine q_call (caps := []) hk rfl rfl Tryz.func28 fo28 rfl rfl (rmodulus_z (s := false) rfl _) ?_
 rintro _ w ⟨rfl, hb⟩
 have hs := hs.below hb
 refine ⟨_, rfl, fun a hk => ?_⟩
 refine q_alc (vs := [.int .u64 0, .int .u64 0, .int .u64 0, .int .u64 0]) hk hs zr47 rfl rfl rfl fun b1 w a hk hs => ?_
 refine q_sto (o := 0) (cs := [.int .u64 ((dg 0 (pr false) : Nat) : Int), .int .u64 ((dg 1 (pr false) : Nat) : Int), .int .u64 ((dg 2 (pr false) : Nat) : Int), .int .u64 ((dg 3 (pr false) : Nat) : Int)]) (vs' := [.int .u64 ((dg 0 (pr false) : Nat) : Int), .int .u64 ((dg 1 (pr false) : Nat) : Int), .int .u64 ((dg 2 (pr false) : Nat) : Int), .int .u64 ((dg 3 (pr false) : Nat) : Int)]) hk hs rfl rfl rfl ty47 rfl rfl rfl rfl rfl rfl fun w hs => ?_
 refine c_end (x_t (wS (wR ?_)))
 refine q_v hk (w_mkf (frees := [.tmp 1]) rfl) fun a hk => ?_
 refine q_v hk (w_as rfl) fun a hk => ?_
 refine c_end (x_t (wS (wR ?_)))
 refine q_v hk (w_mv rfl) fun a hk => ?_
 refine q_call (caps := [.pointer (some ⟨b1, 0, none⟩)]) hk rfl rfl Tryz.func76 fo76 rfl rfl (alive17_s 8 b1 _ (hs.mi 0 rfl) (by decide)) ?_
 rintro _ w ⟨b2, rfl, hS⟩
 have hs := hs.call1 hS
 clear hS
 refine ⟨_, rfl, fun a hk => ?_⟩
 refine q_v hk (w_bld rfl fl53 zr53 rfl rfl) fun a hk => ?_
 refine q_v hk (w_mv rfl) fun a hk => ?_
 refine q_call (caps := [.pointer (some ⟨b1, 0, none⟩)]) hk rfl rfl Tryz.func76 fo76 rfl rfl (alive17_s 11 b1 _ (hs.mi 1 rfl) (by decide)) ?_
 rintro _ w ⟨b3, rfl, hS⟩
 have hs := hs.call1 hS
 clear hS
 refine ⟨_, rfl, fun a hk => ?_⟩
 refine q_v hk (w_bld rfl fl53 zr53 rfl rfl) fun a hk => ?_
 refine q_bsl (els := [.tmp 14, .tmp 17]) (cs := [.int .i64 1, .int .i64 2, .int .i64 1, .int .i64 1, .slice (some ⟨b2, 0, none⟩) 1 1, .int .i64 1, .int .i64 2, .int .i64 2, .int .i64 1, .slice (some ⟨b3, 0, none⟩) 1 1]) hk hs rfl Tryz.underlying22 ty53 zr53 rfl rfl rfl rfl rfl rfl rfl fun b4 w a hk hs => ?_
 refine q_v hk (w_as rfl) fun a hk => ?_
 refine c_end (x_t (wS (wR ?_)))
 refine q_v hk (w_mv rfl) fun a hk => ?_
 refine q_call (caps := []) hk rfl rfl Tryz.func41 fo41 rfl rfl (alVal (sh2_in (y0 := 8) (y1 := 11) (hs.mi 0 rfl) (hs.mi 2 rfl) (hs.mi 1 rfl)) (HL.step hs.toBelow)) ?_
 rintro _ w ⟨a5, c6, rfl, hS⟩
 have hs := hs.call1 hS
 clear hS
 refine ⟨_, rfl, fun a hk => ?_⟩
 refine q_v hk (w_mv rfl) fun a hk => ?_
 refine q_v hk (w_ext rfl rfl) fun a hk => ?_
 refine q_v hk (w_ext rfl rfl) fun a hk => ?_
 refine q_v hk (w_as rfl) fun a hk => ?_
 refine q_v hk (w_as rfl) fun a hk => ?_
 refine c_end (x_t (wS (wR ?_)))
 refine q_v hk (w_mv rfl) fun a hk => ?_
 refine q_call (caps := []) hk rfl rfl Tryz.func44 fo44 rfl rfl (alCom (sh2_in (y0 := 8) (y1 := 11) (hs.mi 1 rfl) (hs.mi 3 rfl) (hs.mi 2 rfl)) (HL.step hs.toBelow)) ?_
 rintro _ w ⟨a7, k8, c9, rfl, hS⟩
 have hs := hs.call1 hS
 clear hS
 refine ⟨_, rfl, fun a hk => ?_⟩
 refine q_v hk (w_mv rfl) fun a hk => ?_
 refine q_v hk (w_ext rfl rfl) fun a hk => ?_
 refine q_v hk (w_ext rfl rfl) fun a hk => ?_
 refine q_v hk (w_as rfl) fun a hk => ?_
 refine q_v hk (w_as rfl) fun a hk => ?_
 refine c_end (x_t (wS (wR ?_)))
 refine q_v hk (w_mv rfl) fun a hk => ?_
 refine q_call (caps := []) hk rfl rfl Tryz.func47 fo47 rfl rfl (alAt (sh2_in (y0 := 8) (y1 := 11) (hs.mi 2 rfl) (hs.mi 4 rfl) (hs.mi 3 rfl)) (HL.step hs.toBelow)) ?_
 rintro _ w ⟨a10, c11, rfl, hS⟩
 have hs := hs.call1 hS
 clear hS
 refine ⟨_, rfl, fun a hk => ?_⟩
 refine q_v hk (w_mv rfl) fun a hk => ?_
 refine q_v hk (w_ext rfl rfl) fun a hk => ?_
 refine q_v hk (w_ext rfl rfl) fun a hk => ?_
 refine q_alc (vs := [.int .i64 0, .int .i64 0, .int .i64 0, .int .i64 0, .slice none 0 0]) hk hs zr53 rfl rfl rfl fun b12 w a hk hs => ?_
 refine q_sto (o := 0) (cs := [.int .i64 1, .int .i64 2, .int .i64 3, .int .i64 1, .slice a10 1 c11]) (vs' := [.int .i64 1, .int .i64 2, .int .i64 3, .int .i64 1, .slice a10 1 c11]) hk hs rfl rfl rfl ty53 rfl rfl rfl rfl rfl rfl fun w hs => ?_
 refine q_v hk (w_as rfl) fun a hk => ?_
 refine c_end (x_t (wS ?_))
 have hL := okL.cons (hs.mi 0 rfl) okL.nil
 refine d_begin _ 34 (by kernel_rfl) rfl hs hL fun w hs hL => ?_
 refine d_w 0 1 hk hL rfl (fun w hL => w_mv rfl) fun a hk => ?_
 refine d_w 1 3 hk hL rfl (fun w hL => w_eq rfl rfl (decide_eq_true (by decide))) fun a hk => ?_
 refine d_w 2 7 hk hL rfl (fun w hL => w_mv rfl) fun a hk => ?_
 refine d_w 3 15 hk hL rfl (fun w hL => w_mv rfl) fun a hk => ?_
 refine d_w 4 31 hk hL rfl (fun w hL => w_mv rfl) fun a hk => ?_
 refine d_1 5 63 rfl (by kernel_rfl) fun K hK => ?_
 refine q_call (caps := [.pointer (some ⟨b1, 0, none⟩)]) hk rfl rfl Tryz.func76 fo76 rfl rfl (alive17_s 5 b1 _ (hs.mi 7 rfl) (by decide)) ?_
 rintro _ w ⟨b1_5, rfl, hS⟩
 have hs := hs.call1 hS
 clear hS
 refine ⟨_, rfl, fun a hk => ?_⟩
 have hL := okL.cons (hs.mi 1 rfl) okL.nil
 refine c_end (x_t (hK _ _ hL ?_))
 clear hK K
 refine d_1 6 127 rfl (by kernel_rfl) fun K hK => ?_
 refine q_call (caps := []) hk rfl rfl Tryz.func77 fo77 rfl rfl (eqE_c 1 c6 1 a5 (some ⟨b1_5, 0, none⟩) (fun _ => mq (zn false 5)) _ (row_lst (hs.mi 4 rfl)) (litE (hs.mi 0 rfl)) (by decide) (fun _ _ => mq_lt4 _)) ?_
 rintro _ w ⟨rfl, hb⟩
 have hs := hs.below hb
 refine ⟨_, rfl, fun a hk => ?_⟩
 have hL := okL.cons (hs.mi 1 rfl) okL.nil
 refine c_end (x_t (hK _ _ hL ?_))
 clear hK K
 refine d_w 7 255 hk hL rfl (fun w hL => w_pickT rfl rfl) fun a hk => ?_
 refine d_w 8 511 hk hL rfl (fun w hL => w_mv rfl) fun a hk => ?_
 refine d_w 9 1023 hk hL rfl (fun w hL => w_mv rfl) fun a hk => ?_
 refine d_w 10 2047 hk hL rfl (fun w hL => w_eq rfl rfl (decide_eq_true (by decide))) fun a hk => ?_
 refine d_w 11 4095 hk hL rfl (fun w hL => w_pickT rfl rfl) fun a hk => ?_
 refine d_w 12 8191 hk hL rfl (fun w hL => w_mv rfl) fun a hk => ?_
 refine d_w 13 16383 hk hL rfl (fun w hL => w_mv rfl) fun a hk => ?_
 refine d_1 14 32767 rfl (by kernel_rfl) fun K hK => ?_
 refine q_bsl (els := [.const (.int .u8 5)]) (cs := [.int .u8 5]) hk hs rfl Tryz.underlying42 ty5 zr5 rfl rfl rfl rfl rfl rfl rfl fun b1_14 w a hk hs => ?_
 have hL := okL.cons (hs.mi 2 rfl) okL.nil
 refine c_end (x_t (hK _ _ hL ?_))
 clear hK K
 refine d_1 15 65535 rfl (by kernel_rfl) fun K hK => ?_
 refine q_call (caps := []) hk rfl rfl Tryz.func46 fo46 rfl rfl (bytesEqQ _ a7 (some ⟨b1_14, 0, none⟩) k8 c9 1 1 [5] [5] (row_lst (hs.mi 4 rfl)) (lit5 (blk_lst (hs.mi 0 rfl) rfl (Nat.le_refl _))) rfl) ?_
 rintro _ _ ⟨rfl, rfl⟩
 refine ⟨_, rfl, fun a hk => ?_⟩
 have hL := okL.cons (hs.mi 2 rfl) okL.nil
 refine c_end (x_t (hK _ _ hL ?_))
 clear hK K
 refine d_w 16 131071 hk hL rfl (fun w hL => w_pickT rfl rfl) fun a hk => ?_
 refine d_w 17 262143 hk hL rfl (fun w hL => w_mv rfl) fun a hk => ?_
 refine d_w 18 524287 hk hL rfl (fun w hL => w_mv rfl) fun a hk => ?_
 refine d_w 19 1048575 hk hL rfl (fun w hL => w_eq rfl rfl (decide_eq_true (by decide))) fun a hk => ?_
 refine d_w 20 2097151 hk hL rfl (fun w hL => w_pickT rfl rfl) fun a hk => ?_
 refine d_w 21 4194303 hk hL rfl (fun w hL => w_mv rfl) fun a hk => ?_
 refine d_w 22 8388607 hk hL rfl (fun w hL => w_fa rfl fq53_2 ty3) fun a hk => ?_
 refine d_w 23 16777215 hk hL rfl (fun w hL => w_ld1 rfl ty3 (.blk (n := 1) (hL.at 0 rfl) rfl)) fun a hk => ?_
 refine d_w 24 33554431 hk hL rfl (fun w hL => w_eq rfl rfl (decide_eq_true (by decide))) fun a hk => ?_
 refine d_w 25 67108863 hk hL rfl (fun w hL => w_pickT rfl rfl) fun a hk => ?_
 refine d_w 26 134217727 hk hL rfl (fun w hL => w_mv rfl) fun a hk => ?_
 refine d_w 27 268435455 hk hL rfl (fun w hL => w_fa rfl fq53_4 ty51) fun a hk => ?_
 refine d_w 28 536870911 hk hL rfl (fun w hL => w_ld1 rfl ty51 (.blk (n := 1) (hL.at 0 rfl) rfl)) fun a hk => ?_
 refine d_w 29 1073741823 hk hL rfl (fun w hL => w_mv rfl) fun a hk => ?_
 refine d_1 30 2147483647 rfl (by kernel_rfl) fun K hK => ?_
 refine q_call (caps := [.pointer (some ⟨b1, 0, none⟩)]) hk rfl rfl Tryz.func76 fo76 rfl rfl (alive17_s 14 b1 _ (hs.mi 9 rfl) (by decide)) ?_
 rintro _ w ⟨b1_30, rfl, hS⟩
 have hs := hs.call1 hS
 clear hS
 refine ⟨_, rfl, fun a hk => ?_⟩
 have hL := okL.cons (hs.mi 3 rfl) okL.nil
 refine c_end (x_t (hK _ _ hL ?_))
 clear hK K
 refine d_1 31 4294967295 rfl (by kernel_rfl) fun K hK => ?_
 refine q_call (caps := []) hk rfl rfl Tryz.func77 fo77 rfl rfl (eqE_c 1 c11 1 a10 (some ⟨b1_30, 0, none⟩) (fun _ => mq (zn false 14)) _ (row_lst (hs.mi 4 rfl)) (litE (hs.mi 0 rfl)) (by decide) (fun _ _ => mq_lt4 _)) ?_
 rintro _ w ⟨rfl, hb⟩
 have hs := hs.below hb
 refine ⟨_, rfl, fun a hk => ?_⟩
 have hL := okL.cons (hs.mi 3 rfl) okL.nil
 refine c_end (x_t (hK _ _ hL ?_))
 clear hK K
 refine d_w 32 8589934591 hk hL rfl (fun w hL => w_pickT rfl rfl) fun a hk => ?_
 refine d_w 33 17179869183 hk hL rfl (fun w hL => w_as rfl) fun a hk => ?_
 refine d_end (by kernel_rfl) ?_
 refine (x_t ?_)
 refine (wpIn_ret ?_)
 refine c_ret1 hk rfl rfl ?_
 exact ⟨rfl, hs.toBelow⟩
end Go.Proofs.YtdnkkbmpefhbjaaGreatDoor
namespace Go.Proofs.YtdnkkbmpefhbjaaGreatDoor
set_option linter.all false
open Go Go.RowKit Alg
end Go.Proofs.YtdnkkbmpefhbjaaGreatDoor
namespace Go.Proofs.YtdnkkbmpefhbjaaGreatDoor
set_option linter.all false
open Go Go.RowKit Alg
end Go.Proofs.YtdnkkbmpefhbjaaGreatDoor
namespace Go.Proofs.YtdnkkbmpefhbjaaGreatDoor
set_option linter.all false
open Go Go.RowKit
abbrev DenE (v : Nat × List Value) (es : List Ev) (r : Res) : Prop := Den Tryz.prog (fval v) evE es r
theorem take_snoc {α : Type} {l : List α} {k : Nat} {x : α} (h : l[k]? = some x) : l.take k ++ [x] = l.take (k + 1) := by
  obtain ⟨h1, h2⟩ := List.getElem?_eq_some_iff.1 h
  rw [List.take_succ_eq_append_getElem h1, h2]
theorem appendSeq_m {F0 : Nat → Prop} {W : World} {M R : List Res} (x : Nat × List Value) (es : List Ev) (rx : Res) (w0 : World) (hs : Sat F0 W M R w0) (hx : DenE x es rx) (hx2 : HasR rx R) (hl : es.length ≤ 1000000000000) : Calls Tryz.prog 141 [.slice none 0 0, .func (.func x.1) #[] (List.toArray x.2)].toArray w0 fun e w => ∃ a c, e = .returned (.slice a es.length c) ∧ Sat F0 W (row 112 3 (.slice a es.length c) es.length (el ec es) :: M) R w := by
 refine c_enterM (args := [.slice none 0 0, .func (.func x.1) #[] (List.toArray x.2)]) Tryz.func141 rfl rfl rfl fun a hk => ?_
 refine wS (wR ?_)
 refine q_box (vs := [.slice none 0 0]) hk hs rfl rfl rfl rfl fun b1 w a hk hs => ?_
 refine q_v hk (w_as rfl) fun a hk => ?_
 refine c_end (x_t (wS (wS (wR ?_))))
 refine q_v hk (w_mv rfl) fun a hk => ?_
 refine c_end (x_t ?_)
 refine wpIn_block ?_
 have hs := hs.row0 112 3
 have hk : Kn [] 13 [(6, .func (.func x.1) #[] (List.toArray x.2)), (4, .slice none 0 0), (2, .pointer (some ⟨b1, 0, none⟩))] a := hk.k rfl (hk.k rfl (hk.k rfl hk.nil))
 have hs := hs.up1
 have hs := Sat.pack (l := [blk b1 [.slice none 0 0] 63, row 112 3 (.slice none 0 0) 0 (el ec (es.take 0))]) hs
 have hs := hs.none.up1
 refine c_range0 hk hs rfl hx hx2 (fun _ => rfl) rfl (fun k r => ∃ (al : Option Addr) (cl : Nat), r = bun [blk b1 [.slice al k cl] 63, row 112 3 (.slice al k cl) k (el ec (es.take k))]) (fun c k r => False) ⟨_, _, rfl⟩ rfl ?_ ?_ ?_
 ·
  rintro l2 k2 x2 hx2 LR2 LB2 FR2 hL2 r a w ⟨al, cl, rfl⟩ hk hs
  have hlt : k2 < es.length := (List.getElem?_eq_some_iff.1 hx2).1
  have hk : Kn [] 13 [(7, .agg #[.int .i64 x2.1, .int .i64 x2.2.1, .int .i64 x2.2.2]), (6, .func (.func x.1) #[] (List.toArray x.2)), (4, .slice none 0 0), (2, .pointer (some ⟨b1, 0, none⟩))] a := hk
  have hs : Sat F0 W [blk b1 [.slice al k2 cl] 63, row 112 3 (.slice al k2 cl) k2 (el ec (es.take k2)), LR2, FR2] R w := hs.unpack
  refine wR ?_
  refine q_alc (vs := [.int .i64 0, .int .i64 0, .int .i64 0]) hk hs zr112 rfl rfl rfl fun b3 w a hk hs => ?_
  refine q_sto (o := 0) (cs := [.int .i64 x2.1, .int .i64 x2.2.1, .int .i64 x2.2.2]) (vs' := [.int .i64 x2.1, .int .i64 x2.2.1, .int .i64 x2.2.2]) hk hs rfl rfl rfl ty112 rfl rfl rfl rfl rfl rfl fun w hs => ?_
  refine c_end (x_t ?_)
  have hs := hs.up3
  refine hL2.begin_ hs fun w hs => ?_
  refine wpIn_block ?_
  refine wR ?_
  refine q_v hk (w_ld1 rfl ty63 (.blk (n := 1) (hs.mi 2 rfl) rfl)) fun a hk => ?_
  refine q_v hk (w_ldA rfl ty112 (.blk (n := 3) (hs.mi 1 rfl) rfl) rfl) fun a hk => ?_
  refine q_bsl (els := [.tmp 9]) (cs := [.int .i64 x2.1, .int .i64 x2.2.1, .int .i64 x2.2.2]) hk hs rfl Tryz.underlying63 ty112 zr112 rfl rfl rfl rfl rfl rfl rfl fun b4 w a hk hs => ?_
  have hs := hs.up4
  refine q_app (news := [.int .i64 x2.1, .int .i64 x2.2.1, .int .i64 x2.2.2]) (m := 1) hk hs rfl rfl Tryz.underlying63 ty112 zr112 rfl rfl (.blk (n := 3) (hs.mi 1 rfl) rfl) rfl rfl (by omega) (by omega) rfl rfl fun a5 c6 w a hk hs => ?_
  have hs := hs.up1
  have hs := hs.drop
  have hs := hs.up3
  refine q_sto (o := 0) (cs := [.slice a5 (k2 + 1) c6]) (vs' := [.slice a5 (k2 + 1) c6]) hk hs rfl rfl rfl ty63 rfl rfl rfl rfl rfl rfl fun w hs => ?_
  refine (c_end (x_b ?_))
  have hs := hs.up1
  have hs := hs.rw0 (congrArg _ el_snoc)
  rw [take_snoc hx2] at hs
  have hs := hs.up3
  have hs := hs.drop
  have hs := hs.up3
  have hs := hs.up3
  have hs := hs.up2
  have hs := hs.up3
  exact ⟨_, ⟨_, _, rfl⟩, Sat.pack (l := [_, _]) hs⟩
 ·
  intro D2 r r2 a w hJ hK hk hs
  obtain ⟨al, cl, rfl⟩ := hJ
  obtain rfl := hK
  have hs := Sat.unpack (l := [blk b1 [.slice al es.length cl] 63, row 112 3 (.slice al es.length cl) es.length (el ec (es.take es.length))]) hs.up2.drop.up1
  have hs : Sat F0 W ((blk b1 [.slice al es.length cl] 63) :: (row 112 3 (.slice al es.length cl) es.length (el ec (es.take es.length))) :: (dres D2) :: M) R w := hs
  refine (x_b (x_t ?_))
  refine wS (wR ?_)
  refine q_v hk (w_ld1 rfl ty63 (.blk (n := 1) (hs.mi 0 rfl) rfl)) fun a hk => ?_
  refine q_v hk (w_as rfl) fun a hk => ?_
  refine c_end (x_t ?_)
  refine (wpIn_ret ?_)
  have hs := hs.up1
  have hs := hs.up1
  have hs := hs.up2
  refine c_retM (M := ((blk b1 [.slice al es.length cl] 63) :: (row 112 3 (.slice al es.length cl) es.length (el ec (es.take es.length))) :: M)) hk hs fun w hs => ⟨_, res_ok (rs := [.tmp 4]) (vs := [.slice al es.length cl]) hk rfl ⟨rfl, trivial⟩, ?_⟩
  rw [List.take_length] at hs
  have hs := hs.drop
  exact ⟨_, _, rfl, hs⟩
 · rintro _ _ _ _ _ _ _ _ h; exact h.elim
theorem collect_m {F0 : Nat → Prop} {W : World} {M R : List Res} (x : Nat × List Value) (es : List Ev) (rx : Res) (w0 : World) (hs : Sat F0 W M R w0) (hx : DenE x es rx) (hx2 : HasR rx R) (hl : es.length ≤ 1000000000000) : Calls Tryz.prog 114 [.func (.func x.1) #[] (List.toArray x.2)].toArray w0 fun e w => ∃ a c, e = .returned (.slice a es.length c) ∧ Sat F0 W (row 112 3 (.slice a es.length c) es.length (el ec es) :: M) R w := by
 refine c_enter (args := [.func (.func x.1) #[] (List.toArray x.2)]) Tryz.func114 rfl rfl rfl fun a hk => ?_
 refine wS (wR ?_)
 refine q_v hk (w_as rfl) fun a hk => ?_
 refine c_end (x_t (wS (wR ?_)))
 refine q_v hk (w_mv rfl) fun a hk => ?_
 refine q_call (caps := []) hk rfl rfl Tryz.func141 fo141 rfl rfl (appendSeq_m x es rx _ hs hx hx2 hl) ?_
 rintro _ w ⟨a1, c2, rfl, hs⟩
 refine ⟨_, rfl, fun a hk => ?_⟩
 refine q_v hk (w_as rfl) fun a hk => ?_
 refine c_end (x_t ?_)
 refine (wpIn_ret ?_)
 refine c_ret1 hk rfl rfl ?_
 exact ⟨_, _, rfl, hs⟩
theorem since_c (b la : Nat) (lc : Option Addr) (ps : List Nat) (evs : List Ev) (W : World) (HB : (tapeR b lc la ps evs).ok W) (hps : ps.length = (evs.length + 63) / 64) (hn : evs.length ≤ 1000000000000) : Calls Tryz.prog 74 [.pointer (some ⟨b, 0, none⟩), .int .i64 0].toArray W fun e w => ∃ a c, e = .returned (.slice a evs.length c) ∧ Sat no W [row 112 3 (.slice a evs.length c) evs.length (el ec evs)] [] w := by
 refine c_enter (args := [.pointer (some ⟨b, 0, none⟩), .int .i64 0]) Tryz.func74 rfl rfl rfl fun a hk => ?_
 have hs := Sat.start W [tapeR b lc la ps evs] (okr1 HB)
 refine wS (wR ?_)
 refine q_v hk (w_as rfl) fun a hk => ?_
 refine c_end (x_t (wS (wR ?_)))
 refine q_v hk (w_mv rfl) fun a hk => ?_
 refine q_v hk (w_mv rfl) fun a hk => ?_
 refine q_call (caps := []) hk rfl rfl Tryz.func115 fo115 rfl rfl (from_c b _) ?_
 rintro _ w ⟨b1, b2, rfl, hS⟩
 have hs := hs.call2 hS
 clear hS
 refine ⟨_, rfl, fun a hk => ?_⟩
 have hs := hs.up1
 have hs := hs.up1
 have hs := Sat.frzL (l := [blk b1 [.int .i64 0] 3, blk b2 [.pointer (some ⟨b, 0, none⟩)] 60]) hs
 have hd : DenE (142, [.pointer (some ⟨b1, 0, none⟩), .pointer (some ⟨b2, 0, none⟩)]) evs (rall [rall [blk b1 [.int .i64 0] 3, blk b2 [.pointer (some ⟨b, 0, none⟩)] 60], tapeR b lc la ps evs]) := ⟨_, _, _, rfl, Tryz.func142, fo142, from_it b1 b2 b la lc ps evs hps hn⟩
 refine q_call (caps := []) hk rfl rfl Tryz.func114 fo114 rfl rfl (collect_m (142, [.pointer (some ⟨b1, 0, none⟩), .pointer (some ⟨b2, 0, none⟩)]) evs _ _ hs hd (HasR.two (HasR.nth 0 rfl) (HasR.nth 1 rfl)) hn) ?_
 rintro _ w ⟨a3, c4, rfl, hs⟩
 refine ⟨_, rfl, fun a hk => ?_⟩
 refine q_v hk (w_as rfl) fun a hk => ?_
 refine c_end (x_t ?_)
 refine (wpIn_ret ?_)
 refine c_ret1 hk rfl rfl ?_
 exact ⟨_, _, rfl, hs.fin⟩
theorem events_c (b la : Nat) (lc : Option Addr) (ps : List Nat) (evs : List Ev) (W : World) (HB : (tapeR b lc la ps evs).ok W) (hps : ps.length = (evs.length + 63) / 64) (hn : evs.length ≤ 1000000000000) : Calls Tryz.prog 37 [.pointer (some ⟨b, 0, none⟩)].toArray W fun e w => ∃ a c, e = .returned (.slice a evs.length c) ∧ Sat no W [row 112 3 (.slice a evs.length c) evs.length (el ec evs)] [] w := by
 refine c_enter (args := [.pointer (some ⟨b, 0, none⟩)]) Tryz.func37 rfl rfl rfl fun a hk => ?_
 have hs := Sat.start W [tapeR b lc la ps evs] (okr1 HB)
 refine wS (wR ?_)
 refine q_v hk (w_as rfl) fun a hk => ?_
 refine c_end (x_t (wS (wR ?_)))
 refine q_v hk (w_mv rfl) fun a hk => ?_
 refine q_call (caps := []) hk rfl rfl Tryz.func74 fo74 rfl rfl (since_c b la lc ps evs _ ((HasR.nth 0 rfl : HasR (tapeR b lc la ps evs) _).at_ hs) hps hn) ?_
 rintro _ w ⟨a1, c2, rfl, hS⟩
 have hs := hs.call1 hS
 clear hS
 refine ⟨_, rfl, fun a hk => ?_⟩
 refine q_v hk (w_as rfl) fun a hk => ?_
 refine c_end (x_t ?_)
 refine (wpIn_ret ?_)
 refine c_ret1 hk rfl rfl ?_
 exact ⟨_, _, rfl, hs.fin⟩
/-- A tape's events. -/
theorem tevents {b : Nat} {evs : List Ev} {r : Res} {w : World} (hT : TapeIs (some b) evs r) (h : r.ok w) (hn : evs.length ≤ 1000000000000) : Calls Tryz.prog 37 #[.pointer (some ⟨b, 0, none⟩)] w fun e w' => ∃ a c, e = .returned (.slice a evs.length c) ∧ Sat no w [row 112 3 (.slice a evs.length c) evs.length (el ec evs)] [] w' := by
  obtain ⟨la, lc, ps, hps, rfl⟩ := hT
  exact events_c b lc la ps evs w h hps hn
theorem tlen0 {b : Nat} {evs : List Ev} {r : Res} {w : World} (hT : TapeIs (some b) evs r) (h : r.ok w) : Calls Tryz.prog 33 #[.pointer (some ⟨b, 0, none⟩)] w fun e w' => e = .returned (.int .i64 ((evs.length : Nat) : Int)) ∧ Below w.heap.size w w' := by
  obtain ⟨la, lc, ps, hps, rfl⟩ := hT
  exact tlen_s b _ _ _ evs w (tape_parts h).1
end Go.Proofs.YtdnkkbmpefhbjaaGreatDoor
namespace Go.Proofs.YtdnkkbmpefhbjaaGreatDoor
set_option linter.all false
open Go Go.RowKit
theorem refUp_e (kd n : Int) (W : World) (hn : n ≤ 255) : Calls Tryz.prog 96 [.int .i64 kd, .int .i64 n].toArray W fun e w => ∃ la nn lc, e = .returned (.slice la nn lc) ∧ Sat no W [row 112 3 (.slice la nn lc) nn (el ec (upE 0 n fun i => [(kd, i, 0)]))] [] w := by
 refine c_enter (args := [.int .i64 kd, .int .i64 n]) Tryz.func96 rfl rfl rfl fun a hk => ?_
 have hs := Sat.start W [] (fun _ h => by cases h)
 refine wS (wR ?_)
 refine q_v hk (w_as rfl) fun a hk => ?_
 refine c_end (x_t (wS (wR ?_)))
 refine q_v hk (w_as rfl) fun a hk => ?_
 refine c_end (x_t (wS (wS (wR ?_))))
 refine q_v hk (w_as rfl) fun a hk => ?_
 refine c_end (x_t ?_)
 refine wpIn_block ?_
 have hs := hs.row0 112 3
 have hs := hs.rw0 (congrArg (fun q => row 112 3 (.slice none 0 0) 0 (el ec q)) (show ([] : List _) = (upE 0 (0 : Int) fun i => [(kd, i, 0)]) from (upE_nil (by omega)).symm))
 refine c_loop (α := Nat) (fun k a w => ∃ (ak : Option Addr) (nk : Nat) (ck : Nat) (xk : Int), (k ≤ n.toNat ∧ xk = (k : Int)) ∧ Kn [] 19 [(6, .int .i64 xk), (5, .slice ak nk ck), (4, .slice none 0 0), (0, .int .i64 kd), (1, .int .i64 n)] a ∧ Sat no W [row 112 3 (.slice ak nk ck) nk (el ec (upE 0 (k : Int) fun i => [(kd, i, 0)]))] [] w) (fun k => n.toNat - k) 0 ?_ ?_
 · exact ⟨_, _, _, _, ⟨by omega, by omega⟩, hk.k rfl (hk.k rfl (hk.k rfl (hk.k rfl (hk.k rfl hk.nil)))), hs⟩
 rintro k a w ⟨ak, nk, ck, xk, hf0, hk, hs⟩
 have hck := row_cnt (hs.mi 0 rfl)
 have hl := upE_len (fr := 0) (to := (k : Int)) (F := fun i => [(kd, i, 0)]) (B := 1) (fun _ => by simp)
 refine wS (wS (wR ?_))
 refine q_v hk (w_mv rfl) fun a hk => ?_
 refine q_v hk (w_mv rfl) fun a hk => ?_
 rcases Classical.em (xk < n) with hc1 | hc1
 ·
  refine q_v hk (w_lt rfl rfl (decide_eq_true hc1)) fun a hk => ?_
  refine c_end (x_t ?_)
  refine c_T hk rfl ?_
  refine (wpIn_skip (x_t ?_))
  refine wS ?_
  refine wpIn_block ?_
  refine wR ?_
  refine q_v hk (w_mv rfl) fun a hk => ?_
  refine q_v hk (w_mv rfl) fun a hk => ?_
  refine q_v hk (w_mv rfl) fun a hk => ?_
  refine q_v hk (w_bld rfl fl112 zr112 rfl rfl) fun a hk => ?_
  refine q_bsl (els := [.tmp 15]) (cs := [.int .i64 kd, .int .i64 xk, .int .i64 0]) hk hs rfl Tryz.underlying63 ty112 zr112 rfl rfl rfl rfl rfl rfl rfl fun b2 w a hk hs => ?_
  have hs := hs.up1
  refine q_app (news := [.int .i64 kd, .int .i64 xk, .int .i64 0]) (m := 1) hk hs rfl rfl Tryz.underlying63 ty112 zr112 rfl rfl (.blk (n := 3) (hs.mi 1 rfl) rfl) rfl rfl (by omega) (by omega) rfl rfl fun a3 c4 w a hk hs => ?_
  have hs := hs.up1
  have hs := hs.drop
  have hs := hs.rw0 (congrArg _ (el_snoc (c := ec) (l := (upE 0 (k : Int) fun i => [(kd, i, 0)])) (x := (kd, xk, 0))))
  refine q_v hk (w_as rfl) fun a hk => ?_
  refine (c_end (x_b (x_t ?_)))
  refine wR ?_
  refine q_v hk (w_mv rfl) fun a hk => ?_
  refine q_v hk (w_add rfl rfl (wr64 (by omega) (by omega))) fun a hk => ?_
  refine q_v hk (w_as rfl) fun a hk => ?_
  refine c_end (x_t ?_)
  have hs := hs.rw0 (congrArg (fun q => row 112 3 (.slice a3 (nk + 1) c4) (nk + 1) (el ec q)) (show (((upE 0 (k : Int) fun i => [(kd, i, 0)]) ++ [(kd, xk, 0)]) : List _) = (upE 0 ((k + 1 : Nat) : Int) fun i => [(kd, i, 0)]) from by rw [hf0.2]; exact upE_succ (F := fun i => [(kd, i, 0)]) (by omega)))
  exact ⟨k + 1, ⟨_, _, _, _, ⟨by omega, by omega⟩, hk.k rfl (hk.k rfl (hk.k rfl (hk.k rfl (hk.k rfl hk.nil)))), hs⟩, by omega⟩
 ·
  refine q_v hk (w_lt rfl rfl (decide_eq_false hc1)) fun a hk => ?_
  refine c_end (x_t ?_)
  refine c_F hk rfl ?_
  refine (wpIn_exit (x_te (x_te (x_be ?_))))
  refine (x_t ?_)
  refine wS (wR ?_)
  refine q_v hk (w_mv rfl) fun a hk => ?_
  refine q_v hk (w_as rfl) fun a hk => ?_
  refine c_end (x_t ?_)
  refine (wpIn_ret ?_)
  refine c_ret1 hk rfl rfl ?_
  have hs := hs.rw0 (congrArg (fun q => row 112 3 (.slice ak nk ck) nk (el ec q)) (show ((upE 0 (k : Int) fun i => [(kd, i, 0)]) : List _) = (upE 0 n fun i => [(kd, i, 0)]) from upE_to (by omega)))
  exact ⟨_, _, _, rfl, hs.fin⟩
theorem refUp2_e (n : Int) (W : World) (hn : n ≤ 255) : Calls Tryz.prog 96 #[.int .i64 2, .int .i64 n] W fun e w => ∃ la nn lc, e = .returned (.slice la nn lc) ∧ Sat no W [row 112 3 (.slice la nn lc) nn (el ec (upE 0 n coefE))] [] w := refUp_e 2 n W hn
theorem refDown_e (kd n : Int) (W : World) (hn : n ≤ 255) (hn0 : -1000 ≤ n) : Calls Tryz.prog 98 [.int .i64 kd, .int .i64 n].toArray W fun e w => ∃ la nn lc, e = .returned (.slice la nn lc) ∧ Sat no W [row 112 3 (.slice la nn lc) nn (el ec (downE n fun i => [(kd, i, 0)]))] [] w := by
 refine c_enter (args := [.int .i64 kd, .int .i64 n]) Tryz.func98 rfl rfl rfl fun a hk => ?_
 have hs := Sat.start W [] (fun _ h => by cases h)
 refine wS (wR ?_)
 refine q_v hk (w_as rfl) fun a hk => ?_
 refine c_end (x_t (wS (wR ?_)))
 refine q_v hk (w_as rfl) fun a hk => ?_
 refine c_end (x_t (wS (wS (wR ?_))))
 refine q_v hk (w_mv rfl) fun a hk => ?_
 refine q_v hk (w_sub rfl rfl (wr64 (by omega) (by omega))) fun a hk => ?_
 refine q_v hk (w_as rfl) fun a hk => ?_
 refine c_end (x_t ?_)
 refine wpIn_block ?_
 have hs := hs.row0 112 3
 have hs := hs.rw0 (congrArg (fun q => row 112 3 (.slice none 0 0) 0 (el ec q)) (show ([] : List _) = (upE 0 (0 : Int) (fun i => [(kd, n - 1 - i, 0)])) from (upE_nil (by omega)).symm))
 refine c_loop (α := Nat) (fun k a w => ∃ (ak : Option Addr) (nk : Nat) (ck : Nat) (xk : Int), (k ≤ n.toNat ∧ xk = n - 1 - (k : Int)) ∧ Kn [] 20 [(6, .int .i64 xk), (5, .slice ak nk ck), (4, .slice none 0 0), (0, .int .i64 kd)] a ∧ Sat no W [row 112 3 (.slice ak nk ck) nk (el ec (upE 0 (k : Int) (fun i => [(kd, n - 1 - i, 0)])))] [] w) (fun k => n.toNat - k) 0 ?_ ?_
 · exact ⟨_, _, _, _, ⟨by omega, by omega⟩, hk.k rfl (hk.k rfl (hk.k rfl (hk.k rfl hk.nil))), hs⟩
 rintro k a w ⟨ak, nk, ck, xk, hf0, hk, hs⟩
 have hck := row_cnt (hs.mi 0 rfl)
 have hl := upE_len (fr := 0) (to := (k : Int)) (F := (fun i => [(kd, n - 1 - i, 0)])) (B := 1) (fun _ => by simp)
 refine wS (wS (wR ?_))
 refine q_v hk (w_mv rfl) fun a hk => ?_
 rcases Classical.em (0 ≤ xk) with hc1 | hc1
 ·
  refine q_v hk (w_ge rfl rfl (decide_eq_true hc1)) fun a hk => ?_
  refine c_end (x_t ?_)
  refine c_T hk rfl ?_
  refine (wpIn_skip (x_t ?_))
  refine wS ?_
  refine wpIn_block ?_
  refine wR ?_
  refine q_v hk (w_mv rfl) fun a hk => ?_
  refine q_v hk (w_mv rfl) fun a hk => ?_
  refine q_v hk (w_mv rfl) fun a hk => ?_
  refine q_v hk (w_bld rfl fl112 zr112 rfl rfl) fun a hk => ?_
  refine q_bsl (els := [.tmp 16]) (cs := [.int .i64 kd, .int .i64 xk, .int .i64 0]) hk hs rfl Tryz.underlying63 ty112 zr112 rfl rfl rfl rfl rfl rfl rfl fun b2 w a hk hs => ?_
  have hs := hs.up1
  refine q_app (news := [.int .i64 kd, .int .i64 xk, .int .i64 0]) (m := 1) hk hs rfl rfl Tryz.underlying63 ty112 zr112 rfl rfl (.blk (n := 3) (hs.mi 1 rfl) rfl) rfl rfl (by omega) (by omega) rfl rfl fun a3 c4 w a hk hs => ?_
  have hs := hs.up1
  have hs := hs.drop
  have hs := hs.rw0 (congrArg _ (el_snoc (c := ec) (l := (upE 0 (k : Int) (fun i => [(kd, n - 1 - i, 0)]))) (x := (kd, xk, 0))))
  refine q_v hk (w_as rfl) fun a hk => ?_
  refine (c_end (x_b (x_t ?_)))
  refine wR ?_
  refine q_v hk (w_mv rfl) fun a hk => ?_
  refine q_v hk (w_sub rfl rfl (wr64 (by omega) (by omega))) fun a hk => ?_
  refine q_v hk (w_as rfl) fun a hk => ?_
  refine c_end (x_t ?_)
  have hs := hs.rw0 (congrArg (fun q => row 112 3 (.slice a3 (nk + 1) c4) (nk + 1) (el ec q)) (show (((upE 0 (k : Int) (fun i => [(kd, n - 1 - i, 0)])) ++ [(kd, xk, 0)]) : List _) = (upE 0 ((k + 1 : Nat) : Int) (fun i => [(kd, n - 1 - i, 0)])) from by rw [hf0.2]; exact upE_succ (F := (fun i => [(kd, n - 1 - i, 0)])) (by omega)))
  exact ⟨k + 1, ⟨_, _, _, _, ⟨by omega, by omega⟩, hk.k rfl (hk.k rfl (hk.k rfl (hk.k rfl hk.nil))), hs⟩, by omega⟩
 ·
  refine q_v hk (w_ge rfl rfl (decide_eq_false hc1)) fun a hk => ?_
  refine c_end (x_t ?_)
  refine c_F hk rfl ?_
  refine (wpIn_exit (x_te (x_te (x_be ?_))))
  refine (x_t ?_)
  refine wS (wR ?_)
  refine q_v hk (w_mv rfl) fun a hk => ?_
  refine q_v hk (w_as rfl) fun a hk => ?_
  refine c_end (x_t ?_)
  refine (wpIn_ret ?_)
  refine c_ret1 hk rfl rfl ?_
  have hs := hs.rw0 (congrArg (fun q => row 112 3 (.slice ak nk ck) nk (el ec q)) (show ((upE 0 (k : Int) (fun i => [(kd, n - 1 - i, 0)])) : List _) = (downE n fun i => [(kd, i, 0)]) from upE_to (by omega)))
  exact ⟨_, _, _, rfl, hs.fin⟩
theorem refDown2_e (n : Int) (W : World) (hn : n ≤ 255) (hn0 : -1000 ≤ n) : Calls Tryz.prog 98 #[.int .i64 2, .int .i64 n] W fun e w => ∃ la nn lc, e = .returned (.slice la nn lc) ∧ Sat no W [row 112 3 (.slice la nn lc) nn (el ec (downE n coefE))] [] w := refDown_e 2 n W hn hn0
theorem refPairs_false (n : Int) (W : World) (hn : n ≤ 255) : Calls Tryz.prog 134 [.int .i64 n, .int .i64 n, .bool true].toArray W fun e w => ∃ la nn lc, e = .returned (.slice la nn lc) ∧ Sat no W [row 112 3 (.slice la nn lc) nn (el ec (pairsE n false))] [] w := by
 refine c_enter (args := [.int .i64 n, .int .i64 n, .bool true]) Tryz.func134 rfl rfl rfl fun a hk => ?_
 have hs := Sat.start W [] (fun _ h => by cases h)
 refine wS (wR ?_)
 refine q_v hk (w_as rfl) fun a hk => ?_
 refine c_end (x_t (wS (wR ?_)))
 refine q_v hk (w_as rfl) fun a hk => ?_
 refine c_end (x_t (wS (wS (wR ?_))))
 refine q_v hk (w_as rfl) fun a hk => ?_
 refine c_end (x_t ?_)
 refine wpIn_block ?_
 have hs := hs.row0 112 3
 have hs := hs.rw0 (congrArg (fun q => row 112 3 (.slice none 0 0) 0 (el ec q)) (show ([] : List _) = (upE 0 (0 : Int) (fun i => upE 0 n fun k => pairE false i k)) from (upE_nil (by omega)).symm))
 refine c_loop (α := Nat) (fun i a w => ∃ (ai : Option Addr) (ni : Nat) (ci : Nat) (xi : Int), (i ≤ n.toNat ∧ xi = (i : Int)) ∧ Kn [] 34 [(8, .int .i64 xi), (7, .slice ai ni ci), (6, .slice none 0 0), (0, .int .i64 n), (1, .int .i64 n), (2, .bool true)] a ∧ Sat no W [row 112 3 (.slice ai ni ci) ni (el ec (upE 0 (i : Int) (fun i => upE 0 n fun k => pairE false i k)))] [] w) (fun i => n.toNat - i) 0 ?_ ?_
 · exact ⟨_, _, _, _, ⟨by omega, by omega⟩, hk.k rfl (hk.k rfl (hk.k rfl (hk.k rfl (hk.k rfl (hk.k rfl hk.nil))))), hs⟩
 rintro i a w ⟨ai, ni, ci, xi, hf0, hk, hs⟩
 have hci := row_cnt (hs.mi 0 rfl)
 have hl := upE_len (fr := 0) (to := (i : Int)) (F := (fun i => upE 0 n fun k => pairE false i k)) (B := 255) (fun i => by have := up255 (fr := 0) (to := n) (fun k => pairE_len false i k) (by omega) hn; omega)
 have hfo := hf0
 refine wS (wS (wR ?_))
 refine q_v hk (w_mv rfl) fun a hk => ?_
 refine q_v hk (w_mv rfl) fun a hk => ?_
 rcases Classical.em (xi < n) with hc1 | hc1
 ·
  refine q_v hk (w_lt rfl rfl (decide_eq_true hc1)) fun a hk => ?_
  refine c_end (x_t ?_)
  refine c_T hk rfl ?_
  refine (wpIn_skip (x_t ?_))
  refine wS ?_
  refine wpIn_block ?_
  refine wS (wR ?_)
  refine q_v hk (w_as rfl) fun a hk => ?_
  refine c_end (x_t ?_)
  refine wpIn_block ?_
  have hs := hs.rw0 (congrArg (fun q => row 112 3 (.slice ai ni ci) ni (el ec q)) (show ((upE 0 (i : Int) (fun i => upE 0 n fun k => pairE false i k)) : List _) = ((upE 0 (i : Int) (fun i => upE 0 n fun k => pairE false i k)) ++ upE 0 (0 : Int) (fun k => pairE false (i : Int) k)) from by rw [upE_nil (fr := 0) (a := 0) (F := fun k => pairE false (i : Int) k) (by omega), List.append_nil]))
  refine c_loop (α := Nat) (fun k a w => ∃ (ak : Option Addr) (nk : Nat) (ck : Nat) (xk : Int), (k ≤ n.toNat ∧ xk = (k : Int)) ∧ Kn [] 34 [(9, .int .i64 xk), (7, .slice ak nk ck), (12, .bool true), (11, .int .i64 n), (10, .int .i64 xi), (8, .int .i64 xi), (6, .slice none 0 0), (0, .int .i64 n), (1, .int .i64 n), (2, .bool true)] a ∧ Sat no W [row 112 3 (.slice ak nk ck) nk (el ec ((upE 0 (i : Int) (fun i => upE 0 n fun k => pairE false i k)) ++ upE 0 (k : Int) (fun k => pairE false (i : Int) k)))] [] w) (fun k => n.toNat - k) 0 ?_ ?_
  · exact ⟨_, _, _, _, ⟨by omega, by omega⟩, hk.k rfl (hk.k rfl (hk.k rfl (hk.k rfl (hk.k rfl (hk.k rfl (hk.k rfl (hk.k rfl (hk.k rfl (hk.k rfl hk.nil))))))))), hs⟩
  rintro k a w ⟨ak, nk, ck, xk, hf0, hk, hs⟩
  have hck := row_cnt (hs.mi 0 rfl)
  have hl2 := upE_len (fr := 0) (to := (k : Int)) (F := fun k => pairE false (i : Int) k) (B := 1) (fun k => pairE_len false (i : Int) k)
  rw [List.length_append] at hck
  have hf1 := hf0
  have hf0 := hfo
  refine wS (wS (wR ?_))
  refine q_v hk (w_mv rfl) fun a hk => ?_
  refine q_v hk (w_mv rfl) fun a hk => ?_
  rcases Classical.em (xk < n) with hc2 | hc2
  ·
   refine q_v hk (w_lt rfl rfl (decide_eq_true hc2)) fun a hk => ?_
   refine c_end (x_t ?_)
   refine c_T hk rfl ?_
   refine (wpIn_skip (x_t ?_))
   refine wS ?_
   refine wpIn_block ?_
   refine wS (wR ?_)
   refine q_v hk (w_mv rfl) fun a hk => ?_
   refine q_v hk (w_not rfl) fun a hk => ?_
   refine q_v hk (w_mv rfl) fun a hk => ?_
   refine q_v hk (w_mv rfl) fun a hk => ?_
   refine q_v hk (w_mv rfl) fun a hk => ?_
   rcases Classical.em (xi ≠ xk) with hc3 | hc3
   ·
    refine q_v hk (w_ne rfl rfl (decide_eq_true hc3)) fun a hk => ?_
    refine q_v hk (w_pickF rfl rfl) fun a hk => ?_
    refine c_end (x_t ?_)
    refine c_T hk rfl ?_
    refine wR ?_
    refine q_v hk (w_mv rfl) fun a hk => ?_
    refine q_v hk (w_mv rfl) fun a hk => ?_
    refine q_v hk (w_mv rfl) fun a hk => ?_
    refine q_v hk (w_bld rfl fl112 zr112 rfl rfl) fun a hk => ?_
    refine q_bsl (els := [.tmp 30]) (cs := [.int .i64 3, .int .i64 xi, .int .i64 xk]) hk hs rfl Tryz.underlying63 ty112 zr112 rfl rfl rfl rfl rfl rfl rfl fun b4 w a hk hs => ?_
    have hs := hs.up1
    refine q_app (news := [.int .i64 3, .int .i64 xi, .int .i64 xk]) (m := 1) hk hs rfl rfl Tryz.underlying63 ty112 zr112 rfl rfl (.blk (n := 3) (hs.mi 1 rfl) rfl) rfl rfl (by omega) (by omega) rfl rfl fun a5 c6 w a hk hs => ?_
    have hs := hs.up1
    have hs := hs.drop
    have hs := hs.rw0 (congrArg _ (el_snoc (c := ec) (l := ((upE 0 (i : Int) (fun i => upE 0 n fun k => pairE false i k)) ++ upE 0 (k : Int) (fun k => pairE false (i : Int) k))) (x := (3, xi, xk))))
    refine q_v hk (w_as rfl) fun a hk => ?_
    refine (c_end (x_b (x_t ?_)))
    refine wR ?_
    refine q_v hk (w_mv rfl) fun a hk => ?_
    refine q_v hk (w_add rfl rfl (wr64 (by omega) (by omega))) fun a hk => ?_
    refine q_v hk (w_as rfl) fun a hk => ?_
    refine c_end (x_t ?_)
    have hs := hs.rw0 (congrArg (fun q => row 112 3 (.slice a5 (nk + 1) c6) (nk + 1) (el ec q)) (show ((((upE 0 (i : Int) (fun i => upE 0 n fun k => pairE false i k)) ++ upE 0 (k : Int) (fun k => pairE false (i : Int) k)) ++ [(3, xi, xk)]) : List _) = ((upE 0 (i : Int) (fun i => upE 0 n fun k => pairE false i k)) ++ upE 0 ((k + 1 : Nat) : Int) (fun k => pairE false (i : Int) k)) from by rw [show (((k + 1 : Nat) : Int)) = (k : Int) + 1 from rfl, ← upE_succ (F := fun k => pairE false (i : Int) k) (x := (k : Int)) (by omega), ← List.append_assoc]; first | (rw [hf0.2, hf1.2, pairE_ne (by omega)]; done) | (rw [pairE_no (by omega), List.append_nil]; done)))
    exact ⟨k + 1, ⟨_, _, _, _, ⟨by omega, by omega⟩, hk.k rfl (hk.k rfl (hk.k rfl (hk.k rfl (hk.k rfl (hk.k rfl (hk.k rfl (hk.k rfl (hk.k rfl (hk.k rfl hk.nil))))))))), hs⟩, by omega⟩
   ·
    refine q_v hk (w_ne rfl rfl (decide_eq_false hc3)) fun a hk => ?_
    refine q_v hk (w_pickF rfl rfl) fun a hk => ?_
    refine c_end (x_t ?_)
    refine c_F hk rfl ?_
    refine (wpIn_skip (x_b (x_t ?_)))
    refine wR ?_
    refine q_v hk (w_mv rfl) fun a hk => ?_
    refine q_v hk (w_add rfl rfl (wr64 (by omega) (by omega))) fun a hk => ?_
    refine q_v hk (w_as rfl) fun a hk => ?_
    refine c_end (x_t ?_)
    have hs := hs.rw0 (congrArg (fun q => row 112 3 (.slice ak nk ck) nk (el ec q)) (show (((upE 0 (i : Int) (fun i => upE 0 n fun k => pairE false i k)) ++ upE 0 (k : Int) (fun k => pairE false (i : Int) k)) : List _) = ((upE 0 (i : Int) (fun i => upE 0 n fun k => pairE false i k)) ++ upE 0 ((k + 1 : Nat) : Int) (fun k => pairE false (i : Int) k)) from by rw [show (((k + 1 : Nat) : Int)) = (k : Int) + 1 from rfl, ← upE_succ (F := fun k => pairE false (i : Int) k) (x := (k : Int)) (by omega), ← List.append_assoc]; first | (rw [hf0.2, hf1.2, pairE_ne (by omega)]; done) | (rw [pairE_no (by omega), List.append_nil]; done)))
    exact ⟨k + 1, ⟨_, _, _, _, ⟨by omega, by omega⟩, hk.k rfl (hk.k rfl (hk.k rfl (hk.k rfl (hk.k rfl (hk.k rfl (hk.k rfl (hk.k rfl (hk.k rfl (hk.k rfl hk.nil))))))))), hs⟩, by omega⟩
  ·
   refine q_v hk (w_lt rfl rfl (decide_eq_false hc2)) fun a hk => ?_
   refine c_end (x_t ?_)
   refine c_F hk rfl ?_
   refine (wpIn_exit (x_te (x_te (x_be ?_))))
   refine (x_b (x_t ?_))
   refine wR ?_
   refine q_v hk (w_mv rfl) fun a hk => ?_
   refine q_v hk (w_add rfl rfl (wr64 (by omega) (by omega))) fun a hk => ?_
   refine q_v hk (w_as rfl) fun a hk => ?_
   refine c_end (x_t ?_)
   have hs := hs.rw0 (congrArg (fun q => row 112 3 (.slice ak nk ck) nk (el ec q)) (show (((upE 0 (i : Int) (fun i => upE 0 n fun k => pairE false i k)) ++ upE 0 (k : Int) (fun k => pairE false (i : Int) k)) : List _) = (upE 0 ((i + 1 : Nat) : Int) (fun i => upE 0 n fun k => pairE false i k)) from by rw [upE_to (fr := 0) (a := (k : Int)) (b := n) (by omega)]; exact upE_succ (F := (fun i => upE 0 n fun k => pairE false i k)) (x := (i : Int)) (by omega)))
   exact ⟨i + 1, ⟨_, _, _, _, ⟨by omega, by omega⟩, hk.k rfl (hk.k rfl (hk.k rfl (hk.k rfl (hk.k rfl (hk.k rfl hk.nil))))), hs⟩, by omega⟩
 ·
  refine q_v hk (w_lt rfl rfl (decide_eq_false hc1)) fun a hk => ?_
  refine c_end (x_t ?_)
  refine c_F hk rfl ?_
  refine (wpIn_exit (x_te (x_te (x_be ?_))))
  refine (x_t ?_)
  refine wS (wR ?_)
  refine q_v hk (w_mv rfl) fun a hk => ?_
  refine q_v hk (w_as rfl) fun a hk => ?_
  refine c_end (x_t ?_)
  refine (wpIn_ret ?_)
  refine c_ret1 hk rfl rfl ?_
  have hs := hs.rw0 (congrArg (fun q => row 112 3 (.slice ai ni ci) ni (el ec q)) (show ((upE 0 (i : Int) (fun i => upE 0 n fun k => pairE false i k)) : List _) = (pairsE n false) from upE_to (by omega)))
  exact ⟨_, _, _, rfl, hs.fin⟩
theorem refPairs_true (n : Int) (W : World) (hn : n ≤ 255) : Calls Tryz.prog 134 [.int .i64 n, .int .i64 n, .bool false].toArray W fun e w => ∃ la nn lc, e = .returned (.slice la nn lc) ∧ Sat no W [row 112 3 (.slice la nn lc) nn (el ec (pairsE n true))] [] w := by
 refine c_enter (args := [.int .i64 n, .int .i64 n, .bool false]) Tryz.func134 rfl rfl rfl fun a hk => ?_
 have hs := Sat.start W [] (fun _ h => by cases h)
 refine wS (wR ?_)
 refine q_v hk (w_as rfl) fun a hk => ?_
 refine c_end (x_t (wS (wR ?_)))
 refine q_v hk (w_as rfl) fun a hk => ?_
 refine c_end (x_t (wS (wS (wR ?_))))
 refine q_v hk (w_as rfl) fun a hk => ?_
 refine c_end (x_t ?_)
 refine wpIn_block ?_
 have hs := hs.row0 112 3
 have hs := hs.rw0 (congrArg (fun q => row 112 3 (.slice none 0 0) 0 (el ec q)) (show ([] : List _) = (upE 0 (0 : Int) (fun i => upE 0 n fun k => pairE true i k)) from (upE_nil (by omega)).symm))
 refine c_loop (α := Nat) (fun i a w => ∃ (ai : Option Addr) (ni : Nat) (ci : Nat) (xi : Int), (i ≤ n.toNat ∧ xi = (i : Int)) ∧ Kn [] 34 [(8, .int .i64 xi), (7, .slice ai ni ci), (6, .slice none 0 0), (0, .int .i64 n), (1, .int .i64 n), (2, .bool false)] a ∧ Sat no W [row 112 3 (.slice ai ni ci) ni (el ec (upE 0 (i : Int) (fun i => upE 0 n fun k => pairE true i k)))] [] w) (fun i => n.toNat - i) 0 ?_ ?_
 · exact ⟨_, _, _, _, ⟨by omega, by omega⟩, hk.k rfl (hk.k rfl (hk.k rfl (hk.k rfl (hk.k rfl (hk.k rfl hk.nil))))), hs⟩
 rintro i a w ⟨ai, ni, ci, xi, hf0, hk, hs⟩
 have hci := row_cnt (hs.mi 0 rfl)
 have hl := upE_len (fr := 0) (to := (i : Int)) (F := (fun i => upE 0 n fun k => pairE true i k)) (B := 255) (fun i => by have := up255 (fr := 0) (to := n) (fun k => pairE_len true i k) (by omega) hn; omega)
 have hfo := hf0
 refine wS (wS (wR ?_))
 refine q_v hk (w_mv rfl) fun a hk => ?_
 refine q_v hk (w_mv rfl) fun a hk => ?_
 rcases Classical.em (xi < n) with hc1 | hc1
 ·
  refine q_v hk (w_lt rfl rfl (decide_eq_true hc1)) fun a hk => ?_
  refine c_end (x_t ?_)
  refine c_T hk rfl ?_
  refine (wpIn_skip (x_t ?_))
  refine wS ?_
  refine wpIn_block ?_
  refine wS (wR ?_)
  refine q_v hk (w_as rfl) fun a hk => ?_
  refine c_end (x_t ?_)
  refine wpIn_block ?_
  have hs := hs.rw0 (congrArg (fun q => row 112 3 (.slice ai ni ci) ni (el ec q)) (show ((upE 0 (i : Int) (fun i => upE 0 n fun k => pairE true i k)) : List _) = ((upE 0 (i : Int) (fun i => upE 0 n fun k => pairE true i k)) ++ upE 0 (0 : Int) (fun k => pairE true (i : Int) k)) from by rw [upE_nil (fr := 0) (a := 0) (F := fun k => pairE true (i : Int) k) (by omega), List.append_nil]))
  refine c_loop (α := Nat) (fun k a w => ∃ (ak : Option Addr) (nk : Nat) (ck : Nat) (xk : Int), (k ≤ n.toNat ∧ xk = (k : Int)) ∧ Kn [] 34 [(9, .int .i64 xk), (7, .slice ak nk ck), (12, .bool true), (11, .int .i64 n), (10, .int .i64 xi), (8, .int .i64 xi), (6, .slice none 0 0), (0, .int .i64 n), (1, .int .i64 n), (2, .bool false)] a ∧ Sat no W [row 112 3 (.slice ak nk ck) nk (el ec ((upE 0 (i : Int) (fun i => upE 0 n fun k => pairE true i k)) ++ upE 0 (k : Int) (fun k => pairE true (i : Int) k)))] [] w) (fun k => n.toNat - k) 0 ?_ ?_
  · exact ⟨_, _, _, _, ⟨by omega, by omega⟩, hk.k rfl (hk.k rfl (hk.k rfl (hk.k rfl (hk.k rfl (hk.k rfl (hk.k rfl (hk.k rfl (hk.k rfl (hk.k rfl hk.nil))))))))), hs⟩
  rintro k a w ⟨ak, nk, ck, xk, hf0, hk, hs⟩
  have hck := row_cnt (hs.mi 0 rfl)
  have hl2 := upE_len (fr := 0) (to := (k : Int)) (F := fun k => pairE true (i : Int) k) (B := 1) (fun k => pairE_len true (i : Int) k)
  rw [List.length_append] at hck
  have hf1 := hf0
  have hf0 := hfo
  refine wS (wS (wR ?_))
  refine q_v hk (w_mv rfl) fun a hk => ?_
  refine q_v hk (w_mv rfl) fun a hk => ?_
  rcases Classical.em (xk < n) with hc2 | hc2
  ·
   refine q_v hk (w_lt rfl rfl (decide_eq_true hc2)) fun a hk => ?_
   refine c_end (x_t ?_)
   refine c_T hk rfl ?_
   refine (wpIn_skip (x_t ?_))
   refine wS ?_
   refine wpIn_block ?_
   refine wS (wR ?_)
   refine q_v hk (w_mv rfl) fun a hk => ?_
   refine q_v hk (w_not rfl) fun a hk => ?_
   refine q_v hk (w_mv rfl) fun a hk => ?_
   refine q_skip hk rfl rfl fun a hk => ?_
   refine q_skip hk rfl rfl fun a hk => ?_
   refine q_skip hk rfl rfl fun a hk => ?_
   refine q_v hk (w_pickT rfl rfl) fun a hk => ?_
   refine c_end (x_t ?_)
   refine c_T hk rfl ?_
   refine wR ?_
   refine q_v hk (w_mv rfl) fun a hk => ?_
   refine q_v hk (w_mv rfl) fun a hk => ?_
   refine q_v hk (w_mv rfl) fun a hk => ?_
   refine q_v hk (w_bld rfl fl112 zr112 rfl rfl) fun a hk => ?_
   refine q_bsl (els := [.tmp 30]) (cs := [.int .i64 3, .int .i64 xi, .int .i64 xk]) hk hs rfl Tryz.underlying63 ty112 zr112 rfl rfl rfl rfl rfl rfl rfl fun b3 w a hk hs => ?_
   have hs := hs.up1
   refine q_app (news := [.int .i64 3, .int .i64 xi, .int .i64 xk]) (m := 1) hk hs rfl rfl Tryz.underlying63 ty112 zr112 rfl rfl (.blk (n := 3) (hs.mi 1 rfl) rfl) rfl rfl (by omega) (by omega) rfl rfl fun a4 c5 w a hk hs => ?_
   have hs := hs.up1
   have hs := hs.drop
   have hs := hs.rw0 (congrArg _ (el_snoc (c := ec) (l := ((upE 0 (i : Int) (fun i => upE 0 n fun k => pairE true i k)) ++ upE 0 (k : Int) (fun k => pairE true (i : Int) k))) (x := (3, xi, xk))))
   refine q_v hk (w_as rfl) fun a hk => ?_
   refine (c_end (x_b (x_t ?_)))
   refine wR ?_
   refine q_v hk (w_mv rfl) fun a hk => ?_
   refine q_v hk (w_add rfl rfl (wr64 (by omega) (by omega))) fun a hk => ?_
   refine q_v hk (w_as rfl) fun a hk => ?_
   refine c_end (x_t ?_)
   have hs := hs.rw0 (congrArg (fun q => row 112 3 (.slice a4 (nk + 1) c5) (nk + 1) (el ec q)) (show ((((upE 0 (i : Int) (fun i => upE 0 n fun k => pairE true i k)) ++ upE 0 (k : Int) (fun k => pairE true (i : Int) k)) ++ [(3, xi, xk)]) : List _) = ((upE 0 (i : Int) (fun i => upE 0 n fun k => pairE true i k)) ++ upE 0 ((k + 1 : Nat) : Int) (fun k => pairE true (i : Int) k)) from by rw [show (((k + 1 : Nat) : Int)) = (k : Int) + 1 from rfl, ← upE_succ (F := fun k => pairE true (i : Int) k) (x := (k : Int)) (by omega), ← List.append_assoc]; rw [hf0.2, hf1.2, pairE_t]))
   exact ⟨k + 1, ⟨_, _, _, _, ⟨by omega, by omega⟩, hk.k rfl (hk.k rfl (hk.k rfl (hk.k rfl (hk.k rfl (hk.k rfl (hk.k rfl (hk.k rfl (hk.k rfl (hk.k rfl hk.nil))))))))), hs⟩, by omega⟩
  ·
   refine q_v hk (w_lt rfl rfl (decide_eq_false hc2)) fun a hk => ?_
   refine c_end (x_t ?_)
   refine c_F hk rfl ?_
   refine (wpIn_exit (x_te (x_te (x_be ?_))))
   refine (x_b (x_t ?_))
   refine wR ?_
   refine q_v hk (w_mv rfl) fun a hk => ?_
   refine q_v hk (w_add rfl rfl (wr64 (by omega) (by omega))) fun a hk => ?_
   refine q_v hk (w_as rfl) fun a hk => ?_
   refine c_end (x_t ?_)
   have hs := hs.rw0 (congrArg (fun q => row 112 3 (.slice ak nk ck) nk (el ec q)) (show (((upE 0 (i : Int) (fun i => upE 0 n fun k => pairE true i k)) ++ upE 0 (k : Int) (fun k => pairE true (i : Int) k)) : List _) = (upE 0 ((i + 1 : Nat) : Int) (fun i => upE 0 n fun k => pairE true i k)) from by rw [upE_to (fr := 0) (a := (k : Int)) (b := n) (by omega)]; exact upE_succ (F := (fun i => upE 0 n fun k => pairE true i k)) (x := (i : Int)) (by omega)))
   exact ⟨i + 1, ⟨_, _, _, _, ⟨by omega, by omega⟩, hk.k rfl (hk.k rfl (hk.k rfl (hk.k rfl (hk.k rfl (hk.k rfl hk.nil))))), hs⟩, by omega⟩
 ·
  refine q_v hk (w_lt rfl rfl (decide_eq_false hc1)) fun a hk => ?_
  refine c_end (x_t ?_)
  refine c_F hk rfl ?_
  refine (wpIn_exit (x_te (x_te (x_be ?_))))
  refine (x_t ?_)
  refine wS (wR ?_)
  refine q_v hk (w_mv rfl) fun a hk => ?_
  refine q_v hk (w_as rfl) fun a hk => ?_
  refine c_end (x_t ?_)
  refine (wpIn_ret ?_)
  refine c_ret1 hk rfl rfl ?_
  have hs := hs.rw0 (congrArg (fun q => row 112 3 (.slice ai ni ci) ni (el ec q)) (show ((upE 0 (i : Int) (fun i => upE 0 n fun k => pairE true i k)) : List _) = (pairsE n true) from upE_to (by omega)))
  exact ⟨_, _, _, rfl, hs.fin⟩
theorem refPow_e  (W : World)  : Calls Tryz.prog 174 [].toArray W fun e w => ∃ la nn lc, e = .returned (.slice la nn lc) ∧ Sat no W [row 112 3 (.slice la nn lc) nn (el ec (inverseE))] [] w := by
 refine c_enter (args := []) Tryz.func174 rfl rfl rfl fun a hk => ?_
 have hs := Sat.start W [] (fun _ h => by cases h)
 refine wS (wR ?_)
 refine q_v hk (w_as rfl) fun a hk => ?_
 refine c_end (x_t (wS (wR ?_)))
 refine q_v hk (w_as rfl) fun a hk => ?_
 refine c_end (x_t (wS (wS (wR ?_))))
 refine q_v hk (w_as rfl) fun a hk => ?_
 refine c_end (x_t ?_)
 refine wpIn_block ?_
 have hs := hs.row0 112 3
 have hs := hs.rw0 (congrArg (fun q => row 112 3 (.slice none 0 0) 0 (el ec q)) (show ([] : List _) = (upE 0 (0 : Int) (fun i => stepE (64 - 1 - i))) from by rw [upE_nil (fr := 0) (a := 0) (F := (fun i => stepE (64 - 1 - i))) (by omega)]))
 refine c_loop (α := Nat) (fun j a w => ∃ (aj : Option Addr) (nj : Nat) (cj : Nat) (xj : Int), (j ≤ 64 ∧ xj = 63 - (j : Int)) ∧ Kn [] 23 [(2, .int .i64 xj), (1, .slice aj nj cj), (0, .slice none 0 0)] a ∧ Sat no W [row 112 3 (.slice aj nj cj) nj (el ec (upE 0 (j : Int) (fun i => stepE (64 - 1 - i))))] [] w) (fun j => 64 - j) 0 ?_ ?_
 · exact ⟨_, _, _, _, ⟨by omega, by omega⟩, hk.k rfl (hk.k rfl (hk.k rfl hk.nil)), hs⟩
 rintro j a w ⟨aj, nj, cj, xj, hf0, hk, hs⟩
 have hcj := row_cnt (hs.mi 0 rfl)
 have hlj := upE_len (fr := 0) (to := (j : Int)) (F := (fun i => stepE (64 - 1 - i))) (B := 17) (fun _ => step_len _)
 have hfo := hf0
 refine wS (wS (wR ?_))
 refine q_v hk (w_mv rfl) fun a hk => ?_
 rcases Classical.em (0 ≤ xj) with hc1 | hc1
 ·
  refine q_v hk (w_ge rfl rfl (decide_eq_true hc1)) fun a hk => ?_
  refine c_end (x_t ?_)
  refine c_T hk rfl ?_
  refine (wpIn_skip (x_t ?_))
  refine wS ?_
  refine wpIn_block ?_
  refine wS (wR ?_)
  refine q_v hk (w_mv rfl) fun a hk => ?_
  refine q_v hk (w_mv rfl) fun a hk => ?_
  refine q_v hk (w_bld rfl fl112 zr112 rfl rfl) fun a hk => ?_
  refine q_bsl (els := [.tmp 10]) (cs := [.int .i64 6, .int .i64 xj, .int .i64 0]) hk hs rfl Tryz.underlying63 ty112 zr112 rfl rfl rfl rfl rfl rfl rfl fun b2 w a hk hs => ?_
  have hs := hs.up1
  refine q_app (news := [.int .i64 6, .int .i64 xj, .int .i64 0]) (m := 1) hk hs rfl rfl Tryz.underlying63 ty112 zr112 rfl rfl (.blk (n := 3) (hs.mi 1 rfl) rfl) rfl rfl (by omega) (by omega) rfl rfl fun a3 c4 w a hk hs => ?_
  have hs := hs.up1
  have hs := hs.drop
  have hs := hs.rw0 (congrArg _ (el_snoc (c := ec) (l := (upE 0 (j : Int) (fun i => stepE (64 - 1 - i)))) (x := (6, xj, 0))))
  refine q_v hk (w_as rfl) fun a hk => ?_
  refine c_end (x_t (wS (wR ?_)))
  refine q_v hk (w_as rfl) fun a hk => ?_
  refine c_end (x_t ?_)
  refine wpIn_block ?_
  have hs := hs.rw0 (congrArg (fun q => row 112 3 (.slice a3 (nj + 1) c4) (nj + 1) (el ec q)) (show (((upE 0 (j : Int) (fun i => stepE (64 - 1 - i))) ++ [(6, xj, 0)]) : List _) = ((upE 0 (j : Int) (fun i => stepE (64 - 1 - i)) ++ [(6, xj, 0)]) ++ upE 0 (0 : Int) (fun j => [(1, j, 0)])) from by rw [upE_nil (fr := 0) (a := 0) (F := (fun j => [(1, j, 0)])) (by omega), List.append_nil]))
  refine c_loop (α := Nat) (fun k a w => ∃ (ak : Option Addr) (nk : Nat) (ck : Nat) (xk : Int), (k ≤ 16 ∧ xk = (k : Int)) ∧ Kn [] 23 [(3, .int .i64 xk), (1, .slice ak nk ck), (12, .slice a3 (nj + 1) c4), (11, .slice (some ⟨b2, 0, none⟩) 1 1), (10, .agg #[.int .i64 6, .int .i64 xj, .int .i64 0]), (9, .int .i64 xj), (8, .slice aj nj cj), (5, .bool true), (4, .int .i64 xj), (2, .int .i64 xj), (0, .slice none 0 0)] a ∧ Sat no W [row 112 3 (.slice ak nk ck) nk (el ec ((upE 0 (j : Int) (fun i => stepE (64 - 1 - i)) ++ [(6, xj, 0)]) ++ upE 0 (k : Int) (fun j => [(1, j, 0)])))] [] w) (fun k => 16 - k) 0 ?_ ?_
  · exact ⟨_, _, _, _, ⟨by omega, by omega⟩, hk.k rfl (hk.k rfl (hk.k rfl (hk.k rfl (hk.k rfl (hk.k rfl (hk.k rfl (hk.k rfl (hk.k rfl (hk.k rfl (hk.k rfl hk.nil)))))))))), hs⟩
  rintro k a w ⟨ak, nk, ck, xk, hf0, hk, hs⟩
  have hck := row_cnt (hs.mi 0 rfl)
  have hlk := upE_len (fr := 0) (to := (k : Int)) (F := (fun j => [(1, j, 0)])) (B := 1) (fun _ => by simp)
  simp only [List.length_append, List.length_singleton] at hck
  refine wS (wS (wR ?_))
  refine q_v hk (w_mv rfl) fun a hk => ?_
  rcases Classical.em (xk < 16) with hc5 | hc5
  ·
   refine q_v hk (w_lt rfl rfl (decide_eq_true hc5)) fun a hk => ?_
   refine c_end (x_t ?_)
   refine c_T hk rfl ?_
   refine (wpIn_skip (x_t ?_))
   refine wS ?_
   refine wpIn_block ?_
   refine wR ?_
   refine q_v hk (w_mv rfl) fun a hk => ?_
   refine q_v hk (w_mv rfl) fun a hk => ?_
   refine q_v hk (w_bld rfl fl112 zr112 rfl rfl) fun a hk => ?_
   refine q_bsl (els := [.tmp 19]) (cs := [.int .i64 1, .int .i64 xk, .int .i64 0]) hk hs rfl Tryz.underlying63 ty112 zr112 rfl rfl rfl rfl rfl rfl rfl fun b6 w a hk hs => ?_
   have hs := hs.up1
   refine q_app (news := [.int .i64 1, .int .i64 xk, .int .i64 0]) (m := 1) hk hs rfl rfl Tryz.underlying63 ty112 zr112 rfl rfl (.blk (n := 3) (hs.mi 1 rfl) rfl) rfl rfl (by omega) (by omega) rfl rfl fun a7 c8 w a hk hs => ?_
   have hs := hs.up1
   have hs := hs.drop
   have hs := hs.rw0 (congrArg _ (el_snoc (c := ec) (l := ((upE 0 (j : Int) (fun i => stepE (64 - 1 - i)) ++ [(6, xj, 0)]) ++ upE 0 (k : Int) (fun j => [(1, j, 0)]))) (x := (1, xk, 0))))
   refine q_v hk (w_as rfl) fun a hk => ?_
   refine (c_end (x_b (x_t ?_)))
   refine wR ?_
   refine q_v hk (w_mv rfl) fun a hk => ?_
   refine q_v hk (w_add rfl rfl (wr64 (by omega) (by omega))) fun a hk => ?_
   refine q_v hk (w_as rfl) fun a hk => ?_
   refine c_end (x_t ?_)
   have hs := hs.rw0 (congrArg (fun q => row 112 3 (.slice a7 (nk + 1) c8) (nk + 1) (el ec q)) (show ((((upE 0 (j : Int) (fun i => stepE (64 - 1 - i)) ++ [(6, xj, 0)]) ++ upE 0 (k : Int) (fun j => [(1, j, 0)])) ++ [(1, xk, 0)]) : List _) = ((upE 0 (j : Int) (fun i => stepE (64 - 1 - i)) ++ [(6, xj, 0)]) ++ upE 0 ((k + 1 : Nat) : Int) (fun j => [(1, j, 0)])) from by rw [show (((k + 1 : Nat) : Int)) = (k : Int) + 1 from rfl, ← upE_succ (F := (fun j => [(1, j, 0)])) (x := (k : Int)) (by omega), ← List.append_assoc, hf0.2]))
   exact ⟨k + 1, ⟨_, _, _, _, ⟨by omega, by omega⟩, hk.k rfl (hk.k rfl (hk.k rfl (hk.k rfl (hk.k rfl (hk.k rfl (hk.k rfl (hk.k rfl (hk.k rfl (hk.k rfl (hk.k rfl hk.nil)))))))))), hs⟩, by omega⟩
  ·
   refine q_v hk (w_lt rfl rfl (decide_eq_false hc5)) fun a hk => ?_
   refine c_end (x_t ?_)
   refine c_F hk rfl ?_
   refine (wpIn_exit (x_te (x_te (x_be ?_))))
   refine (x_b (x_t ?_))
   refine wR ?_
   refine q_v hk (w_mv rfl) fun a hk => ?_
   refine q_v hk (w_sub rfl rfl (wr64 (by omega) (by omega))) fun a hk => ?_
   refine q_v hk (w_as rfl) fun a hk => ?_
   refine c_end (x_t ?_)
   have hs := hs.rw0 (congrArg (fun q => row 112 3 (.slice ak nk ck) nk (el ec q)) (show (((upE 0 (j : Int) (fun i => stepE (64 - 1 - i)) ++ [(6, xj, 0)]) ++ upE 0 (k : Int) (fun j => [(1, j, 0)])) : List _) = (upE 0 ((j + 1 : Nat) : Int) (fun i => stepE (64 - 1 - i))) from by rw [show (((j + 1 : Nat) : Int)) = (j : Int) + 1 from rfl, ← upE_succ (F := (fun i => stepE (64 - 1 - i))) (x := (j : Int)) (by omega), upE_to (fr := 0) (a := (k : Int)) (b := 16) (by omega), hfo.2, List.append_assoc]; unfold stepE; rw [show (64 - 1 - (j : Int)) = 63 - (j : Int) by omega]))
   exact ⟨j + 1, ⟨_, _, _, _, ⟨by omega, by omega⟩, hk.k rfl (hk.k rfl (hk.k rfl hk.nil)), hs⟩, by omega⟩
 ·
  refine q_v hk (w_ge rfl rfl (decide_eq_false hc1)) fun a hk => ?_
  refine c_end (x_t ?_)
  refine c_F hk rfl ?_
  refine (wpIn_exit (x_te (x_te (x_be ?_))))
  refine (x_t ?_)
  refine wS (wR ?_)
  refine q_v hk (w_mv rfl) fun a hk => ?_
  refine q_v hk (w_as rfl) fun a hk => ?_
  refine c_end (x_t ?_)
  refine (wpIn_ret ?_)
  refine c_ret1 hk rfl rfl ?_
  have hs := hs.rw0 (congrArg (fun q => row 112 3 (.slice aj nj cj) nj (el ec q)) (show ((upE 0 (j : Int) (fun i => stepE (64 - 1 - i))) : List _) = inverseE from by rw [upE_to (fr := 0) (a := (j : Int)) (b := 64) (by omega)]; rfl))
  exact ⟨_, _, _, rfl, hs.fin⟩
def batchE (n : Int) : List Ev := if n = 0 then [] else upE 0 n coefE ++ inverseE ++ downE n coefE
theorem refBatch_e (n : Int) (W : World) (hn : n ≤ 255) (hn0 : -1000 ≤ n) : Calls Tryz.prog 158 [.int .i64 n].toArray W fun e w => ∃ la nn lc, e = .returned (.slice la nn lc) ∧ Sat no W [row 112 3 (.slice la nn lc) nn (el ec (batchE n))] [] w := by
 refine c_enter (args := [.int .i64 n]) Tryz.func158 rfl rfl rfl fun a hk => ?_
 have hs := Sat.start W [] (fun _ h => by cases h)
 refine wS (wR ?_)
 refine q_v hk (w_as rfl) fun a hk => ?_
 refine c_end (x_t (wS (wR ?_)))
 refine q_v hk (w_as rfl) fun a hk => ?_
 refine c_end (x_t (wS (wS (wR ?_))))
 refine q_v hk (w_mv rfl) fun a hk => ?_
 rcases Classical.em (n = 0) with hc1 | hc1
 ·
  refine q_v hk (w_eq rfl rfl (decide_eq_true hc1)) fun a hk => ?_
  refine c_end (x_t ?_)
  refine c_T hk rfl ?_
  refine wS (wR ?_)
  refine q_v hk (w_mv rfl) fun a hk => ?_
  refine q_v hk (w_as rfl) fun a hk => ?_
  refine c_end (x_t ?_)
  refine (wpIn_ret (x_tr ?_))
  refine c_ret1 hk rfl rfl ?_
  have e : batchE n = [] := by unfold batchE; rw [if_pos hc1]
  rw [e]
  have hs := hs.row0 112 3
  exact ⟨_, _, _, rfl, hs.fin⟩
 ·
  refine q_v hk (w_eq rfl rfl (decide_eq_false hc1)) fun a hk => ?_
  refine c_end (x_t ?_)
  refine c_F hk rfl ?_
  refine (wpIn_skip (x_t ?_))
  refine wS (wS (wR ?_))
  refine q_v hk (w_as rfl) fun a hk => ?_
  refine c_end (x_t ?_)
  refine wpIn_block ?_
  have hs := hs.row0 112 3
  have hs := hs.rw0 (congrArg (fun q => row 112 3 (.slice none 0 0) 0 (el ec q)) (show ([] : List _) = (upE 0 (0 : Int) coefE) from by rw [upE_nil (fr := 0) (a := 0) (F := coefE) (by omega)]))
  refine c_loop (α := Nat) (fun k a w => ∃ (ak : Option Addr) (nk : Nat) (ck : Nat) (xk : Int), (k ≤ n.toNat ∧ xk = (k : Int)) ∧ Kn [] 34 [(4, .int .i64 xk), (3, .slice ak nk ck), (2, .slice none 0 0), (0, .int .i64 n)] a ∧ Sat no W [row 112 3 (.slice ak nk ck) nk (el ec (upE 0 (k : Int) coefE))] [] w) (fun k => n.toNat - k) 0 ?_ ?_
  · exact ⟨_, _, _, _, ⟨by omega, by omega⟩, hk.k rfl (hk.k rfl (hk.k rfl (hk.k rfl hk.nil))), hs⟩
  rintro k a w ⟨ak, nk, ck, xk, hf0, hk, hs⟩
  have hck := row_cnt (hs.mi 0 rfl)
  have hlk := upE_len (fr := 0) (to := (k : Int)) (F := coefE) (B := 1) coef_len
  refine wS (wS (wR ?_))
  refine q_v hk (w_mv rfl) fun a hk => ?_
  refine q_v hk (w_mv rfl) fun a hk => ?_
  rcases Classical.em (xk < n) with hc2 | hc2
  ·
   refine q_v hk (w_lt rfl rfl (decide_eq_true hc2)) fun a hk => ?_
   refine c_end (x_t ?_)
   refine c_T hk rfl ?_
   refine (wpIn_skip (x_t ?_))
   refine wS ?_
   refine wpIn_block ?_
   refine wR ?_
   refine q_v hk (w_mv rfl) fun a hk => ?_
   refine q_v hk (w_mv rfl) fun a hk => ?_
   refine q_v hk (w_bld rfl fl112 zr112 rfl rfl) fun a hk => ?_
   refine q_bsl (els := [.tmp 16]) (cs := [.int .i64 2, .int .i64 xk, .int .i64 0]) hk hs rfl Tryz.underlying63 ty112 zr112 rfl rfl rfl rfl rfl rfl rfl fun b3 w a hk hs => ?_
   have hs := hs.up1
   refine q_app (news := [.int .i64 2, .int .i64 xk, .int .i64 0]) (m := 1) hk hs rfl rfl Tryz.underlying63 ty112 zr112 rfl rfl (.blk (n := 3) (hs.mi 1 rfl) rfl) rfl rfl (by omega) (by omega) rfl rfl fun a4 c5 w a hk hs => ?_
   have hs := hs.up1
   have hs := hs.drop
   have hs := hs.rw0 (congrArg _ (el_snoc (c := ec) (l := (upE 0 (k : Int) coefE)) (x := (2, xk, 0))))
   refine q_v hk (w_as rfl) fun a hk => ?_
   refine (c_end (x_b (x_t ?_)))
   refine wR ?_
   refine q_v hk (w_mv rfl) fun a hk => ?_
   refine q_v hk (w_add rfl rfl (wr64 (by omega) (by omega))) fun a hk => ?_
   refine q_v hk (w_as rfl) fun a hk => ?_
   refine c_end (x_t ?_)
   have hs := hs.rw0 (congrArg (fun q => row 112 3 (.slice a4 (nk + 1) c5) (nk + 1) (el ec q)) (show (((upE 0 (k : Int) coefE) ++ [(2, xk, 0)]) : List _) = (upE 0 ((k + 1 : Nat) : Int) coefE) from by rw [show (((k + 1 : Nat) : Int)) = (k : Int) + 1 from rfl, ← upE_succ (F := coefE) (x := (k : Int)) (by omega), hf0.2]; rfl))
   exact ⟨k + 1, ⟨_, _, _, _, ⟨by omega, by omega⟩, hk.k rfl (hk.k rfl (hk.k rfl (hk.k rfl hk.nil))), hs⟩, by omega⟩
  ·
   refine q_v hk (w_lt rfl rfl (decide_eq_false hc2)) fun a hk => ?_
   refine c_end (x_t ?_)
   refine c_F hk rfl ?_
   refine (wpIn_exit (x_te (x_te (x_be ?_))))
   refine (x_t ?_)
   refine wS (wR ?_)
   refine q_v hk (w_mv rfl) fun a hk => ?_
   refine q_call (caps := []) hk rfl rfl Tryz.func174 fo174 rfl rfl (refPow_e _) ?_
   rintro _ w ⟨a6, k7, c8, rfl, hS⟩
   have hs := hs.call1 hS
   clear hS
   refine ⟨_, rfl, fun a hk => ?_⟩
   have hs := hs.up1
   refine q_appL (news := (el ec inverseE)) (mm := k7) hk hs rfl rfl Tryz.underlying63 ty112 zr112 rfl rfl (row_lst (hs.mi 1 rfl))  (el_ones ec_ones) (by have := inverse_len; have := row_cnt (hs.mi 1 rfl); omega) (by have := inverse_len; have := row_cnt (hs.mi 1 rfl); omega) rfl rfl fun a9 c10 w a hk hs => ?_
   have hs := hs.rw0 (congrArg _ (el_app (c := ec) (l := (upE 0 (k : Int) coefE)) (m := inverseE)))
   refine q_v hk (w_as rfl) fun a hk => ?_
   refine c_end (x_t (wS (wS (wR ?_))))
   refine q_v hk (w_mv rfl) fun a hk => ?_
   refine q_v hk (w_sub rfl rfl (wr64 (by omega) (by omega))) fun a hk => ?_
   refine q_v hk (w_as rfl) fun a hk => ?_
   refine c_end (x_t ?_)
   refine wpIn_block ?_
   have hs := hs.rw0 (congrArg (fun q => row 112 3 (.slice a9 (nk + k7) c10) (nk + k7) (el ec q)) (show (((upE 0 (k : Int) coefE) ++ inverseE) : List _) = ((upE 0 (k : Int) coefE ++ inverseE) ++ upE 0 (0 : Int) (fun i => coefE (n - 1 - i))) from by rw [upE_nil (fr := 0) (a := 0) (F := (fun i => coefE (n - 1 - i))) (by omega), List.append_nil]))
   refine c_loop (α := Nat) (fun j a w => ∃ (aj : Option Addr) (nj : Nat) (cj : Nat) (xj : Int), (j ≤ n.toNat ∧ xj = n - 1 - (j : Int)) ∧ Kn [] 34 [(5, .int .i64 xj), (3, .slice aj nj cj), (2, .slice none 0 0)] a ∧ Sat no W [row 112 3 (.slice aj nj cj) nj (el ec ((upE 0 (k : Int) coefE ++ inverseE) ++ upE 0 (j : Int) (fun i => coefE (n - 1 - i)))), row 112 3 (.slice a6 k7 c8) k7 (el ec inverseE)] [] w) (fun j => n.toNat - j) 0 ?_ ?_
   · exact ⟨_, _, _, _, ⟨by omega, by omega⟩, hk.k rfl (hk.k rfl (hk.k rfl hk.nil)), hs⟩
   rintro j a w ⟨aj, nj, cj, xj, hf0, hk, hs⟩
   have hcj := row_cnt (hs.mi 0 rfl)
   have hlj := upE_len (fr := 0) (to := (j : Int)) (F := (fun i => coefE (n - 1 - i))) (B := 1) (fun _ => coef_len _)
   simp only [List.length_append, List.length_singleton] at hcj
   have hli := inverse_len
   refine wS (wS (wR ?_))
   refine q_v hk (w_mv rfl) fun a hk => ?_
   rcases Classical.em (0 ≤ xj) with hc11 | hc11
   ·
    refine q_v hk (w_ge rfl rfl (decide_eq_true hc11)) fun a hk => ?_
    refine c_end (x_t ?_)
    refine c_T hk rfl ?_
    refine (wpIn_skip (x_t ?_))
    refine wS ?_
    refine wpIn_block ?_
    refine wR ?_
    refine q_v hk (w_mv rfl) fun a hk => ?_
    refine q_v hk (w_mv rfl) fun a hk => ?_
    refine q_v hk (w_bld rfl fl112 zr112 rfl rfl) fun a hk => ?_
    refine q_bsl (els := [.tmp 30]) (cs := [.int .i64 2, .int .i64 xj, .int .i64 0]) hk hs rfl Tryz.underlying63 ty112 zr112 rfl rfl rfl rfl rfl rfl rfl fun b12 w a hk hs => ?_
    have hs := hs.up1
    refine q_app (news := [.int .i64 2, .int .i64 xj, .int .i64 0]) (m := 1) hk hs rfl rfl Tryz.underlying63 ty112 zr112 rfl rfl (.blk (n := 3) (hs.mi 1 rfl) rfl) rfl rfl (by omega) (by omega) rfl rfl fun a13 c14 w a hk hs => ?_
    have hs := hs.up1
    have hs := hs.drop
    have hs := hs.rw0 (congrArg _ (el_snoc (c := ec) (l := ((upE 0 (k : Int) coefE ++ inverseE) ++ upE 0 (j : Int) (fun i => coefE (n - 1 - i)))) (x := (2, xj, 0))))
    refine q_v hk (w_as rfl) fun a hk => ?_
    refine (c_end (x_b (x_t ?_)))
    refine wR ?_
    refine q_v hk (w_mv rfl) fun a hk => ?_
    refine q_v hk (w_sub rfl rfl (wr64 (by omega) (by omega))) fun a hk => ?_
    refine q_v hk (w_as rfl) fun a hk => ?_
    refine c_end (x_t ?_)
    have hs := hs.rw0 (congrArg (fun q => row 112 3 (.slice a13 (nj + 1) c14) (nj + 1) (el ec q)) (show ((((upE 0 (k : Int) coefE ++ inverseE) ++ upE 0 (j : Int) (fun i => coefE (n - 1 - i))) ++ [(2, xj, 0)]) : List _) = ((upE 0 (k : Int) coefE ++ inverseE) ++ upE 0 ((j + 1 : Nat) : Int) (fun i => coefE (n - 1 - i))) from by rw [show (((j + 1 : Nat) : Int)) = (j : Int) + 1 from rfl, ← upE_succ (F := (fun i => coefE (n - 1 - i))) (x := (j : Int)) (by omega), ← List.append_assoc, hf0.2]; rfl))
    exact ⟨j + 1, ⟨_, _, _, _, ⟨by omega, by omega⟩, hk.k rfl (hk.k rfl (hk.k rfl hk.nil)), hs⟩, by omega⟩
   ·
    refine q_v hk (w_ge rfl rfl (decide_eq_false hc11)) fun a hk => ?_
    refine c_end (x_t ?_)
    refine c_F hk rfl ?_
    refine (wpIn_exit (x_te (x_te (x_be ?_))))
    refine (x_t ?_)
    refine wS (wR ?_)
    refine q_v hk (w_mv rfl) fun a hk => ?_
    refine q_v hk (w_as rfl) fun a hk => ?_
    refine c_end (x_t ?_)
    refine (wpIn_ret ?_)
    refine c_ret1 hk rfl rfl ?_
    have hs := hs.up1
    have hs := hs.drop
    have hs := hs.rw0 (congrArg (fun q => row 112 3 (.slice aj nj cj) nj (el ec q)) (show (((upE 0 (k : Int) coefE ++ inverseE) ++ upE 0 (j : Int) (fun i => coefE (n - 1 - i))) : List _) = (batchE n) from by unfold batchE; rw [if_neg hc1, upE_to (fr := 0) (a := (k : Int)) (b := n) (by omega), upE_to (fr := 0) (a := (j : Int)) (b := n) (by omega)]; rfl))
    exact ⟨_, _, _, rfl, hs.fin⟩
theorem batch_len {n : Int} (h : n ≤ 255) : (batchE n).length ≤ 2000 := by
  unfold batchE
  split
  · simp
  · have h2 := up255 (fr := 0) (to := n) coef_len (by omega) h
    have h3 := down_len (n := n) coef_len h
    have h4 := inverse_len
    simp only [List.length_append]
    omega
theorem refWeights_e (n : Int) (W : World) (hn : n ≤ 255) (hn0 : -1000 ≤ n) : Calls Tryz.prog 133 [.int .i64 n].toArray W fun e w => ∃ la nn lc, e = .returned (.slice la nn lc) ∧ Sat no W [row 112 3 (.slice la nn lc) nn (el ec (weightsE n))] [] w := by
 refine c_enter (args := [.int .i64 n]) Tryz.func133 rfl rfl rfl fun a hk => ?_
 have hs := Sat.start W [] (fun _ h => by cases h)
 refine wS (wR ?_)
 refine q_v hk (w_as rfl) fun a hk => ?_
 refine c_end (x_t (wS (wR ?_)))
 refine q_v hk (w_mv rfl) fun a hk => ?_
 refine q_v hk (w_mv rfl) fun a hk => ?_
 refine q_call (caps := []) hk rfl rfl Tryz.func134 fo134 rfl rfl (refPairs_false n _ (by omega)) ?_
 rintro _ w ⟨a1, k2, c3, rfl, hS⟩
 have hs := hs.call1 hS
 clear hS
 refine ⟨_, rfl, fun a hk => ?_⟩
 refine q_v hk (w_mv rfl) fun a hk => ?_
 refine q_call (caps := []) hk rfl rfl Tryz.func158 fo158 rfl rfl (refBatch_e n _ (by omega) (by omega)) ?_
 rintro _ w ⟨a4, k5, c6, rfl, hS⟩
 have hs := hs.call1 hS
 clear hS
 refine ⟨_, rfl, fun a hk => ?_⟩
 have hs := hs.up1
 refine q_appL (news := (el ec (batchE n))) (mm := k5) hk hs rfl rfl Tryz.underlying63 ty112 zr112 rfl rfl (row_lst (hs.mi 1 rfl))  (el_ones ec_ones) (by have q0 := row_cnt (hs.mi 0 rfl); have q1 := row_cnt (hs.mi 1 rfl); (try simp only [List.length_append, List.length_singleton] at q0); (try simp only [List.length_append] at q1); have := pairs_len false hn; (try simp only [List.length_append] at this); have := batch_len hn; (try simp only [List.length_append] at this); omega) (by have q0 := row_cnt (hs.mi 0 rfl); have q1 := row_cnt (hs.mi 1 rfl); (try simp only [List.length_append, List.length_singleton] at q0); (try simp only [List.length_append] at q1); have := pairs_len false hn; (try simp only [List.length_append] at this); have := batch_len hn; (try simp only [List.length_append] at this); omega) rfl rfl fun a7 c8 w a hk hs => ?_
 have hs := hs.rw0 (congrArg _ (el_app (c := ec) (l := pairsE n false) (m := batchE n)))
 refine q_v hk (w_as rfl) fun a hk => ?_
 refine c_end (x_t ?_)
 refine (wpIn_ret ?_)
 refine c_ret1 hk rfl rfl ?_
 have hs := hs.up1
 have hs := hs.drop
 have hs := hs.rw0 (congrArg (fun q => row 112 3 (.slice a7 (k2 + k5) c8) (k2 + k5) (el ec q)) (show ((pairsE n false ++ (batchE n)) : List _) = (weightsE n) from weights_eq n))
 exact ⟨_, _, _, rfl, hs.fin⟩
theorem refZero_e (n : Int) (W : World) (hn : n ≤ 255) (hn0 : -1000 ≤ n) : Calls Tryz.prog 95 [.int .i64 n].toArray W fun e w => ∃ la nn lc, e = .returned (.slice la nn lc) ∧ Sat no W [row 112 3 (.slice la nn lc) nn (el ec (weightsE n ++ upE 0 n coefE))] [] w := by
 refine c_enter (args := [.int .i64 n]) Tryz.func95 rfl rfl rfl fun a hk => ?_
 have hs := Sat.start W [] (fun _ h => by cases h)
 refine wS (wR ?_)
 refine q_v hk (w_as rfl) fun a hk => ?_
 refine c_end (x_t (wS (wR ?_)))
 refine q_v hk (w_mv rfl) fun a hk => ?_
 refine q_call (caps := []) hk rfl rfl Tryz.func133 fo133 rfl rfl (refWeights_e n _ (by omega) (by omega)) ?_
 rintro _ w ⟨a1, k2, c3, rfl, hS⟩
 have hs := hs.call1 hS
 clear hS
 refine ⟨_, rfl, fun a hk => ?_⟩
 refine q_v hk (w_mv rfl) fun a hk => ?_
 refine q_call (caps := []) hk rfl rfl Tryz.func96 fo96 rfl rfl (refUp2_e n _ (by omega)) ?_
 rintro _ w ⟨a4, k5, c6, rfl, hS⟩
 have hs := hs.call1 hS
 clear hS
 refine ⟨_, rfl, fun a hk => ?_⟩
 have hs := hs.up1
 refine q_appL (news := (el ec (upE 0 n coefE))) (mm := k5) hk hs rfl rfl Tryz.underlying63 ty112 zr112 rfl rfl (row_lst (hs.mi 1 rfl))  (el_ones ec_ones) (by have q0 := row_cnt (hs.mi 0 rfl); have q1 := row_cnt (hs.mi 1 rfl); (try simp only [List.length_append, List.length_singleton] at q0); (try simp only [List.length_append] at q1); have := weights_len hn; (try simp only [List.length_append] at this); have := up255 (fr := 0) (to := n) coef_len (by omega) hn; (try simp only [List.length_append] at this); omega) (by have q0 := row_cnt (hs.mi 0 rfl); have q1 := row_cnt (hs.mi 1 rfl); (try simp only [List.length_append, List.length_singleton] at q0); (try simp only [List.length_append] at q1); have := weights_len hn; (try simp only [List.length_append] at this); have := up255 (fr := 0) (to := n) coef_len (by omega) hn; (try simp only [List.length_append] at this); omega) rfl rfl fun a7 c8 w a hk hs => ?_
 have hs := hs.rw0 (congrArg _ (el_app (c := ec) (l := weightsE n) (m := upE 0 n coefE)))
 refine q_v hk (w_as rfl) fun a hk => ?_
 refine c_end (x_t ?_)
 refine (wpIn_ret ?_)
 refine c_ret1 hk rfl rfl ?_
 have hs := hs.up1
 have hs := hs.drop
 exact ⟨_, _, _, rfl, hs.fin⟩
theorem refInterp_e (n : Int) (W : World) (hn : n ≤ 255) (hn0 : -1000 ≤ n) : Calls Tryz.prog 97 [.int .i64 n].toArray W fun e w => ∃ la nn lc, e = .returned (.slice la nn lc) ∧ Sat no W [row 112 3 (.slice la nn lc) nn (el ec (interpE n))] [] w := by
 refine c_enter (args := [.int .i64 n]) Tryz.func97 rfl rfl rfl fun a hk => ?_
 have hs := Sat.start W [] (fun _ h => by cases h)
 refine wS (wR ?_)
 refine q_v hk (w_as rfl) fun a hk => ?_
 refine c_end (x_t (wS (wR ?_)))
 refine q_v hk (w_mv rfl) fun a hk => ?_
 refine q_call (caps := []) hk rfl rfl Tryz.func133 fo133 rfl rfl (refWeights_e n _ (by omega) (by omega)) ?_
 rintro _ w ⟨a1, k2, c3, rfl, hS⟩
 have hs := hs.call1 hS
 clear hS
 refine ⟨_, rfl, fun a hk => ?_⟩
 refine q_v hk (w_mv rfl) fun a hk => ?_
 refine q_v hk (w_mv rfl) fun a hk => ?_
 refine q_call (caps := []) hk rfl rfl Tryz.func134 fo134 rfl rfl (refPairs_true n _ (by omega)) ?_
 rintro _ w ⟨a4, k5, c6, rfl, hS⟩
 have hs := hs.call1 hS
 clear hS
 refine ⟨_, rfl, fun a hk => ?_⟩
 have hs := hs.up1
 refine q_appL (news := (el ec (pairsE n true))) (mm := k5) hk hs rfl rfl Tryz.underlying63 ty112 zr112 rfl rfl (row_lst (hs.mi 1 rfl))  (el_ones ec_ones) (by have q0 := row_cnt (hs.mi 0 rfl); have q1 := row_cnt (hs.mi 1 rfl); (try simp only [List.length_append, List.length_singleton] at q0); (try simp only [List.length_append] at q1); have := weights_len hn; (try simp only [List.length_append] at this); have := pairs_len true hn; (try simp only [List.length_append] at this); omega) (by have q0 := row_cnt (hs.mi 0 rfl); have q1 := row_cnt (hs.mi 1 rfl); (try simp only [List.length_append, List.length_singleton] at q0); (try simp only [List.length_append] at q1); have := weights_len hn; (try simp only [List.length_append] at this); have := pairs_len true hn; (try simp only [List.length_append] at this); omega) rfl rfl fun a7 c8 w a hk hs => ?_
 have hs := hs.rw0 (congrArg _ (el_app (c := ec) (l := weightsE n) (m := pairsE n true)))
 refine q_v hk (w_as rfl) fun a hk => ?_
 refine c_end (x_t ?_)
 refine (wpIn_ret ?_)
 refine c_ret1 hk rfl rfl ?_
 have hs := hs.up1
 have hs := hs.drop
 have hs := hs.rw0 (congrArg (fun q => row 112 3 (.slice a7 (k2 + k5) c8) (k2 + k5) (el ec q)) (show ((weightsE n ++ (pairsE n true)) : List _) = (interpE n) from rfl))
 exact ⟨_, _, _, rfl, hs.fin⟩
theorem refEvents_e (t m : Int) (W : World) (hn : t ≤ 255) (hn0 : -1000 ≤ t) (hm : m ≤ 2115) : Calls Tryz.prog 51 [.int .i64 t, .int .i64 m].toArray W fun e w => ∃ la nn lc, e = .returned (.slice la nn lc) ∧ Sat no W [row 112 3 (.slice la nn lc) nn (el ec (combineE t 0 m))] [] w := by
 refine c_enter (args := [.int .i64 t, .int .i64 m]) Tryz.func51 rfl rfl rfl fun a hk => ?_
 have hs := Sat.start W [] (fun _ h => by cases h)
 refine wS (wR ?_)
 refine q_v hk (w_as rfl) fun a hk => ?_
 refine c_end (x_t (wS (wR ?_)))
 refine q_v hk (w_mv rfl) fun a hk => ?_
 refine q_call (caps := []) hk rfl rfl Tryz.func95 fo95 rfl rfl (refZero_e t _ (by omega) (by omega)) ?_
 rintro _ w ⟨a1, k2, c3, rfl, hS⟩
 have hs := hs.call1 hS
 clear hS
 refine ⟨_, rfl, fun a hk => ?_⟩
 refine q_v hk (w_as rfl) fun a hk => ?_
 refine c_end (x_t (wS (wS (wR ?_))))
 refine q_v hk (w_as rfl) fun a hk => ?_
 refine c_end (x_t ?_)
 refine wpIn_block ?_
 have hs := hs.rw0 (congrArg (fun q => row 112 3 (.slice a1 k2 c3) k2 (el ec q)) (show (weightsE t ++ upE 0 t coefE : List _) = ((weightsE t ++ upE 0 t coefE) ++ upE 0 (0 : Int) (fun i => [(4, i, 0)] ++ upE 0 t coefE)) from by rw [upE_nil (fr := 0) (a := 0) (F := (fun i => [(4, i, 0)] ++ upE 0 t coefE)) (by omega), List.append_nil]))
 refine c_loop (α := Nat) (fun j a w => ∃ (aj : Option Addr) (nj : Nat) (cj : Nat) (xj : Int), (j ≤ m.toNat ∧ xj = (j : Int)) ∧ Kn [] 24 [(6, .int .i64 xj), (5, .slice aj nj cj), (4, .slice none 0 0), (0, .int .i64 t), (1, .int .i64 m)] a ∧ Sat no W [row 112 3 (.slice aj nj cj) nj (el ec ((weightsE t ++ upE 0 t coefE) ++ upE 0 (j : Int) (fun i => [(4, i, 0)] ++ upE 0 t coefE)))] [] w) (fun j => m.toNat - j) 0 ?_ ?_
 · exact ⟨_, _, _, _, ⟨by omega, by omega⟩, hk.k rfl (hk.k rfl (hk.k rfl (hk.k rfl (hk.k rfl hk.nil)))), hs⟩
 rintro j a w ⟨aj, nj, cj, xj, hf0, hk, hs⟩
 have hcj := row_cnt (hs.mi 0 rfl)
 have hlj := upE_len (fr := 0) (to := (j : Int)) (F := (fun i => [(4, i, 0)] ++ upE 0 t coefE)) (B := 256) (fun i => by have := up255 (fr := 0) (to := t) coef_len (by omega) hn; rw [List.length_append, List.length_singleton]; omega)
 simp only [List.length_append, List.length_singleton] at hcj
 have hw := weights_len hn
 have hu := up255 (fr := 0) (to := t) coef_len (by omega) hn
 refine wS (wS (wR ?_))
 refine q_v hk (w_mv rfl) fun a hk => ?_
 refine q_v hk (w_mv rfl) fun a hk => ?_
 rcases Classical.em (xj < m) with hc4 | hc4
 ·
  refine q_v hk (w_lt rfl rfl (decide_eq_true hc4)) fun a hk => ?_
  refine c_end (x_t ?_)
  refine c_T hk rfl ?_
  refine (wpIn_skip (x_t ?_))
  refine wS ?_
  refine wpIn_block ?_
  refine wS (wR ?_)
  refine q_v hk (w_mv rfl) fun a hk => ?_
  refine q_v hk (w_mv rfl) fun a hk => ?_
  refine q_v hk (w_bld rfl fl112 zr112 rfl rfl) fun a hk => ?_
  refine q_bsl (els := [.tmp 16]) (cs := [.int .i64 4, .int .i64 xj, .int .i64 0]) hk hs rfl Tryz.underlying63 ty112 zr112 rfl rfl rfl rfl rfl rfl rfl fun b5 w a hk hs => ?_
  have hs := hs.up1
  refine q_app (news := [.int .i64 4, .int .i64 xj, .int .i64 0]) (m := 1) hk hs rfl rfl Tryz.underlying63 ty112 zr112 rfl rfl (.blk (n := 3) (hs.mi 1 rfl) rfl) rfl rfl (by omega) (by omega) rfl rfl fun a6 c7 w a hk hs => ?_
  have hs := hs.up1
  have hs := hs.drop
  have hs := hs.rw0 (congrArg _ (el_snoc (c := ec) (l := ((weightsE t ++ upE 0 t coefE) ++ upE 0 (j : Int) (fun i => [(4, i, 0)] ++ upE 0 t coefE))) (x := (4, xj, 0))))
  refine q_v hk (w_as rfl) fun a hk => ?_
  refine c_end (x_t (wR ?_))
  refine q_v hk (w_mv rfl) fun a hk => ?_
  refine q_v hk (w_mv rfl) fun a hk => ?_
  refine q_call (caps := []) hk rfl rfl Tryz.func96 fo96 rfl rfl (refUp2_e t _ (by omega)) ?_
  rintro _ w ⟨a8, k9, c10, rfl, hS⟩
  have hs := hs.call1 hS
  clear hS
  refine ⟨_, rfl, fun a hk => ?_⟩
  have hs := hs.up1
  refine q_appL (news := (el ec (upE 0 t coefE))) (mm := k9) hk hs rfl rfl Tryz.underlying63 ty112 zr112 rfl rfl (row_lst (hs.mi 1 rfl))  (el_ones ec_ones) (by have q0 := row_cnt (hs.mi 0 rfl); have q1 := row_cnt (hs.mi 1 rfl); (try simp only [List.length_append, List.length_singleton] at q0); (try simp only [List.length_append] at q1); have := up255 (fr := 0) (to := t) coef_len (by omega) hn; (try simp only [List.length_append] at this); have := weights_len hn; (try simp only [List.length_append] at this); omega) (by have q0 := row_cnt (hs.mi 0 rfl); have q1 := row_cnt (hs.mi 1 rfl); (try simp only [List.length_append, List.length_singleton] at q0); (try simp only [List.length_append] at q1); have := up255 (fr := 0) (to := t) coef_len (by omega) hn; (try simp only [List.length_append] at this); have := weights_len hn; (try simp only [List.length_append] at this); omega) rfl rfl fun a11 c12 w a hk hs => ?_
  have hs := hs.rw0 (congrArg _ (el_app (c := ec) (l := (((weightsE t ++ upE 0 t coefE) ++ upE 0 (j : Int) (fun i => [(4, i, 0)] ++ upE 0 t coefE)) ++ [(4, xj, 0)])) (m := upE 0 t coefE)))
  refine q_v hk (w_as rfl) fun a hk => ?_
  refine (c_end (x_b (x_t ?_)))
  refine wR ?_
  refine q_v hk (w_mv rfl) fun a hk => ?_
  refine q_v hk (w_add rfl rfl (wr64 (by omega) (by omega))) fun a hk => ?_
  refine q_v hk (w_as rfl) fun a hk => ?_
  refine c_end (x_t ?_)
  have hs := hs.rw0 (congrArg (fun q => row 112 3 (.slice a11 ((nj + 1) + k9) c12) ((nj + 1) + k9) (el ec q)) (show (((((weightsE t ++ upE 0 t coefE) ++ upE 0 (j : Int) (fun i => [(4, i, 0)] ++ upE 0 t coefE)) ++ [(4, xj, 0)]) ++ (upE 0 t coefE)) : List _) = ((weightsE t ++ upE 0 t coefE) ++ upE 0 ((j + 1 : Nat) : Int) (fun i => [(4, i, 0)] ++ upE 0 t coefE)) from by rw [show (((j + 1 : Nat) : Int)) = (j : Int) + 1 from rfl, ← upE_succ (F := (fun i => [(4, i, 0)] ++ upE 0 t coefE)) (x := (j : Int)) (by omega), ← List.append_assoc, hf0.2]; simp [List.append_assoc]))
  have hs := hs.up1
  have hs := hs.drop
  exact ⟨j + 1, ⟨_, _, _, _, ⟨by omega, by omega⟩, hk.k rfl (hk.k rfl (hk.k rfl (hk.k rfl (hk.k rfl hk.nil)))), hs⟩, by omega⟩
 ·
  refine q_v hk (w_lt rfl rfl (decide_eq_false hc4)) fun a hk => ?_
  refine c_end (x_t ?_)
  refine c_F hk rfl ?_
  refine (wpIn_exit (x_te (x_te (x_be ?_))))
  refine (x_t ?_)
  refine wS (wR ?_)
  refine q_v hk (w_mv rfl) fun a hk => ?_
  refine q_v hk (w_as rfl) fun a hk => ?_
  refine c_end (x_t ?_)
  refine (wpIn_ret ?_)
  refine c_ret1 hk rfl rfl ?_
  have hs := hs.rw0 (congrArg (fun q => row 112 3 (.slice aj nj cj) nj (el ec q)) (show (((weightsE t ++ upE 0 t coefE) ++ upE 0 (j : Int) (fun i => [(4, i, 0)] ++ upE 0 t coefE)) : List _) = (combineE t 0 m) from by rw [upE_to (fr := 0) (a := (j : Int)) (b := m) (by omega)]; rfl))
  exact ⟨_, _, _, rfl, hs.fin⟩
theorem at_len {t : Int} (hn : t ≤ 255) : (interpE t ++ downE t coefE).length ≤ 134000 := by have h1 := interp_len hn; have h2 := down_len (n := t) coef_len hn; rw [List.length_append]; omega
theorem refAt_e (t m : Int) (W : World) (hn : t ≤ 255) (hn0 : -1000 ≤ t) (hm : m ≤ 2115) : Calls Tryz.prog 52 [.int .i64 t, .int .i64 m].toArray W fun e w => ∃ la nn lc, e = .returned (.slice la nn lc) ∧ Sat no W [row 112 3 (.slice la nn lc) nn (el ec (extendE t 0 m))] [] w := by
 refine c_enter (args := [.int .i64 t, .int .i64 m]) Tryz.func52 rfl rfl rfl fun a hk => ?_
 have hs := Sat.start W [] (fun _ h => by cases h)
 refine wS (wR ?_)
 refine q_v hk (w_as rfl) fun a hk => ?_
 refine c_end (x_t (wS (wR ?_)))
 refine q_v hk (w_as rfl) fun a hk => ?_
 refine c_end (x_t (wS (wS (wR ?_))))
 refine q_v hk (w_as rfl) fun a hk => ?_
 refine c_end (x_t ?_)
 refine wpIn_block ?_
 have hs := hs.row0 112 3
 have hs := hs.rw0 (congrArg (fun q => row 112 3 (.slice none 0 0) 0 (el ec q)) (show ([] : List _) = (upE 0 (0 : Int) (fun i => [(4, i, 0)] ++ (interpE t ++ downE t coefE))) from by rw [upE_nil (fr := 0) (a := 0) (F := (fun i => [(4, i, 0)] ++ (interpE t ++ downE t coefE))) (by omega)]))
 refine c_loop (α := Nat) (fun j a w => ∃ (aj : Option Addr) (nj : Nat) (cj : Nat) (xj : Int), (j ≤ m.toNat ∧ xj = (j : Int)) ∧ Kn [] 26 [(6, .int .i64 xj), (5, .slice aj nj cj), (4, .slice none 0 0), (0, .int .i64 t), (1, .int .i64 m)] a ∧ Sat no W [row 112 3 (.slice aj nj cj) nj (el ec (upE 0 (j : Int) (fun i => [(4, i, 0)] ++ (interpE t ++ downE t coefE))))] [] w) (fun j => m.toNat - j) 0 ?_ ?_
 · exact ⟨_, _, _, _, ⟨by omega, by omega⟩, hk.k rfl (hk.k rfl (hk.k rfl (hk.k rfl (hk.k rfl hk.nil)))), hs⟩
 rintro j a w ⟨aj, nj, cj, xj, hf0, hk, hs⟩
 have hcj := row_cnt (hs.mi 0 rfl)
 have hlj := upE_len (fr := 0) (to := (j : Int)) (F := (fun i => [(4, i, 0)] ++ (interpE t ++ downE t coefE))) (B := 134001) (fun i => by have := at_len hn; rw [List.length_append, List.length_singleton]; omega)
 refine wS (wS (wR ?_))
 refine q_v hk (w_mv rfl) fun a hk => ?_
 refine q_v hk (w_mv rfl) fun a hk => ?_
 rcases Classical.em (xj < m) with hc1 | hc1
 ·
  refine q_v hk (w_lt rfl rfl (decide_eq_true hc1)) fun a hk => ?_
  refine c_end (x_t ?_)
  refine c_T hk rfl ?_
  refine (wpIn_skip (x_t ?_))
  refine wS ?_
  refine wpIn_block ?_
  refine wS (wR ?_)
  refine q_v hk (w_mv rfl) fun a hk => ?_
  refine q_v hk (w_mv rfl) fun a hk => ?_
  refine q_v hk (w_bld rfl fl112 zr112 rfl rfl) fun a hk => ?_
  refine q_bsl (els := [.tmp 14]) (cs := [.int .i64 4, .int .i64 xj, .int .i64 0]) hk hs rfl Tryz.underlying63 ty112 zr112 rfl rfl rfl rfl rfl rfl rfl fun b2 w a hk hs => ?_
  have hs := hs.up1
  refine q_app (news := [.int .i64 4, .int .i64 xj, .int .i64 0]) (m := 1) hk hs rfl rfl Tryz.underlying63 ty112 zr112 rfl rfl (.blk (n := 3) (hs.mi 1 rfl) rfl) rfl rfl (by omega) (by omega) rfl rfl fun a3 c4 w a hk hs => ?_
  have hs := hs.up1
  have hs := hs.drop
  have hs := hs.rw0 (congrArg _ (el_snoc (c := ec) (l := (upE 0 (j : Int) (fun i => [(4, i, 0)] ++ (interpE t ++ downE t coefE)))) (x := (4, xj, 0))))
  refine q_v hk (w_as rfl) fun a hk => ?_
  refine c_end (x_t (wS (wR ?_)))
  refine q_v hk (w_mv rfl) fun a hk => ?_
  refine q_v hk (w_mv rfl) fun a hk => ?_
  refine q_call (caps := []) hk rfl rfl Tryz.func97 fo97 rfl rfl (refInterp_e t _ (by omega) (by omega)) ?_
  rintro _ w ⟨a5, k6, c7, rfl, hS⟩
  have hs := hs.call1 hS
  clear hS
  refine ⟨_, rfl, fun a hk => ?_⟩
  have hs := hs.up1
  refine q_appL (news := (el ec (interpE t))) (mm := k6) hk hs rfl rfl Tryz.underlying63 ty112 zr112 rfl rfl (row_lst (hs.mi 1 rfl))  (el_ones ec_ones) (by have q0 := row_cnt (hs.mi 0 rfl); have q1 := row_cnt (hs.mi 1 rfl); (try simp only [List.length_append, List.length_singleton] at q0); (try simp only [List.length_append] at q1); have := interp_len hn; (try simp only [List.length_append] at this); have := down_len (n := t) coef_len hn; (try simp only [List.length_append] at this); omega) (by have q0 := row_cnt (hs.mi 0 rfl); have q1 := row_cnt (hs.mi 1 rfl); (try simp only [List.length_append, List.length_singleton] at q0); (try simp only [List.length_append] at q1); have := interp_len hn; (try simp only [List.length_append] at this); have := down_len (n := t) coef_len hn; (try simp only [List.length_append] at this); omega) rfl rfl fun a8 c9 w a hk hs => ?_
  have hs := hs.rw0 (congrArg _ (el_app (c := ec) (l := ((upE 0 (j : Int) (fun i => [(4, i, 0)] ++ (interpE t ++ downE t coefE))) ++ [(4, xj, 0)])) (m := interpE t)))
  refine q_v hk (w_as rfl) fun a hk => ?_
  refine c_end (x_t (wR ?_))
  refine q_v hk (w_mv rfl) fun a hk => ?_
  refine q_v hk (w_mv rfl) fun a hk => ?_
  refine q_call (caps := []) hk rfl rfl Tryz.func98 fo98 rfl rfl (refDown2_e t _ (by omega) (by omega)) ?_
  rintro _ w ⟨a10, k11, c12, rfl, hS⟩
  have hs := hs.call1 hS
  clear hS
  refine ⟨_, rfl, fun a hk => ?_⟩
  have hs := hs.up1
  refine q_appL (news := (el ec (downE t coefE))) (mm := k11) hk hs rfl rfl Tryz.underlying63 ty112 zr112 rfl rfl (row_lst (hs.mi 1 rfl))  (el_ones ec_ones) (by have q0 := row_cnt (hs.mi 0 rfl); have q1 := row_cnt (hs.mi 1 rfl); (try simp only [List.length_append, List.length_singleton] at q0); (try simp only [List.length_append] at q1); have := interp_len hn; (try simp only [List.length_append] at this); have := down_len (n := t) coef_len hn; (try simp only [List.length_append] at this); omega) (by have q0 := row_cnt (hs.mi 0 rfl); have q1 := row_cnt (hs.mi 1 rfl); (try simp only [List.length_append, List.length_singleton] at q0); (try simp only [List.length_append] at q1); have := interp_len hn; (try simp only [List.length_append] at this); have := down_len (n := t) coef_len hn; (try simp only [List.length_append] at this); omega) rfl rfl fun a13 c14 w a hk hs => ?_
  have hs := hs.rw0 (congrArg _ (el_app (c := ec) (l := (((upE 0 (j : Int) (fun i => [(4, i, 0)] ++ (interpE t ++ downE t coefE))) ++ [(4, xj, 0)]) ++ (interpE t))) (m := downE t coefE)))
  refine q_v hk (w_as rfl) fun a hk => ?_
  refine (c_end (x_b (x_t ?_)))
  refine wR ?_
  refine q_v hk (w_mv rfl) fun a hk => ?_
  refine q_v hk (w_add rfl rfl (wr64 (by omega) (by omega))) fun a hk => ?_
  refine q_v hk (w_as rfl) fun a hk => ?_
  refine c_end (x_t ?_)
  have hs := hs.rw0 (congrArg (fun q => row 112 3 (.slice a13 (((nj + 1) + k6) + k11) c14) (((nj + 1) + k6) + k11) (el ec q)) (show (((((upE 0 (j : Int) (fun i => [(4, i, 0)] ++ (interpE t ++ downE t coefE))) ++ [(4, xj, 0)]) ++ (interpE t)) ++ (downE t coefE)) : List _) = (upE 0 ((j + 1 : Nat) : Int) (fun i => [(4, i, 0)] ++ (interpE t ++ downE t coefE))) from by rw [show (((j + 1 : Nat) : Int)) = (j : Int) + 1 from rfl, ← upE_succ (F := (fun i => [(4, i, 0)] ++ (interpE t ++ downE t coefE))) (x := (j : Int)) (by omega), hf0.2]; simp [List.append_assoc]))
  have hs := hs.up1
  have hs := hs.drop
  have hs := hs.up1
  have hs := hs.drop
  exact ⟨j + 1, ⟨_, _, _, _, ⟨by omega, by omega⟩, hk.k rfl (hk.k rfl (hk.k rfl (hk.k rfl (hk.k rfl hk.nil)))), hs⟩, by omega⟩
 ·
  refine q_v hk (w_lt rfl rfl (decide_eq_false hc1)) fun a hk => ?_
  refine c_end (x_t ?_)
  refine c_F hk rfl ?_
  refine (wpIn_exit (x_te (x_te (x_be ?_))))
  refine (x_t ?_)
  refine wS (wR ?_)
  refine q_v hk (w_mv rfl) fun a hk => ?_
  refine q_v hk (w_as rfl) fun a hk => ?_
  refine c_end (x_t ?_)
  refine (wpIn_ret ?_)
  refine c_ret1 hk rfl rfl ?_
  have hs := hs.rw0 (congrArg (fun q => row 112 3 (.slice aj nj cj) nj (el ec q)) (show ((upE 0 (j : Int) (fun i => [(4, i, 0)] ++ (interpE t ++ downE t coefE))) : List _) = (extendE t 0 m) from upE_to (by omega)))
  exact ⟨_, _, _, rfl, hs.fin⟩
end Go.Proofs.YtdnkkbmpefhbjaaGreatDoor
namespace Go.Proofs.YtdnkkbmpefhbjaaGreatDoor
set_option linter.all false
open Go Go.RowKit
theorem refFirst_c (la ma : Option Addr) (n lc nm mc : Nat) (l m : List Ev) (W : World) (H1 : LstAt W 3 (.slice la n lc) n (el ec l)) (H2 : LstAt W 3 (.slice ma nm mc) nm (el ec m)) (hn : n ≤ 1000000000000) (hnm : nm ≤ 1000000000000) : Calls Tryz.prog 73 [.slice la n lc, .slice ma nm mc].toArray W fun e w => e = .returned (.int .i64 (firstE l m)) ∧ Below W.heap.size W w := by
 have e1 : n = l.length := by have h := H1.len; rw [el_len ec_len] at h; omega
 have e2 : nm = m.length := by have h := H2.len; rw [el_len ec_len] at h; omega
 refine c_enter (args := [.slice la n lc, .slice ma nm mc]) Tryz.func73 rfl rfl rfl fun a hk => ?_
 have hs := Sat.start W [lst 3 (.slice la n lc) n (el ec l), lst 3 (.slice ma nm mc) nm (el ec m)] (okrc H1 (okr1 H2))
 refine wS (wR ?_)
 refine q_v hk (w_as rfl) fun a hk => ?_
 refine c_end (x_t (wS (wR ?_)))
 refine q_v hk (w_as rfl) fun a hk => ?_
 refine c_end (x_t (wS ?_))
 refine wpIn_block ?_
 refine c_loop (α := Nat) (fun k a w => (k ≤ n ∧ k ≤ nm) ∧ l.take k = m.take k ∧ Kn [] 39 [(5, .int .i64 (k : Int)), (0, .slice la n lc), (1, .slice ma nm mc)] a ∧ Sat no W [] [lst 3 (.slice la n lc) n (el ec l), lst 3 (.slice ma nm mc) nm (el ec m)] w) (fun k => n - k) 0 ?_ ?_
 · exact ⟨⟨by omega, by omega⟩, (by simp), hk.k rfl (hk.k rfl (hk.k rfl hk.nil)), hs⟩
 rintro k a w ⟨hf0, hf1, hk, hs⟩
 have hkn := hf0
 refine wS (wS (wR ?_))
 refine q_v hk (w_mv rfl) fun a hk => ?_
 refine q_v hk (w_mv rfl) fun a hk => ?_
 refine q_v hk (w_len rfl Tryz.underlying63) fun a hk => ?_
 rcases Classical.em ((k : Int) < ((n : Nat) : Int)) with hc1 | hc1
 ·
  refine q_v hk (w_lt rfl rfl (decide_eq_true hc1)) fun a hk => ?_
  refine q_v hk (w_mv rfl) fun a hk => ?_
  refine q_v hk (w_mv rfl) fun a hk => ?_
  refine q_v hk (w_mv rfl) fun a hk => ?_
  refine q_v hk (w_len rfl Tryz.underlying63) fun a hk => ?_
  rcases Classical.em ((k : Int) < ((nm : Nat) : Int)) with hc2 | hc2
  ·
   refine q_v hk (w_lt rfl rfl (decide_eq_true hc2)) fun a hk => ?_
   refine q_v hk (w_pickT rfl rfl) fun a hk => ?_
   refine c_end (x_t ?_)
   refine c_T hk rfl ?_
   refine (wpIn_skip (x_t ?_))
   refine wpIn_block ?_
   refine wS (wS ?_)
   rcases Classical.em (l.getD k evz ≠ m.getD k evz) with hc3 | hc3
   ·
    have hne : l.getD k evz ≠ m.getD k evz := hc3
    have hL := okL.cons (hs.ri 0 rfl) (okL.cons (hs.ri 1 rfl) okL.nil)
    refine d_begin _ 9 (by kernel_rfl) rfl hs hL fun w hs hL => ?_
    refine d_w 0 1 hk hL rfl (fun w hL => w_mv rfl) fun a hk => ?_
    refine d_w 1 3 hk hL rfl (fun w hL => w_mv rfl) fun a hk => ?_
    refine d_w 2 7 hk hL rfl (fun w hL => w_iaL (k := k) rfl rfl Tryz.underlying63 ty112 (hL.at 0 rfl) (by omega) (by omega)) fun a hk => ?_
    refine d_w 3 15 hk hL rfl (fun w hL => w_ldA rfl ty112 (lstq (k := k) (hL.at 0 rfl) (by omega) (el_chunk ec_len (by omega) (0, 0, 0))) rfl) fun a hk => ?_
    refine d_w 4 31 hk hL rfl (fun w hL => w_mv rfl) fun a hk => ?_
    refine d_w 5 63 hk hL rfl (fun w hL => w_mv rfl) fun a hk => ?_
    refine d_w 6 127 hk hL rfl (fun w hL => w_iaL (k := k) rfl rfl Tryz.underlying63 ty112 (hL.at 1 rfl) (by omega) (by omega)) fun a hk => ?_
    refine d_w 7 255 hk hL rfl (fun w hL => w_ldA rfl ty112 (lstq (k := k) (hL.at 1 rfl) (by omega) (el_chunk ec_len (by omega) (0, 0, 0))) rfl) fun a hk => ?_
    refine d_w 8 511 hk hL rfl (fun w hL => w_ene (nb := 8) rfl rfl (by kernel_rfl) (by kernel_rfl) Tryz.underlying3 ty3 (by kernel_rfl) (decide_eq_true hc3)) fun a hk => ?_
    refine d_end (by kernel_rfl) ?_
    refine (x_t ?_)
    refine c_T hk rfl ?_
    refine wS (wR ?_)
    refine q_v hk (w_mv rfl) fun a hk => ?_
    refine q_v hk (w_as rfl) fun a hk => ?_
    refine c_end (x_t ?_)
    refine (wpIn_ret (x_tr (x_br (x_tr (x_br (x_tr ?_))))))
    refine c_ret1 hk rfl rfl ?_
    have hz : firstE l m = ((k : Nat) : Int) := firstE_ne (by omega) (by omega) hf1 (fun e => hne (by rw [e])) (.inr (.inr (by rw [getD_some (l := l) (d := evz) (by omega), getD_some (l := m) (d := evz) (by omega)]; exact fun e => hne (Option.some.inj e))))
    exact ⟨by rw [hz], hs.toBelow⟩
   ·
    have hn1 : l.take (k + 1) = m.take (k + 1) := take_next (getD_some (d := evz) (by omega)) (by rw [getD_some (l := m) (d := evz) (by omega)]; exact congrArg some (Classical.not_not.1 hc3).symm) hf1
    have hL := okL.cons (hs.ri 0 rfl) (okL.cons (hs.ri 1 rfl) okL.nil)
    refine d_begin _ 9 (by kernel_rfl) rfl hs hL fun w hs hL => ?_
    refine d_w 0 1 hk hL rfl (fun w hL => w_mv rfl) fun a hk => ?_
    refine d_w 1 3 hk hL rfl (fun w hL => w_mv rfl) fun a hk => ?_
    refine d_w 2 7 hk hL rfl (fun w hL => w_iaL (k := k) rfl rfl Tryz.underlying63 ty112 (hL.at 0 rfl) (by omega) (by omega)) fun a hk => ?_
    refine d_w 3 15 hk hL rfl (fun w hL => w_ldA rfl ty112 (lstq (k := k) (hL.at 0 rfl) (by omega) (el_chunk ec_len (by omega) (0, 0, 0))) rfl) fun a hk => ?_
    refine d_w 4 31 hk hL rfl (fun w hL => w_mv rfl) fun a hk => ?_
    refine d_w 5 63 hk hL rfl (fun w hL => w_mv rfl) fun a hk => ?_
    refine d_w 6 127 hk hL rfl (fun w hL => w_iaL (k := k) rfl rfl Tryz.underlying63 ty112 (hL.at 1 rfl) (by omega) (by omega)) fun a hk => ?_
    refine d_w 7 255 hk hL rfl (fun w hL => w_ldA rfl ty112 (lstq (k := k) (hL.at 1 rfl) (by omega) (el_chunk ec_len (by omega) (0, 0, 0))) rfl) fun a hk => ?_
    refine d_w 8 511 hk hL rfl (fun w hL => w_ene (nb := 8) rfl rfl (by kernel_rfl) (by kernel_rfl) Tryz.underlying3 ty3 (by kernel_rfl) (decide_eq_false hc3)) fun a hk => ?_
    refine d_end (by kernel_rfl) ?_
    refine (x_t ?_)
    refine c_F hk rfl ?_
    refine (wpIn_skip (x_t ?_))
    refine wR ?_
    refine q_v hk (w_mv rfl) fun a hk => ?_
    refine q_v hk (w_add rfl rfl (wr64 (by omega) (by omega))) fun a hk => ?_
    refine q_v hk (w_as rfl) fun a hk => ?_
    refine (c_end (x_b (x_t ?_)))
    exact ⟨k + 1, ⟨⟨by omega, by omega⟩, hn1, hk.k rfl (hk.k rfl (hk.k rfl hk.nil)), hs⟩, by omega⟩
  ·
   refine q_v hk (w_lt rfl rfl (decide_eq_false hc2)) fun a hk => ?_
   refine q_v hk (w_pickT rfl rfl) fun a hk => ?_
   refine c_end (x_t ?_)
   refine c_F hk rfl ?_
   refine (wpIn_exit (x_te (x_te (x_be ?_))))
   refine (x_t ?_)
   refine wS (wS (wR ?_))
   refine q_v hk (w_mv rfl) fun a hk => ?_
   refine q_v hk (w_mv rfl) fun a hk => ?_
   refine q_v hk (w_len rfl Tryz.underlying63) fun a hk => ?_
   rcases Classical.em ((k : Int) = ((n : Nat) : Int)) with hc4 | hc4
   ·
    refine q_v hk (w_eq rfl rfl (decide_eq_true hc4)) fun a hk => ?_
    refine q_v hk (w_mv rfl) fun a hk => ?_
    refine q_v hk (w_mv rfl) fun a hk => ?_
    refine q_v hk (w_mv rfl) fun a hk => ?_
    refine q_v hk (w_len rfl Tryz.underlying63) fun a hk => ?_
    rcases Classical.em ((k : Int) = ((nm : Nat) : Int)) with hc5 | hc5
    ·
     refine q_v hk (w_eq rfl rfl (decide_eq_true hc5)) fun a hk => ?_
     refine q_v hk (w_pickT rfl rfl) fun a hk => ?_
     refine c_end (x_t ?_)
     refine c_T hk rfl ?_
     refine wS (wR ?_)
     refine q_v hk (w_as rfl) fun a hk => ?_
     refine c_end (x_t ?_)
     refine (wpIn_ret (x_tr ?_))
     refine c_ret1 hk rfl rfl ?_
     have e : l = m := by have h := hf1; rw [List.take_of_length_le (by omega), List.take_of_length_le (by omega)] at h; exact h
     exact ⟨by rw [e, firstE_eq], hs.toBelow⟩
    ·
     refine q_v hk (w_eq rfl rfl (decide_eq_false hc5)) fun a hk => ?_
     refine q_v hk (w_pickT rfl rfl) fun a hk => ?_
     refine c_end (x_t ?_)
     refine c_F hk rfl ?_
     refine (wpIn_skip (x_t ?_))
     refine wS (wR ?_)
     refine q_v hk (w_mv rfl) fun a hk => ?_
     refine q_v hk (w_as rfl) fun a hk => ?_
     refine c_end (x_t ?_)
     refine (wpIn_ret ?_)
     refine c_ret1 hk rfl rfl ?_
     have hz : firstE l m = ((k : Nat) : Int) := firstE_ne (by omega) (by omega) hf1 (fun e => by have := congrArg List.length e; omega) (by omega)
     exact ⟨by rw [hz], hs.toBelow⟩
   ·
    refine q_v hk (w_eq rfl rfl (decide_eq_false hc4)) fun a hk => ?_
    refine q_v hk (w_mv rfl) fun a hk => ?_
    refine q_skip hk rfl rfl fun a hk => ?_
    refine q_skip hk rfl rfl fun a hk => ?_
    refine q_skip hk rfl rfl fun a hk => ?_
    refine q_skip hk rfl rfl fun a hk => ?_
    refine q_v hk (w_pickF rfl rfl) fun a hk => ?_
    refine c_end (x_t ?_)
    refine c_F hk rfl ?_
    refine (wpIn_skip (x_t ?_))
    refine wS (wR ?_)
    refine q_v hk (w_mv rfl) fun a hk => ?_
    refine q_v hk (w_as rfl) fun a hk => ?_
    refine c_end (x_t ?_)
    refine (wpIn_ret ?_)
    refine c_ret1 hk rfl rfl ?_
    have hz : firstE l m = ((k : Nat) : Int) := firstE_ne (by omega) (by omega) hf1 (fun e => by have := congrArg List.length e; omega) (by omega)
    exact ⟨by rw [hz], hs.toBelow⟩
 ·
  refine q_v hk (w_lt rfl rfl (decide_eq_false hc1)) fun a hk => ?_
  refine q_v hk (w_mv rfl) fun a hk => ?_
  refine q_skip hk rfl rfl fun a hk => ?_
  refine q_skip hk rfl rfl fun a hk => ?_
  refine q_skip hk rfl rfl fun a hk => ?_
  refine q_skip hk rfl rfl fun a hk => ?_
  refine q_v hk (w_pickF rfl rfl) fun a hk => ?_
  refine c_end (x_t ?_)
  refine c_F hk rfl ?_
  refine (wpIn_exit (x_te (x_te (x_be ?_))))
  refine (x_t ?_)
  refine wS (wS (wR ?_))
  refine q_v hk (w_mv rfl) fun a hk => ?_
  refine q_v hk (w_mv rfl) fun a hk => ?_
  refine q_v hk (w_len rfl Tryz.underlying63) fun a hk => ?_
  rcases Classical.em ((k : Int) = ((n : Nat) : Int)) with hc6 | hc6
  ·
   refine q_v hk (w_eq rfl rfl (decide_eq_true hc6)) fun a hk => ?_
   refine q_v hk (w_mv rfl) fun a hk => ?_
   refine q_v hk (w_mv rfl) fun a hk => ?_
   refine q_v hk (w_mv rfl) fun a hk => ?_
   refine q_v hk (w_len rfl Tryz.underlying63) fun a hk => ?_
   rcases Classical.em ((k : Int) = ((nm : Nat) : Int)) with hc7 | hc7
   ·
    refine q_v hk (w_eq rfl rfl (decide_eq_true hc7)) fun a hk => ?_
    refine q_v hk (w_pickT rfl rfl) fun a hk => ?_
    refine c_end (x_t ?_)
    refine c_T hk rfl ?_
    refine wS (wR ?_)
    refine q_v hk (w_as rfl) fun a hk => ?_
    refine c_end (x_t ?_)
    refine (wpIn_ret (x_tr ?_))
    refine c_ret1 hk rfl rfl ?_
    have e : l = m := by have h := hf1; rw [List.take_of_length_le (by omega), List.take_of_length_le (by omega)] at h; exact h
    exact ⟨by rw [e, firstE_eq], hs.toBelow⟩
   ·
    refine q_v hk (w_eq rfl rfl (decide_eq_false hc7)) fun a hk => ?_
    refine q_v hk (w_pickT rfl rfl) fun a hk => ?_
    refine c_end (x_t ?_)
    refine c_F hk rfl ?_
    refine (wpIn_skip (x_t ?_))
    refine wS (wR ?_)
    refine q_v hk (w_mv rfl) fun a hk => ?_
    refine q_v hk (w_as rfl) fun a hk => ?_
    refine c_end (x_t ?_)
    refine (wpIn_ret ?_)
    refine c_ret1 hk rfl rfl ?_
    have hz : firstE l m = ((k : Nat) : Int) := firstE_ne (by omega) (by omega) hf1 (fun e => by have := congrArg List.length e; omega) (by omega)
    exact ⟨by rw [hz], hs.toBelow⟩
  ·
   refine q_v hk (w_eq rfl rfl (decide_eq_false hc6)) fun a hk => ?_
   refine q_v hk (w_mv rfl) fun a hk => ?_
   refine q_skip hk rfl rfl fun a hk => ?_
   refine q_skip hk rfl rfl fun a hk => ?_
   refine q_skip hk rfl rfl fun a hk => ?_
   refine q_skip hk rfl rfl fun a hk => ?_
   refine q_v hk (w_pickF rfl rfl) fun a hk => ?_
   refine c_end (x_t ?_)
   refine c_F hk rfl ?_
   refine (wpIn_skip (x_t ?_))
   refine wS (wR ?_)
   refine q_v hk (w_mv rfl) fun a hk => ?_
   refine q_v hk (w_as rfl) fun a hk => ?_
   refine c_end (x_t ?_)
   refine (wpIn_ret ?_)
   refine c_ret1 hk rfl rfl ?_
   have hz : firstE l m = ((k : Nat) : Int) := firstE_ne (by omega) (by omega) hf1 (fun e => by have := congrArg List.length e; omega) (by omega)
   exact ⟨by rw [hz], hs.toBelow⟩
theorem firstE_iff (l m : List Ev) : firstE l m = -1 ↔ l = m := by
  unfold firstE
  split
  · simp_all
  · simp_all
theorem refSame_c (la ma : Option Addr) (n lc nm mc : Nat) (l m : List Ev) (W : World) (H1 : LstAt W 3 (.slice la n lc) n (el ec l)) (H2 : LstAt W 3 (.slice ma nm mc) nm (el ec m)) (hn : n ≤ 1000000000000) (hnm : nm ≤ 1000000000000) : Calls Tryz.prog 36 [.slice la n lc, .slice ma nm mc].toArray W fun e w => e = .returned (.bool (decide (l = m))) ∧ Below W.heap.size W w := by
 refine c_enter (args := [.slice la n lc, .slice ma nm mc]) Tryz.func36 rfl rfl rfl fun a hk => ?_
 have hs := Sat.start W [lst 3 (.slice la n lc) n (el ec l), lst 3 (.slice ma nm mc) nm (el ec m)] (okrc H1 (okr1 H2))
 refine wS (wR ?_)
 refine q_v hk (w_as rfl) fun a hk => ?_
 refine c_end (x_t (wS (wR ?_)))
 refine q_v hk (w_mv rfl) fun a hk => ?_
 refine q_v hk (w_mv rfl) fun a hk => ?_
 refine q_call (caps := []) hk rfl rfl Tryz.func73 fo73 rfl rfl (refFirst_c _ _ _ _ _ _ l m _ (hs.ri 0 rfl) (hs.ri 1 rfl) hn hnm) ?_
 rintro _ w ⟨rfl, hb⟩
 have hs := hs.below hb
 refine ⟨_, rfl, fun a hk => ?_⟩
 rcases Classical.em ((firstE l m) = (-1)) with hc1 | hc1
 ·
  refine q_v hk (w_eq rfl rfl (decide_eq_true hc1)) fun a hk => ?_
  refine q_v hk (w_as rfl) fun a hk => ?_
  refine c_end (x_t ?_)
  refine (wpIn_ret ?_)
  refine c_ret1 hk rfl rfl ?_
  exact ⟨by rw [decide_eq_true ((firstE_iff l m).1 hc1)], hs.toBelow⟩
 ·
  refine q_v hk (w_eq rfl rfl (decide_eq_false hc1)) fun a hk => ?_
  refine q_v hk (w_as rfl) fun a hk => ?_
  refine c_end (x_t ?_)
  refine (wpIn_ret ?_)
  refine c_ret1 hk rfl rfl ?_
  exact ⟨by rw [decide_eq_false (fun e => hc1 ((firstE_iff l m).2 e))], hs.toBelow⟩
end Go.Proofs.YtdnkkbmpefhbjaaGreatDoor
namespace Go.Proofs.YtdnkkbmpefhbjaaGreatDoor
set_option linter.all false
open Go Go.RowKit Alg
theorem tlenZ {b : Nat} {r : Res} {w : World} (hT : TapeIs (some b) [] r) (h : r.ok w) : Calls Tryz.prog 33 #[.pointer (some ⟨b, 0, none⟩)] w fun e w' => e = .returned (.int .i64 0) ∧ Below w.heap.size w w' := tlen0 hT h
/-- Equal lists of events. -/
theorem sameE {la ma : Option Addr} {n lc nm mc : Nat} {l m : List Ev} {w : World} (H1 : LstAt w 3 (.slice la n lc) n (el ec l)) (H2 : LstAt w 3 (.slice ma nm mc) nm (el ec m)) (h : l = m) (hl : l.length ≤ 100000000) : Calls Tryz.prog 36 #[.slice la n lc, .slice ma nm mc] w fun e w' => e = .returned (.bool true) ∧ Below w.heap.size w w' := by
  subst h
  have e1 := H1.len
  have e2 := H2.len
  rw [el_len ec_len] at e1 e2
  have h := refSame_c la ma n lc nm mc l l w H1 H2 (by omega) (by omega)
  rw [decide_eq_true rfl] at h
  exact h
end Go.Proofs.YtdnkkbmpefhbjaaGreatDoor
namespace Go.Proofs.YtdnkkbmpefhbjaaGreatDoor
set_option linter.all false
open Go Go.RowKit Alg
theorem each4 {c : Nat} {l : List Ev} {B : Nat} (h : l.length ≤ B) (hc : c ≤ 4) : (eachE (c : Int) l).length ≤ 4 * (B + 1) := by
  have := upE_len (fr := 0) (to := (c : Int)) (F := fun k => [(4, k, 0)] ++ l) (B := B + 1) (fun i => by rw [List.length_append, List.length_singleton]; omega)
  have h2 : ((c : Int) - 0).toNat * (B + 1) ≤ 4 * (B + 1) := Nat.mul_le_mul_right _ (by omega)
  exact Nat.le_trans this h2
theorem valsE_len {th n : Nat} (h1 : th ≤ 255) (h2 : n ≤ 4) : (valsE th n).length ≤ 1000000 := by
  have a := weights_len (n := (th : Int)) (by omega)
  have b := up255 (fr := 0) (to := (th : Int)) coef_len (by omega) (by omega)
  have c := each4 (c := n) b h2
  unfold valsE
  simp only [List.length_append]
  omega
theorem atE_len {th n : Nat} (h1 : th ≤ 255) (h2 : n ≤ 4) : (atE th n).length ≤ 1000000 := by
  have a := at_len (t := (th : Int)) (by omega)
  have c := each4 (c := n) a h2
  unfold atE
  omega
theorem lawJEv_big (m lc : Nat) (la : Option Addr) (S : Nat → Shr) (W : World) (HS : (shareR la m lc S).ok W) (HL : Laid W) (hg : 0 < lrg S m) : Calls Tryz.prog 13 [.slice la m lc].toArray W fun e w => e = .returned (.bool true) ∧ Below W.heap.size W w := by
 refine c_enter (args := [.slice la m lc]) Tryz.func13 rfl rfl rfl fun a hk => ?_
 have hs := Sat.start W [shareR la m lc S, laidR] (okrc HS (okr1 (laidR_ok HL)))
 refine wS (wR ?_)
 refine q_v hk (w_as rfl) fun a hk => ?_
 refine c_end (x_t (wS (wS (wR ?_))))
 refine q_v hk (w_mv rfl) fun a hk => ?_
 refine q_call (caps := []) hk rfl rfl Tryz.func15 fo15 rfl rfl (large_c m lc la S _ ((HasR.nth 0 rfl : HasR (shareR la m lc S) _).at_ hs)) ?_
 rintro _ w ⟨rfl, hb⟩
 have hs := hs.below hb
 refine ⟨_, rfl, fun a hk => ?_⟩
 refine q_v hk (w_gt rfl rfl (decide_eq_true hg)) fun a hk => ?_
 refine c_end (x_t ?_)
 refine c_T hk rfl ?_
 refine wS (wR ?_)
 refine q_call (caps := []) hk rfl rfl Tryz.func40 fo40 rfl rfl (alive17_c _ ((HasR.nth 1 rfl : HasR laidR _).at_ hs)) ?_
 rintro _ w ⟨rfl, hb⟩
 have hs := hs.below hb
 refine ⟨_, rfl, fun a hk => ?_⟩
 refine q_v hk (w_as rfl) fun a hk => ?_
 refine c_end (x_t ?_)
 refine (wpIn_ret (x_tr ?_))
 refine c_ret1 hk rfl rfl ?_
 exact ⟨rfl, hs.toBelow⟩
theorem lawJEv_bad (m lc : Nat) (la : Option Addr) (S : Nat → Shr) (W : World) (HS : (shareR la m lc S).ok W) (HL : Laid W) (hg : ¬ 0 < lrg S m) (HO : ShOk S m) (hm : m ≤ 12) (hz : csErr S m ≠ 0) : Calls Tryz.prog 13 [.slice la m lc].toArray W fun e w => e = .returned (.bool true) ∧ Below W.heap.size W w := by
 refine c_enter (args := [.slice la m lc]) Tryz.func13 rfl rfl rfl fun a hk => ?_
 have hs := Sat.start W [shareR la m lc S, laidR] (okrc HS (okr1 (laidR_ok HL)))
 refine wS (wR ?_)
 refine q_v hk (w_as rfl) fun a hk => ?_
 refine c_end (x_t (wS (wS (wR ?_))))
 refine q_v hk (w_mv rfl) fun a hk => ?_
 refine q_call (caps := []) hk rfl rfl Tryz.func15 fo15 rfl rfl (large_c m lc la S _ ((HasR.nth 0 rfl : HasR (shareR la m lc S) _).at_ hs)) ?_
 rintro _ w ⟨rfl, hb⟩
 have hs := hs.below hb
 refine ⟨_, rfl, fun a hk => ?_⟩
 refine q_v hk (w_gt rfl rfl (decide_eq_false hg)) fun a hk => ?_
 refine c_end (x_t ?_)
 refine c_F hk rfl ?_
 refine (wpIn_skip (x_t ?_))
 refine wS (wR ?_)
 refine q_call (caps := []) hk rfl rfl Tryz.func32 fo32 rfl rfl (newTape_m _ hs) ?_
 rintro _ w ⟨b1, r2, rfl, ht3, hs⟩
 have hT_b1 := ht3
 refine ⟨_, rfl, fun a hk => ?_⟩
 refine q_call (caps := []) hk rfl rfl Tryz.func32 fo32 rfl rfl (newTape_m _ hs) ?_
 rintro _ w ⟨b4, r5, rfl, ht6, hs⟩
 have hT_b4 := ht6
 refine ⟨_, rfl, fun a hk => ?_⟩
 refine q_call (caps := []) hk rfl rfl Tryz.func32 fo32 rfl rfl (newTape_m _ hs) ?_
 rintro _ w ⟨b7, r8, rfl, ht9, hs⟩
 have hT_b7 := ht9
 refine ⟨_, rfl, fun a hk => ?_⟩
 refine q_v hk (w_as rfl) fun a hk => ?_
 refine q_v hk (w_as rfl) fun a hk => ?_
 refine q_v hk (w_as rfl) fun a hk => ?_
 refine c_end (x_t (wS (wR ?_)))
 refine q_v hk (w_mv rfl) fun a hk => ?_
 refine q_v hk (w_mv rfl) fun a hk => ?_
 refine q_call (caps := []) hk rfl rfl Tryz.func41 fo41 rfl rfl (values_bad m lc la S (some b1) _ hs (HasR.nth 0 rfl) (HasR.nth 1 rfl) HO hz) ?_
 rintro _ w ⟨rfl, hs⟩
 refine ⟨_, rfl, fun a hk => ?_⟩
 refine c_end (x_t (wS (wR ?_)))
 refine q_v hk (w_mv rfl) fun a hk => ?_
 refine q_v hk (w_mv rfl) fun a hk => ?_
 refine q_call (caps := []) hk rfl rfl Tryz.func44 fo44 rfl rfl (combine_bad m lc la S (some b4) _ hs (HasR.nth 0 rfl) (HasR.nth 1 rfl) HO hz) ?_
 rintro _ w ⟨rfl, hs⟩
 refine ⟨_, rfl, fun a hk => ?_⟩
 refine c_end (x_t (wS (wR ?_)))
 refine q_v hk (w_mv rfl) fun a hk => ?_
 refine q_v hk (w_mv rfl) fun a hk => ?_
 refine q_call (caps := []) hk rfl rfl Tryz.func47 fo47 rfl rfl (at_bad m lc la S (some b7) 9 _ hs (HasR.nth 0 rfl) (HasR.nth 1 rfl) HO hz) ?_
 rintro _ w ⟨rfl, hs⟩
 refine ⟨_, rfl, fun a hk => ?_⟩
 refine c_end (x_t (wS (wS (wR ?_))))
 refine q_v hk (w_mv rfl) fun a hk => ?_
 refine q_call (caps := []) hk rfl rfl Tryz.func18 fo18 rfl rfl (refCkShares_c m lc la S _ ((HasR.nth 0 rfl : HasR (shareR la m lc S) _).at_ hs) HO) ?_
 rintro _ w ⟨rfl, hb⟩
 have hs := hs.below hb
 refine ⟨_, rfl, fun a hk => ?_⟩
 refine q_v hk (w_ne rfl rfl (decide_eq_true hz)) fun a hk => ?_
 refine c_end (x_t ?_)
 refine c_T hk rfl ?_
 refine wS (wR ?_)
 refine q_call (caps := []) hk rfl rfl Tryz.func40 fo40 rfl rfl (alive17_c _ ((HasR.nth 1 rfl : HasR laidR _).at_ hs)) ?_
 rintro _ w ⟨rfl, hb⟩
 have hs := hs.below hb
 refine ⟨_, rfl, fun a hk => ?_⟩
 refine q_v hk (w_mv rfl) fun a hk => ?_
 refine q_v hk (w_mv rfl) fun a hk => ?_
 refine q_call (caps := []) hk rfl rfl Tryz.func33 fo33 rfl rfl (tlenZ hT_b1 (hs.mi 2 rfl)) ?_
 rintro _ w ⟨rfl, hb⟩
 have hs := hs.below hb
 refine ⟨_, rfl, fun a hk => ?_⟩
 refine q_v hk (w_mv rfl) fun a hk => ?_
 refine q_call (caps := []) hk rfl rfl Tryz.func33 fo33 rfl rfl (tlenZ hT_b4 (hs.mi 1 rfl)) ?_
 rintro _ w ⟨rfl, hb⟩
 have hs := hs.below hb
 refine ⟨_, rfl, fun a hk => ?_⟩
 refine q_v hk (w_add (r := 0) rfl rfl (by decide)) fun a hk => ?_
 refine q_v hk (w_mv rfl) fun a hk => ?_
 refine q_call (caps := []) hk rfl rfl Tryz.func33 fo33 rfl rfl (tlenZ hT_b7 (hs.mi 0 rfl)) ?_
 rintro _ w ⟨rfl, hb⟩
 have hs := hs.below hb
 refine ⟨_, rfl, fun a hk => ?_⟩
 refine q_v hk (w_add (r := 0) rfl rfl (by decide)) fun a hk => ?_
 refine q_v hk (w_eq rfl rfl (decide_eq_true (by decide))) fun a hk => ?_
 refine q_v hk (w_pickT rfl rfl) fun a hk => ?_
 refine q_v hk (w_as rfl) fun a hk => ?_
 refine c_end (x_t ?_)
 refine (wpIn_ret (x_tr ?_))
 refine c_ret1 hk rfl rfl ?_
 exact ⟨rfl, hs.toBelow⟩
theorem lawJEv_good (s : Bool) (m lc : Nat) (la : Option Addr) (S : Nat → Shr) (W : World) (HS : (shareR la m lc S).ok W) (HL : Laid W) (hg : ¬ 0 < lrg S m) (HO : ShOk S m) (hm : m ≤ 12) (g : Good s S m) (hz : csErr S m = 0) (hn9 : (S 0).n ≤ 4) : Calls Tryz.prog 13 [.slice la m lc].toArray W fun e w => e = .returned (.bool true) ∧ Below W.heap.size W w := by
 have hm0 := g.m0
 have hth := g.th_le
 have hgt := g.th
 have hlc := valsE_len (th := (thN S)) (n := (S 0).n) (by omega) hn9
 have hls := atE_len (th := (thN S)) (n := (S 0).n) (by omega) hn9
 refine c_enter (args := [.slice la m lc]) Tryz.func13 rfl rfl rfl fun a hk => ?_
 have hs := Sat.start W [shareR la m lc S, laidR] (okrc HS (okr1 (laidR_ok HL)))
 refine wS (wR ?_)
 refine q_v hk (w_as rfl) fun a hk => ?_
 refine c_end (x_t (wS (wS (wR ?_))))
 refine q_v hk (w_mv rfl) fun a hk => ?_
 refine q_call (caps := []) hk rfl rfl Tryz.func15 fo15 rfl rfl (large_c m lc la S _ ((HasR.nth 0 rfl : HasR (shareR la m lc S) _).at_ hs)) ?_
 rintro _ w ⟨rfl, hb⟩
 have hs := hs.below hb
 refine ⟨_, rfl, fun a hk => ?_⟩
 refine q_v hk (w_gt rfl rfl (decide_eq_false hg)) fun a hk => ?_
 refine c_end (x_t ?_)
 refine c_F hk rfl ?_
 refine (wpIn_skip (x_t ?_))
 refine wS (wR ?_)
 refine q_call (caps := []) hk rfl rfl Tryz.func32 fo32 rfl rfl (newTape_m _ hs) ?_
 rintro _ w ⟨b1, r2, rfl, ht3, hs⟩
 have hT_b1 := ht3
 refine ⟨_, rfl, fun a hk => ?_⟩
 refine q_call (caps := []) hk rfl rfl Tryz.func32 fo32 rfl rfl (newTape_m _ hs) ?_
 rintro _ w ⟨b4, r5, rfl, ht6, hs⟩
 have hT_b4 := ht6
 refine ⟨_, rfl, fun a hk => ?_⟩
 refine q_call (caps := []) hk rfl rfl Tryz.func32 fo32 rfl rfl (newTape_m _ hs) ?_
 rintro _ w ⟨b7, r8, rfl, ht9, hs⟩
 have hT_b7 := ht9
 refine ⟨_, rfl, fun a hk => ?_⟩
 refine q_v hk (w_as rfl) fun a hk => ?_
 refine q_v hk (w_as rfl) fun a hk => ?_
 refine q_v hk (w_as rfl) fun a hk => ?_
 refine c_end (x_t (wS (wR ?_)))
 refine q_v hk (w_mv rfl) fun a hk => ?_
 refine q_v hk (w_mv rfl) fun a hk => ?_
 have hs := hs.up2
 refine q_call (caps := []) hk rfl rfl Tryz.func41 fo41 rfl rfl (values_m s m lc la S (some b1) [] _ _ hs (HasR.nth 0 rfl) (HasR.nth 1 rfl) HO g hz (by omega) hn9 hT_b1 (by decide)) ?_
 rintro _ w ⟨r10, a11, c12, rfl, hT_b1, hs⟩
 have hT_b1 : TapeIs (some b1) (valsE (thN S) (S 0).n) r10 := hT_b1
 refine ⟨_, rfl, fun a hk => ?_⟩
 refine c_end (x_t (wS (wR ?_)))
 refine q_v hk (w_mv rfl) fun a hk => ?_
 refine q_v hk (w_mv rfl) fun a hk => ?_
 have hs := hs.up3
 refine q_call (caps := []) hk rfl rfl Tryz.func44 fo44 rfl rfl (combine_m s m lc la S (some b4) [] _ _ hs (HasR.nth 0 rfl) (HasR.nth 1 rfl) HO g hz (by omega) hn9 hT_b4 (by decide)) ?_
 rintro _ w ⟨r13, a14, k15, c16, rfl, hT_b4, hs⟩
 have hT_b4 : TapeIs (some b4) (valsE (thN S) (S 0).n) r13 := hT_b4
 refine ⟨_, rfl, fun a hk => ?_⟩
 refine c_end (x_t (wS (wR ?_)))
 refine q_v hk (w_mv rfl) fun a hk => ?_
 refine q_v hk (w_mv rfl) fun a hk => ?_
 have hs := hs.up4
 refine q_call (caps := []) hk rfl rfl Tryz.func47 fo47 rfl rfl (at_m s m lc la S (some b7) [] _ 9 _ hs (HasR.nth 0 rfl) (HasR.nth 1 rfl) HO g hz (by omega) hn9 hT_b7 (by decide) (by decide) (by decide)) ?_
 rintro _ w ⟨r17, a18, c19, rfl, hT_b7, hs⟩
 have hT_b7 : TapeIs (some b7) (atE (thN S) (S 0).n) r17 := hT_b7
 refine ⟨_, rfl, fun a hk => ?_⟩
 refine c_end (x_t (wS (wS (wR ?_))))
 refine q_v hk (w_mv rfl) fun a hk => ?_
 refine q_call (caps := []) hk rfl rfl Tryz.func18 fo18 rfl rfl (refCkShares_c m lc la S _ ((HasR.nth 0 rfl : HasR (shareR la m lc S) _).at_ hs) HO) ?_
 rintro _ w ⟨rfl, hb⟩
 have hs := hs.below hb
 refine ⟨_, rfl, fun a hk => ?_⟩
 refine q_v hk (w_ne rfl rfl (decide_eq_false (fun h => h hz))) fun a hk => ?_
 refine c_end (x_t ?_)
 refine c_F hk rfl ?_
 refine (wpIn_skip (x_t ?_))
 refine wS ?_
 have hL := okL.cons ((share_lst (HasR.nth 0 rfl : HasR (shareR la m lc S) _)).at_ hs) okL.nil
 refine d_begin _ 11 (by kernel_rfl) rfl hs hL fun w hs hL => ?_
 refine d_w 0 1 hk hL rfl (fun w hL => w_mv rfl) fun a hk => ?_
 refine d_w 1 3 hk hL rfl (fun w hL => w_iaL (k := 0) rfl rfl Tryz.underlying22 ty53 (hL.at 0 rfl) (by omega) (by omega)) fun a hk => ?_
 refine d_w 2 7 hk hL rfl (fun w hL => w_fa rfl fq53_1 ty3) fun a hk => ?_
 refine d_w 3 15 hk hL rfl (fun w hL => w_ld1 rfl ty3 (ic_eq g.th (lstf (k := 0) (o := 1) (m := 1) (hL.at 0 rfl) (by omega) (en_chunk shc_len (by omega)) rfl))) fun a hk => ?_
 refine d_w 4 31 hk hL rfl (fun w hL => w_mv rfl) fun a hk => ?_
 refine d_w 5 63 hk hL rfl (fun w hL => w_iaL (k := 0) rfl rfl Tryz.underlying22 ty53 (hL.at 0 rfl) (by omega) (by omega)) fun a hk => ?_
 refine d_w 6 127 hk hL rfl (fun w hL => w_fa rfl fq53_4 ty51) fun a hk => ?_
 refine d_w 7 255 hk hL rfl (fun w hL => w_ld1 rfl ty51 (lstf (k := 0) (o := 4) (m := 1) (hL.at 0 rfl) (by omega) (en_chunk shc_len (by omega)) rfl)) fun a hk => ?_
 refine d_w 8 511 hk hL rfl (fun w hL => w_len rfl Tryz.underlying51) fun a hk => ?_
 refine d_w 9 1023 hk hL rfl (fun w hL => w_as rfl) fun a hk => ?_
 refine d_w 10 2047 hk hL rfl (fun w hL => w_as rfl) fun a hk => ?_
 refine d_end (by kernel_rfl) ?_
 refine (x_t ?_)
 refine wS (wR ?_)
 refine q_v hk (w_mv rfl) fun a hk => ?_
 refine q_v hk (w_mv rfl) fun a hk => ?_
 refine q_call (caps := []) hk rfl rfl Tryz.func51 fo51 rfl rfl (refEvents_e ((thN S) : Int) ((S 0).n : Int) _ (by omega) (by omega) (by omega)) ?_
 rintro _ w ⟨a20, k21, c22, rfl, hS⟩
 have hs := hs.call1 hS
 clear hS
 refine ⟨_, rfl, fun a hk => ?_⟩
 refine q_v hk (w_as rfl) fun a hk => ?_
 refine c_end (x_t (wS (wR ?_)))
 refine q_call (caps := []) hk rfl rfl Tryz.func40 fo40 rfl rfl (alive17_c _ ((HasR.nth 1 rfl : HasR laidR _).at_ hs)) ?_
 rintro _ w ⟨rfl, hb⟩
 have hs := hs.below hb
 refine ⟨_, rfl, fun a hk => ?_⟩
 refine q_v hk (w_mv rfl) fun a hk => ?_
 refine q_v hk (w_mv rfl) fun a hk => ?_
 refine q_call (caps := []) hk rfl rfl Tryz.func37 fo37 rfl rfl (tevents hT_b1 (hs.mi 5 rfl) (by first | omega | decide)) ?_
 rintro _ w ⟨a23, c24, rfl, hS⟩
 have hs := hs.call1 hS
 clear hS
 refine ⟨_, rfl, fun a hk => ?_⟩
 refine q_v hk (w_mv rfl) fun a hk => ?_
 refine q_call (caps := []) hk rfl rfl Tryz.func36 fo36 rfl rfl (sameE (row_lst (hs.mi 0 rfl)) (row_lst (hs.mi 1 rfl)) rfl (by omega)) ?_
 rintro _ w ⟨rfl, hb⟩
 have hs := hs.below hb
 refine ⟨_, rfl, fun a hk => ?_⟩
 refine q_v hk (w_pickT rfl rfl) fun a hk => ?_
 refine q_v hk (w_mv rfl) fun a hk => ?_
 refine q_v hk (w_mv rfl) fun a hk => ?_
 refine q_call (caps := []) hk rfl rfl Tryz.func37 fo37 rfl rfl (tevents hT_b4 (hs.mi 4 rfl) (by first | omega | decide)) ?_
 rintro _ w ⟨a25, c26, rfl, hS⟩
 have hs := hs.call1 hS
 clear hS
 refine ⟨_, rfl, fun a hk => ?_⟩
 refine q_v hk (w_mv rfl) fun a hk => ?_
 refine q_call (caps := []) hk rfl rfl Tryz.func36 fo36 rfl rfl (sameE (row_lst (hs.mi 0 rfl)) (row_lst (hs.mi 2 rfl)) rfl (by omega)) ?_
 rintro _ w ⟨rfl, hb⟩
 have hs := hs.below hb
 refine ⟨_, rfl, fun a hk => ?_⟩
 refine q_v hk (w_pickT rfl rfl) fun a hk => ?_
 refine q_v hk (w_mv rfl) fun a hk => ?_
 refine q_v hk (w_mv rfl) fun a hk => ?_
 refine q_call (caps := []) hk rfl rfl Tryz.func37 fo37 rfl rfl (tevents hT_b7 (hs.mi 3 rfl) (by first | omega | decide)) ?_
 rintro _ w ⟨a27, c28, rfl, hS⟩
 have hs := hs.call1 hS
 clear hS
 refine ⟨_, rfl, fun a hk => ?_⟩
 refine q_v hk (w_mv rfl) fun a hk => ?_
 refine q_v hk (w_mv rfl) fun a hk => ?_
 refine q_call (caps := []) hk rfl rfl Tryz.func52 fo52 rfl rfl (refAt_e ((thN S) : Int) ((S 0).n : Int) _ (by omega) (by omega) (by omega)) ?_
 rintro _ w ⟨a29, k30, c31, rfl, hS⟩
 have hs := hs.call1 hS
 clear hS
 refine ⟨_, rfl, fun a hk => ?_⟩
 refine q_call (caps := []) hk rfl rfl Tryz.func36 fo36 rfl rfl (sameE (row_lst (hs.mi 1 rfl)) (row_lst (hs.mi 0 rfl)) rfl (by omega)) ?_
 rintro _ w ⟨rfl, hb⟩
 have hs := hs.below hb
 refine ⟨_, rfl, fun a hk => ?_⟩
 refine q_v hk (w_pickT rfl rfl) fun a hk => ?_
 refine q_v hk (w_as rfl) fun a hk => ?_
 refine c_end (x_t ?_)
 refine (wpIn_ret ?_)
 refine c_ret1 hk rfl rfl ?_
 exact ⟨rfl, hs.toBelow⟩
section
variable (W : World) (la : Option Addr) (m lc : Nat) (S : Nat → Shr) (hx : ∀ k, k < m → ∀ i, i < (S k).n → (S k).X i < R4) (HS : (shareR la m lc S).ok W) (HL : Laid W)
include hx HS HL
theorem lawJEv_c : Calls Tryz.prog 13 #[.slice la m lc] W fun e w => e = .returned (.bool true) ∧ Below W.heap.size W w := by
  by_cases hg : 0 < lrg S m
  · exact lawJEv_big m lc la S W HS HL hg
  · have h := lrg_le hg
    by_cases hz : csErr S m = 0
    · obtain ⟨s, g⟩ := good_of hz
      exact lawJEv_good s m lc la S W HS HL hg (shok_of h hx) h.1 g hz (h.2 0 g.m0)
    · exact lawJEv_bad m lc la S W HS HL hg (shok_of h hx) h.1 hz
end
end Go.Proofs.YtdnkkbmpefhbjaaGreatDoor
namespace Go.Proofs.YtdnkkbmpefhbjaaGreatDoor
set_option linter.all false
open Go Go.ChangeShapes Go.WideShapes Go.ChangeAt Go.WideMaps Go.WideElems Go.RowKit
theorem own : ownKnob Tryz.prog.godebug = none := by kernel_rfl
theorem laidOut : laidOutB Tryz.prog = true := by kernel_rfl
theorem gFields : Tryz.prog.globalNamed "sharecore/field.fields" = some 0 := by kernel_rfl
theorem tFields : (Tryz.prog.globals[0]?).map (·.type) = some 168 := by kernel_rfl
theorem cells64 : Tryz.prog.cellsOf 46 = 1 := by kernel_rfl
theorem cellsInt : Tryz.prog.cellsOf 3 = 1 := by kernel_rfl
theorem cellsVec : Tryz.prog.cellsOf 47 = 4 := by kernel_rfl
theorem cellsElem : Tryz.prog.cellsOf 56 = 4 := by kernel_rfl
theorem cellsField : Tryz.prog.cellsOf 120 = 14 := by kernel_rfl
theorem cellsFields : Tryz.prog.cellsOf 168 = 28 := by kernel_rfl
section
variable {H : Type} {enc : TypeId × Value → H} {w : World} {base : Nat} {spare : Nat → Bool} {held : Bool} {n : Nat} {cs : List Value} {ps : List MemPlace}
set_option maxRecDepth 100000 in
theorem four_of {T : TypeId} {d : DataW H} (hT : Tryz.prog.underlying T = some (.array 4 46)) (hc : Tryz.prog.cellsOf T = 4) (h : DataW.trod enc Tryz.prog w base spare held n T cs = some (d, ps)) :
    ∃ a0 a1 a2 a3 : Int, cs = [.int .u64 a0, .int .u64 a1, .int .u64 a2, .int .u64 a3] ∧ d = .agg [.lit (.int .u64 a0), .lit (.int .u64 a1), .lit (.int .u64 a2), .lit (.int .u64 a3)] ∧
      (Lit.int .u64 a0).wf = true ∧ (Lit.int .u64 a1).wf = true ∧ (Lit.int .u64 a2).wf = true ∧ (Lit.int .u64 a3).wf = true := by
  obtain ⟨xs, m, rfl, hx, hlen, hn, hel⟩ := DataW.trod_array hT h
  rw [hc] at hlen
  match cs, hlen with
  | [c0, c1, c2, c3], _ =>
    match xs, hn with
    | [x0, x1, x2, x3], _ =>
      have e0 := hel 0 (by omega)
      have e1 := hel 1 (by omega)
      have e2 := hel 2 (by omega)
      have e3 := hel 3 (by omega)
      rw [cells64] at e0 e1 e2 e3
      simp only [Nat.mul_one, List.drop_zero, List.drop_succ_cons, List.take_succ_cons, List.take_zero, List.getElem?_cons_zero, List.getElem?_cons_succ] at e0 e1 e2 e3
      obtain ⟨k0, f0, g0, w0⟩ := DataW.trod_int Tryz.underlying46 e0
      obtain ⟨k1, f1, g1, w1⟩ := DataW.trod_int Tryz.underlying46 e1
      obtain ⟨k2, f2, g2, w2⟩ := DataW.trod_int Tryz.underlying46 e2
      obtain ⟨k3, f3, g3, w3⟩ := DataW.trod_int Tryz.underlying46 e3
      subst g0 g1 g2 g3
      simp only [List.cons.injEq, and_true] at f0 f1 f2 f3
      subst f0 f1 f2 f3
      simp only [Prod.mk.injEq] at hx
      exact ⟨k0, k1, k2, k3, rfl, hx.1, w0, w1, w2, w3⟩
set_option maxRecDepth 100000 in
theorem field_of {i i' p0 p1 p2 p3 v o0 o1 o2 o3 s0 s1 s2 s3 : Int} (h : DataW.trod enc Tryz.prog w base spare held n 120 cs = some (.agg [.lit (.int .i64 i), .agg [.lit (.int .u64 p0), .lit (.int .u64 p1), .lit (.int .u64 p2), .lit (.int .u64 p3)], .lit (.int .u64 v), .agg [.lit (.int .u64 o0), .lit (.int .u64 o1), .lit (.int .u64 o2), .lit (.int .u64 o3)], .agg [.lit (.int .u64 s0), .lit (.int .u64 s1), .lit (.int .u64 s2), .lit (.int .u64 s3)]], ps)) (_hi : i' = i) :
    cs = [.int .i64 i, .int .u64 p0, .int .u64 p1, .int .u64 p2, .int .u64 p3, .int .u64 v, .int .u64 o0, .int .u64 o1, .int .u64 o2, .int .u64 o3, .int .u64 s0, .int .u64 s1, .int .u64 s2, .int .u64 s3] := by
  obtain ⟨xs, m, rfl, hx, hlen, hn, hel⟩ := DataW.trod_struct Tryz.underlying120 h
  rw [cellsField] at hlen
  match cs, hlen with
  | [c0, c1, c2, c3, c4, c5, c6, c7, c8, c9, c10, c11, c12, c13], _ =>
    match xs, hn with
    | [x0, x1, x2, x3, x4], _ =>
      have e0 := hel 0 { name := "ID", type := 3, offset := 0, embedded := false, tag := "", pkgPath := "", byteOffset := 0 } rfl
      have e1 := hel 1 { name := "Modulus", type := 47, offset := 1, embedded := false, tag := "", pkgPath := "", byteOffset := 8 } rfl
      have e2 := hel 2 { name := "Inverse", type := 46, offset := 5, embedded := false, tag := "", pkgPath := "", byteOffset := 40 } rfl
      have e3 := hel 3 { name := "One", type := 56, offset := 6, embedded := false, tag := "", pkgPath := "", byteOffset := 48 } rfl
      have e4 := hel 4 { name := "Square", type := 47, offset := 10, embedded := false, tag := "", pkgPath := "", byteOffset := 80 } rfl
      simp only [cells64, cellsInt, cellsVec, cellsElem, List.drop_zero, List.drop_succ_cons, List.take_succ_cons, List.take_zero, List.getElem?_cons_zero, List.getElem?_cons_succ] at e0 e1 e2 e3 e4
      obtain ⟨k0, f0, g0, _⟩ := DataW.trod_int Tryz.underlying3 e0
      obtain ⟨k2, f2, g2, _⟩ := DataW.trod_int Tryz.underlying46 e2
      obtain ⟨x1, r1⟩ := x1
      obtain ⟨x3, r3⟩ := x3
      obtain ⟨x4, r4⟩ := x4
      obtain ⟨a0, a1, a2, a3, f1, g1, _⟩ := four_of Tryz.underlying47 cellsVec e1
      obtain ⟨b0, b1, b2, b3, f3, g3, _⟩ := four_of Tryz.underlying56 cellsElem e3
      obtain ⟨d0, d1, d2, d3, f4, g4, _⟩ := four_of Tryz.underlying47 cellsVec e4
      subst g0 g1 g2 g3 g4
      simp only [List.cons.injEq, and_true] at f0 f2
      simp only [List.cons.injEq, and_true] at f1
      simp only [List.cons.injEq, and_true] at f3
      simp only [List.cons.injEq, and_true] at f4
      simp only [Prod.mk.injEq, List.map_cons, List.map_nil, DataW.agg.injEq, List.cons.injEq, DataW.lit.injEq, Lit.int.injEq, true_and, and_true] at hx
      obtain ⟨⟨rfl, ⟨rfl, rfl, rfl, rfl⟩, rfl, ⟨rfl, rfl, rfl, rfl⟩, rfl, rfl, rfl, rfl⟩, _⟩ := hx
      obtain ⟨rfl, rfl, rfl, rfl⟩ := f1
      obtain ⟨rfl, rfl, rfl, rfl⟩ := f3
      obtain ⟨rfl, rfl, rfl, rfl⟩ := f4
      subst f0 f2
      rfl
end
theorem of_laid {W : World} (h : laidMetH Tryz.prog [("sharecore/field.fields", Rows.laid_sharecore_field_fields)] W) : Laid W := by
  rw [MakeChecks.laidMetH_plain _ _ _ (by kernel_rfl)] at h
  obtain ⟨ps, ⟨g0, t0, cs0, f0, p0, q0, hg0, ht0, hv0, hd0, _, _⟩, _, _⟩ := h
  obtain rfl := Option.some.inj (gFields.symm.trans hg0)
  obtain rfl := Option.some.inj (tFields.symm.trans ht0)
  have key : cs0.toList = fieldCells.toList := by
    obtain ⟨xs, m, rfl, hx, hlen, hn, hel⟩ := DataW.trod_array Tryz.underlying168 hd0
    rw [cellsFields] at hlen
    match xs, hn with
    | [x0, x1], _ =>
      have e0 := hel 0 (by omega)
      have e1 := hel 1 (by omega)
      simp only [cellsField, Nat.zero_mul, Nat.one_mul, List.drop_zero, List.getElem?_cons_zero, List.getElem?_cons_succ] at e0 e1
      obtain ⟨x0, r0⟩ := x0
      obtain ⟨x1, r1⟩ := x1
      unfold Rows.laid_sharecore_field_fields at hx
      simp only [Prod.mk.injEq, List.map_cons, List.map_nil, DataW.agg.injEq, List.cons.injEq, and_true] at hx
      obtain ⟨⟨rfl, rfl⟩, _⟩ := hx
      have k0 := field_of e0 rfl
      have k1 := field_of e1 rfl
      rw [List.take_of_length_le (by rw [List.length_drop, hlen]; omega)] at k1
      rw [← List.take_append_drop 14 cs0.toList, k0, k1]
      rfl
  have key' : cs0 = fieldCells := by rw [← Array.toArray_toList (xs := cs0), key]
  intro j v hv
  rw [World.var?_cell hg0 hv0 j, key']
  exact hv
theorem wf64 {a : Int} (h : (Lit.int .u64 a).wf = true) : ∃ n : Nat, a = (n : Int) ∧ n < W := by
  have := bounds_u64 h
  exact ⟨a.toNat, by omega, by unfold W; omega⟩
theorem lt_of {H : Type} {enc : TypeId × Value → H} {w : World} {spare : Nat → Bool} {held : Bool} {T : TypeId} {v : Value} {d : DataW H} {p : List MemPlace} (h : DataW.Trod enc Tryz.prog w 0 spare held T v d p) : ∀ x ∈ p, x.block < w.heap.size := by
  obtain ⟨m, hm⟩ := h
  exact DataW.trod_lt m _ _ _ hm
end Go.Proofs.YtdnkkbmpefhbjaaGreatDoor
namespace Go.Proofs.YtdnkkbmpefhbjaaGreatDoor
set_option linter.all false
open Go Go.ChangeShapes Go.WideShapes Go.ChangeAt Go.WideMaps Go.WideElems Go.RowKit
theorem cellsShare : Tryz.prog.cellsOf 53 = 5 := by kernel_rfl
theorem cellsEls : Tryz.prog.cellsOf 51 = 1 := by kernel_rfl
section
variable {H : Type} {enc : TypeId × Value → H} {w : World} {held : Bool} {P : Program}
theorem cells_at {b : Nat} {q : Addr} {n : Nat} {cs : List Value} (h : w.cells? b q n = some cs) : cs.length = n ∧ ∀ j u, cs[j]? = some u → w.cell? (q.add j) = some u := by
  obtain ⟨_, h1, h2⟩ := World.cells?_some h
  refine ⟨h1, fun j u hj => ?_⟩
  rw [h2 j (by have := (List.getElem?_eq_some_iff.1 hj).1; omega), hj]
/-- A slice whose elements are each read as the cells of something. -/
theorem open_lst {α : Type} {c : α → List Value} {sz : Nat} {φ : α → Prop} {T te : TypeId} (hT : P.underlying T = some (.slice te)) (hc : P.cellsOf te = sz) (hs : 0 < sz) (hlen : ∀ x, (c x).length = sz) (d0 : α)
    (hel : ∀ fuel cs d p, DataW.trod enc P w 0 (fun _ => true) held fuel te cs = some (d, p) → ∃ x, φ x ∧ cs = c x) {a : Option Addr} {n cap : Nat} {d : DataW H} {p : List MemPlace}
    (h : DataW.Trod enc P w 0 (fun _ => true) held T (.slice a n cap) d p) : ∃ f : Nat → α, (∀ i, i < n → φ (f i)) ∧ LstAt w sz (.slice a n cap) n (en c f n) := by
  subst hc
  obtain ⟨fuel, hf⟩ := h
  rcases DataW.trod_slice hT hf with ⟨e, _⟩ | ⟨ad, len, cap', elems, rest, m, _, e, _, _, hl, _, hel1, hel2, _⟩
  · have e' : ([Value.slice a n cap] : List Value) = [.slice none 0 0] := e
    simp only [List.cons.injEq, Value.slice.injEq, and_true] at e'
    obtain ⟨rfl, rfl, rfl⟩ := e'
    exact ⟨fun _ => d0, fun i hi => (by omega), ⟨by simp [en], none, 0, rfl, Nat.le_refl _, fun _ => ⟨rfl, rfl⟩, fun ad h => by cases h⟩⟩
  · have e' : ([Value.slice a n cap] : List Value) = [.slice (some ad) len cap'] := e
    simp only [List.cons.injEq, Value.slice.injEq, and_true] at e'
    obtain ⟨rfl, rfl, rfl⟩ := e'
    have key : ∀ i, ∃ x, i < n → φ x ∧ ∀ j u, (c x)[j]? = some u → w.cell? ((ad.add (i * P.cellsOf te)).add j) = some u := by
      intro i
      by_cases hi : i < n
      · have h1 := hel2 i hi
        cases hcs : w.cells? 0 (ad.add (i * P.cellsOf te)) (P.cellsOf te) with
        | none =>
          rw [hcs, Option.bind_none, List.getElem?_eq_getElem (by omega)] at h1
          cases h1
        | some cs =>
          rw [hcs, Option.bind_some, List.getElem?_eq_getElem (by omega)] at h1
          obtain ⟨x, hx, rfl⟩ := hel _ _ _ _ h1
          exact ⟨x, fun _ => ⟨hx, (cells_at hcs).2⟩⟩
      · exact ⟨d0, fun h => absurd h hi⟩
    refine ⟨fun i => Classical.choose (key i), fun i hi => (Classical.choose_spec (key i) hi).1, ?_⟩
    have hcell : ∀ i, i < n → ∀ j u, (c (Classical.choose (key i)))[j]? = some u → w.cell? ((ad.add (i * P.cellsOf te)).add j) = some u := fun i hi => (Classical.choose_spec (key i) hi).2
    generalize hF : (fun i => Classical.choose (key i)) = f
    have hcell' : ∀ i, i < n → ∀ j u, (c (f i))[j]? = some u → w.cell? ((ad.add (i * P.cellsOf te)).add j) = some u := by subst hF; exact hcell
    clear hcell
    refine ⟨en_len hlen, some ad, cap, rfl, hl, (fun h => by cases h), fun q hq hn => ?_⟩
    cases hq
    have h0 : w.cell? ad = some ((c (f 0))[0]'(by rw [hlen]; exact hs)) := by
      have := hcell' 0 hn 0 _ (List.getElem?_eq_getElem (by rw [hlen]; exact hs))
      rw [Nat.zero_mul] at this
      exact this
    have hspot : ad.spot = none := by simpa using World.cell?_spot h0
    refine ⟨hspot, World.block_lt_of_cell? w _ h0, fun j u hj => ?_⟩
    have hjl := (List.getElem?_eq_some_iff.1 hj).1
    rw [en_len hlen] at hjl
    have hi : j / P.cellsOf te < n := (Nat.div_lt_iff_lt_mul hs).2 hjl
    have hch := en_chunk (c := c) (f := f) hlen hi
    have h2 := congrArg (fun l => l[j % P.cellsOf te]?) hch
    simp only [List.getElem?_take, List.getElem?_drop] at h2
    rw [if_pos (Nat.mod_lt _ hs), show j / P.cellsOf te * P.cellsOf te + j % P.cellsOf te = j by rw [Nat.mul_comm]; exact Nat.div_add_mod j _, hj] at h2
    have := hcell' _ hi _ u h2.symm
    rw [add_add hspot, show j / P.cellsOf te * P.cellsOf te + j % P.cellsOf te = j by rw [Nat.mul_comm]; exact Nat.div_add_mod j _] at this
    exact this
/-- A slice of elements. -/
theorem open_els {a : Option Addr} {n cap : Nat} {d : DataW H} {p : List MemPlace} (h : DataW.Trod enc Tryz.prog w 0 (fun _ => true) held 51 (.slice a n cap) d p) :
    ∃ f : Nat → Nat, (∀ i, i < n → f i < R4) ∧ LstAt w 4 (.slice a n cap) n (en vq f n) :=
  open_lst (φ := fun x => x < R4) Tryz.underlying51 cellsElem (by decide) vq_len 0 (fun fuel cs d p hf => by
    obtain ⟨a0, a1, a2, a3, e, _, w0, w1, w2, w3⟩ := four_of Tryz.underlying56 cellsElem hf
    obtain ⟨n0, rfl, l0⟩ := wf64 w0
    obtain ⟨n1, rfl, l1⟩ := wf64 w1
    obtain ⟨n2, rfl, l2⟩ := wf64 w2
    obtain ⟨n3, rfl, l3⟩ := wf64 w3
    refine ⟨val4 n0 n1 n2 n3, val4_lt l0 l1 l2 l3, ?_⟩
    rw [e]
    have := vec_val4 l0 l1 l2 l3
    unfold vec at this
    have := congrArg (fun v => match v with | Value.agg xs => xs.toList | _ => []) this
    simpa [vq] using this.symm) h
set_option maxRecDepth 100000 in
theorem shr_of {fuel : Nat} {cs : List Value} {d : DataW H} {p : List MemPlace} (hf : DataW.trod enc Tryz.prog w 0 (fun _ => true) held fuel 53 cs = some (d, p)) :
    ∃ x : Shr, ((∀ i, i < x.n → x.X i < R4) ∧ (payR x).ok w) ∧ cs = shc x := by
  obtain ⟨xs, m, rfl, hx, hlen, hn, hel⟩ := DataW.trod_struct Tryz.underlying53 hf
  rw [cellsShare] at hlen
  match cs, hlen with
  | [c0, c1, c2, c3, c4], _ =>
    match xs, hn with
    | [x0, x1, x2, x3, x4], _ =>
      have e0 := hel 0 { name := "Field", type := 3, offset := 0, embedded := false, tag := "", pkgPath := "", byteOffset := 0 } rfl
      have e1 := hel 1 { name := "Threshold", type := 3, offset := 1, embedded := false, tag := "", pkgPath := "", byteOffset := 8 } rfl
      have e2 := hel 2 { name := "Index", type := 3, offset := 2, embedded := false, tag := "", pkgPath := "", byteOffset := 16 } rfl
      have e3 := hel 3 { name := "Length", type := 3, offset := 3, embedded := false, tag := "", pkgPath := "", byteOffset := 24 } rfl
      have e4 := hel 4 { name := "Payload", type := 51, offset := 4, embedded := false, tag := "", pkgPath := "", byteOffset := 32 } rfl
      simp only [cellsInt, cellsEls, List.drop_zero, List.drop_succ_cons, List.take_succ_cons, List.take_zero, List.getElem?_cons_zero, List.getElem?_cons_succ] at e0 e1 e2 e3 e4
      obtain ⟨x4, r4⟩ := x4
      obtain ⟨F, f0, _, _⟩ := DataW.trod_int Tryz.underlying3 e0
      obtain ⟨T, f1, _, _⟩ := DataW.trod_int Tryz.underlying3 e1
      obtain ⟨I, f2, _, _⟩ := DataW.trod_int Tryz.underlying3 e2
      obtain ⟨L, f3, _, _⟩ := DataW.trod_int Tryz.underlying3 e3
      simp only [List.cons.injEq, and_true] at f0 f1 f2 f3
      subst f0 f1 f2 f3
      have hsl : ∃ a n c, c4 = .slice a n c := by
        rcases DataW.trod_slice Tryz.underlying51 e4 with ⟨e, _⟩ | ⟨ad, len, cap', elems, rest, m, _, e, _⟩
        · simp only [List.cons.injEq, and_true] at e; exact ⟨_, _, _, e⟩
        · simp only [List.cons.injEq, and_true] at e; exact ⟨_, _, _, e⟩
      obtain ⟨a, n, c, rfl⟩ := hsl
      obtain ⟨X, h4, hL⟩ := open_els (a := a) (n := n) (cap := c) ⟨_, e4⟩
      exact ⟨⟨F, T, I, L, n, X, a, c⟩, ⟨h4, hL⟩, rfl⟩
def shz : Shr := ⟨0, 0, 0, 0, 0, fun _ => 0, none, 0⟩
/-- Shares that came in. -/
theorem open_shares {a : Option Addr} {n cap : Nat} {d : DataW H} {p : List MemPlace} (h : DataW.Trod enc Tryz.prog w 0 (fun _ => true) held 22 (.slice a n cap) d p) :
    ∃ S : Nat → Shr, (∀ k, k < n → ∀ i, i < (S k).n → (S k).X i < R4) ∧ (shareR a n cap S).ok w := by
  obtain ⟨f, h1, h2⟩ := open_lst (c := shc) Tryz.underlying22 cellsShare (by decide) shc_len shz (fun fuel cs d p hf => shr_of hf) h
  refine ⟨f, fun k hk => (h1 k hk).1, fun x hx => ?_⟩
  simp only [List.mem_cons, List.not_mem_nil, or_false] at hx
  rcases hx with rfl | rfl
  · exact h2
  · intro y hy
    obtain ⟨k, hk, rfl⟩ := List.mem_map.1 hy
    exact (h1 k (List.mem_range.1 hk)).2
end
end Go.Proofs.YtdnkkbmpefhbjaaGreatDoor
