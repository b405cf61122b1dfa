/- Part 4 of what the proof of JoinRecovers needs: joined out of the texts of this seat, only what is used. -/
import Derived.Test.YtdnkkbmpefhbjaaGreatDoorPgC
import Derived.MapKept
import Derived.Deep.AppendSrc
import Derived.Deep.Upon
import Derived.Shelf.Bytes.SlEqualAll
namespace Go.Proofs.YtdnkkbmpefhbjaaGreatDoor
set_option linter.all false
open Go Go.RowKit Alg
/-- Horner's rule, from the top, after k rounds. -/
def Hn {s : Bool} (c : Nat → Zp s) (n : Nat) (x : Zp s) : Nat → Zp s
  | 0 => 0
  | k + 1 => Hn c n x k * x + c (n - 1 - k)
/-- The quotient's elements after k rounds. -/
def quf {s : Bool} (c : Nat → Zp s) (n : Nat) (x : Zp s) (k j : Nat) : Nat := if n ≤ j + 1 + k then mq (Hn c n x (n - 1 - j)) else 0
section
variable {s : Bool} {c : Nat → Zp s} {x : Zp s} {n k : Nat}
theorem quf_zero : en vq (fun _ => 0) (n - 1) = en vq (quf c n x 0) (n - 1) := en_congr fun i hi => by unfold quf; rw [if_neg (by omega)]
theorem quf_step (hk : 0 < n - 1 - k) : en vq (fun i => if i = n - 1 - k - 1 then mq (Hn c n x (k + 1)) else quf c n x k i) (n - 1) = en vq (quf c n x (k + 1)) (n - 1) := en_congr fun i hi => by
  unfold quf
  by_cases h : i = n - 1 - k - 1
  · rw [if_pos h, if_pos (by omega), h, show n - 1 - (n - 1 - k - 1) = k + 1 by omega]
  · rw [if_neg h]
    by_cases l : n ≤ i + 1 + k
    · rw [if_pos l, if_pos (by omega)]
    · rw [if_neg l, if_neg (by omega)]
theorem quf_last (hk : n - 1 - k = 0) : en vq (quf c n x k) (n - 1) = en vq (quf c n x (k + 1)) (n - 1) := en_congr fun i hi => by
  unfold quf
  rw [if_pos (by omega), if_pos (by omega)]
theorem quf_end : en vq (quf c n x n) (n - 1) = en vq (fun i => mq (Hn c n x (n - 1 - i))) (n - 1) := en_congr fun i hi => by unfold quf; rw [if_pos (by omega)]
end
/-- One row of a product, and all. -/
def mrow {s : Bool} (a b : Nat → Zp s) (i : Nat) (f : Nat → Zp s) : Nat → Nat → Zp s
  | 0 => f
  | k + 1 => fun j => if j = i + k then mrow a b i f k j + a i * b k else mrow a b i f k j
def mall {s : Bool} (a b : Nat → Zp s) (nb : Nat) : Nat → Nat → Zp s
  | 0 => fun _ => 0
  | i + 1 => mrow a b i (mall a b nb i) nb
theorem mall_zero {s : Bool} {a b : Nat → Zp s} {nb n : Nat} : en vq (fun _ => 0) n = en vq (fun j => mq (mall a b nb 0 j)) n := en_congr fun i _ => by show 0 = mq (0 : Zp s); rw [mq_zero]
theorem mrow_step {s : Bool} {a b : Nat → Zp s} {i k n : Nat} {f : Nat → Zp s} : en vq (fun j => if j = i + k then mq (mrow a b i f k (i + k) + a i * b k) else mq (mrow a b i f k j)) n = en vq (fun j => mq (mrow a b i f (k + 1) j)) n := en_congr fun j _ => by
  show _ = mq (if j = i + k then _ else _)
  by_cases h : j = i + k
  · rw [if_pos h, if_pos h, h]
  · rw [if_neg h, if_neg h]
theorem quot_m {F0 : Nat → Prop} {W : World} {M R : List Res} (s : Bool) (n lc : Nat) (la : Option Addr) (c : Nat → Zp s) (x : Zp s) (t : Option Nat) (evs : List Ev) (r : Res) (w0 : World) (hs : Sat F0 W (r :: M) R w0) (hT : TapeIs t evs r) (hL : HasR (lst 4 (.slice la n lc) n (en vq (fun i => mq (c i)) n)) R) (h0 : 0 < n) (hn9 : n ≤ 1000000) (hn : evs.length ≤ 1000000000) : Calls Tryz.prog 119 [tval t, fieldV s, .slice la n lc, vec (mq x)].toArray w0 fun e w => ∃ b r, e = .returned (.tuple #[.slice (some ⟨b, 0, none⟩) (n - 1) (n - 1), vec (mq (Hn c n x n))]) ∧ TapeIs t (evs ++ downE n coefE) r ∧ Sat F0 W (r :: blk b (en vq (fun i => mq (Hn c n x (n - 1 - i))) (n - 1)) 56 :: M) R w := by
 refine c_enterM (args := [tval t, fieldV s, .slice la n lc, vec (mq x)]) Tryz.func119 rfl rfl rfl fun a hk => ?_
 refine wS (wR ?_)
 refine q_box (vs := fieldL s) hk hs rfl rfl rfl rfl fun b1 w a hk hs => ?_
 refine q_box (vs := [.int .u64 ((dg 0 (mq x) : Nat) : Int), .int .u64 ((dg 1 (mq x) : Nat) : Int), .int .u64 ((dg 2 (mq x) : Nat) : Int), .int .u64 ((dg 3 (mq x) : Nat) : Int)]) hk hs rfl rfl rfl rfl fun b2 w a hk hs => ?_
 refine q_v hk (w_as rfl) fun a hk => ?_
 refine q_alc (vs := [.int .u64 0, .int .u64 0, .int .u64 0, .int .u64 0]) hk hs zr56 rfl rfl rfl fun b3 w a hk hs => ?_
 refine c_end (x_t (wS (wR ?_)))
 refine q_v hk (w_mv rfl) fun a hk => ?_
 refine q_v hk (w_len rfl Tryz.underlying51) fun a hk => ?_
 refine q_v hk (w_sub rfl rfl (wr64 (by omega) (by omega))) fun a hk => ?_
 refine q_v hk (w_max (r := ((n - 1 : Nat) : Int)) rfl rfl (by omega)) fun a hk => ?_
 refine q_mks (k := n - 1) (cs := vq 0) hk hs rfl rfl Tryz.underlying51 ty56 zr56 (by kernel_rfl) rfl rfl rfl rfl (by omega) (by omega) rfl rfl fun b4 w a hk hs => ?_
 have hs := hs.rw0 (show _ = blk b4 (en vq (fun _ => 0) (n - 1)) 56 from rfl)
 refine q_alc (vs := [.slice none 0 0]) hk hs zr51 rfl rfl rfl fun b5 w a hk hs => ?_
 refine q_sto (o := 0) (cs := [.slice (some ⟨b4, 0, none⟩) (n - 1) (n - 1)]) (vs' := [.slice (some ⟨b4, 0, none⟩) (n - 1) (n - 1)]) hk hs rfl rfl rfl ty51 rfl rfl rfl rfl rfl rfl fun w hs => ?_
 refine c_end (x_t (wS (wR ?_)))
 refine q_alc (vs := [.int .u64 0, .int .u64 0, .int .u64 0, .int .u64 0]) hk hs zr56 rfl rfl rfl fun b6 w a hk hs => ?_
 refine c_end (x_t (wS (wS (wR ?_))))
 refine q_v hk (w_mv rfl) fun a hk => ?_
 refine q_v hk (w_mv rfl) fun a hk => ?_
 refine q_call (caps := []) hk rfl rfl Tryz.func148 fo148 rfl rfl (back_c n lc la _) ?_
 rintro _ w ⟨b7, rfl, hS⟩
 have hs := hs.call1 hS
 clear hS
 refine ⟨_, rfl, fun a hk => ?_⟩
 refine q_call (caps := []) hk rfl rfl Tryz.func147 fo147 rfl rfl (pvis_c t (169, [.pointer (some ⟨b7, 0, none⟩)]) _) ?_
 rintro _ w ⟨b8, b9, rfl, hS⟩
 have hs := hs.call2 hS
 clear hS
 refine ⟨_, rfl, fun a hk => ?_⟩
 refine c_end (x_t ?_)
 refine wpIn_block ?_
 have hs := hs.up2
 have hs := Sat.frzL (l := [blk b7 [.slice la n lc] 51]) hs
 have hs := hs.up1
 have hs := hs.up1
 have hs := Sat.frzL (l := [blk b8 [.func (.func 169) #[] #[.pointer (some ⟨b7, 0, none⟩)]] 192, blk b9 [tval t] 60]) hs
 have hs := hs.up2
 have hs := hs.rw0 (congrArg (fun q => blk b4 q 56) (quf_zero (c := c) (x := x)))
 have hs := hs.up1
 have hs := hs.rw0 (show blk b6 [.int .u64 0, .int .u64 0, .int .u64 0, .int .u64 0] 56 = blk b6 [.int .u64 ((dg 0 0 : Nat) : Int), .int .u64 ((dg 1 0 : Nat) : Int), .int .u64 ((dg 2 0 : Nat) : Int), .int .u64 ((dg 3 0 : Nat) : Int)] 56 from rfl)
 have hs := hs.rw0 (show _ = blk b6 (vq (mq (Hn c n x 0))) 56 from by show blk b6 (vq 0) 56 = blk b6 (vq (mq 0)) 56; rw [mq_zero])
 have hk : Kn [] 41 [(22, .func (.func 168) #[] #[.pointer (some ⟨b8, 0, none⟩), .pointer (some ⟨b9, 0, none⟩)]), (11, .pointer (some ⟨b6, 0, none⟩)), (10, .pointer (some ⟨b5, 0, none⟩)), (9, .pointer (some ⟨b3, 0, none⟩)), (8, .slice none 0 0), (7, .pointer (some ⟨b2, 0, none⟩)), (5, .pointer (some ⟨b1, 0, none⟩))] a := hk.k rfl (hk.k rfl (hk.k rfl (hk.k rfl (hk.k rfl (hk.k rfl (hk.k rfl hk.nil))))))
 have hs := hs.up6
 have hs := hs.up1
 have hs := hs.up2
 have hs := hs.up3
 have hs := hs.up5
 have hs := hs.up6
 have hs := Sat.pack (l := [blk b1 (fieldL s) 120, blk b2 [.int .u64 ((dg 0 (mq x) : Nat) : Int), .int .u64 ((dg 1 (mq x) : Nat) : Int), .int .u64 ((dg 2 (mq x) : Nat) : Int), .int .u64 ((dg 3 (mq x) : Nat) : Int)] 56, blk b5 [.slice (some ⟨b4, 0, none⟩) (n - 1) (n - 1)] 51, blk b4 (en vq (fun i => quf c n x 0 i) (n - 1)) 56, blk b6 [.int .u64 ((dg 0 (mq (Hn c n x 0)) : Nat) : Int), .int .u64 ((dg 1 (mq (Hn c n x 0)) : Nat) : Int), .int .u64 ((dg 2 (mq (Hn c n x 0)) : Nat) : Int), .int .u64 ((dg 3 (mq (Hn c n x 0)) : Nat) : Int)] 56]) hs
 refine c_range0 hk hs rfl (⟨_, _, _, rfl, Tryz.func168, fo168, pvis_it t evs (169, [.pointer (some ⟨b7, 0, none⟩)]) (dnP n (fun i => mq (c i))) (rall [blk b7 [.slice la n lc] 51, lst 4 (.slice la n lc) n (en vq (fun i => mq (c i)) n)]) b8 b9 ⟨_, _, _, rfl, Tryz.func169, fo169, back_it b7 n lc la (fun i => mq (c i)) (by omega)⟩ (by rw [dnP_len]; (try simp only [List.length_append, coefU_len, List.append_assoc]); have hI := inverse_len; omega)⟩) (.rall fun q hq => by simp only [List.mem_cons, List.not_mem_nil, or_false] at hq; rcases hq with rfl | rfl | rfl <;> first | exact (HasR.nth 0 rfl).pi 0 rfl | exact (HasR.nth 0 rfl).pi 1 rfl | exact HasR.two ((HasR.nth 1 rfl).pi 0 rfl) (hL.cons.cons)) (fun _ => rfl) rfl (fun k r => r = bun [blk b1 (fieldL s) 120, blk b2 [.int .u64 ((dg 0 (mq x) : Nat) : Int), .int .u64 ((dg 1 (mq x) : Nat) : Int), .int .u64 ((dg 2 (mq x) : Nat) : Int), .int .u64 ((dg 3 (mq x) : Nat) : Int)] 56, blk b5 [.slice (some ⟨b4, 0, none⟩) (n - 1) (n - 1)] 51, blk b4 (en vq (fun i => quf c n x k i) (n - 1)) 56, blk b6 [.int .u64 ((dg 0 (mq (Hn c n x k)) : Nat) : Int), .int .u64 ((dg 1 (mq (Hn c n x k)) : Nat) : Int), .int .u64 ((dg 2 (mq (Hn c n x k)) : Nat) : Int), .int .u64 ((dg 3 (mq (Hn c n x k)) : Nat) : Int)] 56]) (fun c k r => False) rfl (by rw [List.take_zero, List.map_nil, List.append_nil]; exact hT) ?_ ?_ ?_
 ·
  rintro l10 k10 x10 hx10 LR10 LB10 FR10 hL10 r a w ⟨rfl⟩ hk hs
  obtain ⟨hlt, rfl⟩ := dnP_some hx10
  have hk : Kn [] 41 [(24, vec (mq (c (n - 1 - k10)))), (23, .int .i64 ((n - 1 - k10 : Nat) : Int)), (22, .func (.func 168) #[] #[.pointer (some ⟨b8, 0, none⟩), .pointer (some ⟨b9, 0, none⟩)]), (11, .pointer (some ⟨b6, 0, none⟩)), (10, .pointer (some ⟨b5, 0, none⟩)), (9, .pointer (some ⟨b3, 0, none⟩)), (8, .slice none 0 0), (7, .pointer (some ⟨b2, 0, none⟩)), (5, .pointer (some ⟨b1, 0, none⟩))] a := hk
  have hs : Sat F0 W [blk b1 (fieldL s) 120, blk b2 [.int .u64 ((dg 0 (mq x) : Nat) : Int), .int .u64 ((dg 1 (mq x) : Nat) : Int), .int .u64 ((dg 2 (mq x) : Nat) : Int), .int .u64 ((dg 3 (mq x) : Nat) : Int)] 56, blk b5 [.slice (some ⟨b4, 0, none⟩) (n - 1) (n - 1)] 51, blk b4 (en vq (fun i => quf c n x k10 i) (n - 1)) 56, blk b6 [.int .u64 ((dg 0 (mq (Hn c n x k10)) : Nat) : Int), .int .u64 ((dg 1 (mq (Hn c n x k10)) : Nat) : Int), .int .u64 ((dg 2 (mq (Hn c n x k10)) : Nat) : Int), .int .u64 ((dg 3 (mq (Hn c n x k10)) : Nat) : Int)] 56, LR10, FR10] ((rall [blk b8 [.func (.func 169) #[] #[.pointer (some ⟨b7, 0, none⟩)]] 192, blk b9 [tval t] 60]) :: (rall [blk b7 [.slice la n lc] 51]) :: R) w := hs.unpack
  refine wS (wR ?_)
  refine q_v hk (w_as rfl) fun a hk => ?_
  refine c_end (x_t (wR ?_))
  refine q_alc (vs := [.int .u64 0, .int .u64 0, .int .u64 0, .int .u64 0]) hk hs zr56 rfl rfl rfl fun b11 w a hk hs => ?_
  refine q_sto (o := 0) (cs := [.int .u64 ((dg 0 (mq (c (n - 1 - k10))) : Nat) : Int), .int .u64 ((dg 1 (mq (c (n - 1 - k10))) : Nat) : Int), .int .u64 ((dg 2 (mq (c (n - 1 - k10))) : Nat) : Int), .int .u64 ((dg 3 (mq (c (n - 1 - k10))) : Nat) : Int)]) (vs' := [.int .u64 ((dg 0 (mq (c (n - 1 - k10))) : Nat) : Int), .int .u64 ((dg 1 (mq (c (n - 1 - k10))) : Nat) : Int), .int .u64 ((dg 2 (mq (c (n - 1 - k10))) : Nat) : Int), .int .u64 ((dg 3 (mq (c (n - 1 - k10))) : Nat) : Int)]) hk hs rfl rfl rfl ty56 rfl rfl rfl rfl rfl rfl fun w hs => ?_
  refine c_end (x_t ?_)
  have hs := hs.up6
  refine hL10.begin_ hs fun w hs => ?_
  refine wpIn_block ?_
  refine wS ?_
  have hL := okL.cons (hs.mi 2 rfl) (okL.cons (hs.mi 3 rfl) (okL.cons (hs.mi 1 rfl) okL.nil))
  refine d_begin _ 8 (by kernel_rfl) rfl hs hL fun w hs hL => ?_
  refine d_w 0 1 hk hL rfl (fun w hL => w_ldA rfl ty120 (.blk (n := 14) (hL.at 0 rfl) rfl) rfl) fun a hk => ?_
  refine d_w 1 3 hk hL rfl (fun w hL => w_ldA rfl ty120 (.blk (n := 14) (hL.at 0 rfl) rfl) rfl) fun a hk => ?_
  refine d_w 3 11 hk hL rfl (fun w hL => w_ldv (z := mq x) rfl ty56 (.blk (n := 4) (hL.at 1 rfl) rfl)) fun a hk => ?_
  refine d_w 5 43 hk hL rfl (fun w hL => w_ldv (z := mq (c (n - 1 - k10))) rfl ty56 (.blk (n := 4) (hL.at 2 rfl) rfl)) fun a hk => ?_
  refine d_1 2 47 rfl (by kernel_rfl) fun K hK => ?_
  refine q_v hk (w_ldv (z := mq (Hn c n x k10)) rfl ty56 (.blk (n := 4) (hs.mi 6 rfl) rfl)) fun a hk => ?_
  have hL := okL.cons (hs.mi 2 rfl) (okL.cons (hs.mi 3 rfl) (okL.cons (hs.mi 1 rfl) okL.nil))
  refine c_end (x_t (hK _ _ hL ?_))
  clear hK K
  refine d_1 4 63 rfl (by kernel_rfl) fun K hK => ?_
  refine q_call (caps := []) hk rfl rfl Tryz.func120 fo120 rfl rfl (zmul_c (x := (Hn c n x k10)) (y := x) _ rfl rfl) ?_
  rintro _ w ⟨rfl, hb⟩
  have hs := hs.below hb
  refine ⟨_, rfl, fun a hk => ?_⟩
  have hL := okL.cons (hs.mi 2 rfl) (okL.cons (hs.mi 3 rfl) (okL.cons (hs.mi 1 rfl) okL.nil))
  refine c_end (x_t (hK _ _ hL ?_))
  clear hK K
  refine d_1 6 127 rfl (by kernel_rfl) fun K hK => ?_
  refine q_call (caps := []) hk rfl rfl Tryz.func121 fo121 rfl rfl (zadd_c (x := ((Hn c n x k10) * x)) (y := (c (n - 1 - k10))) _ rfl rfl) ?_
  rintro _ w ⟨rfl, hb⟩
  have hs := hs.below hb
  refine ⟨_, rfl, fun a hk => ?_⟩
  have hL := okL.cons (hs.mi 2 rfl) (okL.cons (hs.mi 3 rfl) (okL.cons (hs.mi 1 rfl) okL.nil))
  refine c_end (x_t (hK _ _ hL ?_))
  clear hK K
  refine d_1 7 255 rfl (by kernel_rfl) fun K hK => ?_
  have hs := hs.up6
  refine q_sto (o := 0) (cs := [.int .u64 ((dg 0 (mq (((Hn c n x k10) * x) + (c (n - 1 - k10)))) : Nat) : Int), .int .u64 ((dg 1 (mq (((Hn c n x k10) * x) + (c (n - 1 - k10)))) : Nat) : Int), .int .u64 ((dg 2 (mq (((Hn c n x k10) * x) + (c (n - 1 - k10)))) : Nat) : Int), .int .u64 ((dg 3 (mq (((Hn c n x k10) * x) + (c (n - 1 - k10)))) : Nat) : Int)]) (vs' := [.int .u64 ((dg 0 (mq (((Hn c n x k10) * x) + (c (n - 1 - k10)))) : Nat) : Int), .int .u64 ((dg 1 (mq (((Hn c n x k10) * x) + (c (n - 1 - k10)))) : Nat) : Int), .int .u64 ((dg 2 (mq (((Hn c n x k10) * x) + (c (n - 1 - k10)))) : Nat) : Int), .int .u64 ((dg 3 (mq (((Hn c n x k10) * x) + (c (n - 1 - k10)))) : Nat) : Int)]) hk hs rfl rfl rfl ty56 rfl rfl rfl rfl rfl rfl fun w hs => ?_
  have hL := okL.cons (hs.mi 3 rfl) (okL.cons (hs.mi 4 rfl) (okL.cons (hs.mi 2 rfl) okL.nil))
  refine c_end (x_t (hK _ _ hL ?_))
  clear hK K
  refine d_end (by kernel_rfl) ?_
  refine (x_t ?_)
  refine wS (wR ?_)
  refine q_v hk (w_mv rfl) fun a hk => ?_
  rcases Classical.em (0 < ((n - 1 - k10 : Nat) : Int)) with hc12 | hc12
  ·
   refine q_v hk (w_gt rfl rfl (decide_eq_true hc12)) fun a hk => ?_
   refine c_end (x_t ?_)
   refine c_T hk rfl ?_
   refine wR ?_
   refine q_v hk (w_ld1 rfl ty51 (.blk (n := 1) (hs.mi 5 rfl) rfl)) fun a hk => ?_
   refine q_v hk (w_mv rfl) fun a hk => ?_
   refine q_v hk (w_sub rfl rfl (wr64 (by omega) (by omega))) fun a hk => ?_
   refine q_v hk (w_ldv (z := mq (((Hn c n x k10) * x) + (c (n - 1 - k10)))) rfl ty56 (.blk (n := 4) (hs.mi 0 rfl) rfl)) fun a hk => ?_
   refine q_v hk (w_iaL (k := (n - 1 - k10 - 1)) rfl rfl Tryz.underlying51 ty56 (blk_lst (hs.mi 6 rfl) (en_len vq_len) (Nat.le_refl _)) (by omega) (by omega)) fun a hk => ?_
   have hs := hs.up6
   refine q_stoE (c := vq) (xx := (mq (((Hn c n x k10) * x) + (c (n - 1 - k10))))) (k := (n - 1 - k10 - 1)) hk hs rfl rfl rfl ty56 rfl vq_len rfl (by omega) rfl fun w hs => ?_
   refine (c_end (x_b ?_))
   have hs := hs.rw0 (congrArg (fun q => blk b4 q 56) (quf_step (by omega)))
   have hs := hs.up3
   have hs := hs.drop
   have hs := hs.up6
   have hs := hs.up3
   have hs := hs.up3
   have hs := hs.up3
   have hs := hs.up6
   have hs := hs.up6
   have hs := hs.up6
   exact ⟨_, rfl, Sat.pack (l := [_, _, _, _, _]) hs⟩
  ·
   refine q_v hk (w_gt rfl rfl (decide_eq_false hc12)) fun a hk => ?_
   refine c_end (x_t ?_)
   refine c_F hk rfl ?_
   refine (wpIn_skip (x_b ?_))
   have hs := hs.up6
   have hs := hs.rw0 (congrArg (fun q => blk b4 q 56) (quf_last (by omega)))
   have hs := hs.up3
   have hs := hs.drop
   have hs := hs.up6
   have hs := hs.up3
   have hs := hs.up3
   have hs := hs.up3
   have hs := hs.up6
   have hs := hs.up6
   have hs := hs.up6
   exact ⟨_, rfl, Sat.pack (l := [_, _, _, _, _]) hs⟩
 ·
  intro D10 r r10 a w hJ hK hk hs
  rw [dnP_len] at hJ hK
  obtain ⟨rfl⟩ := hJ
  have hs := Sat.unpack (l := [blk b1 (fieldL s) 120, blk b2 [.int .u64 ((dg 0 (mq x) : Nat) : Int), .int .u64 ((dg 1 (mq x) : Nat) : Int), .int .u64 ((dg 2 (mq x) : Nat) : Int), .int .u64 ((dg 3 (mq x) : Nat) : Int)] 56, blk b5 [.slice (some ⟨b4, 0, none⟩) (n - 1) (n - 1)] 51, blk b4 (en vq (fun i => quf c n x n i) (n - 1)) 56, blk b6 [.int .u64 ((dg 0 (mq (Hn c n x n)) : Nat) : Int), .int .u64 ((dg 1 (mq (Hn c n x n)) : Nat) : Int), .int .u64 ((dg 2 (mq (Hn c n x n)) : Nat) : Int), .int .u64 ((dg 3 (mq (Hn c n x n)) : Nat) : Int)] 56]) hs.up1
  have hT := hK
  rw [dnP_coef] at hT
  have hT : TapeIs t (evs ++ downE (n : Int) coefE) r10 := hT
  have hs : Sat F0 W ((blk b1 (fieldL s) 120) :: (blk b2 [.int .u64 ((dg 0 (mq x) : Nat) : Int), .int .u64 ((dg 1 (mq x) : Nat) : Int), .int .u64 ((dg 2 (mq x) : Nat) : Int), .int .u64 ((dg 3 (mq x) : Nat) : Int)] 56) :: (blk b5 [.slice (some ⟨b4, 0, none⟩) (n - 1) (n - 1)] 51) :: (blk b4 (en vq (fun i => quf c n x n i) (n - 1)) 56) :: (blk b6 [.int .u64 ((dg 0 (mq (Hn c n x n)) : Nat) : Int), .int .u64 ((dg 1 (mq (Hn c n x n)) : Nat) : Int), .int .u64 ((dg 2 (mq (Hn c n x n)) : Nat) : Int), .int .u64 ((dg 3 (mq (Hn c n x n)) : Nat) : Int)] 56) :: (dres D10) :: r10 :: (blk b3 [.int .u64 0, .int .u64 0, .int .u64 0, .int .u64 0] 56) :: M) ((rall [blk b8 [.func (.func 169) #[] #[.pointer (some ⟨b7, 0, none⟩)]] 192, blk b9 [tval t] 60]) :: (rall [blk b7 [.slice la n lc] 51]) :: R) w := hs
  refine (x_b (x_t ?_))
  refine wS ?_
  have hL := okL.cons (hs.mi 2 rfl) (okL.cons (hs.mi 4 rfl) okL.nil)
  refine d_begin _ 4 (by kernel_rfl) rfl hs hL fun w hs hL => ?_
  refine d_w 0 1 hk hL rfl (fun w hL => w_ld1 rfl ty51 (.blk (n := 1) (hL.at 0 rfl) rfl)) fun a hk => ?_
  refine d_w 1 3 hk hL rfl (fun w hL => w_ldv (z := mq (Hn c n x n)) rfl ty56 (.blk (n := 4) (hL.at 1 rfl) rfl)) fun a hk => ?_
  refine d_w 2 7 hk hL rfl (fun w hL => w_as rfl) fun a hk => ?_
  refine d_1 3 15 rfl (by kernel_rfl) fun K hK => ?_
  have hs := hs.up7
  refine q_sto (o := 0) (cs := [.int .u64 ((dg 0 (mq (Hn c n x n)) : Nat) : Int), .int .u64 ((dg 1 (mq (Hn c n x n)) : Nat) : Int), .int .u64 ((dg 2 (mq (Hn c n x n)) : Nat) : Int), .int .u64 ((dg 3 (mq (Hn c n x n)) : Nat) : Int)]) (vs' := [.int .u64 ((dg 0 (mq (Hn c n x n)) : Nat) : Int), .int .u64 ((dg 1 (mq (Hn c n x n)) : Nat) : Int), .int .u64 ((dg 2 (mq (Hn c n x n)) : Nat) : Int), .int .u64 ((dg 3 (mq (Hn c n x n)) : Nat) : Int)]) hk hs rfl rfl rfl ty56 rfl rfl rfl rfl rfl rfl fun w hs => ?_
  have hL := okL.cons (hs.mi 3 rfl) (okL.cons (hs.mi 5 rfl) okL.nil)
  refine c_end (x_t (hK _ _ hL ?_))
  clear hK K
  refine d_end (by kernel_rfl) ?_
  refine (x_t ?_)
  refine (wpIn_ret ?_)
  have hs := hs.up7
  have hs := hs.up6
  have hs := hs.up6
  have hs := hs.up6
  have hs := hs.up6
  have hs := hs.up6
  have hs := hs.up6
  have hs := hs.up7
  refine c_retM (M := ((blk b3 [.int .u64 ((dg 0 (mq (Hn c n x n)) : Nat) : Int), .int .u64 ((dg 1 (mq (Hn c n x n)) : Nat) : Int), .int .u64 ((dg 2 (mq (Hn c n x n)) : Nat) : Int), .int .u64 ((dg 3 (mq (Hn c n x n)) : Nat) : Int)] 56) :: (blk b1 (fieldL s) 120) :: (blk b2 [.int .u64 ((dg 0 (mq x) : Nat) : Int), .int .u64 ((dg 1 (mq x) : Nat) : Int), .int .u64 ((dg 2 (mq x) : Nat) : Int), .int .u64 ((dg 3 (mq x) : Nat) : Int)] 56) :: (blk b5 [.slice (some ⟨b4, 0, none⟩) (n - 1) (n - 1)] 51) :: (blk b4 (en vq (fun i => quf c n x n i) (n - 1)) 56) :: (blk b6 [.int .u64 ((dg 0 (mq (Hn c n x n)) : Nat) : Int), .int .u64 ((dg 1 (mq (Hn c n x n)) : Nat) : Int), .int .u64 ((dg 2 (mq (Hn c n x n)) : Nat) : Int), .int .u64 ((dg 3 (mq (Hn c n x n)) : Nat) : Int)] 56) :: r10 :: M)) hk hs fun w hs => ⟨_, res_ok (rs := [.tmp 8, .cell 9 56]) (vs := [.slice (some ⟨b4, 0, none⟩) (n - 1) (n - 1), vec (mq (Hn c n x n))]) hk rfl ⟨rfl, ⟨_, rfl, lv_A ty56 (.blk (n := 4) (hs.mi 0 rfl) rfl) rfl⟩, trivial⟩, ?_⟩
  have hs := hs.drop
  have hs := hs.drop
  have hs := hs.drop
  have hs := hs.drop
  have hs := hs.up1
  have hs := hs.drop
  have hs := hs.up1
  have hs := hs.toR (R' := R) (fun r hr => .of (by simp [hr]))
  rw [quf_end] at hs
  exact ⟨_, _, rfl, hT, hs⟩
 · rintro _ _ _ _ _ _ _ _ h; exact h.elim
theorem peval_m {F0 : Nat → Prop} {W : World} {M R : List Res} (s : Bool) (n lc : Nat) (la : Option Addr) (c : Nat → Zp s) (x : Zp s) (t : Option Nat) (evs : List Ev) (r : Res) (w0 : World) (hs : Sat F0 W (r :: M) R w0) (hT : TapeIs t evs r) (hL : HasR (lst 4 (.slice la n lc) n (en vq (fun i => mq (c i)) n)) R) (h0 : 0 < n) (hn9 : n ≤ 1000000) (hn : evs.length ≤ 1000000000) : Calls Tryz.prog 91 [tval t, fieldV s, .slice la n lc, vec (mq x)].toArray w0 fun e w => ∃ r, e = .returned (vec (mq (Hn c n x n))) ∧ TapeIs t (evs ++ downE n coefE) r ∧ Sat F0 W (r :: M) R w := by
 refine c_enter (args := [tval t, fieldV s, .slice la n lc, vec (mq x)]) Tryz.func91 rfl rfl rfl fun a hk => ?_
 refine wS (wR ?_)
 refine q_box (vs := fieldL s) hk hs rfl rfl rfl rfl fun b1 w a hk hs => ?_
 refine q_box (vs := [.int .u64 ((dg 0 (mq x) : Nat) : Int), .int .u64 ((dg 1 (mq x) : Nat) : Int), .int .u64 ((dg 2 (mq x) : Nat) : Int), .int .u64 ((dg 3 (mq x) : Nat) : Int)]) hk hs rfl rfl rfl rfl fun b2 w a hk hs => ?_
 refine q_alc (vs := [.int .u64 0, .int .u64 0, .int .u64 0, .int .u64 0]) hk hs zr56 rfl rfl rfl fun b3 w a hk hs => ?_
 refine c_end (x_t (wS (wR ?_)))
 refine q_v hk (w_mv rfl) fun a hk => ?_
 refine q_v hk (w_ldA rfl ty120 (.blk (n := 14) (hs.mi 2 rfl) rfl) rfl) fun a hk => ?_
 refine q_v hk (w_mv rfl) fun a hk => ?_
 refine q_v hk (w_ldv (z := mq x) rfl ty56 (.blk (n := 4) (hs.mi 1 rfl) rfl)) fun a hk => ?_
 have hs := hs.up3
 refine q_call (caps := []) hk rfl rfl Tryz.func119 fo119 rfl rfl (quot_m s n lc la c x t evs _ _ hs hT hL h0 hn9 (by omega)) ?_
 rintro _ w ⟨b4, r5, rfl, ht6, hs⟩
 have hT := ht6
 refine ⟨_, rfl, fun a hk => ?_⟩
 refine q_v hk (w_mv rfl) fun a hk => ?_
 refine q_v hk (w_ext rfl rfl) fun a hk => ?_
 refine q_v hk (w_ext rfl rfl) fun a hk => ?_
 refine q_alc (vs := [.int .u64 0, .int .u64 0, .int .u64 0, .int .u64 0]) hk hs zr56 rfl rfl rfl fun b7 w a hk hs => ?_
 refine q_v hk (w_as rfl) fun a hk => ?_
 refine q_sto (o := 0) (cs := [.int .u64 ((dg 0 (mq (Hn c n x n)) : Nat) : Int), .int .u64 ((dg 1 (mq (Hn c n x n)) : Nat) : Int), .int .u64 ((dg 2 (mq (Hn c n x n)) : Nat) : Int), .int .u64 ((dg 3 (mq (Hn c n x n)) : Nat) : Int)]) (vs' := [.int .u64 ((dg 0 (mq (Hn c n x n)) : Nat) : Int), .int .u64 ((dg 1 (mq (Hn c n x n)) : Nat) : Int), .int .u64 ((dg 2 (mq (Hn c n x n)) : Nat) : Int), .int .u64 ((dg 3 (mq (Hn c n x n)) : Nat) : Int)]) hk hs rfl rfl rfl ty56 rfl rfl rfl rfl rfl rfl fun w hs => ?_
 refine c_end (x_t (wS (wR ?_)))
 refine q_v hk (w_ldv (z := mq (Hn c n x n)) rfl ty56 (.blk (n := 4) (hs.mi 0 rfl) rfl)) fun a hk => ?_
 have hs := hs.up3
 refine q_sto (o := 0) (cs := [.int .u64 ((dg 0 (mq (Hn c n x n)) : Nat) : Int), .int .u64 ((dg 1 (mq (Hn c n x n)) : Nat) : Int), .int .u64 ((dg 2 (mq (Hn c n x n)) : Nat) : Int), .int .u64 ((dg 3 (mq (Hn c n x n)) : Nat) : Int)]) (vs' := [.int .u64 ((dg 0 (mq (Hn c n x n)) : Nat) : Int), .int .u64 ((dg 1 (mq (Hn c n x n)) : Nat) : Int), .int .u64 ((dg 2 (mq (Hn c n x n)) : Nat) : Int), .int .u64 ((dg 3 (mq (Hn c n x n)) : Nat) : Int)]) hk hs rfl rfl rfl ty56 rfl rfl rfl rfl rfl rfl fun w hs => ?_
 refine c_end (x_t ?_)
 refine (wpIn_ret ?_)
 refine c_retG (vs := [vec (mq (Hn c n x n))]) hk rfl ⟨⟨_, rfl, lv_A ty56 (.blk (n := 4) (hs.mi 0 rfl) rfl) rfl⟩, trivial⟩ rfl ?_
 have hs := hs.drop
 have hs := hs.drop
 have hs := hs.up1
 have hs := hs.drop
 have hs := hs.up1
 have hs := hs.drop
 have hs := hs.up1
 have hs := hs.drop
 exact ⟨_, rfl, hT, hs⟩
theorem mul_m {F0 : Nat → Prop} {W : World} {M R : List Res} (s : Bool) (na ca nb cb : Nat) (aa ab : Option Addr) (pa pb : Nat → Zp s) (w0 : World) (hs : Sat F0 W M ((lst 4 (.slice aa na ca) na (en vq (fun i => mq (pa i)) na)) :: (lst 4 (.slice ab nb cb) nb (en vq (fun i => mq (pb i)) nb)) :: R) w0) (h0 : 0 < na) (h1 : 0 < nb) (hn9 : na ≤ 1000000) (hn8 : nb ≤ 1000000) : Calls Tryz.prog 145 [.pointer none, fieldV s, .slice aa na ca, .slice ab nb cb].toArray w0 fun e w => ∃ o, e = .returned (.slice (some ⟨o, 0, none⟩) (na + nb - 1) (na + nb - 1)) ∧ Sat F0 W (blk o (en vq (fun j => mq (mall pa pb nb na j)) (na + nb - 1)) 56 :: M) R w := by
 refine c_enter (args := [.pointer none, fieldV s, .slice aa na ca, .slice ab nb cb]) Tryz.func145 rfl rfl rfl fun a hk => ?_
 refine wS (wR ?_)
 refine q_box (vs := fieldL s) hk hs rfl rfl rfl rfl fun b1 w a hk hs => ?_
 refine q_v hk (w_as rfl) fun a hk => ?_
 refine c_end (x_t (wS (wS (wR ?_))))
 refine q_v hk (w_mv rfl) fun a hk => ?_
 refine q_v hk (w_len rfl Tryz.underlying51) fun a hk => ?_
 refine q_v hk (w_eq rfl rfl (decide_eq_false (by omega))) fun a hk => ?_
 refine q_v hk (w_mv rfl) fun a hk => ?_
 refine q_v hk (w_mv rfl) fun a hk => ?_
 refine q_v hk (w_len rfl Tryz.underlying51) fun a hk => ?_
 refine q_v hk (w_eq rfl rfl (decide_eq_false (by omega))) fun a hk => ?_
 refine q_v hk (w_pickF rfl rfl) fun a hk => ?_
 refine c_end (x_t ?_)
 refine c_F hk rfl ?_
 refine (wpIn_skip (x_t ?_))
 refine wS (wR ?_)
 refine q_v hk (w_mv rfl) fun a hk => ?_
 refine q_v hk (w_len rfl Tryz.underlying51) fun a hk => ?_
 refine q_v hk (w_mv rfl) fun a hk => ?_
 refine q_v hk (w_len rfl Tryz.underlying51) fun a hk => ?_
 refine q_v hk (w_add rfl rfl (wr64 (by omega) (by omega))) fun a hk => ?_
 refine q_v hk (w_sub (r := ((na + nb - 1 : Nat) : Int)) rfl rfl (by rw [wr64 (by omega) (by omega)]; omega)) fun a hk => ?_
 refine q_mks (k := na + nb - 1) (cs := vq 0) hk hs rfl rfl Tryz.underlying51 ty56 zr56 (by kernel_rfl) rfl rfl rfl rfl (by omega) (by omega) rfl rfl fun b2 w a hk hs => ?_
 have hs := hs.rw0 (show _ = blk b2 (en vq (fun _ => 0) (na + nb - 1)) 56 from rfl)
 refine q_v hk (w_as rfl) fun a hk => ?_
 refine c_end (x_t (wS (wS (wR ?_))))
 refine q_v hk (w_mv rfl) fun a hk => ?_
 refine q_v hk (w_len rfl Tryz.underlying51) fun a hk => ?_
 refine q_v hk (w_mv rfl) fun a hk => ?_
 refine c_end (x_t ?_)
 refine wpIn_block ?_
 have hs := hs.rw0 (congrArg (fun q => blk b2 q 56) (mall_zero (a := pa) (b := pb) (nb := nb)))
 refine c_loop (α := Nat) (fun u a w => u ≤ na ∧ Kn [] 67 [(31, .int .i64 ((u : Nat) : Int)), (30, .int .i64 ((na : Nat) : Int)), (29, .slice aa na ca), (9, .slice (some ⟨b2, 0, none⟩) (na + nb - 1) (na + nb - 1)), (8, .slice none 0 0), (5, .pointer (some ⟨b1, 0, none⟩)), (0, .pointer none), (3, .slice ab nb cb)] a ∧ Sat F0 W ((blk b2 (en vq (fun i => mq (mall pa pb nb u i)) (na + nb - 1)) 56) :: (blk b1 (fieldL s) 120) :: M) ((lst 4 (.slice aa na ca) na (en vq (fun i => mq (pa i)) na)) :: (lst 4 (.slice ab nb cb) nb (en vq (fun i => mq (pb i)) nb)) :: R) w) (fun u => na - u) 0 ?_ ?_
 · exact ⟨(by omega), hk.k rfl (hk.k rfl (hk.k rfl (hk.k rfl (hk.k rfl (hk.k rfl (hk.k rfl (hk.k rfl hk.nil))))))), hs⟩
 rintro u a w ⟨hf0, hk, hs⟩
 refine wS (wR ?_)
 rcases Classical.em (((u : Nat) : Int) < ((na : Nat) : Int)) with hc3 | hc3
 ·
  refine q_v hk (w_lt rfl rfl (decide_eq_true hc3)) fun a hk => ?_
  refine c_end (x_t (wS ?_))
  refine c_T hk rfl ?_
  refine (wpIn_skip (x_t ?_))
  refine wS ?_
  refine wpIn_block ?_
  refine wS (wR ?_)
  refine q_v hk (w_mv rfl) fun a hk => ?_
  refine q_v hk (w_iaL (k := u) rfl rfl Tryz.underlying51 ty56 (hs.ri 0 rfl) (by omega) (by omega)) fun a hk => ?_
  refine q_v hk (w_ldv (z := mq (pa u)) rfl ty56 (lstq (k := u) (hs.ri 0 rfl) (by omega) (en_chunk vq_len (by omega)))) fun a hk => ?_
  refine q_alc (vs := [.int .u64 0, .int .u64 0, .int .u64 0, .int .u64 0]) hk hs zr56 rfl rfl rfl fun b4 w a hk hs => ?_
  refine q_v hk (w_as rfl) fun a hk => ?_
  refine q_sto (o := 0) (cs := [.int .u64 ((dg 0 (mq (pa u)) : Nat) : Int), .int .u64 ((dg 1 (mq (pa u)) : Nat) : Int), .int .u64 ((dg 2 (mq (pa u)) : Nat) : Int), .int .u64 ((dg 3 (mq (pa u)) : Nat) : Int)]) (vs' := [.int .u64 ((dg 0 (mq (pa u)) : Nat) : Int), .int .u64 ((dg 1 (mq (pa u)) : Nat) : Int), .int .u64 ((dg 2 (mq (pa u)) : Nat) : Int), .int .u64 ((dg 3 (mq (pa u)) : Nat) : Int)]) hk hs rfl rfl rfl ty56 rfl rfl rfl rfl rfl rfl fun w hs => ?_
  refine c_end (x_t (wS (wR ?_)))
  refine q_v hk (w_mv rfl) fun a hk => ?_
  refine q_v hk (w_len rfl Tryz.underlying51) fun a hk => ?_
  refine q_v hk (w_mv rfl) fun a hk => ?_
  refine c_end (x_t ?_)
  refine wpIn_block ?_
  refine c_loop (α := Nat) (fun k a w => k ≤ nb ∧ Kn [] 67 [(38, .int .i64 ((k : Nat) : Int)), (37, .int .i64 ((nb : Nat) : Int)), (36, .slice ab nb cb), (10, .int .i64 ((u : Nat) : Int)), (11, .pointer (some ⟨b4, 0, none⟩)), (35, vec (mq (pa u))), (33, .int .i64 ((u : Nat) : Int)), (32, .bool true), (31, .int .i64 ((u : Nat) : Int)), (30, .int .i64 ((na : Nat) : Int)), (29, .slice aa na ca), (9, .slice (some ⟨b2, 0, none⟩) (na + nb - 1) (na + nb - 1)), (8, .slice none 0 0), (5, .pointer (some ⟨b1, 0, none⟩)), (0, .pointer none), (3, .slice ab nb cb)] a ∧ Sat F0 W ((blk b4 [.int .u64 ((dg 0 (mq (pa u)) : Nat) : Int), .int .u64 ((dg 1 (mq (pa u)) : Nat) : Int), .int .u64 ((dg 2 (mq (pa u)) : Nat) : Int), .int .u64 ((dg 3 (mq (pa u)) : Nat) : Int)] 56) :: (blk b2 (en vq (fun i => mq (mrow pa pb u (mall pa pb nb u) k i)) (na + nb - 1)) 56) :: (blk b1 (fieldL s) 120) :: M) ((lst 4 (.slice aa na ca) na (en vq (fun i => mq (pa i)) na)) :: (lst 4 (.slice ab nb cb) nb (en vq (fun i => mq (pb i)) nb)) :: R) w) (fun k => nb - k) 0 ?_ ?_
  · exact ⟨(by omega), hk.k rfl (hk.k rfl (hk.k rfl (hk.k rfl (hk.k rfl (hk.k rfl (hk.k rfl (hk.k rfl (hk.k rfl (hk.k rfl (hk.k rfl (hk.k rfl (hk.k rfl (hk.k rfl (hk.k rfl (hk.k rfl hk.nil))))))))))))))), hs⟩
  rintro k a w ⟨hf0, hk, hs⟩
  refine wS (wR ?_)
  rcases Classical.em (((k : Nat) : Int) < ((nb : Nat) : Int)) with hc5 | hc5
  ·
   refine q_v hk (w_lt rfl rfl (decide_eq_true hc5)) fun a hk => ?_
   refine c_end (x_t (wS ?_))
   refine c_T hk rfl ?_
   refine (wpIn_skip (x_t ?_))
   refine wS ?_
   refine wpIn_block ?_
   refine wS (wR ?_)
   refine q_v hk (w_mv rfl) fun a hk => ?_
   refine q_v hk (w_iaL (k := k) rfl rfl Tryz.underlying51 ty56 (hs.ri 1 rfl) (by omega) (by omega)) fun a hk => ?_
   refine q_v hk (w_ldv (z := mq (pb k)) rfl ty56 (lstq (k := k) (hs.ri 1 rfl) (by omega) (en_chunk vq_len (by omega)))) fun a hk => ?_
   refine q_alc (vs := [.int .u64 0, .int .u64 0, .int .u64 0, .int .u64 0]) hk hs zr56 rfl rfl rfl fun b6 w a hk hs => ?_
   refine q_v hk (w_as rfl) fun a hk => ?_
   refine q_sto (o := 0) (cs := [.int .u64 ((dg 0 (mq (pb k)) : Nat) : Int), .int .u64 ((dg 1 (mq (pb k)) : Nat) : Int), .int .u64 ((dg 2 (mq (pb k)) : Nat) : Int), .int .u64 ((dg 3 (mq (pb k)) : Nat) : Int)]) (vs' := [.int .u64 ((dg 0 (mq (pb k)) : Nat) : Int), .int .u64 ((dg 1 (mq (pb k)) : Nat) : Int), .int .u64 ((dg 2 (mq (pb k)) : Nat) : Int), .int .u64 ((dg 3 (mq (pb k)) : Nat) : Int)]) hk hs rfl rfl rfl ty56 rfl rfl rfl rfl rfl rfl fun w hs => ?_
   refine c_end (x_t (wS (wR ?_)))
   refine q_v hk (w_mv rfl) fun a hk => ?_
   refine q_v hk (w_mv rfl) fun a hk => ?_
   refine q_v hk (w_mv rfl) fun a hk => ?_
   refine q_call (caps := []) hk rfl rfl Tryz.func61 fo61 rfl rfl (note_n 3 ((u : Nat) : Int) ((k : Nat) : Int) _ hs) ?_
   rintro _ w ⟨v7, rfl, hs⟩
   refine ⟨_, rfl, fun a hk => ?_⟩
   refine c_end (x_t ?_)
   have hL := okL.cons (hs.mi 3 rfl) (okL.cons (hs.mi 1 rfl) (okL.cons (hs.mi 0 rfl) okL.nil))
   refine d_begin _ 18 (by kernel_rfl) rfl hs hL fun w hs hL => ?_
   refine d_join (n2 := 3) 32767 (fun a w => Kn [] 67 [(61, vec (mq ((pa u) * (pb k)))), (57, vec (mq (mrow pa pb u (mall pa pb nb u) k (u + k)))), (56, .pointer (some ((adq (some ⟨b2, 0, none⟩)).add ((u + k) * 4)))), (60, vec (mq (pb k))), (59, vec (mq (pa u))), (58, fieldV s), (55, .int .i64 ((u + k : Nat) : Int)), (54, .int .i64 ((k : Nat) : Int)), (53, .int .i64 ((u : Nat) : Int)), (52, .slice (some ⟨b2, 0, none⟩) (na + nb - 1) (na + nb - 1)), (51, fieldV s), (50, .int .i64 ((u + k : Nat) : Int)), (49, .int .i64 ((k : Nat) : Int)), (48, .int .i64 ((u : Nat) : Int)), (47, .slice (some ⟨b2, 0, none⟩) (na + nb - 1) (na + nb - 1)), (46, v7), (45, .int .i64 ((k : Nat) : Int)), (44, .int .i64 ((u : Nat) : Int)), (43, .pointer none), (12, .int .i64 ((k : Nat) : Int)), (13, .pointer (some ⟨b6, 0, none⟩)), (42, vec (mq (pb k))), (41, .pointer (some ((adq ab).add (k * 4)))), (40, .int .i64 ((k : Nat) : Int)), (39, .bool true), (38, .int .i64 ((k : Nat) : Int)), (37, .int .i64 ((nb : Nat) : Int)), (36, .slice ab nb cb), (10, .int .i64 ((u : Nat) : Int)), (11, .pointer (some ⟨b4, 0, none⟩)), (35, vec (mq (pa u))), (33, .int .i64 ((u : Nat) : Int)), (32, .bool true), (31, .int .i64 ((u : Nat) : Int)), (30, .int .i64 ((na : Nat) : Int)), (29, .slice aa na ca), (9, .slice (some ⟨b2, 0, none⟩) (na + nb - 1) (na + nb - 1)), (8, .slice none 0 0), (5, .pointer (some ⟨b1, 0, none⟩)), (0, .pointer none), (3, .slice ab nb cb)] a ∧ Sat F0 W ((blk b6 [.int .u64 ((dg 0 (mq (pb k)) : Nat) : Int), .int .u64 ((dg 1 (mq (pb k)) : Nat) : Int), .int .u64 ((dg 2 (mq (pb k)) : Nat) : Int), .int .u64 ((dg 3 (mq (pb k)) : Nat) : Int)] 56) :: (blk b4 [.int .u64 ((dg 0 (mq (pa u)) : Nat) : Int), .int .u64 ((dg 1 (mq (pa u)) : Nat) : Int), .int .u64 ((dg 2 (mq (pa u)) : Nat) : Int), .int .u64 ((dg 3 (mq (pa u)) : Nat) : Int)] 56) :: (blk b2 (en vq (fun i => mq (mrow pa pb u (mall pa pb nb u) k i)) (na + nb - 1)) 56) :: (blk b1 (fieldL s) 120) :: M) ((lst 4 (.slice aa na ca) na (en vq (fun i => mq (pa i)) na)) :: (lst 4 (.slice ab nb cb) nb (en vq (fun i => mq (pb i)) nb)) :: R) w ∧ okL [blk b1 (fieldL s) 120, blk b4 [.int .u64 ((dg 0 (mq (pa u)) : Nat) : Int), .int .u64 ((dg 1 (mq (pa u)) : Nat) : Int), .int .u64 ((dg 2 (mq (pa u)) : Nat) : Int), .int .u64 ((dg 3 (mq (pa u)) : Nat) : Int)] 56, blk b6 [.int .u64 ((dg 0 (mq (pb k)) : Nat) : Int), .int .u64 ((dg 1 (mq (pb k)) : Nat) : Int), .int .u64 ((dg 2 (mq (pb k)) : Nat) : Int), .int .u64 ((dg 3 (mq (pb k)) : Nat) : Int)] 56] w) ?_ ?_
   ·
    intro hJ32767
    refine d_join (n2 := 4) 31743 (fun a w => Kn [] 67 [(61, vec (mq ((pa u) * (pb k)))), (56, .pointer (some ((adq (some ⟨b2, 0, none⟩)).add ((u + k) * 4)))), (60, vec (mq (pb k))), (59, vec (mq (pa u))), (58, fieldV s), (55, .int .i64 ((u + k : Nat) : Int)), (54, .int .i64 ((k : Nat) : Int)), (53, .int .i64 ((u : Nat) : Int)), (52, .slice (some ⟨b2, 0, none⟩) (na + nb - 1) (na + nb - 1)), (51, fieldV s), (50, .int .i64 ((u + k : Nat) : Int)), (49, .int .i64 ((k : Nat) : Int)), (48, .int .i64 ((u : Nat) : Int)), (47, .slice (some ⟨b2, 0, none⟩) (na + nb - 1) (na + nb - 1)), (46, v7), (45, .int .i64 ((k : Nat) : Int)), (44, .int .i64 ((u : Nat) : Int)), (43, .pointer none), (12, .int .i64 ((k : Nat) : Int)), (13, .pointer (some ⟨b6, 0, none⟩)), (42, vec (mq (pb k))), (41, .pointer (some ((adq ab).add (k * 4)))), (40, .int .i64 ((k : Nat) : Int)), (39, .bool true), (38, .int .i64 ((k : Nat) : Int)), (37, .int .i64 ((nb : Nat) : Int)), (36, .slice ab nb cb), (10, .int .i64 ((u : Nat) : Int)), (11, .pointer (some ⟨b4, 0, none⟩)), (35, vec (mq (pa u))), (33, .int .i64 ((u : Nat) : Int)), (32, .bool true), (31, .int .i64 ((u : Nat) : Int)), (30, .int .i64 ((na : Nat) : Int)), (29, .slice aa na ca), (9, .slice (some ⟨b2, 0, none⟩) (na + nb - 1) (na + nb - 1)), (8, .slice none 0 0), (5, .pointer (some ⟨b1, 0, none⟩)), (0, .pointer none), (3, .slice ab nb cb)] a ∧ Sat F0 W ((blk b6 [.int .u64 ((dg 0 (mq (pb k)) : Nat) : Int), .int .u64 ((dg 1 (mq (pb k)) : Nat) : Int), .int .u64 ((dg 2 (mq (pb k)) : Nat) : Int), .int .u64 ((dg 3 (mq (pb k)) : Nat) : Int)] 56) :: (blk b4 [.int .u64 ((dg 0 (mq (pa u)) : Nat) : Int), .int .u64 ((dg 1 (mq (pa u)) : Nat) : Int), .int .u64 ((dg 2 (mq (pa u)) : Nat) : Int), .int .u64 ((dg 3 (mq (pa u)) : Nat) : Int)] 56) :: (blk b2 (en vq (fun i => mq (mrow pa pb u (mall pa pb nb u) k i)) (na + nb - 1)) 56) :: (blk b1 (fieldL s) 120) :: M) ((lst 4 (.slice aa na ca) na (en vq (fun i => mq (pa i)) na)) :: (lst 4 (.slice ab nb cb) nb (en vq (fun i => mq (pb i)) nb)) :: R) w ∧ okL [blk b1 (fieldL s) 120, blk b4 [.int .u64 ((dg 0 (mq (pa u)) : Nat) : Int), .int .u64 ((dg 1 (mq (pa u)) : Nat) : Int), .int .u64 ((dg 2 (mq (pa u)) : Nat) : Int), .int .u64 ((dg 3 (mq (pa u)) : Nat) : Int)] 56, blk b6 [.int .u64 ((dg 0 (mq (pb k)) : Nat) : Int), .int .u64 ((dg 1 (mq (pb k)) : Nat) : Int), .int .u64 ((dg 2 (mq (pb k)) : Nat) : Int), .int .u64 ((dg 3 (mq (pb k)) : Nat) : Int)] 56] w) ?_ ?_
    ·
     intro hJ31743
     refine d_w 0 1 hk hL rfl (fun w hL => w_mv rfl) fun a hk => ?_
     refine d_w 1 3 hk hL rfl (fun w hL => w_mv rfl) fun a hk => ?_
     refine d_w 2 7 hk hL rfl (fun w hL => w_mv rfl) fun a hk => ?_
     refine d_w 3 15 hk hL rfl (fun w hL => w_add (r := ((u + k : Nat) : Int)) rfl rfl (by rw [wr64 (by omega) (by omega)]; omega)) fun a hk => ?_
     refine d_w 4 31 hk hL rfl (fun w hL => w_ldA rfl ty120 (.blk (n := 14) (hL.at 0 rfl) rfl) rfl) fun a hk => ?_
     refine d_w 5 63 hk hL rfl (fun w hL => w_mv rfl) fun a hk => ?_
     refine d_w 6 127 hk hL rfl (fun w hL => w_mv rfl) fun a hk => ?_
     refine d_w 7 255 hk hL rfl (fun w hL => w_mv rfl) fun a hk => ?_
     refine d_w 8 511 hk hL rfl (fun w hL => w_add (r := ((u + k : Nat) : Int)) rfl rfl (by rw [wr64 (by omega) (by omega)]; omega)) fun a hk => ?_
     refine d_w 11 2559 hk hL rfl (fun w hL => w_ldA rfl ty120 (.blk (n := 14) (hL.at 0 rfl) rfl) rfl) fun a hk => ?_
     refine d_w 12 6655 hk hL rfl (fun w hL => w_ldv (z := mq (pa u)) rfl ty56 (.blk (n := 4) (hL.at 1 rfl) rfl)) fun a hk => ?_
     refine d_w 13 14847 hk hL rfl (fun w hL => w_ldv (z := mq (pb k)) rfl ty56 (.blk (n := 4) (hL.at 2 rfl) rfl)) fun a hk => ?_
     refine d_2 9 14 15359 31231 rfl rfl (by kernel_rfl) (fun K hK => ?_) (fun K hK => ?_)
     ·
      refine q_v hk (w_iaL (k := u + k) rfl rfl Tryz.underlying51 ty56 (blk_lst (hs.mi 2 rfl) (en_len vq_len) (Nat.le_refl _)) (by omega) (by omega)) fun a hk => ?_
      have hL := okL.cons (hs.mi 3 rfl) (okL.cons (hs.mi 1 rfl) (okL.cons (hs.mi 0 rfl) okL.nil))
      refine c_end (x_t (hK _ _ hL ?_))
      clear hK K
      refine d_2 10 14 16383 31743 rfl rfl (by kernel_rfl) (fun K hK => ?_) (fun K hK => ?_)
      ·
       refine q_v hk (w_ldv (z := mq (mrow pa pb u (mall pa pb nb u) k (u + k))) rfl ty56 (lstq (k := u + k) (blk_lst (hs.mi 2 rfl) (en_len vq_len) (Nat.le_refl _)) (by omega) (en_chunk vq_len (by omega)))) fun a hk => ?_
       have hL := okL.cons (hs.mi 3 rfl) (okL.cons (hs.mi 1 rfl) (okL.cons (hs.mi 0 rfl) okL.nil))
       refine c_end (x_t (hK _ _ hL ?_))
       clear hK K
       refine d_1 14 32767 rfl (by kernel_rfl) fun K hK => ?_
       refine q_call (caps := []) hk rfl rfl Tryz.func120 fo120 rfl rfl (zmul_c (x := (pa u)) (y := (pb k)) _ rfl rfl) ?_
       rintro _ w ⟨rfl, hb⟩
       have hs := hs.below hb
       refine ⟨_, rfl, fun a hk => ?_⟩
       have hL := okL.cons (hs.mi 3 rfl) (okL.cons (hs.mi 1 rfl) (okL.cons (hs.mi 0 rfl) okL.nil))
       refine c_end (x_t (hK _ _ hL ?_))
       clear hK K
       have hL := okL.cons (hs.mi 3 rfl) (okL.cons (hs.mi 1 rfl) (okL.cons (hs.mi 0 rfl) okL.nil))
       exact hJ32767 _ _ ⟨hk.k rfl (hk.k rfl (hk.k rfl (hk.k rfl (hk.k rfl (hk.k rfl (hk.k rfl (hk.k rfl (hk.k rfl (hk.k rfl (hk.k rfl (hk.k rfl (hk.k rfl (hk.k rfl (hk.k rfl (hk.k rfl (hk.k rfl (hk.k rfl (hk.k rfl (hk.k rfl (hk.k rfl (hk.k rfl (hk.k rfl (hk.k rfl (hk.k rfl (hk.k rfl (hk.k rfl (hk.k rfl (hk.k rfl (hk.k rfl (hk.k rfl (hk.k rfl (hk.k rfl (hk.k rfl (hk.k rfl (hk.k rfl (hk.k rfl (hk.k rfl (hk.k rfl (hk.k rfl (hk.k rfl hk.nil)))))))))))))))))))))))))))))))))))))))), hs, hL⟩
      ·
       refine q_call (caps := []) hk rfl rfl Tryz.func120 fo120 rfl rfl (zmul_c (x := (pa u)) (y := (pb k)) _ rfl rfl) ?_
       rintro _ w ⟨rfl, hb⟩
       have hs := hs.below hb
       refine ⟨_, rfl, fun a hk => ?_⟩
       have hL := okL.cons (hs.mi 3 rfl) (okL.cons (hs.mi 1 rfl) (okL.cons (hs.mi 0 rfl) okL.nil))
       refine c_end (x_t (hK _ _ hL ?_))
       clear hK K
       have hL := okL.cons (hs.mi 3 rfl) (okL.cons (hs.mi 1 rfl) (okL.cons (hs.mi 0 rfl) okL.nil))
       exact hJ31743 _ _ ⟨hk.k rfl (hk.k rfl (hk.k rfl (hk.k rfl (hk.k rfl (hk.k rfl (hk.k rfl (hk.k rfl (hk.k rfl (hk.k rfl (hk.k rfl (hk.k rfl (hk.k rfl (hk.k rfl (hk.k rfl (hk.k rfl (hk.k rfl (hk.k rfl (hk.k rfl (hk.k rfl (hk.k rfl (hk.k rfl (hk.k rfl (hk.k rfl (hk.k rfl (hk.k rfl (hk.k rfl (hk.k rfl (hk.k rfl (hk.k rfl (hk.k rfl (hk.k rfl (hk.k rfl (hk.k rfl (hk.k rfl (hk.k rfl (hk.k rfl (hk.k rfl (hk.k rfl (hk.k rfl hk.nil))))))))))))))))))))))))))))))))))))))), hs, hL⟩
     ·
      refine q_call (caps := []) hk rfl rfl Tryz.func120 fo120 rfl rfl (zmul_c (x := (pa u)) (y := (pb k)) _ rfl rfl) ?_
      rintro _ w ⟨rfl, hb⟩
      have hs := hs.below hb
      refine ⟨_, rfl, fun a hk => ?_⟩
      have hL := okL.cons (hs.mi 3 rfl) (okL.cons (hs.mi 1 rfl) (okL.cons (hs.mi 0 rfl) okL.nil))
      refine c_end (x_t (hK _ _ hL ?_))
      clear hK K
      refine d_1 9 31743 rfl (by kernel_rfl) fun K hK => ?_
      refine q_v hk (w_iaL (k := u + k) rfl rfl Tryz.underlying51 ty56 (blk_lst (hs.mi 2 rfl) (en_len vq_len) (Nat.le_refl _)) (by omega) (by omega)) fun a hk => ?_
      have hL := okL.cons (hs.mi 3 rfl) (okL.cons (hs.mi 1 rfl) (okL.cons (hs.mi 0 rfl) okL.nil))
      refine c_end (x_t (hK _ _ hL ?_))
      clear hK K
      have hL := okL.cons (hs.mi 3 rfl) (okL.cons (hs.mi 1 rfl) (okL.cons (hs.mi 0 rfl) okL.nil))
      exact hJ31743 _ _ ⟨hk.k rfl (hk.k rfl (hk.k rfl (hk.k rfl (hk.k rfl (hk.k rfl (hk.k rfl (hk.k rfl (hk.k rfl (hk.k rfl (hk.k rfl (hk.k rfl (hk.k rfl (hk.k rfl (hk.k rfl (hk.k rfl (hk.k rfl (hk.k rfl (hk.k rfl (hk.k rfl (hk.k rfl (hk.k rfl (hk.k rfl (hk.k rfl (hk.k rfl (hk.k rfl (hk.k rfl (hk.k rfl (hk.k rfl (hk.k rfl (hk.k rfl (hk.k rfl (hk.k rfl (hk.k rfl (hk.k rfl (hk.k rfl (hk.k rfl (hk.k rfl (hk.k rfl (hk.k rfl hk.nil))))))))))))))))))))))))))))))))))))))), hs, hL⟩
    ·
     rintro a w ⟨hk, hs, hL⟩
     refine d_1 10 32767 rfl (by kernel_rfl) fun K hK => ?_
     refine q_v hk (w_ldv (z := mq (mrow pa pb u (mall pa pb nb u) k (u + k))) rfl ty56 (lstq (k := u + k) (blk_lst (hs.mi 2 rfl) (en_len vq_len) (Nat.le_refl _)) (by omega) (en_chunk vq_len (by omega)))) fun a hk => ?_
     have hL := okL.cons (hs.mi 3 rfl) (okL.cons (hs.mi 1 rfl) (okL.cons (hs.mi 0 rfl) okL.nil))
     refine c_end (x_t (hK _ _ hL ?_))
     clear hK K
     have hL := okL.cons (hs.mi 3 rfl) (okL.cons (hs.mi 1 rfl) (okL.cons (hs.mi 0 rfl) okL.nil))
     exact hJ32767 _ _ ⟨hk.k rfl (hk.k rfl (hk.k rfl (hk.k rfl (hk.k rfl (hk.k rfl (hk.k rfl (hk.k rfl (hk.k rfl (hk.k rfl (hk.k rfl (hk.k rfl (hk.k rfl (hk.k rfl (hk.k rfl (hk.k rfl (hk.k rfl (hk.k rfl (hk.k rfl (hk.k rfl (hk.k rfl (hk.k rfl (hk.k rfl (hk.k rfl (hk.k rfl (hk.k rfl (hk.k rfl (hk.k rfl (hk.k rfl (hk.k rfl (hk.k rfl (hk.k rfl (hk.k rfl (hk.k rfl (hk.k rfl (hk.k rfl (hk.k rfl (hk.k rfl (hk.k rfl (hk.k rfl (hk.k rfl hk.nil)))))))))))))))))))))))))))))))))))))))), hs, hL⟩
   ·
    rintro a w ⟨hk, hs, hL⟩
    refine d_1 15 65535 rfl (by kernel_rfl) fun K hK => ?_
    refine q_call (caps := []) hk rfl rfl Tryz.func121 fo121 rfl rfl (zadd_c (x := (mrow pa pb u (mall pa pb nb u) k (u + k))) (y := ((pa u) * (pb k))) _ rfl rfl) ?_
    rintro _ w ⟨rfl, hb⟩
    have hs := hs.below hb
    refine ⟨_, rfl, fun a hk => ?_⟩
    have hL := okL.cons (hs.mi 3 rfl) (okL.cons (hs.mi 1 rfl) (okL.cons (hs.mi 0 rfl) okL.nil))
    refine c_end (x_t (hK _ _ hL ?_))
    clear hK K
    refine d_1 16 131071 rfl (by kernel_rfl) fun K hK => ?_
    refine q_v hk (w_iaL (k := u + k) rfl rfl Tryz.underlying51 ty56 (blk_lst (hs.mi 2 rfl) (en_len vq_len) (Nat.le_refl _)) (by omega) (by omega)) fun a hk => ?_
    have hL := okL.cons (hs.mi 3 rfl) (okL.cons (hs.mi 1 rfl) (okL.cons (hs.mi 0 rfl) okL.nil))
    refine c_end (x_t (hK _ _ hL ?_))
    clear hK K
    refine d_1 17 262143 rfl (by kernel_rfl) fun K hK => ?_
    have hs := hs.up2
    refine q_stoE (c := vq) (xx := (mq ((mrow pa pb u (mall pa pb nb u) k (u + k)) + ((pa u) * (pb k))))) (k := (u + k)) hk hs rfl rfl rfl ty56 rfl vq_len rfl (by omega) rfl fun w hs => ?_
    have hL := okL.cons (hs.mi 3 rfl) (okL.cons (hs.mi 2 rfl) (okL.cons (hs.mi 1 rfl) okL.nil))
    refine c_end (x_t (hK _ _ hL ?_))
    clear hK K
    refine d_end (by kernel_rfl) ?_
    refine (x_b (x_t ?_))
    refine wR ?_
    refine q_v hk (w_add rfl rfl (wr64 (by omega) (by omega))) fun a hk => ?_
    refine q_v hk (w_mv rfl) fun a hk => ?_
    refine c_end (x_t ?_)
    have hs := hs.rw0 (congrArg (fun q => blk b2 q 56) mrow_step)
    have hs := hs.up1
    have hs := hs.drop
    have hs := hs.up2
    have hs := hs.up1
    have hs := hs.up2
    exact ⟨k + 1, ⟨(by omega), hk.k rfl (hk.k rfl (hk.k rfl (hk.k rfl (hk.k rfl (hk.k rfl (hk.k rfl (hk.k rfl (hk.k rfl (hk.k rfl (hk.k rfl (hk.k rfl (hk.k rfl (hk.k rfl (hk.k rfl (hk.k rfl hk.nil))))))))))))))), hs⟩, by omega⟩
  ·
   refine q_v hk (w_lt rfl rfl (decide_eq_false hc5)) fun a hk => ?_
   refine c_end (x_t (wS ?_))
   refine c_F hk rfl ?_
   refine (wpIn_exit (x_te (x_te (x_be ?_))))
   refine (x_b (x_t ?_))
   refine wR ?_
   refine q_v hk (w_add rfl rfl (wr64 (by omega) (by omega))) fun a hk => ?_
   refine q_v hk (w_mv rfl) fun a hk => ?_
   refine c_end (x_t ?_)
   have hknb : k = nb := by omega
   rw [hknb] at hs
   have hs := hs.drop
   exact ⟨u + 1, ⟨(by omega), hk.k rfl (hk.k rfl (hk.k rfl (hk.k rfl (hk.k rfl (hk.k rfl (hk.k rfl (hk.k rfl hk.nil))))))), hs⟩, by omega⟩
 ·
  refine q_v hk (w_lt rfl rfl (decide_eq_false hc3)) fun a hk => ?_
  refine c_end (x_t (wS ?_))
  refine c_F hk rfl ?_
  refine (wpIn_exit (x_te (x_te (x_be ?_))))
  refine (x_t ?_)
  refine wS (wR ?_)
  refine q_v hk (w_mv rfl) fun a hk => ?_
  refine q_v hk (w_as rfl) fun a hk => ?_
  refine c_end (x_t ?_)
  refine (wpIn_ret ?_)
  refine c_ret1 hk rfl rfl ?_
  have hs := hs.up1
  have hs := hs.drop
  have hs := hs.toR (R' := R) (fun r hr => .of (by simp [hr]))
  have hina : u = na := by omega
  subst hina
  exact ⟨_, rfl, hs⟩
end Go.Proofs.YtdnkkbmpefhbjaaGreatDoor
namespace Go.Proofs.YtdnkkbmpefhbjaaGreatDoor
set_option linter.all false
open Go Go.RowKit
/-- A map with the keys ks, of which the values have V. -/
def mapI (V : Value → Prop) (b : Nat) (ks : List Int) : Res where
  foot := (· = b)
  ok w := ∃ es clock, w.heap[b]? = some (.map es clock) ∧ es.toList.map (·.key) = ks.map (fun k => Value.int .i64 k) ∧ ∀ x ∈ es.toList, V x.val
  loc w w' h k := by
    obtain ⟨es, clock, h1, h2⟩ := k
    exact ⟨es, clock, by rw [h b rfl]; exact h1, h2⟩
  lt w k h hk := by
    subst hk
    obtain ⟨es, clock, h1, h2⟩ := h
    exact (Array.getElem?_eq_some_iff.1 h1).1
def ins (ks : List Int) (k : Int) : List Int := if k ∈ ks then ks else ks ++ [k]
def isI (v : Value) : Prop := ∃ u, v = .int .i64 u
section
variable {V : Value → Prop} {b : Nat} {ks : List Int}
theorem keys_isKey {es : Array MapEntry} (h : es.toList.map (·.key) = ks.map (fun k => Value.int .i64 k)) : ∀ x ∈ es.toList, MapKept.IsKey (.int .i64) x.key := by
  intro x hx
  have : x.key ∈ es.toList.map (·.key) := List.mem_map_of_mem hx
  rw [h] at this
  obtain ⟨k, _, hk⟩ := List.mem_map.1 this
  rw [← hk]
  exact rfl
theorem key_mem {es : Array MapEntry} {k : Int} (h : es.toList.map (·.key) = ks.map (fun k => Value.int .i64 k)) : (∃ x ∈ es.toList, x.key = .int .i64 k) ↔ k ∈ ks := by
  constructor
  · rintro ⟨x, hx, hk⟩
    have : x.key ∈ es.toList.map (·.key) := List.mem_map_of_mem hx
    rw [h, hk] at this
    obtain ⟨k', h1, h2⟩ := List.mem_map.1 this
    cases h2
    exact h1
  · intro hk
    have : Value.int .i64 k ∈ ks.map (fun k => Value.int .i64 k) := List.mem_map_of_mem hk
    rw [← h] at this
    obtain ⟨x, hx, he⟩ := List.mem_map.1 this
    exact ⟨x, hx, he⟩
variable {r : Option Nat} {n N : Nat} {P : Program} {ops : Array Oper} {Q : Exit → Act → World → Prop} {rest : List Oper} {G : List (Nat × Value)} {a : Act} {w w' : World} {v : Value} {Ds : List Nat}
  {d T : Nat} {p : String} {e : Array Edge} {g : Option (Nat × Bool)} {x y z : Operand} {tx kt et : TypeId} {F0 : Nat → Prop} {W : World} {M R : List Res}
theorem q_mkm (V : Value → Prop) (hk : Kn Ds N G a) (hs : Sat F0 W M R w) (hd : Nat.ble (d + 1) N = true) (hg : wq ops G g = some true)
    (h : ∀ b w a, Kn Ds N ((d, .map (some b)) :: G) a → Sat F0 W (mapI V b [] :: M) R w → wpListIn (Fr r) n P ops Q rest a w) : wpListIn (Fr r) n P ops Q (⟨some d, .makeMap tx none, T, p, e, g⟩ :: rest) a w := by
  refine q_val (v := .map (some w.heap.size)) (w' := w.alloc (.map #[] 0)) hk (fun Ds N a hk => ?_) hd rfl hg fun a hk => h _ _ a hk ?_
  · simp [execOp, Instr.makeMap, newObj, Sem.run_bind, Sem.run_pure, Result.andThen_ok, go_sem]
    rfl
  · exact hs.new (.alloc _ _ _) ⟨#[], 0, World.alloc_heap_new w _, rfl, by simp⟩ fun k hk => Nat.le_of_eq hk.symm
theorem q_mup {k : Int} (hk : Kn Ds N G a) (hs : Sat F0 W (mapI V b ks :: M) R w) (hx : evq G x = some (.map (some b))) (hy : evq G y = some (.int .i64 k)) (hz : evq G z = some v) (hV : V v) (hu : P.underlying tx = some (.map kt et)) (hkt : P.underlying kt = some (.int .i64)) (hg : wq ops G g = some true)
    (h : ∀ w, Sat F0 W (mapI V b (ins ks k) :: M) R w → wpListIn (Fr r) n P ops Q rest a w) : wpListIn (Fr r) n P ops Q (⟨none, .mapUpdate tx x y z, T, p, e, g⟩ :: rest) a w := by
  obtain ⟨es, clock, hb, hks, hVs⟩ := hs.okM _ (.head _)
  have hkey : MapKept.IsKey (.int .i64) (Value.int .i64 k) := rfl
  have e1 := hk.eval hx
  have e2 := hk.eval hy
  have e3 := hk.eval hz
  rcases MapKept.findNow_spec hkey es.toList 0 (keys_isKey hks) with ⟨h1, h2⟩ | ⟨j, e0, h1, h2, h3⟩
  · have hrun : (Instr.mapUpdate tx (.map (some b)) (.int .i64 k) v).run P w = .ok () (w.putObj b (.map (es.push { key := .int .i64 k, val := v, born := clock }) (clock + 1))) := by
      simp only [Instr.mapUpdate, Sem.run_bind, run_underlying hu, Result.andThen_ok, MapKept.run_getObj_map hb, MapKept.run_checkKey hkt hkey, MapKept.run_findKey hkt h1]
      exact MapKept.run_setObj_map _ hb
    refine q_st (w' := w.putObj b (.map (es.push { key := .int .i64 k, val := v, born := clock }) (clock + 1))) hk (fun Ds' N' a' hk' => ?_) rfl hg (h _ ?_)
    · have e1 := hk'.eval hx
      have e2 := hk'.eval hy
      have e3 := hk'.eval hz
      generalize a'.eval = ev at e1 e2 e3
      simp only [execOp, e1, e2, e3, Sem.run_bind, hrun, Result.andThen_ok, Sem.run_pure]
    · refine hs.chg (.putObj _ _ _) ⟨_, _, World.putObj_heap_same (Array.getElem?_eq_some_iff.1 hb).1, ?_, ?_⟩ fun _ hk => .inl hk
      · have hn : k ∉ ks := fun hm => by obtain ⟨x, hx, he⟩ := (key_mem hks).2 hm; exact h2 x hx he
        unfold ins
        rw [if_neg hn, Array.toList_push, List.map_append, List.map_append, hks]
        rfl
      · intro x hx
        rw [Array.toList_push] at hx
        rcases List.mem_append.1 hx with hx | hx
        · exact hVs x hx
        · rcases List.mem_singleton.1 hx with rfl; exact hV
  · rw [Nat.zero_add] at h1
    have he : es[j]? = some e0 := by rw [← Array.getElem?_toList]; exact h2
    have hrun : (Instr.mapUpdate tx (.map (some b)) (.int .i64 k) v).run P w = .ok () (w.putObj b (.map (es.modify j fun e => { e with key := .int .i64 k, val := v }) clock)) := by
      simp only [Instr.mapUpdate, Sem.run_bind, run_underlying hu, Result.andThen_ok, MapKept.run_getObj_map hb, MapKept.run_checkKey hkt hkey, MapKept.run_findKey hkt h1, he, Option.map_some, Option.getD_some, h3, MapKept.run_keyThatStays hkey]
      exact MapKept.run_setObj_map _ hb
    refine q_st (w' := w.putObj b (.map (es.modify j fun e => { e with key := .int .i64 k, val := v }) clock)) hk (fun Ds' N' a' hk' => ?_) rfl hg (h _ ?_)
    · have e1 := hk'.eval hx
      have e2 := hk'.eval hy
      have e3 := hk'.eval hz
      generalize a'.eval = ev at e1 e2 e3
      simp only [execOp, e1, e2, e3, Sem.run_bind, hrun, Result.andThen_ok, Sem.run_pure]
    · refine hs.chg (.putObj _ _ _) ⟨_, _, World.putObj_heap_same (Array.getElem?_eq_some_iff.1 hb).1, ?_, ?_⟩ fun _ hk => .inl hk
      · have hm : k ∈ ks := (key_mem hks).1 ⟨e0, List.mem_of_getElem? h2, h3⟩
        unfold ins
        rw [if_pos hm, ← hks]
        exact MapKept.modify_keys j _ fun e he' => by rw [he] at he'; cases he'; exact h3.symm
      · intro x hx
        obtain ⟨i, hi⟩ := List.mem_iff_getElem?.1 hx
        rw [Array.getElem?_toList, Array.getElem?_modify] at hi
        split at hi
        · obtain ⟨e5, _, rfl⟩ := Option.map_eq_some_iff.1 hi
          exact hV
        · exact hVs x (List.mem_of_getElem? (by rw [Array.getElem?_toList]; exact hi))
theorem w_lkm {z : Value} {k : Int} (hm : (mapI V b ks).ok w) (hx : evq G x = some (.map (some b))) (hy : evq G y = some (.int .i64 k)) (hu : P.underlying tx = some (.map kt et)) (hkt : P.underlying kt = some (.int .i64)) (hz : zq P et = some z) (hV : V z) :
    ∃ v, V v ∧ Wq P G ⟨some d, .lookup tx x y false, T, p, e, g⟩ v w w := by
  obtain ⟨es, clock, hb, hks, hVs⟩ := hm
  have hkey : MapKept.IsKey (.int .i64) (Value.int .i64 k) := rfl
  rcases MapKept.findNow_spec hkey es.toList 0 (keys_isKey hks) with ⟨h1, h2⟩ | ⟨j, e0, h1, h2, h3⟩
  · refine ⟨z, hV, .of2 hx hy fun ev e1 e2 => ?_⟩
    simp only [execOp, e1, e2, Instr.lookup, Sem.run_bind, run_underlying hu, Result.andThen_ok, MapKept.run_getObj_map hb, Sem.run_pure, MapKept.run_checkKey hkt hkey, MapKept.run_findKey hkt h1, zq_zero hz]
    rfl
  · refine ⟨e0.val, hVs e0 (List.mem_of_getElem? h2), .of2 hx hy fun ev e1 e2 => ?_⟩
    simp only [execOp, e1, e2, Instr.lookup, Sem.run_bind, run_underlying hu, Result.andThen_ok, MapKept.run_getObj_map hb, Sem.run_pure, MapKept.run_checkKey hkt hkey, MapKept.run_findKey hkt h1]
    rfl
theorem q_lkm {z : Value} {k : Int} (hk : Kn Ds N G a) (hm : (mapI V b ks).ok w) (hx : evq G x = some (.map (some b))) (hy : evq G y = some (.int .i64 k)) (hu : P.underlying tx = some (.map kt et)) (hkt : P.underlying kt = some (.int .i64)) (hz : zq P et = some z) (hV : V z)
    (hd : Nat.ble (d + 1) N = true) (hg : wq ops G g = some true) (h : ∀ v a, V v → Kn Ds N ((d, v) :: G) a → wpListIn (Fr r) n P ops Q rest a w) : wpListIn (Fr r) n P ops Q (⟨some d, .lookup tx x y false, T, p, e, g⟩ :: rest) a w := by
  obtain ⟨v, hV', hw⟩ := w_lkm hm hx hy hu hkt hz hV
  exact q_val hk hw hd rfl hg fun a hk => h v a hV' hk
theorem w_lnm (hm : (mapI V b ks).ok w) (hx : evq G x = some (.map (some b))) (hu : P.underlying tx = some (.map kt et)) : Wq P G ⟨some d, .call ⟨.builtin .len, #[x], #[tx]⟩, T, p, e, g⟩ (.int .i64 ((ks.length : Nat) : Int)) w w := by
  obtain ⟨es, clock, hb, hks, hVs⟩ := hm
  have hl : es.size = ks.length := by have := congrArg List.length hks; simpa using this
  refine .of1 hx fun ev h => ?_
  simp [execOp, h, resolve, invoke, builtin, Builtin.len_, run_underlying hu, MapKept.run_getObj_map hb, goInt, Sem.run_pure, go_sem, hl]
end
/-! How many keys there are. -/
theorem ins_le (l : List Int) (ks : List Int) : (l.foldl ins ks).length ≤ ks.length + l.length := by
  induction l generalizing ks with
  | nil => simp
  | cons x l ih =>
    rw [List.foldl_cons]
    have := ih (ins ks x)
    have : (ins ks x).length ≤ ks.length + 1 := by unfold ins; split <;> simp
    simp only [List.length_cons]; omega
theorem ins_eq (l : List Int) (ks : List Int) : (l.foldl ins ks).length = ks.length + l.length ↔ (l.Nodup ∧ ∀ x ∈ l, x ∉ ks) := by
  induction l generalizing ks with
  | nil => simp
  | cons x l ih =>
    rw [List.foldl_cons]
    have h1 := ins_le l (ins ks x)
    by_cases hx : x ∈ ks
    · have e : ins ks x = ks := if_pos hx
      rw [e] at h1 ⊢
      constructor
      · intro h; simp only [List.length_cons] at h; omega
      · rintro ⟨_, h⟩; exact absurd hx (h x (.head _))
    · have e : ins ks x = ks ++ [x] := if_neg hx
      rw [e]
      have h2 := ih (ks ++ [x])
      rw [List.length_append, List.length_singleton] at h2
      rw [List.length_cons, show ks.length + (l.length + 1) = ks.length + 1 + l.length by omega, h2]
      simp only [List.nodup_cons, List.mem_append, List.mem_singleton, not_or, List.mem_cons]
      constructor
      · rintro ⟨h3, h4⟩
        refine ⟨⟨fun hm => (h4 x hm).2.1 rfl, h3⟩, ?_⟩
        rintro z (rfl | hz)
        · exact hx
        · exact (h4 z hz).1
      · rintro ⟨⟨h3, h4⟩, h5⟩
        exact ⟨h4, fun z hz => ⟨h5 z (.inr hz), fun he => h3 (he ▸ hz), fun h => by cases h⟩⟩
end Go.Proofs.YtdnkkbmpefhbjaaGreatDoor
namespace Go.Proofs.YtdnkkbmpefhbjaaGreatDoor
set_option linter.all false
open Go Go.RowKit Alg
/-- The keys after k elements. -/
def ksv (v : Nat → Int) (k : Nat) : List Int := ((List.range k).map v).foldl ins []
theorem ksv_succ (v : Nat → Int) (k : Nat) : ins (ksv v k) (v k) = ksv v (k + 1) := by simp [ksv, List.range_succ]
theorem ksv_full {v : Nat → Int} {n : Nat} (h : ∀ i k, i < k → k < n → v i ≠ v k) : (ksv v n).length = n := by
  have hn : ((List.range n).map v).Nodup := by
    rw [List.nodup_iff_pairwise_ne, List.pairwise_map, List.pairwise_iff_getElem]
    intro i j hi hj hij
    simp only [List.length_range] at hi hj
    simp only [List.getElem_range]
    exact h i j hij hj
  have h1 := (ins_eq ((List.range n).map v) []).2 ⟨hn, fun _ _ => by simp⟩
  simpa [ksv] using h1
/-- The points. -/
def pt (s : Bool) (v : Nat → Nat) (i : Nat) : Zp s := zn s (v i)
/-- A product of differences. -/
def wr {s : Bool} (x : Nat → Zp s) (u : Nat) : Nat → Zp s
  | 0 => 1
  | k + 1 => if k = u then wr x u k else wr x u k * (x u - x k)
def Wd {s : Bool} (x : Nat → Zp s) (n u i : Nat) : Nat := if i < u then mq (wr x i n) else 0
def Wi {s : Bool} (x : Nat → Zp s) (n u k i : Nat) : Nat := if i = u then mq (wr x u k) else Wd x n u i
def wgt {s : Bool} (x : Nat → Zp s) (n i : Nat) : Zp s := binv (fun i => wr x i n) n i
def pairF (n : Nat) (i : Int) : List Ev := upE 0 (n : Int) (pairE false i)
section
variable {s : Bool} {x : Nat → Zp s} {n u k : Nat}
theorem wdz_zero : en vq (fun _ => 0) n = en vq (Wd x n 0) n := en_congr fun i _ => by unfold Wd; rw [if_neg (Nat.not_lt_zero i)]
theorem wdz_open : en vq (fun i => if i = u then rone s else Wd x n u i) n = en vq (Wi x n u 0) n := en_congr fun i _ => by
  unfold Wi
  by_cases h : i = u
  · rw [if_pos h, if_pos h]; exact mq_one.symm
  · rw [if_neg h, if_neg h]
theorem wi_at : Wi x n u k u = mq (wr x u k) := if_pos rfl
theorem wi_step (h : ¬ k = u) : en vq (fun i => if i = u then mq (wr x u k * (x u - x k)) else Wi x n u k i) n = en vq (Wi x n u (k + 1)) n := en_congr fun i _ => by
  unfold Wi
  by_cases hi : i = u
  · rw [if_pos hi, if_pos hi]; show _ = mq (if k = u then _ else _); rw [if_neg h]
  · rw [if_neg hi, if_neg hi, if_neg hi]
theorem wi_skip (h : k = u) : en vq (Wi x n u k) n = en vq (Wi x n u (k + 1)) n := en_congr fun i _ => by
  unfold Wi
  by_cases hi : i = u
  · rw [if_pos hi, if_pos hi]; show _ = mq (if k = u then _ else _); rw [if_pos h]
  · rw [if_neg hi, if_neg hi]
theorem wi_shut : en vq (Wi x n u n) n = en vq (Wd x n (u + 1)) n := en_congr fun i _ => by
  unfold Wi Wd
  by_cases hi : i = u
  · rw [if_pos hi, if_pos (by omega), hi]
  · rw [if_neg hi]
    by_cases l : i < u
    · rw [if_pos l, if_pos (by omega)]
    · rw [if_neg l, if_neg (by omega)]
theorem wdz_end : en vq (Wd x n n) n = en vq (fun i => mq (wr x i n)) n := en_congr fun i hi => by unfold Wd; rw [if_pos hi]
theorem pf_ne {E : List Ev} (h : ¬ k = u) : E ++ upE 0 (k : Int) (pairE false (u : Int)) ++ [(3, (u : Int), (k : Int))] = E ++ upE 0 ((k + 1 : Nat) : Int) (pairE false (u : Int)) := by
  have e := upE_succ (F := pairE false (u : Int)) (fr := 0) (x := (k : Int)) (by omega)
  have p : pairE false (u : Int) (k : Int) = [(3, (u : Int), (k : Int))] := by unfold pairE; rw [if_neg (by omega)]
  rw [p] at e
  rw [List.append_assoc, e]
  rfl
theorem pf_eq {E : List Ev} (h : k = u) : E ++ upE 0 (k : Int) (pairE false (u : Int)) = E ++ upE 0 ((k + 1 : Nat) : Int) (pairE false (u : Int)) := by
  have e := upE_succ (F := pairE false (u : Int)) (fr := 0) (x := (k : Int)) (by omega)
  have p : pairE false (u : Int) (k : Int) = [] := by unfold pairE; rw [if_pos ⟨by omega, rfl⟩]
  rw [p, List.append_nil] at e
  rw [e]
  rfl
theorem pf_row {E : List Ev} : E ++ upE 0 (u : Int) (pairF n) ++ upE 0 (n : Int) (pairE false (u : Int)) = E ++ upE 0 ((u + 1 : Nat) : Int) (pairF n) := by
  have e := upE_succ (F := pairF n) (fr := 0) (x := (u : Int)) (by omega)
  rw [List.append_assoc, show upE 0 (n : Int) (pairE false (u : Int)) = pairF n (u : Int) from rfl, e]
  rfl
theorem pairF_len {i : Int} : (pairF n i).length ≤ n := by
  have := upE_len (fr := 0) (to := (n : Int)) (F := pairE false i) (B := 1) (fun k => by unfold pairE; split <;> simp)
  unfold pairF; omega
theorem pairFs_len : (upE 0 (u : Int) (pairF n)).length ≤ u * n := by
  have := upE_len (fr := 0) (to := (u : Int)) (F := pairF n) (B := n) (fun k => pairF_len)
  simpa using this
theorem pairK_len : (upE 0 (k : Int) (pairE false (u : Int))).length ≤ k := by
  have := upE_len (fr := 0) (to := (k : Int)) (F := pairE false (u : Int)) (B := 1) (fun k => by unfold pairE; split <;> simp)
  omega
end
theorem wE_eq {n : Nat} (h : 0 < n) {E : List Ev} : E ++ upE 0 (n : Int) (pairF n) ++ batE n = E ++ weightsE (n : Int) := by
  unfold weightsE batE
  rw [if_neg (by omega)]
  simp only [List.append_assoc]
  rfl
theorem lcheck_c (n lc : Nat) (la : Option Addr) (v : Nat → Nat) (W : World) (HX : LstAt W 1 (.slice la n lc) n (en ic (fun i => ((v i : Nat) : Int)) n)) (hn : n ≤ 1000000) (hv : ∀ i, i < n → 1 ≤ v i ∧ v i ≤ 255) (hd : ∀ i k, i < k → k < n → v i ≠ v k) : Calls Tryz.prog 127 [.slice la n lc].toArray W fun e w => e = .returned (.int .i64 0) ∧ Below W.heap.size W w := by
 refine c_enter (args := [.slice la n lc]) Tryz.func127 rfl rfl rfl fun a hk => ?_
 have hs := Sat.start W [lst 1 (.slice la n lc) n (en ic (fun i => ((v i : Nat) : Int)) n)] (fun r hr => by rcases List.mem_singleton.1 hr with rfl; exact HX)
 refine wS (wR ?_)
 refine q_v hk (w_as rfl) fun a hk => ?_
 refine c_end (x_t (wS (wR ?_)))
 refine q_mkm (fun _ => True) hk hs rfl rfl fun b1 w a hk hs => ?_
 refine q_v hk (w_as rfl) fun a hk => ?_
 refine c_end (x_t (wS (wS (wR ?_))))
 refine q_v hk (w_mv rfl) fun a hk => ?_
 refine q_v hk (w_len rfl Tryz.underlying34) fun a hk => ?_
 refine q_v hk (w_mv rfl) fun a hk => ?_
 refine c_end (x_t ?_)
 refine wpIn_block ?_
 refine c_loop (α := Nat) (fun k a w => k ≤ n ∧ Kn [] 27 [(9, .int .i64 ((k : Nat) : Int)), (8, .int .i64 ((n : Nat) : Int)), (7, .slice la n lc), (3, .map (some b1)), (0, .slice la n lc)] a ∧ Sat no W [mapI (fun _ => True) b1 (ksv (fun i => ((v i : Nat) : Int)) k)] [lst 1 (.slice la n lc) n (en ic (fun i => ((v i : Nat) : Int)) n)] w) (fun k => n - k) 0 ?_ ?_
 · exact ⟨(by omega), hk.k rfl (hk.k rfl (hk.k rfl (hk.k rfl (hk.k rfl hk.nil)))), hs⟩
 rintro k a w ⟨hf0, hk, hs⟩
 refine wS (wR ?_)
 rcases Classical.em (((k : Nat) : Int) < ((n : Nat) : Int)) with hc2 | hc2
 ·
  have hvi := hv k (by omega)
  refine q_v hk (w_lt rfl rfl (decide_eq_true hc2)) fun a hk => ?_
  refine c_end (x_t (wS ?_))
  refine c_T hk rfl ?_
  refine (wpIn_skip (x_t ?_))
  refine wS ?_
  refine wpIn_block ?_
  refine wS (wR ?_)
  refine q_v hk (w_iaL (k := k) rfl rfl Tryz.underlying34 ty3 (hs.ri 0 rfl) (by omega) (by omega)) fun a hk => ?_
  refine q_v hk (w_ld1 rfl ty3 (lstq (k := k) (hs.ri 0 rfl) (by omega) (en_chunk ic_len (by omega)))) fun a hk => ?_
  refine q_v hk (w_as rfl) fun a hk => ?_
  refine c_end (x_t (wS (wS (wR ?_))))
  refine q_v hk (w_mv rfl) fun a hk => ?_
  refine q_v hk (w_lt rfl rfl (decide_eq_false (by omega))) fun a hk => ?_
  refine q_v hk (w_mv rfl) fun a hk => ?_
  refine q_v hk (w_mv rfl) fun a hk => ?_
  refine q_v hk (w_gt rfl rfl (decide_eq_false (by omega))) fun a hk => ?_
  refine q_v hk (w_pickF rfl rfl) fun a hk => ?_
  refine c_end (x_t ?_)
  refine c_F hk rfl ?_
  refine (wpIn_skip (x_t ?_))
  refine wR ?_
  refine q_v hk (w_mv rfl) fun a hk => ?_
  refine q_v hk (w_mv rfl) fun a hk => ?_
  refine q_mup hk hs rfl rfl rfl trivial Tryz.underlying204 Tryz.underlying3 rfl fun w hs => ?_
  refine (c_end (x_b (x_t ?_)))
  refine wR ?_
  refine q_v hk (w_add rfl rfl (wr64 (by omega) (by omega))) fun a hk => ?_
  refine q_v hk (w_mv rfl) fun a hk => ?_
  refine c_end (x_t ?_)
  have hs := hs.rw0 (congrArg (mapI (fun _ => True) b1) (ksv_succ (fun i => ((v i : Nat) : Int)) k))
  exact ⟨k + 1, ⟨(by omega), hk.k rfl (hk.k rfl (hk.k rfl (hk.k rfl (hk.k rfl hk.nil)))), hs⟩, by omega⟩
 ·
  have hkn : k = n := by omega
  subst hkn
  refine q_v hk (w_lt rfl rfl (decide_eq_false hc2)) fun a hk => ?_
  refine c_end (x_t (wS ?_))
  refine c_F hk rfl ?_
  refine (wpIn_exit (x_te (x_te (x_be ?_))))
  refine (x_t ?_)
  refine wS (wS (wR ?_))
  refine q_v hk (w_mv rfl) fun a hk => ?_
  refine q_v hk (w_lnm (hs.mi 0 rfl) rfl Tryz.underlying204) fun a hk => ?_
  refine q_v hk (w_mv rfl) fun a hk => ?_
  refine q_v hk (w_len rfl Tryz.underlying34) fun a hk => ?_
  refine q_v hk (w_lt rfl rfl (decide_eq_false (by rw [ksv_full (v := (fun i => ((v i : Nat) : Int))) (fun i j h1 h2 h3 => hd i j h1 (by omega) (Int.ofNat.inj h3))]; omega))) fun a hk => ?_
  refine c_end (x_t ?_)
  refine c_F hk rfl ?_
  refine (wpIn_skip (x_t ?_))
  refine wS (wR ?_)
  refine q_v hk (w_as rfl) fun a hk => ?_
  refine c_end (x_t ?_)
  refine (wpIn_ret ?_)
  refine c_ret1 hk rfl rfl ?_
  exact ⟨rfl, hs.toBelow⟩
end Go.Proofs.YtdnkkbmpefhbjaaGreatDoor
namespace Go.Proofs.YtdnkkbmpefhbjaaGreatDoor
set_option linter.all false
open Go Go.RowKit Alg
/-- A share: its numbers, its payload as numbers, and where the payload lies. -/
structure Shr where
  F : Int
  T : Int
  I : Int
  L : Int
  n : Nat
  X : Nat → Nat
  a : Option Addr
  c : Nat
def shc (x : Shr) : List Value := [.int .i64 x.F, .int .i64 x.T, .int .i64 x.I, .int .i64 x.L, .slice x.a x.n x.c]
theorem shc_len (x : Shr) : (shc x).length = 5 := rfl
theorem shc_ones (x : Shr) : ones (shc x) = true := rfl
abbrev payR (x : Shr) : Res := lst 4 (.slice x.a x.n x.c) x.n (en vq x.X x.n)
/-- A list of m shares with their payloads. -/
def shareR (la : Option Addr) (m lc : Nat) (S : Nat → Shr) : Res := rall [lst 5 (.slice la m lc) m (en shc S m), rall ((List.range m).map fun i => payR (S i))]
section
variable {la : Option Addr} {m lc k : Nat} {S : Nat → Shr} {R : List Res}
theorem share_lst (h : HasR (shareR la m lc S) R) : HasR (lst 5 (.slice la m lc) m (en shc S m)) R := h.pi 0 rfl
theorem share_pay (h : HasR (shareR la m lc S) R) (hk : k < m) : HasR (payR (S k)) R := (HasR.pi (l := [_, _]) h 1 rfl).part (List.mem_map.2 ⟨k, List.mem_range.2 hk, rfl⟩)
end
/-- Bounds on the shares of a row. -/
structure ShOk (S : Nat → Shr) (m : Nat) : Prop where
  m_le : m ≤ 1000000
  n_le : ∀ k, k < m → (S k).n ≤ 100000000
  x_lt : ∀ k, k < m → ∀ i, i < (S k).n → (S k).X i < R4
def shE (x : Shr) : Int := shErr x.F x.T x.I x.L x.n x.X
/-- The first error of the first k shares. -/
def csE (S : Nat → Shr) : Nat → Int
  | 0 => 0
  | k + 1 => if csE S k ≠ 0 then csE S k else shE (S k)
def hdr (x : Shr) : Ev := (x.F, x.T, x.L)
def mixS (S : Nat → Shr) (k : Nat) : Bool := (List.range k).any fun i => decide (hdr (S i) ≠ hdr (S 0))
theorem mixS_succ (S : Nat → Shr) (k : Nat) : mixS S (k + 1) = (mixS S k || decide (hdr (S k) ≠ hdr (S 0))) := by simp [mixS, List.range_succ]
/-- The error of a list of shares. -/
def csErr (S : Nat → Shr) (m : Nat) : Int :=
  if csE S m ≠ 0 then csE S m else if mixS S m = true then 14 else if (((ksv (fun i => (S i).I) m).length : Nat) : Int) < ((m : Nat) : Int) then 15 else if ((m : Nat) : Int) = 0 ∨ ((m : Nat) : Int) < (S 0).T then 16 else 0
theorem csE_stay {S : Nat → Shr} {k : Nat} (h : csE S k ≠ 0) : ∀ d, csE S (k + d) = csE S k
  | 0 => rfl
  | d + 1 => by
    have ih := csE_stay h d
    show (if csE S (k + d) ≠ 0 then csE S (k + d) else _) = _
    rw [ih, if_pos h]
theorem csErr_at {S : Nat → Shr} {k m : Nat} (h0 : csE S k = 0) (h : shE (S k) ≠ 0) (hk : k < m) : csErr S m = shE (S k) := by
  have e : csE S (k + 1) = shE (S k) := by show (if csE S k ≠ 0 then _ else _) = _; rw [if_neg (by simp [h0])]
  have e2 := csE_stay (S := S) (k := k + 1) (by rw [e]; exact h) (m - (k + 1))
  rw [show k + 1 + (m - (k + 1)) = m by omega, e] at e2
  unfold csErr
  rw [e2, if_pos h]
theorem csE_next {S : Nat → Shr} {k : Nat} (h0 : csE S k = 0) (h : ¬ shE (S k) ≠ 0) : csE S (k + 1) = 0 := by
  show (if csE S k ≠ 0 then _ else _) = _
  rw [if_neg (by simp [h0])]
  exact Classical.not_not.1 h
/-- A column after k shares. -/
def clf (S : Nat → Shr) (ch k i : Nat) : Nat := if i < k then (S i).X ch else 0
section
variable {S : Nat → Shr} {ch k m : Nat}
theorem clf_zero : en vq (fun _ => 0) m = en vq (clf S ch 0) m := en_congr fun i _ => by unfold clf; rw [if_neg (Nat.not_lt_zero i)]
theorem clf_step : en vq (fun i => if i = k then (S k).X ch else clf S ch k i) m = en vq (clf S ch (k + 1)) m := en_congr fun i _ => by
  unfold clf
  by_cases h : i = k
  · subst h; rw [if_pos rfl, if_pos (Nat.lt_succ_self _)]
  · rw [if_neg h]
    by_cases l : i < k
    · rw [if_pos l, if_pos (by omega)]
    · rw [if_neg l, if_neg (by omega)]
theorem clf_end : en vq (clf S ch m) m = en vq (fun i => (S i).X ch) m := en_congr fun i hi => by unfold clf; rw [if_pos hi]
end
theorem hdr_c (F T I L : Int) (v : Value) (W : World) (hv : ones [v] = true) : Calls Tryz.prog 106 [.agg #[.int .i64 F, .int .i64 T, .int .i64 I, .int .i64 L, v]].toArray W fun e w => e = .returned (.agg #[.int .i64 F, .int .i64 T, .int .i64 L]) ∧ Below W.heap.size W w := by
 refine c_enter (args := [.agg #[.int .i64 F, .int .i64 T, .int .i64 I, .int .i64 L, v]]) Tryz.func106 rfl rfl rfl fun a hk => ?_
 have hs := Sat.start W [] (fun _ h => by cases h)
 refine wS (wR ?_)
 refine q_box (vs := [.int .i64 F, .int .i64 T, .int .i64 I, .int .i64 L, v]) hk hs rfl rfl rfl rfl fun b1 w a hk hs => ?_
 refine q_alc (vs := [.int .i64 0, .int .i64 0, .int .i64 0]) hk hs zr148 rfl rfl rfl fun b2 w a hk hs => ?_
 refine c_end (x_t (wS (wR ?_)))
 refine q_v hk (w_fa rfl fq53_0 ty3) fun a hk => ?_
 refine q_v hk (w_ld1 rfl ty3 (.blk (n := 1) (hs.mi 1 rfl) rfl)) fun a hk => ?_
 refine q_v hk (w_fa rfl fq53_1 ty3) fun a hk => ?_
 refine q_v hk (w_ld1 rfl ty3 (.blk (n := 1) (hs.mi 1 rfl) rfl)) fun a hk => ?_
 refine q_v hk (w_fa rfl fq53_3 ty3) fun a hk => ?_
 refine q_v hk (w_ld1 rfl ty3 (.blk (n := 1) (hs.mi 1 rfl) rfl)) fun a hk => ?_
 refine q_v hk (w_bld rfl fl148 zr148 rfl rfl) fun a hk => ?_
 refine q_sto (o := 0) (cs := [.int .i64 F, .int .i64 T, .int .i64 L]) (vs' := [.int .i64 F, .int .i64 T, .int .i64 L]) hk hs rfl rfl rfl ty148 rfl rfl rfl rfl rfl rfl fun w hs => ?_
 refine c_end (x_t ?_)
 refine (wpIn_ret ?_)
 refine c_retG (vs := [.agg #[.int .i64 F, .int .i64 T, .int .i64 L]]) hk rfl ⟨⟨_, rfl, lv_A ty148 (.blk (n := 3) (hs.mi 0 rfl) rfl) rfl⟩, trivial⟩ rfl ?_
 exact ⟨rfl, hs.toBelow⟩
theorem ckShares_c (m lc : Nat) (la : Option Addr) (S : Nat → Shr) (W : World) (HS : (shareR la m lc S).ok W) (HO : ShOk S m) (HL : Laid W) : Calls Tryz.prog 60 [.slice la m lc].toArray W fun e w => e = .returned (.int .i64 (csErr S m)) ∧ Below W.heap.size W w := by
 have hm6 := HO.m_le
 refine c_enter (args := [.slice la m lc]) Tryz.func60 rfl rfl rfl fun a hk => ?_
 have hs := Sat.start W [shareR la m lc S] (okr1 HS)
 refine wS (wR ?_)
 refine q_v hk (w_as rfl) fun a hk => ?_
 refine c_end (x_t (wS (wR ?_)))
 refine q_mkm isI hk hs rfl rfl fun b1 w a hk hs => ?_
 refine q_v hk (w_as rfl) fun a hk => ?_
 refine c_end (x_t (wS (wR ?_)))
 refine q_v hk (w_as rfl) fun a hk => ?_
 refine c_end (x_t (wS (wS (wR ?_))))
 refine q_v hk (w_mv rfl) fun a hk => ?_
 refine q_v hk (w_len rfl Tryz.underlying22) fun a hk => ?_
 refine q_v hk (w_mv rfl) fun a hk => ?_
 refine c_end (x_t ?_)
 refine wpIn_block ?_
 refine c_loop (α := Nat) (fun k a w => ∃ (mx : Bool), k ≤ m ∧ csE S k = 0 ∧ mx = mixS S k ∧ Kn [] 57 [(11, .int .i64 ((k : Nat) : Int)), (4, .bool mx), (10, .int .i64 ((m : Nat) : Int)), (9, .slice la m lc), (3, .map (some b1)), (0, .slice la m lc)] a ∧ Sat no W [mapI isI b1 (ksv (fun i => (S i).I) k)] [shareR la m lc S] w) (fun k => m - k) 0 ?_ ?_
 · exact ⟨_, (by omega), rfl, rfl, hk.k rfl (hk.k rfl (hk.k rfl (hk.k rfl (hk.k rfl (hk.k rfl hk.nil))))), hs⟩
 rintro k a w ⟨mx, hf0, hf1, hf2, hk, hs⟩
 refine wS (wR ?_)
 rcases Classical.em (((k : Nat) : Int) < ((m : Nat) : Int)) with hc2 | hc2
 ·
  have hlt : k < m := by omega
  refine q_v hk (w_lt rfl rfl (decide_eq_true hc2)) fun a hk => ?_
  refine c_end (x_t (wS ?_))
  refine c_T hk rfl ?_
  refine (wpIn_skip (x_t ?_))
  refine wS ?_
  refine wpIn_block ?_
  refine wS (wR ?_)
  refine q_v hk (w_iaL (k := k) rfl rfl Tryz.underlying22 ty53 ((share_lst (HasR.nth 0 rfl : HasR (shareR la m lc S) _)).at_ hs) (by omega) (by omega)) fun a hk => ?_
  refine q_v hk (w_ldA rfl ty53 (lstq (k := k) ((share_lst (HasR.nth 0 rfl : HasR (shareR la m lc S) _)).at_ hs) (by omega) (en_chunk shc_len (by omega))) rfl) fun a hk => ?_
  refine q_alc (vs := [.int .i64 0, .int .i64 0, .int .i64 0, .int .i64 0, .slice none 0 0]) hk hs zr53 rfl rfl rfl fun b3 w a hk hs => ?_
  refine q_sto (o := 0) (cs := [.int .i64 ((S k).F), .int .i64 ((S k).T), .int .i64 ((S k).I), .int .i64 ((S k).L), .slice ((S k).a) ((S k).n) ((S k).c)]) (vs' := [.int .i64 ((S k).F), .int .i64 ((S k).T), .int .i64 ((S k).I), .int .i64 ((S k).L), .slice ((S k).a) ((S k).n) ((S k).c)]) hk hs rfl rfl rfl ty53 rfl rfl rfl rfl rfl rfl fun w hs => ?_
  refine c_end (x_t (wS (wS (wR ?_))))
  refine q_v hk (w_ldA rfl ty53 (.blk (n := 5) (hs.mi 0 rfl) rfl) rfl) fun a hk => ?_
  refine q_call (caps := []) hk rfl rfl Tryz.func105 fo105 rfl rfl (ckShare_c _ _ _ _ _ _ _ (S k).X _ ((share_pay (k := k) (HasR.nth 0 rfl : HasR (shareR la m lc S) _) (by omega)).at_ hs) (HO.n_le k hlt) (HO.x_lt k hlt) (HL.step hs.toBelow)) ?_
  rintro _ w ⟨rfl, hb⟩
  have hs := hs.below hb
  refine ⟨_, rfl, fun a hk => ?_⟩
  refine q_v hk (w_as rfl) fun a hk => ?_
  refine c_end (x_t (wS (wR ?_)))
  refine q_v hk (w_mv rfl) fun a hk => ?_
  rcases Classical.em ((shE (S k)) ≠ 0) with hc4 | hc4
  ·
   refine q_v hk (w_ne rfl rfl (decide_eq_true hc4)) fun a hk => ?_
   refine c_end (x_t ?_)
   refine c_T hk rfl ?_
   refine wS (wR ?_)
   refine q_v hk (w_mv rfl) fun a hk => ?_
   refine q_v hk (w_as rfl) fun a hk => ?_
   refine c_end (x_t ?_)
   refine (wpIn_ret (x_tr (x_br (x_tr (x_tr (x_br (x_tr ?_)))))))
   refine c_ret1 hk rfl rfl ?_
   exact ⟨by rw [csErr_at hf1 (by assumption) (by omega)]; rfl, hs.toBelow⟩
  ·
   refine q_v hk (w_ne rfl rfl (decide_eq_false hc4)) fun a hk => ?_
   refine c_end (x_t ?_)
   refine c_F hk rfl ?_
   refine (wpIn_skip (x_t ?_))
   refine wS ?_
   rcases Classical.em (mx = true) with hc5 | hc5
   ·
    obtain rfl : mx = true := hc5
    refine d_begin _ 11 (by kernel_rfl) rfl hs okL.nil fun w hs hL => ?_
    refine d_w 0 1 hk hL rfl (fun w hL => w_mv rfl) fun a hk => ?_
    refine d_w 1 3 hk hL rfl (fun w hL => w_mv rfl) fun a hk => ?_
    refine d_s 2 7 hk hL rfl (by kernel_rfl) rfl rfl fun a hk => ?_
    refine d_s 3 15 hk hL rfl (by kernel_rfl) rfl rfl fun a hk => ?_
    refine d_s 4 31 hk hL rfl (by kernel_rfl) rfl rfl fun a hk => ?_
    refine d_s 5 63 hk hL rfl (by kernel_rfl) rfl rfl fun a hk => ?_
    refine d_s 6 127 hk hL rfl (by kernel_rfl) rfl rfl fun a hk => ?_
    refine d_s 7 255 hk hL rfl (by kernel_rfl) rfl rfl fun a hk => ?_
    refine d_s 8 511 hk hL rfl (by kernel_rfl) rfl rfl fun a hk => ?_
    refine d_w 9 1023 hk hL rfl (fun w hL => w_pickT rfl rfl) fun a hk => ?_
    refine d_w 10 2047 hk hL rfl (fun w hL => w_as rfl) fun a hk => ?_
    refine d_end (by kernel_rfl) ?_
    refine (x_t ?_)
    refine wR ?_
    refine q_v hk (w_mv rfl) fun a hk => ?_
    refine q_v hk (w_fa rfl fq53_2 ty3) fun a hk => ?_
    refine q_v hk (w_ld1 rfl ty3 (.blk (n := 1) (hs.mi 0 rfl) rfl)) fun a hk => ?_
    refine q_lkm hk (hs.mi 1 rfl) rfl rfl Tryz.underlying145 Tryz.underlying3 zr3 ⟨_, rfl⟩ rfl rfl ?_
    rintro _ a ⟨z6, rfl⟩ hk
    refine q_v hk (w_add (r := IntKind.i64.wrap (z6 + 1)) rfl rfl rfl) fun a hk => ?_
    have hs := hs.up1
    refine q_mup hk hs rfl rfl rfl ⟨_, rfl⟩ Tryz.underlying145 Tryz.underlying3 rfl fun w hs => ?_
    refine (c_end (x_b (x_t ?_)))
    refine wR ?_
    refine q_v hk (w_add rfl rfl (wr64 (by omega) (by omega))) fun a hk => ?_
    refine q_v hk (w_mv rfl) fun a hk => ?_
    refine c_end (x_t ?_)
    have hs := hs.rw0 (congrArg (mapI isI b1) (ksv_succ (fun i => (S i).I) k))
    have hen := csE_next hf1 (by first | assumption | omega)
    have hmn : true = mixS S (k + 1) := by rw [mixS_succ, ← hf2]; first | rfl | (rw [Bool.false_or]; first | exact (decide_eq_true hmm).symm | exact (decide_eq_false hmm).symm)
    have hs := hs.up1
    have hs := hs.drop
    exact ⟨k + 1, ⟨_, (by omega), hen, hmn, hk.k rfl (hk.k rfl (hk.k rfl (hk.k rfl (hk.k rfl (hk.k rfl hk.nil))))), hs⟩, by omega⟩
   ·
    obtain rfl : mx = false := by simpa using hc5
    rcases Classical.em (hdr (S k) ≠ hdr (S 0)) with hc7 | hc7
    ·
     have hmm := hc7
     have hL := okL.cons (hs.mi 0 rfl) (okL.cons ((share_lst (HasR.nth 0 rfl : HasR (shareR la m lc S) _)).at_ hs) okL.nil)
     refine d_begin _ 11 (by kernel_rfl) rfl hs hL fun w hs hL => ?_
     refine d_w 0 1 hk hL rfl (fun w hL => w_mv rfl) fun a hk => ?_
     refine d_w 1 3 hk hL rfl (fun w hL => w_mv rfl) fun a hk => ?_
     refine d_w 2 7 hk hL rfl (fun w hL => w_ldA rfl ty53 (.blk (n := 5) (hL.at 0 rfl) rfl) rfl) fun a hk => ?_
     refine d_w 4 23 hk hL rfl (fun w hL => w_mv rfl) fun a hk => ?_
     refine d_w 5 55 hk hL rfl (fun w hL => w_iaL (k := 0) rfl rfl Tryz.underlying22 ty53 (hL.at 1 rfl) (by omega) (by omega)) fun a hk => ?_
     refine d_w 6 119 hk hL rfl (fun w hL => w_ldA rfl ty53 (lstq (k := 0) (hL.at 1 rfl) (by omega) (en_chunk shc_len (by omega))) rfl) fun a hk => ?_
     refine d_1 3 127 rfl (by kernel_rfl) fun K hK => ?_
     refine q_call (caps := []) hk rfl rfl Tryz.func106 fo106 rfl rfl (hdr_c _ _ _ _ _ _ rfl) ?_
     rintro _ w ⟨rfl, hb⟩
     have hs := hs.below hb
     refine ⟨_, rfl, fun a hk => ?_⟩
     have hL := okL.cons (hs.mi 0 rfl) (okL.cons ((share_lst (HasR.nth 0 rfl : HasR (shareR la m lc S) _)).at_ hs) okL.nil)
     refine c_end (x_t (hK _ _ hL ?_))
     clear hK K
     refine d_1 7 255 rfl (by kernel_rfl) fun K hK => ?_
     refine q_call (caps := []) hk rfl rfl Tryz.func106 fo106 rfl rfl (hdr_c _ _ _ _ _ _ rfl) ?_
     rintro _ w ⟨rfl, hb⟩
     have hs := hs.below hb
     refine ⟨_, rfl, fun a hk => ?_⟩
     have hL := okL.cons (hs.mi 0 rfl) (okL.cons ((share_lst (HasR.nth 0 rfl : HasR (shareR la m lc S) _)).at_ hs) okL.nil)
     refine c_end (x_t (hK _ _ hL ?_))
     clear hK K
     refine d_w 8 511 hk hL rfl (fun w hL => w_ene (u := hdr (S k)) (v := hdr (S 0)) (nb := 8) rfl rfl (by kernel_rfl) (by kernel_rfl) Tryz.underlying3 ty3 (by kernel_rfl) (decide_eq_true hc7)) fun a hk => ?_
     refine d_w 9 1023 hk hL rfl (fun w hL => w_pickF rfl rfl) fun a hk => ?_
     refine d_w 10 2047 hk hL rfl (fun w hL => w_as rfl) fun a hk => ?_
     refine d_end (by kernel_rfl) ?_
     refine (x_t ?_)
     refine wR ?_
     refine q_v hk (w_mv rfl) fun a hk => ?_
     refine q_v hk (w_fa rfl fq53_2 ty3) fun a hk => ?_
     refine q_v hk (w_ld1 rfl ty3 (.blk (n := 1) (hs.mi 0 rfl) rfl)) fun a hk => ?_
     refine q_lkm hk (hs.mi 1 rfl) rfl rfl Tryz.underlying145 Tryz.underlying3 zr3 ⟨_, rfl⟩ rfl rfl ?_
     rintro _ a ⟨z8, rfl⟩ hk
     refine q_v hk (w_add (r := IntKind.i64.wrap (z8 + 1)) rfl rfl rfl) fun a hk => ?_
     have hs := hs.up1
     refine q_mup hk hs rfl rfl rfl ⟨_, rfl⟩ Tryz.underlying145 Tryz.underlying3 rfl fun w hs => ?_
     refine (c_end (x_b (x_t ?_)))
     refine wR ?_
     refine q_v hk (w_add rfl rfl (wr64 (by omega) (by omega))) fun a hk => ?_
     refine q_v hk (w_mv rfl) fun a hk => ?_
     refine c_end (x_t ?_)
     have hs := hs.rw0 (congrArg (mapI isI b1) (ksv_succ (fun i => (S i).I) k))
     have hen := csE_next hf1 (by first | assumption | omega)
     have hmn : true = mixS S (k + 1) := by rw [mixS_succ, ← hf2]; first | rfl | (rw [Bool.false_or]; first | exact (decide_eq_true hmm).symm | exact (decide_eq_false hmm).symm)
     have hs := hs.up1
     have hs := hs.drop
     exact ⟨k + 1, ⟨_, (by omega), hen, hmn, hk.k rfl (hk.k rfl (hk.k rfl (hk.k rfl (hk.k rfl (hk.k rfl hk.nil))))), hs⟩, by omega⟩
    ·
     have hmm := hc7
     have hL := okL.cons (hs.mi 0 rfl) (okL.cons ((share_lst (HasR.nth 0 rfl : HasR (shareR la m lc S) _)).at_ hs) okL.nil)
     refine d_begin _ 11 (by kernel_rfl) rfl hs hL fun w hs hL => ?_
     refine d_w 0 1 hk hL rfl (fun w hL => w_mv rfl) fun a hk => ?_
     refine d_w 1 3 hk hL rfl (fun w hL => w_mv rfl) fun a hk => ?_
     refine d_w 2 7 hk hL rfl (fun w hL => w_ldA rfl ty53 (.blk (n := 5) (hL.at 0 rfl) rfl) rfl) fun a hk => ?_
     refine d_w 4 23 hk hL rfl (fun w hL => w_mv rfl) fun a hk => ?_
     refine d_w 5 55 hk hL rfl (fun w hL => w_iaL (k := 0) rfl rfl Tryz.underlying22 ty53 (hL.at 1 rfl) (by omega) (by omega)) fun a hk => ?_
     refine d_w 6 119 hk hL rfl (fun w hL => w_ldA rfl ty53 (lstq (k := 0) (hL.at 1 rfl) (by omega) (en_chunk shc_len (by omega))) rfl) fun a hk => ?_
     refine d_1 3 127 rfl (by kernel_rfl) fun K hK => ?_
     refine q_call (caps := []) hk rfl rfl Tryz.func106 fo106 rfl rfl (hdr_c _ _ _ _ _ _ rfl) ?_
     rintro _ w ⟨rfl, hb⟩
     have hs := hs.below hb
     refine ⟨_, rfl, fun a hk => ?_⟩
     have hL := okL.cons (hs.mi 0 rfl) (okL.cons ((share_lst (HasR.nth 0 rfl : HasR (shareR la m lc S) _)).at_ hs) okL.nil)
     refine c_end (x_t (hK _ _ hL ?_))
     clear hK K
     refine d_1 7 255 rfl (by kernel_rfl) fun K hK => ?_
     refine q_call (caps := []) hk rfl rfl Tryz.func106 fo106 rfl rfl (hdr_c _ _ _ _ _ _ rfl) ?_
     rintro _ w ⟨rfl, hb⟩
     have hs := hs.below hb
     refine ⟨_, rfl, fun a hk => ?_⟩
     have hL := okL.cons (hs.mi 0 rfl) (okL.cons ((share_lst (HasR.nth 0 rfl : HasR (shareR la m lc S) _)).at_ hs) okL.nil)
     refine c_end (x_t (hK _ _ hL ?_))
     clear hK K
     refine d_w 8 511 hk hL rfl (fun w hL => w_ene (u := hdr (S k)) (v := hdr (S 0)) (nb := 8) rfl rfl (by kernel_rfl) (by kernel_rfl) Tryz.underlying3 ty3 (by kernel_rfl) (decide_eq_false hc7)) fun a hk => ?_
     refine d_w 9 1023 hk hL rfl (fun w hL => w_pickF rfl rfl) fun a hk => ?_
     refine d_w 10 2047 hk hL rfl (fun w hL => w_as rfl) fun a hk => ?_
     refine d_end (by kernel_rfl) ?_
     refine (x_t ?_)
     refine wR ?_
     refine q_v hk (w_mv rfl) fun a hk => ?_
     refine q_v hk (w_fa rfl fq53_2 ty3) fun a hk => ?_
     refine q_v hk (w_ld1 rfl ty3 (.blk (n := 1) (hs.mi 0 rfl) rfl)) fun a hk => ?_
     refine q_lkm hk (hs.mi 1 rfl) rfl rfl Tryz.underlying145 Tryz.underlying3 zr3 ⟨_, rfl⟩ rfl rfl ?_
     rintro _ a ⟨z9, rfl⟩ hk
     refine q_v hk (w_add (r := IntKind.i64.wrap (z9 + 1)) rfl rfl rfl) fun a hk => ?_
     have hs := hs.up1
     refine q_mup hk hs rfl rfl rfl ⟨_, rfl⟩ Tryz.underlying145 Tryz.underlying3 rfl fun w hs => ?_
     refine (c_end (x_b (x_t ?_)))
     refine wR ?_
     refine q_v hk (w_add rfl rfl (wr64 (by omega) (by omega))) fun a hk => ?_
     refine q_v hk (w_mv rfl) fun a hk => ?_
     refine c_end (x_t ?_)
     have hs := hs.rw0 (congrArg (mapI isI b1) (ksv_succ (fun i => (S i).I) k))
     have hen := csE_next hf1 (by first | assumption | omega)
     have hmn : false = mixS S (k + 1) := by rw [mixS_succ, ← hf2]; first | rfl | (rw [Bool.false_or]; first | exact (decide_eq_true hmm).symm | exact (decide_eq_false hmm).symm)
     have hs := hs.up1
     have hs := hs.drop
     exact ⟨k + 1, ⟨_, (by omega), hen, hmn, hk.k rfl (hk.k rfl (hk.k rfl (hk.k rfl (hk.k rfl (hk.k rfl hk.nil))))), hs⟩, by omega⟩
 ·
  refine q_v hk (w_lt rfl rfl (decide_eq_false hc2)) fun a hk => ?_
  refine c_end (x_t (wS ?_))
  refine c_F hk rfl ?_
  refine (wpIn_exit (x_te (x_te (x_be ?_))))
  refine (x_t ?_)
  refine wS ?_
  refine wpIn_block ?_
  refine wS (wR ?_)
  refine q_v hk (w_mv rfl) fun a hk => ?_
  refine q_v hk (w_as rfl) fun a hk => ?_
  refine c_end (x_t ?_)
  rcases mx with _ | _
  ·
   refine c_F hk rfl ?_
   refine wS (wR ?_)
   refine q_v hk (w_mv rfl) fun a hk => ?_
   refine q_v hk (w_lnm (hs.mi 0 rfl) rfl Tryz.underlying145) fun a hk => ?_
   refine q_v hk (w_mv rfl) fun a hk => ?_
   refine q_v hk (w_len rfl Tryz.underlying22) fun a hk => ?_
   rcases Classical.em ((((ksv (fun i => (S i).I) k).length : Nat) : Int) < ((m : Nat) : Int)) with hc10 | hc10
   ·
    refine q_v hk (w_lt rfl rfl (decide_eq_true hc10)) fun a hk => ?_
    refine q_v hk (w_as rfl) fun a hk => ?_
    refine c_end (x_t ?_)
    refine c_T hk rfl ?_
    refine wS (wR ?_)
    refine q_v hk (w_as rfl) fun a hk => ?_
    refine c_end (x_t ?_)
    refine (wpIn_ret (x_br (x_tr ?_)))
    refine c_ret1 hk rfl rfl ?_
    have hB := hs.toBelow
    obtain rfl : m = k := by omega
    refine ⟨?_, hB⟩
    have he : csErr S m = 15 := by
     unfold csErr
     rw [if_neg (by simp [hf1])]
     first | (rw [if_pos (hf2.symm)]; done) | (rw [if_neg (by rw [← hf2]; exact Bool.false_ne_true)]; (repeat' split) <;> first | rfl | omega | contradiction)
    rw [he]
   ·
    refine q_v hk (w_lt rfl rfl (decide_eq_false hc10)) fun a hk => ?_
    refine q_v hk (w_as rfl) fun a hk => ?_
    refine c_end (x_t ?_)
    refine c_F hk rfl ?_
    refine wS (wR ?_)
    refine q_v hk (w_mv rfl) fun a hk => ?_
    refine q_v hk (w_len rfl Tryz.underlying22) fun a hk => ?_
    rcases Classical.em (((m : Nat) : Int) = 0) with hc11 | hc11
    ·
     refine q_v hk (w_eq rfl rfl (decide_eq_true hc11)) fun a hk => ?_
     refine q_v hk (w_mv rfl) fun a hk => ?_
     refine q_skip hk rfl rfl fun a hk => ?_
     refine q_skip hk rfl rfl fun a hk => ?_
     refine q_skip hk rfl rfl fun a hk => ?_
     refine q_skip hk rfl rfl fun a hk => ?_
     refine q_skip hk rfl rfl fun a hk => ?_
     refine q_skip hk rfl rfl fun a hk => ?_
     refine q_skip hk rfl rfl fun a hk => ?_
     refine q_v hk (w_pickT rfl rfl) fun a hk => ?_
     refine q_v hk (w_as rfl) fun a hk => ?_
     refine c_end (x_t ?_)
     refine c_T hk rfl ?_
     refine wS (wR ?_)
     refine q_v hk (w_as rfl) fun a hk => ?_
     refine c_end (x_t ?_)
     refine (wpIn_ret (x_br (x_tr ?_)))
     refine c_ret1 hk rfl rfl ?_
     have hB := hs.toBelow
     obtain rfl : m = k := by omega
     refine ⟨?_, hB⟩
     have he : csErr S m = 16 := by
      unfold csErr
      rw [if_neg (by simp [hf1])]
      first | (rw [if_pos (hf2.symm)]; done) | (rw [if_neg (by rw [← hf2]; exact Bool.false_ne_true)]; (repeat' split) <;> first | rfl | omega | contradiction)
     rw [he]
    ·
     refine q_v hk (w_eq rfl rfl (decide_eq_false hc11)) fun a hk => ?_
     refine q_v hk (w_mv rfl) fun a hk => ?_
     refine q_v hk (w_mv rfl) fun a hk => ?_
     refine q_v hk (w_len rfl Tryz.underlying22) fun a hk => ?_
     refine q_v hk (w_mv rfl) fun a hk => ?_
     refine q_v hk (w_iaL (k := 0) rfl rfl Tryz.underlying22 ty53 ((share_lst (HasR.nth 0 rfl : HasR (shareR la m lc S) _)).at_ hs) (by omega) (by omega)) fun a hk => ?_
     refine q_v hk (w_fa rfl fq53_1 ty3) fun a hk => ?_
     refine q_v hk (w_ld1 rfl ty3 (lstf (k := 0) (o := 1) (m := 1) ((share_lst (HasR.nth 0 rfl : HasR (shareR la m lc S) _)).at_ hs) (by omega) (en_chunk shc_len (by omega)) rfl)) fun a hk => ?_
     rcases Classical.em (((m : Nat) : Int) < ((S 0).T)) with hc12 | hc12
     ·
      refine q_v hk (w_lt rfl rfl (decide_eq_true hc12)) fun a hk => ?_
      refine q_v hk (w_pickF rfl rfl) fun a hk => ?_
      refine q_v hk (w_as rfl) fun a hk => ?_
      refine c_end (x_t ?_)
      refine c_T hk rfl ?_
      refine wS (wR ?_)
      refine q_v hk (w_as rfl) fun a hk => ?_
      refine c_end (x_t ?_)
      refine (wpIn_ret (x_br (x_tr ?_)))
      refine c_ret1 hk rfl rfl ?_
      have hB := hs.toBelow
      obtain rfl : m = k := by omega
      refine ⟨?_, hB⟩
      have he : csErr S m = 16 := by
       unfold csErr
       rw [if_neg (by simp [hf1])]
       first | (rw [if_pos (hf2.symm)]; done) | (rw [if_neg (by rw [← hf2]; exact Bool.false_ne_true)]; (repeat' split) <;> first | rfl | omega | contradiction)
      rw [he]
     ·
      refine q_v hk (w_lt rfl rfl (decide_eq_false hc12)) fun a hk => ?_
      refine q_v hk (w_pickF rfl rfl) fun a hk => ?_
      refine q_v hk (w_as rfl) fun a hk => ?_
      refine c_end (x_t ?_)
      refine c_F hk rfl ?_
      refine (wpIn_skip (x_b (x_t ?_)))
      refine wS (wR ?_)
      refine q_v hk (w_as rfl) fun a hk => ?_
      refine c_end (x_t ?_)
      refine (wpIn_ret ?_)
      refine c_ret1 hk rfl rfl ?_
      have hB := hs.toBelow
      obtain rfl : m = k := by omega
      refine ⟨?_, hB⟩
      have he : csErr S m = 0 := by
       unfold csErr
       rw [if_neg (by simp [hf1])]
       first | (rw [if_pos (hf2.symm)]; done) | (rw [if_neg (by rw [← hf2]; exact Bool.false_ne_true)]; (repeat' split) <;> first | rfl | omega | contradiction)
      rw [he]
  ·
   refine c_T hk rfl ?_
   refine wS (wR ?_)
   refine q_v hk (w_as rfl) fun a hk => ?_
   refine c_end (x_t ?_)
   refine (wpIn_ret (x_br (x_tr ?_)))
   refine c_ret1 hk rfl rfl ?_
   have hB := hs.toBelow
   obtain rfl : m = k := by omega
   refine ⟨?_, hB⟩
   have he : csErr S m = 14 := by
    unfold csErr
    rw [if_neg (by simp [hf1])]
    first | (rw [if_pos (hf2.symm)]; done) | (rw [if_neg (by rw [← hf2]; exact Bool.false_ne_true)]; (repeat' split) <;> first | rfl | omega | contradiction)
   rw [he]
theorem indices_c (m lc : Nat) (la : Option Addr) (S : Nat → Shr) (W : World) (HS : (shareR la m lc S).ok W) (hm : m ≤ 1000000) : Calls Tryz.prog 80 [.slice la m lc].toArray W fun e w => ∃ a c, e = .returned (.slice a m c) ∧ Sat no W [row 3 1 (.slice a m c) m (en ic (fun i => (S i).I) m)] [] w := by
 refine c_enter (args := [.slice la m lc]) Tryz.func80 rfl rfl rfl fun a hk => ?_
 have hs := Sat.start W [shareR la m lc S] (okr1 HS)
 refine wS (wR ?_)
 refine q_v hk (w_as rfl) fun a hk => ?_
 refine c_end (x_t (wS (wR ?_)))
 refine q_v hk (w_as rfl) fun a hk => ?_
 refine c_end (x_t (wS (wS (wR ?_))))
 refine q_v hk (w_mv rfl) fun a hk => ?_
 refine q_v hk (w_len rfl Tryz.underlying22) fun a hk => ?_
 refine q_v hk (w_mv rfl) fun a hk => ?_
 refine c_end (x_t ?_)
 refine wpIn_block ?_
 have hs := hs.row0 3 1
 refine c_loop (α := Nat) (fun k a w => ∃ (ao : Option Addr) (co : Nat), k ≤ m ∧ Kn [] 19 [(8, .int .i64 (k : Int)), (3, .slice ao k co), (7, .int .i64 ((m : Nat) : Int)), (6, .slice la m lc), (2, .slice none 0 0)] a ∧ Sat no W [row 3 1 (.slice ao k co) k (en ic (fun i => (S i).I) k)] [shareR la m lc S] w) (fun k => m - k) 0 ?_ ?_
 · exact ⟨_, _, (by omega), hk.k rfl (hk.k rfl (hk.k rfl (hk.k rfl (hk.k rfl hk.nil)))), hs⟩
 rintro k a w ⟨ao, co, hf0, hk, hs⟩
 refine wS (wR ?_)
 rcases Classical.em ((k : Int) < ((m : Nat) : Int)) with hc1 | hc1
 ·
  refine q_v hk (w_lt rfl rfl (decide_eq_true hc1)) fun a hk => ?_
  refine c_end (x_t (wS ?_))
  refine c_T hk rfl ?_
  refine (wpIn_skip (x_t ?_))
  refine wS ?_
  refine wpIn_block ?_
  refine wS (wR ?_)
  refine q_v hk (w_iaL (k := k) rfl rfl Tryz.underlying22 ty53 ((share_lst (HasR.nth 0 rfl : HasR (shareR la m lc S) _)).at_ hs) (by omega) (by omega)) fun a hk => ?_
  refine q_v hk (w_ldA rfl ty53 (lstq (k := k) ((share_lst (HasR.nth 0 rfl : HasR (shareR la m lc S) _)).at_ hs) (by omega) (en_chunk shc_len (by omega))) rfl) fun a hk => ?_
  refine q_alc (vs := [.int .i64 0, .int .i64 0, .int .i64 0, .int .i64 0, .slice none 0 0]) hk hs zr53 rfl rfl rfl fun b2 w a hk hs => ?_
  refine q_sto (o := 0) (cs := [.int .i64 ((S k).F), .int .i64 ((S k).T), .int .i64 ((S k).I), .int .i64 ((S k).L), .slice ((S k).a) ((S k).n) ((S k).c)]) (vs' := [.int .i64 ((S k).F), .int .i64 ((S k).T), .int .i64 ((S k).I), .int .i64 ((S k).L), .slice ((S k).a) ((S k).n) ((S k).c)]) hk hs rfl rfl rfl ty53 rfl rfl rfl rfl rfl rfl fun w hs => ?_
  refine c_end (x_t (wR ?_))
  refine q_v hk (w_mv rfl) fun a hk => ?_
  refine q_v hk (w_fa rfl fq53_2 ty3) fun a hk => ?_
  refine q_v hk (w_ld1 rfl ty3 (.blk (n := 1) (hs.mi 0 rfl) rfl)) fun a hk => ?_
  refine q_bsl (els := [.tmp 14]) (cs := [.int .i64 ((S k).I)]) hk hs rfl Tryz.underlying34 ty3 zr3 rfl rfl rfl rfl rfl rfl rfl fun b3 w a hk hs => ?_
  have hs := hs.up2
  refine q_app (news := [.int .i64 ((S k).I)]) (m := 1) hk hs rfl rfl Tryz.underlying34 ty3 zr3 rfl rfl (.blk (n := 1) (hs.mi 1 rfl) rfl) rfl rfl (by omega) (by omega) rfl rfl fun a4 c5 w a hk hs => ?_
  have hs := hs.up1
  have hs := hs.drop
  refine q_v hk (w_as rfl) fun a hk => ?_
  refine (c_end (x_b (x_t ?_)))
  refine wR ?_
  refine q_v hk (w_add rfl rfl (wr64 (by omega) (by omega))) fun a hk => ?_
  refine q_v hk (w_mv rfl) fun a hk => ?_
  refine c_end (x_t ?_)
  have hs := hs.rw0 (congrArg _ en_succ)
  have hs := hs.up1
  have hs := hs.drop
  exact ⟨k + 1, ⟨_, _, (by omega), hk.k rfl (hk.k rfl (hk.k rfl (hk.k rfl (hk.k rfl hk.nil)))), hs⟩, by omega⟩
 ·
  refine q_v hk (w_lt rfl rfl (decide_eq_false hc1)) fun a hk => ?_
  refine c_end (x_t (wS ?_))
  refine c_F hk rfl ?_
  refine (wpIn_exit (x_te (x_te (x_be ?_))))
  refine (x_t ?_)
  refine wS (wR ?_)
  refine q_v hk (w_mv rfl) fun a hk => ?_
  refine q_v hk (w_as rfl) fun a hk => ?_
  refine c_end (x_t ?_)
  refine (wpIn_ret ?_)
  refine c_ret1 hk rfl rfl ?_
  have hkm : k = m := by omega
  rw [hkm] at hs ⊢
  exact ⟨_, _, rfl, hs.fin⟩
theorem column_c (m lc ch : Nat) (la : Option Addr) (S : Nat → Shr) (W : World) (HS : (shareR la m lc S).ok W) (hm : m ≤ 1000000) (hc : ∀ i, i < m → ch < (S i).n ∧ (S i).n ≤ 100000000) : Calls Tryz.prog 101 [.slice la m lc, .int .i64 ((ch : Nat) : Int)].toArray W fun e w => ∃ b, e = .returned (.slice (some ⟨b, 0, none⟩) m m) ∧ Sat no W [blk b (en vq (fun i => (S i).X ch) m) 56] [] w := by
 refine c_enter (args := [.slice la m lc, .int .i64 ((ch : Nat) : Int)]) Tryz.func101 rfl rfl rfl fun a hk => ?_
 have hs := Sat.start W [shareR la m lc S] (okr1 HS)
 refine wS (wR ?_)
 refine q_v hk (w_as rfl) fun a hk => ?_
 refine c_end (x_t (wS (wR ?_)))
 refine q_v hk (w_mv rfl) fun a hk => ?_
 refine q_v hk (w_len rfl Tryz.underlying22) fun a hk => ?_
 refine q_mks (k := m) (cs := vq 0) hk hs rfl rfl Tryz.underlying51 ty56 zr56 (by kernel_rfl) rfl rfl rfl rfl (by omega) (by omega) rfl rfl fun b1 w a hk hs => ?_
 have hs := hs.rw0 (show _ = blk b1 (en vq (fun _ => 0) m) 56 from rfl)
 refine q_v hk (w_as rfl) fun a hk => ?_
 refine c_end (x_t (wS (wS (wR ?_))))
 refine q_v hk (w_mv rfl) fun a hk => ?_
 refine q_v hk (w_len rfl Tryz.underlying22) fun a hk => ?_
 refine q_v hk (w_mv rfl) fun a hk => ?_
 refine c_end (x_t ?_)
 refine wpIn_block ?_
 have hs := hs.rw0 (congrArg (fun q => blk b1 q 56) (clf_zero (S := S) (ch := ch)))
 refine c_loop (α := Nat) (fun k a w => k ≤ m ∧ Kn [] 34 [(13, .int .i64 ((k : Nat) : Int)), (12, .int .i64 ((m : Nat) : Int)), (11, .slice la m lc), (5, .slice (some ⟨b1, 0, none⟩) m m), (4, .slice none 0 0), (1, .int .i64 ((ch : Nat) : Int))] a ∧ Sat no W [blk b1 (en vq (fun i => clf S ch k i) m) 56] [shareR la m lc S] w) (fun k => m - k) 0 ?_ ?_
 · exact ⟨(by omega), hk.k rfl (hk.k rfl (hk.k rfl (hk.k rfl (hk.k rfl (hk.k rfl hk.nil))))), hs⟩
 rintro k a w ⟨hf0, hk, hs⟩
 refine wS (wR ?_)
 rcases Classical.em (((k : Nat) : Int) < ((m : Nat) : Int)) with hc2 | hc2
 ·
  have hlt : k < m := by omega
  have hck := hc k hlt
  refine q_v hk (w_lt rfl rfl (decide_eq_true hc2)) fun a hk => ?_
  refine c_end (x_t (wS ?_))
  refine c_T hk rfl ?_
  refine (wpIn_skip (x_t ?_))
  refine wS ?_
  refine wpIn_block ?_
  refine wS (wR ?_)
  refine q_v hk (w_mv rfl) fun a hk => ?_
  refine q_v hk (w_iaL (k := k) rfl rfl Tryz.underlying22 ty53 ((share_lst (HasR.nth 0 rfl : HasR (shareR la m lc S) _)).at_ hs) (by omega) (by omega)) fun a hk => ?_
  refine q_v hk (w_ldA rfl ty53 (lstq (k := k) ((share_lst (HasR.nth 0 rfl : HasR (shareR la m lc S) _)).at_ hs) (by omega) (en_chunk shc_len (by omega))) rfl) fun a hk => ?_
  refine q_alc (vs := [.int .i64 0, .int .i64 0, .int .i64 0, .int .i64 0, .slice none 0 0]) hk hs zr53 rfl rfl rfl fun b3 w a hk hs => ?_
  refine q_v hk (w_as rfl) fun a hk => ?_
  refine q_sto (o := 0) (cs := [.int .i64 ((S k).F), .int .i64 ((S k).T), .int .i64 ((S k).I), .int .i64 ((S k).L), .slice ((S k).a) ((S k).n) ((S k).c)]) (vs' := [.int .i64 ((S k).F), .int .i64 ((S k).T), .int .i64 ((S k).I), .int .i64 ((S k).L), .slice ((S k).a) ((S k).n) ((S k).c)]) hk hs rfl rfl rfl ty53 rfl rfl rfl rfl rfl rfl fun w hs => ?_
  refine c_end (x_t (wS (wR ?_)))
  refine q_v hk (w_mv rfl) fun a hk => ?_
  refine q_v hk (w_fa rfl fq53_4 ty51) fun a hk => ?_
  refine q_v hk (w_ld1 rfl ty51 (.blk (n := 1) (hs.mi 0 rfl) rfl)) fun a hk => ?_
  refine q_v hk (w_len rfl Tryz.underlying51) fun a hk => ?_
  refine q_v hk (w_sub rfl rfl (wr64 (by omega) (by omega))) fun a hk => ?_
  refine q_call (caps := []) hk rfl rfl Tryz.func136 fo136 rfl rfl (between_t _ _ _ _ (by omega)) ?_
  rintro _ _ ⟨rfl, rfl⟩
  refine ⟨_, rfl, fun a hk => ?_⟩
  refine c_end (x_t ?_)
  refine c_T hk rfl ?_
  refine wR ?_
  refine q_v hk (w_mv rfl) fun a hk => ?_
  refine q_v hk (w_mv rfl) fun a hk => ?_
  refine q_v hk (w_fa rfl fq53_4 ty51) fun a hk => ?_
  refine q_v hk (w_ld1 rfl ty51 (.blk (n := 1) (hs.mi 0 rfl) rfl)) fun a hk => ?_
  refine q_v hk (w_mv rfl) fun a hk => ?_
  refine q_v hk (w_iaL (k := ch) rfl rfl Tryz.underlying51 ty56 ((share_pay (k := k) (HasR.nth 0 rfl : HasR (shareR la m lc S) _) (by omega)).at_ hs) (by omega) (by omega)) fun a hk => ?_
  refine q_v hk (w_ldv (z := (S k).X ch) rfl ty56 (lstq (k := ch) ((share_pay (k := k) (HasR.nth 0 rfl : HasR (shareR la m lc S) _) (by omega)).at_ hs) (by omega) (en_chunk vq_len (by omega)))) fun a hk => ?_
  refine q_v hk (w_iaL (k := k) rfl rfl Tryz.underlying51 ty56 (blk_lst (hs.mi 1 rfl) (en_len vq_len) (Nat.le_refl _)) (by omega) (by omega)) fun a hk => ?_
  have hs := hs.up1
  refine q_stoE (c := vq) (xx := ((S k).X ch)) (k := k) hk hs rfl rfl rfl ty56 rfl vq_len rfl (by omega) rfl fun w hs => ?_
  refine (c_end (x_b (x_t ?_)))
  refine wR ?_
  refine q_v hk (w_add rfl rfl (wr64 (by omega) (by omega))) fun a hk => ?_
  refine q_v hk (w_mv rfl) fun a hk => ?_
  refine c_end (x_t ?_)
  have hs := hs.rw0 (congrArg (fun q => blk b1 q 56) (clf_step (S := S) (ch := ch)))
  have hs := hs.up1
  have hs := hs.drop
  exact ⟨k + 1, ⟨(by omega), hk.k rfl (hk.k rfl (hk.k rfl (hk.k rfl (hk.k rfl (hk.k rfl hk.nil))))), hs⟩, by omega⟩
 ·
  refine q_v hk (w_lt rfl rfl (decide_eq_false hc2)) fun a hk => ?_
  refine c_end (x_t (wS ?_))
  refine c_F hk rfl ?_
  refine (wpIn_exit (x_te (x_te (x_be ?_))))
  refine (x_t ?_)
  refine wS (wR ?_)
  refine q_v hk (w_mv rfl) fun a hk => ?_
  refine q_v hk (w_as rfl) fun a hk => ?_
  refine c_end (x_t ?_)
  refine (wpIn_ret ?_)
  refine c_ret1 hk rfl rfl ?_
  have hkm : k = m := by omega
  rw [hkm] at hs
  rw [clf_end] at hs
  exact ⟨_, rfl, hs.fin⟩
end Go.Proofs.YtdnkkbmpefhbjaaGreatDoor
namespace Go.Proofs.YtdnkkbmpefhbjaaGreatDoor
set_option linter.all false
open Go Go.RowKit Alg
def ptf {s : Bool} (x : Nat → Zp s) (k i : Nat) : Nat := if i < k then mq (x i) else 0
theorem ptf_zero {s : Bool} {x : Nat → Zp s} {n : Nat} : en vq (fun _ => 0) n = en vq (ptf x 0) n := en_congr fun i _ => by unfold ptf; rw [if_neg (Nat.not_lt_zero i)]
theorem ptf_step {s : Bool} {x : Nat → Zp s} {k n : Nat} : en vq (fun i => if i = k then mq (x k) else ptf x k i) n = en vq (ptf x (k + 1)) n := en_congr fun i _ => by
  unfold ptf
  by_cases h : i = k
  · subst h; rw [if_pos rfl, if_pos (Nat.lt_succ_self _)]
  · rw [if_neg h]
    by_cases l : i < k
    · rw [if_pos l, if_pos (by omega)]
    · rw [if_neg l, if_neg (by omega)]
theorem ptf_end {s : Bool} {x : Nat → Zp s} {n : Nat} : en vq (ptf x n) n = en vq (fun i => mq (x i)) n := en_congr fun i hi => by unfold ptf; rw [if_pos hi]
theorem lt255 {k : Nat} (h : k ≤ 255) : k < R4 := Nat.lt_of_le_of_lt h (by decide)
theorem points_m {F0 : Nat → Prop} {W : World} {M R : List Res} (s : Bool) (n lc : Nat) (la : Option Addr) (v : Nat → Nat) (w0 : World) (hs : Sat F0 W M ((lst 1 (.slice la n lc) n (en ic (fun i => ((v i : Nat) : Int)) n)) :: R) w0) (hn : n ≤ 1000000) (hv : ∀ i, i < n → 1 ≤ v i ∧ v i ≤ 255) : Calls Tryz.prog 117 [fieldV s, .slice la n lc].toArray w0 fun e w => ∃ b, e = .returned (.slice (some ⟨b, 0, none⟩) n n) ∧ Sat F0 W (blk b (en vq (fun i => mq (pt s v i)) n) 56 :: M) R w := by
 refine c_enter (args := [fieldV s, .slice la n lc]) Tryz.func117 rfl rfl rfl fun a hk => ?_
 refine wS (wR ?_)
 refine q_box (vs := fieldL s) hk hs rfl rfl rfl rfl fun b1 w a hk hs => ?_
 refine q_v hk (w_as rfl) fun a hk => ?_
 refine c_end (x_t (wS (wR ?_)))
 refine q_v hk (w_mv rfl) fun a hk => ?_
 refine q_v hk (w_len rfl Tryz.underlying34) fun a hk => ?_
 refine q_mks (k := n) (cs := vq 0) hk hs rfl rfl Tryz.underlying51 ty56 zr56 (by kernel_rfl) rfl rfl rfl rfl (by omega) (by omega) rfl rfl fun b2 w a hk hs => ?_
 have hs := hs.rw0 (show _ = blk b2 (en vq (fun _ => 0) n) 56 from rfl)
 refine q_v hk (w_as rfl) fun a hk => ?_
 refine c_end (x_t (wS (wS (wR ?_))))
 refine q_v hk (w_mv rfl) fun a hk => ?_
 refine q_v hk (w_len rfl Tryz.underlying34) fun a hk => ?_
 refine q_v hk (w_mv rfl) fun a hk => ?_
 refine c_end (x_t ?_)
 refine wpIn_block ?_
 have hs := hs.rw0 (congrArg (fun q => blk b2 q 56) (ptf_zero (x := pt s v)))
 refine c_loop (α := Nat) (fun k a w => k ≤ n ∧ Kn [] 28 [(13, .int .i64 ((k : Nat) : Int)), (12, .int .i64 ((n : Nat) : Int)), (11, .slice la n lc), (5, .slice (some ⟨b2, 0, none⟩) n n), (4, .slice none 0 0), (2, .pointer (some ⟨b1, 0, none⟩))] a ∧ Sat F0 W ((blk b2 (en vq (fun i => ptf (pt s v) k i) n) 56) :: (blk b1 (fieldL s) 120) :: M) ((lst 1 (.slice la n lc) n (en ic (fun i => ((v i : Nat) : Int)) n)) :: R) w) (fun k => n - k) 0 ?_ ?_
 · exact ⟨(by omega), hk.k rfl (hk.k rfl (hk.k rfl (hk.k rfl (hk.k rfl (hk.k rfl hk.nil))))), hs⟩
 rintro k a w ⟨hf0, hk, hs⟩
 refine wS (wR ?_)
 rcases Classical.em (((k : Nat) : Int) < ((n : Nat) : Int)) with hc3 | hc3
 ·
  have hvk := hv k (by omega)
  refine q_v hk (w_lt rfl rfl (decide_eq_true hc3)) fun a hk => ?_
  refine c_end (x_t (wS ?_))
  refine c_T hk rfl ?_
  refine (wpIn_skip (x_t ?_))
  refine wS ?_
  refine wpIn_block ?_
  refine wS (wR ?_)
  refine q_v hk (w_mv rfl) fun a hk => ?_
  refine q_v hk (w_iaL (k := k) rfl rfl Tryz.underlying34 ty3 (hs.ri 0 rfl) (by omega) (by omega)) fun a hk => ?_
  refine q_v hk (w_ld1 rfl ty3 (lstq (k := k) (hs.ri 0 rfl) (by omega) (en_chunk ic_len (by omega)))) fun a hk => ?_
  refine q_v hk (w_as rfl) fun a hk => ?_
  refine q_v hk (w_as rfl) fun a hk => ?_
  refine c_end (x_t (wR ?_))
  refine q_v hk (w_mv rfl) fun a hk => ?_
  refine q_v hk (w_mv rfl) fun a hk => ?_
  refine q_v hk (w_ldA rfl ty120 (.blk (n := 14) (hs.mi 1 rfl) rfl) rfl) fun a hk => ?_
  refine q_v hk (w_mv rfl) fun a hk => ?_
  refine q_v hk (w_conv rfl Tryz.underlying3 Tryz.underlying46 (wru64 (by omega) (by omega))) fun a hk => ?_
  refine q_v hk (w_bldv1 (k := v k) rfl (by omega) (by unfold Go.Proofs.YtdnkkbmpefhbjaaGreatDoor.W; omega) Tryz.underlying47 ty46 zr47) fun a hk => ?_
  refine q_call (caps := []) hk rfl rfl Tryz.func88 fo88 rfl rfl (zto_c (s := s) _ (v k) (lt255 hvk.2)) ?_
  rintro _ w ⟨rfl, hb⟩
  have hs := hs.below hb
  refine ⟨_, rfl, fun a hk => ?_⟩
  refine q_v hk (w_iaL (k := k) rfl rfl Tryz.underlying51 ty56 (blk_lst (hs.mi 0 rfl) (en_len vq_len) (Nat.le_refl _)) (by omega) (by omega)) fun a hk => ?_
  refine q_stoE (c := vq) (xx := (mq (pt s v k))) (k := k) hk hs rfl rfl rfl ty56 rfl vq_len rfl (by omega) rfl fun w hs => ?_
  refine (c_end (x_b (x_t ?_)))
  refine wR ?_
  refine q_v hk (w_add rfl rfl (wr64 (by omega) (by omega))) fun a hk => ?_
  refine q_v hk (w_mv rfl) fun a hk => ?_
  refine c_end (x_t ?_)
  have hs := hs.rw0 (congrArg (fun q => blk b2 q 56) (ptf_step (x := pt s v)))
  exact ⟨k + 1, ⟨(by omega), hk.k rfl (hk.k rfl (hk.k rfl (hk.k rfl (hk.k rfl (hk.k rfl hk.nil))))), hs⟩, by omega⟩
 ·
  refine q_v hk (w_lt rfl rfl (decide_eq_false hc3)) fun a hk => ?_
  refine c_end (x_t (wS ?_))
  refine c_F hk rfl ?_
  refine (wpIn_exit (x_te (x_te (x_be ?_))))
  refine (x_t ?_)
  refine wS (wR ?_)
  refine q_v hk (w_mv rfl) fun a hk => ?_
  refine q_v hk (w_as rfl) fun a hk => ?_
  refine c_end (x_t ?_)
  refine (wpIn_ret ?_)
  refine c_ret1 hk rfl rfl ?_
  have hs := hs.up1
  have hs := hs.drop
  have hs := hs.toR (R' := R) (fun r hr => .of (by simp [hr]))
  have hkn : k = n := by omega
  subst hkn
  rw [ptf_end] at hs
  exact ⟨_, rfl, hs⟩
theorem weights_m0 {F0 : Nat → Prop} {W : World} {M R : List Res} (s : Bool) (n lc : Nat) (la : Option Addr) (v : Nat → Nat) (t : Option Nat) (evs : List Ev) (r : Res) (w0 : World) (hs : Sat F0 W (r :: M) R w0) (hT : TapeIs t evs r) (hL : HasR (lst 1 (.slice la n lc) n (en ic (fun i => ((v i : Nat) : Int)) n)) R) (h0 : 0 < n) (hn : n ≤ 255) (hv : ∀ i, i < n → 1 ≤ v i ∧ v i ≤ 255) (hd : ∀ i k, i < k → k < n → v i ≠ v k) (he : evs.length ≤ 100000000) : Calls Tryz.prog 116 [tval t, fieldV s, .slice la n lc].toArray w0 fun e w => ∃ b r, e = .returned (.tuple #[.slice (some ⟨b, 0, none⟩) n n, .int .i64 0]) ∧ TapeIs t (evs ++ weightsE (n : Int)) r ∧ Sat F0 W (r :: blk b (en vq (fun i => mq (wgt (pt s v) n i)) n) 56 :: M) R w := by
 refine c_enter (args := [tval t, fieldV s, .slice la n lc]) Tryz.func116 rfl rfl rfl fun a hk => ?_
 refine wS (wR ?_)
 refine q_box (vs := fieldL s) hk hs rfl rfl rfl rfl fun b1 w a hk hs => ?_
 refine q_v hk (w_as rfl) fun a hk => ?_
 refine q_v hk (w_as rfl) fun a hk => ?_
 refine c_end (x_t (wS (wS (wR ?_))))
 refine q_v hk (w_mv rfl) fun a hk => ?_
 refine q_call (caps := []) hk rfl rfl Tryz.func127 fo127 rfl rfl (lcheck_c n lc la v _ ((hL).at_ hs) (by omega) hv hd) ?_
 rintro _ w ⟨rfl, hb⟩
 have hs := hs.below hb
 refine ⟨_, rfl, fun a hk => ?_⟩
 refine q_v hk (w_as rfl) fun a hk => ?_
 refine c_end (x_t (wS (wR ?_)))
 refine q_v hk (w_mv rfl) fun a hk => ?_
 refine q_v hk (w_ne rfl rfl (decide_eq_false (by decide))) fun a hk => ?_
 refine c_end (x_t ?_)
 refine c_F hk rfl ?_
 refine (wpIn_skip (x_t ?_))
 refine wS (wR ?_)
 refine q_v hk (w_ldA rfl ty120 (.blk (n := 14) (hs.mi 0 rfl) rfl) rfl) fun a hk => ?_
 refine q_v hk (w_mv rfl) fun a hk => ?_
 refine q_call (caps := []) hk rfl rfl Tryz.func117 fo117 rfl rfl (points_m s n lc la v _ (hs.hasR hL) (by omega) hv) ?_
 rintro _ w ⟨b2, rfl, hs⟩
 have hs := hs.subR (R' := R) (by simp)
 refine ⟨_, rfl, fun a hk => ?_⟩
 refine q_v hk (w_as rfl) fun a hk => ?_
 have hs := hs.frz (r := lst 4 (.slice (some ⟨b2, 0, none⟩) n n) n (en vq (fun i => mq (pt s v i)) n)) (blk_lst (hs.mi 0 rfl) (en_len vq_len) (Nat.le_refl _)) (fun _ h => (Option.some.inj h.2).symm)
 refine c_end (x_t (wS (wR ?_)))
 refine q_v hk (w_mv rfl) fun a hk => ?_
 refine q_v hk (w_len rfl Tryz.underlying51) fun a hk => ?_
 refine q_mks (k := n) (cs := vq 0) hk hs rfl rfl Tryz.underlying51 ty56 zr56 (by kernel_rfl) rfl rfl rfl rfl (by omega) (by omega) rfl rfl fun b3 w a hk hs => ?_
 have hs := hs.rw0 (show _ = blk b3 (en vq (fun _ => 0) n) 56 from rfl)
 refine q_v hk (w_as rfl) fun a hk => ?_
 refine c_end (x_t (wS (wS (wR ?_))))
 refine q_v hk (w_mv rfl) fun a hk => ?_
 refine q_v hk (w_len rfl Tryz.underlying51) fun a hk => ?_
 refine q_v hk (w_mv rfl) fun a hk => ?_
 refine c_end (x_t ?_)
 refine wpIn_block ?_
 have hs := hs.rw0 (congrArg (fun q => blk b3 q 56) (wdz_zero (x := pt s v)))
 refine c_loop (α := Nat) (fun u a w => ∃ (r : Res), u ≤ n ∧ TapeIs t (evs ++ upE 0 ((u : Nat) : Int) (pairF n)) r ∧ Kn [] 71 [(26, .int .i64 ((u : Nat) : Int)), (25, .int .i64 ((n : Nat) : Int)), (10, .slice (some ⟨b3, 0, none⟩) n n), (9, .slice (some ⟨b2, 0, none⟩) n n), (7, .int .i64 0), (6, .slice none 0 0), (4, .pointer (some ⟨b1, 0, none⟩)), (0, tval t)] a ∧ Sat F0 W ((blk b3 (en vq (fun i => Wd (pt s v) n u i) n) 56) :: (blk b1 (fieldL s) 120) :: r :: M) ((lst 4 (.slice (some ⟨b2, 0, none⟩) n n) n (en vq (fun i => mq (pt s v i)) n)) :: R) w) (fun u => n - u) 0 ?_ ?_
 · exact ⟨_, (by omega), (by rw [upE_nil (by omega), List.append_nil]; exact hT), hk.k rfl (hk.k rfl (hk.k rfl (hk.k rfl (hk.k rfl (hk.k rfl (hk.k rfl (hk.k rfl hk.nil))))))), hs⟩
 rintro u a w ⟨r, hf0, hf1, hk, hs⟩
 have hT := hf1
 refine wS (wR ?_)
 rcases Classical.em (((u : Nat) : Int) < ((n : Nat) : Int)) with hc4 | hc4
 ·
  refine q_v hk (w_lt rfl rfl (decide_eq_true hc4)) fun a hk => ?_
  refine c_end (x_t (wS ?_))
  refine c_T hk rfl ?_
  refine (wpIn_skip (x_t ?_))
  refine wS ?_
  refine wpIn_block ?_
  refine wS (wR ?_)
  refine q_v hk (w_mv rfl) fun a hk => ?_
  refine q_v hk (w_as rfl) fun a hk => ?_
  refine c_end (x_t (wS (wR ?_)))
  refine q_v hk (w_mv rfl) fun a hk => ?_
  refine q_v hk (w_mv rfl) fun a hk => ?_
  refine q_v hk (w_fa rfl fq120_3 ty56) fun a hk => ?_
  refine q_v hk (w_ldv (z := rone s) rfl ty56 (.blk (n := 4) (hs.mi 1 rfl) rfl)) fun a hk => ?_
  refine q_v hk (w_iaL (k := u) rfl rfl Tryz.underlying51 ty56 (blk_lst (hs.mi 0 rfl) (en_len vq_len) (Nat.le_refl _)) (by omega) (by omega)) fun a hk => ?_
  refine q_stoE (c := vq) (xx := (rone s)) (k := u) hk hs rfl rfl rfl ty56 rfl vq_len rfl (by omega) rfl fun w hs => ?_
  refine c_end (x_t (wS (wR ?_)))
  refine q_v hk (w_mv rfl) fun a hk => ?_
  refine q_v hk (w_len rfl Tryz.underlying51) fun a hk => ?_
  refine q_v hk (w_mv rfl) fun a hk => ?_
  refine c_end (x_t ?_)
  refine wpIn_block ?_
  have hs := hs.rw0 (congrArg (fun q => blk b3 q 56) (wdz_open (x := pt s v)))
  refine c_loop (α := Nat) (fun k a w => ∃ (r2 : Res), k ≤ n ∧ TapeIs t (evs ++ upE 0 ((u : Nat) : Int) (pairF n) ++ upE 0 ((k : Nat) : Int) (pairE false ((u : Nat) : Int))) r2 ∧ Kn [] 71 [(36, .int .i64 ((k : Nat) : Int)), (35, .int .i64 ((n : Nat) : Int)), (34, .slice (some ⟨b2, 0, none⟩) n n), (32, vec (rone s)), (31, .pointer (some ⟨b1, 6, none⟩)), (30, .int .i64 ((u : Nat) : Int)), (29, .slice (some ⟨b3, 0, none⟩) n n), (11, .int .i64 ((u : Nat) : Int)), (28, .int .i64 ((u : Nat) : Int)), (27, .bool true), (26, .int .i64 ((u : Nat) : Int)), (25, .int .i64 ((n : Nat) : Int)), (10, .slice (some ⟨b3, 0, none⟩) n n), (9, .slice (some ⟨b2, 0, none⟩) n n), (7, .int .i64 0), (6, .slice none 0 0), (4, .pointer (some ⟨b1, 0, none⟩)), (0, tval t)] a ∧ Sat F0 W ((blk b3 (en vq (fun i => Wi (pt s v) n u k i) n) 56) :: (blk b1 (fieldL s) 120) :: r2 :: M) ((lst 4 (.slice (some ⟨b2, 0, none⟩) n n) n (en vq (fun i => mq (pt s v i)) n)) :: R) w) (fun k => n - k) 0 ?_ ?_
  · exact ⟨_, (by omega), (by rw [upE_nil (a := ((0 : Nat) : Int)) (by omega), List.append_nil]; exact hT), hk.k rfl (hk.k rfl (hk.k rfl (hk.k rfl (hk.k rfl (hk.k rfl (hk.k rfl (hk.k rfl (hk.k rfl (hk.k rfl (hk.k rfl (hk.k rfl (hk.k rfl (hk.k rfl (hk.k rfl (hk.k rfl (hk.k rfl (hk.k rfl hk.nil))))))))))))))))), hs⟩
  rintro k a w ⟨r2, hf0, hf1, hk, hs⟩
  have hT := hf1
  have hlu := pairFs_len (n := n) (u := u)
  have hlk := pairK_len (k := k) (u := u)
  have hun : u * n ≤ 1000 * 1000 := Nat.mul_le_mul (by omega) (by omega)
  refine wS (wR ?_)
  rcases Classical.em (((k : Nat) : Int) < ((n : Nat) : Int)) with hc5 | hc5
  ·
   refine q_v hk (w_lt rfl rfl (decide_eq_true hc5)) fun a hk => ?_
   refine c_end (x_t (wS ?_))
   refine c_T hk rfl ?_
   refine (wpIn_skip (x_t ?_))
   refine wS ?_
   refine wpIn_block ?_
   refine wS (wR ?_)
   refine q_v hk (w_mv rfl) fun a hk => ?_
   refine q_v hk (w_as rfl) fun a hk => ?_
   refine c_end (x_t (wS (wR ?_)))
   refine q_v hk (w_mv rfl) fun a hk => ?_
   refine q_v hk (w_mv rfl) fun a hk => ?_
   rcases Classical.em (((k : Nat) : Int) ≠ ((u : Nat) : Int)) with hc6 | hc6
   ·
    refine q_v hk (w_ne rfl rfl (decide_eq_true hc6)) fun a hk => ?_
    refine c_end (x_t ?_)
    refine c_T hk rfl ?_
    refine wS (wR ?_)
    refine q_v hk (w_mv rfl) fun a hk => ?_
    refine q_v hk (w_mv rfl) fun a hk => ?_
    refine q_v hk (w_mv rfl) fun a hk => ?_
    have hs := hs.up2
    refine q_call (caps := []) hk rfl rfl Tryz.func61 fo61 rfl rfl (note_m t 3 ((u : Nat) : Int) ((k : Nat) : Int) (evs ++ upE 0 ((u : Nat) : Int) (pairF n) ++ upE 0 ((k : Nat) : Int) (pairE false ((u : Nat) : Int))) _ _ hT hs (by simp only [List.length_append]; omega)) ?_
    rintro _ w ⟨v7, r8, rfl, ht9, hs⟩
    have hT := ht9
    refine ⟨_, rfl, fun a hk => ?_⟩
    refine c_end (x_t ?_)
    have hL := okL.cons (hs.mi 2 rfl) (okL.cons (hs.ri 0 rfl) okL.nil)
    refine d_begin _ 20 (by kernel_rfl) rfl hs hL fun w hs hL => ?_
    refine d_join (n2 := 3) 131071 (fun a w => Kn [] 71 [(62, vec (mq ((pt s v u) - (pt s v k)))), (52, vec (mq (wr (pt s v) u k))), (51, .pointer (some ((adq (some ⟨b3, 0, none⟩)).add (u * 4)))), (61, vec (mq (pt s v k))), (60, .pointer (some ((adq (some ⟨b2, 0, none⟩)).add (k * 4)))), (59, .int .i64 ((k : Nat) : Int)), (58, .slice (some ⟨b2, 0, none⟩) n n), (57, vec (mq (pt s v u))), (56, .pointer (some ((adq (some ⟨b2, 0, none⟩)).add (u * 4)))), (55, .int .i64 ((u : Nat) : Int)), (54, .slice (some ⟨b2, 0, none⟩) n n), (53, fieldV s), (50, .int .i64 ((u : Nat) : Int)), (49, .slice (some ⟨b3, 0, none⟩) n n), (48, fieldV s), (47, .int .i64 ((u : Nat) : Int)), (46, .slice (some ⟨b3, 0, none⟩) n n), (45, v7), (44, .int .i64 ((k : Nat) : Int)), (43, .int .i64 ((u : Nat) : Int)), (42, tval t), (41, .bool true), (40, .int .i64 ((u : Nat) : Int)), (39, .int .i64 ((k : Nat) : Int)), (12, .int .i64 ((k : Nat) : Int)), (38, .int .i64 ((k : Nat) : Int)), (37, .bool true), (36, .int .i64 ((k : Nat) : Int)), (35, .int .i64 ((n : Nat) : Int)), (34, .slice (some ⟨b2, 0, none⟩) n n), (32, vec (rone s)), (31, .pointer (some ⟨b1, 6, none⟩)), (30, .int .i64 ((u : Nat) : Int)), (29, .slice (some ⟨b3, 0, none⟩) n n), (11, .int .i64 ((u : Nat) : Int)), (28, .int .i64 ((u : Nat) : Int)), (27, .bool true), (26, .int .i64 ((u : Nat) : Int)), (25, .int .i64 ((n : Nat) : Int)), (10, .slice (some ⟨b3, 0, none⟩) n n), (9, .slice (some ⟨b2, 0, none⟩) n n), (7, .int .i64 0), (6, .slice none 0 0), (4, .pointer (some ⟨b1, 0, none⟩)), (0, tval t)] a ∧ Sat F0 W (r8 :: (blk b3 (en vq (fun i => Wi (pt s v) n u k i) n) 56) :: (blk b1 (fieldL s) 120) :: M) ((lst 4 (.slice (some ⟨b2, 0, none⟩) n n) n (en vq (fun i => mq (pt s v i)) n)) :: R) w ∧ okL [blk b1 (fieldL s) 120, lst 4 (.slice (some ⟨b2, 0, none⟩) n n) n (en vq (fun i => mq (pt s v i)) n)] w) ?_ ?_
    ·
     intro hJ131071
     refine d_join (n2 := 4) 131007 (fun a w => Kn [] 71 [(62, vec (mq ((pt s v u) - (pt s v k)))), (51, .pointer (some ((adq (some ⟨b3, 0, none⟩)).add (u * 4)))), (61, vec (mq (pt s v k))), (60, .pointer (some ((adq (some ⟨b2, 0, none⟩)).add (k * 4)))), (59, .int .i64 ((k : Nat) : Int)), (58, .slice (some ⟨b2, 0, none⟩) n n), (57, vec (mq (pt s v u))), (56, .pointer (some ((adq (some ⟨b2, 0, none⟩)).add (u * 4)))), (55, .int .i64 ((u : Nat) : Int)), (54, .slice (some ⟨b2, 0, none⟩) n n), (53, fieldV s), (50, .int .i64 ((u : Nat) : Int)), (49, .slice (some ⟨b3, 0, none⟩) n n), (48, fieldV s), (47, .int .i64 ((u : Nat) : Int)), (46, .slice (some ⟨b3, 0, none⟩) n n), (45, v7), (44, .int .i64 ((k : Nat) : Int)), (43, .int .i64 ((u : Nat) : Int)), (42, tval t), (41, .bool true), (40, .int .i64 ((u : Nat) : Int)), (39, .int .i64 ((k : Nat) : Int)), (12, .int .i64 ((k : Nat) : Int)), (38, .int .i64 ((k : Nat) : Int)), (37, .bool true), (36, .int .i64 ((k : Nat) : Int)), (35, .int .i64 ((n : Nat) : Int)), (34, .slice (some ⟨b2, 0, none⟩) n n), (32, vec (rone s)), (31, .pointer (some ⟨b1, 6, none⟩)), (30, .int .i64 ((u : Nat) : Int)), (29, .slice (some ⟨b3, 0, none⟩) n n), (11, .int .i64 ((u : Nat) : Int)), (28, .int .i64 ((u : Nat) : Int)), (27, .bool true), (26, .int .i64 ((u : Nat) : Int)), (25, .int .i64 ((n : Nat) : Int)), (10, .slice (some ⟨b3, 0, none⟩) n n), (9, .slice (some ⟨b2, 0, none⟩) n n), (7, .int .i64 0), (6, .slice none 0 0), (4, .pointer (some ⟨b1, 0, none⟩)), (0, tval t)] a ∧ Sat F0 W (r8 :: (blk b3 (en vq (fun i => Wi (pt s v) n u k i) n) 56) :: (blk b1 (fieldL s) 120) :: M) ((lst 4 (.slice (some ⟨b2, 0, none⟩) n n) n (en vq (fun i => mq (pt s v i)) n)) :: R) w ∧ okL [blk b1 (fieldL s) 120, lst 4 (.slice (some ⟨b2, 0, none⟩) n n) n (en vq (fun i => mq (pt s v i)) n)] w) ?_ ?_
     ·
      intro hJ131007
      refine d_w 0 1 hk hL rfl (fun w hL => w_mv rfl) fun a hk => ?_
      refine d_w 1 3 hk hL rfl (fun w hL => w_mv rfl) fun a hk => ?_
      refine d_w 2 7 hk hL rfl (fun w hL => w_ldA rfl ty120 (.blk (n := 14) (hL.at 0 rfl) rfl) rfl) fun a hk => ?_
      refine d_w 3 15 hk hL rfl (fun w hL => w_mv rfl) fun a hk => ?_
      refine d_w 4 31 hk hL rfl (fun w hL => w_mv rfl) fun a hk => ?_
      refine d_w 7 159 hk hL rfl (fun w hL => w_ldA rfl ty120 (.blk (n := 14) (hL.at 0 rfl) rfl) rfl) fun a hk => ?_
      refine d_w 8 415 hk hL rfl (fun w hL => w_mv rfl) fun a hk => ?_
      refine d_w 9 927 hk hL rfl (fun w hL => w_mv rfl) fun a hk => ?_
      refine d_w 10 1951 hk hL rfl (fun w hL => w_iaL (k := u) rfl rfl Tryz.underlying51 ty56 (hL.at 1 rfl) (by omega) (by omega)) fun a hk => ?_
      refine d_w 11 3999 hk hL rfl (fun w hL => w_ldv (z := mq (pt s v u)) rfl ty56 (lstq (k := u) (hL.at 1 rfl) (by omega) (en_chunk vq_len (by omega)))) fun a hk => ?_
      refine d_w 12 8095 hk hL rfl (fun w hL => w_mv rfl) fun a hk => ?_
      refine d_w 13 16287 hk hL rfl (fun w hL => w_mv rfl) fun a hk => ?_
      refine d_w 14 32671 hk hL rfl (fun w hL => w_iaL (k := k) rfl rfl Tryz.underlying51 ty56 (hL.at 1 rfl) (by omega) (by omega)) fun a hk => ?_
      refine d_w 15 65439 hk hL rfl (fun w hL => w_ldv (z := mq (pt s v k)) rfl ty56 (lstq (k := k) (hL.at 1 rfl) (by omega) (en_chunk vq_len (by omega)))) fun a hk => ?_
      refine d_2 5 16 65471 130975 rfl rfl (by kernel_rfl) (fun K hK => ?_) (fun K hK => ?_)
      ·
       refine q_v hk (w_iaL (k := u) rfl rfl Tryz.underlying51 ty56 (blk_lst (hs.mi 1 rfl) (en_len vq_len) (Nat.le_refl _)) (by omega) (by omega)) fun a hk => ?_
       have hL := okL.cons (hs.mi 2 rfl) (okL.cons (hs.ri 0 rfl) okL.nil)
       refine c_end (x_t (hK _ _ hL ?_))
       clear hK K
       refine d_2 6 16 65535 131007 rfl rfl (by kernel_rfl) (fun K hK => ?_) (fun K hK => ?_)
       ·
        refine q_v hk (w_ldv (z := mq (wr (pt s v) u k)) rfl ty56 (vq_eq wi_at (lstq (k := u) (blk_lst (hs.mi 1 rfl) (en_len vq_len) (Nat.le_refl _)) (by omega) (en_chunk vq_len (by omega))))) fun a hk => ?_
        have hL := okL.cons (hs.mi 2 rfl) (okL.cons (hs.ri 0 rfl) okL.nil)
        refine c_end (x_t (hK _ _ hL ?_))
        clear hK K
        refine d_1 16 131071 rfl (by kernel_rfl) fun K hK => ?_
        refine q_call (caps := []) hk rfl rfl Tryz.func143 fo143 rfl rfl (zsub_c (x := (pt s v u)) (y := (pt s v k)) _ rfl rfl) ?_
        rintro _ w ⟨rfl, hb⟩
        have hs := hs.below hb
        refine ⟨_, rfl, fun a hk => ?_⟩
        have hL := okL.cons (hs.mi 2 rfl) (okL.cons (hs.ri 0 rfl) okL.nil)
        refine c_end (x_t (hK _ _ hL ?_))
        clear hK K
        have hL := okL.cons (hs.mi 2 rfl) (okL.cons (hs.ri 0 rfl) okL.nil)
        exact hJ131071 _ _ ⟨hk.k rfl (hk.k rfl (hk.k rfl (hk.k rfl (hk.k rfl (hk.k rfl (hk.k rfl (hk.k rfl (hk.k rfl (hk.k rfl (hk.k rfl (hk.k rfl (hk.k rfl (hk.k rfl (hk.k rfl (hk.k rfl (hk.k rfl (hk.k rfl (hk.k rfl (hk.k rfl (hk.k rfl (hk.k rfl (hk.k rfl (hk.k rfl (hk.k rfl (hk.k rfl (hk.k rfl (hk.k rfl (hk.k rfl (hk.k rfl (hk.k rfl (hk.k rfl (hk.k rfl (hk.k rfl (hk.k rfl (hk.k rfl (hk.k rfl (hk.k rfl (hk.k rfl (hk.k rfl (hk.k rfl (hk.k rfl (hk.k rfl (hk.k rfl (hk.k rfl hk.nil)))))))))))))))))))))))))))))))))))))))))))), hs, hL⟩
       ·
        refine q_call (caps := []) hk rfl rfl Tryz.func143 fo143 rfl rfl (zsub_c (x := (pt s v u)) (y := (pt s v k)) _ rfl rfl) ?_
        rintro _ w ⟨rfl, hb⟩
        have hs := hs.below hb
        refine ⟨_, rfl, fun a hk => ?_⟩
        have hL := okL.cons (hs.mi 2 rfl) (okL.cons (hs.ri 0 rfl) okL.nil)
        refine c_end (x_t (hK _ _ hL ?_))
        clear hK K
        have hL := okL.cons (hs.mi 2 rfl) (okL.cons (hs.ri 0 rfl) okL.nil)
        exact hJ131007 _ _ ⟨hk.k rfl (hk.k rfl (hk.k rfl (hk.k rfl (hk.k rfl (hk.k rfl (hk.k rfl (hk.k rfl (hk.k rfl (hk.k rfl (hk.k rfl (hk.k rfl (hk.k rfl (hk.k rfl (hk.k rfl (hk.k rfl (hk.k rfl (hk.k rfl (hk.k rfl (hk.k rfl (hk.k rfl (hk.k rfl (hk.k rfl (hk.k rfl (hk.k rfl (hk.k rfl (hk.k rfl (hk.k rfl (hk.k rfl (hk.k rfl (hk.k rfl (hk.k rfl (hk.k rfl (hk.k rfl (hk.k rfl (hk.k rfl (hk.k rfl (hk.k rfl (hk.k rfl (hk.k rfl (hk.k rfl (hk.k rfl (hk.k rfl (hk.k rfl hk.nil))))))))))))))))))))))))))))))))))))))))))), hs, hL⟩
      ·
       refine q_call (caps := []) hk rfl rfl Tryz.func143 fo143 rfl rfl (zsub_c (x := (pt s v u)) (y := (pt s v k)) _ rfl rfl) ?_
       rintro _ w ⟨rfl, hb⟩
       have hs := hs.below hb
       refine ⟨_, rfl, fun a hk => ?_⟩
       have hL := okL.cons (hs.mi 2 rfl) (okL.cons (hs.ri 0 rfl) okL.nil)
       refine c_end (x_t (hK _ _ hL ?_))
       clear hK K
       refine d_1 5 131007 rfl (by kernel_rfl) fun K hK => ?_
       refine q_v hk (w_iaL (k := u) rfl rfl Tryz.underlying51 ty56 (blk_lst (hs.mi 1 rfl) (en_len vq_len) (Nat.le_refl _)) (by omega) (by omega)) fun a hk => ?_
       have hL := okL.cons (hs.mi 2 rfl) (okL.cons (hs.ri 0 rfl) okL.nil)
       refine c_end (x_t (hK _ _ hL ?_))
       clear hK K
       have hL := okL.cons (hs.mi 2 rfl) (okL.cons (hs.ri 0 rfl) okL.nil)
       exact hJ131007 _ _ ⟨hk.k rfl (hk.k rfl (hk.k rfl (hk.k rfl (hk.k rfl (hk.k rfl (hk.k rfl (hk.k rfl (hk.k rfl (hk.k rfl (hk.k rfl (hk.k rfl (hk.k rfl (hk.k rfl (hk.k rfl (hk.k rfl (hk.k rfl (hk.k rfl (hk.k rfl (hk.k rfl (hk.k rfl (hk.k rfl (hk.k rfl (hk.k rfl (hk.k rfl (hk.k rfl (hk.k rfl (hk.k rfl (hk.k rfl (hk.k rfl (hk.k rfl (hk.k rfl (hk.k rfl (hk.k rfl (hk.k rfl (hk.k rfl (hk.k rfl (hk.k rfl (hk.k rfl (hk.k rfl (hk.k rfl (hk.k rfl (hk.k rfl (hk.k rfl hk.nil))))))))))))))))))))))))))))))))))))))))))), hs, hL⟩
     ·
      rintro a w ⟨hk, hs, hL⟩
      refine d_1 6 131071 rfl (by kernel_rfl) fun K hK => ?_
      refine q_v hk (w_ldv (z := mq (wr (pt s v) u k)) rfl ty56 (vq_eq wi_at (lstq (k := u) (blk_lst (hs.mi 1 rfl) (en_len vq_len) (Nat.le_refl _)) (by omega) (en_chunk vq_len (by omega))))) fun a hk => ?_
      have hL := okL.cons (hs.mi 2 rfl) (okL.cons (hs.ri 0 rfl) okL.nil)
      refine c_end (x_t (hK _ _ hL ?_))
      clear hK K
      have hL := okL.cons (hs.mi 2 rfl) (okL.cons (hs.ri 0 rfl) okL.nil)
      exact hJ131071 _ _ ⟨hk.k rfl (hk.k rfl (hk.k rfl (hk.k rfl (hk.k rfl (hk.k rfl (hk.k rfl (hk.k rfl (hk.k rfl (hk.k rfl (hk.k rfl (hk.k rfl (hk.k rfl (hk.k rfl (hk.k rfl (hk.k rfl (hk.k rfl (hk.k rfl (hk.k rfl (hk.k rfl (hk.k rfl (hk.k rfl (hk.k rfl (hk.k rfl (hk.k rfl (hk.k rfl (hk.k rfl (hk.k rfl (hk.k rfl (hk.k rfl (hk.k rfl (hk.k rfl (hk.k rfl (hk.k rfl (hk.k rfl (hk.k rfl (hk.k rfl (hk.k rfl (hk.k rfl (hk.k rfl (hk.k rfl (hk.k rfl (hk.k rfl (hk.k rfl (hk.k rfl hk.nil)))))))))))))))))))))))))))))))))))))))))))), hs, hL⟩
    ·
     rintro a w ⟨hk, hs, hL⟩
     refine d_1 17 262143 rfl (by kernel_rfl) fun K hK => ?_
     refine q_call (caps := []) hk rfl rfl Tryz.func120 fo120 rfl rfl (zmul_c (x := (wr (pt s v) u k)) (y := ((pt s v u) - (pt s v k))) _ rfl rfl) ?_
     rintro _ w ⟨rfl, hb⟩
     have hs := hs.below hb
     refine ⟨_, rfl, fun a hk => ?_⟩
     have hL := okL.cons (hs.mi 2 rfl) (okL.cons (hs.ri 0 rfl) okL.nil)
     refine c_end (x_t (hK _ _ hL ?_))
     clear hK K
     refine d_1 18 524287 rfl (by kernel_rfl) fun K hK => ?_
     refine q_v hk (w_iaL (k := u) rfl rfl Tryz.underlying51 ty56 (blk_lst (hs.mi 1 rfl) (en_len vq_len) (Nat.le_refl _)) (by omega) (by omega)) fun a hk => ?_
     have hL := okL.cons (hs.mi 2 rfl) (okL.cons (hs.ri 0 rfl) okL.nil)
     refine c_end (x_t (hK _ _ hL ?_))
     clear hK K
     refine d_1 19 1048575 rfl (by kernel_rfl) fun K hK => ?_
     have hs := hs.up1
     refine q_stoE (c := vq) (xx := (mq ((wr (pt s v) u k) * ((pt s v u) - (pt s v k))))) (k := u) hk hs rfl rfl rfl ty56 rfl vq_len rfl (by omega) rfl fun w hs => ?_
     have hL := okL.cons (hs.mi 2 rfl) (okL.cons (hs.ri 0 rfl) okL.nil)
     refine c_end (x_t (hK _ _ hL ?_))
     clear hK K
     refine d_end (by kernel_rfl) ?_
     refine (x_b (x_t ?_))
     refine wR ?_
     refine q_v hk (w_add rfl rfl (wr64 (by omega) (by omega))) fun a hk => ?_
     refine q_v hk (w_mv rfl) fun a hk => ?_
     refine c_end (x_t ?_)
     have hs := hs.rw0 (congrArg (fun q => blk b3 q 56) (wi_step (x := pt s v) (by omega)))
     rw [pf_ne (by omega)] at hT
     have hs := hs.up1
     have hs := hs.up2
     have hs := hs.up2
     exact ⟨k + 1, ⟨_, (by omega), hT, hk.k rfl (hk.k rfl (hk.k rfl (hk.k rfl (hk.k rfl (hk.k rfl (hk.k rfl (hk.k rfl (hk.k rfl (hk.k rfl (hk.k rfl (hk.k rfl (hk.k rfl (hk.k rfl (hk.k rfl (hk.k rfl (hk.k rfl (hk.k rfl hk.nil))))))))))))))))), hs⟩, by omega⟩
   ·
    refine q_v hk (w_ne rfl rfl (decide_eq_false hc6)) fun a hk => ?_
    refine c_end (x_t ?_)
    refine c_F hk rfl ?_
    refine (wpIn_skip (x_b (x_t ?_)))
    refine wR ?_
    refine q_v hk (w_add rfl rfl (wr64 (by omega) (by omega))) fun a hk => ?_
    refine q_v hk (w_mv rfl) fun a hk => ?_
    refine c_end (x_t ?_)
    have hs := hs.rw0 (congrArg (fun q => blk b3 q 56) (wi_skip (x := pt s v) (by omega)))
    rw [pf_eq (by omega)] at hT
    exact ⟨k + 1, ⟨_, (by omega), hT, hk.k rfl (hk.k rfl (hk.k rfl (hk.k rfl (hk.k rfl (hk.k rfl (hk.k rfl (hk.k rfl (hk.k rfl (hk.k rfl (hk.k rfl (hk.k rfl (hk.k rfl (hk.k rfl (hk.k rfl (hk.k rfl (hk.k rfl (hk.k rfl hk.nil))))))))))))))))), hs⟩, by omega⟩
  ·
   refine q_v hk (w_lt rfl rfl (decide_eq_false hc5)) fun a hk => ?_
   refine c_end (x_t (wS ?_))
   refine c_F hk rfl ?_
   refine (wpIn_exit (x_te (x_te (x_be ?_))))
   refine (x_b (x_t ?_))
   refine wR ?_
   refine q_v hk (w_add rfl rfl (wr64 (by omega) (by omega))) fun a hk => ?_
   refine q_v hk (w_mv rfl) fun a hk => ?_
   refine c_end (x_t ?_)
   have hkn : k = n := by omega
   subst hkn
   have hs := hs.rw0 (congrArg (fun q => blk b3 q 56) (wi_shut (x := pt s v) (u := u)))
   rw [pf_row] at hT
   exact ⟨u + 1, ⟨_, (by omega), hT, hk.k rfl (hk.k rfl (hk.k rfl (hk.k rfl (hk.k rfl (hk.k rfl (hk.k rfl (hk.k rfl hk.nil))))))), hs⟩, by omega⟩
 ·
  refine q_v hk (w_lt rfl rfl (decide_eq_false hc4)) fun a hk => ?_
  refine c_end (x_t (wS ?_))
  refine c_F hk rfl ?_
  refine (wpIn_exit (x_te (x_te (x_be ?_))))
  refine (x_t ?_)
  refine wS (wR ?_)
  refine q_v hk (w_mv rfl) fun a hk => ?_
  refine q_v hk (w_ldA rfl ty120 (.blk (n := 14) (hs.mi 1 rfl) rfl) rfl) fun a hk => ?_
  refine q_v hk (w_mv rfl) fun a hk => ?_
  have hun : u = n := by omega
  rw [hun] at hs hT
  have hs := hs.rw0 (congrArg (fun q => blk b3 q 56) (wdz_end (x := pt s v)))
  have hs := hs.frz (r := lst 4 (.slice (some ⟨b3, 0, none⟩) n n) n (en vq (fun i => mq (wr (pt s v) i n)) n)) (blk_lst (hs.mi 0 rfl) (en_len vq_len) (Nat.le_refl _)) (fun _ h => (Option.some.inj h.2).symm)
  have hs := hs.up1
  have hlu := pairFs_len (n := n) (u := n)
  have hnn : n * n ≤ 1000 * 1000 := Nat.mul_le_mul (by omega) (by omega)
  refine q_call (caps := []) hk rfl rfl Tryz.func144 fo144 rfl rfl (batch_m s n n (some ⟨b3, 0, none⟩) (fun i => wr (pt s v) i n) t (evs ++ upE 0 ((n : Nat) : Int) (pairF n)) _ _ hs hT (HasR.nth 0 rfl) (by omega) (by omega) (by simp only [List.length_append]; omega)) ?_
  rintro _ w ⟨b10, r11, rfl, ht12, hs⟩
  have hT := ht12
  refine ⟨_, rfl, fun a hk => ?_⟩
  refine q_v hk (w_as rfl) fun a hk => ?_
  refine q_v hk (w_as rfl) fun a hk => ?_
  refine c_end (x_t ?_)
  refine (wpIn_ret ?_)
  refine c_ret2 hk rfl rfl rfl ?_
  have hs := hs.up2
  have hs := hs.drop
  have hs := hs.toR (R' := R) (fun r hr => .of (by simp [hr]))
  rw [wE_eq h0] at hT
  exact ⟨_, _, rfl, hT, hs⟩
end Go.Proofs.YtdnkkbmpefhbjaaGreatDoor
namespace Go.Proofs.YtdnkkbmpefhbjaaGreatDoor
set_option linter.all false
open Go Go.RowKit Alg
def lin {s : Bool} (y : Zp s) (k : Nat) : Zp s := if k = 0 then 0 - y else 1
/-- The product of X - x i. -/
def mst {s : Bool} (x : Nat → Zp s) : Nat → Nat → Zp s
  | 0 => fun _ => 1
  | k + 1 => mall (mst x k) (lin (x k)) 2 (k + 1)
theorem mst_zero {s : Bool} {x : Nat → Zp s} : vq (rone s) = en vq (fun i => mq (mst x 0 i)) 1 := by
  show _ = vq (mq (1 : Zp s)) ++ []
  rw [mq_one, List.append_nil]
theorem lin_two {s : Bool} {y : Zp s} : vq (mq (0 - y)) ++ vq (rone s) = en vq (fun i => mq (lin y i)) 2 := by
  show _ = vq (mq (lin y 0)) ++ (vq (mq (lin y 1)) ++ [])
  show _ = vq (mq (0 - y)) ++ (vq (mq (1 : Zp s)) ++ [])
  rw [mq_one, List.append_nil]
/-- Weights for the value at zero. -/
def zw {s : Bool} (x : Nat → Zp s) (n i : Nat) : Zp s := wgt x n i * Hn (mst x n) (n + 1) (x i) n
def zwf {s : Bool} (x : Nat → Zp s) (n k i : Nat) : Nat := if i < k then mq (zw x n i) else mq (wgt x n i)
section
variable {s : Bool} {x : Nat → Zp s} {n k : Nat}
theorem zwf_zero : en vq (fun i => mq (wgt x n i)) n = en vq (zwf x n 0) n := en_congr fun i _ => by unfold zwf; rw [if_neg (Nat.not_lt_zero i)]
theorem zwf_at : zwf x n k k = mq (wgt x n k) := if_neg (Nat.lt_irrefl k)
theorem zwf_step : en vq (fun i => if i = k then mq (wgt x n k * Hn (mst x n) (n + 1) (x k) n) else zwf x n k i) n = en vq (zwf x n (k + 1)) n := en_congr fun i _ => by
  unfold zwf
  by_cases h : i = k
  · subst h; rw [if_pos rfl, if_pos (Nat.lt_succ_self _)]; rfl
  · rw [if_neg h]
    by_cases l : i < k
    · rw [if_pos l, if_pos (by omega)]
    · rw [if_neg l, if_neg (by omega)]
theorem zwf_end : en vq (zwf x n n) n = en vq (fun i => mq (zw x n i)) n := en_congr fun i hi => by unfold zwf; rw [if_pos hi]
end
/-- A sum of products. -/
def dot {s : Bool} (x y : Nat → Zp s) : Nat → Zp s
  | 0 => 0
  | k + 1 => dot x y k + x k * y k
theorem coef_next {E : List Ev} {k : Nat} : E ++ upE 0 ((k : Nat) : Int) coefE ++ [(2, ((k : Nat) : Int), 0)] = E ++ upE 0 ((k + 1 : Nat) : Int) coefE := by
  have e := upE_succ (F := coefE) (fr := 0) (x := (k : Int)) (by omega)
  rw [List.append_assoc, show [((2 : Int), ((k : Nat) : Int), (0 : Int))] = coefE (k : Int) from rfl, e]
  rfl
theorem master_m {F0 : Nat → Prop} {W : World} {M R : List Res} (s : Bool) (n lc : Nat) (la : Option Addr) (x : Nat → Zp s) (w0 : World) (hs : Sat F0 W M ((lst 4 (.slice la n lc) n (en vq (fun i => mq (x i)) n)) :: R) w0) (hn : n ≤ 1000) : Calls Tryz.prog 118 [fieldV s, .slice la n lc].toArray w0 fun e w => ∃ b, e = .returned (.slice (some ⟨b, 0, none⟩) (n + 1) (n + 1)) ∧ Sat F0 W (blk b (en vq (fun i => mq (mst x n i)) (n + 1)) 56 :: M) R w := by
 refine c_enter (args := [fieldV s, .slice la n lc]) Tryz.func118 rfl rfl rfl fun a hk => ?_
 refine wS (wR ?_)
 refine q_box (vs := fieldL s) hk hs rfl rfl rfl rfl fun b1 w a hk hs => ?_
 refine q_v hk (w_as rfl) fun a hk => ?_
 refine c_end (x_t (wS (wR ?_)))
 refine q_v hk (w_fa rfl fq120_3 ty56) fun a hk => ?_
 refine q_v hk (w_ldv (z := rone s) rfl ty56 (.blk (n := 4) (hs.mi 0 rfl) rfl)) fun a hk => ?_
 refine q_bsl (els := [.tmp 9]) (cs := [.int .u64 ((dg 0 (rone s) : Nat) : Int), .int .u64 ((dg 1 (rone s) : Nat) : Int), .int .u64 ((dg 2 (rone s) : Nat) : Int), .int .u64 ((dg 3 (rone s) : Nat) : Int)]) hk hs rfl Tryz.underlying51 ty56 zr56 rfl rfl rfl rfl rfl rfl rfl fun b2 w a hk hs => ?_
 refine q_v hk (w_as rfl) fun a hk => ?_
 refine c_end (x_t (wS (wS (wR ?_))))
 refine q_v hk (w_mv rfl) fun a hk => ?_
 refine q_v hk (w_len rfl Tryz.underlying51) fun a hk => ?_
 refine q_v hk (w_mv rfl) fun a hk => ?_
 refine c_end (x_t ?_)
 refine wpIn_block ?_
 have hs := hs.rw0 (congrArg (fun q => blk b2 q 56) (mst_zero (x := x)))
 refine c_loop (α := Nat) (fun k a w => ∃ (ob : Nat), k ≤ n ∧ Kn [] 28 [(13, .int .i64 ((k : Nat) : Int)), (5, .slice (some ⟨ob, 0, none⟩) (k + 1) (k + 1)), (12, .int .i64 ((n : Nat) : Int)), (11, .slice la n lc), (4, .slice none 0 0), (2, .pointer (some ⟨b1, 0, none⟩))] a ∧ Sat F0 W ((blk ob (en vq (fun i => mq (mst x k i)) (k + 1)) 56) :: (blk b1 (fieldL s) 120) :: M) ((lst 4 (.slice la n lc) n (en vq (fun i => mq (x i)) n)) :: R) w) (fun k => n - k) 0 ?_ ?_
 · exact ⟨_, (by omega), hk.k rfl (hk.k rfl (hk.k rfl (hk.k rfl (hk.k rfl (hk.k rfl hk.nil))))), hs⟩
 rintro k a w ⟨ob, hf0, hk, hs⟩
 refine wS (wR ?_)
 rcases Classical.em (((k : Nat) : Int) < ((n : Nat) : Int)) with hc3 | hc3
 ·
  refine q_v hk (w_lt rfl rfl (decide_eq_true hc3)) fun a hk => ?_
  refine c_end (x_t (wS ?_))
  refine c_T hk rfl ?_
  refine (wpIn_skip (x_t ?_))
  refine wS ?_
  refine wpIn_block ?_
  refine wS (wR ?_)
  refine q_v hk (w_iaL (k := k) rfl rfl Tryz.underlying51 ty56 (hs.ri 0 rfl) (by omega) (by omega)) fun a hk => ?_
  refine q_v hk (w_ldv (z := mq (x k)) rfl ty56 (lstq (k := k) (hs.ri 0 rfl) (by omega) (en_chunk vq_len (by omega)))) fun a hk => ?_
  refine q_alc (vs := [.int .u64 0, .int .u64 0, .int .u64 0, .int .u64 0]) hk hs zr56 rfl rfl rfl fun b4 w a hk hs => ?_
  refine q_sto (o := 0) (cs := [.int .u64 ((dg 0 (mq (x k)) : Nat) : Int), .int .u64 ((dg 1 (mq (x k)) : Nat) : Int), .int .u64 ((dg 2 (mq (x k)) : Nat) : Int), .int .u64 ((dg 3 (mq (x k)) : Nat) : Int)]) (vs' := [.int .u64 ((dg 0 (mq (x k)) : Nat) : Int), .int .u64 ((dg 1 (mq (x k)) : Nat) : Int), .int .u64 ((dg 2 (mq (x k)) : Nat) : Int), .int .u64 ((dg 3 (mq (x k)) : Nat) : Int)]) hk hs rfl rfl rfl ty56 rfl rfl rfl rfl rfl rfl fun w hs => ?_
  refine c_end (x_t ?_)
  have hL := okL.cons (hs.mi 2 rfl) (okL.cons (hs.mi 0 rfl) okL.nil)
  refine d_begin _ 10 (by kernel_rfl) rfl hs hL fun w hs hL => ?_
  refine d_w 0 1 hk hL rfl (fun w hL => w_ldA rfl ty120 (.blk (n := 14) (hL.at 0 rfl) rfl) rfl) fun a hk => ?_
  refine d_w 1 3 hk hL rfl (fun w hL => w_mv rfl) fun a hk => ?_
  refine d_w 2 7 hk hL rfl (fun w hL => w_ldA rfl ty120 (.blk (n := 14) (hL.at 0 rfl) rfl) rfl) fun a hk => ?_
  refine d_w 3 15 hk hL rfl (fun w hL => w_ldv (z := mq (x k)) rfl ty56 (.blk (n := 4) (hL.at 1 rfl) rfl)) fun a hk => ?_
  refine d_w 5 47 hk hL rfl (fun w hL => w_fa rfl fq120_3 ty56) fun a hk => ?_
  refine d_w 6 111 hk hL rfl (fun w hL => w_ldv (z := rone s) rfl ty56 (.blk (n := 4) (hL.at 0 rfl) rfl)) fun a hk => ?_
  refine d_1 4 127 rfl (by kernel_rfl) fun K hK => ?_
  refine q_call (caps := []) hk rfl rfl Tryz.func146 fo146 rfl rfl (zneg_c (x := (x k)) _ rfl) ?_
  rintro _ w ⟨rfl, hb⟩
  have hs := hs.below hb
  refine ⟨_, rfl, fun a hk => ?_⟩
  have hL := okL.cons (hs.mi 2 rfl) (okL.cons (hs.mi 0 rfl) okL.nil)
  refine c_end (x_t (hK _ _ hL ?_))
  clear hK K
  refine d_1 7 255 rfl (by kernel_rfl) fun K hK => ?_
  refine q_bsl (els := [.tmp 21, .tmp 23]) (cs := [.int .u64 ((dg 0 (mq (0 - (x k))) : Nat) : Int), .int .u64 ((dg 1 (mq (0 - (x k))) : Nat) : Int), .int .u64 ((dg 2 (mq (0 - (x k))) : Nat) : Int), .int .u64 ((dg 3 (mq (0 - (x k))) : Nat) : Int), .int .u64 ((dg 0 (rone s) : Nat) : Int), .int .u64 ((dg 1 (rone s) : Nat) : Int), .int .u64 ((dg 2 (rone s) : Nat) : Int), .int .u64 ((dg 3 (rone s) : Nat) : Int)]) hk hs rfl Tryz.underlying51 ty56 zr56 rfl rfl rfl rfl rfl rfl rfl fun b1_7 w a hk hs => ?_
  have hL := okL.cons (hs.mi 3 rfl) (okL.cons (hs.mi 1 rfl) okL.nil)
  refine c_end (x_t (hK _ _ hL ?_))
  clear hK K
  refine d_1 8 511 rfl (by kernel_rfl) fun K hK => ?_
  have hs := hs.rw0 (congrArg (fun q => blk b1_7 q 56) (lin_two (y := x k)))
  have hs := hs.frz (r := lst 4 (.slice (some ⟨b1_7, 0, none⟩) 2 2) 2 (en vq (fun i => mq (lin (x k) i)) 2)) (blk_lst (hs.mi 0 rfl) (en_len vq_len) (Nat.le_refl _)) (fun _ h => (Option.some.inj h.2).symm)
  have hs := hs.up1
  have hs := hs.frz (r := lst 4 (.slice (some ⟨ob, 0, none⟩) (k + 1) (k + 1)) (k + 1) (en vq (fun i => mq (mst x k i)) (k + 1))) (blk_lst (hs.mi 0 rfl) (en_len vq_len) (Nat.le_refl _)) (fun _ h => (Option.some.inj h.2).symm)
  refine q_call (caps := []) hk rfl rfl Tryz.func145 fo145 rfl rfl (mul_m s (k + 1) (k + 1) 2 2 (some ⟨ob, 0, none⟩) (some ⟨b1_7, 0, none⟩) (mst x k) (lin (x k)) _ ((hs.hasR (HasR.nth 1 rfl)).hasR (HasR.nth 0 rfl).cons) (by omega) (by omega) (by omega) (by omega)) ?_
  rintro _ w ⟨b1_8, rfl, hs⟩
  have hs := hs.subR (R' := ((lst 4 (.slice la n lc) n (en vq (fun i => mq (x i)) n)) :: R)) (by simp +contextual)
  have hs : Sat F0 W ((blk b1_8 (en vq (fun i => mq (mst x (k + 1) i)) (k + 1 + 1)) 56) :: (blk b4 [.int .u64 ((dg 0 (mq (x k)) : Nat) : Int), .int .u64 ((dg 1 (mq (x k)) : Nat) : Int), .int .u64 ((dg 2 (mq (x k)) : Nat) : Int), .int .u64 ((dg 3 (mq (x k)) : Nat) : Int)] 56) :: (blk b1 (fieldL s) 120) :: M) ((lst 4 (.slice la n lc) n (en vq (fun i => mq (x i)) n)) :: R) w := hs
  refine ⟨_, rfl, fun a hk => ?_⟩
  have hL := okL.cons (hs.mi 2 rfl) (okL.cons (hs.mi 1 rfl) okL.nil)
  refine c_end (x_t (hK _ _ hL ?_))
  clear hK K
  refine d_w 9 1023 hk hL rfl (fun w hL => w_as rfl) fun a hk => ?_
  refine d_end (by kernel_rfl) ?_
  refine (x_b (x_t ?_))
  refine wR ?_
  refine q_v hk (w_add rfl rfl (wr64 (by omega) (by omega))) fun a hk => ?_
  refine q_v hk (w_mv rfl) fun a hk => ?_
  refine c_end (x_t ?_)
  have hs := hs.up1
  have hs := hs.drop
  exact ⟨k + 1, ⟨_, (by omega), hk.k rfl (hk.k rfl (hk.k rfl (hk.k rfl (hk.k rfl (hk.k rfl hk.nil))))), hs⟩, by omega⟩
 ·
  refine q_v hk (w_lt rfl rfl (decide_eq_false hc3)) fun a hk => ?_
  refine c_end (x_t (wS ?_))
  refine c_F hk rfl ?_
  refine (wpIn_exit (x_te (x_te (x_be ?_))))
  refine (x_t ?_)
  refine wS (wR ?_)
  refine q_v hk (w_mv rfl) fun a hk => ?_
  refine q_v hk (w_as rfl) fun a hk => ?_
  refine c_end (x_t ?_)
  refine (wpIn_ret ?_)
  refine c_ret1 hk rfl rfl ?_
  have hs := hs.up1
  have hs := hs.drop
  have hs := hs.toR (R' := R) (fun r hr => .of (by simp [hr]))
  have hkn : k = n := by omega
  rw [hkn] at hs ⊢
  exact ⟨_, rfl, hs⟩
theorem zero_m {F0 : Nat → Prop} {W : World} {M R : List Res} (s : Bool) (n lc : Nat) (la : Option Addr) (v : Nat → Nat) (t : Option Nat) (evs : List Ev) (r : Res) (w0 : World) (hs : Sat F0 W (r :: M) R w0) (hT : TapeIs t evs r) (hL : HasR (lst 1 (.slice la n lc) n (en ic (fun i => ((v i : Nat) : Int)) n)) R) (h0 : 0 < n) (hn : n ≤ 255) (hv : ∀ i, i < n → 1 ≤ v i ∧ v i ≤ 255) (hd : ∀ i k, i < k → k < n → v i ≠ v k) (he : evs.length ≤ 10000000) : Calls Tryz.prog 79 [tval t, fieldV s, .slice la n lc].toArray w0 fun e w => ∃ b r, e = .returned (.tuple #[.slice (some ⟨b, 0, none⟩) n n, .int .i64 0]) ∧ TapeIs t (evs ++ weightsE (n : Int) ++ upE 0 (n : Int) coefE) r ∧ Sat F0 W (r :: blk b (en vq (fun i => mq (zw (pt s v) n i)) n) 56 :: M) R w := by
 refine c_enter (args := [tval t, fieldV s, .slice la n lc]) Tryz.func79 rfl rfl rfl fun a hk => ?_
 refine wS (wR ?_)
 refine q_box (vs := fieldL s) hk hs rfl rfl rfl rfl fun b1 w a hk hs => ?_
 refine q_v hk (w_as rfl) fun a hk => ?_
 refine q_v hk (w_as rfl) fun a hk => ?_
 refine c_end (x_t (wS (wR ?_)))
 refine q_v hk (w_mv rfl) fun a hk => ?_
 refine q_v hk (w_ldA rfl ty120 (.blk (n := 14) (hs.mi 0 rfl) rfl) rfl) fun a hk => ?_
 refine q_v hk (w_mv rfl) fun a hk => ?_
 have hs := hs.up1
 refine q_call (caps := []) hk rfl rfl Tryz.func116 fo116 rfl rfl (weights_m0 s n lc la v t evs _ _ hs hT (hL) h0 hn hv hd (by omega)) ?_
 rintro _ w ⟨b2, r3, rfl, ht4, hs⟩
 have hT := ht4
 refine ⟨_, rfl, fun a hk => ?_⟩
 refine q_v hk (w_mv rfl) fun a hk => ?_
 refine q_v hk (w_ext rfl rfl) fun a hk => ?_
 refine q_v hk (w_ext rfl rfl) fun a hk => ?_
 refine q_v hk (w_as rfl) fun a hk => ?_
 refine q_v hk (w_as rfl) fun a hk => ?_
 refine c_end (x_t (wS (wS (wR ?_))))
 refine q_v hk (w_mv rfl) fun a hk => ?_
 refine q_v hk (w_ne rfl rfl (decide_eq_false (by decide))) fun a hk => ?_
 refine c_end (x_t ?_)
 refine c_F hk rfl ?_
 refine (wpIn_skip (x_t ?_))
 refine wS (wR ?_)
 refine q_v hk (w_ldA rfl ty120 (.blk (n := 14) (hs.mi 2 rfl) rfl) rfl) fun a hk => ?_
 refine q_v hk (w_mv rfl) fun a hk => ?_
 refine q_call (caps := []) hk rfl rfl Tryz.func117 fo117 rfl rfl (points_m s n lc la v _ (hs.hasR (hL)) (by omega) hv) ?_
 rintro _ w ⟨b5, rfl, hs⟩
 have hs := hs.subR (R' := R) (by simp +contextual)
 refine ⟨_, rfl, fun a hk => ?_⟩
 refine q_v hk (w_as rfl) fun a hk => ?_
 have hs := hs.frz (r := lst 4 (.slice (some ⟨b5, 0, none⟩) n n) n (en vq (fun i => mq (pt s v i)) n)) (blk_lst (hs.mi 0 rfl) (en_len vq_len) (Nat.le_refl _)) (fun _ h => (Option.some.inj h.2).symm)
 refine c_end (x_t (wS (wR ?_)))
 refine q_v hk (w_ldA rfl ty120 (.blk (n := 14) (hs.mi 2 rfl) rfl) rfl) fun a hk => ?_
 refine q_v hk (w_mv rfl) fun a hk => ?_
 refine q_call (caps := []) hk rfl rfl Tryz.func118 fo118 rfl rfl (master_m s n n (some ⟨b5, 0, none⟩) (pt s v) _ (hs.hasR (HasR.nth 0 rfl)) (by omega)) ?_
 rintro _ w ⟨b6, rfl, hs⟩
 have hs := hs.subR (R' := ((lst 4 (.slice (some ⟨b5, 0, none⟩) n n) n (en vq (fun i => mq (pt s v i)) n)) :: R)) (by simp +contextual)
 refine ⟨_, rfl, fun a hk => ?_⟩
 refine q_v hk (w_as rfl) fun a hk => ?_
 have hs := hs.frz (r := lst 4 (.slice (some ⟨b6, 0, none⟩) (n + 1) (n + 1)) (n + 1) (en vq (fun i => mq (mst (pt s v) n i)) (n + 1))) (blk_lst (hs.mi 0 rfl) (en_len vq_len) (Nat.le_refl _)) (fun _ h => (Option.some.inj h.2).symm)
 refine c_end (x_t (wS (wS (wR ?_))))
 refine q_v hk (w_mv rfl) fun a hk => ?_
 refine q_v hk (w_len rfl Tryz.underlying51) fun a hk => ?_
 refine q_v hk (w_mv rfl) fun a hk => ?_
 refine c_end (x_t ?_)
 refine wpIn_block ?_
 have hs := hs.up1
 have hs := hs.rw0 (congrArg (fun q => blk b2 q 56) (zwf_zero (x := pt s v)))
 refine c_loop (α := Nat) (fun k a w => ∃ (r : Res), k ≤ n ∧ TapeIs t (evs ++ weightsE (n : Int) ++ upE 0 ((k : Nat) : Int) coefE) r ∧ Kn [] 63 [(33, .int .i64 ((k : Nat) : Int)), (32, .int .i64 ((n : Nat) : Int)), (11, .slice (some ⟨b6, 0, none⟩) (n + 1) (n + 1)), (10, .slice (some ⟨b5, 0, none⟩) n n), (8, .slice (some ⟨b2, 0, none⟩) n n), (7, .int .i64 0), (6, .slice none 0 0), (4, .pointer (some ⟨b1, 0, none⟩)), (0, tval t)] a ∧ Sat F0 W ((blk b2 (en vq (fun i => zwf (pt s v) n k i) n) 56) :: r :: (blk b1 (fieldL s) 120) :: M) ((lst 4 (.slice (some ⟨b6, 0, none⟩) (n + 1) (n + 1)) (n + 1) (en vq (fun i => mq (mst (pt s v) n i)) (n + 1))) :: (lst 4 (.slice (some ⟨b5, 0, none⟩) n n) n (en vq (fun i => mq (pt s v i)) n)) :: R) w) (fun k => n - k) 0 ?_ ?_
 · exact ⟨_, (by omega), (by rw [upE_nil (by omega), List.append_nil]; exact hT), hk.k rfl (hk.k rfl (hk.k rfl (hk.k rfl (hk.k rfl (hk.k rfl (hk.k rfl (hk.k rfl (hk.k rfl hk.nil)))))))), hs⟩
 rintro k a w ⟨r, hf0, hf1, hk, hs⟩
 have hT := hf1
 have hlw := weights_len (n := (n : Int)) (by omega)
 have hlk := coefU_len k
 refine wS (wR ?_)
 rcases Classical.em (((k : Nat) : Int) < ((n : Nat) : Int)) with hc7 | hc7
 ·
  refine q_v hk (w_lt rfl rfl (decide_eq_true hc7)) fun a hk => ?_
  refine c_end (x_t (wS ?_))
  refine c_T hk rfl ?_
  refine (wpIn_skip (x_t ?_))
  refine wS ?_
  refine wpIn_block ?_
  refine wS (wR ?_)
  refine q_v hk (w_mv rfl) fun a hk => ?_
  refine q_v hk (w_as rfl) fun a hk => ?_
  refine c_end (x_t (wS (wR ?_)))
  refine q_v hk (w_mv rfl) fun a hk => ?_
  refine q_v hk (w_mv rfl) fun a hk => ?_
  have hs := hs.up1
  refine q_call (caps := []) hk rfl rfl Tryz.func61 fo61 rfl rfl (note_m t 2 ((k : Nat) : Int) 0 (evs ++ weightsE (n : Int) ++ upE 0 ((k : Nat) : Int) coefE) _ _ hT hs (by simp only [List.length_append]; omega)) ?_
  rintro _ w ⟨v8, r9, rfl, ht10, hs⟩
  have hT := ht10
  refine ⟨_, rfl, fun a hk => ?_⟩
  refine c_end (x_t (wS ?_))
  have hL := okL.cons (hs.mi 2 rfl) (okL.cons (hs.ri 1 rfl) okL.nil)
  refine d_begin _ 13 (by kernel_rfl) rfl hs hL fun w hs hL => ?_
  refine d_join (n2 := 1) 4095 (fun a w => ∃ (b1_6 : Nat) (b1_10 : Nat), Kn [] 63 [(13, .slice (some ⟨b1_6, 0, none⟩) (n + 1 - 1) (n + 1 - 1)), (14, .pointer (some ⟨b1_10, 0, none⟩)), (48, vec (mq (Hn (mst (pt s v) n) (n + 1) (pt s v k) (n + 1)))), (47, .slice (some ⟨b1_6, 0, none⟩) (n + 1 - 1) (n + 1 - 1)), (39, .tuple #[.slice (some ⟨b1_6, 0, none⟩) (n + 1 - 1) (n + 1 - 1), vec (mq (Hn (mst (pt s v) n) (n + 1) (pt s v k) (n + 1)))]), (46, .tuple #[.slice (some ⟨b1_6, 0, none⟩) (n + 1 - 1) (n + 1 - 1), vec (mq (Hn (mst (pt s v) n) (n + 1) (pt s v k) (n + 1)))]), (45, vec (mq (pt s v k))), (44, .pointer (some ((adq (some ⟨b5, 0, none⟩)).add (k * 4)))), (43, .int .i64 ((k : Nat) : Int)), (42, .slice (some ⟨b5, 0, none⟩) n n), (41, .slice (some ⟨b6, 0, none⟩) (n + 1) (n + 1)), (40, fieldV s), (38, v8), (37, .int .i64 ((k : Nat) : Int)), (36, tval t), (12, .int .i64 ((k : Nat) : Int)), (35, .int .i64 ((k : Nat) : Int)), (34, .bool true), (33, .int .i64 ((k : Nat) : Int)), (32, .int .i64 ((n : Nat) : Int)), (11, .slice (some ⟨b6, 0, none⟩) (n + 1) (n + 1)), (10, .slice (some ⟨b5, 0, none⟩) n n), (8, .slice (some ⟨b2, 0, none⟩) n n), (7, .int .i64 0), (6, .slice none 0 0), (4, .pointer (some ⟨b1, 0, none⟩)), (0, tval t)] a ∧ Sat F0 W ((blk b1_10 [.int .u64 0, .int .u64 0, .int .u64 0, .int .u64 0] 56) :: (blk b1_6 (en vq (fun i => mq (Hn (mst (pt s v) n) (n + 1) (pt s v k) (n + 1 - 1 - i))) (n + 1 - 1)) 56) :: r9 :: (blk b2 (en vq (fun i => zwf (pt s v) n k i) n) 56) :: (blk b1 (fieldL s) 120) :: M) ((lst 4 (.slice (some ⟨b6, 0, none⟩) (n + 1) (n + 1)) (n + 1) (en vq (fun i => mq (mst (pt s v) n i)) (n + 1))) :: (lst 4 (.slice (some ⟨b5, 0, none⟩) n n) n (en vq (fun i => mq (pt s v i)) n)) :: R) w ∧ okL [blk b1 (fieldL s) 120, lst 4 (.slice (some ⟨b5, 0, none⟩) n n) n (en vq (fun i => mq (pt s v i)) n)] w) ?_ ?_
  ·
   intro hJ4095
   refine d_w 0 1 hk hL rfl (fun w hL => w_ldA rfl ty120 (.blk (n := 14) (hL.at 0 rfl) rfl) rfl) fun a hk => ?_
   refine d_w 1 3 hk hL rfl (fun w hL => w_mv rfl) fun a hk => ?_
   refine d_w 2 7 hk hL rfl (fun w hL => w_mv rfl) fun a hk => ?_
   refine d_w 3 15 hk hL rfl (fun w hL => w_mv rfl) fun a hk => ?_
   refine d_w 4 31 hk hL rfl (fun w hL => w_iaL (k := k) rfl rfl Tryz.underlying51 ty56 (hL.at 1 rfl) (by omega) (by omega)) fun a hk => ?_
   refine d_w 5 63 hk hL rfl (fun w hL => w_ldv (z := mq (pt s v k)) rfl ty56 (lstq (k := k) (hL.at 1 rfl) (by omega) (en_chunk vq_len (by omega)))) fun a hk => ?_
   refine d_2 6 10 127 1087 rfl rfl (by kernel_rfl) (fun K hK => ?_) (fun K hK => ?_)
   ·
    have hs := hs.none
    refine q_call (caps := []) hk rfl rfl Tryz.func119 fo119 rfl rfl (quot_m s (n + 1) (n + 1) (some ⟨b6, 0, none⟩) (mst (pt s v) n) (pt s v k) none [] _ _ hs rfl (HasR.nth 0 rfl) (by omega) (by omega) (by decide)) ?_
    rintro _ w ⟨b1_6, r1_6b, rfl, ht1_6c, hs⟩
    have hs := hs.drop
    refine ⟨_, rfl, fun a hk => ?_⟩
    have hL := okL.cons (hs.mi 3 rfl) (okL.cons (hs.ri 1 rfl) okL.nil)
    refine c_end (x_t (hK _ _ hL ?_))
    clear hK K
    refine d_w 7 255 hk hL rfl (fun w hL => w_mv rfl) fun a hk => ?_
    refine d_w 8 511 hk hL rfl (fun w hL => w_ext rfl rfl) fun a hk => ?_
    refine d_w 9 1023 hk hL rfl (fun w hL => w_ext rfl rfl) fun a hk => ?_
    refine d_1 10 2047 rfl (by kernel_rfl) fun K hK => ?_
    refine q_alc (vs := [.int .u64 0, .int .u64 0, .int .u64 0, .int .u64 0]) hk hs zr56 rfl rfl rfl fun b1_10 w a hk hs => ?_
    have hL := okL.cons (hs.mi 4 rfl) (okL.cons (hs.ri 1 rfl) okL.nil)
    refine c_end (x_t (hK _ _ hL ?_))
    clear hK K
    refine d_w 11 4095 hk hL rfl (fun w hL => w_as rfl) fun a hk => ?_
    have hL := okL.cons (hs.mi 4 rfl) (okL.cons (hs.ri 1 rfl) okL.nil)
    exact hJ4095 _ _ ⟨_, _, hk.k rfl (hk.k rfl (hk.k rfl (hk.k rfl (hk.k rfl (hk.k rfl (hk.k rfl (hk.k rfl (hk.k rfl (hk.k rfl (hk.k rfl (hk.k rfl (hk.k rfl (hk.k rfl (hk.k rfl (hk.k rfl (hk.k rfl (hk.k rfl (hk.k rfl (hk.k rfl (hk.k rfl (hk.k rfl (hk.k rfl (hk.k rfl (hk.k rfl (hk.k rfl (hk.k rfl hk.nil)))))))))))))))))))))))))), hs, hL⟩
   ·
    refine q_alc (vs := [.int .u64 0, .int .u64 0, .int .u64 0, .int .u64 0]) hk hs zr56 rfl rfl rfl fun b1_10 w a hk hs => ?_
    have hL := okL.cons (hs.mi 3 rfl) (okL.cons (hs.ri 1 rfl) okL.nil)
    refine c_end (x_t (hK _ _ hL ?_))
    clear hK K
    refine d_1 6 1151 rfl (by kernel_rfl) fun K hK => ?_
    have hs := hs.none
    refine q_call (caps := []) hk rfl rfl Tryz.func119 fo119 rfl rfl (quot_m s (n + 1) (n + 1) (some ⟨b6, 0, none⟩) (mst (pt s v) n) (pt s v k) none [] _ _ hs rfl (HasR.nth 0 rfl) (by omega) (by omega) (by decide)) ?_
    rintro _ w ⟨b1_6, r1_6b, rfl, ht1_6c, hs⟩
    have hs := hs.drop
    refine ⟨_, rfl, fun a hk => ?_⟩
    have hL := okL.cons (hs.mi 4 rfl) (okL.cons (hs.ri 1 rfl) okL.nil)
    refine c_end (x_t (hK _ _ hL ?_))
    clear hK K
    refine d_w 7 1279 hk hL rfl (fun w hL => w_mv rfl) fun a hk => ?_
    refine d_w 8 1535 hk hL rfl (fun w hL => w_ext rfl rfl) fun a hk => ?_
    refine d_w 9 2047 hk hL rfl (fun w hL => w_ext rfl rfl) fun a hk => ?_
    refine d_w 11 4095 hk hL rfl (fun w hL => w_as rfl) fun a hk => ?_
    have hs := hs.up4
    have hs := hs.up4
    have hs := hs.up4
    have hs := hs.up3
    have hs := hs.up4
    have hL := okL.cons (hs.mi 4 rfl) (okL.cons (hs.ri 1 rfl) okL.nil)
    exact hJ4095 _ _ ⟨_, _, hk.k rfl (hk.k rfl (hk.k rfl (hk.k rfl (hk.k rfl (hk.k rfl (hk.k rfl (hk.k rfl (hk.k rfl (hk.k rfl (hk.k rfl (hk.k rfl (hk.k rfl (hk.k rfl (hk.k rfl (hk.k rfl (hk.k rfl (hk.k rfl (hk.k rfl (hk.k rfl (hk.k rfl (hk.k rfl (hk.k rfl (hk.k rfl (hk.k rfl (hk.k rfl (hk.k rfl hk.nil)))))))))))))))))))))))))), hs, hL⟩
  ·
   rintro a w ⟨b1_6, b1_10, hk, hs, hL⟩
   refine d_1 12 8191 rfl (by kernel_rfl) fun K hK => ?_
   refine q_sto (o := 0) (cs := [.int .u64 ((dg 0 (mq (Hn (mst (pt s v) n) (n + 1) (pt s v k) (n + 1))) : Nat) : Int), .int .u64 ((dg 1 (mq (Hn (mst (pt s v) n) (n + 1) (pt s v k) (n + 1))) : Nat) : Int), .int .u64 ((dg 2 (mq (Hn (mst (pt s v) n) (n + 1) (pt s v k) (n + 1))) : Nat) : Int), .int .u64 ((dg 3 (mq (Hn (mst (pt s v) n) (n + 1) (pt s v k) (n + 1))) : Nat) : Int)]) (vs' := [.int .u64 ((dg 0 (mq (Hn (mst (pt s v) n) (n + 1) (pt s v k) (n + 1))) : Nat) : Int), .int .u64 ((dg 1 (mq (Hn (mst (pt s v) n) (n + 1) (pt s v k) (n + 1))) : Nat) : Int), .int .u64 ((dg 2 (mq (Hn (mst (pt s v) n) (n + 1) (pt s v k) (n + 1))) : Nat) : Int), .int .u64 ((dg 3 (mq (Hn (mst (pt s v) n) (n + 1) (pt s v k) (n + 1))) : Nat) : Int)]) hk hs rfl rfl rfl ty56 rfl rfl rfl rfl rfl rfl fun w hs => ?_
   have hL := okL.cons (hs.mi 4 rfl) (okL.cons (hs.ri 1 rfl) okL.nil)
   refine c_end (x_t (hK _ _ hL ?_))
   clear hK K
   refine d_end (by kernel_rfl) ?_
   refine (x_t ?_)
   have hL := okL.cons (hs.mi 4 rfl) (okL.cons (hs.mi 1 rfl) okL.nil)
   refine d_begin _ 13 (by kernel_rfl) rfl hs hL fun w hs hL => ?_
   refine d_w 0 1 hk hL rfl (fun w hL => w_mv rfl) fun a hk => ?_
   refine d_w 1 3 hk hL rfl (fun w hL => w_mv rfl) fun a hk => ?_
   refine d_w 2 7 hk hL rfl (fun w hL => w_ldA rfl ty120 (.blk (n := 14) (hL.at 0 rfl) rfl) rfl) fun a hk => ?_
   refine d_w 3 15 hk hL rfl (fun w hL => w_mv rfl) fun a hk => ?_
   refine d_w 4 31 hk hL rfl (fun w hL => w_mv rfl) fun a hk => ?_
   refine d_w 7 159 hk hL rfl (fun w hL => w_mv rfl) fun a hk => ?_
   refine d_w 8 415 hk hL rfl (fun w hL => w_iaL (k := 0) rfl rfl Tryz.underlying51 ty56 (blk_lst (hL.at 1 rfl) (en_len vq_len) (Nat.le_refl _)) (by omega) (by omega)) fun a hk => ?_
   refine d_w 9 927 hk hL rfl (fun w hL => w_ldv (z := mq (Hn (mst (pt s v) n) (n + 1) (pt s v k) n)) rfl ty56 (vq_eq rfl (lstq (k := 0) (blk_lst (hL.at 1 rfl) (en_len vq_len) (Nat.le_refl _)) (by omega) (en_chunk vq_len (by omega))))) fun a hk => ?_
   refine d_1 5 959 rfl (by kernel_rfl) fun K hK => ?_
   refine q_v hk (w_iaL (k := k) rfl rfl Tryz.underlying51 ty56 (blk_lst (hs.mi 3 rfl) (en_len vq_len) (Nat.le_refl _)) (by omega) (by omega)) fun a hk => ?_
   have hL := okL.cons (hs.mi 4 rfl) (okL.cons (hs.mi 1 rfl) okL.nil)
   refine c_end (x_t (hK _ _ hL ?_))
   clear hK K
   refine d_1 6 1023 rfl (by kernel_rfl) fun K hK => ?_
   refine q_v hk (w_ldv (z := mq (wgt (pt s v) n k)) rfl ty56 (vq_eq zwf_at (lstq (k := k) (blk_lst (hs.mi 3 rfl) (en_len vq_len) (Nat.le_refl _)) (by omega) (en_chunk vq_len (by omega))))) fun a hk => ?_
   have hL := okL.cons (hs.mi 4 rfl) (okL.cons (hs.mi 1 rfl) okL.nil)
   refine c_end (x_t (hK _ _ hL ?_))
   clear hK K
   refine d_1 10 2047 rfl (by kernel_rfl) fun K hK => ?_
   refine q_call (caps := []) hk rfl rfl Tryz.func120 fo120 rfl rfl (zmul_c (x := (wgt (pt s v) n k)) (y := (Hn (mst (pt s v) n) (n + 1) (pt s v k) n)) _ rfl rfl) ?_
   rintro _ w ⟨rfl, hb⟩
   have hs := hs.below hb
   refine ⟨_, rfl, fun a hk => ?_⟩
   have hL := okL.cons (hs.mi 4 rfl) (okL.cons (hs.mi 1 rfl) okL.nil)
   refine c_end (x_t (hK _ _ hL ?_))
   clear hK K
   refine d_1 11 4095 rfl (by kernel_rfl) fun K hK => ?_
   refine q_v hk (w_iaL (k := k) rfl rfl Tryz.underlying51 ty56 (blk_lst (hs.mi 3 rfl) (en_len vq_len) (Nat.le_refl _)) (by omega) (by omega)) fun a hk => ?_
   have hL := okL.cons (hs.mi 4 rfl) (okL.cons (hs.mi 1 rfl) okL.nil)
   refine c_end (x_t (hK _ _ hL ?_))
   clear hK K
   refine d_1 12 8191 rfl (by kernel_rfl) fun K hK => ?_
   have hs := hs.up3
   refine q_stoE (c := vq) (xx := (mq ((wgt (pt s v) n k) * (Hn (mst (pt s v) n) (n + 1) (pt s v k) n)))) (k := k) hk hs rfl rfl rfl ty56 rfl vq_len rfl (by omega) rfl fun w hs => ?_
   have hL := okL.cons (hs.mi 4 rfl) (okL.cons (hs.mi 2 rfl) okL.nil)
   refine c_end (x_t (hK _ _ hL ?_))
   clear hK K
   refine d_end (by kernel_rfl) ?_
   refine (x_b (x_t ?_))
   refine wR ?_
   refine q_v hk (w_add rfl rfl (wr64 (by omega) (by omega))) fun a hk => ?_
   refine q_v hk (w_mv rfl) fun a hk => ?_
   refine c_end (x_t ?_)
   have hs := hs.rw0 (congrArg (fun q => blk b2 q 56) (zwf_step (x := pt s v)))
   rw [coef_next] at hT
   have hs := hs.up1
   have hs := hs.drop
   have hs := hs.up1
   have hs := hs.drop
   exact ⟨k + 1, ⟨_, (by omega), hT, hk.k rfl (hk.k rfl (hk.k rfl (hk.k rfl (hk.k rfl (hk.k rfl (hk.k rfl (hk.k rfl (hk.k rfl hk.nil)))))))), hs⟩, by omega⟩
 ·
  refine q_v hk (w_lt rfl rfl (decide_eq_false hc7)) fun a hk => ?_
  refine c_end (x_t (wS ?_))
  refine c_F hk rfl ?_
  refine (wpIn_exit (x_te (x_te (x_be ?_))))
  refine (x_t ?_)
  refine wS (wR ?_)
  refine q_v hk (w_mv rfl) fun a hk => ?_
  refine q_v hk (w_as rfl) fun a hk => ?_
  refine q_v hk (w_as rfl) fun a hk => ?_
  refine c_end (x_t ?_)
  refine (wpIn_ret ?_)
  refine c_ret2 hk rfl rfl rfl ?_
  have hs := hs.up2
  have hs := hs.drop
  have hs := hs.up1
  have hs := hs.toR (R' := R) (fun r hr => .of (by simp [hr]))
  have hkn : k = n := by omega
  rw [hkn] at hs hT
  rw [zwf_end] at hs
  exact ⟨_, _, rfl, hT, hs⟩
theorem dot_m {F0 : Nat → Prop} {W : World} {M R : List Res} (s : Bool) (n ca cb : Nat) (aa ab : Option Addr) (px py : Nat → Zp s) (t : Option Nat) (evs : List Ev) (r : Res) (w0 : World) (hs : Sat F0 W (r :: M) ((lst 4 (.slice aa n ca) n (en vq (fun i => mq (px i)) n)) :: (lst 4 (.slice ab n cb) n (en vq (fun i => mq (py i)) n)) :: R) w0) (hT : TapeIs t evs r) (hn : n ≤ 1000) (he : evs.length ≤ 1000000000) : Calls Tryz.prog 83 [tval t, fieldV s, .slice aa n ca, .slice ab n cb].toArray w0 fun e w => ∃ r, e = .returned (.tuple #[vec (mq (dot px py n)), .int .i64 0]) ∧ TapeIs t (evs ++ upE 0 (n : Int) coefE) r ∧ Sat F0 W (r :: M) R w := by
 refine c_enter (args := [tval t, fieldV s, .slice aa n ca, .slice ab n cb]) Tryz.func83 rfl rfl rfl fun a hk => ?_
 refine wS (wR ?_)
 refine q_box (vs := fieldL s) hk hs rfl rfl rfl rfl fun b1 w a hk hs => ?_
 refine q_alc (vs := [.int .u64 0, .int .u64 0, .int .u64 0, .int .u64 0]) hk hs zr56 rfl rfl rfl fun b2 w a hk hs => ?_
 refine q_v hk (w_as rfl) fun a hk => ?_
 refine c_end (x_t (wS (wR ?_)))
 refine q_alc (vs := [.int .u64 0, .int .u64 0, .int .u64 0, .int .u64 0]) hk hs zr56 rfl rfl rfl fun b3 w a hk hs => ?_
 refine c_end (x_t (wS (wS (wR ?_))))
 refine q_v hk (w_mv rfl) fun a hk => ?_
 refine q_v hk (w_len rfl Tryz.underlying51) fun a hk => ?_
 refine q_v hk (w_mv rfl) fun a hk => ?_
 refine q_v hk (w_len rfl Tryz.underlying51) fun a hk => ?_
 refine q_v hk (w_ne rfl rfl (decide_eq_false (by omega))) fun a hk => ?_
 refine c_end (x_t ?_)
 refine c_F hk rfl ?_
 refine (wpIn_skip (x_t ?_))
 refine wS (wS (wR ?_))
 refine q_v hk (w_mv rfl) fun a hk => ?_
 refine q_v hk (w_len rfl Tryz.underlying51) fun a hk => ?_
 refine q_v hk (w_mv rfl) fun a hk => ?_
 refine c_end (x_t ?_)
 refine wpIn_block ?_
 have hs := hs.rw0 (show blk b3 [.int .u64 0, .int .u64 0, .int .u64 0, .int .u64 0] 56 = blk b3 [.int .u64 ((dg 0 0 : Nat) : Int), .int .u64 ((dg 1 0 : Nat) : Int), .int .u64 ((dg 2 0 : Nat) : Int), .int .u64 ((dg 3 0 : Nat) : Int)] 56 from rfl)
 have hs := hs.rw0 (show _ = blk b3 (vq (mq (dot px py 0))) 56 from by show blk b3 (vq 0) 56 = blk b3 (vq (mq 0)) 56; rw [mq_zero])
 refine c_loop (α := Nat) (fun k a w => ∃ (r : Res), k ≤ n ∧ TapeIs t (evs ++ upE 0 ((k : Nat) : Int) coefE) r ∧ Kn [] 41 [(20, .int .i64 ((k : Nat) : Int)), (19, .int .i64 ((n : Nat) : Int)), (10, .pointer (some ⟨b3, 0, none⟩)), (9, .int .i64 0), (8, .pointer (some ⟨b2, 0, none⟩)), (5, .pointer (some ⟨b1, 0, none⟩)), (0, tval t), (2, .slice aa n ca), (3, .slice ab n cb)] a ∧ Sat F0 W ((blk b3 [.int .u64 ((dg 0 (mq (dot px py k)) : Nat) : Int), .int .u64 ((dg 1 (mq (dot px py k)) : Nat) : Int), .int .u64 ((dg 2 (mq (dot px py k)) : Nat) : Int), .int .u64 ((dg 3 (mq (dot px py k)) : Nat) : Int)] 56) :: (blk b2 [.int .u64 0, .int .u64 0, .int .u64 0, .int .u64 0] 56) :: (blk b1 (fieldL s) 120) :: r :: M) ((lst 4 (.slice aa n ca) n (en vq (fun i => mq (px i)) n)) :: (lst 4 (.slice ab n cb) n (en vq (fun i => mq (py i)) n)) :: R) w) (fun k => n - k) 0 ?_ ?_
 · exact ⟨_, (by omega), (by rw [upE_nil (by omega), List.append_nil]; exact hT), hk.k rfl (hk.k rfl (hk.k rfl (hk.k rfl (hk.k rfl (hk.k rfl (hk.k rfl (hk.k rfl (hk.k rfl hk.nil)))))))), hs⟩
 rintro k a w ⟨r, hf0, hf1, hk, hs⟩
 have hT := hf1
 have hlk := coefU_len k
 refine wS (wR ?_)
 rcases Classical.em (((k : Nat) : Int) < ((n : Nat) : Int)) with hc4 | hc4
 ·
  refine q_v hk (w_lt rfl rfl (decide_eq_true hc4)) fun a hk => ?_
  refine c_end (x_t (wS ?_))
  refine c_T hk rfl ?_
  refine (wpIn_skip (x_t ?_))
  refine wS ?_
  refine wpIn_block ?_
  refine wS (wR ?_)
  refine q_v hk (w_mv rfl) fun a hk => ?_
  refine q_v hk (w_as rfl) fun a hk => ?_
  refine c_end (x_t (wS (wR ?_)))
  refine q_v hk (w_mv rfl) fun a hk => ?_
  refine q_v hk (w_mv rfl) fun a hk => ?_
  have hs := hs.up3
  refine q_call (caps := []) hk rfl rfl Tryz.func61 fo61 rfl rfl (note_m t 2 ((k : Nat) : Int) 0 (evs ++ upE 0 ((k : Nat) : Int) coefE) _ _ hT hs (by simp only [List.length_append]; omega)) ?_
  rintro _ w ⟨v5, r6, rfl, ht7, hs⟩
  have hT := ht7
  refine ⟨_, rfl, fun a hk => ?_⟩
  refine c_end (x_t ?_)
  have hL := okL.cons (hs.mi 3 rfl) (okL.cons (hs.ri 0 rfl) (okL.cons (hs.ri 1 rfl) okL.nil))
  refine d_begin _ 14 (by kernel_rfl) rfl hs hL fun w hs hL => ?_
  refine d_join (n2 := 2) 4095 (fun a w => Kn [] 41 [(37, vec (mq ((px k) * (py k)))), (27, vec (mq (dot px py k))), (36, vec (mq (py k))), (35, .pointer (some ((adq ab).add (k * 4)))), (34, .int .i64 ((k : Nat) : Int)), (33, .slice ab n cb), (32, vec (mq (px k))), (31, .pointer (some ((adq aa).add (k * 4)))), (30, .int .i64 ((k : Nat) : Int)), (29, .slice aa n ca), (28, fieldV s), (26, fieldV s), (25, v5), (24, .int .i64 ((k : Nat) : Int)), (23, tval t), (11, .int .i64 ((k : Nat) : Int)), (22, .int .i64 ((k : Nat) : Int)), (21, .bool true), (20, .int .i64 ((k : Nat) : Int)), (19, .int .i64 ((n : Nat) : Int)), (10, .pointer (some ⟨b3, 0, none⟩)), (9, .int .i64 0), (8, .pointer (some ⟨b2, 0, none⟩)), (5, .pointer (some ⟨b1, 0, none⟩)), (0, tval t), (2, .slice aa n ca), (3, .slice ab n cb)] a ∧ Sat F0 W (r6 :: (blk b3 [.int .u64 ((dg 0 (mq (dot px py k)) : Nat) : Int), .int .u64 ((dg 1 (mq (dot px py k)) : Nat) : Int), .int .u64 ((dg 2 (mq (dot px py k)) : Nat) : Int), .int .u64 ((dg 3 (mq (dot px py k)) : Nat) : Int)] 56) :: (blk b2 [.int .u64 0, .int .u64 0, .int .u64 0, .int .u64 0] 56) :: (blk b1 (fieldL s) 120) :: M) ((lst 4 (.slice aa n ca) n (en vq (fun i => mq (px i)) n)) :: (lst 4 (.slice ab n cb) n (en vq (fun i => mq (py i)) n)) :: R) w ∧ okL [blk b1 (fieldL s) 120, lst 4 (.slice aa n ca) n (en vq (fun i => mq (px i)) n), lst 4 (.slice ab n cb) n (en vq (fun i => mq (py i)) n)] w) ?_ ?_
  ·
   intro hJ4095
   refine d_w 0 1 hk hL rfl (fun w hL => w_ldA rfl ty120 (.blk (n := 14) (hL.at 0 rfl) rfl) rfl) fun a hk => ?_
   refine d_w 2 5 hk hL rfl (fun w hL => w_ldA rfl ty120 (.blk (n := 14) (hL.at 0 rfl) rfl) rfl) fun a hk => ?_
   refine d_w 3 13 hk hL rfl (fun w hL => w_mv rfl) fun a hk => ?_
   refine d_w 4 29 hk hL rfl (fun w hL => w_mv rfl) fun a hk => ?_
   refine d_w 5 61 hk hL rfl (fun w hL => w_iaL (k := k) rfl rfl Tryz.underlying51 ty56 (hL.at 1 rfl) (by omega) (by omega)) fun a hk => ?_
   refine d_w 6 125 hk hL rfl (fun w hL => w_ldv (z := mq (px k)) rfl ty56 (lstq (k := k) (hL.at 1 rfl) (by omega) (en_chunk vq_len (by omega)))) fun a hk => ?_
   refine d_w 7 253 hk hL rfl (fun w hL => w_mv rfl) fun a hk => ?_
   refine d_w 8 509 hk hL rfl (fun w hL => w_mv rfl) fun a hk => ?_
   refine d_w 9 1021 hk hL rfl (fun w hL => w_iaL (k := k) rfl rfl Tryz.underlying51 ty56 (hL.at 2 rfl) (by omega) (by omega)) fun a hk => ?_
   refine d_w 10 2045 hk hL rfl (fun w hL => w_ldv (z := mq (py k)) rfl ty56 (lstq (k := k) (hL.at 2 rfl) (by omega) (en_chunk vq_len (by omega)))) fun a hk => ?_
   refine d_2 1 11 2047 4093 rfl rfl (by kernel_rfl) (fun K hK => ?_) (fun K hK => ?_)
   ·
    refine q_v hk (w_ldv (z := mq (dot px py k)) rfl ty56 (.blk (n := 4) (hs.mi 1 rfl) rfl)) fun a hk => ?_
    have hL := okL.cons (hs.mi 3 rfl) (okL.cons (hs.ri 0 rfl) (okL.cons (hs.ri 1 rfl) okL.nil))
    refine c_end (x_t (hK _ _ hL ?_))
    clear hK K
    refine d_1 11 4095 rfl (by kernel_rfl) fun K hK => ?_
    refine q_call (caps := []) hk rfl rfl Tryz.func120 fo120 rfl rfl (zmul_c (x := (px k)) (y := (py k)) _ rfl rfl) ?_
    rintro _ w ⟨rfl, hb⟩
    have hs := hs.below hb
    refine ⟨_, rfl, fun a hk => ?_⟩
    have hL := okL.cons (hs.mi 3 rfl) (okL.cons (hs.ri 0 rfl) (okL.cons (hs.ri 1 rfl) okL.nil))
    refine c_end (x_t (hK _ _ hL ?_))
    clear hK K
    have hL := okL.cons (hs.mi 3 rfl) (okL.cons (hs.ri 0 rfl) (okL.cons (hs.ri 1 rfl) okL.nil))
    exact hJ4095 _ _ ⟨hk.k rfl (hk.k rfl (hk.k rfl (hk.k rfl (hk.k rfl (hk.k rfl (hk.k rfl (hk.k rfl (hk.k rfl (hk.k rfl (hk.k rfl (hk.k rfl (hk.k rfl (hk.k rfl (hk.k rfl (hk.k rfl (hk.k rfl (hk.k rfl (hk.k rfl (hk.k rfl (hk.k rfl (hk.k rfl (hk.k rfl (hk.k rfl (hk.k rfl (hk.k rfl (hk.k rfl hk.nil)))))))))))))))))))))))))), hs, hL⟩
   ·
    refine q_call (caps := []) hk rfl rfl Tryz.func120 fo120 rfl rfl (zmul_c (x := (px k)) (y := (py k)) _ rfl rfl) ?_
    rintro _ w ⟨rfl, hb⟩
    have hs := hs.below hb
    refine ⟨_, rfl, fun a hk => ?_⟩
    have hL := okL.cons (hs.mi 3 rfl) (okL.cons (hs.ri 0 rfl) (okL.cons (hs.ri 1 rfl) okL.nil))
    refine c_end (x_t (hK _ _ hL ?_))
    clear hK K
    refine d_1 1 4095 rfl (by kernel_rfl) fun K hK => ?_
    refine q_v hk (w_ldv (z := mq (dot px py k)) rfl ty56 (.blk (n := 4) (hs.mi 1 rfl) rfl)) fun a hk => ?_
    have hL := okL.cons (hs.mi 3 rfl) (okL.cons (hs.ri 0 rfl) (okL.cons (hs.ri 1 rfl) okL.nil))
    refine c_end (x_t (hK _ _ hL ?_))
    clear hK K
    have hL := okL.cons (hs.mi 3 rfl) (okL.cons (hs.ri 0 rfl) (okL.cons (hs.ri 1 rfl) okL.nil))
    exact hJ4095 _ _ ⟨hk.k rfl (hk.k rfl (hk.k rfl (hk.k rfl (hk.k rfl (hk.k rfl (hk.k rfl (hk.k rfl (hk.k rfl (hk.k rfl (hk.k rfl (hk.k rfl (hk.k rfl (hk.k rfl (hk.k rfl (hk.k rfl (hk.k rfl (hk.k rfl (hk.k rfl (hk.k rfl (hk.k rfl (hk.k rfl (hk.k rfl (hk.k rfl (hk.k rfl (hk.k rfl (hk.k rfl hk.nil)))))))))))))))))))))))))), hs, hL⟩
  ·
   rintro a w ⟨hk, hs, hL⟩
   refine d_1 12 8191 rfl (by kernel_rfl) fun K hK => ?_
   refine q_call (caps := []) hk rfl rfl Tryz.func121 fo121 rfl rfl (zadd_c (x := (dot px py k)) (y := ((px k) * (py k))) _ rfl rfl) ?_
   rintro _ w ⟨rfl, hb⟩
   have hs := hs.below hb
   refine ⟨_, rfl, fun a hk => ?_⟩
   have hL := okL.cons (hs.mi 3 rfl) (okL.cons (hs.ri 0 rfl) (okL.cons (hs.ri 1 rfl) okL.nil))
   refine c_end (x_t (hK _ _ hL ?_))
   clear hK K
   refine d_1 13 16383 rfl (by kernel_rfl) fun K hK => ?_
   have hs := hs.up1
   refine q_sto (o := 0) (cs := [.int .u64 ((dg 0 (mq ((dot px py k) + ((px k) * (py k)))) : Nat) : Int), .int .u64 ((dg 1 (mq ((dot px py k) + ((px k) * (py k)))) : Nat) : Int), .int .u64 ((dg 2 (mq ((dot px py k) + ((px k) * (py k)))) : Nat) : Int), .int .u64 ((dg 3 (mq ((dot px py k) + ((px k) * (py k)))) : Nat) : Int)]) (vs' := [.int .u64 ((dg 0 (mq ((dot px py k) + ((px k) * (py k)))) : Nat) : Int), .int .u64 ((dg 1 (mq ((dot px py k) + ((px k) * (py k)))) : Nat) : Int), .int .u64 ((dg 2 (mq ((dot px py k) + ((px k) * (py k)))) : Nat) : Int), .int .u64 ((dg 3 (mq ((dot px py k) + ((px k) * (py k)))) : Nat) : Int)]) hk hs rfl rfl rfl ty56 rfl rfl rfl rfl rfl rfl fun w hs => ?_
   have hL := okL.cons (hs.mi 3 rfl) (okL.cons (hs.ri 0 rfl) (okL.cons (hs.ri 1 rfl) okL.nil))
   refine c_end (x_t (hK _ _ hL ?_))
   clear hK K
   refine d_end (by kernel_rfl) ?_
   refine (x_b (x_t ?_))
   refine wR ?_
   refine q_v hk (w_add rfl rfl (wr64 (by omega) (by omega))) fun a hk => ?_
   refine q_v hk (w_mv rfl) fun a hk => ?_
   refine c_end (x_t ?_)
   rw [coef_next] at hT
   have hs := hs.up1
   have hs := hs.up3
   have hs := hs.up3
   have hs := hs.up3
   exact ⟨k + 1, ⟨_, (by omega), hT, hk.k rfl (hk.k rfl (hk.k rfl (hk.k rfl (hk.k rfl (hk.k rfl (hk.k rfl (hk.k rfl (hk.k rfl hk.nil)))))))), hs⟩, by omega⟩
 ·
  refine q_v hk (w_lt rfl rfl (decide_eq_false hc4)) fun a hk => ?_
  refine c_end (x_t (wS ?_))
  refine c_F hk rfl ?_
  refine (wpIn_exit (x_te (x_te (x_be ?_))))
  refine (x_t ?_)
  refine wS (wR ?_)
  refine q_v hk (w_ldv (z := mq (dot px py k)) rfl ty56 (.blk (n := 4) (hs.mi 0 rfl) rfl)) fun a hk => ?_
  have hs := hs.up1
  refine q_sto (o := 0) (cs := [.int .u64 ((dg 0 (mq (dot px py k)) : Nat) : Int), .int .u64 ((dg 1 (mq (dot px py k)) : Nat) : Int), .int .u64 ((dg 2 (mq (dot px py k)) : Nat) : Int), .int .u64 ((dg 3 (mq (dot px py k)) : Nat) : Int)]) (vs' := [.int .u64 ((dg 0 (mq (dot px py k)) : Nat) : Int), .int .u64 ((dg 1 (mq (dot px py k)) : Nat) : Int), .int .u64 ((dg 2 (mq (dot px py k)) : Nat) : Int), .int .u64 ((dg 3 (mq (dot px py k)) : Nat) : Int)]) hk hs rfl rfl rfl ty56 rfl rfl rfl rfl rfl rfl fun w hs => ?_
  refine q_v hk (w_as rfl) fun a hk => ?_
  refine c_end (x_t ?_)
  refine (wpIn_ret ?_)
  refine c_retG (vs := [vec (mq (dot px py k)), .int .i64 0]) hk rfl ⟨⟨_, rfl, lv_A ty56 (.blk (n := 4) (hs.mi 0 rfl) rfl) rfl⟩, rfl, trivial⟩ rfl ?_
  have hs := hs.drop
  have hs := hs.drop
  have hs := hs.drop
  have hs := hs.toR (R' := R) (fun r hr => .of (by simp [hr]))
  have hkn : k = n := by omega
  rw [hkn] at hT ⊢
  exact ⟨_, rfl, hT, hs⟩
end Go.Proofs.YtdnkkbmpefhbjaaGreatDoor
namespace Go.Proofs.YtdnkkbmpefhbjaaGreatDoor
set_option linter.all false
open Go Go.RowKit Alg
def ita {s : Bool} (po pq : Nat → Zp s) (c : Zp s) (k i : Nat) : Nat := if i < k then mq (po i + c * pq i) else mq (po i)
section
variable {s : Bool} {po pq : Nat → Zp s} {c : Zp s} {n k : Nat}
theorem ita_zero : en vq (fun i => mq (po i)) n = en vq (ita po pq c 0) n := en_congr fun i _ => by unfold ita; rw [if_neg (Nat.not_lt_zero i)]
theorem ita_at : ita po pq c k k = mq (po k) := if_neg (Nat.lt_irrefl k)
theorem ita_step : en vq (fun i => if i = k then mq (po k + c * pq k) else ita po pq c k i) n = en vq (ita po pq c (k + 1)) n := en_congr fun i _ => by
  unfold ita
  by_cases h : i = k
  · subst h; rw [if_pos rfl, if_pos (Nat.lt_succ_self _)]
  · rw [if_neg h]
    by_cases l : i < k
    · rw [if_pos l, if_pos (by omega)]
    · rw [if_neg l, if_neg (by omega)]
theorem ita_end : en vq (ita po pq c n) n = en vq (fun i => mq (po i + c * pq i)) n := en_congr fun i hi => by unfold ita; rw [if_pos hi]
end
theorem pairT_next {E : List Ev} {i : Int} {k : Nat} : E ++ upE 0 ((k : Nat) : Int) (pairE true i) ++ [(3, i, ((k : Nat) : Int))] = E ++ upE 0 ((k + 1 : Nat) : Int) (pairE true i) := by
  have e := upE_succ (F := pairE true i) (fr := 0) (x := (k : Int)) (by omega)
  have p : pairE true i (k : Int) = [(3, i, (k : Int))] := by unfold pairE; rw [if_neg (by simp)]
  rw [p] at e
  rw [List.append_assoc, e]
  rfl
theorem pairT_len {i : Int} {n : Nat} : (upE 0 (n : Int) (pairE true i)).length ≤ n := by
  have := upE_len (fr := 0) (to := (n : Int)) (F := pairE true i) (B := 1) (fun k => by unfold pairE; split <;> simp)
  omega
def pairT (n : Nat) (i : Int) : List Ev := upE 0 (n : Int) (pairE true i)
theorem pairTs_len {n u : Nat} : (upE 0 (u : Int) (pairT n)).length ≤ u * n := by
  have := upE_len (fr := 0) (to := (u : Int)) (F := pairT n) (B := n) (fun k => pairT_len)
  simpa using this
theorem pt_row {E : List Ev} {n u : Nat} : E ++ upE 0 (u : Int) (pairT n) ++ upE 0 (n : Int) (pairE true ((u : Nat) : Int)) = E ++ upE 0 ((u + 1 : Nat) : Int) (pairT n) := by
  have e := upE_succ (F := pairT n) (fr := 0) (x := (u : Int)) (by omega)
  rw [List.append_assoc, show upE 0 (n : Int) (pairE true (u : Int)) = pairT n (u : Int) from rfl, e]
  rfl
/-- The polynomial after u points. -/
def itp {s : Bool} (x y : Nat → Zp s) (n : Nat) : Nat → Nat → Zp s
  | 0 => fun _ => 0
  | u + 1 => fun k => itp x y n u k + wgt x n u * y u * Hn (mst x n) (n + 1) (x u) (n + 1 - 1 - k)
theorem itp_zero {s : Bool} {x y : Nat → Zp s} {n m : Nat} : en vq (fun _ => 0) m = en vq (fun j => mq (itp x y n 0 j)) m := en_congr fun i _ => by show 0 = mq (0 : Zp s); rw [mq_zero]
theorem iadd_m {F0 : Nat → Prop} {W : World} {M R : List Res} (s : Bool) (n i0 bf bw by' bo bt wb ob qb yc : Nat) (ya : Option Addr) (pw' py po pq : Nat → Zp s) (t : Option Nat) (evs : List Ev) (r : Res) (w0 : World) (hs : Sat F0 W (r :: (blk ob (en vq (fun i => mq (po i)) n) 56) :: M) R w0) (hF : HasR (rall [blk bf (fieldL s) 120, blk bw [.slice (some ⟨wb, 0, none⟩) n n] 51, lst 4 (.slice (some ⟨wb, 0, none⟩) n n) n (en vq (fun i => mq (pw' i)) n), blk by' [.slice ya n yc] 51, lst 4 (.slice ya n yc) n (en vq (fun i => mq (py i)) n), blk bo [.slice (some ⟨ob, 0, none⟩) n n] 51, blk bt [tval t] 60]) R) (hQ : HasR (lst 4 (.slice (some ⟨qb, 0, none⟩) (n + 1 - 1) (n + 1 - 1)) (n + 1 - 1) (en vq (fun i => mq (pq i)) (n + 1 - 1))) R) (hT : TapeIs t evs r) (hi : i0 < n) (hn : n ≤ 1000) (he : evs.length ≤ 100000000) : Calls Tryz.prog 128 [.int .i64 ((i0 : Nat) : Int), .slice (some ⟨qb, 0, none⟩) (n + 1 - 1) (n + 1 - 1), .pointer (some ⟨bf, 0, none⟩), .pointer (some ⟨bw, 0, none⟩), .pointer (some ⟨by', 0, none⟩), .pointer (some ⟨bo, 0, none⟩), .pointer (some ⟨bt, 0, none⟩)].toArray w0 fun e w => ∃ v r, e = .returned v ∧ TapeIs t (evs ++ upE 0 (n : Int) (pairE true ((i0 : Nat) : Int))) r ∧ Sat F0 W (r :: blk ob (en vq (fun i => mq (po i + (pw' i0 * py i0) * pq i)) n) 56 :: M) R w := by
 refine c_enter (args := [.int .i64 ((i0 : Nat) : Int), .slice (some ⟨qb, 0, none⟩) (n + 1 - 1) (n + 1 - 1), .pointer (some ⟨bf, 0, none⟩), .pointer (some ⟨bw, 0, none⟩), .pointer (some ⟨by', 0, none⟩), .pointer (some ⟨bo, 0, none⟩), .pointer (some ⟨bt, 0, none⟩)]) Tryz.func128 rfl rfl rfl fun a hk => ?_
 refine wS ?_
 have hL := okL.cons ((hF.pi 0 rfl).at_ hs) (okL.cons ((hF.pi 1 rfl).at_ hs) (okL.cons ((hF.pi 2 rfl).at_ hs) (okL.cons ((hF.pi 3 rfl).at_ hs) (okL.cons ((hF.pi 4 rfl).at_ hs) okL.nil))))
 refine d_begin _ 12 (by kernel_rfl) rfl hs hL fun w hs hL => ?_
 refine d_join (n2 := 1) 2047 (fun a w => ∃ (b1_10 : Nat), Kn [] 47 [(9, .pointer (some ⟨b1_10, 0, none⟩)), (20, vec (mq ((pw' i0) * (py i0)))), (19, vec (mq (py i0))), (18, .pointer (some ((adq ya).add (i0 * 4)))), (17, .int .i64 ((i0 : Nat) : Int)), (16, .slice ya n yc), (15, vec (mq (pw' i0))), (14, .pointer (some ((adq (some ⟨wb, 0, none⟩)).add (i0 * 4)))), (13, .int .i64 ((i0 : Nat) : Int)), (12, .slice (some ⟨wb, 0, none⟩) n n), (11, fieldV s), (0, .int .i64 ((i0 : Nat) : Int)), (1, .slice (some ⟨qb, 0, none⟩) (n + 1 - 1) (n + 1 - 1)), (2, .pointer (some ⟨bf, 0, none⟩)), (3, .pointer (some ⟨bw, 0, none⟩)), (4, .pointer (some ⟨by', 0, none⟩)), (5, .pointer (some ⟨bo, 0, none⟩)), (6, .pointer (some ⟨bt, 0, none⟩))] a ∧ Sat F0 W ((blk b1_10 [.int .u64 0, .int .u64 0, .int .u64 0, .int .u64 0] 56) :: r :: (blk ob (en vq (fun i => mq (po i)) n) 56) :: M) R w ∧ okL [blk bf (fieldL s) 120, blk bw [.slice (some ⟨wb, 0, none⟩) n n] 51, lst 4 (.slice (some ⟨wb, 0, none⟩) n n) n (en vq (fun i => mq (pw' i)) n), blk by' [.slice ya n yc] 51, lst 4 (.slice ya n yc) n (en vq (fun i => mq (py i)) n)] w) ?_ ?_
 ·
  intro hJ2047
  refine d_w 0 1 hk hL rfl (fun w hL => w_ldA rfl ty120 (.blk (n := 14) (hL.at 0 rfl) rfl) rfl) fun a hk => ?_
  refine d_w 1 3 hk hL rfl (fun w hL => w_ld1 rfl ty51 (.blk (n := 1) (hL.at 1 rfl) rfl)) fun a hk => ?_
  refine d_w 2 7 hk hL rfl (fun w hL => w_mv rfl) fun a hk => ?_
  refine d_w 3 15 hk hL rfl (fun w hL => w_iaL (k := i0) rfl rfl Tryz.underlying51 ty56 (hL.at 2 rfl) (by omega) (by omega)) fun a hk => ?_
  refine d_w 4 31 hk hL rfl (fun w hL => w_ldv (z := mq (pw' i0)) rfl ty56 (lstq (k := i0) (hL.at 2 rfl) (by omega) (en_chunk vq_len (by omega)))) fun a hk => ?_
  refine d_w 5 63 hk hL rfl (fun w hL => w_ld1 rfl ty51 (.blk (n := 1) (hL.at 3 rfl) rfl)) fun a hk => ?_
  refine d_w 6 127 hk hL rfl (fun w hL => w_mv rfl) fun a hk => ?_
  refine d_w 7 255 hk hL rfl (fun w hL => w_iaL (k := i0) rfl rfl Tryz.underlying51 ty56 (hL.at 4 rfl) (by omega) (by omega)) fun a hk => ?_
  refine d_w 8 511 hk hL rfl (fun w hL => w_ldv (z := mq (py i0)) rfl ty56 (lstq (k := i0) (hL.at 4 rfl) (by omega) (en_chunk vq_len (by omega)))) fun a hk => ?_
  refine d_2 9 10 1023 1535 rfl rfl (by kernel_rfl) (fun K hK => ?_) (fun K hK => ?_)
  ·
   refine q_call (caps := []) hk rfl rfl Tryz.func120 fo120 rfl rfl (zmul_c (x := (pw' i0)) (y := (py i0)) _ rfl rfl) ?_
   rintro _ w ⟨rfl, hb⟩
   have hs := hs.below hb
   refine ⟨_, rfl, fun a hk => ?_⟩
   have hL := okL.cons ((hF.pi 0 rfl).at_ hs) (okL.cons ((hF.pi 1 rfl).at_ hs) (okL.cons ((hF.pi 2 rfl).at_ hs) (okL.cons ((hF.pi 3 rfl).at_ hs) (okL.cons ((hF.pi 4 rfl).at_ hs) okL.nil))))
   refine c_end (x_t (hK _ _ hL ?_))
   clear hK K
   refine d_1 10 2047 rfl (by kernel_rfl) fun K hK => ?_
   refine q_alc (vs := [.int .u64 0, .int .u64 0, .int .u64 0, .int .u64 0]) hk hs zr56 rfl rfl rfl fun b1_10 w a hk hs => ?_
   have hL := okL.cons ((hF.pi 0 rfl).at_ hs) (okL.cons ((hF.pi 1 rfl).at_ hs) (okL.cons ((hF.pi 2 rfl).at_ hs) (okL.cons ((hF.pi 3 rfl).at_ hs) (okL.cons ((hF.pi 4 rfl).at_ hs) okL.nil))))
   refine c_end (x_t (hK _ _ hL ?_))
   clear hK K
   have hL := okL.cons ((hF.pi 0 rfl).at_ hs) (okL.cons ((hF.pi 1 rfl).at_ hs) (okL.cons ((hF.pi 2 rfl).at_ hs) (okL.cons ((hF.pi 3 rfl).at_ hs) (okL.cons ((hF.pi 4 rfl).at_ hs) okL.nil))))
   exact hJ2047 _ _ ⟨_, hk.k rfl (hk.k rfl (hk.k rfl (hk.k rfl (hk.k rfl (hk.k rfl (hk.k rfl (hk.k rfl (hk.k rfl (hk.k rfl (hk.k rfl (hk.k rfl (hk.k rfl (hk.k rfl (hk.k rfl (hk.k rfl (hk.k rfl (hk.k rfl hk.nil))))))))))))))))), hs, hL⟩
  ·
   refine q_alc (vs := [.int .u64 0, .int .u64 0, .int .u64 0, .int .u64 0]) hk hs zr56 rfl rfl rfl fun b1_10 w a hk hs => ?_
   have hL := okL.cons ((hF.pi 0 rfl).at_ hs) (okL.cons ((hF.pi 1 rfl).at_ hs) (okL.cons ((hF.pi 2 rfl).at_ hs) (okL.cons ((hF.pi 3 rfl).at_ hs) (okL.cons ((hF.pi 4 rfl).at_ hs) okL.nil))))
   refine c_end (x_t (hK _ _ hL ?_))
   clear hK K
   refine d_1 9 2047 rfl (by kernel_rfl) fun K hK => ?_
   refine q_call (caps := []) hk rfl rfl Tryz.func120 fo120 rfl rfl (zmul_c (x := (pw' i0)) (y := (py i0)) _ rfl rfl) ?_
   rintro _ w ⟨rfl, hb⟩
   have hs := hs.below hb
   refine ⟨_, rfl, fun a hk => ?_⟩
   have hL := okL.cons ((hF.pi 0 rfl).at_ hs) (okL.cons ((hF.pi 1 rfl).at_ hs) (okL.cons ((hF.pi 2 rfl).at_ hs) (okL.cons ((hF.pi 3 rfl).at_ hs) (okL.cons ((hF.pi 4 rfl).at_ hs) okL.nil))))
   refine c_end (x_t (hK _ _ hL ?_))
   clear hK K
   have hL := okL.cons ((hF.pi 0 rfl).at_ hs) (okL.cons ((hF.pi 1 rfl).at_ hs) (okL.cons ((hF.pi 2 rfl).at_ hs) (okL.cons ((hF.pi 3 rfl).at_ hs) (okL.cons ((hF.pi 4 rfl).at_ hs) okL.nil))))
   exact hJ2047 _ _ ⟨_, hk.k rfl (hk.k rfl (hk.k rfl (hk.k rfl (hk.k rfl (hk.k rfl (hk.k rfl (hk.k rfl (hk.k rfl (hk.k rfl (hk.k rfl (hk.k rfl (hk.k rfl (hk.k rfl (hk.k rfl (hk.k rfl (hk.k rfl (hk.k rfl hk.nil))))))))))))))))), hs, hL⟩
 ·
  rintro a w ⟨b1_10, hk, hs, hL⟩
  refine d_1 11 4095 rfl (by kernel_rfl) fun K hK => ?_
  refine q_sto (o := 0) (cs := [.int .u64 ((dg 0 (mq ((pw' i0) * (py i0))) : Nat) : Int), .int .u64 ((dg 1 (mq ((pw' i0) * (py i0))) : Nat) : Int), .int .u64 ((dg 2 (mq ((pw' i0) * (py i0))) : Nat) : Int), .int .u64 ((dg 3 (mq ((pw' i0) * (py i0))) : Nat) : Int)]) (vs' := [.int .u64 ((dg 0 (mq ((pw' i0) * (py i0))) : Nat) : Int), .int .u64 ((dg 1 (mq ((pw' i0) * (py i0))) : Nat) : Int), .int .u64 ((dg 2 (mq ((pw' i0) * (py i0))) : Nat) : Int), .int .u64 ((dg 3 (mq ((pw' i0) * (py i0))) : Nat) : Int)]) hk hs rfl rfl rfl ty56 rfl rfl rfl rfl rfl rfl fun w hs => ?_
  have hL := okL.cons ((hF.pi 0 rfl).at_ hs) (okL.cons ((hF.pi 1 rfl).at_ hs) (okL.cons ((hF.pi 2 rfl).at_ hs) (okL.cons ((hF.pi 3 rfl).at_ hs) (okL.cons ((hF.pi 4 rfl).at_ hs) okL.nil))))
  refine c_end (x_t (hK _ _ hL ?_))
  clear hK K
  refine d_end (by kernel_rfl) ?_
  refine (x_t ?_)
  refine wS (wR ?_)
  refine q_v hk (w_ld1 rfl ty51 (.blk (n := 1) ((hF.pi 5 rfl).at_ hs) rfl)) fun a hk => ?_
  refine q_v hk (w_len rfl Tryz.underlying51) fun a hk => ?_
  refine q_v hk (w_mv rfl) fun a hk => ?_
  refine c_end (x_t ?_)
  refine wpIn_block ?_
  have hs := hs.up2
  have hs := hs.rw0 (congrArg (fun q => blk ob q 56) (ita_zero (po := po) (pq := pq) (c := (pw' i0 * py i0))))
  refine c_loop (α := Nat) (fun k a w => ∃ (r : Res), k ≤ n ∧ TapeIs t (evs ++ upE 0 ((k : Nat) : Int) (pairE true ((i0 : Nat) : Int))) r ∧ Kn [] 47 [(23, .int .i64 ((k : Nat) : Int)), (22, .int .i64 ((n : Nat) : Int)), (9, .pointer (some ⟨b1_10, 0, none⟩)), (0, .int .i64 ((i0 : Nat) : Int)), (1, .slice (some ⟨qb, 0, none⟩) (n + 1 - 1) (n + 1 - 1)), (2, .pointer (some ⟨bf, 0, none⟩)), (5, .pointer (some ⟨bo, 0, none⟩)), (6, .pointer (some ⟨bt, 0, none⟩))] a ∧ Sat F0 W ((blk ob (en vq (fun i => ita po pq (pw' i0 * py i0) k i) n) 56) :: (blk b1_10 [.int .u64 ((dg 0 (mq ((pw' i0) * (py i0))) : Nat) : Int), .int .u64 ((dg 1 (mq ((pw' i0) * (py i0))) : Nat) : Int), .int .u64 ((dg 2 (mq ((pw' i0) * (py i0))) : Nat) : Int), .int .u64 ((dg 3 (mq ((pw' i0) * (py i0))) : Nat) : Int)] 56) :: r :: M) R w) (fun k => n - k) 0 ?_ ?_
  · exact ⟨_, (by omega), (by rw [upE_nil (by omega), List.append_nil]; exact hT), hk.k rfl (hk.k rfl (hk.k rfl (hk.k rfl (hk.k rfl (hk.k rfl (hk.k rfl (hk.k rfl hk.nil))))))), hs⟩
  rintro k a w ⟨r, hf0, hf1, hk, hs⟩
  have hT := hf1
  have hlk := pairT_len (n := k) (i := ((i0 : Nat) : Int))
  refine wS (wR ?_)
  rcases Classical.em (((k : Nat) : Int) < ((n : Nat) : Int)) with hc1 | hc1
  ·
   refine q_v hk (w_lt rfl rfl (decide_eq_true hc1)) fun a hk => ?_
   refine c_end (x_t (wS ?_))
   refine c_T hk rfl ?_
   refine (wpIn_skip (x_t ?_))
   refine wS ?_
   refine wpIn_block ?_
   refine wS (wR ?_)
   refine q_v hk (w_mv rfl) fun a hk => ?_
   refine q_v hk (w_as rfl) fun a hk => ?_
   refine c_end (x_t (wS (wR ?_)))
   refine q_v hk (w_ld1 rfl ty60 (.blk (n := 1) ((hF.pi 6 rfl).at_ hs) rfl)) fun a hk => ?_
   refine q_v hk (w_mv rfl) fun a hk => ?_
   refine q_v hk (w_mv rfl) fun a hk => ?_
   have hs := hs.up2
   refine q_call (caps := []) hk rfl rfl Tryz.func61 fo61 rfl rfl (note_m t 3 ((i0 : Nat) : Int) ((k : Nat) : Int) (evs ++ upE 0 ((k : Nat) : Int) (pairE true ((i0 : Nat) : Int))) _ _ hT hs (by simp only [List.length_append]; omega)) ?_
   rintro _ w ⟨v2, r3, rfl, ht4, hs⟩
   have hT := ht4
   refine ⟨_, rfl, fun a hk => ?_⟩
   refine c_end (x_t ?_)
   have hL := okL.cons ((hF.pi 5 rfl).at_ hs) (okL.cons ((hF.pi 0 rfl).at_ hs) (okL.cons (hs.mi 2 rfl) (okL.cons (hQ.at_ hs) okL.nil)))
   refine d_begin _ 17 (by kernel_rfl) rfl hs hL fun w hs hL => ?_
   refine d_join (n2 := 3) 16383 (fun a w => Kn [] 47 [(43, vec (mq (((pw' i0) * (py i0)) * (pq k)))), (36, vec (mq (po k))), (35, .pointer (some ((adq (some ⟨ob, 0, none⟩)).add (k * 4)))), (42, vec (mq (pq k))), (41, .pointer (some ((adq (some ⟨qb, 0, none⟩)).add (k * 4)))), (40, .int .i64 ((k : Nat) : Int)), (39, .slice (some ⟨qb, 0, none⟩) (n + 1 - 1) (n + 1 - 1)), (38, vec (mq ((pw' i0) * (py i0)))), (37, fieldV s), (34, .int .i64 ((k : Nat) : Int)), (33, .slice (some ⟨ob, 0, none⟩) n n), (32, fieldV s), (31, .int .i64 ((k : Nat) : Int)), (30, .slice (some ⟨ob, 0, none⟩) n n), (29, v2), (28, .int .i64 ((k : Nat) : Int)), (27, .int .i64 ((i0 : Nat) : Int)), (26, tval t), (10, .int .i64 ((k : Nat) : Int)), (25, .int .i64 ((k : Nat) : Int)), (24, .bool true), (23, .int .i64 ((k : Nat) : Int)), (22, .int .i64 ((n : Nat) : Int)), (9, .pointer (some ⟨b1_10, 0, none⟩)), (0, .int .i64 ((i0 : Nat) : Int)), (1, .slice (some ⟨qb, 0, none⟩) (n + 1 - 1) (n + 1 - 1)), (2, .pointer (some ⟨bf, 0, none⟩)), (5, .pointer (some ⟨bo, 0, none⟩)), (6, .pointer (some ⟨bt, 0, none⟩))] a ∧ Sat F0 W (r3 :: (blk ob (en vq (fun i => ita po pq (pw' i0 * py i0) k i) n) 56) :: (blk b1_10 [.int .u64 ((dg 0 (mq ((pw' i0) * (py i0))) : Nat) : Int), .int .u64 ((dg 1 (mq ((pw' i0) * (py i0))) : Nat) : Int), .int .u64 ((dg 2 (mq ((pw' i0) * (py i0))) : Nat) : Int), .int .u64 ((dg 3 (mq ((pw' i0) * (py i0))) : Nat) : Int)] 56) :: M) R w ∧ okL [blk bo [.slice (some ⟨ob, 0, none⟩) n n] 51, blk bf (fieldL s) 120, blk b1_10 [.int .u64 ((dg 0 (mq ((pw' i0) * (py i0))) : Nat) : Int), .int .u64 ((dg 1 (mq ((pw' i0) * (py i0))) : Nat) : Int), .int .u64 ((dg 2 (mq ((pw' i0) * (py i0))) : Nat) : Int), .int .u64 ((dg 3 (mq ((pw' i0) * (py i0))) : Nat) : Int)] 56, lst 4 (.slice (some ⟨qb, 0, none⟩) (n + 1 - 1) (n + 1 - 1)) (n + 1 - 1) (en vq (fun i => mq (pq i)) (n + 1 - 1))] w) ?_ ?_
   ·
    intro hJ16383
    refine d_join (n2 := 4) 16319 (fun a w => Kn [] 47 [(43, vec (mq (((pw' i0) * (py i0)) * (pq k)))), (35, .pointer (some ((adq (some ⟨ob, 0, none⟩)).add (k * 4)))), (42, vec (mq (pq k))), (41, .pointer (some ((adq (some ⟨qb, 0, none⟩)).add (k * 4)))), (40, .int .i64 ((k : Nat) : Int)), (39, .slice (some ⟨qb, 0, none⟩) (n + 1 - 1) (n + 1 - 1)), (38, vec (mq ((pw' i0) * (py i0)))), (37, fieldV s), (34, .int .i64 ((k : Nat) : Int)), (33, .slice (some ⟨ob, 0, none⟩) n n), (32, fieldV s), (31, .int .i64 ((k : Nat) : Int)), (30, .slice (some ⟨ob, 0, none⟩) n n), (29, v2), (28, .int .i64 ((k : Nat) : Int)), (27, .int .i64 ((i0 : Nat) : Int)), (26, tval t), (10, .int .i64 ((k : Nat) : Int)), (25, .int .i64 ((k : Nat) : Int)), (24, .bool true), (23, .int .i64 ((k : Nat) : Int)), (22, .int .i64 ((n : Nat) : Int)), (9, .pointer (some ⟨b1_10, 0, none⟩)), (0, .int .i64 ((i0 : Nat) : Int)), (1, .slice (some ⟨qb, 0, none⟩) (n + 1 - 1) (n + 1 - 1)), (2, .pointer (some ⟨bf, 0, none⟩)), (5, .pointer (some ⟨bo, 0, none⟩)), (6, .pointer (some ⟨bt, 0, none⟩))] a ∧ Sat F0 W (r3 :: (blk ob (en vq (fun i => ita po pq (pw' i0 * py i0) k i) n) 56) :: (blk b1_10 [.int .u64 ((dg 0 (mq ((pw' i0) * (py i0))) : Nat) : Int), .int .u64 ((dg 1 (mq ((pw' i0) * (py i0))) : Nat) : Int), .int .u64 ((dg 2 (mq ((pw' i0) * (py i0))) : Nat) : Int), .int .u64 ((dg 3 (mq ((pw' i0) * (py i0))) : Nat) : Int)] 56) :: M) R w ∧ okL [blk bo [.slice (some ⟨ob, 0, none⟩) n n] 51, blk bf (fieldL s) 120, blk b1_10 [.int .u64 ((dg 0 (mq ((pw' i0) * (py i0))) : Nat) : Int), .int .u64 ((dg 1 (mq ((pw' i0) * (py i0))) : Nat) : Int), .int .u64 ((dg 2 (mq ((pw' i0) * (py i0))) : Nat) : Int), .int .u64 ((dg 3 (mq ((pw' i0) * (py i0))) : Nat) : Int)] 56, lst 4 (.slice (some ⟨qb, 0, none⟩) (n + 1 - 1) (n + 1 - 1)) (n + 1 - 1) (en vq (fun i => mq (pq i)) (n + 1 - 1))] w) ?_ ?_
    ·
     intro hJ16319
     refine d_w 0 1 hk hL rfl (fun w hL => w_ld1 rfl ty51 (.blk (n := 1) (hL.at 0 rfl) rfl)) fun a hk => ?_
     refine d_w 1 3 hk hL rfl (fun w hL => w_mv rfl) fun a hk => ?_
     refine d_w 2 7 hk hL rfl (fun w hL => w_ldA rfl ty120 (.blk (n := 14) (hL.at 1 rfl) rfl) rfl) fun a hk => ?_
     refine d_w 3 15 hk hL rfl (fun w hL => w_ld1 rfl ty51 (.blk (n := 1) (hL.at 0 rfl) rfl)) fun a hk => ?_
     refine d_w 4 31 hk hL rfl (fun w hL => w_mv rfl) fun a hk => ?_
     refine d_w 7 159 hk hL rfl (fun w hL => w_ldA rfl ty120 (.blk (n := 14) (hL.at 1 rfl) rfl) rfl) fun a hk => ?_
     refine d_w 8 415 hk hL rfl (fun w hL => w_ldv (z := mq ((pw' i0) * (py i0))) rfl ty56 (.blk (n := 4) (hL.at 2 rfl) rfl)) fun a hk => ?_
     refine d_w 9 927 hk hL rfl (fun w hL => w_mv rfl) fun a hk => ?_
     refine d_w 10 1951 hk hL rfl (fun w hL => w_mv rfl) fun a hk => ?_
     refine d_w 11 3999 hk hL rfl (fun w hL => w_iaL (k := k) rfl rfl Tryz.underlying51 ty56 (hL.at 3 rfl) (by omega) (by omega)) fun a hk => ?_
     refine d_w 12 8095 hk hL rfl (fun w hL => w_ldv (z := mq (pq k)) rfl ty56 (lstq (k := k) (hL.at 3 rfl) (by omega) (en_chunk vq_len (by omega)))) fun a hk => ?_
     refine d_2 5 13 8127 16287 rfl rfl (by kernel_rfl) (fun K hK => ?_) (fun K hK => ?_)
     ·
      refine q_v hk (w_iaL (k := k) rfl rfl Tryz.underlying51 ty56 (blk_lst (hs.mi 1 rfl) (en_len vq_len) (Nat.le_refl _)) (by omega) (by omega)) fun a hk => ?_
      have hL := okL.cons ((hF.pi 5 rfl).at_ hs) (okL.cons ((hF.pi 0 rfl).at_ hs) (okL.cons (hs.mi 2 rfl) (okL.cons (hQ.at_ hs) okL.nil)))
      refine c_end (x_t (hK _ _ hL ?_))
      clear hK K
      refine d_2 6 13 8191 16319 rfl rfl (by kernel_rfl) (fun K hK => ?_) (fun K hK => ?_)
      ·
       refine q_v hk (w_ldv (z := mq (po k)) rfl ty56 (vq_eq ita_at (lstq (k := k) (blk_lst (hs.mi 1 rfl) (en_len vq_len) (Nat.le_refl _)) (by omega) (en_chunk vq_len (by omega))))) fun a hk => ?_
       have hL := okL.cons ((hF.pi 5 rfl).at_ hs) (okL.cons ((hF.pi 0 rfl).at_ hs) (okL.cons (hs.mi 2 rfl) (okL.cons (hQ.at_ hs) okL.nil)))
       refine c_end (x_t (hK _ _ hL ?_))
       clear hK K
       refine d_1 13 16383 rfl (by kernel_rfl) fun K hK => ?_
       refine q_call (caps := []) hk rfl rfl Tryz.func120 fo120 rfl rfl (zmul_c (x := ((pw' i0) * (py i0))) (y := (pq k)) _ rfl rfl) ?_
       rintro _ w ⟨rfl, hb⟩
       have hs := hs.below hb
       refine ⟨_, rfl, fun a hk => ?_⟩
       have hL := okL.cons ((hF.pi 5 rfl).at_ hs) (okL.cons ((hF.pi 0 rfl).at_ hs) (okL.cons (hs.mi 2 rfl) (okL.cons (hQ.at_ hs) okL.nil)))
       refine c_end (x_t (hK _ _ hL ?_))
       clear hK K
       have hL := okL.cons ((hF.pi 5 rfl).at_ hs) (okL.cons ((hF.pi 0 rfl).at_ hs) (okL.cons (hs.mi 2 rfl) (okL.cons (hQ.at_ hs) okL.nil)))
       exact hJ16383 _ _ ⟨hk.k rfl (hk.k rfl (hk.k rfl (hk.k rfl (hk.k rfl (hk.k rfl (hk.k rfl (hk.k rfl (hk.k rfl (hk.k rfl (hk.k rfl (hk.k rfl (hk.k rfl (hk.k rfl (hk.k rfl (hk.k rfl (hk.k rfl (hk.k rfl (hk.k rfl (hk.k rfl (hk.k rfl (hk.k rfl (hk.k rfl (hk.k rfl (hk.k rfl (hk.k rfl (hk.k rfl (hk.k rfl (hk.k rfl hk.nil)))))))))))))))))))))))))))), hs, hL⟩
      ·
       refine q_call (caps := []) hk rfl rfl Tryz.func120 fo120 rfl rfl (zmul_c (x := ((pw' i0) * (py i0))) (y := (pq k)) _ rfl rfl) ?_
       rintro _ w ⟨rfl, hb⟩
       have hs := hs.below hb
       refine ⟨_, rfl, fun a hk => ?_⟩
       have hL := okL.cons ((hF.pi 5 rfl).at_ hs) (okL.cons ((hF.pi 0 rfl).at_ hs) (okL.cons (hs.mi 2 rfl) (okL.cons (hQ.at_ hs) okL.nil)))
       refine c_end (x_t (hK _ _ hL ?_))
       clear hK K
       have hL := okL.cons ((hF.pi 5 rfl).at_ hs) (okL.cons ((hF.pi 0 rfl).at_ hs) (okL.cons (hs.mi 2 rfl) (okL.cons (hQ.at_ hs) okL.nil)))
       exact hJ16319 _ _ ⟨hk.k rfl (hk.k rfl (hk.k rfl (hk.k rfl (hk.k rfl (hk.k rfl (hk.k rfl (hk.k rfl (hk.k rfl (hk.k rfl (hk.k rfl (hk.k rfl (hk.k rfl (hk.k rfl (hk.k rfl (hk.k rfl (hk.k rfl (hk.k rfl (hk.k rfl (hk.k rfl (hk.k rfl (hk.k rfl (hk.k rfl (hk.k rfl (hk.k rfl (hk.k rfl (hk.k rfl (hk.k rfl hk.nil))))))))))))))))))))))))))), hs, hL⟩
     ·
      refine q_call (caps := []) hk rfl rfl Tryz.func120 fo120 rfl rfl (zmul_c (x := ((pw' i0) * (py i0))) (y := (pq k)) _ rfl rfl) ?_
      rintro _ w ⟨rfl, hb⟩
      have hs := hs.below hb
      refine ⟨_, rfl, fun a hk => ?_⟩
      have hL := okL.cons ((hF.pi 5 rfl).at_ hs) (okL.cons ((hF.pi 0 rfl).at_ hs) (okL.cons (hs.mi 2 rfl) (okL.cons (hQ.at_ hs) okL.nil)))
      refine c_end (x_t (hK _ _ hL ?_))
      clear hK K
      refine d_1 5 16319 rfl (by kernel_rfl) fun K hK => ?_
      refine q_v hk (w_iaL (k := k) rfl rfl Tryz.underlying51 ty56 (blk_lst (hs.mi 1 rfl) (en_len vq_len) (Nat.le_refl _)) (by omega) (by omega)) fun a hk => ?_
      have hL := okL.cons ((hF.pi 5 rfl).at_ hs) (okL.cons ((hF.pi 0 rfl).at_ hs) (okL.cons (hs.mi 2 rfl) (okL.cons (hQ.at_ hs) okL.nil)))
      refine c_end (x_t (hK _ _ hL ?_))
      clear hK K
      have hL := okL.cons ((hF.pi 5 rfl).at_ hs) (okL.cons ((hF.pi 0 rfl).at_ hs) (okL.cons (hs.mi 2 rfl) (okL.cons (hQ.at_ hs) okL.nil)))
      exact hJ16319 _ _ ⟨hk.k rfl (hk.k rfl (hk.k rfl (hk.k rfl (hk.k rfl (hk.k rfl (hk.k rfl (hk.k rfl (hk.k rfl (hk.k rfl (hk.k rfl (hk.k rfl (hk.k rfl (hk.k rfl (hk.k rfl (hk.k rfl (hk.k rfl (hk.k rfl (hk.k rfl (hk.k rfl (hk.k rfl (hk.k rfl (hk.k rfl (hk.k rfl (hk.k rfl (hk.k rfl (hk.k rfl (hk.k rfl hk.nil))))))))))))))))))))))))))), hs, hL⟩
    ·
     rintro a w ⟨hk, hs, hL⟩
     refine d_1 6 16383 rfl (by kernel_rfl) fun K hK => ?_
     refine q_v hk (w_ldv (z := mq (po k)) rfl ty56 (vq_eq ita_at (lstq (k := k) (blk_lst (hs.mi 1 rfl) (en_len vq_len) (Nat.le_refl _)) (by omega) (en_chunk vq_len (by omega))))) fun a hk => ?_
     have hL := okL.cons ((hF.pi 5 rfl).at_ hs) (okL.cons ((hF.pi 0 rfl).at_ hs) (okL.cons (hs.mi 2 rfl) (okL.cons (hQ.at_ hs) okL.nil)))
     refine c_end (x_t (hK _ _ hL ?_))
     clear hK K
     have hL := okL.cons ((hF.pi 5 rfl).at_ hs) (okL.cons ((hF.pi 0 rfl).at_ hs) (okL.cons (hs.mi 2 rfl) (okL.cons (hQ.at_ hs) okL.nil)))
     exact hJ16383 _ _ ⟨hk.k rfl (hk.k rfl (hk.k rfl (hk.k rfl (hk.k rfl (hk.k rfl (hk.k rfl (hk.k rfl (hk.k rfl (hk.k rfl (hk.k rfl (hk.k rfl (hk.k rfl (hk.k rfl (hk.k rfl (hk.k rfl (hk.k rfl (hk.k rfl (hk.k rfl (hk.k rfl (hk.k rfl (hk.k rfl (hk.k rfl (hk.k rfl (hk.k rfl (hk.k rfl (hk.k rfl (hk.k rfl (hk.k rfl hk.nil)))))))))))))))))))))))))))), hs, hL⟩
   ·
    rintro a w ⟨hk, hs, hL⟩
    refine d_1 14 32767 rfl (by kernel_rfl) fun K hK => ?_
    refine q_call (caps := []) hk rfl rfl Tryz.func121 fo121 rfl rfl (zadd_c (x := (po k)) (y := (((pw' i0) * (py i0)) * (pq k))) _ rfl rfl) ?_
    rintro _ w ⟨rfl, hb⟩
    have hs := hs.below hb
    refine ⟨_, rfl, fun a hk => ?_⟩
    have hL := okL.cons ((hF.pi 5 rfl).at_ hs) (okL.cons ((hF.pi 0 rfl).at_ hs) (okL.cons (hs.mi 2 rfl) (okL.cons (hQ.at_ hs) okL.nil)))
    refine c_end (x_t (hK _ _ hL ?_))
    clear hK K
    refine d_1 15 65535 rfl (by kernel_rfl) fun K hK => ?_
    refine q_v hk (w_iaL (k := k) rfl rfl Tryz.underlying51 ty56 (blk_lst (hs.mi 1 rfl) (en_len vq_len) (Nat.le_refl _)) (by omega) (by omega)) fun a hk => ?_
    have hL := okL.cons ((hF.pi 5 rfl).at_ hs) (okL.cons ((hF.pi 0 rfl).at_ hs) (okL.cons (hs.mi 2 rfl) (okL.cons (hQ.at_ hs) okL.nil)))
    refine c_end (x_t (hK _ _ hL ?_))
    clear hK K
    refine d_1 16 131071 rfl (by kernel_rfl) fun K hK => ?_
    have hs := hs.up1
    refine q_stoE (c := vq) (xx := (mq ((po k) + (((pw' i0) * (py i0)) * (pq k))))) (k := k) hk hs rfl rfl rfl ty56 rfl vq_len rfl (by omega) rfl fun w hs => ?_
    have hL := okL.cons ((hF.pi 5 rfl).at_ hs) (okL.cons ((hF.pi 0 rfl).at_ hs) (okL.cons (hs.mi 2 rfl) (okL.cons (hQ.at_ hs) okL.nil)))
    refine c_end (x_t (hK _ _ hL ?_))
    clear hK K
    refine d_end (by kernel_rfl) ?_
    refine (x_b (x_t ?_))
    refine wR ?_
    refine q_v hk (w_add rfl rfl (wr64 (by omega) (by omega))) fun a hk => ?_
    refine q_v hk (w_mv rfl) fun a hk => ?_
    refine c_end (x_t ?_)
    have hs := hs.rw0 (congrArg (fun q => blk ob q 56) (ita_step (po := po) (pq := pq)))
    rw [pairT_next] at hT
    have hs := hs.up1
    have hs := hs.up2
    have hs := hs.up2
    exact ⟨k + 1, ⟨_, (by omega), hT, hk.k rfl (hk.k rfl (hk.k rfl (hk.k rfl (hk.k rfl (hk.k rfl (hk.k rfl (hk.k rfl hk.nil))))))), hs⟩, by omega⟩
  ·
   refine q_v hk (w_lt rfl rfl (decide_eq_false hc1)) fun a hk => ?_
   refine c_end (x_t (wS ?_))
   refine c_F hk rfl ?_
   refine (wpIn_exit (x_te (x_te (x_be ?_))))
   refine c_end0 hk rfl ?_
   have hs := hs.up1
   have hs := hs.drop
   have hs := hs.up1
   have hkn : k = n := by omega
   rw [hkn] at hs hT
   rw [ita_end] at hs
   exact ⟨_, _, rfl, hT, hs⟩
theorem interp_m {F0 : Nat → Prop} {W : World} {M R : List Res} (s : Bool) (n lc yc : Nat) (la ya : Option Addr) (v : Nat → Nat) (py : Nat → Zp s) (t : Option Nat) (evs : List Ev) (r : Res) (w0 : World) (hs : Sat F0 W (r :: M) ((lst 4 (.slice ya n yc) n (en vq (fun i => mq (py i)) n)) :: R) w0) (hT : TapeIs t evs r) (hL : HasR (lst 1 (.slice la n lc) n (en ic (fun i => ((v i : Nat) : Int)) n)) R) (h0 : 0 < n) (hn : n ≤ 255) (hv : ∀ i, i < n → 1 ≤ v i ∧ v i ≤ 255) (hd : ∀ i k, i < k → k < n → v i ≠ v k) (he : evs.length ≤ 10000000) : Calls Tryz.prog 90 [tval t, fieldV s, .slice la n lc, .slice ya n yc].toArray w0 fun e w => ∃ b r, e = .returned (.tuple #[.slice (some ⟨b, 0, none⟩) n n, .int .i64 0]) ∧ TapeIs t (evs ++ interpE (n : Int)) r ∧ Sat F0 W (r :: blk b (en vq (fun i => mq (itp (pt s v) py n n i)) n) 56 :: M) R w := by
 refine c_enter (args := [tval t, fieldV s, .slice la n lc, .slice ya n yc]) Tryz.func90 rfl rfl rfl fun a hk => ?_
 refine wS (wR ?_)
 refine q_box (vs := [tval t]) hk hs rfl rfl rfl rfl fun b1 w a hk hs => ?_
 refine q_box (vs := fieldL s) hk hs rfl rfl rfl rfl fun b2 w a hk hs => ?_
 refine q_box (vs := [.slice ya n yc]) hk hs rfl rfl rfl rfl fun b3 w a hk hs => ?_
 refine q_v hk (w_as rfl) fun a hk => ?_
 refine q_v hk (w_as rfl) fun a hk => ?_
 refine c_end (x_t (wS (wS (wR ?_))))
 refine q_v hk (w_mv rfl) fun a hk => ?_
 refine q_call (caps := []) hk rfl rfl Tryz.func127 fo127 rfl rfl (lcheck_c n lc la v _ ((hL.cons).at_ hs) (by omega) hv hd) ?_
 rintro _ w ⟨rfl, hb⟩
 have hs := hs.below hb
 refine ⟨_, rfl, fun a hk => ?_⟩
 refine q_v hk (w_as rfl) fun a hk => ?_
 refine c_end (x_t (wS (wR ?_)))
 refine q_v hk (w_mv rfl) fun a hk => ?_
 refine q_v hk (w_ne rfl rfl (decide_eq_false (by decide))) fun a hk => ?_
 refine c_end (x_t ?_)
 refine c_F hk rfl ?_
 refine (wpIn_skip (x_t ?_))
 refine wS (wS (wR ?_))
 refine q_v hk (w_mv rfl) fun a hk => ?_
 refine q_v hk (w_len rfl Tryz.underlying34) fun a hk => ?_
 refine q_v hk (w_ld1 rfl ty51 (.blk (n := 1) (hs.mi 0 rfl) rfl)) fun a hk => ?_
 refine q_v hk (w_len rfl Tryz.underlying51) fun a hk => ?_
 refine q_v hk (w_ne rfl rfl (decide_eq_false (by omega))) fun a hk => ?_
 refine c_end (x_t ?_)
 refine c_F hk rfl ?_
 refine (wpIn_skip (x_t ?_))
 refine wS (wR ?_)
 refine q_v hk (w_ld1 rfl ty60 (.blk (n := 1) (hs.mi 2 rfl) rfl)) fun a hk => ?_
 refine q_v hk (w_ldA rfl ty120 (.blk (n := 14) (hs.mi 1 rfl) rfl) rfl) fun a hk => ?_
 refine q_v hk (w_mv rfl) fun a hk => ?_
 have hs := hs.up3
 refine q_call (caps := []) hk rfl rfl Tryz.func116 fo116 rfl rfl (weights_m0 s n lc la v t evs _ _ hs hT (hL.cons) h0 hn hv hd (by omega)) ?_
 rintro _ w ⟨b4, r5, rfl, ht6, hs⟩
 have hT := ht6
 refine ⟨_, rfl, fun a hk => ?_⟩
 refine q_v hk (w_mv rfl) fun a hk => ?_
 refine q_v hk (w_ext rfl rfl) fun a hk => ?_
 refine q_v hk (w_ext rfl rfl) fun a hk => ?_
 refine q_alc (vs := [.slice none 0 0]) hk hs zr51 rfl rfl rfl fun b7 w a hk hs => ?_
 refine q_sto (o := 0) (cs := [.slice (some ⟨b4, 0, none⟩) n n]) (vs' := [.slice (some ⟨b4, 0, none⟩) n n]) hk hs rfl rfl rfl ty51 rfl rfl rfl rfl rfl rfl fun w hs => ?_
 refine q_v hk (w_as rfl) fun a hk => ?_
 refine c_end (x_t (wS (wR ?_)))
 refine q_v hk (w_ldA rfl ty120 (.blk (n := 14) (hs.mi 4 rfl) rfl) rfl) fun a hk => ?_
 refine q_v hk (w_mv rfl) fun a hk => ?_
 refine q_call (caps := []) hk rfl rfl Tryz.func117 fo117 rfl rfl (points_m s n lc la v _ (hs.hasR (hL.cons)) (by omega) hv) ?_
 rintro _ w ⟨b8, rfl, hs⟩
 have hs := hs.subR (R' := ((lst 4 (.slice ya n yc) n (en vq (fun i => mq (py i)) n)) :: R)) (by simp +contextual)
 refine ⟨_, rfl, fun a hk => ?_⟩
 refine q_v hk (w_as rfl) fun a hk => ?_
 have hs := hs.frz (r := lst 4 (.slice (some ⟨b8, 0, none⟩) n n) n (en vq (fun i => mq (pt s v i)) n)) (blk_lst (hs.mi 0 rfl) (en_len vq_len) (Nat.le_refl _)) (fun _ h => (Option.some.inj h.2).symm)
 refine c_end (x_t (wS (wR ?_)))
 refine q_v hk (w_ldA rfl ty120 (.blk (n := 14) (hs.mi 4 rfl) rfl) rfl) fun a hk => ?_
 refine q_v hk (w_mv rfl) fun a hk => ?_
 refine q_call (caps := []) hk rfl rfl Tryz.func118 fo118 rfl rfl (master_m s n n (some ⟨b8, 0, none⟩) (pt s v) _ (hs.hasR (HasR.nth 0 rfl)) (by omega)) ?_
 rintro _ w ⟨b9, rfl, hs⟩
 have hs := hs.subR (R' := ((lst 4 (.slice (some ⟨b8, 0, none⟩) n n) n (en vq (fun i => mq (pt s v i)) n)) :: (lst 4 (.slice ya n yc) n (en vq (fun i => mq (py i)) n)) :: R)) (by simp +contextual)
 refine ⟨_, rfl, fun a hk => ?_⟩
 refine q_v hk (w_as rfl) fun a hk => ?_
 have hs := hs.frz (r := lst 4 (.slice (some ⟨b9, 0, none⟩) (n + 1) (n + 1)) (n + 1) (en vq (fun i => mq (mst (pt s v) n i)) (n + 1))) (blk_lst (hs.mi 0 rfl) (en_len vq_len) (Nat.le_refl _)) (fun _ h => (Option.some.inj h.2).symm)
 refine c_end (x_t (wS (wR ?_)))
 refine q_v hk (w_mv rfl) fun a hk => ?_
 refine q_v hk (w_len rfl Tryz.underlying51) fun a hk => ?_
 refine q_mks (k := n) (cs := vq 0) hk hs rfl rfl Tryz.underlying51 ty56 zr56 (by kernel_rfl) rfl rfl rfl rfl (by omega) (by omega) rfl rfl fun b10 w a hk hs => ?_
 have hs := hs.rw0 (show _ = blk b10 (en vq (fun _ => 0) n) 56 from rfl)
 refine q_alc (vs := [.slice none 0 0]) hk hs zr51 rfl rfl rfl fun b11 w a hk hs => ?_
 refine q_sto (o := 0) (cs := [.slice (some ⟨b10, 0, none⟩) n n]) (vs' := [.slice (some ⟨b10, 0, none⟩) n n]) hk hs rfl rfl rfl ty51 rfl rfl rfl rfl rfl rfl fun w hs => ?_
 refine c_end (x_t (wS (wR ?_)))
 refine q_v hk (w_mkf (frees := [.tmp 5, .tmp 11, .tmp 7, .tmp 15, .tmp 4]) rfl) fun a hk => ?_
 refine q_v hk (w_as rfl) fun a hk => ?_
 refine c_end (x_t (wS (wS (wR ?_))))
 refine q_v hk (w_mv rfl) fun a hk => ?_
 refine q_v hk (w_len rfl Tryz.underlying51) fun a hk => ?_
 refine q_v hk (w_mv rfl) fun a hk => ?_
 refine c_end (x_t ?_)
 refine wpIn_block ?_
 have hs := hs.up4
 have hs := hs.frz (r := lst 4 (.slice (some ⟨b4, 0, none⟩) n n) n (en vq (fun i => mq (wgt (pt s v) n i)) n)) (blk_lst (hs.mi 0 rfl) (en_len vq_len) (Nat.le_refl _)) (fun _ h => (Option.some.inj h.2).symm)
 have hs := hs.up6
 have hs := hs.frz (r := blk b1 [tval t] 60) (hs.okM _ (.head _)) (fun _ h => h)
 have hs := hs.up5
 have hs := hs.frz (r := blk b2 (fieldL s) 120) (hs.okM _ (.head _)) (fun _ h => h)
 have hs := hs.up4
 have hs := hs.frz (r := blk b3 [.slice ya n yc] 51) (hs.okM _ (.head _)) (fun _ h => h)
 have hs := hs.up2
 have hs := hs.frz (r := blk b7 [.slice (some ⟨b4, 0, none⟩) n n] 51) (hs.okM _ (.head _)) (fun _ h => h)
 have hs := hs.frz (r := blk b11 [.slice (some ⟨b10, 0, none⟩) n n] 51) (hs.okM _ (.head _)) (fun _ h => h)
 have hs := hs.rw0 (congrArg (fun q => blk b10 q 56) (itp_zero (x := pt s v) (y := py) (n := n)))
 refine c_loop (α := Nat) (fun u a w => ∃ (r : Res), u ≤ n ∧ TapeIs t (evs ++ weightsE (n : Int) ++ upE 0 ((u : Nat) : Int) (pairT n)) r ∧ Kn [] 68 [(49, .int .i64 ((u : Nat) : Int)), (48, .int .i64 ((n : Nat) : Int)), (16, .func (.func 128) #[] #[.pointer (some ⟨b2, 0, none⟩), .pointer (some ⟨b7, 0, none⟩), .pointer (some ⟨b3, 0, none⟩), .pointer (some ⟨b11, 0, none⟩), .pointer (some ⟨b1, 0, none⟩)]), (15, .pointer (some ⟨b11, 0, none⟩)), (14, .slice (some ⟨b9, 0, none⟩) (n + 1) (n + 1)), (13, .slice (some ⟨b8, 0, none⟩) n n), (9, .int .i64 0), (8, .slice none 0 0), (5, .pointer (some ⟨b2, 0, none⟩))] a ∧ Sat F0 W ((blk b10 (en vq (fun i => mq (itp (pt s v) py n u i)) n) 56) :: r :: M) ((blk b11 [.slice (some ⟨b10, 0, none⟩) n n] 51) :: (blk b7 [.slice (some ⟨b4, 0, none⟩) n n] 51) :: (blk b3 [.slice ya n yc] 51) :: (blk b2 (fieldL s) 120) :: (blk b1 [tval t] 60) :: (lst 4 (.slice (some ⟨b4, 0, none⟩) n n) n (en vq (fun i => mq (wgt (pt s v) n i)) n)) :: (lst 4 (.slice (some ⟨b9, 0, none⟩) (n + 1) (n + 1)) (n + 1) (en vq (fun i => mq (mst (pt s v) n i)) (n + 1))) :: (lst 4 (.slice (some ⟨b8, 0, none⟩) n n) n (en vq (fun i => mq (pt s v i)) n)) :: (lst 4 (.slice ya n yc) n (en vq (fun i => mq (py i)) n)) :: R) w) (fun u => n - u) 0 ?_ ?_
 · exact ⟨_, (by omega), (by rw [upE_nil (by omega), List.append_nil]; exact hT), hk.k rfl (hk.k rfl (hk.k rfl (hk.k rfl (hk.k rfl (hk.k rfl (hk.k rfl (hk.k rfl (hk.k rfl hk.nil)))))))), hs⟩
 rintro u a w ⟨r, hf0, hf1, hk, hs⟩
 have hT := hf1
 have hlw := weights_len (n := (n : Int)) (by omega)
 have hlu := pairTs_len (n := n) (u := u)
 have hun : u * n ≤ 1000 * 1000 := Nat.mul_le_mul (by omega) (by omega)
 refine wS (wR ?_)
 rcases Classical.em (((u : Nat) : Int) < ((n : Nat) : Int)) with hc12 | hc12
 ·
  refine q_v hk (w_lt rfl rfl (decide_eq_true hc12)) fun a hk => ?_
  refine c_end (x_t (wS ?_))
  refine c_T hk rfl ?_
  refine (wpIn_skip (x_t ?_))
  refine wS ?_
  refine wpIn_block ?_
  refine wS (wR ?_)
  refine q_v hk (w_mv rfl) fun a hk => ?_
  refine q_v hk (w_as rfl) fun a hk => ?_
  refine c_end (x_t (wS ?_))
  have hL := okL.cons (hs.ri 3 rfl) (okL.cons (hs.ri 7 rfl) okL.nil)
  refine d_begin _ 13 (by kernel_rfl) rfl hs hL fun w hs hL => ?_
  refine d_join (n2 := 1) 4095 (fun a w => ∃ (b1_6 : Nat) (b1_10 : Nat), Kn [] 68 [(18, .slice (some ⟨b1_6, 0, none⟩) (n + 1 - 1) (n + 1 - 1)), (19, .pointer (some ⟨b1_10, 0, none⟩)), (61, vec (mq (Hn (mst (pt s v) n) (n + 1) (pt s v u) (n + 1)))), (60, .slice (some ⟨b1_6, 0, none⟩) (n + 1 - 1) (n + 1 - 1)), (52, .tuple #[.slice (some ⟨b1_6, 0, none⟩) (n + 1 - 1) (n + 1 - 1), vec (mq (Hn (mst (pt s v) n) (n + 1) (pt s v u) (n + 1)))]), (59, .tuple #[.slice (some ⟨b1_6, 0, none⟩) (n + 1 - 1) (n + 1 - 1), vec (mq (Hn (mst (pt s v) n) (n + 1) (pt s v u) (n + 1)))]), (58, vec (mq (pt s v u))), (57, .pointer (some ((adq (some ⟨b8, 0, none⟩)).add (u * 4)))), (56, .int .i64 ((u : Nat) : Int)), (55, .slice (some ⟨b8, 0, none⟩) n n), (54, .slice (some ⟨b9, 0, none⟩) (n + 1) (n + 1)), (53, fieldV s), (17, .int .i64 ((u : Nat) : Int)), (51, .int .i64 ((u : Nat) : Int)), (50, .bool true), (49, .int .i64 ((u : Nat) : Int)), (48, .int .i64 ((n : Nat) : Int)), (16, .func (.func 128) #[] #[.pointer (some ⟨b2, 0, none⟩), .pointer (some ⟨b7, 0, none⟩), .pointer (some ⟨b3, 0, none⟩), .pointer (some ⟨b11, 0, none⟩), .pointer (some ⟨b1, 0, none⟩)]), (15, .pointer (some ⟨b11, 0, none⟩)), (14, .slice (some ⟨b9, 0, none⟩) (n + 1) (n + 1)), (13, .slice (some ⟨b8, 0, none⟩) n n), (9, .int .i64 0), (8, .slice none 0 0), (5, .pointer (some ⟨b2, 0, none⟩))] a ∧ Sat F0 W ((blk b1_10 [.int .u64 0, .int .u64 0, .int .u64 0, .int .u64 0] 56) :: (blk b1_6 (en vq (fun i => mq (Hn (mst (pt s v) n) (n + 1) (pt s v u) (n + 1 - 1 - i))) (n + 1 - 1)) 56) :: (blk b10 (en vq (fun i => mq (itp (pt s v) py n u i)) n) 56) :: r :: M) ((blk b11 [.slice (some ⟨b10, 0, none⟩) n n] 51) :: (blk b7 [.slice (some ⟨b4, 0, none⟩) n n] 51) :: (blk b3 [.slice ya n yc] 51) :: (blk b2 (fieldL s) 120) :: (blk b1 [tval t] 60) :: (lst 4 (.slice (some ⟨b4, 0, none⟩) n n) n (en vq (fun i => mq (wgt (pt s v) n i)) n)) :: (lst 4 (.slice (some ⟨b9, 0, none⟩) (n + 1) (n + 1)) (n + 1) (en vq (fun i => mq (mst (pt s v) n i)) (n + 1))) :: (lst 4 (.slice (some ⟨b8, 0, none⟩) n n) n (en vq (fun i => mq (pt s v i)) n)) :: (lst 4 (.slice ya n yc) n (en vq (fun i => mq (py i)) n)) :: R) w ∧ okL [blk b2 (fieldL s) 120, lst 4 (.slice (some ⟨b8, 0, none⟩) n n) n (en vq (fun i => mq (pt s v i)) n)] w) ?_ ?_
  ·
   intro hJ4095
   refine d_w 0 1 hk hL rfl (fun w hL => w_ldA rfl ty120 (.blk (n := 14) (hL.at 0 rfl) rfl) rfl) fun a hk => ?_
   refine d_w 1 3 hk hL rfl (fun w hL => w_mv rfl) fun a hk => ?_
   refine d_w 2 7 hk hL rfl (fun w hL => w_mv rfl) fun a hk => ?_
   refine d_w 3 15 hk hL rfl (fun w hL => w_mv rfl) fun a hk => ?_
   refine d_w 4 31 hk hL rfl (fun w hL => w_iaL (k := u) rfl rfl Tryz.underlying51 ty56 (hL.at 1 rfl) (by omega) (by omega)) fun a hk => ?_
   refine d_w 5 63 hk hL rfl (fun w hL => w_ldv (z := mq (pt s v u)) rfl ty56 (lstq (k := u) (hL.at 1 rfl) (by omega) (en_chunk vq_len (by omega)))) fun a hk => ?_
   refine d_2 6 10 127 1087 rfl rfl (by kernel_rfl) (fun K hK => ?_) (fun K hK => ?_)
   ·
    have hs := hs.none
    refine q_call (caps := []) hk rfl rfl Tryz.func119 fo119 rfl rfl (quot_m s (n + 1) (n + 1) (some ⟨b9, 0, none⟩) (mst (pt s v) n) (pt s v u) none [] _ _ hs rfl (HasR.nth 6 rfl) (by omega) (by omega) (by decide)) ?_
    rintro _ w ⟨b1_6, r1_6b, rfl, ht1_6c, hs⟩
    have hs := hs.drop
    refine ⟨_, rfl, fun a hk => ?_⟩
    have hL := okL.cons (hs.ri 3 rfl) (okL.cons (hs.ri 7 rfl) okL.nil)
    refine c_end (x_t (hK _ _ hL ?_))
    clear hK K
    refine d_w 7 255 hk hL rfl (fun w hL => w_mv rfl) fun a hk => ?_
    refine d_w 8 511 hk hL rfl (fun w hL => w_ext rfl rfl) fun a hk => ?_
    refine d_w 9 1023 hk hL rfl (fun w hL => w_ext rfl rfl) fun a hk => ?_
    refine d_1 10 2047 rfl (by kernel_rfl) fun K hK => ?_
    refine q_alc (vs := [.int .u64 0, .int .u64 0, .int .u64 0, .int .u64 0]) hk hs zr56 rfl rfl rfl fun b1_10 w a hk hs => ?_
    have hL := okL.cons (hs.ri 3 rfl) (okL.cons (hs.ri 7 rfl) okL.nil)
    refine c_end (x_t (hK _ _ hL ?_))
    clear hK K
    refine d_w 11 4095 hk hL rfl (fun w hL => w_as rfl) fun a hk => ?_
    have hL := okL.cons (hs.ri 3 rfl) (okL.cons (hs.ri 7 rfl) okL.nil)
    exact hJ4095 _ _ ⟨_, _, hk.k rfl (hk.k rfl (hk.k rfl (hk.k rfl (hk.k rfl (hk.k rfl (hk.k rfl (hk.k rfl (hk.k rfl (hk.k rfl (hk.k rfl (hk.k rfl (hk.k rfl (hk.k rfl (hk.k rfl (hk.k rfl (hk.k rfl (hk.k rfl (hk.k rfl (hk.k rfl (hk.k rfl (hk.k rfl (hk.k rfl (hk.k rfl hk.nil))))))))))))))))))))))), hs, hL⟩
   ·
    refine q_alc (vs := [.int .u64 0, .int .u64 0, .int .u64 0, .int .u64 0]) hk hs zr56 rfl rfl rfl fun b1_10 w a hk hs => ?_
    have hL := okL.cons (hs.ri 3 rfl) (okL.cons (hs.ri 7 rfl) okL.nil)
    refine c_end (x_t (hK _ _ hL ?_))
    clear hK K
    refine d_1 6 1151 rfl (by kernel_rfl) fun K hK => ?_
    have hs := hs.none
    refine q_call (caps := []) hk rfl rfl Tryz.func119 fo119 rfl rfl (quot_m s (n + 1) (n + 1) (some ⟨b9, 0, none⟩) (mst (pt s v) n) (pt s v u) none [] _ _ hs rfl (HasR.nth 6 rfl) (by omega) (by omega) (by decide)) ?_
    rintro _ w ⟨b1_6, r1_6b, rfl, ht1_6c, hs⟩
    have hs := hs.drop
    refine ⟨_, rfl, fun a hk => ?_⟩
    have hL := okL.cons (hs.ri 3 rfl) (okL.cons (hs.ri 7 rfl) okL.nil)
    refine c_end (x_t (hK _ _ hL ?_))
    clear hK K
    refine d_w 7 1279 hk hL rfl (fun w hL => w_mv rfl) fun a hk => ?_
    refine d_w 8 1535 hk hL rfl (fun w hL => w_ext rfl rfl) fun a hk => ?_
    refine d_w 9 2047 hk hL rfl (fun w hL => w_ext rfl rfl) fun a hk => ?_
    refine d_w 11 4095 hk hL rfl (fun w hL => w_as rfl) fun a hk => ?_
    have hs := hs.up3
    have hs := hs.up3
    have hs := hs.up2
    have hs := hs.up3
    have hL := okL.cons (hs.ri 3 rfl) (okL.cons (hs.ri 7 rfl) okL.nil)
    exact hJ4095 _ _ ⟨_, _, hk.k rfl (hk.k rfl (hk.k rfl (hk.k rfl (hk.k rfl (hk.k rfl (hk.k rfl (hk.k rfl (hk.k rfl (hk.k rfl (hk.k rfl (hk.k rfl (hk.k rfl (hk.k rfl (hk.k rfl (hk.k rfl (hk.k rfl (hk.k rfl (hk.k rfl (hk.k rfl (hk.k rfl (hk.k rfl (hk.k rfl (hk.k rfl hk.nil))))))))))))))))))))))), hs, hL⟩
  ·
   rintro a w ⟨b1_6, b1_10, hk, hs, hL⟩
   refine d_1 12 8191 rfl (by kernel_rfl) fun K hK => ?_
   refine q_sto (o := 0) (cs := [.int .u64 ((dg 0 (mq (Hn (mst (pt s v) n) (n + 1) (pt s v u) (n + 1))) : Nat) : Int), .int .u64 ((dg 1 (mq (Hn (mst (pt s v) n) (n + 1) (pt s v u) (n + 1))) : Nat) : Int), .int .u64 ((dg 2 (mq (Hn (mst (pt s v) n) (n + 1) (pt s v u) (n + 1))) : Nat) : Int), .int .u64 ((dg 3 (mq (Hn (mst (pt s v) n) (n + 1) (pt s v u) (n + 1))) : Nat) : Int)]) (vs' := [.int .u64 ((dg 0 (mq (Hn (mst (pt s v) n) (n + 1) (pt s v u) (n + 1))) : Nat) : Int), .int .u64 ((dg 1 (mq (Hn (mst (pt s v) n) (n + 1) (pt s v u) (n + 1))) : Nat) : Int), .int .u64 ((dg 2 (mq (Hn (mst (pt s v) n) (n + 1) (pt s v u) (n + 1))) : Nat) : Int), .int .u64 ((dg 3 (mq (Hn (mst (pt s v) n) (n + 1) (pt s v u) (n + 1))) : Nat) : Int)]) hk hs rfl rfl rfl ty56 rfl rfl rfl rfl rfl rfl fun w hs => ?_
   have hL := okL.cons (hs.ri 3 rfl) (okL.cons (hs.ri 7 rfl) okL.nil)
   refine c_end (x_t (hK _ _ hL ?_))
   clear hK K
   refine d_end (by kernel_rfl) ?_
   refine (x_t ?_)
   refine wR ?_
   refine q_v hk (w_mv rfl) fun a hk => ?_
   refine q_v hk (w_mv rfl) fun a hk => ?_
   refine q_v hk (w_mv rfl) fun a hk => ?_
   have hs := hs.up1
   have hs := hs.frz (r := lst 4 (.slice (some ⟨b1_6, 0, none⟩) (n + 1 - 1) (n + 1 - 1)) (n + 1 - 1) (en vq (fun i => mq (Hn (mst (pt s v) n) (n + 1) (pt s v u) (n + 1 - 1 - i))) (n + 1 - 1))) (blk_lst (hs.mi 0 rfl) (en_len vq_len) (Nat.le_refl _)) (fun _ h => (Option.some.inj h.2).symm)
   have hs := hs.up1
   have hs := hs.up2
   have hFF : HasR (rall [blk b2 (fieldL s) 120, blk b7 [.slice (some ⟨b4, 0, none⟩) n n] 51, lst 4 (.slice (some ⟨b4, 0, none⟩) n n) n (en vq (fun i => mq (wgt (pt s v) n i)) n), blk b3 [.slice ya n yc] 51, lst 4 (.slice ya n yc) n (en vq (fun i => mq (py i)) n), blk b11 [.slice (some ⟨b10, 0, none⟩) n n] 51, blk b1 [tval t] 60]) ((lst 4 (.slice (some ⟨b1_6, 0, none⟩) (n + 1 - 1) (n + 1 - 1)) (n + 1 - 1) (en vq (fun i => mq (Hn (mst (pt s v) n) (n + 1) (pt s v u) (n + 1 - 1 - i))) (n + 1 - 1))) :: (blk b11 [.slice (some ⟨b10, 0, none⟩) n n] 51) :: (blk b7 [.slice (some ⟨b4, 0, none⟩) n n] 51) :: (blk b3 [.slice ya n yc] 51) :: (blk b2 (fieldL s) 120) :: (blk b1 [tval t] 60) :: (lst 4 (.slice (some ⟨b4, 0, none⟩) n n) n (en vq (fun i => mq (wgt (pt s v) n i)) n)) :: (lst 4 (.slice (some ⟨b9, 0, none⟩) (n + 1) (n + 1)) (n + 1) (en vq (fun i => mq (mst (pt s v) n i)) (n + 1))) :: (lst 4 (.slice (some ⟨b8, 0, none⟩) n n) n (en vq (fun i => mq (pt s v i)) n)) :: (lst 4 (.slice ya n yc) n (en vq (fun i => mq (py i)) n)) :: R) := (.rall fun q hq => by simp only [List.mem_cons, List.not_mem_nil, or_false] at hq; rcases hq with rfl | rfl | rfl | rfl | rfl | rfl | rfl <;> exact HasR.of (by simp))
   refine q_call (caps := [.pointer (some ⟨b2, 0, none⟩), .pointer (some ⟨b7, 0, none⟩), .pointer (some ⟨b3, 0, none⟩), .pointer (some ⟨b11, 0, none⟩), .pointer (some ⟨b1, 0, none⟩)]) hk rfl rfl Tryz.func128 fo128 rfl rfl (iadd_m s n u b2 b7 b3 b11 b1 b4 b10 b1_6 yc ya (wgt (pt s v) n) py (itp (pt s v) py n u) (fun k => Hn (mst (pt s v) n) (n + 1) (pt s v u) (n + 1 - 1 - k)) t (evs ++ weightsE (n : Int) ++ upE 0 ((u : Nat) : Int) (pairT n)) _ _ hs hFF (HasR.nth 0 rfl) hT (by omega) (by omega) (by simp only [List.length_append]; omega)) ?_
   rintro _ w ⟨v13, r14, rfl, hT, hs⟩
   have hs : Sat F0 W (r14 :: (blk b10 (en vq (fun i => mq (itp (pt s v) py n (u + 1) i)) n) 56) :: (blk b1_10 [.int .u64 ((dg 0 (mq (Hn (mst (pt s v) n) (n + 1) (pt s v u) (n + 1))) : Nat) : Int), .int .u64 ((dg 1 (mq (Hn (mst (pt s v) n) (n + 1) (pt s v u) (n + 1))) : Nat) : Int), .int .u64 ((dg 2 (mq (Hn (mst (pt s v) n) (n + 1) (pt s v u) (n + 1))) : Nat) : Int), .int .u64 ((dg 3 (mq (Hn (mst (pt s v) n) (n + 1) (pt s v u) (n + 1))) : Nat) : Int)] 56) :: M) ((lst 4 (.slice (some ⟨b1_6, 0, none⟩) (n + 1 - 1) (n + 1 - 1)) (n + 1 - 1) (en vq (fun i => mq (Hn (mst (pt s v) n) (n + 1) (pt s v u) (n + 1 - 1 - i))) (n + 1 - 1))) :: (blk b11 [.slice (some ⟨b10, 0, none⟩) n n] 51) :: (blk b7 [.slice (some ⟨b4, 0, none⟩) n n] 51) :: (blk b3 [.slice ya n yc] 51) :: (blk b2 (fieldL s) 120) :: (blk b1 [tval t] 60) :: (lst 4 (.slice (some ⟨b4, 0, none⟩) n n) n (en vq (fun i => mq (wgt (pt s v) n i)) n)) :: (lst 4 (.slice (some ⟨b9, 0, none⟩) (n + 1) (n + 1)) (n + 1) (en vq (fun i => mq (mst (pt s v) n i)) (n + 1))) :: (lst 4 (.slice (some ⟨b8, 0, none⟩) n n) n (en vq (fun i => mq (pt s v i)) n)) :: (lst 4 (.slice ya n yc) n (en vq (fun i => mq (py i)) n)) :: R) w := hs
   have hs := hs.subR (R' := ((blk b11 [.slice (some ⟨b10, 0, none⟩) n n] 51) :: (blk b7 [.slice (some ⟨b4, 0, none⟩) n n] 51) :: (blk b3 [.slice ya n yc] 51) :: (blk b2 (fieldL s) 120) :: (blk b1 [tval t] 60) :: (lst 4 (.slice (some ⟨b4, 0, none⟩) n n) n (en vq (fun i => mq (wgt (pt s v) n i)) n)) :: (lst 4 (.slice (some ⟨b9, 0, none⟩) (n + 1) (n + 1)) (n + 1) (en vq (fun i => mq (mst (pt s v) n i)) (n + 1))) :: (lst 4 (.slice (some ⟨b8, 0, none⟩) n n) n (en vq (fun i => mq (pt s v i)) n)) :: (lst 4 (.slice ya n yc) n (en vq (fun i => mq (py i)) n)) :: R)) (by simp +contextual)
   refine ⟨_, rfl, fun a hk => ?_⟩
   refine (c_end (x_b (x_t ?_)))
   refine wR ?_
   refine q_v hk (w_add rfl rfl (wr64 (by omega) (by omega))) fun a hk => ?_
   refine q_v hk (w_mv rfl) fun a hk => ?_
   refine c_end (x_t ?_)
   rw [pt_row] at hT
   have hs := hs.up2
   have hs := hs.drop
   have hs := hs.up1
   exact ⟨u + 1, ⟨_, (by omega), hT, hk.k rfl (hk.k rfl (hk.k rfl (hk.k rfl (hk.k rfl (hk.k rfl (hk.k rfl (hk.k rfl (hk.k rfl hk.nil)))))))), hs⟩, by omega⟩
 ·
  refine q_v hk (w_lt rfl rfl (decide_eq_false hc12)) fun a hk => ?_
  refine c_end (x_t (wS ?_))
  refine c_F hk rfl ?_
  refine (wpIn_exit (x_te (x_te (x_be ?_))))
  refine (x_t ?_)
  refine wS (wR ?_)
  refine q_v hk (w_ld1 rfl ty51 (.blk (n := 1) (hs.ri 0 rfl) rfl)) fun a hk => ?_
  refine q_v hk (w_as rfl) fun a hk => ?_
  refine q_v hk (w_as rfl) fun a hk => ?_
  refine c_end (x_t ?_)
  refine (wpIn_ret ?_)
  refine c_ret2 hk rfl rfl rfl ?_
  have hs := hs.up1
  have hs := hs.toR (R' := R) (fun r hr => .of (by simp [hr]))
  have hun : u = n := by omega
  rw [hun] at hs hT
  exact ⟨_, _, rfl, by unfold interpE; rw [← List.append_assoc]; exact hT, hs⟩
end Go.Proofs.YtdnkkbmpefhbjaaGreatDoor
namespace Go.Proofs.YtdnkkbmpefhbjaaGreatDoor
set_option linter.all false
open Go Go.RowKit Alg
theorem interp_len2 {n : Nat} (h : n ≤ 255) : (interpE (n : Int)).length ≤ 140000 := by
  have h1 := weights_len (n := (n : Int)) (by omega)
  have h2 : (upE 0 (n : Int) (pairT n)).length ≤ n * n := pairTs_len
  have h3 : n * n ≤ 255 * 255 := Nat.mul_le_mul h h
  have e : interpE (n : Int) = weightsE (n : Int) ++ upE 0 (n : Int) (pairT n) := rfl
  rw [e, List.length_append]; omega
end Go.Proofs.YtdnkkbmpefhbjaaGreatDoor
namespace Go.Proofs.YtdnkkbmpefhbjaaGreatDoor
set_option linter.all false
open Go Go.RowKit Alg
structure Good (s : Bool) (S : Nat → Shr) (m : Nat) : Prop where
  m0 : 0 < m
  F : ∀ i, i < m → (S i).F = fid s
  T : ∀ i, i < m → (S i).T = (S 0).T
  Lq : ∀ i, i < m → (S i).L = (S 0).L
  n : ∀ i, i < m → (S i).n = (S 0).n
  idx : ∀ i, i < m → 1 ≤ (S i).I ∧ (S i).I ≤ 255
  app : ∀ i k, i < k → k < m → (S i).I ≠ (S k).I
  X : ∀ i, i < m → ∀ j, j < (S 0).n → (S i).X j < pr s
  t1 : 1 ≤ (S 0).T
  tm : (S 0).T ≤ (m : Int)
  l0 : 0 ≤ (S 0).L
  l1 : (S 0).L ≤ 65535
  cn : (S 0).n = cn (S 0).L
/-- The indices, the threshold as numbers; a column's elements. -/
def vI (S : Nat → Shr) (i : Nat) : Nat := (S i).I.toNat
def thN (S : Nat → Shr) : Nat := (S 0).T.toNat
def clz (s : Bool) (S : Nat → Shr) (ch i : Nat) : Zp s := mz s ((S i).X ch)
section
variable {s : Bool} {S : Nat → Shr} {m : Nat} (g : Good s S m)
include g
theorem Good.v_eq {i : Nat} (hi : i < m) : (S i).I = ((vI S i : Nat) : Int) := by have := g.idx i hi; unfold vI; omega
theorem Good.v_le (i : Nat) (hi : i < m) : 1 ≤ vI S i ∧ vI S i ≤ 255 := by have := g.idx i hi; unfold vI; omega
theorem Good.v_ne (i k : Nat) (hik : i < k) (hk : k < m) : vI S i ≠ vI S k := fun h => g.app i k hik hk (by rw [g.v_eq (Nat.lt_trans hik hk), g.v_eq hk, h])
theorem Good.th : (S 0).T = ((thN S : Nat) : Int) := by have := g.t1; unfold thN; omega
theorem Good.th_le : 1 ≤ thN S ∧ thN S ≤ m := by have := g.t1; have := g.tm; unfold thN; omega
theorem Good.xs_eq : en ic (fun i => (S i).I) m = en ic (fun i => ((vI S i : Nat) : Int)) m := en_congr fun i hi => g.v_eq hi
theorem Good.col_eq {ch : Nat} (hc : ch < (S 0).n) : en vq (fun i => (S i).X ch) m = en vq (fun i => mq (clz s S ch i)) m := en_congr fun i hi => (mz_mq (g.X i hi ch hc)).symm
end
/-- The program's fields, as something that is only read. -/
def laidR : Res where
  foot := (· = 0)
  ok w := Laid w
  loc w w' h k := fun j v hv => by rw [cell?_block (h _ rfl)]; exact k j v hv
  lt w k h hk := by subst hk; exact h.pos
end Go.Proofs.YtdnkkbmpefhbjaaGreatDoor
namespace Go.Proofs.YtdnkkbmpefhbjaaGreatDoor
set_option linter.all false
open Go Go.RowKit Alg
end Go.Proofs.YtdnkkbmpefhbjaaGreatDoor
namespace Go.Proofs.YtdnkkbmpefhbjaaGreatDoor
set_option linter.all false
open Go Go.RowKit Alg
end Go.Proofs.YtdnkkbmpefhbjaaGreatDoor
namespace Go.Proofs.YtdnkkbmpefhbjaaGreatDoor
set_option linter.all false
open Go Go.RowKit Alg
theorem csE_zero {S : Nat → Shr} : ∀ {m : Nat}, csE S m = 0 ↔ ∀ k, k < m → shE (S k) = 0
  | 0 => ⟨fun _ k h => by omega, fun _ => rfl⟩
  | m + 1 => by
    have ih := csE_zero (S := S) (m := m)
    constructor
    · intro h
      have h' : (if csE S m ≠ 0 then csE S m else shE (S m)) = 0 := h
      by_cases hz : csE S m = 0
      · rw [if_neg (by simp [hz])] at h'
        intro k hk
        by_cases e : k = m
        · rw [e]; exact h'
        · exact ih.1 hz k (by omega)
      · rw [if_pos hz] at h'; exact absurd h' hz
    · intro h
      have hz := ih.2 fun k hk => h k (by omega)
      show (if csE S m ≠ 0 then csE S m else shE (S m)) = 0
      rw [if_neg (by simp [hz])]
      exact h m (by omega)
theorem mixS_false {S : Nat → Shr} {m : Nat} : mixS S m = false ↔ ∀ k, k < m → hdr (S k) = hdr (S 0) := by
  unfold mixS
  rw [List.any_eq_false]
  constructor
  · intro h k hk
    have := h k (List.mem_range.2 hk)
    simpa using this
  · intro h k hk
    simpa using h k (List.mem_range.1 hk)
theorem ksv_nodup {v : Nat → Int} {m : Nat} : (ksv v m).length = m ↔ ∀ i k, i < k → k < m → v i ≠ v k := by
  constructor
  · intro h
    have h1 := (ins_eq ((List.range m).map v) []).1 (by unfold ksv at h; simpa using h)
    have h2 := h1.1
    rw [List.nodup_iff_pairwise_ne, List.pairwise_map, List.pairwise_iff_getElem] at h2
    intro i k hik hk
    have := h2 i k (by simp; omega) (by simpa using hk) hik
    simpa using this
  · exact ksv_full
theorem ksv_le (v : Nat → Int) (m : Nat) : (ksv v m).length ≤ m := by
  have := ins_le ((List.range m).map v) []
  simpa [ksv] using this
/-- Nothing is wrong. -/
theorem csErr_zero {S : Nat → Shr} {m : Nat} : csErr S m = 0 ↔ (∀ k, k < m → shE (S k) = 0) ∧ (∀ k, k < m → hdr (S k) = hdr (S 0)) ∧ (∀ i k, i < k → k < m → (S i).I ≠ (S k).I) ∧ 0 < m ∧ (S 0).T ≤ (m : Int) := by
  unfold csErr
  rw [← csE_zero, ← mixS_false, ← ksv_nodup (v := fun i => (S i).I)]
  have hle := ksv_le (fun i => (S i).I) m
  by_cases h1 : csE S m = 0
  · rw [if_neg (by simp [h1])]
    cases h2 : mixS S m with
    | true => simp
    | false =>
      rw [if_neg (by simp)]
      by_cases h3 : (((ksv (fun i => (S i).I) m).length : Nat) : Int) < ((m : Nat) : Int)
      · rw [if_pos h3]
        constructor
        · intro h; cases h
        · rintro ⟨_, _, h, _⟩; omega
      · rw [if_neg h3]
        by_cases h4 : ((m : Nat) : Int) = 0 ∨ ((m : Nat) : Int) < (S 0).T
        · rw [if_pos h4]
          constructor
          · intro h; cases h
          · rintro ⟨_, _, _, h5, h6⟩; omega
        · rw [if_neg h4]
          constructor
          · intro _; exact ⟨h1, rfl, by omega, by omega, by omega⟩
          · intro _; rfl
  · rw [if_pos h1]
    constructor
    · intro h; exact absurd h h1
    · rintro ⟨h, _⟩; exact absurd h h1
theorem Good.err {s : Bool} {S : Nat → Shr} {m : Nat} (g : Good s S m) (hT : (S 0).T ≤ 255) : csErr S m = 0 := by
  refine csErr_zero.2 ⟨fun k hk => ?_, fun k hk => ?_, g.app, g.m0, g.tm⟩
  · unfold shE shErr
    have ho := fid_or s
    have hcn : (S k).n = Go.Proofs.YtdnkkbmpefhbjaaGreatDoor.cn (S k).L := by rw [g.n k hk, g.Lq k hk]; exact g.cn
    have hx : okB (decide ((S k).F = 2)) (S k).X (S k).n = true := by
      rw [g.F k hk, fid_dec]
      exact okB_of fun i hi => g.X k hk i (by rw [← g.n k hk]; exact hi)
    rw [if_pos (by rw [g.F k hk]; exact ho), if_pos (by rw [g.T k hk]; exact ⟨g.t1, hT⟩), if_pos (g.idx k hk), if_pos (by rw [g.Lq k hk]; exact ⟨g.l0, g.l1⟩), if_pos hcn, if_pos hx]
  · unfold hdr
    rw [g.F k hk, g.T k hk, g.Lq k hk, g.F 0 g.m0]
end Go.Proofs.YtdnkkbmpefhbjaaGreatDoor
namespace Go.Proofs.YtdnkkbmpefhbjaaGreatDoor
set_option linter.all false
open Go Go.RowKit Alg
theorem sla_zero {a : Option Addr} {m s : Nat} : sla a m 0 s = a := by
  unfold sla
  split
  · rfl
  · cases a with
    | none => rfl
    | some q => show some (q.add (0 * s)) = some q; rw [Nat.zero_mul]; rfl
theorem w_slc_eq {P : Program} {G : List (Nat × Value)} {o : Oper} {w : World} {a a' : Option Addr} {n n' c c' : Nat} (h : Wq P G o (.slice a n c) w w) (ha : a = a') (hn : n = n') (hc : c = c') : Wq P G o (.slice a' n' c') w w := by
  subst ha hn hc; exact h
section
variable {la : Option Addr} {m lc th : Nat} {S : Nat → Shr} {R M : List Res} {F0 : Nat → Prop} {W w : World}
theorem share_cap (h : HasR (shareR la m lc S) R) (hs : Sat F0 W M R w) : m ≤ lc := by
  obtain ⟨a, c, he, hc, _⟩ := ((share_lst h).at_ hs).at_
  cases he
  exact hc
theorem lst_take {n c th s : Nat} {xs ys : List Value} {r : Res} (hr : r = lst s (.slice la n c) n xs) (ht : th ≤ n) (hy : ys.length = th * s) (hxy : ∀ (j : Nat) (u : Value), ys[j]? = some u → xs[j]? = some u) : HasR (lst s (.slice la th c) th ys) [r] := by
  subst hr
  refine ⟨fun w hw => ?_, fun k hk => ⟨_, .head _, ?_⟩⟩
  · obtain ⟨a, c', he, hc, h0, h1⟩ := (hw _ (.head _)).at_
    cases he
    exact ⟨hy, la, c, rfl, Nat.le_trans ht hc, fun h => ⟨by have := (h0 h).1; omega, (h0 h).2⟩, fun ad ha hp => ⟨(h1 ad ha (by omega)).1, (h1 ad ha (by omega)).2.1, fun j u hj => (h1 ad ha (by omega)).2.2 j u (hxy j u hj)⟩⟩
  · have h1 := hk.1
    have h2 := hk.2
    exact ⟨by omega, by cases la <;> simpa [Value.ownBlock] using h2⟩
theorem en_take {α : Type} {c : α → List Value} {f : Nat → α} {th m s : Nat} (hl : ∀ x, (c x).length = s) (ht : th ≤ m) : ∀ (j : Nat) (u : Value), (en c f th)[j]? = some u → (en c f m)[j]? = some u := by
  intro j u h
  obtain ⟨d, rfl⟩ : ∃ d, m = th + d := ⟨m - th, by omega⟩
  have e : en c f (th + d) = en c f th ++ en c (fun i => f (th + i)) d := by
    unfold en
    rw [List.range_add, List.flatMap_append, List.flatMap_map]
  rw [e, List.getElem?_append_left (List.getElem?_eq_some_iff.1 h).1]
  exact h
/-- The first th shares. -/
theorem share_take (h : HasR (shareR la m lc S) R) (ht : th ≤ m) : HasR (shareR la th lc S) R := by
  refine .rall fun x hx => ?_
  simp only [List.mem_cons, List.not_mem_nil, or_false] at hx
  rcases hx with rfl | rfl
  · exact (lst_take rfl ht (en_len shc_len) (en_take shc_len ht)).trans (share_lst h)
  · refine .rall fun y hy => ?_
    obtain ⟨k, hk, rfl⟩ := List.mem_map.1 hy
    exact share_pay h (Nat.lt_of_lt_of_le (List.mem_range.1 hk) ht)
theorem Good.take {s : Bool} (g : Good s S m) : Good s S (thN S) := by
  have ht := g.th_le
  have h2 := g.th
  exact ⟨by omega, fun i hi => g.F i (by omega), fun i hi => g.T i (by omega), fun i hi => g.Lq i (by omega), fun i hi => g.n i (by omega), fun i hi => g.idx i (by omega), fun i k hik hk => g.app i k hik (by omega), fun i hi => g.X i (by omega), g.t1, by omega, g.l0, g.l1, g.cn⟩
end
/-- A function of a column. -/
def FunC (x : Nat × List Value) (s : Bool) (S : Nat → Shr) (m : Nat) (t : Option Nat) (G : Nat → Zp s) (es : List Ev) (rx : Res) : Prop :=
  ∃ fn, Tryz.prog.funcs[x.1]? = some fn ∧ (fn.name != "runtime.NumGoroutine" && fn.body.isSome) = true ∧ ∀ (F0 : Nat → Prop) (W : World) (M R : List Res) (w0 : World) (ya : Option Addr) (yc ch : Nat) (evs : List Ev) (r : Res), TapeIs t evs r → HasR rx R →
    HasR (lst 4 (.slice ya m yc) m (en vq (fun i => mq (clz s S ch i)) m)) R → ch < (S 0).n → evs.length ≤ 10000000 → Sat F0 W (r :: M) R w0 →
    Calls Tryz.prog x.1 (.slice ya m yc :: x.2).toArray w0 fun e w => ∃ r, e = .returned (.tuple #[vec (mq (G ch)), .int .i64 0]) ∧ TapeIs t (evs ++ es) r ∧ Sat F0 W (r :: M) R w
theorem each_next {E es : List Ev} {k : Nat} : E ++ eachE ((k : Nat) : Int) es ++ [(4, ((k : Nat) : Int), 0)] ++ es = E ++ eachE ((k + 1 : Nat) : Int) es := by
  have e := upE_succ (F := fun k => [(4, k, 0)] ++ es) (fr := 0) (x := (k : Int)) (by omega)
  rw [List.append_assoc, List.append_assoc, show eachE ((k : Nat) : Int) es = upE 0 (k : Int) (fun k => [(4, k, 0)] ++ es) from rfl, e]
  rfl
theorem eachk_len {es : List Ev} {k : Nat} : (eachE ((k : Nat) : Int) es).length ≤ k * (es.length + 1) := by
  have := upE_len (fr := 0) (to := (k : Int)) (F := fun k => [(4, k, 0)] ++ es) (B := es.length + 1) (fun i => by simp)
  simpa [eachE] using this
theorem used_m {F0 : Nat → Prop} {W : World} {M R : List Res} (s : Bool) (m lc : Nat) (la : Option Addr) (S : Nat → Shr) (w0 : World) (hs : Sat F0 W M R w0) (hS : HasR (shareR la m lc S) R) (hG : HasR laidR R) (HO : ShOk S m) (g : Good s S m) (hz : csErr S m = 0) (hm : m ≤ 255) : Calls Tryz.prog 78 [.slice la m lc].toArray w0 fun e w => e = .returned (.tuple #[fieldV s, .slice la (thN S) lc, .int .i64 0]) ∧ Sat F0 W M R w := by
 have hm0 := g.m0
 have hcap := share_cap hS hs
 have hth := g.th_le
 refine c_enter (args := [.slice la m lc]) Tryz.func78 rfl rfl rfl fun a hk => ?_
 refine wS (wR ?_)
 refine q_alc (vs := [.int .i64 0, .int .u64 0, .int .u64 0, .int .u64 0, .int .u64 0, .int .u64 0, .int .u64 0, .int .u64 0, .int .u64 0, .int .u64 0, .int .u64 0, .int .u64 0, .int .u64 0, .int .u64 0]) hk hs zr120 rfl rfl rfl fun b1 w a hk hs => ?_
 refine q_v hk (w_as rfl) fun a hk => ?_
 refine q_v hk (w_as rfl) fun a hk => ?_
 refine c_end (x_t (wS (wS (wR ?_))))
 refine q_v hk (w_mv rfl) fun a hk => ?_
 refine q_call (caps := []) hk rfl rfl Tryz.func60 fo60 rfl rfl (ckShares_c m lc la S _ ((hS).at_ hs) HO ((hG).at_ hs)) ?_
 rintro _ w ⟨rfl, hb⟩
 have hs := hs.below hb
 refine ⟨_, rfl, fun a hk => ?_⟩
 refine q_v hk (w_as rfl) fun a hk => ?_
 refine c_end (x_t (wS (wR ?_)))
 refine q_v hk (w_mv rfl) fun a hk => ?_
 refine q_v hk (w_ne rfl rfl (decide_eq_false (by omega))) fun a hk => ?_
 refine c_end (x_t ?_)
 refine c_F hk rfl ?_
 refine (wpIn_skip (x_t ?_))
 refine wS (wR ?_)
 refine q_v hk (w_mv rfl) fun a hk => ?_
 refine q_v hk (w_iaL (k := 0) rfl rfl Tryz.underlying22 ty53 ((share_lst hS).at_ hs) (by omega) (by omega)) fun a hk => ?_
 refine q_v hk (w_fa rfl fq53_0 ty3) fun a hk => ?_
 refine q_v hk (w_ld1 rfl ty3 (ic_eq (g.F 0 g.m0) (lstf (k := 0) (o := 0) (m := 1) ((share_lst hS).at_ hs) (by omega) (en_chunk shc_len (by omega)) rfl))) fun a hk => ?_
 refine q_call (caps := []) hk rfl rfl Tryz.func85 fo85 rfl rfl (get_c s _ ((hG).at_ hs)) ?_
 rintro _ w ⟨rfl, hb⟩
 have hs := hs.below hb
 refine ⟨_, rfl, fun a hk => ?_⟩
 refine q_v hk (w_mv rfl) fun a hk => ?_
 refine q_v hk (w_ext rfl rfl) fun a hk => ?_
 refine q_v hk (w_ext rfl rfl) fun a hk => ?_
 refine q_alc (vs := [.int .i64 0, .int .u64 0, .int .u64 0, .int .u64 0, .int .u64 0, .int .u64 0, .int .u64 0, .int .u64 0, .int .u64 0, .int .u64 0, .int .u64 0, .int .u64 0, .int .u64 0, .int .u64 0]) hk hs zr120 rfl rfl rfl fun b2 w a hk hs => ?_
 refine q_sto (o := 0) (cs := fieldL s) (vs' := fieldL s) hk hs rfl rfl rfl ty120 rfl rfl rfl rfl rfl rfl fun w hs => ?_
 refine q_v hk (w_as rfl) fun a hk => ?_
 refine c_end (x_t (wS ?_))
 have hL := okL.cons (hs.mi 0 rfl) (okL.cons ((share_lst hS).at_ hs) okL.nil)
 refine d_begin _ 11 (by kernel_rfl) rfl hs hL fun w hs hL => ?_
 refine d_w 0 1 hk hL rfl (fun w hL => w_ldA rfl ty120 (.blk (n := 14) (hL.at 0 rfl) rfl) rfl) fun a hk => ?_
 refine d_w 1 3 hk hL rfl (fun w hL => w_mv rfl) fun a hk => ?_
 refine d_w 2 7 hk hL rfl (fun w hL => w_mv rfl) fun a hk => ?_
 refine d_w 3 15 hk hL rfl (fun w hL => w_iaL (k := 0) rfl rfl Tryz.underlying22 ty53 (hL.at 1 rfl) (by omega) (by omega)) fun a hk => ?_
 refine d_w 4 31 hk hL rfl (fun w hL => w_fa rfl fq53_1 ty3) fun a hk => ?_
 refine d_w 5 63 hk hL rfl (fun w hL => w_ld1 rfl ty3 (ic_eq g.th (lstf (k := 0) (o := 1) (m := 1) (hL.at 1 rfl) (by omega) (en_chunk shc_len (by omega)) rfl))) fun a hk => ?_
 refine d_w 6 127 hk hL rfl (fun w hL => w_slc_eq (w_slc (l := 0) (h := thN S) rfl rfl rfl Tryz.underlying22 ty53 rfl rfl (by omega) (by omega) (by omega) (by omega) (by omega)) sla_zero (Nat.sub_zero _) (Nat.sub_zero _)) fun a hk => ?_
 refine d_w 7 255 hk hL rfl (fun w hL => w_mv rfl) fun a hk => ?_
 refine d_1 8 511 rfl (by kernel_rfl) fun K hK => ?_
 have hs := hs.up1
 refine q_sto (o := 0) (cs := fieldL s) (vs' := fieldL s) hk hs rfl rfl rfl ty120 rfl rfl rfl rfl rfl rfl fun w hs => ?_
 have hL := okL.cons (hs.mi 1 rfl) (okL.cons ((share_lst hS).at_ hs) okL.nil)
 refine c_end (x_t (hK _ _ hL ?_))
 clear hK K
 refine d_w 9 1023 hk hL rfl (fun w hL => w_as rfl) fun a hk => ?_
 refine d_w 10 2047 hk hL rfl (fun w hL => w_as rfl) fun a hk => ?_
 refine d_end (by kernel_rfl) ?_
 refine (x_t ?_)
 refine (wpIn_ret ?_)
 refine c_retG (vs := [fieldV s, .slice la (thN S) lc, .int .i64 0]) hk rfl ⟨⟨_, rfl, lv_A ty120 (.blk (n := 14) (hs.mi 0 rfl) rfl) rfl⟩, rfl, rfl, trivial⟩ rfl ?_
 have hs := hs.drop
 have hs := hs.drop
 exact ⟨rfl, hs⟩
theorem each_cm {F0 : Nat → Prop} {W : World} {M R : List Res} (s : Bool) (m lc : Nat) (la : Option Addr) (S : Nat → Shr) (f : Nat × List Value) (G : Nat → Zp s) (es : List Ev) (rx : Res) (t : Option Nat) (evs : List Ev) (r : Res) (w0 : World) (hs : Sat F0 W (r :: M) R w0) (hS : HasR (shareR la m lc S) R) (g : Good s S m) (hm : m ≤ 255) (hn9 : (S 0).n ≤ 7) (hfn : FunC f s S m t G es rx) (hx : HasR rx R) (hes : es.length ≤ 300000) (hT : TapeIs t evs r) (he : evs.length ≤ 1000000) : Calls Tryz.prog 81 [tval t, .slice la m lc, .func (.func f.1) #[] (List.toArray f.2)].toArray w0 fun e w => ∃ r a c, e = .returned (.tuple #[.slice a (S 0).n c, .int .i64 0]) ∧ TapeIs t (evs ++ eachE (((S 0).n : Nat) : Int) es) r ∧ Sat F0 W (r :: row 56 4 (.slice a (S 0).n c) (S 0).n (en vq (fun i => mq (G i)) (S 0).n) :: M) R w := by
 have hm0 := g.m0
 obtain ⟨fn, hfn1, hfn2, hfn3⟩ := hfn
 refine c_enter (args := [tval t, .slice la m lc, .func (.func f.1) #[] (List.toArray f.2)]) Tryz.func81 rfl rfl rfl fun a hk => ?_
 refine wS (wR ?_)
 refine q_v hk (w_as rfl) fun a hk => ?_
 refine q_v hk (w_as rfl) fun a hk => ?_
 refine c_end (x_t (wS (wR ?_)))
 refine q_v hk (w_as rfl) fun a hk => ?_
 refine c_end (x_t (wS (wS (wR ?_))))
 refine q_v hk (w_mv rfl) fun a hk => ?_
 refine q_v hk (w_iaL (k := 0) rfl rfl Tryz.underlying22 ty53 ((share_lst hS).at_ hs) (by omega) (by omega)) fun a hk => ?_
 refine q_v hk (w_fa rfl fq53_4 ty51) fun a hk => ?_
 refine q_v hk (w_ld1 rfl ty51 (lstf (k := 0) (o := 4) (m := 1) ((share_lst hS).at_ hs) (by omega) (en_chunk shc_len (by omega)) rfl)) fun a hk => ?_
 refine q_v hk (w_len rfl Tryz.underlying51) fun a hk => ?_
 refine q_v hk (w_mv rfl) fun a hk => ?_
 refine c_end (x_t ?_)
 refine wpIn_block ?_
 have hs := hs.row0 56 4
 refine c_loop (α := Nat) (fun k a w => ∃ (r : Res) (ao : Option Addr) (co : Nat), k ≤ (S 0).n ∧ TapeIs t (evs ++ eachE ((k : Nat) : Int) es) r ∧ Kn [] 40 [(17, .int .i64 ((k : Nat) : Int)), (8, .slice ao k co), (16, .int .i64 (((S 0).n : Nat) : Int)), (0, tval t), (1, .slice la m lc), (2, .func (.func f.1) #[] (List.toArray f.2))] a ∧ Sat F0 W ((row 56 4 (.slice ao k co) k (en vq (fun i => mq (G i)) k)) :: r :: M) R w) (fun k => (S 0).n - k) 0 ?_ ?_
 · exact ⟨_, _, _, (by omega), (by rw [show eachE ((0 : Nat) : Int) es = [] from upE_nil (by omega), List.append_nil]; exact hT), hk.k rfl (hk.k rfl (hk.k rfl (hk.k rfl (hk.k rfl (hk.k rfl hk.nil))))), hs⟩
 rintro k a w ⟨r, ao, co, hf0, hf1, hk, hs⟩
 have hT := hf1
 have hlk := eachk_len (es := es) (k := k)
 have hkk : k * (es.length + 1) ≤ 7 * 300001 := Nat.mul_le_mul (by omega) (by omega)
 refine wS (wR ?_)
 rcases Classical.em (((k : Nat) : Int) < (((S 0).n : Nat) : Int)) with hc1 | hc1
 ·
  refine q_v hk (w_lt rfl rfl (decide_eq_true hc1)) fun a hk => ?_
  refine c_end (x_t (wS ?_))
  refine c_T hk rfl ?_
  refine (wpIn_skip (x_t ?_))
  refine wS ?_
  refine wpIn_block ?_
  refine wS (wR ?_)
  refine q_v hk (w_mv rfl) fun a hk => ?_
  refine q_v hk (w_as rfl) fun a hk => ?_
  refine c_end (x_t (wS (wR ?_)))
  refine q_v hk (w_mv rfl) fun a hk => ?_
  refine q_v hk (w_mv rfl) fun a hk => ?_
  have hs := hs.up1
  refine q_call (caps := []) hk rfl rfl Tryz.func61 fo61 rfl rfl (note_m t 4 ((k : Nat) : Int) 0 (evs ++ eachE ((k : Nat) : Int) es) _ _ hT hs (by simp only [List.length_append]; omega)) ?_
  rintro _ w ⟨v2, r3, rfl, ht4, hs⟩
  have hT := ht4
  refine ⟨_, rfl, fun a hk => ?_⟩
  refine c_end (x_t (wS (wR ?_)))
  refine q_v hk (w_mv rfl) fun a hk => ?_
  refine q_v hk (w_mv rfl) fun a hk => ?_
  refine q_v hk (w_mv rfl) fun a hk => ?_
  refine q_call (caps := []) hk rfl rfl Tryz.func101 fo101 rfl rfl (column_c m lc k la S _ ((hS).at_ hs) (by omega) (fun i hi => by rw [g.n i hi]; exact ⟨by omega, by omega⟩)) ?_
  rintro _ w ⟨b5, rfl, hS⟩
  have hs := hs.call1 hS
  clear hS
  refine ⟨_, rfl, fun a hk => ?_⟩
  have hs := hs.rw0 (congrArg (fun q => blk b5 q 56) (g.col_eq (by omega)))
  have hs := hs.frz (r := lst 4 (.slice (some ⟨b5, 0, none⟩) m m) m (en vq (fun i => mq (clz s S k i)) m)) (blk_lst (hs.mi 0 rfl) (en_len vq_len) (Nat.le_refl _)) (fun _ h => (Option.some.inj h.2).symm)
  refine q_call (caps := f.2) hk rfl rfl hfn1 hfn2 rfl rfl (hfn3 _ _ _ _ _ _ _ k ((evs ++ eachE ((k : Nat) : Int) es) ++ [(4, ((k : Nat) : Int), 0)]) _ hT (hx.cons) (HasR.nth 0 rfl) (by omega) (by simp only [List.length_append, List.length_singleton]; omega) hs) ?_
  rintro _ w ⟨r6, rfl, hT, hs⟩
  have hs := hs.subR (R' := R) (by simp +contextual)
  refine ⟨_, rfl, fun a hk => ?_⟩
  refine q_v hk (w_mv rfl) fun a hk => ?_
  refine q_v hk (w_ext rfl rfl) fun a hk => ?_
  refine q_v hk (w_ext rfl rfl) fun a hk => ?_
  refine q_alc (vs := [.int .u64 0, .int .u64 0, .int .u64 0, .int .u64 0]) hk hs zr56 rfl rfl rfl fun b7 w a hk hs => ?_
  refine q_sto (o := 0) (cs := [.int .u64 ((dg 0 (mq (G k)) : Nat) : Int), .int .u64 ((dg 1 (mq (G k)) : Nat) : Int), .int .u64 ((dg 2 (mq (G k)) : Nat) : Int), .int .u64 ((dg 3 (mq (G k)) : Nat) : Int)]) (vs' := [.int .u64 ((dg 0 (mq (G k)) : Nat) : Int), .int .u64 ((dg 1 (mq (G k)) : Nat) : Int), .int .u64 ((dg 2 (mq (G k)) : Nat) : Int), .int .u64 ((dg 3 (mq (G k)) : Nat) : Int)]) hk hs rfl rfl rfl ty56 rfl rfl rfl rfl rfl rfl fun w hs => ?_
  refine q_v hk (w_as rfl) fun a hk => ?_
  refine c_end (x_t (wS (wS (wR ?_))))
  refine q_v hk (w_mv rfl) fun a hk => ?_
  refine q_v hk (w_ne rfl rfl (decide_eq_false (by decide))) fun a hk => ?_
  refine c_end (x_t ?_)
  refine c_F hk rfl ?_
  refine (wpIn_skip (x_t ?_))
  refine wR ?_
  refine q_v hk (w_mv rfl) fun a hk => ?_
  refine q_v hk (w_ldv (z := mq (G k)) rfl ty56 (.blk (n := 4) (hs.mi 0 rfl) rfl)) fun a hk => ?_
  refine q_bsl (els := [.tmp 35]) (cs := [.int .u64 ((dg 0 (mq (G k)) : Nat) : Int), .int .u64 ((dg 1 (mq (G k)) : Nat) : Int), .int .u64 ((dg 2 (mq (G k)) : Nat) : Int), .int .u64 ((dg 3 (mq (G k)) : Nat) : Int)]) hk hs rfl Tryz.underlying51 ty56 zr56 rfl rfl rfl rfl rfl rfl rfl fun b8 w a hk hs => ?_
  have hs := hs.up3
  refine q_app (news := [.int .u64 ((dg 0 (mq (G k)) : Nat) : Int), .int .u64 ((dg 1 (mq (G k)) : Nat) : Int), .int .u64 ((dg 2 (mq (G k)) : Nat) : Int), .int .u64 ((dg 3 (mq (G k)) : Nat) : Int)]) (m := 1) hk hs rfl rfl Tryz.underlying51 ty56 zr56 rfl rfl (.blk (n := 4) (hs.mi 1 rfl) rfl) rfl rfl (by omega) (by omega) rfl rfl fun a9 c10 w a hk hs => ?_
  have hs := hs.up1
  have hs := hs.drop
  refine q_v hk (w_as rfl) fun a hk => ?_
  refine (c_end (x_b (x_t ?_)))
  refine wR ?_
  refine q_v hk (w_add rfl rfl (wr64 (by omega) (by omega))) fun a hk => ?_
  refine q_v hk (w_mv rfl) fun a hk => ?_
  refine c_end (x_t ?_)
  have hs := hs.rw0 (congrArg _ en_succ)
  rw [each_next] at hT
  have hs := hs.up1
  have hs := hs.drop
  exact ⟨k + 1, ⟨_, _, _, (by omega), hT, hk.k rfl (hk.k rfl (hk.k rfl (hk.k rfl (hk.k rfl (hk.k rfl hk.nil))))), hs⟩, by omega⟩
 ·
  refine q_v hk (w_lt rfl rfl (decide_eq_false hc1)) fun a hk => ?_
  refine c_end (x_t (wS ?_))
  refine c_F hk rfl ?_
  refine (wpIn_exit (x_te (x_te (x_be ?_))))
  refine (x_t ?_)
  refine wS (wR ?_)
  refine q_v hk (w_mv rfl) fun a hk => ?_
  refine q_v hk (w_as rfl) fun a hk => ?_
  refine q_v hk (w_as rfl) fun a hk => ?_
  refine c_end (x_t ?_)
  refine (wpIn_ret ?_)
  refine c_ret2 hk rfl rfl rfl ?_
  have hs := hs.up1
  have hkn : k = (S 0).n := by omega
  rw [hkn] at hs hT ⊢
  exact ⟨_, _, _, rfl, hT, hs⟩
end Go.Proofs.YtdnkkbmpefhbjaaGreatDoor
namespace Go.Proofs.YtdnkkbmpefhbjaaGreatDoor
set_option linter.all false
open Go Go.RowKit
end Go.Proofs.YtdnkkbmpefhbjaaGreatDoor
namespace Go.Proofs.YtdnkkbmpefhbjaaGreatDoor
set_option linter.all false
open Go Go.RowKit Alg
end Go.Proofs.YtdnkkbmpefhbjaaGreatDoor
namespace Go.Proofs.YtdnkkbmpefhbjaaGreatDoor
set_option linter.all false
open Go Go.RowKit
theorem pos_add {b o j : Nat} : (⟨b, o, none⟩ : Addr).add j = ⟨b, o + j, none⟩ := add_pos
theorem vq_get {x j : Nat} (hj : j < 4) : (vq x)[j]? = some (.int .u64 ((dg j x : Nat) : Int)) := by
  have h : j = 0 ∨ j = 1 ∨ j = 2 ∨ j = 3 := by omega
  rcases h with rfl | rfl | rfl | rfl <;> rfl
theorem vecs_of {w : World} {a : Option Addr} {n c : Nat} {X : Nat → Nat} (h : LstAt w 4 (.slice a n c) n (en vq X n)) : VecsAt w a n X := by
  refine ⟨?_⟩
  by_cases h0 : n = 0
  · exact .inl h0
  have ha := lst_some h (by omega)
  obtain ⟨a', c', he, _, _, hx⟩ := h.at_
  cases he
  obtain ⟨h1, h2, _⟩ := hx _ ha (by omega)
  refine .inr ⟨(adq a).block, (adq a).off, ?_, h2, fun i hi j hj => ?_⟩
  · rw [ha, ← h1]
    rfl
  · have := lstq h hi (en_chunk vq_len hi) j _ (vq_get hj)
    have e : adq a = ⟨(adq a).block, (adq a).off, none⟩ := by rw [← h1]
    rw [e, pos_add, pos_add] at this
    exact this
/-- A row that a call made. -/
theorem Sat.ofOwn {F0 : Nat → Prop} {W w w' : World} {M R : List Res} {T : TypeId} {sz n : Nat} {v : Value} {xs : List Value} (hs : Sat F0 W M R w) (hb : Below w.heap.size w w') (ho : w'.ownsRow w.heap.size T sz v n xs) : Sat F0 W (row T sz v n xs :: M) R w' :=
  hs.new (.ofBelow hb) ⟨ho.1, ho.2.imp id fun ⟨g, cap, cur, e, hg, r⟩ => ⟨g, cap, cur, e, Nat.zero_le _, r⟩⟩ fun k hk => (ho.lt k hk).1
end Go.Proofs.YtdnkkbmpefhbjaaGreatDoor
namespace Go.Proofs.YtdnkkbmpefhbjaaGreatDoor
set_option linter.all false
open Go Go.RowKit Go.Shelf
end Go.Proofs.YtdnkkbmpefhbjaaGreatDoor
namespace Go.Proofs.YtdnkkbmpefhbjaaGreatDoor
set_option linter.all false
open Go Go.RowKit
open Classical in
/-- What Join says. -/
noncomputable def jErr (n : Nat) (N : Int) (v : Nat → Nat) : Int := if 0 ≤ N ∧ N ≤ 65535 then (if n = cn N then (if okC N.toNat v (List.range n) then 0 else 10) else 8) else 6
def jFlat (N : Nat) (v : Nat → Nat) (l : List Nat) : List Nat := l.flatMap fun i => (List.range (cz N i)).map (byt (v i))
/-- The bytes that Join hands back. -/
noncomputable def jBytes (n : Nat) (N : Int) (v : Nat → Nat) : List Nat := if jErr n N v = 0 then jFlat N.toNat v (List.range n) else []
theorem byC_el (N : Nat) (v : Nat → Nat) (l : List Nat) : byC N v l = el bc (jFlat N v l) := by
  unfold byC jFlat el
  induction l with
  | nil => rfl
  | cons x l ih =>
    rw [List.flatMap_cons, List.flatMap_cons, List.flatMap_append, ih]
    congr 1
    unfold fl bc
    induction (List.range (cz N x)) with
    | nil => rfl
    | cons y m ihm => simp [ihm]
/-- How Join's answer lies. -/
def JQ (W : World) (n : Nat) (N : Int) (v : Nat → Nat) (e : Ending) (w : World) : Prop :=
  ∃ a k c, e = .returned (.tuple #[.slice a k c, .int .i64 (jErr n N v)]) ∧ Sat no W [row 5 1 (.slice a k c) k (el bc (jBytes n N v))] [] w
theorem JQ.bad {W w : World} {n : Nat} {N : Int} {v : Nat → Nat} {q : Int} (hb : Below W.heap.size W w) (h : jErr n N v = q) (hq : q ≠ 0) : JQ W n N v (.returned (.tuple #[.slice none 0 0, .int .i64 q])) w := by
  refine ⟨none, 0, 0, by rw [h], ?_⟩
  have hnil : jBytes n N v = [] := by unfold jBytes; rw [if_neg (by rw [h]; exact hq)]
  rw [hnil]
  exact ((Sat.start W [] (fun _ h => by cases h)).below hb).row0 _ _
open Classical in
theorem JQ.of {W w : World} {N : Nat} {v : Nat → Nat} {r : Value} (hb : Below W.heap.size W w) (hN : N ≤ 65535) (h : JO W.heap.size N v r w) : JQ W (cn N) N v (.returned r) w := by
  have e0 : jErr (cn N) N v = if okC N v (List.range (cn N)) then 0 else 10 := by
    unfold jErr
    rw [if_pos (by omega), if_pos rfl]
    simp
  rcases h with ⟨hok, out, k, rfl, ho⟩ | ⟨hok, rfl⟩
  · rw [if_pos hok] at e0
    obtain ⟨a, c, rfl⟩ := row_slice2 ho
    refine ⟨a, k, c, by rw [e0], ?_⟩
    have hj : jBytes (cn N) N v = jFlat N v (List.range (cn N)) := by unfold jBytes; rw [if_pos e0]; rfl
    rw [hj, ← byC_el]
    exact (Sat.start W [] (fun _ h => by cases h)).ofOwn hb ho
  · rw [if_neg hok] at e0
    exact JQ.bad hb e0 (by decide)
theorem joinQ (s : Bool) (la : Option Addr) (n lc : Nat) (N : Int) (v : Nat → Nat) (W : World) (HX : LstAt W 4 (.slice la n lc) n (en vq (fun i => RR s (v i)) n)) (Hv : ∀ i, i < n → v i < pr s) :
    Calls Tryz.prog 86 #[fieldV s, .slice la n lc, .int .i64 N] W (JQ W n N v) := by
  by_cases h1 : 0 ≤ N ∧ N ≤ 65535
  · obtain ⟨M, rfl⟩ : ∃ M : Nat, N = M := ⟨N.toNat, by omega⟩
    by_cases h2 : n = cn M
    · subst h2
      refine (join_walk s la M lc v (by omega) W (Lib.hid (vecs_of HX)) (Lib.hid Hv)).mono ?_
      rintro e w ⟨⟨r, rfl, h⟩, hb⟩
      exact .of hb (by omega) h
    · refine (join_ne s la n lc M (by omega) h2 W).mono ?_
      rintro e w ⟨rfl, hb⟩
      exact .bad hb (by unfold jErr; rw [if_pos h1, if_neg h2]) (by decide)
  · refine (join_big s la n lc N h1 W).mono ?_
    rintro e w ⟨rfl, hb⟩
    exact .bad hb (by unfold jErr; rw [if_neg h1]) (by decide)
theorem bytesIn_of {w : World} {a : Option Addr} {n c : Nat} {l : List Nat} (h : LstAt w 1 (.slice a n c) n (el bc l)) : Lib.BytesIn w a n (l.map fun x : Nat => (x : Int)) := by
  intro hn
  have ha := lst_some h hn
  obtain ⟨a', c', he, _, _, hx⟩ := h.at_
  cases he
  obtain ⟨h1, h2, h3⟩ := hx _ ha hn
  refine ⟨(adq a).block, (adq a).off, by rw [ha, ← h1]; rfl, fun i hi => ?_⟩
  have hl : l.length = n := by have := h.len; rw [el_len bc_len] at this; omega
  have := h3 i (.int .u8 ((l.map fun x : Nat => (x : Int)).getD i 0)) (by
    have hh := el_chunk (c := bc) bc_len (l := l) (k := i) (by omega) 0
    rw [Nat.mul_one] at hh
    have h4 := congrArg (fun q => q[0]?) hh
    simp only [List.getElem?_take, List.getElem?_drop] at h4
    simp only [bc, Nat.add_zero, show (0 < 1) = True by simp, if_true] at h4
    rw [h4]
    simp [List.getD, hl, hi])
  have e : adq a = ⟨(adq a).block, (adq a).off, none⟩ := by rw [← h1]
  rw [e, add_pos] at this
  exact this
theorem bytesEqQ (w : World) (a b : Option Addr) (n c m d : Nat) (l l' : List Nat) (h1 : LstAt w 1 (.slice a n c) n (el bc l)) (h2 : LstAt w 1 (.slice b m d) m (el bc l')) (h : l = l') :
    Calls Tryz.prog 46 #[.slice a n c, .slice b m d] w fun e w' => e = .returned (.bool true) ∧ w = w' := by
  subst h
  have e1 := h1.len
  have e2 := h2.len
  rw [el_len bc_len] at e1 e2
  refine (Tryz.bytes_Equal_all a b n c m d _ _ w (by simp; omega) (by simp; omega) (bytesIn_of h1) (bytesIn_of h2)).mono ?_
  rintro e w' ⟨rfl, rfl⟩
  exact ⟨by simp, rfl⟩
end Go.Proofs.YtdnkkbmpefhbjaaGreatDoor
namespace Go.Proofs.YtdnkkbmpefhbjaaGreatDoor
set_option linter.all false
open Go Go.RowKit Alg
theorem bytesAt_of {w : World} {a : Option Addr} {n c : Nat} {f : Nat → Nat} (h : LstAt w 1 (.slice a n c) n (en bc f n)) (hf : ∀ j, f j < 256) (hn : 0 < n) : ∃ b off, a = some ⟨b, off, none⟩ ∧ n ≤ c ∧ BytesAt w b off n f := by
  have ha := lst_some h hn
  obtain ⟨a', c', he, hc, _, hx⟩ := h.at_
  cases he
  obtain ⟨h1, h2, h3⟩ := hx _ ha hn
  refine ⟨(adq a).block, (adq a).off, ?_, hc, ?_⟩
  · rw [ha, ← h1]; rfl
  · refine ⟨hf, h2, fun j hj => ?_⟩
    have hc := lstq h hj (en_chunk bc_len hj) 0 _ rfl
    have e : adq a = ⟨(adq a).block, (adq a).off, none⟩ := by rw [← h1]
    rw [e, pos_add, pos_add, Nat.mul_one, Nat.add_zero] at hc
    exact hc
theorem sliceAt_en {w : World} {a : Option Addr} {n c : Nat} {f : Nat → Nat} (h : LstAt w 1 (.slice a n c) n (en bc f n)) (hf : ∀ j, f j < 256) : SliceAt w a n f := by
  refine ⟨hf, ?_⟩
  by_cases h0 : n = 0
  · exact .inl h0
  · obtain ⟨b, off, e, _, hB⟩ := bytesAt_of h hf (by omega)
    exact .inr ⟨b, off, e, hB⟩
theorem vcs_en (f : Nat → Nat) (n : Nat) : vcs ((List.range n).map f) = en vq f n := by
  unfold vcs en
  rw [List.flatMap_map]
  rfl
theorem rsplit_e {a : Option Addr} {n c : Nat} {f : Nat → Nat} {w : World} (h : LstAt w 1 (.slice a n c) n (en bc f n)) (hf : ∀ j, f j < 256) (hn : n ≤ 65535) : Calls Tryz.prog 109 #[.slice a n c] w fun e w' => ∃ a' c', e = .returned (.tuple #[.slice a' (cn n) c', .int .i64 0]) ∧ Sat no w [row 47 4 (.slice a' (cn n) c') (cn n) (en vq (cv n f) (cn n))] [] w' := by
  have hc : n ≤ c := by obtain ⟨_, _, he, hc, _⟩ := h.at_; cases he; exact hc
  refine (refSplit_ok a n c f hn hc w (Lib.hid (sliceAt_en h hf))).mono fun e w' hq => ?_
  obtain ⟨⟨v, h1, h2⟩, h3⟩ := hq
  rw [vcs_en] at h2
  have hs := (Sat.start w [] (fun _ h => by cases h)).ofOwn h3 h2
  have hl := (row_lst (hs.okM _ (.head _)))
  obtain ⟨a', c', he, _⟩ := hl.at_
  subst he
  exact ⟨a', c', h1, hs⟩
theorem zv_ex {s : Bool} {n : Nat} (h : n < pr s) : ∃ z : Zp s, zv z = n := ⟨⟨n, h⟩, rfl⟩
/-- Wide's answer is an element. -/
theorem rwide_e {s : Bool} {a : Option Addr} {c : Nat} {f : Nat → Nat} {w : World} (h : LstAt w 1 (.slice a 64 c) 64 (en bc f 64)) (hf : ∀ j, f j < 256) : Calls Tryz.prog 140 #[vec (pr s), .slice a 64 c] w fun e w' => ∃ z : Zp s, e = .returned (.tuple #[vec (zv z), .int .i64 0]) ∧ Below w.heap.size w w' := by
  obtain ⟨b, off, rfl, hc, hB⟩ := bytesAt_of h hf (by omega)
  obtain ⟨z, hz⟩ := zv_ex (wideV_lt s f)
  have h := refWide_c s b off c hc f w hB
  rw [← hz] at h
  exact h.mono fun e w' hq => ⟨z, hq.1, hq.2⟩
theorem lst_drop {a : Option Addr} {n c l : Nat} {f : Nat → Nat} (hl : l ≤ n) (hc : n ≤ c) : HasR (lst 1 (.slice (sla a c l 1) (n - l) (c - l)) (n - l) (en bc (fun j => f (l + j)) (n - l))) [lst 1 (.slice a n c) n (en bc f n)] := by
  refine ⟨fun w hw => ?_, fun k hk => ⟨_, .head _, ?_⟩⟩
  · have hL : LstAt w 1 (.slice a n c) n (en bc f n) := hw _ (.head _)
    have h := hL.sub (l := l) (h := n) (m := c) hl (Nat.le_refl _) hc (Nat.le_refl _)
    have e : ((en bc f n).drop (l * 1)).take ((n - l) * 1) = en bc (fun j => f (l + j)) (n - l) := by
      have e1 : en bc f n = en bc f l ++ en bc (fun j => f (l + j)) (n - l) := by
        conv => lhs; rw [show n = l + (n - l) by omega]
        unfold en
        rw [List.range_add, List.flatMap_append, List.flatMap_map]
      have e2 : (en bc f l).length = l * 1 := en_len bc_len
      rw [e1, List.drop_append_of_le_length (by omega), List.drop_eq_nil_of_le (by omega), List.nil_append, List.take_of_length_le (by rw [en_len bc_len]; exact Nat.le_refl _)]
    rw [← e]
    exact h
  · obtain ⟨h1, h2⟩ := hk
    refine ⟨by omega, ?_⟩
    unfold sla at h2
    cases a with
    | none => split at h2 <;> simp [Value.ownBlock] at h2
    | some q =>
      split at h2
      · exact h2
      · simp only [Option.map_some, Value.ownBlock] at h2 ⊢
        rw [← h2]
        unfold Addr.add
        split <;> rfl
theorem take_m {F0 : Nat → Prop} {W : World} {M R : List Res} (sb rn rc : Nat) (ra : Option Addr) (f : Nat → Nat) (w0 : World) (hs : Sat F0 W ((blk sb [.slice ra rn rc] 154) :: M) R w0) (hR : HasR (lst 1 (.slice ra rn rc) rn (en bc f rn)) R) (hf : ∀ j, f j < 256) (h64 : 64 ≤ rn) (hr9 : rn ≤ 100000000) : Calls Tryz.prog 139 [.pointer (some ⟨sb, 0, none⟩), .int .i64 64].toArray w0 fun e w => ∃ ra2 rc2 f2, e = .returned (.tuple #[.slice ra 64 rc, .int .i64 0]) ∧ HasR (lst 1 (.slice ra2 (rn - 64) rc2) (rn - 64) (en bc f2 (rn - 64))) R ∧ (∀ j, f2 j < 256) ∧ Sat F0 W (blk sb [.slice ra2 (rn - 64) rc2] 154 :: M) R w := by
 have hcap : rn ≤ rc := by have h := hR.at_ hs; obtain ⟨_, _, he, hc, _⟩ := LstAt.at_ h; cases he; exact hc
 refine c_enter (args := [.pointer (some ⟨sb, 0, none⟩), .int .i64 64]) Tryz.func139 rfl rfl rfl fun a hk => ?_
 refine wS (wR ?_)
 refine q_v hk (w_as rfl) fun a hk => ?_
 refine q_v hk (w_as rfl) fun a hk => ?_
 refine c_end (x_t (wS (wS (wR ?_))))
 refine q_v hk (w_mv rfl) fun a hk => ?_
 refine q_v hk (w_lt rfl rfl (decide_eq_false (by decide))) fun a hk => ?_
 refine c_end (x_t ?_)
 refine c_F hk rfl ?_
 refine (wpIn_skip (x_t ?_))
 refine wS (wS (wR ?_))
 refine q_v hk (w_mv rfl) fun a hk => ?_
 refine q_v hk (w_mv rfl) fun a hk => ?_
 refine q_v hk (w_nilC rfl) fun a hk => ?_
 refine q_v hk (w_fa rfl fq154_0 ty42) fun a hk => ?_
 refine q_v hk (w_ld1 rfl ty42 (.blk (n := 1) (hs.mi 0 rfl) rfl)) fun a hk => ?_
 refine q_v hk (w_len rfl Tryz.underlying42) fun a hk => ?_
 refine q_v hk (w_gt rfl rfl (decide_eq_false (by omega))) fun a hk => ?_
 refine c_end (x_t ?_)
 refine c_F hk rfl ?_
 refine (wpIn_skip (x_t ?_))
 refine wS (wR ?_)
 refine q_v hk (w_mv rfl) fun a hk => ?_
 refine q_v hk (w_nilC rfl) fun a hk => ?_
 refine q_v hk (w_fa rfl fq154_0 ty42) fun a hk => ?_
 refine q_v hk (w_ld1 rfl ty42 (.blk (n := 1) (hs.mi 0 rfl) rfl)) fun a hk => ?_
 refine q_v hk (w_mv rfl) fun a hk => ?_
 refine q_v hk (w_slc_eq (w_slc (l := 0) (h := 64) rfl rfl rfl Tryz.underlying42 ty5 rfl rfl (by omega) (by omega) (by omega) (by omega) (by omega)) sla_zero (Nat.sub_zero _) (Nat.sub_zero _)) fun a hk => ?_
 refine q_v hk (w_as rfl) fun a hk => ?_
 refine c_end (x_t (wS (wR ?_)))
 refine q_v hk (w_mv rfl) fun a hk => ?_
 refine q_v hk (w_mv rfl) fun a hk => ?_
 refine q_v hk (w_nilC rfl) fun a hk => ?_
 refine q_v hk (w_fa rfl fq154_0 ty42) fun a hk => ?_
 refine q_v hk (w_ld1 rfl ty42 (.blk (n := 1) (hs.mi 0 rfl) rfl)) fun a hk => ?_
 refine q_v hk (w_mv rfl) fun a hk => ?_
 refine q_v hk (w_slc (l := 64) (h := rn) rfl rfl rfl Tryz.underlying42 ty5 rfl rfl (by omega) (by omega) (by omega) (by omega) (by omega)) fun a hk => ?_
 refine q_v hk (w_nilC rfl) fun a hk => ?_
 refine q_v hk (w_fa rfl fq154_0 ty42) fun a hk => ?_
 refine q_sto (o := 0) (cs := [.slice (sla ra rc 64 1) (rn - 64) (rc - 64)]) (vs' := [.slice (sla ra rc 64 1) (rn - 64) (rc - 64)]) hk hs rfl rfl rfl ty42 rfl rfl rfl rfl rfl rfl fun w hs => ?_
 refine c_end (x_t (wS (wR ?_)))
 refine q_v hk (w_mv rfl) fun a hk => ?_
 refine q_v hk (w_as rfl) fun a hk => ?_
 refine q_v hk (w_as rfl) fun a hk => ?_
 refine c_end (x_t ?_)
 refine (wpIn_ret ?_)
 refine c_ret2 hk rfl rfl rfl ?_
 refine ⟨sla ra rc 64 1, rc - 64, fun j => f (64 + j), rfl, (lst_drop (by omega) hcap).trans hR, fun j => hf _, ?_⟩
 exact hs
end Go.Proofs.YtdnkkbmpefhbjaaGreatDoor
namespace Go.Proofs.YtdnkkbmpefhbjaaGreatDoor
set_option linter.all false
open Go Go.RowKit Alg
def updz {s : Bool} (E : Nat → Zp s) (k : Nat) (z : Zp s) (j : Nat) : Zp s := if j = k then z else E j
theorem updz_row {s : Bool} {E : Nat → Zp s} {k : Nat} {z : Zp s} : en vq (fun j => zv (E j)) k ++ vq (zv z) = en vq (fun j => zv (updz E k z j)) (k + 1) := by
  have e : en vq (fun j => zv (updz E k z j)) k = en vq (fun j => zv (E j)) k := en_congr fun i hi => by unfold updz; rw [if_neg (by omega)]
  have e2 : en vq (fun j => zv (updz E k z j)) (k + 1) = en vq (fun j => zv (updz E k z j)) k ++ vq (zv (updz E k z k)) := en_succ.symm
  rw [e2, e]
  congr 2
  unfold updz
  rw [if_pos rfl]
theorem elements_m {F0 : Nat → Prop} {W : World} {M R : List Res} (s : Bool) (sb rn rc n : Nat) (ra : Option Addr) (f : Nat → Nat) (w0 : World) (hs : Sat F0 W ((blk sb [.slice ra rn rc] 154) :: M) R w0) (hR : HasR (lst 1 (.slice ra rn rc) rn (en bc f rn)) R) (hf : ∀ j, f j < 256) (h64 : 64 * n ≤ rn) (hr9 : rn ≤ 100000000) (hn9 : n ≤ 255) : Calls Tryz.prog 110 [.pointer (some ⟨sb, 0, none⟩), vec (pr s), .int .i64 ((n : Nat) : Int)].toArray w0 fun e w => ∃ a c ra2 rc2 f2, ∃ E : Nat → Zp s, e = .returned (.tuple #[.slice a n c, .int .i64 0]) ∧ HasR (lst 1 (.slice ra2 (rn - 64 * n) rc2) (rn - 64 * n) (en bc f2 (rn - 64 * n))) R ∧ (∀ j, f2 j < 256) ∧ Sat F0 W (row 47 4 (.slice a n c) n (en vq (fun j => zv (E j)) n) :: blk sb [.slice ra2 (rn - 64 * n) rc2] 154 :: M) R w := by
 have hcap : rn ≤ rc := by have h := hR.at_ hs; obtain ⟨_, _, he, hc, _⟩ := LstAt.at_ h; cases he; exact hc
 refine c_enter (args := [.pointer (some ⟨sb, 0, none⟩), vec (pr s), .int .i64 ((n : Nat) : Int)]) Tryz.func110 rfl rfl rfl fun a hk => ?_
 refine wS (wR ?_)
 refine q_box (vs := [.int .u64 ((dg 0 (pr s) : Nat) : Int), .int .u64 ((dg 1 (pr s) : Nat) : Int), .int .u64 ((dg 2 (pr s) : Nat) : Int), .int .u64 ((dg 3 (pr s) : Nat) : Int)]) hk hs rfl rfl rfl rfl fun b1 w a hk hs => ?_
 refine q_v hk (w_as rfl) fun a hk => ?_
 refine q_v hk (w_as rfl) fun a hk => ?_
 refine c_end (x_t (wS (wS (wR ?_))))
 refine q_v hk (w_mv rfl) fun a hk => ?_
 refine q_v hk (w_lt rfl rfl (decide_eq_false (by omega))) fun a hk => ?_
 refine c_end (x_t ?_)
 refine c_F hk rfl ?_
 refine (wpIn_skip (x_t ?_))
 refine wS (wS (wR ?_))
 refine q_v hk (w_mv rfl) fun a hk => ?_
 refine q_v hk (w_mv rfl) fun a hk => ?_
 refine q_v hk (w_nilC rfl) fun a hk => ?_
 refine q_v hk (w_fa rfl fq154_0 ty42) fun a hk => ?_
 refine q_v hk (w_ld1 rfl ty42 (.blk (n := 1) (hs.mi 1 rfl) rfl)) fun a hk => ?_
 refine q_v hk (w_len rfl Tryz.underlying42) fun a hk => ?_
 refine q_v hk (w_quo rfl rfl (by omega) (wdv64 (by omega) (by omega) (by omega))) fun a hk => ?_
 refine q_v hk (w_gt rfl rfl (decide_eq_false (by omega))) fun a hk => ?_
 refine c_end (x_t ?_)
 refine c_F hk rfl ?_
 refine (wpIn_skip (x_t ?_))
 refine wS (wR ?_)
 refine q_v hk (w_as rfl) fun a hk => ?_
 refine c_end (x_t (wS (wS (wR ?_))))
 refine q_v hk (w_as rfl) fun a hk => ?_
 refine c_end (x_t ?_)
 refine wpIn_block ?_
 have hs := hs.row0 47 4
 have hs := hs.rw0 (show _ = row 47 4 (.slice none 0 0) 0 (en vq (fun j => zv ((fun _ => 0 : Nat → Zp s) j)) 0) from rfl)
 refine c_loop (α := Nat) (fun k a w => ∃ (qa : Option Addr) (qn : Nat) (qc : Nat) (qf : Nat → Nat) (E : Nat → Zp s) (ao : Option Addr) (co : Nat), k ≤ n ∧ qn + 64 * k = rn ∧ HasR (lst 1 (.slice qa qn qc) qn (en bc qf qn)) R ∧ (∀ j, qf j < 256) ∧ Kn [] 45 [(9, .int .i64 ((k : Nat) : Int)), (8, .slice ao k co), (7, .int .i64 0), (6, .slice none 0 0), (4, .pointer (some ⟨b1, 0, none⟩)), (0, .pointer (some ⟨sb, 0, none⟩)), (2, .int .i64 ((n : Nat) : Int))] a ∧ Sat F0 W ((row 47 4 (.slice ao k co) k (en vq (fun i => zv (E i)) k)) :: (blk b1 [.int .u64 ((dg 0 (pr s) : Nat) : Int), .int .u64 ((dg 1 (pr s) : Nat) : Int), .int .u64 ((dg 2 (pr s) : Nat) : Int), .int .u64 ((dg 3 (pr s) : Nat) : Int)] 47) :: (blk sb [.slice qa qn qc] 154) :: M) R w) (fun k => n - k) 0 ?_ ?_
 · exact ⟨_, _, _, _, _, _, _, (by omega), (by omega), hR, hf, hk.k rfl (hk.k rfl (hk.k rfl (hk.k rfl (hk.k rfl (hk.k rfl (hk.k rfl hk.nil)))))), hs⟩
 rintro k a w ⟨qa, qn, qc, qf, E, ao, co, hf0, hf1, hf2, hf3, hk, hs⟩
 refine wS (wS (wR ?_))
 refine q_v hk (w_mv rfl) fun a hk => ?_
 refine q_v hk (w_mv rfl) fun a hk => ?_
 rcases Classical.em (((k : Nat) : Int) < ((n : Nat) : Int)) with hc2 | hc2
 ·
  refine q_v hk (w_lt rfl rfl (decide_eq_true hc2)) fun a hk => ?_
  refine c_end (x_t ?_)
  refine c_T hk rfl ?_
  refine (wpIn_skip (x_t ?_))
  refine wS ?_
  refine wpIn_block ?_
  refine wS (wR ?_)
  refine q_v hk (w_mv rfl) fun a hk => ?_
  have hs := hs.up2
  refine q_call (caps := []) hk rfl rfl Tryz.func139 fo139 rfl rfl (take_m sb qn qc qa qf _ hs hf2 hf3 (by omega) (by omega)) ?_
  rintro _ w ⟨a3, c4, qf2, rfl, hR2, hb2, hs⟩
  refine ⟨_, rfl, fun a hk => ?_⟩
  refine q_v hk (w_mv rfl) fun a hk => ?_
  refine q_v hk (w_ext rfl rfl) fun a hk => ?_
  refine q_v hk (w_ext rfl rfl) fun a hk => ?_
  refine q_v hk (w_as rfl) fun a hk => ?_
  refine q_v hk (w_as rfl) fun a hk => ?_
  refine c_end (x_t (wS (wR ?_)))
  refine q_v hk (w_ldv (z := pr s) rfl ty47 (.blk (n := 4) (hs.mi 2 rfl) rfl)) fun a hk => ?_
  refine q_v hk (w_mv rfl) fun a hk => ?_
  refine q_call (caps := []) hk rfl rfl Tryz.func140 fo140 rfl rfl (rwide_e (((lst_take (n := qn) rfl (by omega) (en_len bc_len) (en_take bc_len (by omega))).trans hf2).at_ hs) hf3) ?_
  rintro _ w ⟨z5, rfl, hb⟩
  have hs := hs.below hb
  refine ⟨_, rfl, fun a hk => ?_⟩
  refine q_v hk (w_mv rfl) fun a hk => ?_
  refine q_v hk (w_ext rfl rfl) fun a hk => ?_
  refine q_v hk (w_ext rfl rfl) fun a hk => ?_
  refine q_alc (vs := [.int .u64 0, .int .u64 0, .int .u64 0, .int .u64 0]) hk hs zr47 rfl rfl rfl fun b6 w a hk hs => ?_
  refine q_sto (o := 0) (cs := [.int .u64 ((dg 0 (zv z5) : Nat) : Int), .int .u64 ((dg 1 (zv z5) : Nat) : Int), .int .u64 ((dg 2 (zv z5) : Nat) : Int), .int .u64 ((dg 3 (zv z5) : Nat) : Int)]) (vs' := [.int .u64 ((dg 0 (zv z5) : Nat) : Int), .int .u64 ((dg 1 (zv z5) : Nat) : Int), .int .u64 ((dg 2 (zv z5) : Nat) : Int), .int .u64 ((dg 3 (zv z5) : Nat) : Int)]) hk hs rfl rfl rfl ty47 rfl rfl rfl rfl rfl rfl fun w hs => ?_
  refine q_v hk (w_as rfl) fun a hk => ?_
  refine c_end (x_t (wR ?_))
  refine q_v hk (w_mv rfl) fun a hk => ?_
  refine q_v hk (w_ldv (z := zv z5) rfl ty47 (.blk (n := 4) (hs.mi 0 rfl) rfl)) fun a hk => ?_
  refine q_bsl (els := [.tmp 41]) (cs := [.int .u64 ((dg 0 (zv z5) : Nat) : Int), .int .u64 ((dg 1 (zv z5) : Nat) : Int), .int .u64 ((dg 2 (zv z5) : Nat) : Int), .int .u64 ((dg 3 (zv z5) : Nat) : Int)]) hk hs rfl Tryz.underlying72 ty47 zr47 rfl rfl rfl rfl rfl rfl rfl fun b7 w a hk hs => ?_
  have hs := hs.up3
  refine q_app (news := [.int .u64 ((dg 0 (zv z5) : Nat) : Int), .int .u64 ((dg 1 (zv z5) : Nat) : Int), .int .u64 ((dg 2 (zv z5) : Nat) : Int), .int .u64 ((dg 3 (zv z5) : Nat) : Int)]) (m := 1) hk hs rfl rfl Tryz.underlying72 ty47 zr47 rfl rfl (.blk (n := 4) (hs.mi 1 rfl) rfl) rfl rfl (by omega) (by omega) rfl rfl fun a8 c9 w a hk hs => ?_
  have hs := hs.up1
  have hs := hs.drop
  refine q_v hk (w_as rfl) fun a hk => ?_
  refine (c_end (x_b (x_t ?_)))
  refine wR ?_
  refine q_v hk (w_mv rfl) fun a hk => ?_
  refine q_v hk (w_add rfl rfl (wr64 (by omega) (by omega))) fun a hk => ?_
  refine q_v hk (w_as rfl) fun a hk => ?_
  refine c_end (x_t ?_)
  have hs := hs.rw0 (congrArg (fun q => row 47 4 (.slice a8 (k + 1) c9) (k + 1) q) (updz_row (E := E) (k := k) (z := z5)))
  have hs := hs.up1
  have hs := hs.drop
  have hs := hs.up1
  have hs := hs.up2
  have hs := hs.up2
  exact ⟨k + 1, ⟨_, _, _, _, _, _, _, (by omega), (by omega), hR2, hb2, hk.k rfl (hk.k rfl (hk.k rfl (hk.k rfl (hk.k rfl (hk.k rfl (hk.k rfl hk.nil)))))), hs⟩, by omega⟩
 ·
  refine q_v hk (w_lt rfl rfl (decide_eq_false hc2)) fun a hk => ?_
  refine c_end (x_t ?_)
  refine c_F hk rfl ?_
  refine (wpIn_exit (x_te (x_te (x_be ?_))))
  refine (x_t ?_)
  refine wS (wR ?_)
  refine q_v hk (w_mv rfl) fun a hk => ?_
  refine q_v hk (w_as rfl) fun a hk => ?_
  refine q_v hk (w_as rfl) fun a hk => ?_
  refine c_end (x_t ?_)
  refine (wpIn_ret ?_)
  refine c_ret2 hk rfl rfl rfl ?_
  have hs := hs.up1
  have hs := hs.drop
  obtain rfl : k = n := by omega
  obtain rfl : qn = rn - 64 * k := by omega
  exact ⟨_, _, _, _, _, _, rfl, hf2, hf3, hs⟩
end Go.Proofs.YtdnkkbmpefhbjaaGreatDoor
namespace Go.Proofs.YtdnkkbmpefhbjaaGreatDoor
set_option linter.all false
open Go Go.RowKit Alg
end Go.Proofs.YtdnkkbmpefhbjaaGreatDoor
namespace Go.Proofs.YtdnkkbmpefhbjaaGreatDoor
set_option linter.all false
open Go Go.RowKit Alg
end Go.Proofs.YtdnkkbmpefhbjaaGreatDoor
namespace Go.Proofs.YtdnkkbmpefhbjaaGreatDoor
set_option linter.all false
open Go Go.RowKit Alg
def rEv {s : Bool} (c : Nat → Zp s) (x : Zp s) : Nat → Zp s
  | 0 => 0
  | k + 1 => rEv c x k + c k * pw x k
theorem reval_z (s : Bool) (n cc : Nat) (ca : Option Addr) (c : Nat → Zp s) (x : Zp s) (W : World) (HC : LstAt W 4 (.slice ca n cc) n (en vq (fun i => zv (c i)) n)) (hn : n ≤ 1000) : Calls Tryz.prog 92 [vec (pr s), .slice ca n cc, vec (zv x)].toArray W fun e w => e = .returned (vec (zv (rEv c x n))) ∧ Below W.heap.size W w := by
 refine c_enter (args := [vec (pr s), .slice ca n cc, vec (zv x)]) Tryz.func92 rfl rfl rfl fun a hk => ?_
 have hs := Sat.start W [lst 4 (.slice ca n cc) n (en vq (fun i => zv (c i)) n)] (okr1 HC)
 refine wS (wR ?_)
 refine q_box (vs := [.int .u64 ((dg 0 (pr s) : Nat) : Int), .int .u64 ((dg 1 (pr s) : Nat) : Int), .int .u64 ((dg 2 (pr s) : Nat) : Int), .int .u64 ((dg 3 (pr s) : Nat) : Int)]) hk hs rfl rfl rfl rfl fun b1 w a hk hs => ?_
 refine q_box (vs := [.int .u64 ((dg 0 (zv x) : Nat) : Int), .int .u64 ((dg 1 (zv x) : Nat) : Int), .int .u64 ((dg 2 (zv x) : Nat) : Int), .int .u64 ((dg 3 (zv x) : Nat) : Int)]) hk hs rfl rfl rfl rfl fun b2 w a hk hs => ?_
 refine q_alc (vs := [.int .u64 0, .int .u64 0, .int .u64 0, .int .u64 0]) hk hs zr47 rfl rfl rfl fun b3 w a hk hs => ?_
 refine c_end (x_t (wS (wR ?_)))
 refine q_alc (vs := [.int .u64 0, .int .u64 0, .int .u64 0, .int .u64 0]) hk hs zr47 rfl rfl rfl fun b4 w a hk hs => ?_
 refine c_end (x_t (wS (wR ?_)))
 refine q_call (caps := []) hk rfl rfl Tryz.func67 fo67 rfl rfl (rone_z (s := s) _) ?_
 rintro _ w ⟨rfl, hb⟩
 have hs := hs.below hb
 refine ⟨_, rfl, fun a hk => ?_⟩
 refine q_alc (vs := [.int .u64 0, .int .u64 0, .int .u64 0, .int .u64 0]) hk hs zr47 rfl rfl rfl fun b5 w a hk hs => ?_
 refine q_sto (o := 0) (cs := [.int .u64 ((dg 0 (zv (1 : Zp s)) : Nat) : Int), .int .u64 ((dg 1 (zv (1 : Zp s)) : Nat) : Int), .int .u64 ((dg 2 (zv (1 : Zp s)) : Nat) : Int), .int .u64 ((dg 3 (zv (1 : Zp s)) : Nat) : Int)]) (vs' := [.int .u64 ((dg 0 (zv (1 : Zp s)) : Nat) : Int), .int .u64 ((dg 1 (zv (1 : Zp s)) : Nat) : Int), .int .u64 ((dg 2 (zv (1 : Zp s)) : Nat) : Int), .int .u64 ((dg 3 (zv (1 : Zp s)) : Nat) : Int)]) hk hs rfl rfl rfl ty47 rfl rfl rfl rfl rfl rfl fun w hs => ?_
 refine c_end (x_t (wS (wS (wR ?_))))
 refine q_v hk (w_as rfl) fun a hk => ?_
 refine c_end (x_t ?_)
 refine wpIn_block ?_
 have hs := hs.up1
 have hs := hs.rw0 (show blk b4 [.int .u64 0, .int .u64 0, .int .u64 0, .int .u64 0] 47 = blk b4 [.int .u64 ((dg 0 0 : Nat) : Int), .int .u64 ((dg 1 0 : Nat) : Int), .int .u64 ((dg 2 0 : Nat) : Int), .int .u64 ((dg 3 0 : Nat) : Int)] 47 from rfl)
 have hs := hs.rw0 (show _ = blk b4 (vq (zv (rEv c x 0))) 47 from by show blk b4 (vq 0) 47 = blk b4 (vq (zv 0)) 47; rw [zv_zero])
 have hs := hs.up1
 have hs : Sat _ _ (blk b5 (vq (zv (pw x 0))) 47 :: _) _ _ := hs
 refine c_loop (α := Nat) (fun k a w => k ≤ n ∧ Kn [] 32 [(9, .int .i64 ((k : Nat) : Int)), (8, .pointer (some ⟨b5, 0, none⟩)), (7, .pointer (some ⟨b4, 0, none⟩)), (6, .pointer (some ⟨b3, 0, none⟩)), (5, .pointer (some ⟨b2, 0, none⟩)), (3, .pointer (some ⟨b1, 0, none⟩)), (1, .slice ca n cc)] a ∧ Sat no W [blk b5 [.int .u64 ((dg 0 (zv (pw x k)) : Nat) : Int), .int .u64 ((dg 1 (zv (pw x k)) : Nat) : Int), .int .u64 ((dg 2 (zv (pw x k)) : Nat) : Int), .int .u64 ((dg 3 (zv (pw x k)) : Nat) : Int)] 47, blk b4 [.int .u64 ((dg 0 (zv (rEv c x k)) : Nat) : Int), .int .u64 ((dg 1 (zv (rEv c x k)) : Nat) : Int), .int .u64 ((dg 2 (zv (rEv c x k)) : Nat) : Int), .int .u64 ((dg 3 (zv (rEv c x k)) : Nat) : Int)] 47, blk b3 [.int .u64 0, .int .u64 0, .int .u64 0, .int .u64 0] 47, blk b2 [.int .u64 ((dg 0 (zv x) : Nat) : Int), .int .u64 ((dg 1 (zv x) : Nat) : Int), .int .u64 ((dg 2 (zv x) : Nat) : Int), .int .u64 ((dg 3 (zv x) : Nat) : Int)] 47, blk b1 [.int .u64 ((dg 0 (pr s) : Nat) : Int), .int .u64 ((dg 1 (pr s) : Nat) : Int), .int .u64 ((dg 2 (pr s) : Nat) : Int), .int .u64 ((dg 3 (pr s) : Nat) : Int)] 47] [lst 4 (.slice ca n cc) n (en vq (fun i => zv (c i)) n)] w) (fun k => n - k) 0 ?_ ?_
 · exact ⟨(by omega), hk.k rfl (hk.k rfl (hk.k rfl (hk.k rfl (hk.k rfl (hk.k rfl (hk.k rfl hk.nil)))))), hs⟩
 rintro k a w ⟨hf0, hk, hs⟩
 refine wS (wS (wR ?_))
 refine q_v hk (w_mv rfl) fun a hk => ?_
 refine q_v hk (w_mv rfl) fun a hk => ?_
 refine q_v hk (w_len rfl Tryz.underlying72) fun a hk => ?_
 rcases Classical.em (((k : Nat) : Int) < ((n : Nat) : Int)) with hc6 | hc6
 ·
  refine q_v hk (w_lt rfl rfl (decide_eq_true hc6)) fun a hk => ?_
  refine c_end (x_t ?_)
  refine c_T hk rfl ?_
  refine (wpIn_skip (x_t ?_))
  refine wS ?_
  refine wpIn_block ?_
  refine wS ?_
  have hL := okL.cons (hs.mi 4 rfl) (okL.cons (hs.ri 0 rfl) (okL.cons (hs.mi 0 rfl) okL.nil))
  refine d_begin _ 11 (by kernel_rfl) rfl hs hL fun w hs hL => ?_
  refine d_join (n2 := 2) 511 (fun a w => Kn [] 32 [(25, vec (zv ((c k) * (pw x k)))), (18, vec (zv (rEv c x k))), (24, vec (zv (pw x k))), (23, vec (zv (c k))), (22, .pointer (some ((adq ca).add (k * 4)))), (21, .int .i64 ((k : Nat) : Int)), (20, .slice ca n cc), (19, vec (pr s)), (17, vec (pr s)), (14, .bool true), (13, .int .i64 ((n : Nat) : Int)), (12, .slice ca n cc), (11, .int .i64 ((k : Nat) : Int)), (9, .int .i64 ((k : Nat) : Int)), (8, .pointer (some ⟨b5, 0, none⟩)), (7, .pointer (some ⟨b4, 0, none⟩)), (6, .pointer (some ⟨b3, 0, none⟩)), (5, .pointer (some ⟨b2, 0, none⟩)), (3, .pointer (some ⟨b1, 0, none⟩)), (1, .slice ca n cc)] a ∧ Sat no W [blk b5 [.int .u64 ((dg 0 (zv (pw x k)) : Nat) : Int), .int .u64 ((dg 1 (zv (pw x k)) : Nat) : Int), .int .u64 ((dg 2 (zv (pw x k)) : Nat) : Int), .int .u64 ((dg 3 (zv (pw x k)) : Nat) : Int)] 47, blk b4 [.int .u64 ((dg 0 (zv (rEv c x k)) : Nat) : Int), .int .u64 ((dg 1 (zv (rEv c x k)) : Nat) : Int), .int .u64 ((dg 2 (zv (rEv c x k)) : Nat) : Int), .int .u64 ((dg 3 (zv (rEv c x k)) : Nat) : Int)] 47, blk b3 [.int .u64 0, .int .u64 0, .int .u64 0, .int .u64 0] 47, blk b2 [.int .u64 ((dg 0 (zv x) : Nat) : Int), .int .u64 ((dg 1 (zv x) : Nat) : Int), .int .u64 ((dg 2 (zv x) : Nat) : Int), .int .u64 ((dg 3 (zv x) : Nat) : Int)] 47, blk b1 [.int .u64 ((dg 0 (pr s) : Nat) : Int), .int .u64 ((dg 1 (pr s) : Nat) : Int), .int .u64 ((dg 2 (pr s) : Nat) : Int), .int .u64 ((dg 3 (pr s) : Nat) : Int)] 47] [lst 4 (.slice ca n cc) n (en vq (fun i => zv (c i)) n)] w ∧ okL [blk b1 [.int .u64 ((dg 0 (pr s) : Nat) : Int), .int .u64 ((dg 1 (pr s) : Nat) : Int), .int .u64 ((dg 2 (pr s) : Nat) : Int), .int .u64 ((dg 3 (pr s) : Nat) : Int)] 47, lst 4 (.slice ca n cc) n (en vq (fun i => zv (c i)) n), blk b5 [.int .u64 ((dg 0 (zv (pw x k)) : Nat) : Int), .int .u64 ((dg 1 (zv (pw x k)) : Nat) : Int), .int .u64 ((dg 2 (zv (pw x k)) : Nat) : Int), .int .u64 ((dg 3 (zv (pw x k)) : Nat) : Int)] 47] w) ?_ ?_
  ·
   intro hJ511
   refine d_w 0 1 hk hL rfl (fun w hL => w_ldv (z := pr s) rfl ty47 (.blk (n := 4) (hL.at 0 rfl) rfl)) fun a hk => ?_
   refine d_w 2 5 hk hL rfl (fun w hL => w_ldv (z := pr s) rfl ty47 (.blk (n := 4) (hL.at 0 rfl) rfl)) fun a hk => ?_
   refine d_w 3 13 hk hL rfl (fun w hL => w_mv rfl) fun a hk => ?_
   refine d_w 4 29 hk hL rfl (fun w hL => w_mv rfl) fun a hk => ?_
   refine d_w 5 61 hk hL rfl (fun w hL => w_iaL (k := k) rfl rfl Tryz.underlying72 ty47 (hL.at 1 rfl) (by omega) (by omega)) fun a hk => ?_
   refine d_w 6 125 hk hL rfl (fun w hL => w_ldv (z := zv (c k)) rfl ty47 (lstq (k := k) (hL.at 1 rfl) (by omega) (en_chunk vq_len (by omega)))) fun a hk => ?_
   refine d_w 7 253 hk hL rfl (fun w hL => w_ldv (z := zv (pw x k)) rfl ty47 (.blk (n := 4) (hL.at 2 rfl) rfl)) fun a hk => ?_
   refine d_2 1 8 255 509 rfl rfl (by kernel_rfl) (fun K hK => ?_) (fun K hK => ?_)
   ·
    refine q_v hk (w_ldv (z := zv (rEv c x k)) rfl ty47 (.blk (n := 4) (hs.mi 1 rfl) rfl)) fun a hk => ?_
    have hL := okL.cons (hs.mi 4 rfl) (okL.cons (hs.ri 0 rfl) (okL.cons (hs.mi 0 rfl) okL.nil))
    refine c_end (x_t (hK _ _ hL ?_))
    clear hK K
    refine d_1 8 511 rfl (by kernel_rfl) fun K hK => ?_
    refine q_call (caps := []) hk rfl rfl Tryz.func66 fo66 rfl rfl (rmul_z (x := (c k)) (y := (pw x k)) _ rfl rfl) ?_
    rintro _ w ⟨rfl, hb⟩
    have hs := hs.below hb
    refine ⟨_, rfl, fun a hk => ?_⟩
    have hL := okL.cons (hs.mi 4 rfl) (okL.cons (hs.ri 0 rfl) (okL.cons (hs.mi 0 rfl) okL.nil))
    refine c_end (x_t (hK _ _ hL ?_))
    clear hK K
    have hL := okL.cons (hs.mi 4 rfl) (okL.cons (hs.ri 0 rfl) (okL.cons (hs.mi 0 rfl) okL.nil))
    exact hJ511 _ _ ⟨hk.k rfl (hk.k rfl (hk.k rfl (hk.k rfl (hk.k rfl (hk.k rfl (hk.k rfl (hk.k rfl (hk.k rfl (hk.k rfl (hk.k rfl (hk.k rfl (hk.k rfl (hk.k rfl (hk.k rfl (hk.k rfl (hk.k rfl (hk.k rfl (hk.k rfl (hk.k rfl hk.nil))))))))))))))))))), hs, hL⟩
   ·
    refine q_call (caps := []) hk rfl rfl Tryz.func66 fo66 rfl rfl (rmul_z (x := (c k)) (y := (pw x k)) _ rfl rfl) ?_
    rintro _ w ⟨rfl, hb⟩
    have hs := hs.below hb
    refine ⟨_, rfl, fun a hk => ?_⟩
    have hL := okL.cons (hs.mi 4 rfl) (okL.cons (hs.ri 0 rfl) (okL.cons (hs.mi 0 rfl) okL.nil))
    refine c_end (x_t (hK _ _ hL ?_))
    clear hK K
    refine d_1 1 511 rfl (by kernel_rfl) fun K hK => ?_
    refine q_v hk (w_ldv (z := zv (rEv c x k)) rfl ty47 (.blk (n := 4) (hs.mi 1 rfl) rfl)) fun a hk => ?_
    have hL := okL.cons (hs.mi 4 rfl) (okL.cons (hs.ri 0 rfl) (okL.cons (hs.mi 0 rfl) okL.nil))
    refine c_end (x_t (hK _ _ hL ?_))
    clear hK K
    have hL := okL.cons (hs.mi 4 rfl) (okL.cons (hs.ri 0 rfl) (okL.cons (hs.mi 0 rfl) okL.nil))
    exact hJ511 _ _ ⟨hk.k rfl (hk.k rfl (hk.k rfl (hk.k rfl (hk.k rfl (hk.k rfl (hk.k rfl (hk.k rfl (hk.k rfl (hk.k rfl (hk.k rfl (hk.k rfl (hk.k rfl (hk.k rfl (hk.k rfl (hk.k rfl (hk.k rfl (hk.k rfl (hk.k rfl (hk.k rfl hk.nil))))))))))))))))))), hs, hL⟩
  ·
   rintro a w ⟨hk, hs, hL⟩
   refine d_1 9 1023 rfl (by kernel_rfl) fun K hK => ?_
   refine q_call (caps := []) hk rfl rfl Tryz.func30 fo30 rfl rfl (radd_z (x := (rEv c x k)) (y := ((c k) * (pw x k))) _ rfl rfl) ?_
   rintro _ w ⟨rfl, hb⟩
   have hs := hs.below hb
   refine ⟨_, rfl, fun a hk => ?_⟩
   have hL := okL.cons (hs.mi 4 rfl) (okL.cons (hs.ri 0 rfl) (okL.cons (hs.mi 0 rfl) okL.nil))
   refine c_end (x_t (hK _ _ hL ?_))
   clear hK K
   refine d_1 10 2047 rfl (by kernel_rfl) fun K hK => ?_
   have hs := hs.up1
   refine q_sto (o := 0) (cs := [.int .u64 ((dg 0 (zv ((rEv c x k) + ((c k) * (pw x k)))) : Nat) : Int), .int .u64 ((dg 1 (zv ((rEv c x k) + ((c k) * (pw x k)))) : Nat) : Int), .int .u64 ((dg 2 (zv ((rEv c x k) + ((c k) * (pw x k)))) : Nat) : Int), .int .u64 ((dg 3 (zv ((rEv c x k) + ((c k) * (pw x k)))) : Nat) : Int)]) (vs' := [.int .u64 ((dg 0 (zv ((rEv c x k) + ((c k) * (pw x k)))) : Nat) : Int), .int .u64 ((dg 1 (zv ((rEv c x k) + ((c k) * (pw x k)))) : Nat) : Int), .int .u64 ((dg 2 (zv ((rEv c x k) + ((c k) * (pw x k)))) : Nat) : Int), .int .u64 ((dg 3 (zv ((rEv c x k) + ((c k) * (pw x k)))) : Nat) : Int)]) hk hs rfl rfl rfl ty47 rfl rfl rfl rfl rfl rfl fun w hs => ?_
   have hL := okL.cons (hs.mi 4 rfl) (okL.cons (hs.ri 0 rfl) (okL.cons (hs.mi 1 rfl) okL.nil))
   refine c_end (x_t (hK _ _ hL ?_))
   clear hK K
   refine d_end (by kernel_rfl) ?_
   refine (x_t ?_)
   refine wR ?_
   refine q_v hk (w_ldv (z := pr s) rfl ty47 (.blk (n := 4) (hs.mi 4 rfl) rfl)) fun a hk => ?_
   refine q_v hk (w_ldv (z := zv (pw x k)) rfl ty47 (.blk (n := 4) (hs.mi 1 rfl) rfl)) fun a hk => ?_
   refine q_v hk (w_ldv (z := zv x) rfl ty47 (.blk (n := 4) (hs.mi 3 rfl) rfl)) fun a hk => ?_
   refine q_call (caps := []) hk rfl rfl Tryz.func66 fo66 rfl rfl (rmul_z (x := (pw x k)) (y := x) _ rfl rfl) ?_
   rintro _ w ⟨rfl, hb⟩
   have hs := hs.below hb
   refine ⟨_, rfl, fun a hk => ?_⟩
   have hs := hs.up1
   refine q_sto (o := 0) (cs := [.int .u64 ((dg 0 (zv ((pw x k) * x)) : Nat) : Int), .int .u64 ((dg 1 (zv ((pw x k) * x)) : Nat) : Int), .int .u64 ((dg 2 (zv ((pw x k) * x)) : Nat) : Int), .int .u64 ((dg 3 (zv ((pw x k) * x)) : Nat) : Int)]) (vs' := [.int .u64 ((dg 0 (zv ((pw x k) * x)) : Nat) : Int), .int .u64 ((dg 1 (zv ((pw x k) * x)) : Nat) : Int), .int .u64 ((dg 2 (zv ((pw x k) * x)) : Nat) : Int), .int .u64 ((dg 3 (zv ((pw x k) * x)) : Nat) : Int)]) hk hs rfl rfl rfl ty47 rfl rfl rfl rfl rfl rfl fun w hs => ?_
   refine (c_end (x_b (x_t ?_)))
   refine wR ?_
   refine q_v hk (w_mv rfl) fun a hk => ?_
   refine q_v hk (w_add rfl rfl (wr64 (by omega) (by omega))) fun a hk => ?_
   refine q_v hk (w_as rfl) fun a hk => ?_
   refine c_end (x_t ?_)
   exact ⟨k + 1, ⟨(by omega), hk.k rfl (hk.k rfl (hk.k rfl (hk.k rfl (hk.k rfl (hk.k rfl (hk.k rfl hk.nil)))))), hs⟩, by omega⟩
 ·
  refine q_v hk (w_lt rfl rfl (decide_eq_false hc6)) fun a hk => ?_
  refine c_end (x_t ?_)
  refine c_F hk rfl ?_
  refine (wpIn_exit (x_te (x_te (x_be ?_))))
  refine (x_t ?_)
  refine wS (wR ?_)
  refine q_v hk (w_ldv (z := zv (rEv c x k)) rfl ty47 (.blk (n := 4) (hs.mi 1 rfl) rfl)) fun a hk => ?_
  have hs := hs.up2
  refine q_sto (o := 0) (cs := [.int .u64 ((dg 0 (zv (rEv c x k)) : Nat) : Int), .int .u64 ((dg 1 (zv (rEv c x k)) : Nat) : Int), .int .u64 ((dg 2 (zv (rEv c x k)) : Nat) : Int), .int .u64 ((dg 3 (zv (rEv c x k)) : Nat) : Int)]) (vs' := [.int .u64 ((dg 0 (zv (rEv c x k)) : Nat) : Int), .int .u64 ((dg 1 (zv (rEv c x k)) : Nat) : Int), .int .u64 ((dg 2 (zv (rEv c x k)) : Nat) : Int), .int .u64 ((dg 3 (zv (rEv c x k)) : Nat) : Int)]) hk hs rfl rfl rfl ty47 rfl rfl rfl rfl rfl rfl fun w hs => ?_
  refine c_end (x_t ?_)
  refine (wpIn_ret ?_)
  refine c_retG (vs := [vec (zv (rEv c x k))]) hk rfl ⟨⟨_, rfl, lv_A ty47 (.blk (n := 4) (hs.mi 0 rfl) rfl) rfl⟩, trivial⟩ rfl ?_
  have hkn : k = n := by omega
  exact ⟨by rw [← hkn]; rfl, hs.toBelow⟩
end Go.Proofs.YtdnkkbmpefhbjaaGreatDoor
namespace Go.Proofs.YtdnkkbmpefhbjaaGreatDoor
set_option linter.all false
open Go Go.RowKit Alg
theorem zn_small {s : Bool} {k : Nat} (h : k ≤ 255) : zv (zn s k) = k := by
  show k % pr s = k
  exact Nat.mod_eq_of_lt (Nat.lt_of_le_of_lt h (by cases s <;> decide))
theorem rpoint_c (k : Nat) (W : World) (hk : k ≤ 255) : Calls Tryz.prog 93 [.int .i64 ((k : Nat) : Int)].toArray W fun e w => e = .returned (vec k) ∧ Below W.heap.size W w := by
 refine c_enter (args := [.int .i64 ((k : Nat) : Int)]) Tryz.func93 rfl rfl rfl fun a hk => ?_
 have hs := Sat.start W [] (fun _ h => by cases h)
 refine wS (wR ?_)
 refine q_alc (vs := [.int .u64 0, .int .u64 0, .int .u64 0, .int .u64 0]) hk hs zr47 rfl rfl rfl fun b1 w a hk hs => ?_
 refine c_end (x_t (wS (wR ?_)))
 refine q_v hk (w_mv rfl) fun a hk => ?_
 refine q_v hk (w_conv rfl Tryz.underlying3 Tryz.underlying46 (wru64 (by omega) (by omega))) fun a hk => ?_
 refine q_v hk (w_bldv1 (k := k) rfl (by omega) (by unfold Go.Proofs.YtdnkkbmpefhbjaaGreatDoor.W; omega) Tryz.underlying47 ty46 zr47) fun a hk => ?_
 refine q_sto (o := 0) (cs := [.int .u64 ((dg 0 k : Nat) : Int), .int .u64 ((dg 1 k : Nat) : Int), .int .u64 ((dg 2 k : Nat) : Int), .int .u64 ((dg 3 k : Nat) : Int)]) (vs' := [.int .u64 ((dg 0 k : Nat) : Int), .int .u64 ((dg 1 k : Nat) : Int), .int .u64 ((dg 2 k : Nat) : Int), .int .u64 ((dg 3 k : Nat) : Int)]) hk hs rfl rfl rfl ty47 rfl rfl rfl rfl rfl rfl fun w hs => ?_
 refine c_end (x_t ?_)
 refine (wpIn_ret ?_)
 refine c_retG (vs := [vec k]) hk rfl ⟨⟨_, rfl, lv_A ty47 (.blk (n := 4) (hs.mi 0 rfl) rfl) rfl⟩, trivial⟩ rfl ?_
 exact ⟨rfl, hs.toBelow⟩
theorem rpoint_z (s : Bool) (k : Nat) (w : World) (hk : k ≤ 255) : Calls Tryz.prog 93 #[.int .i64 ((k : Nat) : Int)] w fun e w' => e = .returned (vec (zv (zn s k))) ∧ Below w.heap.size w w' := by
  rw [zn_small hk]
  exact rpoint_c k w hk
end Go.Proofs.YtdnkkbmpefhbjaaGreatDoor
namespace Go.Proofs.YtdnkkbmpefhbjaaGreatDoor
set_option linter.all false
open Go Go.RowKit Alg
end Go.Proofs.YtdnkkbmpefhbjaaGreatDoor
namespace Go.Proofs.YtdnkkbmpefhbjaaGreatDoor
set_option linter.all false
open Go Go.RowKit Alg
end Go.Proofs.YtdnkkbmpefhbjaaGreatDoor
namespace Go.Proofs.YtdnkkbmpefhbjaaGreatDoor
set_option linter.all false
open Go Go.RowKit Alg
theorem rmodulus_z {v : Int} {s : Bool} (h : v = fid s) (w : World) : Calls Tryz.prog 28 #[.int .i64 v] w fun e w' => e = .returned (vec (pr s)) ∧ Below w.heap.size w w' := by subst h; exact refModulus_c s w
end Go.Proofs.YtdnkkbmpefhbjaaGreatDoor
namespace Go.Proofs.YtdnkkbmpefhbjaaGreatDoor
set_option linter.all false
open Go Go.RowKit Alg
theorem share_okc {la : Option Addr} {m lc : Nat} {S : Nat → Shr} {W : World} (h : (shareR la m lc S).ok W) : m ≤ lc := by
  have h1 : LstAt W 5 (.slice la m lc) m (en shc S m) := h _ (.head _)
  obtain ⟨_, _, he, hc, _⟩ := h1.at_
  cases he
  exact hc
end Go.Proofs.YtdnkkbmpefhbjaaGreatDoor
