/- Part 4 of what the proof of JoinValues, JoinCombines, JoinAt needs: joined out of the texts of this seat, only what is used. -/
import Derived.Test.YtdnkkbmpefhbjaaGreatDoorPbC
import Derived.Laws.Cover3
import Derived.Maps.AppendAt
import Derived.OwnWalk
import Derived.Laws.CopyOwn
import Derived.IntWalk
namespace Go.Proofs.YtdnkkbmpefhbjaaGreatDoor
set_option linter.all false
open Go Go.RowKit Alg
def rEv {s : Bool} (c : Nat → Zp s) (x : Zp s) : Nat → Zp s
  | 0 => 0
  | k + 1 => rEv c x k + c k * pw x k
theorem mallv_zero {s : Bool} {a b : Nat → Zp s} {nb n : Nat} : en vq (fun _ => 0) n = en vq (fun j => zv (mall a b nb 0 j)) n := en_congr fun i _ => by show 0 = zv (0 : Zp s); rw [zv_zero]
theorem mrowv_step {s : Bool} {a b : Nat → Zp s} {i k n : Nat} {f : Nat → Zp s} : en vq (fun j => if j = i + k then zv (mrow a b i f k (i + k) + a i * b k) else zv (mrow a b i f k j)) n = en vq (fun j => zv (mrow a b i f (k + 1) j)) n := en_congr fun j _ => by
  show _ = zv (if j = i + k then _ else _)
  by_cases h : j = i + k
  · rw [if_pos h, if_pos h, h]
  · rw [if_neg h, if_neg h]
def cpf {s : Bool} (x : Nat → Zp s) (k i : Nat) : Nat := if i < k then zv (x i) else 0
def adf {s : Bool} (x y : Nat → Zp s) (k i : Nat) : Nat := if i < k then zv (x i + y i) else zv (x i)
section
variable {s : Bool} {x y : Nat → Zp s} {k n : Nat}
theorem cpf_zero : en vq (fun _ => 0) n = en vq (cpf x 0) n := en_congr fun i _ => by unfold cpf; rw [if_neg (Nat.not_lt_zero i)]
theorem cpf_step : en vq (fun i => if i = k then zv (x k) else cpf x k i) n = en vq (cpf x (k + 1)) n := en_congr fun i _ => by
  unfold cpf
  by_cases h : i = k
  · subst h; rw [if_pos rfl, if_pos (Nat.lt_succ_self _)]
  · rw [if_neg h]
    by_cases l : i < k
    · rw [if_pos l, if_pos (by omega)]
    · rw [if_neg l, if_neg (by omega)]
theorem adf_zero : en vq (cpf x n) n = en vq (adf x y 0) n := en_congr fun i hi => by unfold cpf adf; rw [if_pos hi, if_neg (Nat.not_lt_zero i)]
theorem adf_at : adf x y k k = zv (x k) := if_neg (Nat.lt_irrefl k)
theorem adf_step : en vq (fun i => if i = k then zv (x k + y k) else adf x y k i) n = en vq (adf x y (k + 1)) n := en_congr fun i _ => by
  unfold adf
  by_cases h : i = k
  · subst h; rw [if_pos rfl, if_pos (Nat.lt_succ_self _)]
  · rw [if_neg h]
    by_cases l : i < k
    · rw [if_pos l, if_pos (by omega)]
    · rw [if_neg l, if_neg (by omega)]
theorem adf_end : en vq (adf x y n) n = en vq (fun i => zv (x i + y i)) n := en_congr fun i hi => by unfold adf; rw [if_pos hi]
end
theorem reval_z (s : Bool) (n cc : Nat) (ca : Option Addr) (c : Nat → Zp s) (x : Zp s) (W : World) (HC : LstAt W 4 (.slice ca n cc) n (en vq (fun i => zv (c i)) n)) (hn : n ≤ 1000) : Calls Tryz.prog 92 [vec (pr s), .slice ca n cc, vec (zv x)].toArray W fun e w => e = .returned (vec (zv (rEv c x n))) ∧ Below W.heap.size W w := by
 refine c_enter (args := [vec (pr s), .slice ca n cc, vec (zv x)]) Tryz.func92 rfl rfl rfl fun a hk => ?_
 have hs := Sat.start W [lst 4 (.slice ca n cc) n (en vq (fun i => zv (c i)) n)] (okr1 HC)
 refine wS (wR ?_)
 refine q_box (vs := [.int .u64 ((dg 0 (pr s) : Nat) : Int), .int .u64 ((dg 1 (pr s) : Nat) : Int), .int .u64 ((dg 2 (pr s) : Nat) : Int), .int .u64 ((dg 3 (pr s) : Nat) : Int)]) hk hs rfl rfl rfl rfl fun b1 w a hk hs => ?_
 refine q_box (vs := [.int .u64 ((dg 0 (zv x) : Nat) : Int), .int .u64 ((dg 1 (zv x) : Nat) : Int), .int .u64 ((dg 2 (zv x) : Nat) : Int), .int .u64 ((dg 3 (zv x) : Nat) : Int)]) hk hs rfl rfl rfl rfl fun b2 w a hk hs => ?_
 refine q_alc (vs := [.int .u64 0, .int .u64 0, .int .u64 0, .int .u64 0]) hk hs zr47 rfl rfl rfl fun b3 w a hk hs => ?_
 refine c_end (x_t (wS (wR ?_)))
 refine q_alc (vs := [.int .u64 0, .int .u64 0, .int .u64 0, .int .u64 0]) hk hs zr47 rfl rfl rfl fun b4 w a hk hs => ?_
 refine c_end (x_t (wS (wR ?_)))
 refine q_call (caps := []) hk rfl rfl Tryz.func67 fo67 rfl rfl (rone_z (s := s) _) ?_
 rintro _ w ⟨rfl, hb⟩
 have hs := hs.below hb
 refine ⟨_, rfl, fun a hk => ?_⟩
 refine q_alc (vs := [.int .u64 0, .int .u64 0, .int .u64 0, .int .u64 0]) hk hs zr47 rfl rfl rfl fun b5 w a hk hs => ?_
 refine q_sto (o := 0) (cs := [.int .u64 ((dg 0 (zv (1 : Zp s)) : Nat) : Int), .int .u64 ((dg 1 (zv (1 : Zp s)) : Nat) : Int), .int .u64 ((dg 2 (zv (1 : Zp s)) : Nat) : Int), .int .u64 ((dg 3 (zv (1 : Zp s)) : Nat) : Int)]) (vs' := [.int .u64 ((dg 0 (zv (1 : Zp s)) : Nat) : Int), .int .u64 ((dg 1 (zv (1 : Zp s)) : Nat) : Int), .int .u64 ((dg 2 (zv (1 : Zp s)) : Nat) : Int), .int .u64 ((dg 3 (zv (1 : Zp s)) : Nat) : Int)]) hk hs rfl rfl rfl ty47 rfl rfl rfl rfl rfl rfl fun w hs => ?_
 refine c_end (x_t (wS (wS (wR ?_))))
 refine q_v hk (w_as rfl) fun a hk => ?_
 refine c_end (x_t ?_)
 refine wpIn_block ?_
 have hs := hs.up1
 have hs := hs.rw0 (show blk b4 [.int .u64 0, .int .u64 0, .int .u64 0, .int .u64 0] 47 = blk b4 [.int .u64 ((dg 0 0 : Nat) : Int), .int .u64 ((dg 1 0 : Nat) : Int), .int .u64 ((dg 2 0 : Nat) : Int), .int .u64 ((dg 3 0 : Nat) : Int)] 47 from rfl)
 have hs := hs.rw0 (show _ = blk b4 (vq (zv (rEv c x 0))) 47 from by show blk b4 (vq 0) 47 = blk b4 (vq (zv 0)) 47; rw [zv_zero])
 have hs := hs.up1
 have hs : Sat _ _ (blk b5 (vq (zv (pw x 0))) 47 :: _) _ _ := hs
 refine c_loop (α := Nat) (fun k a w => k ≤ n ∧ Kn [] 32 [(9, .int .i64 ((k : Nat) : Int)), (8, .pointer (some ⟨b5, 0, none⟩)), (7, .pointer (some ⟨b4, 0, none⟩)), (6, .pointer (some ⟨b3, 0, none⟩)), (5, .pointer (some ⟨b2, 0, none⟩)), (3, .pointer (some ⟨b1, 0, none⟩)), (1, .slice ca n cc)] a ∧ Sat no W [blk b5 [.int .u64 ((dg 0 (zv (pw x k)) : Nat) : Int), .int .u64 ((dg 1 (zv (pw x k)) : Nat) : Int), .int .u64 ((dg 2 (zv (pw x k)) : Nat) : Int), .int .u64 ((dg 3 (zv (pw x k)) : Nat) : Int)] 47, blk b4 [.int .u64 ((dg 0 (zv (rEv c x k)) : Nat) : Int), .int .u64 ((dg 1 (zv (rEv c x k)) : Nat) : Int), .int .u64 ((dg 2 (zv (rEv c x k)) : Nat) : Int), .int .u64 ((dg 3 (zv (rEv c x k)) : Nat) : Int)] 47, blk b3 [.int .u64 0, .int .u64 0, .int .u64 0, .int .u64 0] 47, blk b2 [.int .u64 ((dg 0 (zv x) : Nat) : Int), .int .u64 ((dg 1 (zv x) : Nat) : Int), .int .u64 ((dg 2 (zv x) : Nat) : Int), .int .u64 ((dg 3 (zv x) : Nat) : Int)] 47, blk b1 [.int .u64 ((dg 0 (pr s) : Nat) : Int), .int .u64 ((dg 1 (pr s) : Nat) : Int), .int .u64 ((dg 2 (pr s) : Nat) : Int), .int .u64 ((dg 3 (pr s) : Nat) : Int)] 47] [lst 4 (.slice ca n cc) n (en vq (fun i => zv (c i)) n)] w) (fun k => n - k) 0 ?_ ?_
 · exact ⟨(by omega), hk.k rfl (hk.k rfl (hk.k rfl (hk.k rfl (hk.k rfl (hk.k rfl (hk.k rfl hk.nil)))))), hs⟩
 rintro k a w ⟨hf0, hk, hs⟩
 refine wS (wS (wR ?_))
 refine q_v hk (w_mv rfl) fun a hk => ?_
 refine q_v hk (w_mv rfl) fun a hk => ?_
 refine q_v hk (w_len rfl Tryz.underlying72) fun a hk => ?_
 rcases Classical.em (((k : Nat) : Int) < ((n : Nat) : Int)) with hc6 | hc6
 ·
  refine q_v hk (w_lt rfl rfl (decide_eq_true hc6)) fun a hk => ?_
  refine c_end (x_t ?_)
  refine c_T hk rfl ?_
  refine (wpIn_skip (x_t ?_))
  refine wS ?_
  refine wpIn_block ?_
  refine wS ?_
  have hL := okL.cons (hs.mi 4 rfl) (okL.cons (hs.ri 0 rfl) (okL.cons (hs.mi 0 rfl) okL.nil))
  refine d_begin _ 11 (by kernel_rfl) rfl hs hL fun w hs hL => ?_
  refine d_join (n2 := 2) 511 (fun a w => Kn [] 32 [(25, vec (zv ((c k) * (pw x k)))), (18, vec (zv (rEv c x k))), (24, vec (zv (pw x k))), (23, vec (zv (c k))), (22, .pointer (some ((adq ca).add (k * 4)))), (21, .int .i64 ((k : Nat) : Int)), (20, .slice ca n cc), (19, vec (pr s)), (17, vec (pr s)), (14, .bool true), (13, .int .i64 ((n : Nat) : Int)), (12, .slice ca n cc), (11, .int .i64 ((k : Nat) : Int)), (9, .int .i64 ((k : Nat) : Int)), (8, .pointer (some ⟨b5, 0, none⟩)), (7, .pointer (some ⟨b4, 0, none⟩)), (6, .pointer (some ⟨b3, 0, none⟩)), (5, .pointer (some ⟨b2, 0, none⟩)), (3, .pointer (some ⟨b1, 0, none⟩)), (1, .slice ca n cc)] a ∧ Sat no W [blk b5 [.int .u64 ((dg 0 (zv (pw x k)) : Nat) : Int), .int .u64 ((dg 1 (zv (pw x k)) : Nat) : Int), .int .u64 ((dg 2 (zv (pw x k)) : Nat) : Int), .int .u64 ((dg 3 (zv (pw x k)) : Nat) : Int)] 47, blk b4 [.int .u64 ((dg 0 (zv (rEv c x k)) : Nat) : Int), .int .u64 ((dg 1 (zv (rEv c x k)) : Nat) : Int), .int .u64 ((dg 2 (zv (rEv c x k)) : Nat) : Int), .int .u64 ((dg 3 (zv (rEv c x k)) : Nat) : Int)] 47, blk b3 [.int .u64 0, .int .u64 0, .int .u64 0, .int .u64 0] 47, blk b2 [.int .u64 ((dg 0 (zv x) : Nat) : Int), .int .u64 ((dg 1 (zv x) : Nat) : Int), .int .u64 ((dg 2 (zv x) : Nat) : Int), .int .u64 ((dg 3 (zv x) : Nat) : Int)] 47, blk b1 [.int .u64 ((dg 0 (pr s) : Nat) : Int), .int .u64 ((dg 1 (pr s) : Nat) : Int), .int .u64 ((dg 2 (pr s) : Nat) : Int), .int .u64 ((dg 3 (pr s) : Nat) : Int)] 47] [lst 4 (.slice ca n cc) n (en vq (fun i => zv (c i)) n)] w ∧ okL [blk b1 [.int .u64 ((dg 0 (pr s) : Nat) : Int), .int .u64 ((dg 1 (pr s) : Nat) : Int), .int .u64 ((dg 2 (pr s) : Nat) : Int), .int .u64 ((dg 3 (pr s) : Nat) : Int)] 47, lst 4 (.slice ca n cc) n (en vq (fun i => zv (c i)) n), blk b5 [.int .u64 ((dg 0 (zv (pw x k)) : Nat) : Int), .int .u64 ((dg 1 (zv (pw x k)) : Nat) : Int), .int .u64 ((dg 2 (zv (pw x k)) : Nat) : Int), .int .u64 ((dg 3 (zv (pw x k)) : Nat) : Int)] 47] w) ?_ ?_
  ·
   intro hJ511
   refine d_w 0 1 hk hL rfl (fun w hL => w_ldv (z := pr s) rfl ty47 (.blk (n := 4) (hL.at 0 rfl) rfl)) fun a hk => ?_
   refine d_w 2 5 hk hL rfl (fun w hL => w_ldv (z := pr s) rfl ty47 (.blk (n := 4) (hL.at 0 rfl) rfl)) fun a hk => ?_
   refine d_w 3 13 hk hL rfl (fun w hL => w_mv rfl) fun a hk => ?_
   refine d_w 4 29 hk hL rfl (fun w hL => w_mv rfl) fun a hk => ?_
   refine d_w 5 61 hk hL rfl (fun w hL => w_iaL (k := k) rfl rfl Tryz.underlying72 ty47 (hL.at 1 rfl) (by omega) (by omega)) fun a hk => ?_
   refine d_w 6 125 hk hL rfl (fun w hL => w_ldv (z := zv (c k)) rfl ty47 (lstq (k := k) (hL.at 1 rfl) (by omega) (en_chunk vq_len (by omega)))) fun a hk => ?_
   refine d_w 7 253 hk hL rfl (fun w hL => w_ldv (z := zv (pw x k)) rfl ty47 (.blk (n := 4) (hL.at 2 rfl) rfl)) fun a hk => ?_
   refine d_2 1 8 255 509 rfl rfl (by kernel_rfl) (fun K hK => ?_) (fun K hK => ?_)
   ·
    refine q_v hk (w_ldv (z := zv (rEv c x k)) rfl ty47 (.blk (n := 4) (hs.mi 1 rfl) rfl)) fun a hk => ?_
    have hL := okL.cons (hs.mi 4 rfl) (okL.cons (hs.ri 0 rfl) (okL.cons (hs.mi 0 rfl) okL.nil))
    refine c_end (x_t (hK _ _ hL ?_))
    clear hK K
    refine d_1 8 511 rfl (by kernel_rfl) fun K hK => ?_
    refine q_call (caps := []) hk rfl rfl Tryz.func66 fo66 rfl rfl (rmul_z (x := (c k)) (y := (pw x k)) _ rfl rfl) ?_
    rintro _ w ⟨rfl, hb⟩
    have hs := hs.below hb
    refine ⟨_, rfl, fun a hk => ?_⟩
    have hL := okL.cons (hs.mi 4 rfl) (okL.cons (hs.ri 0 rfl) (okL.cons (hs.mi 0 rfl) okL.nil))
    refine c_end (x_t (hK _ _ hL ?_))
    clear hK K
    have hL := okL.cons (hs.mi 4 rfl) (okL.cons (hs.ri 0 rfl) (okL.cons (hs.mi 0 rfl) okL.nil))
    exact hJ511 _ _ ⟨hk.k rfl (hk.k rfl (hk.k rfl (hk.k rfl (hk.k rfl (hk.k rfl (hk.k rfl (hk.k rfl (hk.k rfl (hk.k rfl (hk.k rfl (hk.k rfl (hk.k rfl (hk.k rfl (hk.k rfl (hk.k rfl (hk.k rfl (hk.k rfl (hk.k rfl (hk.k rfl hk.nil))))))))))))))))))), hs, hL⟩
   ·
    refine q_call (caps := []) hk rfl rfl Tryz.func66 fo66 rfl rfl (rmul_z (x := (c k)) (y := (pw x k)) _ rfl rfl) ?_
    rintro _ w ⟨rfl, hb⟩
    have hs := hs.below hb
    refine ⟨_, rfl, fun a hk => ?_⟩
    have hL := okL.cons (hs.mi 4 rfl) (okL.cons (hs.ri 0 rfl) (okL.cons (hs.mi 0 rfl) okL.nil))
    refine c_end (x_t (hK _ _ hL ?_))
    clear hK K
    refine d_1 1 511 rfl (by kernel_rfl) fun K hK => ?_
    refine q_v hk (w_ldv (z := zv (rEv c x k)) rfl ty47 (.blk (n := 4) (hs.mi 1 rfl) rfl)) fun a hk => ?_
    have hL := okL.cons (hs.mi 4 rfl) (okL.cons (hs.ri 0 rfl) (okL.cons (hs.mi 0 rfl) okL.nil))
    refine c_end (x_t (hK _ _ hL ?_))
    clear hK K
    have hL := okL.cons (hs.mi 4 rfl) (okL.cons (hs.ri 0 rfl) (okL.cons (hs.mi 0 rfl) okL.nil))
    exact hJ511 _ _ ⟨hk.k rfl (hk.k rfl (hk.k rfl (hk.k rfl (hk.k rfl (hk.k rfl (hk.k rfl (hk.k rfl (hk.k rfl (hk.k rfl (hk.k rfl (hk.k rfl (hk.k rfl (hk.k rfl (hk.k rfl (hk.k rfl (hk.k rfl (hk.k rfl (hk.k rfl (hk.k rfl hk.nil))))))))))))))))))), hs, hL⟩
  ·
   rintro a w ⟨hk, hs, hL⟩
   refine d_1 9 1023 rfl (by kernel_rfl) fun K hK => ?_
   refine q_call (caps := []) hk rfl rfl Tryz.func30 fo30 rfl rfl (radd_z (x := (rEv c x k)) (y := ((c k) * (pw x k))) _ rfl rfl) ?_
   rintro _ w ⟨rfl, hb⟩
   have hs := hs.below hb
   refine ⟨_, rfl, fun a hk => ?_⟩
   have hL := okL.cons (hs.mi 4 rfl) (okL.cons (hs.ri 0 rfl) (okL.cons (hs.mi 0 rfl) okL.nil))
   refine c_end (x_t (hK _ _ hL ?_))
   clear hK K
   refine d_1 10 2047 rfl (by kernel_rfl) fun K hK => ?_
   have hs := hs.up1
   refine q_sto (o := 0) (cs := [.int .u64 ((dg 0 (zv ((rEv c x k) + ((c k) * (pw x k)))) : Nat) : Int), .int .u64 ((dg 1 (zv ((rEv c x k) + ((c k) * (pw x k)))) : Nat) : Int), .int .u64 ((dg 2 (zv ((rEv c x k) + ((c k) * (pw x k)))) : Nat) : Int), .int .u64 ((dg 3 (zv ((rEv c x k) + ((c k) * (pw x k)))) : Nat) : Int)]) (vs' := [.int .u64 ((dg 0 (zv ((rEv c x k) + ((c k) * (pw x k)))) : Nat) : Int), .int .u64 ((dg 1 (zv ((rEv c x k) + ((c k) * (pw x k)))) : Nat) : Int), .int .u64 ((dg 2 (zv ((rEv c x k) + ((c k) * (pw x k)))) : Nat) : Int), .int .u64 ((dg 3 (zv ((rEv c x k) + ((c k) * (pw x k)))) : Nat) : Int)]) hk hs rfl rfl rfl ty47 rfl rfl rfl rfl rfl rfl fun w hs => ?_
   have hL := okL.cons (hs.mi 4 rfl) (okL.cons (hs.ri 0 rfl) (okL.cons (hs.mi 1 rfl) okL.nil))
   refine c_end (x_t (hK _ _ hL ?_))
   clear hK K
   refine d_end (by kernel_rfl) ?_
   refine (x_t ?_)
   refine wR ?_
   refine q_v hk (w_ldv (z := pr s) rfl ty47 (.blk (n := 4) (hs.mi 4 rfl) rfl)) fun a hk => ?_
   refine q_v hk (w_ldv (z := zv (pw x k)) rfl ty47 (.blk (n := 4) (hs.mi 1 rfl) rfl)) fun a hk => ?_
   refine q_v hk (w_ldv (z := zv x) rfl ty47 (.blk (n := 4) (hs.mi 3 rfl) rfl)) fun a hk => ?_
   refine q_call (caps := []) hk rfl rfl Tryz.func66 fo66 rfl rfl (rmul_z (x := (pw x k)) (y := x) _ rfl rfl) ?_
   rintro _ w ⟨rfl, hb⟩
   have hs := hs.below hb
   refine ⟨_, rfl, fun a hk => ?_⟩
   have hs := hs.up1
   refine q_sto (o := 0) (cs := [.int .u64 ((dg 0 (zv ((pw x k) * x)) : Nat) : Int), .int .u64 ((dg 1 (zv ((pw x k) * x)) : Nat) : Int), .int .u64 ((dg 2 (zv ((pw x k) * x)) : Nat) : Int), .int .u64 ((dg 3 (zv ((pw x k) * x)) : Nat) : Int)]) (vs' := [.int .u64 ((dg 0 (zv ((pw x k) * x)) : Nat) : Int), .int .u64 ((dg 1 (zv ((pw x k) * x)) : Nat) : Int), .int .u64 ((dg 2 (zv ((pw x k) * x)) : Nat) : Int), .int .u64 ((dg 3 (zv ((pw x k) * x)) : Nat) : Int)]) hk hs rfl rfl rfl ty47 rfl rfl rfl rfl rfl rfl fun w hs => ?_
   refine (c_end (x_b (x_t ?_)))
   refine wR ?_
   refine q_v hk (w_mv rfl) fun a hk => ?_
   refine q_v hk (w_add rfl rfl (wr64 (by omega) (by omega))) fun a hk => ?_
   refine q_v hk (w_as rfl) fun a hk => ?_
   refine c_end (x_t ?_)
   exact ⟨k + 1, ⟨(by omega), hk.k rfl (hk.k rfl (hk.k rfl (hk.k rfl (hk.k rfl (hk.k rfl (hk.k rfl hk.nil)))))), hs⟩, by omega⟩
 ·
  refine q_v hk (w_lt rfl rfl (decide_eq_false hc6)) fun a hk => ?_
  refine c_end (x_t ?_)
  refine c_F hk rfl ?_
  refine (wpIn_exit (x_te (x_te (x_be ?_))))
  refine (x_t ?_)
  refine wS (wR ?_)
  refine q_v hk (w_ldv (z := zv (rEv c x k)) rfl ty47 (.blk (n := 4) (hs.mi 1 rfl) rfl)) fun a hk => ?_
  have hs := hs.up2
  refine q_sto (o := 0) (cs := [.int .u64 ((dg 0 (zv (rEv c x k)) : Nat) : Int), .int .u64 ((dg 1 (zv (rEv c x k)) : Nat) : Int), .int .u64 ((dg 2 (zv (rEv c x k)) : Nat) : Int), .int .u64 ((dg 3 (zv (rEv c x k)) : Nat) : Int)]) (vs' := [.int .u64 ((dg 0 (zv (rEv c x k)) : Nat) : Int), .int .u64 ((dg 1 (zv (rEv c x k)) : Nat) : Int), .int .u64 ((dg 2 (zv (rEv c x k)) : Nat) : Int), .int .u64 ((dg 3 (zv (rEv c x k)) : Nat) : Int)]) hk hs rfl rfl rfl ty47 rfl rfl rfl rfl rfl rfl fun w hs => ?_
  refine c_end (x_t ?_)
  refine (wpIn_ret ?_)
  refine c_retG (vs := [vec (zv (rEv c x k))]) hk rfl ⟨⟨_, rfl, lv_A ty47 (.blk (n := 4) (hs.mi 0 rfl) rfl) rfl⟩, trivial⟩ rfl ?_
  have hkn : k = n := by omega
  exact ⟨by rw [← hkn]; rfl, hs.toBelow⟩
theorem rmulP_z (s : Bool) (na ca nb cb : Nat) (aa ab : Option Addr) (pa pb : Nat → Zp s) (W : World) (HA : LstAt W 4 (.slice aa na ca) na (en vq (fun i => zv (pa i)) na)) (HB : LstAt W 4 (.slice ab nb cb) nb (en vq (fun i => zv (pb i)) nb)) (h0 : 0 < na) (h1 : 0 < nb) (hn9 : na ≤ 1000000) (hn8 : nb ≤ 1000000) : Calls Tryz.prog 130 [vec (pr s), .slice aa na ca, .slice ab nb cb].toArray W fun e w => ∃ o, e = .returned (.slice (some ⟨o, 0, none⟩) (na + nb - 1) (na + nb - 1)) ∧ Sat no W [blk o (en vq (fun j => zv (mall pa pb nb na j)) (na + nb - 1)) 47] [] w := by
 refine c_enter (args := [vec (pr s), .slice aa na ca, .slice ab nb cb]) Tryz.func130 rfl rfl rfl fun a hk => ?_
 have hs := Sat.start W [lst 4 (.slice aa na ca) na (en vq (fun i => zv (pa i)) na), lst 4 (.slice ab nb cb) nb (en vq (fun i => zv (pb i)) nb)] (okrc HA (okr1 HB))
 refine wS (wR ?_)
 refine q_box (vs := [.int .u64 ((dg 0 (pr s) : Nat) : Int), .int .u64 ((dg 1 (pr s) : Nat) : Int), .int .u64 ((dg 2 (pr s) : Nat) : Int), .int .u64 ((dg 3 (pr s) : Nat) : Int)]) hk hs rfl rfl rfl rfl fun b1 w a hk hs => ?_
 refine q_v hk (w_as rfl) fun a hk => ?_
 refine c_end (x_t (wS (wS (wR ?_))))
 refine q_v hk (w_mv rfl) fun a hk => ?_
 refine q_v hk (w_len rfl Tryz.underlying72) fun a hk => ?_
 refine q_v hk (w_eq rfl rfl (decide_eq_false (by omega))) fun a hk => ?_
 refine q_v hk (w_mv rfl) fun a hk => ?_
 refine q_v hk (w_mv rfl) fun a hk => ?_
 refine q_v hk (w_len rfl Tryz.underlying72) fun a hk => ?_
 refine q_v hk (w_eq rfl rfl (decide_eq_false (by omega))) fun a hk => ?_
 refine q_v hk (w_pickF rfl rfl) fun a hk => ?_
 refine c_end (x_t ?_)
 refine c_F hk rfl ?_
 refine (wpIn_skip (x_t ?_))
 refine wS (wR ?_)
 refine q_v hk (w_mv rfl) fun a hk => ?_
 refine q_v hk (w_len rfl Tryz.underlying72) fun a hk => ?_
 refine q_v hk (w_mv rfl) fun a hk => ?_
 refine q_v hk (w_len rfl Tryz.underlying72) fun a hk => ?_
 refine q_v hk (w_add rfl rfl (wr64 (by omega) (by omega))) fun a hk => ?_
 refine q_v hk (w_sub (r := ((na + nb - 1 : Nat) : Int)) rfl rfl (by rw [wr64 (by omega) (by omega)]; omega)) fun a hk => ?_
 refine q_mks (k := na + nb - 1) (cs := vq 0) hk hs rfl rfl Tryz.underlying72 ty47 zr47 (by kernel_rfl) rfl rfl rfl rfl (by omega) (by omega) rfl rfl fun b2 w a hk hs => ?_
 have hs := hs.rw0 (show _ = blk b2 (en vq (fun _ => 0) (na + nb - 1)) 47 from rfl)
 refine q_v hk (w_as rfl) fun a hk => ?_
 refine c_end (x_t (wS (wS (wR ?_))))
 refine q_v hk (w_as rfl) fun a hk => ?_
 refine c_end (x_t ?_)
 refine wpIn_block ?_
 have hs := hs.rw0 (congrArg (fun q => blk b2 q 47) (mallv_zero (a := pa) (b := pb) (nb := nb)))
 refine c_loop (α := Nat) (fun u a w => u ≤ na ∧ Kn [] 61 [(8, .int .i64 ((u : Nat) : Int)), (7, .slice (some ⟨b2, 0, none⟩) (na + nb - 1) (na + nb - 1)), (6, .slice none 0 0), (3, .pointer (some ⟨b1, 0, none⟩)), (1, .slice aa na ca), (2, .slice ab nb cb)] a ∧ Sat no W [blk b2 (en vq (fun i => zv (mall pa pb nb u i)) (na + nb - 1)) 47, blk b1 [.int .u64 ((dg 0 (pr s) : Nat) : Int), .int .u64 ((dg 1 (pr s) : Nat) : Int), .int .u64 ((dg 2 (pr s) : Nat) : Int), .int .u64 ((dg 3 (pr s) : Nat) : Int)] 47] [lst 4 (.slice aa na ca) na (en vq (fun i => zv (pa i)) na), lst 4 (.slice ab nb cb) nb (en vq (fun i => zv (pb i)) nb)] w) (fun u => na - u) 0 ?_ ?_
 · exact ⟨(by omega), hk.k rfl (hk.k rfl (hk.k rfl (hk.k rfl (hk.k rfl (hk.k rfl hk.nil))))), hs⟩
 rintro u a w ⟨hf0, hk, hs⟩
 refine wS (wS (wR ?_))
 refine q_v hk (w_mv rfl) fun a hk => ?_
 refine q_v hk (w_mv rfl) fun a hk => ?_
 refine q_v hk (w_len rfl Tryz.underlying72) fun a hk => ?_
 rcases Classical.em (((u : Nat) : Int) < ((na : Nat) : Int)) with hc3 | hc3
 ·
  refine q_v hk (w_lt rfl rfl (decide_eq_true hc3)) fun a hk => ?_
  refine c_end (x_t ?_)
  refine c_T hk rfl ?_
  refine (wpIn_skip (x_t ?_))
  refine wS ?_
  refine wpIn_block ?_
  refine wS (wR ?_)
  refine q_v hk (w_as rfl) fun a hk => ?_
  refine c_end (x_t ?_)
  refine wpIn_block ?_
  refine c_loop (α := Nat) (fun k a w => k ≤ nb ∧ Kn [] 61 [(9, .int .i64 ((k : Nat) : Int)), (28, .bool true), (27, .int .i64 ((na : Nat) : Int)), (26, .slice aa na ca), (25, .int .i64 ((u : Nat) : Int)), (8, .int .i64 ((u : Nat) : Int)), (7, .slice (some ⟨b2, 0, none⟩) (na + nb - 1) (na + nb - 1)), (6, .slice none 0 0), (3, .pointer (some ⟨b1, 0, none⟩)), (1, .slice aa na ca), (2, .slice ab nb cb)] a ∧ Sat no W [blk b2 (en vq (fun i => zv (mrow pa pb u (mall pa pb nb u) k i)) (na + nb - 1)) 47, blk b1 [.int .u64 ((dg 0 (pr s) : Nat) : Int), .int .u64 ((dg 1 (pr s) : Nat) : Int), .int .u64 ((dg 2 (pr s) : Nat) : Int), .int .u64 ((dg 3 (pr s) : Nat) : Int)] 47] [lst 4 (.slice aa na ca) na (en vq (fun i => zv (pa i)) na), lst 4 (.slice ab nb cb) nb (en vq (fun i => zv (pb i)) nb)] w) (fun k => nb - k) 0 ?_ ?_
  · exact ⟨(by omega), hk.k rfl (hk.k rfl (hk.k rfl (hk.k rfl (hk.k rfl (hk.k rfl (hk.k rfl (hk.k rfl (hk.k rfl (hk.k rfl (hk.k rfl hk.nil)))))))))), hs⟩
  rintro k a w ⟨hf0, hk, hs⟩
  refine wS (wS (wR ?_))
  refine q_v hk (w_mv rfl) fun a hk => ?_
  refine q_v hk (w_mv rfl) fun a hk => ?_
  refine q_v hk (w_len rfl Tryz.underlying72) fun a hk => ?_
  rcases Classical.em (((k : Nat) : Int) < ((nb : Nat) : Int)) with hc4 | hc4
  ·
   refine q_v hk (w_lt rfl rfl (decide_eq_true hc4)) fun a hk => ?_
   refine c_end (x_t ?_)
   refine c_T hk rfl ?_
   refine (wpIn_skip (x_t ?_))
   refine wS ?_
   refine wpIn_block ?_
   have hL := okL.cons (hs.mi 1 rfl) (okL.cons (hs.ri 0 rfl) (okL.cons (hs.ri 1 rfl) okL.nil))
   refine d_begin _ 24 (by kernel_rfl) rfl hs hL fun w hs hL => ?_
   refine d_join (n2 := 3) 2097151 (fun a w => Kn [] 61 [(57, vec (zv ((pa u) * (pb k)))), (47, vec (zv (mrow pa pb u (mall pa pb nb u) k (u + k)))), (46, .pointer (some ((adq (some ⟨b2, 0, none⟩)).add ((u + k) * 4)))), (56, vec (zv (pb k))), (55, .pointer (some ((adq ab).add (k * 4)))), (54, .int .i64 ((k : Nat) : Int)), (53, .slice ab nb cb), (52, vec (zv (pa u))), (51, .pointer (some ((adq aa).add (u * 4)))), (50, .int .i64 ((u : Nat) : Int)), (49, .slice aa na ca), (48, vec (pr s)), (45, .int .i64 ((u + k : Nat) : Int)), (44, .int .i64 ((k : Nat) : Int)), (43, .int .i64 ((u : Nat) : Int)), (42, .slice (some ⟨b2, 0, none⟩) (na + nb - 1) (na + nb - 1)), (41, vec (pr s)), (40, .int .i64 ((u + k : Nat) : Int)), (39, .int .i64 ((k : Nat) : Int)), (38, .int .i64 ((u : Nat) : Int)), (37, .slice (some ⟨b2, 0, none⟩) (na + nb - 1) (na + nb - 1)), (34, .bool true), (33, .int .i64 ((nb : Nat) : Int)), (32, .slice ab nb cb), (31, .int .i64 ((k : Nat) : Int)), (9, .int .i64 ((k : Nat) : Int)), (28, .bool true), (27, .int .i64 ((na : Nat) : Int)), (26, .slice aa na ca), (25, .int .i64 ((u : Nat) : Int)), (8, .int .i64 ((u : Nat) : Int)), (7, .slice (some ⟨b2, 0, none⟩) (na + nb - 1) (na + nb - 1)), (6, .slice none 0 0), (3, .pointer (some ⟨b1, 0, none⟩)), (1, .slice aa na ca), (2, .slice ab nb cb)] a ∧ Sat no W [blk b2 (en vq (fun i => zv (mrow pa pb u (mall pa pb nb u) k i)) (na + nb - 1)) 47, blk b1 [.int .u64 ((dg 0 (pr s) : Nat) : Int), .int .u64 ((dg 1 (pr s) : Nat) : Int), .int .u64 ((dg 2 (pr s) : Nat) : Int), .int .u64 ((dg 3 (pr s) : Nat) : Int)] 47] [lst 4 (.slice aa na ca) na (en vq (fun i => zv (pa i)) na), lst 4 (.slice ab nb cb) nb (en vq (fun i => zv (pb i)) nb)] w ∧ okL [blk b1 [.int .u64 ((dg 0 (pr s) : Nat) : Int), .int .u64 ((dg 1 (pr s) : Nat) : Int), .int .u64 ((dg 2 (pr s) : Nat) : Int), .int .u64 ((dg 3 (pr s) : Nat) : Int)] 47, lst 4 (.slice aa na ca) na (en vq (fun i => zv (pa i)) na), lst 4 (.slice ab nb cb) nb (en vq (fun i => zv (pb i)) nb)] w) ?_ ?_
   ·
    intro hJ2097151
    refine d_join (n2 := 4) 2096127 (fun a w => Kn [] 61 [(57, vec (zv ((pa u) * (pb k)))), (46, .pointer (some ((adq (some ⟨b2, 0, none⟩)).add ((u + k) * 4)))), (56, vec (zv (pb k))), (55, .pointer (some ((adq ab).add (k * 4)))), (54, .int .i64 ((k : Nat) : Int)), (53, .slice ab nb cb), (52, vec (zv (pa u))), (51, .pointer (some ((adq aa).add (u * 4)))), (50, .int .i64 ((u : Nat) : Int)), (49, .slice aa na ca), (48, vec (pr s)), (45, .int .i64 ((u + k : Nat) : Int)), (44, .int .i64 ((k : Nat) : Int)), (43, .int .i64 ((u : Nat) : Int)), (42, .slice (some ⟨b2, 0, none⟩) (na + nb - 1) (na + nb - 1)), (41, vec (pr s)), (40, .int .i64 ((u + k : Nat) : Int)), (39, .int .i64 ((k : Nat) : Int)), (38, .int .i64 ((u : Nat) : Int)), (37, .slice (some ⟨b2, 0, none⟩) (na + nb - 1) (na + nb - 1)), (34, .bool true), (33, .int .i64 ((nb : Nat) : Int)), (32, .slice ab nb cb), (31, .int .i64 ((k : Nat) : Int)), (9, .int .i64 ((k : Nat) : Int)), (28, .bool true), (27, .int .i64 ((na : Nat) : Int)), (26, .slice aa na ca), (25, .int .i64 ((u : Nat) : Int)), (8, .int .i64 ((u : Nat) : Int)), (7, .slice (some ⟨b2, 0, none⟩) (na + nb - 1) (na + nb - 1)), (6, .slice none 0 0), (3, .pointer (some ⟨b1, 0, none⟩)), (1, .slice aa na ca), (2, .slice ab nb cb)] a ∧ Sat no W [blk b2 (en vq (fun i => zv (mrow pa pb u (mall pa pb nb u) k i)) (na + nb - 1)) 47, blk b1 [.int .u64 ((dg 0 (pr s) : Nat) : Int), .int .u64 ((dg 1 (pr s) : Nat) : Int), .int .u64 ((dg 2 (pr s) : Nat) : Int), .int .u64 ((dg 3 (pr s) : Nat) : Int)] 47] [lst 4 (.slice aa na ca) na (en vq (fun i => zv (pa i)) na), lst 4 (.slice ab nb cb) nb (en vq (fun i => zv (pb i)) nb)] w ∧ okL [blk b1 [.int .u64 ((dg 0 (pr s) : Nat) : Int), .int .u64 ((dg 1 (pr s) : Nat) : Int), .int .u64 ((dg 2 (pr s) : Nat) : Int), .int .u64 ((dg 3 (pr s) : Nat) : Int)] 47, lst 4 (.slice aa na ca) na (en vq (fun i => zv (pa i)) na), lst 4 (.slice ab nb cb) nb (en vq (fun i => zv (pb i)) nb)] w) ?_ ?_
    ·
     intro hJ2096127
     refine d_w 0 1 hk hL rfl (fun w hL => w_mv rfl) fun a hk => ?_
     refine d_w 1 3 hk hL rfl (fun w hL => w_mv rfl) fun a hk => ?_
     refine d_w 2 7 hk hL rfl (fun w hL => w_mv rfl) fun a hk => ?_
     refine d_w 3 15 hk hL rfl (fun w hL => w_add (r := ((u + k : Nat) : Int)) rfl rfl (by rw [wr64 (by omega) (by omega)]; omega)) fun a hk => ?_
     refine d_w 4 31 hk hL rfl (fun w hL => w_ldv (z := pr s) rfl ty47 (.blk (n := 4) (hL.at 0 rfl) rfl)) fun a hk => ?_
     refine d_w 5 63 hk hL rfl (fun w hL => w_mv rfl) fun a hk => ?_
     refine d_w 6 127 hk hL rfl (fun w hL => w_mv rfl) fun a hk => ?_
     refine d_w 7 255 hk hL rfl (fun w hL => w_mv rfl) fun a hk => ?_
     refine d_w 8 511 hk hL rfl (fun w hL => w_add (r := ((u + k : Nat) : Int)) rfl rfl (by rw [wr64 (by omega) (by omega)]; omega)) fun a hk => ?_
     refine d_w 11 2559 hk hL rfl (fun w hL => w_ldv (z := pr s) rfl ty47 (.blk (n := 4) (hL.at 0 rfl) rfl)) fun a hk => ?_
     refine d_w 12 6655 hk hL rfl (fun w hL => w_mv rfl) fun a hk => ?_
     refine d_w 13 14847 hk hL rfl (fun w hL => w_mv rfl) fun a hk => ?_
     refine d_w 14 31231 hk hL rfl (fun w hL => w_iaL (k := u) rfl rfl Tryz.underlying72 ty47 (hL.at 1 rfl) (by omega) (by omega)) fun a hk => ?_
     refine d_w 15 63999 hk hL rfl (fun w hL => w_ldv (z := zv (pa u)) rfl ty47 (lstq (k := u) (hL.at 1 rfl) (by omega) (en_chunk vq_len (by omega)))) fun a hk => ?_
     refine d_w 16 129535 hk hL rfl (fun w hL => w_mv rfl) fun a hk => ?_
     refine d_w 17 260607 hk hL rfl (fun w hL => w_mv rfl) fun a hk => ?_
     refine d_w 18 522751 hk hL rfl (fun w hL => w_iaL (k := k) rfl rfl Tryz.underlying72 ty47 (hL.at 2 rfl) (by omega) (by omega)) fun a hk => ?_
     refine d_w 19 1047039 hk hL rfl (fun w hL => w_ldv (z := zv (pb k)) rfl ty47 (lstq (k := k) (hL.at 2 rfl) (by omega) (en_chunk vq_len (by omega)))) fun a hk => ?_
     refine d_2 9 20 1047551 2095615 rfl rfl (by kernel_rfl) (fun K hK => ?_) (fun K hK => ?_)
     ·
      refine q_v hk (w_iaL (k := u + k) rfl rfl Tryz.underlying72 ty47 (blk_lst (hs.mi 0 rfl) (en_len vq_len) (Nat.le_refl _)) (by omega) (by omega)) fun a hk => ?_
      have hL := okL.cons (hs.mi 1 rfl) (okL.cons (hs.ri 0 rfl) (okL.cons (hs.ri 1 rfl) okL.nil))
      refine c_end (x_t (hK _ _ hL ?_))
      clear hK K
      refine d_2 10 20 1048575 2096127 rfl rfl (by kernel_rfl) (fun K hK => ?_) (fun K hK => ?_)
      ·
       refine q_v hk (w_ldv (z := zv (mrow pa pb u (mall pa pb nb u) k (u + k))) rfl ty47 (lstq (k := u + k) (blk_lst (hs.mi 0 rfl) (en_len vq_len) (Nat.le_refl _)) (by omega) (en_chunk vq_len (by omega)))) fun a hk => ?_
       have hL := okL.cons (hs.mi 1 rfl) (okL.cons (hs.ri 0 rfl) (okL.cons (hs.ri 1 rfl) okL.nil))
       refine c_end (x_t (hK _ _ hL ?_))
       clear hK K
       refine d_1 20 2097151 rfl (by kernel_rfl) fun K hK => ?_
       refine q_call (caps := []) hk rfl rfl Tryz.func66 fo66 rfl rfl (rmul_z (x := (pa u)) (y := (pb k)) _ rfl rfl) ?_
       rintro _ w ⟨rfl, hb⟩
       have hs := hs.below hb
       refine ⟨_, rfl, fun a hk => ?_⟩
       have hL := okL.cons (hs.mi 1 rfl) (okL.cons (hs.ri 0 rfl) (okL.cons (hs.ri 1 rfl) okL.nil))
       refine c_end (x_t (hK _ _ hL ?_))
       clear hK K
       have hL := okL.cons (hs.mi 1 rfl) (okL.cons (hs.ri 0 rfl) (okL.cons (hs.ri 1 rfl) okL.nil))
       exact hJ2097151 _ _ ⟨hk.k rfl (hk.k rfl (hk.k rfl (hk.k rfl (hk.k rfl (hk.k rfl (hk.k rfl (hk.k rfl (hk.k rfl (hk.k rfl (hk.k rfl (hk.k rfl (hk.k rfl (hk.k rfl (hk.k rfl (hk.k rfl (hk.k rfl (hk.k rfl (hk.k rfl (hk.k rfl (hk.k rfl (hk.k rfl (hk.k rfl (hk.k rfl (hk.k rfl (hk.k rfl (hk.k rfl (hk.k rfl (hk.k rfl (hk.k rfl (hk.k rfl (hk.k rfl (hk.k rfl (hk.k rfl (hk.k rfl (hk.k rfl hk.nil))))))))))))))))))))))))))))))))))), hs, hL⟩
      ·
       refine q_call (caps := []) hk rfl rfl Tryz.func66 fo66 rfl rfl (rmul_z (x := (pa u)) (y := (pb k)) _ rfl rfl) ?_
       rintro _ w ⟨rfl, hb⟩
       have hs := hs.below hb
       refine ⟨_, rfl, fun a hk => ?_⟩
       have hL := okL.cons (hs.mi 1 rfl) (okL.cons (hs.ri 0 rfl) (okL.cons (hs.ri 1 rfl) okL.nil))
       refine c_end (x_t (hK _ _ hL ?_))
       clear hK K
       have hL := okL.cons (hs.mi 1 rfl) (okL.cons (hs.ri 0 rfl) (okL.cons (hs.ri 1 rfl) okL.nil))
       exact hJ2096127 _ _ ⟨hk.k rfl (hk.k rfl (hk.k rfl (hk.k rfl (hk.k rfl (hk.k rfl (hk.k rfl (hk.k rfl (hk.k rfl (hk.k rfl (hk.k rfl (hk.k rfl (hk.k rfl (hk.k rfl (hk.k rfl (hk.k rfl (hk.k rfl (hk.k rfl (hk.k rfl (hk.k rfl (hk.k rfl (hk.k rfl (hk.k rfl (hk.k rfl (hk.k rfl (hk.k rfl (hk.k rfl (hk.k rfl (hk.k rfl (hk.k rfl (hk.k rfl (hk.k rfl (hk.k rfl (hk.k rfl (hk.k rfl hk.nil)))))))))))))))))))))))))))))))))), hs, hL⟩
     ·
      refine q_call (caps := []) hk rfl rfl Tryz.func66 fo66 rfl rfl (rmul_z (x := (pa u)) (y := (pb k)) _ rfl rfl) ?_
      rintro _ w ⟨rfl, hb⟩
      have hs := hs.below hb
      refine ⟨_, rfl, fun a hk => ?_⟩
      have hL := okL.cons (hs.mi 1 rfl) (okL.cons (hs.ri 0 rfl) (okL.cons (hs.ri 1 rfl) okL.nil))
      refine c_end (x_t (hK _ _ hL ?_))
      clear hK K
      refine d_1 9 2096127 rfl (by kernel_rfl) fun K hK => ?_
      refine q_v hk (w_iaL (k := u + k) rfl rfl Tryz.underlying72 ty47 (blk_lst (hs.mi 0 rfl) (en_len vq_len) (Nat.le_refl _)) (by omega) (by omega)) fun a hk => ?_
      have hL := okL.cons (hs.mi 1 rfl) (okL.cons (hs.ri 0 rfl) (okL.cons (hs.ri 1 rfl) okL.nil))
      refine c_end (x_t (hK _ _ hL ?_))
      clear hK K
      have hL := okL.cons (hs.mi 1 rfl) (okL.cons (hs.ri 0 rfl) (okL.cons (hs.ri 1 rfl) okL.nil))
      exact hJ2096127 _ _ ⟨hk.k rfl (hk.k rfl (hk.k rfl (hk.k rfl (hk.k rfl (hk.k rfl (hk.k rfl (hk.k rfl (hk.k rfl (hk.k rfl (hk.k rfl (hk.k rfl (hk.k rfl (hk.k rfl (hk.k rfl (hk.k rfl (hk.k rfl (hk.k rfl (hk.k rfl (hk.k rfl (hk.k rfl (hk.k rfl (hk.k rfl (hk.k rfl (hk.k rfl (hk.k rfl (hk.k rfl (hk.k rfl (hk.k rfl (hk.k rfl (hk.k rfl (hk.k rfl (hk.k rfl (hk.k rfl (hk.k rfl hk.nil)))))))))))))))))))))))))))))))))), hs, hL⟩
    ·
     rintro a w ⟨hk, hs, hL⟩
     refine d_1 10 2097151 rfl (by kernel_rfl) fun K hK => ?_
     refine q_v hk (w_ldv (z := zv (mrow pa pb u (mall pa pb nb u) k (u + k))) rfl ty47 (lstq (k := u + k) (blk_lst (hs.mi 0 rfl) (en_len vq_len) (Nat.le_refl _)) (by omega) (en_chunk vq_len (by omega)))) fun a hk => ?_
     have hL := okL.cons (hs.mi 1 rfl) (okL.cons (hs.ri 0 rfl) (okL.cons (hs.ri 1 rfl) okL.nil))
     refine c_end (x_t (hK _ _ hL ?_))
     clear hK K
     have hL := okL.cons (hs.mi 1 rfl) (okL.cons (hs.ri 0 rfl) (okL.cons (hs.ri 1 rfl) okL.nil))
     exact hJ2097151 _ _ ⟨hk.k rfl (hk.k rfl (hk.k rfl (hk.k rfl (hk.k rfl (hk.k rfl (hk.k rfl (hk.k rfl (hk.k rfl (hk.k rfl (hk.k rfl (hk.k rfl (hk.k rfl (hk.k rfl (hk.k rfl (hk.k rfl (hk.k rfl (hk.k rfl (hk.k rfl (hk.k rfl (hk.k rfl (hk.k rfl (hk.k rfl (hk.k rfl (hk.k rfl (hk.k rfl (hk.k rfl (hk.k rfl (hk.k rfl (hk.k rfl (hk.k rfl (hk.k rfl (hk.k rfl (hk.k rfl (hk.k rfl (hk.k rfl hk.nil))))))))))))))))))))))))))))))))))), hs, hL⟩
   ·
    rintro a w ⟨hk, hs, hL⟩
    refine d_1 21 4194303 rfl (by kernel_rfl) fun K hK => ?_
    refine q_call (caps := []) hk rfl rfl Tryz.func30 fo30 rfl rfl (radd_z (x := (mrow pa pb u (mall pa pb nb u) k (u + k))) (y := ((pa u) * (pb k))) _ rfl rfl) ?_
    rintro _ w ⟨rfl, hb⟩
    have hs := hs.below hb
    refine ⟨_, rfl, fun a hk => ?_⟩
    have hL := okL.cons (hs.mi 1 rfl) (okL.cons (hs.ri 0 rfl) (okL.cons (hs.ri 1 rfl) okL.nil))
    refine c_end (x_t (hK _ _ hL ?_))
    clear hK K
    refine d_1 22 8388607 rfl (by kernel_rfl) fun K hK => ?_
    refine q_v hk (w_iaL (k := u + k) rfl rfl Tryz.underlying72 ty47 (blk_lst (hs.mi 0 rfl) (en_len vq_len) (Nat.le_refl _)) (by omega) (by omega)) fun a hk => ?_
    have hL := okL.cons (hs.mi 1 rfl) (okL.cons (hs.ri 0 rfl) (okL.cons (hs.ri 1 rfl) okL.nil))
    refine c_end (x_t (hK _ _ hL ?_))
    clear hK K
    refine d_1 23 16777215 rfl (by kernel_rfl) fun K hK => ?_
    refine q_stoE (c := vq) (xx := (zv ((mrow pa pb u (mall pa pb nb u) k (u + k)) + ((pa u) * (pb k))))) (k := (u + k)) hk hs rfl rfl rfl ty47 rfl vq_len rfl (by omega) rfl fun w hs => ?_
    have hL := okL.cons (hs.mi 1 rfl) (okL.cons (hs.ri 0 rfl) (okL.cons (hs.ri 1 rfl) okL.nil))
    refine c_end (x_t (hK _ _ hL ?_))
    clear hK K
    refine d_end (by kernel_rfl) ?_
    refine (x_b (x_t ?_))
    refine wR ?_
    refine q_v hk (w_mv rfl) fun a hk => ?_
    refine q_v hk (w_add rfl rfl (wr64 (by omega) (by omega))) fun a hk => ?_
    refine q_v hk (w_as rfl) fun a hk => ?_
    refine c_end (x_t ?_)
    have hs := hs.rw0 (congrArg (fun q => blk b2 q 47) (mrowv_step))
    exact ⟨k + 1, ⟨(by omega), hk.k rfl (hk.k rfl (hk.k rfl (hk.k rfl (hk.k rfl (hk.k rfl (hk.k rfl (hk.k rfl (hk.k rfl (hk.k rfl (hk.k rfl hk.nil)))))))))), hs⟩, by omega⟩
  ·
   refine q_v hk (w_lt rfl rfl (decide_eq_false hc4)) fun a hk => ?_
   refine c_end (x_t ?_)
   refine c_F hk rfl ?_
   refine (wpIn_exit (x_te (x_te (x_be ?_))))
   refine (x_b (x_t ?_))
   refine wR ?_
   refine q_v hk (w_mv rfl) fun a hk => ?_
   refine q_v hk (w_add rfl rfl (wr64 (by omega) (by omega))) fun a hk => ?_
   refine q_v hk (w_as rfl) fun a hk => ?_
   refine c_end (x_t ?_)
   have hknb : k = nb := by omega
   rw [hknb] at hs
   exact ⟨u + 1, ⟨(by omega), hk.k rfl (hk.k rfl (hk.k rfl (hk.k rfl (hk.k rfl (hk.k rfl hk.nil))))), hs⟩, by omega⟩
 ·
  refine q_v hk (w_lt rfl rfl (decide_eq_false hc3)) fun a hk => ?_
  refine c_end (x_t ?_)
  refine c_F hk rfl ?_
  refine (wpIn_exit (x_te (x_te (x_be ?_))))
  refine (x_t ?_)
  refine wS (wR ?_)
  refine q_v hk (w_mv rfl) fun a hk => ?_
  refine q_v hk (w_as rfl) fun a hk => ?_
  refine c_end (x_t ?_)
  refine (wpIn_ret ?_)
  refine c_ret1 hk rfl rfl ?_
  have hs := hs.up1
  have hs := hs.drop
  have hina : u = na := by omega
  rw [hina] at hs
  exact ⟨_, rfl, hs.fin⟩
theorem raddP_z (s : Bool) (n ca cb : Nat) (aa ab : Option Addr) (px py : Nat → Zp s) (W : World) (HA : LstAt W 4 (.slice aa n ca) n (en vq (fun i => zv (px i)) n)) (HB : LstAt W 4 (.slice ab n cb) n (en vq (fun i => zv (py i)) n)) (hn9 : n ≤ 1000000) : Calls Tryz.prog 132 [vec (pr s), .slice aa n ca, .slice ab n cb].toArray W fun e w => ∃ o, e = .returned (.slice (some ⟨o, 0, none⟩) n n) ∧ Sat no W [blk o (en vq (fun j => zv (px j + py j)) n) 47] [] w := by
 refine c_enter (args := [vec (pr s), .slice aa n ca, .slice ab n cb]) Tryz.func132 rfl rfl rfl fun a hk => ?_
 have hs := Sat.start W [lst 4 (.slice aa n ca) n (en vq (fun i => zv (px i)) n), lst 4 (.slice ab n cb) n (en vq (fun i => zv (py i)) n)] (okrc HA (okr1 HB))
 refine wS (wR ?_)
 refine q_box (vs := [.int .u64 ((dg 0 (pr s) : Nat) : Int), .int .u64 ((dg 1 (pr s) : Nat) : Int), .int .u64 ((dg 2 (pr s) : Nat) : Int), .int .u64 ((dg 3 (pr s) : Nat) : Int)]) hk hs rfl rfl rfl rfl fun b1 w a hk hs => ?_
 refine q_v hk (w_as rfl) fun a hk => ?_
 refine c_end (x_t (wS (wR ?_)))
 refine q_v hk (w_mv rfl) fun a hk => ?_
 refine q_v hk (w_len rfl Tryz.underlying72) fun a hk => ?_
 refine q_v hk (w_mv rfl) fun a hk => ?_
 refine q_v hk (w_len rfl Tryz.underlying72) fun a hk => ?_
 refine q_v hk (w_max (r := ((n : Nat) : Int)) rfl rfl (by omega)) fun a hk => ?_
 refine q_mks (k := n) (cs := vq 0) hk hs rfl rfl Tryz.underlying72 ty47 zr47 (by kernel_rfl) rfl rfl rfl rfl (by omega) (by omega) rfl rfl fun b2 w a hk hs => ?_
 have hs := hs.rw0 (show _ = blk b2 (en vq (fun _ => 0) n) 47 from rfl)
 refine q_v hk (w_as rfl) fun a hk => ?_
 refine c_end (x_t (wS (wS (wR ?_))))
 refine q_v hk (w_as rfl) fun a hk => ?_
 refine c_end (x_t ?_)
 refine wpIn_block ?_
 have hs := hs.rw0 (congrArg (fun q => blk b2 q 47) (cpf_zero (x := px)))
 refine c_loop (α := Nat) (fun k a w => k ≤ n ∧ Kn [] 49 [(8, .int .i64 ((k : Nat) : Int)), (7, .slice (some ⟨b2, 0, none⟩) n n), (6, .slice none 0 0), (3, .pointer (some ⟨b1, 0, none⟩)), (1, .slice aa n ca), (2, .slice ab n cb)] a ∧ Sat no W [blk b2 (en vq (fun i => cpf px k i) n) 47, blk b1 [.int .u64 ((dg 0 (pr s) : Nat) : Int), .int .u64 ((dg 1 (pr s) : Nat) : Int), .int .u64 ((dg 2 (pr s) : Nat) : Int), .int .u64 ((dg 3 (pr s) : Nat) : Int)] 47] [lst 4 (.slice aa n ca) n (en vq (fun i => zv (px i)) n), lst 4 (.slice ab n cb) n (en vq (fun i => zv (py i)) n)] w) (fun k => n - k) 0 ?_ ?_
 · exact ⟨(by omega), hk.k rfl (hk.k rfl (hk.k rfl (hk.k rfl (hk.k rfl (hk.k rfl hk.nil))))), hs⟩
 rintro k a w ⟨hf0, hk, hs⟩
 refine wS (wS (wR ?_))
 refine q_v hk (w_mv rfl) fun a hk => ?_
 refine q_v hk (w_mv rfl) fun a hk => ?_
 refine q_v hk (w_len rfl Tryz.underlying72) fun a hk => ?_
 rcases Classical.em (((k : Nat) : Int) < ((n : Nat) : Int)) with hc3 | hc3
 ·
  refine q_v hk (w_lt rfl rfl (decide_eq_true hc3)) fun a hk => ?_
  refine c_end (x_t ?_)
  refine c_T hk rfl ?_
  refine (wpIn_skip (x_t ?_))
  refine wS ?_
  refine wpIn_block ?_
  refine wR ?_
  refine q_v hk (w_mv rfl) fun a hk => ?_
  refine q_v hk (w_mv rfl) fun a hk => ?_
  refine q_v hk (w_mv rfl) fun a hk => ?_
  refine q_v hk (w_mv rfl) fun a hk => ?_
  refine q_v hk (w_iaL (k := k) rfl rfl Tryz.underlying72 ty47 (hs.ri 0 rfl) (by omega) (by omega)) fun a hk => ?_
  refine q_v hk (w_ldv (z := zv (px k)) rfl ty47 (lstq (k := k) (hs.ri 0 rfl) (by omega) (en_chunk vq_len (by omega)))) fun a hk => ?_
  refine q_v hk (w_iaL (k := k) rfl rfl Tryz.underlying72 ty47 (blk_lst (hs.mi 0 rfl) (en_len vq_len) (Nat.le_refl _)) (by omega) (by omega)) fun a hk => ?_
  refine q_stoE (c := vq) (xx := (zv (px k))) (k := k) hk hs rfl rfl rfl ty47 rfl vq_len rfl (by omega) rfl fun w hs => ?_
  refine (c_end (x_b (x_t ?_)))
  refine wR ?_
  refine q_v hk (w_mv rfl) fun a hk => ?_
  refine q_v hk (w_add rfl rfl (wr64 (by omega) (by omega))) fun a hk => ?_
  refine q_v hk (w_as rfl) fun a hk => ?_
  refine c_end (x_t ?_)
  have hs := hs.rw0 (congrArg (fun q => blk b2 q 47) (cpf_step (x := px)))
  exact ⟨k + 1, ⟨(by omega), hk.k rfl (hk.k rfl (hk.k rfl (hk.k rfl (hk.k rfl (hk.k rfl hk.nil))))), hs⟩, by omega⟩
 ·
  refine q_v hk (w_lt rfl rfl (decide_eq_false hc3)) fun a hk => ?_
  refine c_end (x_t ?_)
  refine c_F hk rfl ?_
  refine (wpIn_exit (x_te (x_te (x_be ?_))))
  refine (x_t ?_)
  refine wS (wS (wR ?_))
  refine q_v hk (w_as rfl) fun a hk => ?_
  refine c_end (x_t ?_)
  refine wpIn_block ?_
  have hk1 : k = n := by omega
  rw [hk1] at hs
  have hs := hs.rw0 (congrArg (fun q => blk b2 q 47) (adf_zero (x := px) (y := py)))
  refine c_loop (α := Nat) (fun j a w => j ≤ n ∧ Kn [] 49 [(9, .int .i64 ((j : Nat) : Int)), (7, .slice (some ⟨b2, 0, none⟩) n n), (6, .slice none 0 0), (3, .pointer (some ⟨b1, 0, none⟩)), (2, .slice ab n cb)] a ∧ Sat no W [blk b2 (en vq (fun i => adf px py j i) n) 47, blk b1 [.int .u64 ((dg 0 (pr s) : Nat) : Int), .int .u64 ((dg 1 (pr s) : Nat) : Int), .int .u64 ((dg 2 (pr s) : Nat) : Int), .int .u64 ((dg 3 (pr s) : Nat) : Int)] 47] [lst 4 (.slice aa n ca) n (en vq (fun i => zv (px i)) n), lst 4 (.slice ab n cb) n (en vq (fun i => zv (py i)) n)] w) (fun j => n - j) 0 ?_ ?_
  · exact ⟨(by omega), hk.k rfl (hk.k rfl (hk.k rfl (hk.k rfl (hk.k rfl hk.nil)))), hs⟩
  rintro j a w ⟨hf0, hk, hs⟩
  refine wS (wS (wR ?_))
  refine q_v hk (w_mv rfl) fun a hk => ?_
  refine q_v hk (w_mv rfl) fun a hk => ?_
  refine q_v hk (w_len rfl Tryz.underlying72) fun a hk => ?_
  rcases Classical.em (((j : Nat) : Int) < ((n : Nat) : Int)) with hc4 | hc4
  ·
   refine q_v hk (w_lt rfl rfl (decide_eq_true hc4)) fun a hk => ?_
   refine c_end (x_t ?_)
   refine c_T hk rfl ?_
   refine (wpIn_skip (x_t ?_))
   refine wS ?_
   refine wpIn_block ?_
   have hL := okL.cons (hs.mi 1 rfl) (okL.cons (hs.ri 1 rfl) okL.nil)
   refine d_begin _ 14 (by kernel_rfl) rfl hs hL fun w hs hL => ?_
   refine d_w 0 1 hk hL rfl (fun w hL => w_mv rfl) fun a hk => ?_
   refine d_w 1 3 hk hL rfl (fun w hL => w_mv rfl) fun a hk => ?_
   refine d_w 2 7 hk hL rfl (fun w hL => w_ldv (z := pr s) rfl ty47 (.blk (n := 4) (hL.at 0 rfl) rfl)) fun a hk => ?_
   refine d_w 3 15 hk hL rfl (fun w hL => w_mv rfl) fun a hk => ?_
   refine d_w 4 31 hk hL rfl (fun w hL => w_mv rfl) fun a hk => ?_
   refine d_w 7 159 hk hL rfl (fun w hL => w_mv rfl) fun a hk => ?_
   refine d_w 8 415 hk hL rfl (fun w hL => w_mv rfl) fun a hk => ?_
   refine d_w 9 927 hk hL rfl (fun w hL => w_iaL (k := j) rfl rfl Tryz.underlying72 ty47 (hL.at 1 rfl) (by omega) (by omega)) fun a hk => ?_
   refine d_w 10 1951 hk hL rfl (fun w hL => w_ldv (z := zv (py j)) rfl ty47 (lstq (k := j) (hL.at 1 rfl) (by omega) (en_chunk vq_len (by omega)))) fun a hk => ?_
   refine d_1 5 1983 rfl (by kernel_rfl) fun K hK => ?_
   refine q_v hk (w_iaL (k := j) rfl rfl Tryz.underlying72 ty47 (blk_lst (hs.mi 0 rfl) (en_len vq_len) (Nat.le_refl _)) (by omega) (by omega)) fun a hk => ?_
   have hL := okL.cons (hs.mi 1 rfl) (okL.cons (hs.ri 1 rfl) okL.nil)
   refine c_end (x_t (hK _ _ hL ?_))
   clear hK K
   refine d_1 6 2047 rfl (by kernel_rfl) fun K hK => ?_
   refine q_v hk (w_ldv (z := zv (px j)) rfl ty47 (vq_eq adf_at (lstq (k := j) (blk_lst (hs.mi 0 rfl) (en_len vq_len) (Nat.le_refl _)) (by omega) (en_chunk vq_len (by omega))))) fun a hk => ?_
   have hL := okL.cons (hs.mi 1 rfl) (okL.cons (hs.ri 1 rfl) okL.nil)
   refine c_end (x_t (hK _ _ hL ?_))
   clear hK K
   refine d_1 11 4095 rfl (by kernel_rfl) fun K hK => ?_
   refine q_call (caps := []) hk rfl rfl Tryz.func30 fo30 rfl rfl (radd_z (x := (px j)) (y := (py j)) _ rfl rfl) ?_
   rintro _ w ⟨rfl, hb⟩
   have hs := hs.below hb
   refine ⟨_, rfl, fun a hk => ?_⟩
   have hL := okL.cons (hs.mi 1 rfl) (okL.cons (hs.ri 1 rfl) okL.nil)
   refine c_end (x_t (hK _ _ hL ?_))
   clear hK K
   refine d_1 12 8191 rfl (by kernel_rfl) fun K hK => ?_
   refine q_v hk (w_iaL (k := j) rfl rfl Tryz.underlying72 ty47 (blk_lst (hs.mi 0 rfl) (en_len vq_len) (Nat.le_refl _)) (by omega) (by omega)) fun a hk => ?_
   have hL := okL.cons (hs.mi 1 rfl) (okL.cons (hs.ri 1 rfl) okL.nil)
   refine c_end (x_t (hK _ _ hL ?_))
   clear hK K
   refine d_1 13 16383 rfl (by kernel_rfl) fun K hK => ?_
   refine q_stoE (c := vq) (xx := (zv ((px j) + (py j)))) (k := j) hk hs rfl rfl rfl ty47 rfl vq_len rfl (by omega) rfl fun w hs => ?_
   have hL := okL.cons (hs.mi 1 rfl) (okL.cons (hs.ri 1 rfl) okL.nil)
   refine c_end (x_t (hK _ _ hL ?_))
   clear hK K
   refine d_end (by kernel_rfl) ?_
   refine (x_b (x_t ?_))
   refine wR ?_
   refine q_v hk (w_mv rfl) fun a hk => ?_
   refine q_v hk (w_add rfl rfl (wr64 (by omega) (by omega))) fun a hk => ?_
   refine q_v hk (w_as rfl) fun a hk => ?_
   refine c_end (x_t ?_)
   have hs := hs.rw0 (congrArg (fun q => blk b2 q 47) (adf_step (x := px) (y := py)))
   exact ⟨j + 1, ⟨(by omega), hk.k rfl (hk.k rfl (hk.k rfl (hk.k rfl (hk.k rfl hk.nil)))), hs⟩, by omega⟩
  ·
   refine q_v hk (w_lt rfl rfl (decide_eq_false hc4)) fun a hk => ?_
   refine c_end (x_t ?_)
   refine c_F hk rfl ?_
   refine (wpIn_exit (x_te (x_te (x_be ?_))))
   refine (x_t ?_)
   refine wS (wR ?_)
   refine q_v hk (w_mv rfl) fun a hk => ?_
   refine q_v hk (w_as rfl) fun a hk => ?_
   refine c_end (x_t ?_)
   refine (wpIn_ret ?_)
   refine c_ret1 hk rfl rfl ?_
   have hs := hs.up1
   have hs := hs.drop
   have hj : j = n := by omega
   rw [hj] at hs
   rw [adf_end] at hs
   exact ⟨_, rfl, hs.fin⟩
end Go.Proofs.YtdnkkbmpefhbjaaGreatDoor
namespace Go.Proofs.YtdnkkbmpefhbjaaGreatDoor
set_option linter.all false
open Go Go.RowKit Alg
theorem zn_small {s : Bool} {k : Nat} (h : k ≤ 255) : zv (zn s k) = k := by
  show k % pr s = k
  exact Nat.mod_eq_of_lt (Nat.lt_of_le_of_lt h (by cases s <;> decide))
theorem wr_eq {s : Bool} {x : Nat → Zp s} {u k : Nat} (h : k = u) : wr x u k = wr x u (k + 1) := by show _ = if k = u then _ else _; rw [if_pos h]
theorem wr_ne {s : Bool} {x : Nat → Zp s} {u k : Nat} (h : ¬ k = u) : wr x u k * (x u - x k) = wr x u (k + 1) := by show _ = if k = u then _ else _; rw [if_neg h]
theorem rpoint_c (k : Nat) (W : World) (hk : k ≤ 255) : Calls Tryz.prog 93 [.int .i64 ((k : Nat) : Int)].toArray W fun e w => e = .returned (vec k) ∧ Below W.heap.size W w := by
 refine c_enter (args := [.int .i64 ((k : Nat) : Int)]) Tryz.func93 rfl rfl rfl fun a hk => ?_
 have hs := Sat.start W [] (fun _ h => by cases h)
 refine wS (wR ?_)
 refine q_alc (vs := [.int .u64 0, .int .u64 0, .int .u64 0, .int .u64 0]) hk hs zr47 rfl rfl rfl fun b1 w a hk hs => ?_
 refine c_end (x_t (wS (wR ?_)))
 refine q_v hk (w_mv rfl) fun a hk => ?_
 refine q_v hk (w_conv rfl Tryz.underlying3 Tryz.underlying46 (wru64 (by omega) (by omega))) fun a hk => ?_
 refine q_v hk (w_bldv1 (k := k) rfl (by omega) (by unfold Go.Proofs.YtdnkkbmpefhbjaaGreatDoor.W; omega) Tryz.underlying47 ty46 zr47) fun a hk => ?_
 refine q_sto (o := 0) (cs := [.int .u64 ((dg 0 k : Nat) : Int), .int .u64 ((dg 1 k : Nat) : Int), .int .u64 ((dg 2 k : Nat) : Int), .int .u64 ((dg 3 k : Nat) : Int)]) (vs' := [.int .u64 ((dg 0 k : Nat) : Int), .int .u64 ((dg 1 k : Nat) : Int), .int .u64 ((dg 2 k : Nat) : Int), .int .u64 ((dg 3 k : Nat) : Int)]) hk hs rfl rfl rfl ty47 rfl rfl rfl rfl rfl rfl fun w hs => ?_
 refine c_end (x_t ?_)
 refine (wpIn_ret ?_)
 refine c_retG (vs := [vec k]) hk rfl ⟨⟨_, rfl, lv_A ty47 (.blk (n := 4) (hs.mi 0 rfl) rfl) rfl⟩, trivial⟩ rfl ?_
 exact ⟨rfl, hs.toBelow⟩
theorem rpoint_z (s : Bool) (k : Nat) (w : World) (hk : k ≤ 255) : Calls Tryz.prog 93 #[.int .i64 ((k : Nat) : Int)] w fun e w' => e = .returned (vec (zv (zn s k))) ∧ Below w.heap.size w w' := by
  rw [zn_small hk]
  exact rpoint_c k w hk
theorem rweights_z (s : Bool) (n lc : Nat) (la : Option Addr) (v : Nat → Nat) (W : World) (HX : LstAt W 1 (.slice la n lc) n (en ic (fun i => ((v i : Nat) : Int)) n)) (hn : n ≤ 255) (hv : ∀ i, i < n → 1 ≤ v i ∧ v i ≤ 255) : Calls Tryz.prog 129 [vec (pr s), .slice la n lc].toArray W fun e w => ∃ a c, e = .returned (.slice a n c) ∧ Sat no W [row 47 4 (.slice a n c) n (en vq (fun i => zv (zinv (wr (pt s v) i n))) n)] [] w := by
 refine c_enter (args := [vec (pr s), .slice la n lc]) Tryz.func129 rfl rfl rfl fun a hk => ?_
 have hs := Sat.start W [lst 1 (.slice la n lc) n (en ic (fun i => ((v i : Nat) : Int)) n)] (okr1 HX)
 refine wS (wR ?_)
 refine q_box (vs := [.int .u64 ((dg 0 (pr s) : Nat) : Int), .int .u64 ((dg 1 (pr s) : Nat) : Int), .int .u64 ((dg 2 (pr s) : Nat) : Int), .int .u64 ((dg 3 (pr s) : Nat) : Int)]) hk hs rfl rfl rfl rfl fun b1 w a hk hs => ?_
 refine q_v hk (w_as rfl) fun a hk => ?_
 refine c_end (x_t (wS (wR ?_)))
 refine q_v hk (w_as rfl) fun a hk => ?_
 refine c_end (x_t (wS (wS (wR ?_))))
 refine q_v hk (w_as rfl) fun a hk => ?_
 refine c_end (x_t ?_)
 refine wpIn_block ?_
 have hs := hs.row0 47 4
 refine c_loop (α := Nat) (fun u a w => ∃ (ao : Option Addr) (co : Nat), u ≤ n ∧ Kn [] 47 [(6, .int .i64 (u : Int)), (5, .slice ao u co), (4, .slice none 0 0), (2, .pointer (some ⟨b1, 0, none⟩)), (1, .slice la n lc)] a ∧ Sat no W [row 47 4 (.slice ao u co) u (en vq (fun i => zv (zinv (wr (pt s v) i n))) u), blk b1 [.int .u64 ((dg 0 (pr s) : Nat) : Int), .int .u64 ((dg 1 (pr s) : Nat) : Int), .int .u64 ((dg 2 (pr s) : Nat) : Int), .int .u64 ((dg 3 (pr s) : Nat) : Int)] 47] [lst 1 (.slice la n lc) n (en ic (fun i => ((v i : Nat) : Int)) n)] w) (fun u => n - u) 0 ?_ ?_
 · exact ⟨_, _, (by omega), hk.k rfl (hk.k rfl (hk.k rfl (hk.k rfl (hk.k rfl hk.nil)))), hs⟩
 rintro u a w ⟨ao, co, hf0, hk, hs⟩
 refine wS (wS (wR ?_))
 refine q_v hk (w_mv rfl) fun a hk => ?_
 refine q_v hk (w_mv rfl) fun a hk => ?_
 refine q_v hk (w_len rfl Tryz.underlying34) fun a hk => ?_
 rcases Classical.em ((u : Int) < ((n : Nat) : Int)) with hc2 | hc2
 ·
  refine q_v hk (w_lt rfl rfl (decide_eq_true hc2)) fun a hk => ?_
  refine c_end (x_t ?_)
  refine c_T hk rfl ?_
  refine (wpIn_skip (x_t ?_))
  refine wS ?_
  refine wpIn_block ?_
  refine wS (wR ?_)
  refine q_call (caps := []) hk rfl rfl Tryz.func67 fo67 rfl rfl (rone_z (s := s) _) ?_
  rintro _ w ⟨rfl, hb⟩
  have hs := hs.below hb
  refine ⟨_, rfl, fun a hk => ?_⟩
  refine q_alc (vs := [.int .u64 0, .int .u64 0, .int .u64 0, .int .u64 0]) hk hs zr47 rfl rfl rfl fun b3 w a hk hs => ?_
  refine q_sto (o := 0) (cs := [.int .u64 ((dg 0 (zv (1 : Zp s)) : Nat) : Int), .int .u64 ((dg 1 (zv (1 : Zp s)) : Nat) : Int), .int .u64 ((dg 2 (zv (1 : Zp s)) : Nat) : Int), .int .u64 ((dg 3 (zv (1 : Zp s)) : Nat) : Int)]) (vs' := [.int .u64 ((dg 0 (zv (1 : Zp s)) : Nat) : Int), .int .u64 ((dg 1 (zv (1 : Zp s)) : Nat) : Int), .int .u64 ((dg 2 (zv (1 : Zp s)) : Nat) : Int), .int .u64 ((dg 3 (zv (1 : Zp s)) : Nat) : Int)]) hk hs rfl rfl rfl ty47 rfl rfl rfl rfl rfl rfl fun w hs => ?_
  refine c_end (x_t (wS (wS (wR ?_))))
  refine q_v hk (w_as rfl) fun a hk => ?_
  refine c_end (x_t ?_)
  refine wpIn_block ?_
  have hs : Sat no W [blk b3 [.int .u64 ((dg 0 (zv (wr (pt s v) u 0)) : Nat) : Int), .int .u64 ((dg 1 (zv (wr (pt s v) u 0)) : Nat) : Int), .int .u64 ((dg 2 (zv (wr (pt s v) u 0)) : Nat) : Int), .int .u64 ((dg 3 (zv (wr (pt s v) u 0)) : Nat) : Int)] 47, row 47 4 (.slice ao u co) u (en vq (fun i => zv (zinv (wr (pt s v) i n))) u), blk b1 [.int .u64 ((dg 0 (pr s) : Nat) : Int), .int .u64 ((dg 1 (pr s) : Nat) : Int), .int .u64 ((dg 2 (pr s) : Nat) : Int), .int .u64 ((dg 3 (pr s) : Nat) : Int)] 47] [lst 1 (.slice la n lc) n (en ic (fun i => ((v i : Nat) : Int)) n)] w := hs
  refine c_loop (α := Nat) (fun k a w => k ≤ n ∧ Kn [] 47 [(8, .int .i64 ((k : Nat) : Int)), (7, .pointer (some ⟨b3, 0, none⟩)), (15, vec (zv (1 : Zp s))), (12, .bool true), (11, .int .i64 ((n : Nat) : Int)), (10, .slice la n lc), (9, .int .i64 (u : Int)), (6, .int .i64 (u : Int)), (5, .slice ao u co), (4, .slice none 0 0), (2, .pointer (some ⟨b1, 0, none⟩)), (1, .slice la n lc)] a ∧ Sat no W [blk b3 [.int .u64 ((dg 0 (zv (wr (pt s v) u k)) : Nat) : Int), .int .u64 ((dg 1 (zv (wr (pt s v) u k)) : Nat) : Int), .int .u64 ((dg 2 (zv (wr (pt s v) u k)) : Nat) : Int), .int .u64 ((dg 3 (zv (wr (pt s v) u k)) : Nat) : Int)] 47, row 47 4 (.slice ao u co) u (en vq (fun i => zv (zinv (wr (pt s v) i n))) u), blk b1 [.int .u64 ((dg 0 (pr s) : Nat) : Int), .int .u64 ((dg 1 (pr s) : Nat) : Int), .int .u64 ((dg 2 (pr s) : Nat) : Int), .int .u64 ((dg 3 (pr s) : Nat) : Int)] 47] [lst 1 (.slice la n lc) n (en ic (fun i => ((v i : Nat) : Int)) n)] w) (fun k => n - k) 0 ?_ ?_
  · exact ⟨(by omega), hk.k rfl (hk.k rfl (hk.k rfl (hk.k rfl (hk.k rfl (hk.k rfl (hk.k rfl (hk.k rfl (hk.k rfl (hk.k rfl (hk.k rfl (hk.k rfl hk.nil))))))))))), hs⟩
  rintro k a w ⟨hf0, hk, hs⟩
  refine wS (wS (wR ?_))
  refine q_v hk (w_mv rfl) fun a hk => ?_
  refine q_v hk (w_mv rfl) fun a hk => ?_
  refine q_v hk (w_len rfl Tryz.underlying34) fun a hk => ?_
  rcases Classical.em (((k : Nat) : Int) < ((n : Nat) : Int)) with hc4 | hc4
  ·
   refine q_v hk (w_lt rfl rfl (decide_eq_true hc4)) fun a hk => ?_
   refine c_end (x_t ?_)
   refine c_T hk rfl ?_
   refine (wpIn_skip (x_t ?_))
   refine wS ?_
   refine wpIn_block ?_
   refine wS (wR ?_)
   refine q_v hk (w_mv rfl) fun a hk => ?_
   refine q_v hk (w_mv rfl) fun a hk => ?_
   rcases Classical.em (((k : Nat) : Int) ≠ (u : Int)) with hc5 | hc5
   ·
    refine q_v hk (w_ne rfl rfl (decide_eq_true hc5)) fun a hk => ?_
    refine c_end (x_t ?_)
    refine c_T hk rfl ?_
    have hL := okL.cons (hs.mi 2 rfl) (okL.cons (hs.ri 0 rfl) okL.nil)
    refine d_begin _ 16 (by kernel_rfl) rfl hs hL fun w hs hL => ?_
    refine d_join (n2 := 2) 16383 (fun a w => Kn [] 47 [(38, vec (zv ((pt s v u) - (pt s v k)))), (37, vec (zv (pt s v k))), (32, vec (zv (pt s v u))), (26, vec (zv (wr (pt s v) u k))), (36, .int .i64 ((v k : Nat) : Int)), (35, .pointer (some ((adq la).add (k * 1)))), (34, .int .i64 ((k : Nat) : Int)), (33, .slice la n lc), (31, .int .i64 ((v u : Nat) : Int)), (30, .pointer (some ((adq la).add (u * 1)))), (29, .int .i64 (u : Int)), (28, .slice la n lc), (27, vec (pr s)), (25, vec (pr s)), (24, .bool true), (23, .int .i64 (u : Int)), (22, .int .i64 ((k : Nat) : Int)), (19, .bool true), (18, .int .i64 ((n : Nat) : Int)), (17, .slice la n lc), (16, .int .i64 ((k : Nat) : Int)), (8, .int .i64 ((k : Nat) : Int)), (7, .pointer (some ⟨b3, 0, none⟩)), (15, vec (zv (1 : Zp s))), (12, .bool true), (11, .int .i64 ((n : Nat) : Int)), (10, .slice la n lc), (9, .int .i64 (u : Int)), (6, .int .i64 (u : Int)), (5, .slice ao u co), (4, .slice none 0 0), (2, .pointer (some ⟨b1, 0, none⟩)), (1, .slice la n lc)] a ∧ Sat no W [blk b3 [.int .u64 ((dg 0 (zv (wr (pt s v) u k)) : Nat) : Int), .int .u64 ((dg 1 (zv (wr (pt s v) u k)) : Nat) : Int), .int .u64 ((dg 2 (zv (wr (pt s v) u k)) : Nat) : Int), .int .u64 ((dg 3 (zv (wr (pt s v) u k)) : Nat) : Int)] 47, row 47 4 (.slice ao u co) u (en vq (fun i => zv (zinv (wr (pt s v) i n))) u), blk b1 [.int .u64 ((dg 0 (pr s) : Nat) : Int), .int .u64 ((dg 1 (pr s) : Nat) : Int), .int .u64 ((dg 2 (pr s) : Nat) : Int), .int .u64 ((dg 3 (pr s) : Nat) : Int)] 47] [lst 1 (.slice la n lc) n (en ic (fun i => ((v i : Nat) : Int)) n)] w ∧ okL [blk b1 [.int .u64 ((dg 0 (pr s) : Nat) : Int), .int .u64 ((dg 1 (pr s) : Nat) : Int), .int .u64 ((dg 2 (pr s) : Nat) : Int), .int .u64 ((dg 3 (pr s) : Nat) : Int)] 47, lst 1 (.slice la n lc) n (en ic (fun i => ((v i : Nat) : Int)) n)] w) ?_ ?_
    ·
     intro hJ16383
     refine d_join (n2 := 3) 8191 (fun a w => Kn [] 47 [(37, vec (zv (pt s v k))), (32, vec (zv (pt s v u))), (26, vec (zv (wr (pt s v) u k))), (36, .int .i64 ((v k : Nat) : Int)), (35, .pointer (some ((adq la).add (k * 1)))), (34, .int .i64 ((k : Nat) : Int)), (33, .slice la n lc), (31, .int .i64 ((v u : Nat) : Int)), (30, .pointer (some ((adq la).add (u * 1)))), (29, .int .i64 (u : Int)), (28, .slice la n lc), (27, vec (pr s)), (25, vec (pr s)), (24, .bool true), (23, .int .i64 (u : Int)), (22, .int .i64 ((k : Nat) : Int)), (19, .bool true), (18, .int .i64 ((n : Nat) : Int)), (17, .slice la n lc), (16, .int .i64 ((k : Nat) : Int)), (8, .int .i64 ((k : Nat) : Int)), (7, .pointer (some ⟨b3, 0, none⟩)), (15, vec (zv (1 : Zp s))), (12, .bool true), (11, .int .i64 ((n : Nat) : Int)), (10, .slice la n lc), (9, .int .i64 (u : Int)), (6, .int .i64 (u : Int)), (5, .slice ao u co), (4, .slice none 0 0), (2, .pointer (some ⟨b1, 0, none⟩)), (1, .slice la n lc)] a ∧ Sat no W [blk b3 [.int .u64 ((dg 0 (zv (wr (pt s v) u k)) : Nat) : Int), .int .u64 ((dg 1 (zv (wr (pt s v) u k)) : Nat) : Int), .int .u64 ((dg 2 (zv (wr (pt s v) u k)) : Nat) : Int), .int .u64 ((dg 3 (zv (wr (pt s v) u k)) : Nat) : Int)] 47, row 47 4 (.slice ao u co) u (en vq (fun i => zv (zinv (wr (pt s v) i n))) u), blk b1 [.int .u64 ((dg 0 (pr s) : Nat) : Int), .int .u64 ((dg 1 (pr s) : Nat) : Int), .int .u64 ((dg 2 (pr s) : Nat) : Int), .int .u64 ((dg 3 (pr s) : Nat) : Int)] 47] [lst 1 (.slice la n lc) n (en ic (fun i => ((v i : Nat) : Int)) n)] w ∧ okL [blk b1 [.int .u64 ((dg 0 (pr s) : Nat) : Int), .int .u64 ((dg 1 (pr s) : Nat) : Int), .int .u64 ((dg 2 (pr s) : Nat) : Int), .int .u64 ((dg 3 (pr s) : Nat) : Int)] 47, lst 1 (.slice la n lc) n (en ic (fun i => ((v i : Nat) : Int)) n)] w) ?_ ?_
     ·
      intro hJ8191
      refine d_join (n2 := 4) 4095 (fun a w => Kn [] 47 [(32, vec (zv (pt s v u))), (26, vec (zv (wr (pt s v) u k))), (36, .int .i64 ((v k : Nat) : Int)), (35, .pointer (some ((adq la).add (k * 1)))), (34, .int .i64 ((k : Nat) : Int)), (33, .slice la n lc), (31, .int .i64 ((v u : Nat) : Int)), (30, .pointer (some ((adq la).add (u * 1)))), (29, .int .i64 (u : Int)), (28, .slice la n lc), (27, vec (pr s)), (25, vec (pr s)), (24, .bool true), (23, .int .i64 (u : Int)), (22, .int .i64 ((k : Nat) : Int)), (19, .bool true), (18, .int .i64 ((n : Nat) : Int)), (17, .slice la n lc), (16, .int .i64 ((k : Nat) : Int)), (8, .int .i64 ((k : Nat) : Int)), (7, .pointer (some ⟨b3, 0, none⟩)), (15, vec (zv (1 : Zp s))), (12, .bool true), (11, .int .i64 ((n : Nat) : Int)), (10, .slice la n lc), (9, .int .i64 (u : Int)), (6, .int .i64 (u : Int)), (5, .slice ao u co), (4, .slice none 0 0), (2, .pointer (some ⟨b1, 0, none⟩)), (1, .slice la n lc)] a ∧ Sat no W [blk b3 [.int .u64 ((dg 0 (zv (wr (pt s v) u k)) : Nat) : Int), .int .u64 ((dg 1 (zv (wr (pt s v) u k)) : Nat) : Int), .int .u64 ((dg 2 (zv (wr (pt s v) u k)) : Nat) : Int), .int .u64 ((dg 3 (zv (wr (pt s v) u k)) : Nat) : Int)] 47, row 47 4 (.slice ao u co) u (en vq (fun i => zv (zinv (wr (pt s v) i n))) u), blk b1 [.int .u64 ((dg 0 (pr s) : Nat) : Int), .int .u64 ((dg 1 (pr s) : Nat) : Int), .int .u64 ((dg 2 (pr s) : Nat) : Int), .int .u64 ((dg 3 (pr s) : Nat) : Int)] 47] [lst 1 (.slice la n lc) n (en ic (fun i => ((v i : Nat) : Int)) n)] w ∧ okL [blk b1 [.int .u64 ((dg 0 (pr s) : Nat) : Int), .int .u64 ((dg 1 (pr s) : Nat) : Int), .int .u64 ((dg 2 (pr s) : Nat) : Int), .int .u64 ((dg 3 (pr s) : Nat) : Int)] 47, lst 1 (.slice la n lc) n (en ic (fun i => ((v i : Nat) : Int)) n)] w) ?_ ?_
      ·
       intro hJ4095
       refine d_w 0 1 hk hL rfl (fun w hL => w_ldv (z := pr s) rfl ty47 (.blk (n := 4) (hL.at 0 rfl) rfl)) fun a hk => ?_
       refine d_w 2 5 hk hL rfl (fun w hL => w_ldv (z := pr s) rfl ty47 (.blk (n := 4) (hL.at 0 rfl) rfl)) fun a hk => ?_
       refine d_w 3 13 hk hL rfl (fun w hL => w_mv rfl) fun a hk => ?_
       refine d_w 4 29 hk hL rfl (fun w hL => w_mv rfl) fun a hk => ?_
       refine d_w 5 61 hk hL rfl (fun w hL => w_iaL (k := u) rfl rfl Tryz.underlying34 ty3 (hL.at 1 rfl) (by omega) (by omega)) fun a hk => ?_
       refine d_w 6 125 hk hL rfl (fun w hL => w_ld1 rfl ty3 (lstq (k := u) (hL.at 1 rfl) (by omega) (en_chunk ic_len (by omega)))) fun a hk => ?_
       refine d_w 8 381 hk hL rfl (fun w hL => w_mv rfl) fun a hk => ?_
       refine d_w 9 893 hk hL rfl (fun w hL => w_mv rfl) fun a hk => ?_
       refine d_w 10 1917 hk hL rfl (fun w hL => w_iaL (k := k) rfl rfl Tryz.underlying34 ty3 (hL.at 1 rfl) (by omega) (by omega)) fun a hk => ?_
       refine d_w 11 3965 hk hL rfl (fun w hL => w_ld1 rfl ty3 (lstq (k := k) (hL.at 1 rfl) (by omega) (en_chunk ic_len (by omega)))) fun a hk => ?_
       refine d_2 1 7 3967 4093 rfl rfl (by kernel_rfl) (fun K hK => ?_) (fun K hK => ?_)
       ·
        refine q_v hk (w_ldv (z := zv (wr (pt s v) u k)) rfl ty47 (.blk (n := 4) (hs.mi 0 rfl) rfl)) fun a hk => ?_
        have hL := okL.cons (hs.mi 2 rfl) (okL.cons (hs.ri 0 rfl) okL.nil)
        refine c_end (x_t (hK _ _ hL ?_))
        clear hK K
        refine d_1 7 4095 rfl (by kernel_rfl) fun K hK => ?_
        refine q_call (caps := []) hk rfl rfl Tryz.func93 fo93 rfl rfl (rpoint_z s (v u) _ (hv u (by omega)).2) ?_
        rintro _ w ⟨rfl, hb⟩
        have hs := hs.below hb
        refine ⟨_, rfl, fun a hk => ?_⟩
        have hL := okL.cons (hs.mi 2 rfl) (okL.cons (hs.ri 0 rfl) okL.nil)
        refine c_end (x_t (hK _ _ hL ?_))
        clear hK K
        have hL := okL.cons (hs.mi 2 rfl) (okL.cons (hs.ri 0 rfl) okL.nil)
        exact hJ4095 _ _ ⟨hk.k rfl (hk.k rfl (hk.k rfl (hk.k rfl (hk.k rfl (hk.k rfl (hk.k rfl (hk.k rfl (hk.k rfl (hk.k rfl (hk.k rfl (hk.k rfl (hk.k rfl (hk.k rfl (hk.k rfl (hk.k rfl (hk.k rfl (hk.k rfl (hk.k rfl (hk.k rfl (hk.k rfl (hk.k rfl (hk.k rfl (hk.k rfl (hk.k rfl (hk.k rfl (hk.k rfl (hk.k rfl (hk.k rfl (hk.k rfl (hk.k rfl hk.nil)))))))))))))))))))))))))))))), hs, hL⟩
       ·
        refine q_call (caps := []) hk rfl rfl Tryz.func93 fo93 rfl rfl (rpoint_z s (v u) _ (hv u (by omega)).2) ?_
        rintro _ w ⟨rfl, hb⟩
        have hs := hs.below hb
        refine ⟨_, rfl, fun a hk => ?_⟩
        have hL := okL.cons (hs.mi 2 rfl) (okL.cons (hs.ri 0 rfl) okL.nil)
        refine c_end (x_t (hK _ _ hL ?_))
        clear hK K
        refine d_2 1 12 4095 8189 rfl rfl (by kernel_rfl) (fun K hK => ?_) (fun K hK => ?_)
        ·
         refine q_v hk (w_ldv (z := zv (wr (pt s v) u k)) rfl ty47 (.blk (n := 4) (hs.mi 0 rfl) rfl)) fun a hk => ?_
         have hL := okL.cons (hs.mi 2 rfl) (okL.cons (hs.ri 0 rfl) okL.nil)
         refine c_end (x_t (hK _ _ hL ?_))
         clear hK K
         have hL := okL.cons (hs.mi 2 rfl) (okL.cons (hs.ri 0 rfl) okL.nil)
         exact hJ4095 _ _ ⟨hk.k rfl (hk.k rfl (hk.k rfl (hk.k rfl (hk.k rfl (hk.k rfl (hk.k rfl (hk.k rfl (hk.k rfl (hk.k rfl (hk.k rfl (hk.k rfl (hk.k rfl (hk.k rfl (hk.k rfl (hk.k rfl (hk.k rfl (hk.k rfl (hk.k rfl (hk.k rfl (hk.k rfl (hk.k rfl (hk.k rfl (hk.k rfl (hk.k rfl (hk.k rfl (hk.k rfl (hk.k rfl (hk.k rfl (hk.k rfl (hk.k rfl hk.nil)))))))))))))))))))))))))))))), hs, hL⟩
        ·
         refine q_call (caps := []) hk rfl rfl Tryz.func93 fo93 rfl rfl (rpoint_z s (v k) _ (hv k (by omega)).2) ?_
         rintro _ w ⟨rfl, hb⟩
         have hs := hs.below hb
         refine ⟨_, rfl, fun a hk => ?_⟩
         have hL := okL.cons (hs.mi 2 rfl) (okL.cons (hs.ri 0 rfl) okL.nil)
         refine c_end (x_t (hK _ _ hL ?_))
         clear hK K
         refine d_2 1 13 8191 16381 rfl rfl (by kernel_rfl) (fun K hK => ?_) (fun K hK => ?_)
         ·
          refine q_v hk (w_ldv (z := zv (wr (pt s v) u k)) rfl ty47 (.blk (n := 4) (hs.mi 0 rfl) rfl)) fun a hk => ?_
          have hL := okL.cons (hs.mi 2 rfl) (okL.cons (hs.ri 0 rfl) okL.nil)
          refine c_end (x_t (hK _ _ hL ?_))
          clear hK K
          have hL := okL.cons (hs.mi 2 rfl) (okL.cons (hs.ri 0 rfl) okL.nil)
          exact hJ8191 _ _ ⟨hk.k rfl (hk.k rfl (hk.k rfl (hk.k rfl (hk.k rfl (hk.k rfl (hk.k rfl (hk.k rfl (hk.k rfl (hk.k rfl (hk.k rfl (hk.k rfl (hk.k rfl (hk.k rfl (hk.k rfl (hk.k rfl (hk.k rfl (hk.k rfl (hk.k rfl (hk.k rfl (hk.k rfl (hk.k rfl (hk.k rfl (hk.k rfl (hk.k rfl (hk.k rfl (hk.k rfl (hk.k rfl (hk.k rfl (hk.k rfl (hk.k rfl (hk.k rfl hk.nil))))))))))))))))))))))))))))))), hs, hL⟩
         ·
          refine q_call (caps := []) hk rfl rfl Tryz.func131 fo131 rfl rfl (rsub_z (x := (pt s v u)) (y := (pt s v k)) _ rfl rfl) ?_
          rintro _ w ⟨rfl, hb⟩
          have hs := hs.below hb
          refine ⟨_, rfl, fun a hk => ?_⟩
          have hL := okL.cons (hs.mi 2 rfl) (okL.cons (hs.ri 0 rfl) okL.nil)
          refine c_end (x_t (hK _ _ hL ?_))
          clear hK K
          refine d_1 1 16383 rfl (by kernel_rfl) fun K hK => ?_
          refine q_v hk (w_ldv (z := zv (wr (pt s v) u k)) rfl ty47 (.blk (n := 4) (hs.mi 0 rfl) rfl)) fun a hk => ?_
          have hL := okL.cons (hs.mi 2 rfl) (okL.cons (hs.ri 0 rfl) okL.nil)
          refine c_end (x_t (hK _ _ hL ?_))
          clear hK K
          have hL := okL.cons (hs.mi 2 rfl) (okL.cons (hs.ri 0 rfl) okL.nil)
          exact hJ16383 _ _ ⟨hk.k rfl (hk.k rfl (hk.k rfl (hk.k rfl (hk.k rfl (hk.k rfl (hk.k rfl (hk.k rfl (hk.k rfl (hk.k rfl (hk.k rfl (hk.k rfl (hk.k rfl (hk.k rfl (hk.k rfl (hk.k rfl (hk.k rfl (hk.k rfl (hk.k rfl (hk.k rfl (hk.k rfl (hk.k rfl (hk.k rfl (hk.k rfl (hk.k rfl (hk.k rfl (hk.k rfl (hk.k rfl (hk.k rfl (hk.k rfl (hk.k rfl (hk.k rfl (hk.k rfl hk.nil)))))))))))))))))))))))))))))))), hs, hL⟩
      ·
       rintro a w ⟨hk, hs, hL⟩
       refine d_1 12 8191 rfl (by kernel_rfl) fun K hK => ?_
       refine q_call (caps := []) hk rfl rfl Tryz.func93 fo93 rfl rfl (rpoint_z s (v k) _ (hv k (by omega)).2) ?_
       rintro _ w ⟨rfl, hb⟩
       have hs := hs.below hb
       refine ⟨_, rfl, fun a hk => ?_⟩
       have hL := okL.cons (hs.mi 2 rfl) (okL.cons (hs.ri 0 rfl) okL.nil)
       refine c_end (x_t (hK _ _ hL ?_))
       clear hK K
       have hL := okL.cons (hs.mi 2 rfl) (okL.cons (hs.ri 0 rfl) okL.nil)
       exact hJ8191 _ _ ⟨hk.k rfl (hk.k rfl (hk.k rfl (hk.k rfl (hk.k rfl (hk.k rfl (hk.k rfl (hk.k rfl (hk.k rfl (hk.k rfl (hk.k rfl (hk.k rfl (hk.k rfl (hk.k rfl (hk.k rfl (hk.k rfl (hk.k rfl (hk.k rfl (hk.k rfl (hk.k rfl (hk.k rfl (hk.k rfl (hk.k rfl (hk.k rfl (hk.k rfl (hk.k rfl (hk.k rfl (hk.k rfl (hk.k rfl (hk.k rfl (hk.k rfl (hk.k rfl hk.nil))))))))))))))))))))))))))))))), hs, hL⟩
     ·
      rintro a w ⟨hk, hs, hL⟩
      refine d_1 13 16383 rfl (by kernel_rfl) fun K hK => ?_
      refine q_call (caps := []) hk rfl rfl Tryz.func131 fo131 rfl rfl (rsub_z (x := (pt s v u)) (y := (pt s v k)) _ rfl rfl) ?_
      rintro _ w ⟨rfl, hb⟩
      have hs := hs.below hb
      refine ⟨_, rfl, fun a hk => ?_⟩
      have hL := okL.cons (hs.mi 2 rfl) (okL.cons (hs.ri 0 rfl) okL.nil)
      refine c_end (x_t (hK _ _ hL ?_))
      clear hK K
      have hL := okL.cons (hs.mi 2 rfl) (okL.cons (hs.ri 0 rfl) okL.nil)
      exact hJ16383 _ _ ⟨hk.k rfl (hk.k rfl (hk.k rfl (hk.k rfl (hk.k rfl (hk.k rfl (hk.k rfl (hk.k rfl (hk.k rfl (hk.k rfl (hk.k rfl (hk.k rfl (hk.k rfl (hk.k rfl (hk.k rfl (hk.k rfl (hk.k rfl (hk.k rfl (hk.k rfl (hk.k rfl (hk.k rfl (hk.k rfl (hk.k rfl (hk.k rfl (hk.k rfl (hk.k rfl (hk.k rfl (hk.k rfl (hk.k rfl (hk.k rfl (hk.k rfl (hk.k rfl (hk.k rfl hk.nil)))))))))))))))))))))))))))))))), hs, hL⟩
    ·
     rintro a w ⟨hk, hs, hL⟩
     refine d_1 14 32767 rfl (by kernel_rfl) fun K hK => ?_
     refine q_call (caps := []) hk rfl rfl Tryz.func66 fo66 rfl rfl (rmul_z (x := (wr (pt s v) u k)) (y := ((pt s v u) - (pt s v k))) _ rfl rfl) ?_
     rintro _ w ⟨rfl, hb⟩
     have hs := hs.below hb
     refine ⟨_, rfl, fun a hk => ?_⟩
     have hL := okL.cons (hs.mi 2 rfl) (okL.cons (hs.ri 0 rfl) okL.nil)
     refine c_end (x_t (hK _ _ hL ?_))
     clear hK K
     refine d_1 15 65535 rfl (by kernel_rfl) fun K hK => ?_
     refine q_sto (o := 0) (cs := [.int .u64 ((dg 0 (zv ((wr (pt s v) u k) * ((pt s v u) - (pt s v k)))) : Nat) : Int), .int .u64 ((dg 1 (zv ((wr (pt s v) u k) * ((pt s v u) - (pt s v k)))) : Nat) : Int), .int .u64 ((dg 2 (zv ((wr (pt s v) u k) * ((pt s v u) - (pt s v k)))) : Nat) : Int), .int .u64 ((dg 3 (zv ((wr (pt s v) u k) * ((pt s v u) - (pt s v k)))) : Nat) : Int)]) (vs' := [.int .u64 ((dg 0 (zv ((wr (pt s v) u k) * ((pt s v u) - (pt s v k)))) : Nat) : Int), .int .u64 ((dg 1 (zv ((wr (pt s v) u k) * ((pt s v u) - (pt s v k)))) : Nat) : Int), .int .u64 ((dg 2 (zv ((wr (pt s v) u k) * ((pt s v u) - (pt s v k)))) : Nat) : Int), .int .u64 ((dg 3 (zv ((wr (pt s v) u k) * ((pt s v u) - (pt s v k)))) : Nat) : Int)]) hk hs rfl rfl rfl ty47 rfl rfl rfl rfl rfl rfl fun w hs => ?_
     have hL := okL.cons (hs.mi 2 rfl) (okL.cons (hs.ri 0 rfl) okL.nil)
     refine c_end (x_t (hK _ _ hL ?_))
     clear hK K
     refine d_end (by kernel_rfl) ?_
     refine (x_b (x_t ?_))
     refine wR ?_
     refine q_v hk (w_mv rfl) fun a hk => ?_
     refine q_v hk (w_add rfl rfl (wr64 (by omega) (by omega))) fun a hk => ?_
     refine q_v hk (w_as rfl) fun a hk => ?_
     refine c_end (x_t ?_)
     have hs := hs.rw0 (congrArg (fun q => blk b3 (vq (zv q)) 47) (wr_ne (x := pt s v) (u := u) (k := k) (by omega)))
     exact ⟨k + 1, ⟨(by omega), hk.k rfl (hk.k rfl (hk.k rfl (hk.k rfl (hk.k rfl (hk.k rfl (hk.k rfl (hk.k rfl (hk.k rfl (hk.k rfl (hk.k rfl (hk.k rfl hk.nil))))))))))), hs⟩, by omega⟩
   ·
    refine q_v hk (w_ne rfl rfl (decide_eq_false hc5)) fun a hk => ?_
    refine c_end (x_t ?_)
    refine c_F hk rfl ?_
    refine (wpIn_skip (x_b (x_t ?_)))
    refine wR ?_
    refine q_v hk (w_mv rfl) fun a hk => ?_
    refine q_v hk (w_add rfl rfl (wr64 (by omega) (by omega))) fun a hk => ?_
    refine q_v hk (w_as rfl) fun a hk => ?_
    refine c_end (x_t ?_)
    have hs := hs.rw0 (congrArg (fun q => blk b3 (vq (zv q)) 47) (wr_eq (x := pt s v) (u := u) (k := k) (by omega)))
    exact ⟨k + 1, ⟨(by omega), hk.k rfl (hk.k rfl (hk.k rfl (hk.k rfl (hk.k rfl (hk.k rfl (hk.k rfl (hk.k rfl (hk.k rfl (hk.k rfl (hk.k rfl (hk.k rfl hk.nil))))))))))), hs⟩, by omega⟩
  ·
   have hkn : k = n := by omega
   rw [hkn] at hs
   refine q_v hk (w_lt rfl rfl (decide_eq_false hc4)) fun a hk => ?_
   refine c_end (x_t ?_)
   refine c_F hk rfl ?_
   refine (wpIn_exit (x_te (x_te (x_be ?_))))
   refine (x_t ?_)
   refine wR ?_
   refine q_v hk (w_mv rfl) fun a hk => ?_
   refine q_v hk (w_ldv (z := pr s) rfl ty47 (.blk (n := 4) (hs.mi 2 rfl) rfl)) fun a hk => ?_
   refine q_v hk (w_ldv (z := zv (wr (pt s v) u n)) rfl ty47 (.blk (n := 4) (hs.mi 0 rfl) rfl)) fun a hk => ?_
   refine q_call (caps := []) hk rfl rfl Tryz.func157 fo157 rfl rfl (rinv_z s (wr (pt s v) u n) _) ?_
   rintro _ w ⟨rfl, hb⟩
   have hs := hs.below hb
   refine ⟨_, rfl, fun a hk => ?_⟩
   refine q_bsl (els := [.tmp 43]) (cs := [.int .u64 ((dg 0 (zv (zinv (wr (pt s v) u n))) : Nat) : Int), .int .u64 ((dg 1 (zv (zinv (wr (pt s v) u n))) : Nat) : Int), .int .u64 ((dg 2 (zv (zinv (wr (pt s v) u n))) : Nat) : Int), .int .u64 ((dg 3 (zv (zinv (wr (pt s v) u n))) : Nat) : Int)]) hk hs rfl Tryz.underlying72 ty47 zr47 rfl rfl rfl rfl rfl rfl rfl fun b6 w a hk hs => ?_
   have hs := hs.up2
   refine q_app (news := [.int .u64 ((dg 0 (zv (zinv (wr (pt s v) u n))) : Nat) : Int), .int .u64 ((dg 1 (zv (zinv (wr (pt s v) u n))) : Nat) : Int), .int .u64 ((dg 2 (zv (zinv (wr (pt s v) u n))) : Nat) : Int), .int .u64 ((dg 3 (zv (zinv (wr (pt s v) u n))) : Nat) : Int)]) (m := 1) hk hs rfl rfl Tryz.underlying72 ty47 zr47 rfl rfl (.blk (n := 4) (hs.mi 1 rfl) rfl) rfl rfl (by omega) (by omega) rfl rfl fun a7 c8 w a hk hs => ?_
   have hs := hs.up1
   have hs := hs.drop
   refine q_v hk (w_as rfl) fun a hk => ?_
   refine (c_end (x_b (x_t ?_)))
   refine wR ?_
   refine q_v hk (w_mv rfl) fun a hk => ?_
   refine q_v hk (w_add rfl rfl (wr64 (by omega) (by omega))) fun a hk => ?_
   refine q_v hk (w_as rfl) fun a hk => ?_
   refine c_end (x_t ?_)
   have hs := hs.rw0 (congrArg _ en_succ)
   have hs := hs.up1
   have hs := hs.drop
   exact ⟨u + 1, ⟨_, _, (by omega), hk.k rfl (hk.k rfl (hk.k rfl (hk.k rfl (hk.k rfl hk.nil)))), hs⟩, by omega⟩
 ·
  refine q_v hk (w_lt rfl rfl (decide_eq_false hc2)) fun a hk => ?_
  refine c_end (x_t ?_)
  refine c_F hk rfl ?_
  refine (wpIn_exit (x_te (x_te (x_be ?_))))
  refine (x_t ?_)
  refine wS (wR ?_)
  refine q_v hk (w_mv rfl) fun a hk => ?_
  refine q_v hk (w_as rfl) fun a hk => ?_
  refine c_end (x_t ?_)
  refine (wpIn_ret ?_)
  refine c_ret1 hk rfl rfl ?_
  have hs := hs.up1
  have hs := hs.drop
  have hun : u = n := by omega
  rw [hun] at hs ⊢
  exact ⟨_, _, rfl, hs.fin⟩
end Go.Proofs.YtdnkkbmpefhbjaaGreatDoor
namespace Go.Proofs.YtdnkkbmpefhbjaaGreatDoor
set_option linter.all false
open Go Go.RowKit Alg
def rln (u k : Nat) : Nat := if u < k then k else k + 1
/-- The polynomial of one point, after k factors. -/
def rcf {s : Bool} (x y : Nat → Zp s) (n u : Nat) : Nat → Nat → Zp s
  | 0 => fun _ => zinv (wr x u n) * y u
  | k + 1 => if k = u then rcf x y n u k else mall (rcf x y n u k) (lin (x k)) 2 (rln u k)
/-- Their sum. -/
def rip {s : Bool} (x y : Nat → Zp s) (n : Nat) : Nat → Nat → Zp s
  | 0 => fun _ => 0
  | u + 1 => fun i => rip x y n u i + rcf x y n u n i
section
variable {s : Bool} {x y : Nat → Zp s} {n u k : Nat}
theorem rcf_zero : vq (zv (zinv (wr x u n) * y u)) = en vq (fun i => zv (rcf x y n u 0 i)) (rln u 0) := by
  unfold rln
  rw [if_neg (Nat.not_lt_zero u)]
  show _ = vq _ ++ []
  rw [List.append_nil]
  rfl
theorem rln_eq (h : k = u) : rln u k = rln u (k + 1) := by unfold rln; rw [if_neg (by omega), if_pos (by omega)]
theorem rln_ne (h : ¬ k = u) : rln u k + 2 - 1 = rln u (k + 1) := by
  unfold rln
  by_cases l : u < k
  · rw [if_pos l, if_pos (by omega)]; omega
  · rw [if_neg l, if_neg (by omega)]; omega
theorem rcf_eq (h : k = u) : rcf x y n u k = rcf x y n u (k + 1) := by show _ = if k = u then _ else _; rw [if_pos h]
theorem rcf_ne (h : ¬ k = u) : mall (rcf x y n u k) (lin (x k)) 2 (rln u k) = rcf x y n u (k + 1) := by show _ = if k = u then _ else _; rw [if_neg h]
theorem rln_le (hk : k < n) : rln u k ≤ n := by unfold rln; split <;> omega
theorem rln_end (h : u < n) : rln u n = n := if_pos h
theorem rip_zero {m : Nat} : en vq (fun _ => 0) m = en vq (fun j => zv (rip x y n 0 j)) m := en_congr fun i _ => by show 0 = zv (0 : Zp s); rw [zv_zero]
theorem linv_two {y : Zp s} : vq (zv (0 - y)) ++ vq 1 = en vq (fun i => zv (lin y i)) 2 := by
  show _ = vq (zv (0 - y)) ++ (vq (zv (1 : Zp s)) ++ [])
  rw [zv_one, List.append_nil]
end
theorem rinterp_z (s : Bool) (n lc yc : Nat) (la ya : Option Addr) (v : Nat → Nat) (py : Nat → Zp s) (W : World) (HX : LstAt W 1 (.slice la n lc) n (en ic (fun i => ((v i : Nat) : Int)) n)) (HY : LstAt W 4 (.slice ya n yc) n (en vq (fun i => zv (py i)) n)) (hn : n ≤ 255) (hv : ∀ i, i < n → 1 ≤ v i ∧ v i ≤ 255) : Calls Tryz.prog 94 [vec (pr s), .slice la n lc, .slice ya n yc].toArray W fun e w => ∃ o, e = .returned (.slice (some ⟨o, 0, none⟩) n n) ∧ Sat no W [blk o (en vq (fun i => zv (rip (pt s v) py n n i)) n) 47] [] w := by
 refine c_enter (args := [vec (pr s), .slice la n lc, .slice ya n yc]) Tryz.func94 rfl rfl rfl fun a hk => ?_
 have hs := Sat.start W [lst 1 (.slice la n lc) n (en ic (fun i => ((v i : Nat) : Int)) n), lst 4 (.slice ya n yc) n (en vq (fun i => zv (py i)) n)] (okrc HX (okr1 HY))
 refine wS (wR ?_)
 refine q_box (vs := [.int .u64 ((dg 0 (pr s) : Nat) : Int), .int .u64 ((dg 1 (pr s) : Nat) : Int), .int .u64 ((dg 2 (pr s) : Nat) : Int), .int .u64 ((dg 3 (pr s) : Nat) : Int)]) hk hs rfl rfl rfl rfl fun b1 w a hk hs => ?_
 refine q_v hk (w_as rfl) fun a hk => ?_
 refine c_end (x_t (wS (wR ?_)))
 refine q_v hk (w_ldv (z := pr s) rfl ty47 (.blk (n := 4) (hs.mi 0 rfl) rfl)) fun a hk => ?_
 refine q_v hk (w_mv rfl) fun a hk => ?_
 refine q_call (caps := []) hk rfl rfl Tryz.func129 fo129 rfl rfl (rweights_z s n lc la v _ (hs.ri 0 rfl) hn hv) ?_
 rintro _ w ⟨a2, c3, rfl, hS⟩
 have hs := hs.call1 hS
 clear hS
 refine ⟨_, rfl, fun a hk => ?_⟩
 refine q_v hk (w_as rfl) fun a hk => ?_
 refine c_end (x_t (wS (wR ?_)))
 refine q_v hk (w_mv rfl) fun a hk => ?_
 refine q_v hk (w_len rfl Tryz.underlying34) fun a hk => ?_
 refine q_mks (k := n) (cs := vq 0) hk hs rfl rfl Tryz.underlying72 ty47 zr47 (by kernel_rfl) rfl rfl rfl rfl (by omega) (by omega) rfl rfl fun b4 w a hk hs => ?_
 have hs := hs.rw0 (show _ = blk b4 (en vq (fun _ => 0) n) 47 from rfl)
 refine q_v hk (w_as rfl) fun a hk => ?_
 refine c_end (x_t (wS (wS (wR ?_))))
 refine q_v hk (w_as rfl) fun a hk => ?_
 refine c_end (x_t ?_)
 refine wpIn_block ?_
 have hs := hs.rw0 (congrArg (fun q => blk b4 q 47) (rip_zero (x := pt s v) (y := py) (n := n)))
 refine c_loop (α := Nat) (fun u a w => ∃ (ob : Nat), u ≤ n ∧ Kn [] 62 [(9, .int .i64 ((u : Nat) : Int)), (8, .slice (some ⟨ob, 0, none⟩) n n), (7, .slice a2 n c3), (6, .slice none 0 0), (3, .pointer (some ⟨b1, 0, none⟩)), (1, .slice la n lc), (2, .slice ya n yc)] a ∧ Sat no W [blk ob (en vq (fun i => zv (rip (pt s v) py n u i)) n) 47, row 47 4 (.slice a2 n c3) n (en vq (fun i => zv (zinv (wr (pt s v) i n))) n), blk b1 [.int .u64 ((dg 0 (pr s) : Nat) : Int), .int .u64 ((dg 1 (pr s) : Nat) : Int), .int .u64 ((dg 2 (pr s) : Nat) : Int), .int .u64 ((dg 3 (pr s) : Nat) : Int)] 47] [lst 1 (.slice la n lc) n (en ic (fun i => ((v i : Nat) : Int)) n), lst 4 (.slice ya n yc) n (en vq (fun i => zv (py i)) n)] w) (fun u => n - u) 0 ?_ ?_
 · exact ⟨_, (by omega), hk.k rfl (hk.k rfl (hk.k rfl (hk.k rfl (hk.k rfl (hk.k rfl (hk.k rfl hk.nil)))))), hs⟩
 rintro u a w ⟨ob, hf0, hk, hs⟩
 refine wS (wS (wR ?_))
 refine q_v hk (w_mv rfl) fun a hk => ?_
 refine q_v hk (w_mv rfl) fun a hk => ?_
 refine q_v hk (w_len rfl Tryz.underlying34) fun a hk => ?_
 rcases Classical.em (((u : Nat) : Int) < ((n : Nat) : Int)) with hc5 | hc5
 ·
  have hul : u < n := by omega
  refine q_v hk (w_lt rfl rfl (decide_eq_true hc5)) fun a hk => ?_
  refine c_end (x_t ?_)
  refine c_T hk rfl ?_
  refine (wpIn_skip (x_t ?_))
  refine wS ?_
  refine wpIn_block ?_
  refine wS ?_
  have hL := okL.cons (hs.mi 2 rfl) (okL.cons (hs.mi 1 rfl) (okL.cons (hs.ri 1 rfl) okL.nil))
  refine d_begin _ 12 (by kernel_rfl) rfl hs hL fun w hs hL => ?_
  refine d_w 0 1 hk hL rfl (fun w hL => w_ldv (z := pr s) rfl ty47 (.blk (n := 4) (hL.at 0 rfl) rfl)) fun a hk => ?_
  refine d_w 1 3 hk hL rfl (fun w hL => w_mv rfl) fun a hk => ?_
  refine d_w 2 7 hk hL rfl (fun w hL => w_mv rfl) fun a hk => ?_
  refine d_w 3 15 hk hL rfl (fun w hL => w_iaL (k := u) rfl rfl Tryz.underlying72 ty47 (row_lst (hL.at 1 rfl)) (by omega) (by omega)) fun a hk => ?_
  refine d_w 4 31 hk hL rfl (fun w hL => w_ldv (z := zv (zinv (wr (pt s v) u n))) rfl ty47 (lstq (k := u) (row_lst (hL.at 1 rfl)) (by omega) (en_chunk vq_len (by omega)))) fun a hk => ?_
  refine d_w 5 63 hk hL rfl (fun w hL => w_mv rfl) fun a hk => ?_
  refine d_w 6 127 hk hL rfl (fun w hL => w_mv rfl) fun a hk => ?_
  refine d_w 7 255 hk hL rfl (fun w hL => w_iaL (k := u) rfl rfl Tryz.underlying72 ty47 (hL.at 2 rfl) (by omega) (by omega)) fun a hk => ?_
  refine d_w 8 511 hk hL rfl (fun w hL => w_ldv (z := zv (py u)) rfl ty47 (lstq (k := u) (hL.at 2 rfl) (by omega) (en_chunk vq_len (by omega)))) fun a hk => ?_
  refine d_1 9 1023 rfl (by kernel_rfl) fun K hK => ?_
  refine q_call (caps := []) hk rfl rfl Tryz.func66 fo66 rfl rfl (rmul_z (x := (zinv (wr (pt s v) u n))) (y := (py u)) _ rfl rfl) ?_
  rintro _ w ⟨rfl, hb⟩
  have hs := hs.below hb
  refine ⟨_, rfl, fun a hk => ?_⟩
  have hL := okL.cons (hs.mi 2 rfl) (okL.cons (hs.mi 1 rfl) (okL.cons (hs.ri 1 rfl) okL.nil))
  refine c_end (x_t (hK _ _ hL ?_))
  clear hK K
  refine d_1 10 2047 rfl (by kernel_rfl) fun K hK => ?_
  refine q_bsl (els := [.tmp 33]) (cs := [.int .u64 ((dg 0 (zv ((zinv (wr (pt s v) u n)) * (py u))) : Nat) : Int), .int .u64 ((dg 1 (zv ((zinv (wr (pt s v) u n)) * (py u))) : Nat) : Int), .int .u64 ((dg 2 (zv ((zinv (wr (pt s v) u n)) * (py u))) : Nat) : Int), .int .u64 ((dg 3 (zv ((zinv (wr (pt s v) u n)) * (py u))) : Nat) : Int)]) hk hs rfl Tryz.underlying72 ty47 zr47 rfl rfl rfl rfl rfl rfl rfl fun b1_10 w a hk hs => ?_
  have hL := okL.cons (hs.mi 3 rfl) (okL.cons (hs.mi 2 rfl) (okL.cons (hs.ri 1 rfl) okL.nil))
  refine c_end (x_t (hK _ _ hL ?_))
  clear hK K
  refine d_w 11 4095 hk hL rfl (fun w hL => w_as rfl) fun a hk => ?_
  refine d_end (by kernel_rfl) ?_
  refine (x_t ?_)
  refine wS (wS (wR ?_))
  refine q_v hk (w_as rfl) fun a hk => ?_
  refine c_end (x_t ?_)
  refine wpIn_block ?_
  have hs := hs.rw0 (congrArg (fun q => blk b1_10 q 47) (rcf_zero (x := pt s v) (y := py) (n := n) (u := u)))
  refine c_loop (α := Nat) (fun k a w => ∃ (cb : Nat), k ≤ n ∧ Kn [] 62 [(11, .int .i64 ((k : Nat) : Int)), (10, .slice (some ⟨cb, 0, none⟩) (rln u k) (rln u k)), (34, .slice (some ⟨b1_10, 0, none⟩) (rln u 0) (rln u 0)), (33, vec (zv ((zinv (wr (pt s v) u n)) * (py u)))), (32, vec (zv (py u))), (30, .int .i64 ((u : Nat) : Int)), (29, .slice ya n yc), (28, vec (zv (zinv (wr (pt s v) u n)))), (26, .int .i64 ((u : Nat) : Int)), (25, .slice a2 n c3), (24, vec (pr s)), (21, .bool true), (20, .int .i64 ((n : Nat) : Int)), (19, .slice la n lc), (18, .int .i64 ((u : Nat) : Int)), (9, .int .i64 ((u : Nat) : Int)), (8, .slice (some ⟨ob, 0, none⟩) n n), (7, .slice a2 n c3), (6, .slice none 0 0), (3, .pointer (some ⟨b1, 0, none⟩)), (1, .slice la n lc), (2, .slice ya n yc)] a ∧ Sat no W [blk cb (en vq (fun i => zv (rcf (pt s v) py n u k i)) (rln u k)) 47, blk ob (en vq (fun i => zv (rip (pt s v) py n u i)) n) 47, row 47 4 (.slice a2 n c3) n (en vq (fun i => zv (zinv (wr (pt s v) i n))) n), blk b1 [.int .u64 ((dg 0 (pr s) : Nat) : Int), .int .u64 ((dg 1 (pr s) : Nat) : Int), .int .u64 ((dg 2 (pr s) : Nat) : Int), .int .u64 ((dg 3 (pr s) : Nat) : Int)] 47] [lst 1 (.slice la n lc) n (en ic (fun i => ((v i : Nat) : Int)) n), lst 4 (.slice ya n yc) n (en vq (fun i => zv (py i)) n)] w) (fun k => n - k) 0 ?_ ?_
  · exact ⟨_, (by omega), hk.k rfl (hk.k rfl (hk.k rfl (hk.k rfl (hk.k rfl (hk.k rfl (hk.k rfl (hk.k rfl (hk.k rfl (hk.k rfl (hk.k rfl (hk.k rfl (hk.k rfl (hk.k rfl (hk.k rfl (hk.k rfl (hk.k rfl (hk.k rfl (hk.k rfl (hk.k rfl (hk.k rfl (hk.k rfl hk.nil))))))))))))))))))))), hs⟩
  rintro k a w ⟨cb, hf0, hk, hs⟩
  refine wS (wS (wR ?_))
  refine q_v hk (w_mv rfl) fun a hk => ?_
  refine q_v hk (w_mv rfl) fun a hk => ?_
  refine q_v hk (w_len rfl Tryz.underlying34) fun a hk => ?_
  rcases Classical.em (((k : Nat) : Int) < ((n : Nat) : Int)) with hc6 | hc6
  ·
   have hrn := rln_le (u := u) (k := k) (n := n) (by omega)
   have hrl : 0 < rln u k := by unfold rln; split <;> omega
   refine q_v hk (w_lt rfl rfl (decide_eq_true hc6)) fun a hk => ?_
   refine c_end (x_t ?_)
   refine c_T hk rfl ?_
   refine (wpIn_skip (x_t ?_))
   refine wS ?_
   refine wpIn_block ?_
   refine wS (wR ?_)
   refine q_v hk (w_mv rfl) fun a hk => ?_
   refine q_v hk (w_mv rfl) fun a hk => ?_
   rcases Classical.em (((k : Nat) : Int) ≠ ((u : Nat) : Int)) with hc7 | hc7
   ·
    refine q_v hk (w_ne rfl rfl (decide_eq_true hc7)) fun a hk => ?_
    refine c_end (x_t ?_)
    refine c_T hk rfl ?_
    have hL := okL.cons (hs.mi 3 rfl) (okL.cons (hs.ri 0 rfl) okL.nil)
    refine d_begin _ 14 (by kernel_rfl) rfl hs hL fun w hs hL => ?_
    refine d_w 0 1 hk hL rfl (fun w hL => w_ldv (z := pr s) rfl ty47 (.blk (n := 4) (hL.at 0 rfl) rfl)) fun a hk => ?_
    refine d_w 1 3 hk hL rfl (fun w hL => w_mv rfl) fun a hk => ?_
    refine d_w 2 7 hk hL rfl (fun w hL => w_ldv (z := pr s) rfl ty47 (.blk (n := 4) (hL.at 0 rfl) rfl)) fun a hk => ?_
    refine d_w 3 15 hk hL rfl (fun w hL => w_bldv0 Tryz.underlying47 ty46 zr47) fun a hk => ?_
    refine d_w 4 31 hk hL rfl (fun w hL => w_mv rfl) fun a hk => ?_
    refine d_w 5 63 hk hL rfl (fun w hL => w_mv rfl) fun a hk => ?_
    refine d_w 6 127 hk hL rfl (fun w hL => w_iaL (k := k) rfl rfl Tryz.underlying34 ty3 (hL.at 1 rfl) (by omega) (by omega)) fun a hk => ?_
    refine d_w 7 255 hk hL rfl (fun w hL => w_ld1 rfl ty3 (lstq (k := k) (hL.at 1 rfl) (by omega) (en_chunk ic_len (by omega)))) fun a hk => ?_
    refine d_w 10 1279 hk hL rfl (fun w hL => w_bldv1 (k := 1) rfl rfl (by decide) Tryz.underlying47 ty46 zr47) fun a hk => ?_
    refine d_1 8 1535 rfl (by kernel_rfl) fun K hK => ?_
    refine q_call (caps := []) hk rfl rfl Tryz.func93 fo93 rfl rfl (rpoint_z s (v k) _ (hv k (by omega)).2) ?_
    rintro _ w ⟨rfl, hb⟩
    have hs := hs.below hb
    refine ⟨_, rfl, fun a hk => ?_⟩
    have hL := okL.cons (hs.mi 3 rfl) (okL.cons (hs.ri 0 rfl) okL.nil)
    refine c_end (x_t (hK _ _ hL ?_))
    clear hK K
    refine d_1 9 2047 rfl (by kernel_rfl) fun K hK => ?_
    refine q_call (caps := []) hk rfl rfl Tryz.func131 fo131 rfl rfl (rsub_z (x := 0) (y := (pt s v k)) _ zv_zero.symm rfl) ?_
    rintro _ w ⟨rfl, hb⟩
    have hs := hs.below hb
    refine ⟨_, rfl, fun a hk => ?_⟩
    have hL := okL.cons (hs.mi 3 rfl) (okL.cons (hs.ri 0 rfl) okL.nil)
    refine c_end (x_t (hK _ _ hL ?_))
    clear hK K
    refine d_1 11 4095 rfl (by kernel_rfl) fun K hK => ?_
    refine q_bsl (els := [.tmp 53, .tmp 54]) (cs := [.int .u64 ((dg 0 (zv (0 - (pt s v k))) : Nat) : Int), .int .u64 ((dg 1 (zv (0 - (pt s v k))) : Nat) : Int), .int .u64 ((dg 2 (zv (0 - (pt s v k))) : Nat) : Int), .int .u64 ((dg 3 (zv (0 - (pt s v k))) : Nat) : Int), .int .u64 ((dg 0 1 : Nat) : Int), .int .u64 ((dg 1 1 : Nat) : Int), .int .u64 ((dg 2 1 : Nat) : Int), .int .u64 ((dg 3 1 : Nat) : Int)]) hk hs rfl Tryz.underlying72 ty47 zr47 rfl rfl rfl rfl rfl rfl rfl fun b2_11 w a hk hs => ?_
    have hs := hs.rw0 (congrArg (fun q => blk b2_11 q 47) (linv_two (y := pt s v k)))
    have hL := okL.cons (hs.mi 4 rfl) (okL.cons (hs.ri 0 rfl) okL.nil)
    refine c_end (x_t (hK _ _ hL ?_))
    clear hK K
    refine d_1 12 8191 rfl (by kernel_rfl) fun K hK => ?_
    refine q_call (caps := []) hk rfl rfl Tryz.func130 fo130 rfl rfl (rmulP_z s (rln u k) (rln u k) 2 2 _ _ (rcf (pt s v) py n u k) (lin (pt s v k)) _ (blk_lst (hs.mi 1 rfl) (en_len vq_len) (Nat.le_refl _)) (blk_lst (hs.mi 0 rfl) (en_len vq_len) (Nat.le_refl _)) hrl (by omega) (by omega) (by omega)) ?_
    rintro _ w ⟨b2_12, rfl, hS⟩
    have hs := hs.call1 hS
    clear hS
    refine ⟨_, rfl, fun a hk => ?_⟩
    have hL := okL.cons (hs.mi 5 rfl) (okL.cons (hs.ri 0 rfl) okL.nil)
    refine c_end (x_t (hK _ _ hL ?_))
    clear hK K
    refine d_w 13 16383 hk hL rfl (fun w hL => w_as rfl) fun a hk => ?_
    refine d_end (by kernel_rfl) ?_
    refine (x_b (x_t ?_))
    refine wR ?_
    refine q_v hk (w_mv rfl) fun a hk => ?_
    refine q_v hk (w_add rfl rfl (wr64 (by omega) (by omega))) fun a hk => ?_
    refine q_v hk (w_as rfl) fun a hk => ?_
    refine c_end (x_t ?_)
    have hs := hs.up2
    have hs := hs.drop
    rw [rcf_ne (x := pt s v) (y := py) (n := n) (u := u) (k := k) (by omega), rln_ne (u := u) (k := k) (by omega)] at hs
    rw [rln_ne (u := u) (k := k) (by omega)] at hk
    have hs := hs.up1
    have hs := hs.drop
    exact ⟨k + 1, ⟨_, (by omega), hk.k rfl (hk.k rfl (hk.k rfl (hk.k rfl (hk.k rfl (hk.k rfl (hk.k rfl (hk.k rfl (hk.k rfl (hk.k rfl (hk.k rfl (hk.k rfl (hk.k rfl (hk.k rfl (hk.k rfl (hk.k rfl (hk.k rfl (hk.k rfl (hk.k rfl (hk.k rfl (hk.k rfl (hk.k rfl hk.nil))))))))))))))))))))), hs⟩, by omega⟩
   ·
    refine q_v hk (w_ne rfl rfl (decide_eq_false hc7)) fun a hk => ?_
    refine c_end (x_t ?_)
    refine c_F hk rfl ?_
    refine (wpIn_skip (x_b (x_t ?_)))
    refine wR ?_
    refine q_v hk (w_mv rfl) fun a hk => ?_
    refine q_v hk (w_add rfl rfl (wr64 (by omega) (by omega))) fun a hk => ?_
    refine q_v hk (w_as rfl) fun a hk => ?_
    refine c_end (x_t ?_)
    rw [rcf_eq (x := pt s v) (y := py) (n := n) (u := u) (k := k) (by omega), rln_eq (u := u) (k := k) (by omega)] at hs
    rw [rln_eq (u := u) (k := k) (by omega)] at hk
    exact ⟨k + 1, ⟨_, (by omega), hk.k rfl (hk.k rfl (hk.k rfl (hk.k rfl (hk.k rfl (hk.k rfl (hk.k rfl (hk.k rfl (hk.k rfl (hk.k rfl (hk.k rfl (hk.k rfl (hk.k rfl (hk.k rfl (hk.k rfl (hk.k rfl (hk.k rfl (hk.k rfl (hk.k rfl (hk.k rfl (hk.k rfl (hk.k rfl hk.nil))))))))))))))))))))), hs⟩, by omega⟩
  ·
   have hkn : k = n := by omega
   have hrk : rln u k = n := by rw [hkn]; exact rln_end hul
   rw [hrk] at hs hk
   rw [hkn] at hs
   refine q_v hk (w_lt rfl rfl (decide_eq_false hc6)) fun a hk => ?_
   refine c_end (x_t ?_)
   refine c_F hk rfl ?_
   refine (wpIn_exit (x_te (x_te (x_be ?_))))
   refine (x_t ?_)
   refine wR ?_
   refine q_v hk (w_ldv (z := pr s) rfl ty47 (.blk (n := 4) (hs.mi 3 rfl) rfl)) fun a hk => ?_
   refine q_v hk (w_mv rfl) fun a hk => ?_
   refine q_v hk (w_mv rfl) fun a hk => ?_
   refine q_call (caps := []) hk rfl rfl Tryz.func132 fo132 rfl rfl (raddP_z s n n n _ _ (rip (pt s v) py n u) (rcf (pt s v) py n u n) _ (blk_lst (hs.mi 1 rfl) (en_len vq_len) (Nat.le_refl _)) (blk_lst (hs.mi 0 rfl) (en_len vq_len) (Nat.le_refl _)) (by omega)) ?_
   rintro _ w ⟨b8, rfl, hS⟩
   have hs := hs.call1 hS
   clear hS
   refine ⟨_, rfl, fun a hk => ?_⟩
   refine q_v hk (w_as rfl) fun a hk => ?_
   refine (c_end (x_b (x_t ?_)))
   refine wR ?_
   refine q_v hk (w_mv rfl) fun a hk => ?_
   refine q_v hk (w_add rfl rfl (wr64 (by omega) (by omega))) fun a hk => ?_
   refine q_v hk (w_as rfl) fun a hk => ?_
   refine c_end (x_t ?_)
   have hs := hs.up2
   have hs := hs.drop
   have hs := hs.up1
   have hs := hs.drop
   exact ⟨u + 1, ⟨_, (by omega), hk.k rfl (hk.k rfl (hk.k rfl (hk.k rfl (hk.k rfl (hk.k rfl (hk.k rfl hk.nil)))))), hs⟩, by omega⟩
 ·
  refine q_v hk (w_lt rfl rfl (decide_eq_false hc5)) fun a hk => ?_
  refine c_end (x_t ?_)
  refine c_F hk rfl ?_
  refine (wpIn_exit (x_te (x_te (x_be ?_))))
  refine (x_t ?_)
  refine wS (wR ?_)
  refine q_v hk (w_mv rfl) fun a hk => ?_
  refine q_v hk (w_as rfl) fun a hk => ?_
  refine c_end (x_t ?_)
  refine (wpIn_ret ?_)
  refine c_ret1 hk rfl rfl ?_
  have hs := hs.up1
  have hs := hs.drop
  have hs := hs.up1
  have hs := hs.drop
  have hun : u = n := by omega
  rw [hun] at hs
  exact ⟨_, rfl, hs.fin⟩
end Go.Proofs.YtdnkkbmpefhbjaaGreatDoor
namespace Go.Proofs.YtdnkkbmpefhbjaaGreatDoor
set_option linter.all false
open Go.RowKit
/-- The number of the first n bytes, the least first. -/
def le (f : Nat → Nat) : Nat → Nat
  | 0 => 0
  | n + 1 => le f n + f n * 256 ^ n
theorem le_succ (f : Nat → Nat) (n : Nat) : le f (n + 1) = le f n + f n * 256 ^ n := rfl
theorem le_zero {f : Nat → Nat} (n m : Nat) (hz : ∀ j, n ≤ j → j < m → f j = 0) (hnm : n ≤ m) : le f m = le f n := by
  obtain ⟨k, rfl⟩ : ∃ k, m = n + k := ⟨m - n, by omega⟩
  induction k with
  | zero => rfl
  | succ k ih =>
    rw [← Nat.add_assoc, le_succ, ih (fun j h1 h2 => hz j h1 (by omega)) (by omega), hz (n + k) (by omega) (by omega)]
    simp
theorem W_256 : W = 256 ^ 8 := by decide
/-- Byte k of a number. -/
def byt (n k : Nat) : Nat := n / 256 ^ k % 256
theorem byt_lt (n k : Nat) : byt n k < 256 := Nat.mod_lt _ (by decide)
/-- Byte 8 i + k of a vector is byte k of its word i. -/
theorem byt_dg (n i k : Nat) (hk : k < 8) : byt (dg i n) k = byt n (8 * i + k) := by
  unfold byt dg
  rw [W_256, ← Nat.pow_mul, Nat.pow_add, ← Nat.div_div_eq_div_mul]
  generalize n / 256 ^ (8 * i) = m
  obtain ⟨r, hr⟩ : ∃ r, 8 = k + 1 + r := ⟨7 - k, by omega⟩
  rw [hr, Nat.pow_add, Nat.pow_succ, Nat.mul_assoc, Nat.mod_mul_right_div_self, Nat.mod_mul_right_mod]
end Go.Proofs.YtdnkkbmpefhbjaaGreatDoor
namespace Go.Proofs.YtdnkkbmpefhbjaaGreatDoor
set_option linter.all false
open Go.RowKit
end Go.Proofs.YtdnkkbmpefhbjaaGreatDoor
namespace Go.Proofs.YtdnkkbmpefhbjaaGreatDoor
set_option linter.all false
open Go.RowKit
/-- An array of 32 bytes. -/
structure Arr32 (A : Array Value) (f : Nat → Nat) : Prop where
  size : A.size = 32
  get : ∀ j, j < 32 → A[j]? = some (.int .u8 ((f j : Nat) : Int))
  lt : ∀ j, f j < 256
end Go.Proofs.YtdnkkbmpefhbjaaGreatDoor
namespace Go.Proofs.YtdnkkbmpefhbjaaGreatDoor
set_option linter.all false
open Go Go.RowKit
/-- n bytes lie behind ⟨b, off⟩. -/
structure BytesAt (w : World) (b off n : Nat) (f : Nat → Nat) : Prop where
  lt : ∀ j, f j < 256
  blk : b < w.heap.size
  cell : ∀ j, j < n → w.cell? ⟨b, off + j, none⟩ = some (.int .u8 ((f j : Nat) : Int))
theorem BytesAt.below {w w' : World} {b off n : Nat} {f : Nat → Nat} (h : BytesAt w b off n f) (hb : Below w.heap.size w w') : BytesAt w' b off n f :=
  ⟨h.lt, Nat.lt_of_lt_of_le h.blk hb.size, fun j hj => (hb.cell (p := ⟨b, off + j, none⟩) h.blk).trans (h.cell j hj)⟩
theorem BytesAt.part {w : World} {b off n : Nat} {f : Nat → Nat} (h : BytesAt w b off n f) (k m : Nat) (hk : k + m ≤ n) : BytesAt w b (off + k) m (fun j => f (k + j)) :=
  ⟨fun j => h.lt _, h.blk, fun j hj => by rw [Nat.add_assoc]; exact h.cell (k + j) (by omega)⟩
theorem BytesAt.take {w : World} {b off n : Nat} {f : Nat → Nat} (h : BytesAt w b off n f) (m : Nat) (hk : m ≤ n) : BytesAt w b off m f :=
  ⟨h.lt, h.blk, fun j hj => h.cell j (by omega)⟩
theorem run_loadVar_at {P : Program} (w : World) (a : Addr) (ty : TypeId) (cs : List Value) (d : TypeDesc) (hc : ∀ j v, cs[j]? = some v → w.cell? (a.add j) = some v)
    (hu : P.underlying ty = some d) (hd : (match d with | .struct _ | .array _ _ => true | _ => false) = true) (hi : (P.info? ty).map (·.size) = some cs.length) :
    (loadVar ty a).run P w = .ok (.agg cs.toArray) w := by
  have hl : (loadCells a cs.length).run P w = .ok cs.toArray w := run_loadCells_list (P := P) w a cs hc
  have hagg : (isAgg ty).run P w = .ok true w := by
    unfold isAgg
    rw [Sem.run_bind, run_underlying hu w]
    cases d <;> simp_all
  cases hq : P.info? ty with
  | none => rw [hq] at hi; cases hi
  | some i =>
    have hs : i.size = cs.length := by rw [hq] at hi; simpa using hi
    simp [loadVar, Sem.run_bind, hagg, sizeOf, typeInfo, hq, hs, hl]
theorem exec_load {P : Program} {ρ : Operand → Value} {o : Oper} {w : World} {ty : TypeId} {x : Operand} {p v : Value} (ho : o.op = .load ty x) (hx : ρ x = p) (hv : (Instr.loadAt ty p).run P w = .ok v w) :
    (execOp ρ o).run P w = .ok (.value v) w := by
  unfold execOp
  simp only [ho, hx, Sem.run_bind, Sem.run_pure, Result.andThen_ok, hv]
end Go.Proofs.YtdnkkbmpefhbjaaGreatDoor
namespace Go.Proofs.YtdnkkbmpefhbjaaGreatDoor
set_option linter.all false
open Go Go.RowKit
/-- The first n bytes of v. -/
def bl (v n : Nat) : List Value := (List.range n).map fun j => Value.int .u8 ((byt v j : Nat) : Int)
theorem bl_succ (v n : Nat) : bl v n ++ [.int .u8 ((byt v n : Nat) : Int)] = bl v (n + 1) := by simp [bl, List.range_succ]
theorem bl_get (v n j : Nat) (h : j < n) : (bl v n)[j]? = some (.int .u8 ((byt v j : Nat) : Int)) := by simp [bl, h]
theorem infoByte : (Tryz.prog.info? 5).map (fun i => (i.zero, i.size, i.bytes)) = some (some (.int .u8 0), 1, 1) := by kernel_rfl
theorem one_byte (x : Int) : ∀ u ∈ [Value.int .u8 x], u.oneCell' = true := fun u hu => by
  simp only [List.mem_singleton] at hu
  subst hu
  rfl
/-- What the append of one byte leaves. -/
theorem enc_rel {w wr w1 : World} {B base n : Nat} {r r' : Value} {v : Nat} {x : Int} {o : Obj} (hb : Below B w wr) (hBb : B ≤ base) (hs : base ≤ wr.heap.size) (hown : wr.ownsRow base 5 1 r n (bl v n))
    (hown' : w1.ownsRow base 5 1 r' (n + 1) (bl v n ++ [.int .u8 x])) (hgrow : (wr.alloc o).grownBy w1 r.ownBlock) (hx : x = ((byt v n : Nat) : Int)) :
    w1.ownsRow base 5 1 r' (n + 1) (bl v (n + 1)) ∧ Below B w w1 ∧ Below base wr w1 ∧ base ≤ w1.heap.size := by
  subst hx
  rw [bl_succ] at hown'
  refine ⟨hown', (hb.alloc (by omega) o).grown hgrow (by simp only [World.size_alloc]; omega) (fun j hj => Nat.le_trans hBb (hown.lt j hj).1),
    ((Below.refl _ _).alloc hs o).grown hgrow (by simp only [World.size_alloc]; omega) (fun j hj => (hown.lt j hj).1), ?_⟩
  have := hgrow.size
  simp only [World.size_alloc] at this
  omega
/-- A slice of n bytes of its own. -/
theorem out_of {w : World} {base n v : Nat} {r : Value} (h : w.ownsRow base 5 1 r n (bl v n)) (hn : 0 < n) :
    ∃ g c, r = .slice (some ⟨g, 0, none⟩) n c ∧ base ≤ g ∧ n ≤ c ∧ BytesAt w g 0 n (byt v) := by
  rcases h.2 with ⟨_, h0⟩ | ⟨g, cap, cur, rfl, hb, hg, hc, _⟩
  · omega
  · refine ⟨g, cap, rfl, hb, hc, byt_lt v, (h.lt g rfl).2, fun j hj => ?_⟩
    have := h.cells (g := g) rfl j _ (bl_get v n j hj)
    have e : (⟨g, 0, none⟩ : Addr).add j = ⟨g, 0 + j, none⟩ := by unfold Addr.add; split <;> simp_all
    rwa [e] at this
theorem size_u64' (w : World) : (sizeOf 46).run Tryz.prog w = .ok 1 w := by kernel_rfl
/-- Word k of a vector that stands in the frame. -/
theorem run_index_vec (v k : Nat) (hk : k < 4) (w : World) : (Instr.index 47 (vec v) (.int .i64 (k : Int))).run Tryz.prog w = .ok (.int .u64 ((dg k v : Nat) : Int)) w := by
  have h : k = 0 ∨ k = 1 ∨ k = 2 ∨ k = 3 := by omega
  rcases h with rfl | rfl | rfl | rfl <;> (unfold vec; simp [Instr.index, asIntOf, run_underlying Tryz.underlying47, part, Sem.run_bind, isAgg, run_underlying Tryz.underlying46, size_u64'])
theorem wpList_index_of {P : Program} {ops : Array Oper} {rest : List Oper} {o : Oper} {a : Act} {w : World} {Q : Exit → Act → World → Prop} (hgd : o.guard = none) (ty : TypeId) (x ix : Operand) (ho : o.op = .index ty x ix)
    (p i v : Value) (hx : a.eval x = p) (hi : a.eval ix = i) (hv : (Instr.index ty p i).run P w = .ok v w) (h : wpList P ops Q rest (a.put o.dst v) w) : wpList P ops Q (o :: rest) a w :=
  wpList_plain hgd fun K hK => by
    unfold Oper.wp execOp
    simp only [ho, hx, hi, Sem.run_bind, Sem.run_pure, Result.andThen_ok, hv]
    exact hK _ _ h
theorem enc_byte (v i k : Nat) (hi : i < 4) (hk : k < 8) : IntKind.u8.wrap (((dg i v : Nat) : Int) / 2 ^ (8 * k)) = ((byt v (8 * i + k) : Nat) : Int) := by
  rw [← byt_dg v i k hk]
  unfold byt
  rw [IntKind.wrap_u8]
  have e : (2 : Nat) ^ (8 * k) = 256 ^ k := by rw [Nat.pow_mul]
  rw [← e, show ((2 : Int) ^ (8 * k)) = ((2 ^ (8 * k) : Nat) : Int) from (Int.natCast_pow 2 _).symm]
  generalize 2 ^ (8 * k) = m
  omega
set_option maxRecDepth 100000 in
set_option maxHeartbeats 8000000 in
theorem encode_walk (s : Bool) (x v : Nat) (hf : Hid (∀ w, Calls Tryz.prog 172 #[fieldV s, vec x] w fun e w' => e = .returned (vec v) ∧ Below w.heap.size w w')) (w : World) :
    Calls Tryz.prog 154 #[fieldV s, vec x] w fun e w' => (∃ r, e = .returned r ∧ w'.ownsRow w.heap.size 5 1 r 32 (bl v 32)) ∧ Below w.heap.size w w' := by
  obtain ⟨i0, hi, hz0, hz1, hz2⟩ := info_parts infoByte
  have Hi := Lib.hid hi
  have Hz0 := Lib.hid hz0
  have Hz1 := Lib.hid hz1
  have Hz2 := Lib.hid hz2
  clear hi hz0 hz1 hz2
  go_enter Tryz.func154, Tryz.ntmps154
  go_wp2_with fail
  refine Calls.mono (hf.out _) ?_
  rintro _ w1 ⟨rfl, h1⟩
  obtain ⟨c1, f1, s1⟩ := bfacts h1
  try simp only [World.size_alloc, World.size_setCell, size_drew, size_drewN] at s1
  have l_w_w1_0 : w.heap.size < w1.heap.size := by omega
  have l_w_w1_1 : w.heap.size + 1 < w1.heap.size := by omega
  have hB0 : Below w.heap.size w w1 := by
    have := h1
    exact Below.trans (by repeat first | with_reducible exact Below.refl _ _ | with_reducible refine Below.drew ?_ | with_reducible refine below_dN ?_ | with_reducible refine Below.alloc ?_ (by first | omega | (simp; done) | (simp; omega)) _ | with_reducible refine Below.setCell ?_ (by first | omega | (simp; done) | (simp; omega)) _ | with_reducible refine Below.trans ?_ (Below.mono (by assumption) (by first | omega | (simp; done) | (simp; omega)))) (Below.mono h1 (by simp only [World.size_alloc, size_drew]; omega))
  have Hs := Lib.hid hB0.size
  have HB0 := Lib.hid hB0
  clear hB0 c1 f1 h1
  go_wp2_with fail
  go_loopw [5, 12] (fun r i wr => ∃ k : Nat, k ≤ 4 ∧ i = .int .i64 (k : Int) ∧ wr.ownsRow w.heap.size 5 1 r (8 * k) (bl v (8 * k)) ∧ Below w.heap.size w wr) (fun _ i _ => 4 - (intOf i).toNat)
  case atStart => exact ⟨0, by omega, rfl, World.ownsRow_nil _ _ _ _, HB0.out⟩
  case round =>
    obtain ⟨k, hk, rfl, hown, hbel⟩ := hrel
    have Hown := Lib.hid hown
    have Hbel := Lib.hid hbel
    clear hown hbel
    by_cases hlt : k < 4
    · go_wp2_with (refine wpList_index_of rfl 47 (.tmp 11) (.tmp 12) rfl (vec v) (.int .i64 (k : Int)) (.int .u64 ((dg k v : Nat) : Int)) rfl rfl (run_index_vec v k hlt _) ?_; simp only [Act.put, sA, sB, sC, sD])
      have hdk : decide ((k : Int) < 4) = true := decide_eq_true (by omega)
      simp only [hdk]
      clear hdk
      go_loopw [5, 15] (fun r j wr => ∃ n : Nat, n ≤ 8 ∧ j = .int .i64 (n : Int) ∧ wr.ownsRow w.heap.size 5 1 r (8 * k + n) (bl v (8 * k + n)) ∧ Below w.heap.size w wr) (fun _ j _ => 8 - (intOf j).toNat)
      case atStart => exact ⟨0, by omega, rfl, Hown.out, Hbel.out⟩
      case round =>
        obtain ⟨n, hn, rfl, hown, hbel⟩ := hrel
        have Hown2 := Lib.hid hown
        have Hbel2 := Lib.hid hbel
        clear hown hbel
        by_cases hlt2 : n < 8
        · have hq := enc_byte v k n hlt hlt2
          go_wp2_with (at_builtin; refine wpList_append_own _ rfl (.tmp 18) (.tmp 24) 42 rfl w.heap.size 5 i0 (.int .u8 0) 1 1 Tryz.underlying42 Hi.out Hz0.out Hz1.out Hz2.out rfl (by decide) _ _ _ rfl (Hown2.out.alloc _) ⟨wr.heap.size, 0, none⟩ 1 1 [.int .u8 ((byt v (8 * k + n) : Nat) : Int)] rfl rfl (cell_one_new _ _ _) (one_byte _) (by unfold maxLen; omega) (by omega) (by have := Hbel2.out.size; simp only [World.size_alloc]; omega) ?_; intro r' w1' hown' hgrow' _)
          obtain ⟨R1, R2, _, _⟩ := enc_rel Hbel2.out (Nat.le_refl _) Hbel2.out.size Hown2.out hown' hgrow' rfl
          have R1' := Lib.hid R1
          have R2' := Lib.hid R2
          clear R1 R2 hown' hgrow' hq
          go_wp2_with fail
          go_roundw
          case rel => exact ⟨n + 1, by omega, by go_num, R1'.out, R2'.out⟩
          case measure => simp [intOf]; omega
        · obtain rfl : n = 8 := by omega
          go_wp2_with fail
          go_roundw
          case rel => exact ⟨k + 1, by omega, by go_num, Hown2.out, Hbel2.out⟩
          case measure => simp [intOf]; omega
    · obtain rfl : k = 4 := by omega
      go_wp2_with fail
      go_ret
      exact ⟨⟨_, rfl, Hown.out⟩, Hbel.out⟩
end Go.Proofs.YtdnkkbmpefhbjaaGreatDoor
namespace Go.Proofs.YtdnkkbmpefhbjaaGreatDoor
set_option linter.all false
open Go Go.RowKit
/-- What is left of word i behind n bytes. -/
def wd (v i n : Nat) : Nat := dg i v / 256 ^ n
theorem wd_zero (v i : Nat) : wd v i 0 = dg i v := by unfold wd; rw [Nat.pow_zero, Nat.div_one]
theorem wd_lt (v i n : Nat) : wd v i n < W := Nat.lt_of_le_of_lt (Nat.div_le_self _ _) (dg_lt _ _)
theorem wd_byte (v i n : Nat) (hn : n < 8) : wd v i n % 256 = byt v (8 * i + n) := byt_dg v i n hn
theorem wd_succ (v i n : Nat) : wd v i n / 256 = wd v i (n + 1) := by unfold wd; rw [Nat.pow_succ, Nat.div_div_eq_div_mul]
set_option maxRecDepth 100000 in
set_option maxHeartbeats 8000000 in
theorem refEncode_c (v : Nat) (w : World) :
    Calls Tryz.prog 156 #[vec v] w fun e w' => (∃ r, e = .returned r ∧ w'.ownsRow (w.heap.size + 1) 5 1 r 32 (bl v 32)) ∧ Below w.heap.size w w' := by
  obtain ⟨i0, hi, hz0, hz1, hz2⟩ := info_parts infoByte
  have Hi := Lib.hid hi
  have Hz0 := Lib.hid hz0
  have Hz1 := Lib.hid hz1
  have Hz2 := Lib.hid hz2
  clear hi hz0 hz1 hz2
  have Hb := Lib.hid ((Below.refl w.heap.size w).alloc (Nat.le_refl _) (.cells #[.int .u64 ((dg 0 v : Nat) : Int), .int .u64 ((dg 1 v : Nat) : Int), .int .u64 ((dg 2 v : Nat) : Int), .int .u64 ((dg 3 v : Nat) : Int)] 47))
  go_enter Tryz.func156, Tryz.ntmps156
  go_wp2_with fail
  go_loopw [3, 4] (fun r i wr => ∃ k : Nat, k ≤ 4 ∧ i = .int .i64 (k : Int) ∧ wr.ownsRow (w.heap.size + 1) 5 1 r (8 * k) (bl v (8 * k)) ∧
    Below (w.heap.size + 1) (w.alloc (.cells #[.int .u64 ((dg 0 v : Nat) : Int), .int .u64 ((dg 1 v : Nat) : Int), .int .u64 ((dg 2 v : Nat) : Int), .int .u64 ((dg 3 v : Nat) : Int)] 47)) wr) (fun _ i _ => 4 - (intOf i).toNat)
  case atStart => exact ⟨0, by omega, rfl, World.ownsRow_nil _ _ _ _, Below.refl _ _⟩
  case round =>
    obtain ⟨k, hk, rfl, hown, hbel⟩ := hrel
    have Hown := Lib.hid hown
    have Hbel := Lib.hid hbel
    clear hown
    by_cases hlt : k < 4
    · have hcell : wr.cell? ⟨w.heap.size, k, none⟩ = some (.int .u64 ((wd v k 0 : Nat) : Int)) := by
        rw [hbel.cell (p := ⟨w.heap.size, k, none⟩) (Nat.lt_succ_self _), wd_zero]
        rw [cell_of_row _ w.heap.size k _ _ _ (heap_alloc_new w _)]
        have h : k = 0 ∨ k = 1 ∨ k = 2 ∨ k = 3 := by omega
        rcases h with rfl | rfl | rfl | rfl <;> rfl
      clear hbel
      go_wp2_with fail
      have hdk : decide ((k : Int) < 4) = true := decide_eq_true (by omega)
      simp only [hdk]
      clear hdk
      go_loopw [3, 5, 6] (fun r x j wr => ∃ n : Nat, n ≤ 8 ∧ j = .int .i64 (n : Int) ∧ x = .int .u64 ((wd v k n : Nat) : Int) ∧ wr.ownsRow (w.heap.size + 1) 5 1 r (8 * k + n) (bl v (8 * k + n)) ∧
        Below (w.heap.size + 1) (w.alloc (.cells #[.int .u64 ((dg 0 v : Nat) : Int), .int .u64 ((dg 1 v : Nat) : Int), .int .u64 ((dg 2 v : Nat) : Int), .int .u64 ((dg 3 v : Nat) : Int)] 47)) wr) (fun _ _ j _ => 8 - (intOf j).toNat)
      case atStart => exact ⟨0, by omega, rfl, rfl, Hown.out, Hbel.out⟩
      case round =>
        obtain ⟨n, hn, rfl, rfl, hown, hbel⟩ := hrel
        have Hown2 := Lib.hid hown
        have Hbel2 := Lib.hid hbel
        clear hown hbel hcell
        by_cases hlt2 : n < 8
        · have hq : IntKind.u8.wrap (((wd v k n : Nat) : Int) % 256) = ((byt v (8 * k + n) : Nat) : Int) := by
            rw [← wd_byte v k n hlt2, IntKind.wrap_u8]; omega
          have hs : IntKind.u64.wrap (((wd v k n : Nat) : Int) / 256) = ((wd v k (n + 1) : Nat) : Int) := by
            have := wd_lt v k n
            rw [← wd_succ, IntKind.wrap_u64]; unfold W at this; omega
          go_wp2_with (at_builtin; refine wpList_append_own _ rfl (.tmp 18) (.tmp 22) 42 rfl (w.heap.size + 1) 5 i0 (.int .u8 0) 1 1 Tryz.underlying42 Hi.out Hz0.out Hz1.out Hz2.out rfl (by decide) _ _ _ rfl (Hown2.out.alloc _) ⟨wr.heap.size, 0, none⟩ 1 1 [.int .u8 ((byt v (8 * k + n) : Nat) : Int)] rfl rfl (cell_one_new _ _ _) (one_byte _) (by unfold maxLen; omega) (by omega) (by have := Hbel2.out.size; simp only [World.size_alloc] at this ⊢; omega) ?_; intro r' w1' hown' hgrow' _)
          obtain ⟨R1, R2, _, _⟩ := enc_rel Hbel2.out (Nat.le_refl _) (by have := Hbel2.out.size; simp only [World.size_alloc] at this; omega) Hown2.out hown' hgrow' rfl
          have R1' := Lib.hid R1
          have R2' := Lib.hid R2
          clear R1 R2 hown' hgrow' hq
          go_wp2_with fail
          go_roundw
          case rel => exact ⟨n + 1, by omega, by go_num, rfl, R1'.out, R2'.out⟩
          case measure => simp [intOf]; omega
        · obtain rfl : n = 8 := by omega
          go_wp2_with fail
          go_roundw
          case rel => exact ⟨k + 1, by omega, by go_num, Hown2.out, Hbel2.out⟩
          case measure => simp [intOf]; omega
    · obtain rfl : k = 4 := by omega
      go_wp2_with fail
      go_ret
      exact ⟨⟨_, rfl, Hown.out⟩, Hb.out.trans (Below.mono Hbel.out (Nat.le_succ _))⟩
end Go.Proofs.YtdnkkbmpefhbjaaGreatDoor
namespace Go.Proofs.YtdnkkbmpefhbjaaGreatDoor
set_option linter.all false
open Go Go.RowKit
/-- Encode's contract, the slice laid open. -/
theorem encode_c (s : Bool) (v : Nat) (hv : v < pr s) (w : World) :
    Calls Tryz.prog 154 #[fieldV s, vec (RR s v)] w fun e w' => (∃ g c, e = .returned (.slice (some ⟨g, 0, none⟩) 32 c) ∧ w.heap.size ≤ g ∧ 32 ≤ c ∧ BytesAt w' g 0 32 (byt v)) ∧ Below w.heap.size w w' := by
  refine (encode_walk s (RR s v) v (Lib.hid (fromR_c s v hv)) w).mono ?_
  rintro e w' ⟨⟨r, rfl, hown⟩, hb⟩
  obtain ⟨g, c, rfl, hg, hc, hB⟩ := out_of hown (by omega)
  exact ⟨⟨g, c, rfl, hg, hc, hB⟩, hb⟩
theorem refEncode_at (v : Nat) (w : World) :
    Calls Tryz.prog 156 #[vec v] w fun e w' => (∃ g c, e = .returned (.slice (some ⟨g, 0, none⟩) 32 c) ∧ w.heap.size ≤ g ∧ 32 ≤ c ∧ BytesAt w' g 0 32 (byt v)) ∧ Below w.heap.size w w' := by
  refine (refEncode_c v w).mono ?_
  rintro e w' ⟨⟨r, rfl, hown⟩, hb⟩
  obtain ⟨g, c, rfl, hg, hc, hB⟩ := out_of hown (by omega)
  exact ⟨⟨g, c, rfl, by omega, hc, hB⟩, hb⟩
/-- The bytes of v from m on are zero. -/
def Zf (v m : Nat) : Prop := ∀ j, m ≤ j → j < 32 → byt v j = 0
/-- The or of the first k bytes behind m. -/
def orb (v m : Nat) : Nat → Nat | 0 => 0 | k + 1 => orb v m k ||| byt v (m + k)
theorem orb_lt (v m : Nat) : ∀ k, orb v m k < W | 0 => W_pos | k + 1 => or_lt_W (orb_lt v m k) (Nat.lt_trans (byt_lt _ _) (by decide))
theorem orb_zero {v m : Nat} : ∀ {k}, orb v m k = 0 ↔ ∀ j, j < k → byt v (m + j) = 0
  | 0 => ⟨fun _ j hj => by omega, fun _ => rfl⟩
  | k + 1 => by
    constructor
    · intro h j hj
      obtain ⟨h1, h2⟩ := or_zero h
      by_cases e : j = k
      · subst e; exact h2
      · exact orb_zero.1 h1 j (by omega)
    · intro h
      show orb v m k ||| byt v (m + k) = 0
      rw [orb_zero.2 (fun j hj => h j (by omega)), h k (by omega)]
      rfl
theorem orb_Zf {v m : Nat} (hm : m ≤ 32) : orb v m (32 - m) = 0 ↔ Zf v m := by
  rw [orb_zero]
  exact ⟨fun h j h1 h2 => by have := h (j - m) (by omega); rwa [show m + (j - m) = j by omega] at this, fun h j hj => h _ (by omega) (by omega)⟩
theorem orb_step (v m k : Nat) : bits BinOp.or IntKind.u64 ((orb v m k : Nat) : Int) (IntKind.u64.wrap ((byt v (m + k) : Nat) : Int)) = ((orb v m (k + 1) : Nat) : Int) := by
  have h := byt_lt v (m + k)
  have e : IntKind.u64.wrap ((byt v (m + k) : Nat) : Int) = ((byt v (m + k) : Nat) : Int) := by rw [IntKind.wrap_u64]; omega
  rw [e, u64_or_nat _ _ (orb_lt v m k) (Nat.lt_trans h (by decide))]
  rfl
set_option maxRecDepth 100000 in
set_option maxHeartbeats 2000000 in
theorem maskIsZero1_c (z B : Nat) (hz4 : z < W) (w : World) (hc : w.cell? ⟨B, 0, none⟩ = some (.int .u64 ((z : Nat) : Int))) :
    Calls Tryz.prog 155 #[.slice (some ⟨B, 0, none⟩) 1 1] w fun e w' => e = .returned (.int .u64 ((mb (isz z) : Nat) : Int)) ∧ w = w' := by
  have hor : bits BinOp.or IntKind.u64 0 ((z : Nat) : Int) = (z : Int) := by
    have := u64_or_nat 0 z W_pos hz4
    rwa [Nat.zero_or] at this
  have Hz := Lib.hid (isz_val hz4)
  go_enter Tryz.func155, Tryz.ntmps155
  go_wp2_with fail
  go_loopw [3, 8] (fun v i wr => ∃ (k : Nat), k ≤ 1 ∧ i = .int .i64 (k : Int) ∧ v = .int .u64 (((if k = 0 then 0 else z : Nat)) : Int) ∧ wr = w) (fun _ i _ => 1 - (intOf i).toNat)
  case atStart => exact ⟨0, by omega, rfl, rfl, rfl⟩
  case round =>
    obtain ⟨k, hk4, rfl, rfl, rfl⟩ := hrel
    by_cases hk : k < 1
    · obtain rfl : k = 0 := by omega
      go_wp2_with fail
      all_goals go_roundw
      case rel => exact ⟨1, by omega, by go_num, rfl, trivial⟩
      case measure => simp [intOf]
    · obtain rfl : k = 1 := by omega
      clear hor
      rw [if_neg (by decide)]
      go_wp2_with fail
      rw [Hz.out]
      refine Calls.mono (fromBit_c _ (isz_lt z) _) ?_
      rintro _ _ ⟨rfl, rfl⟩
      go_wp2_with fail
      exact bodyPost_ret (v := .int .u64 ((mb (isz z) : Nat) : Int)) (by simp only [results, Tryz.results155]; go_simp) rfl ⟨rfl, rfl⟩
set_option maxRecDepth 100000 in
set_option maxHeartbeats 8000000 in
theorem unpack_walk (s : Bool) (x v m : Nat) (hm : m ≤ 31) (w : World)
    (hen : Hid (∀ w, Calls Tryz.prog 154 #[fieldV s, vec x] w fun e w' => (∃ g c, e = .returned (.slice (some ⟨g, 0, none⟩) 32 c) ∧ w.heap.size ≤ g ∧ 32 ≤ c ∧ BytesAt w' g 0 32 (byt v)) ∧ Below w.heap.size w w')) :
    Calls Tryz.prog 125 #[fieldV s, vec x, .int .i64 (m : Int)] w fun e w' =>
      ((Zf v m ∧ ∃ g, e = .returned (.tuple #[.slice (some ⟨g, 0, none⟩) m m, .int .i64 0]) ∧ w.heap.size ≤ g ∧ BytesAt w' g 0 m (byt v)) ∨ (¬ Zf v m ∧ e = .returned (.tuple #[.slice none 0 0, .int .i64 10]))) ∧ Below w.heap.size w w' := by
  have h31 : ¬ 31 < (m : Int) := by omega
  have h32 : (m : Int) ≤ 32 := by omega
  go_enter Tryz.func125, Tryz.ntmps125
  go_wp2_with fail
  refine Calls.mono (hen.out _) ?_
  rintro _ w1 ⟨⟨g, c, rfl, hg, hc, hB⟩, h1⟩
  obtain ⟨c1, f1, s1⟩ := bfacts h1
  try simp only [World.size_alloc, World.size_setCell, size_drew, size_drewN] at s1
  have l_w_w1_0 : w.heap.size < w1.heap.size := by omega
  have l_w_w1_1 : w.heap.size + 1 < w1.heap.size := by omega
  have hc1 : (m : Int) ≤ (c : Int) := by omega
  have hc2 : (32 : Int) ≤ (c : Int) := by omega
  have Hg := Lib.hid hg
  have HB := Lib.hid hB
  clear hg hB
  go_wp2_with fail
  have hd0 : decide ((m : Int) < 0) = false := decide_eq_false (by omega)
  simp only [hd0]
  clear hd0 h31 h32 hc1 hc2
  have hl : ((32 - m : Nat) : Int) = 32 - (m : Int) := by omega
  go_loopw [9, 25] (fun r i wr => ∃ k : Nat, k ≤ 32 - m ∧ i = .int .i64 (k : Int) ∧ r = .int .u64 ((orb v m k : Nat) : Int) ∧ wr = w1) (fun _ i _ => 32 - m - (intOf i).toNat)
  case atStart => exact ⟨0, by omega, rfl, rfl, rfl⟩
  case round =>
    obtain ⟨k, hk, rfl, rfl, rfl⟩ := hrel
    by_cases hlt : k < 32 - m
    · have hcell := HB.out.cell (m + k) (by omega)
      rw [Nat.zero_add] at hcell
      have hq := orb_step v m k
      go_wp2_with fail
      go_roundw
      case rel => exact ⟨k + 1, by omega, by go_num, rfl, trivial⟩
      case measure => simp [intOf]; omega
    · obtain rfl : k = 32 - m := by omega
      have Hz := Lib.hid (orb_Zf (v := v) (m := m) (by omega))
      have Hz4 := Lib.hid (orb_lt v m (32 - m))
      have Hm := Lib.hid hm
      clear hlt hk hl hm
      generalize orb v m (32 - m) = z at Hz Hz4 ⊢
      have hc1 : (m : Int) ≤ (c : Int) := by have := Hm.out; omega
      by_cases h0 : z = 0
      · have hZ := Lib.hid (Hz.out.1 h0)
        subst h0
        go_wp2_with fail
        refine Calls.mono (maskIsZero1_c 0 wr.heap.size W_pos _ (by go_simp)) ?_
        rintro _ _ ⟨rfl, rfl⟩
        rw [show mb (isz 0) = 18446744073709551615 from rfl]
        go_wp2_with fail
        refine bodyPost_ret (v := .tuple #[.slice (some ⟨g, 0, none⟩) m m, .int .i64 0]) (by simp only [results, Tryz.results125]; go_simp) rfl ⟨.inl ⟨hZ.out, g, rfl, Nat.le_trans (by simp only [World.size_alloc]; omega) Hg.out, (HB.out.take m (by have := Hm.out; omega)).below ((Below.refl _ _).alloc (Nat.le_refl _) _)⟩, ?_⟩
        repeat first
          | with_reducible exact Below.refl _ _
          | with_reducible refine Below.drew ?_
          | with_reducible refine below_dN ?_
          | with_reducible refine Below.alloc ?_ (by first | omega | (simp; done) | (simp; omega)) _
          | with_reducible refine Below.setCell ?_ (by first | omega | (simp; done) | (simp; omega)) _
          | with_reducible refine Below.trans ?_ (Below.mono (by assumption) (by first | omega | (simp; done) | (simp; omega)))
      · have hZ := Lib.hid (fun h => h0 (Hz.out.2 h))
        have hmb : mb (isz z) = 0 := by unfold isz; rw [if_neg h0]; rfl
        clear h0
        go_wp2_with fail
        refine Calls.mono (maskIsZero1_c z wr.heap.size Hz4.out _ (by go_simp)) ?_
        rintro _ _ ⟨rfl, rfl⟩
        rw [hmb]
        go_wp2_with fail
        refine bodyPost_ret (v := .tuple #[.slice none 0 0, .int .i64 10]) (by simp only [results, Tryz.results125]; go_simp) rfl ⟨.inr ⟨hZ.out, rfl⟩, ?_⟩
        repeat first
          | with_reducible exact Below.refl _ _
          | with_reducible refine Below.drew ?_
          | with_reducible refine below_dN ?_
          | with_reducible refine Below.alloc ?_ (by first | omega | (simp; done) | (simp; omega)) _
          | with_reducible refine Below.setCell ?_ (by first | omega | (simp; done) | (simp; omega)) _
          | with_reducible refine Below.trans ?_ (Below.mono (by assumption) (by first | omega | (simp; done) | (simp; omega)))
end Go.Proofs.YtdnkkbmpefhbjaaGreatDoor
namespace Go.Proofs.YtdnkkbmpefhbjaaGreatDoor
set_option linter.all false
open Go Go.RowKit
set_option maxRecDepth 100000 in
set_option maxHeartbeats 8000000 in
theorem refUnpack_walk (v m : Nat) (hm : m ≤ 31) (w : World) :
    Calls Tryz.prog 126 #[vec v, .int .i64 (m : Int)] w fun e w' =>
      ((Zf v m ∧ ∃ g c, e = .returned (.tuple #[.slice (some ⟨g, 0, none⟩) m c, .int .i64 0]) ∧ w.heap.size ≤ g ∧ BytesAt w' g 0 m (byt v)) ∨ (¬ Zf v m ∧ e = .returned (.tuple #[.slice none 0 0, .int .i64 10]))) ∧ Below w.heap.size w w' := by
  have h31 : ¬ 31 < (m : Int) := by omega
  have h32 : (m : Int) ≤ 32 := by omega
  go_enter Tryz.func126, Tryz.ntmps126
  go_wp2_with fail
  refine Calls.mono (refEncode_at v _) ?_
  rintro _ w1 ⟨⟨g, c, rfl, hg, hc, hB⟩, h1⟩
  obtain ⟨c1, f1, s1⟩ := bfacts h1
  try simp only [World.size_alloc, World.size_setCell, size_drew, size_drewN] at s1
  have l_w_w1_0 : w.heap.size < w1.heap.size := by omega
  have Hg := Lib.hid hg
  have Hc := Lib.hid hc
  have HB := Lib.hid hB
  clear hg hB hc
  go_wp2_with fail
  have hd0 : decide ((m : Int) < 0) = false := decide_eq_false (by omega)
  simp only [hd0]
  clear hd0 h31 h32
  go_loopw [7] (fun i wr => ∃ k : Nat, m ≤ k ∧ k ≤ 32 ∧ i = .int .i64 (k : Int) ∧ (∀ j, m ≤ j → j < k → byt v j = 0) ∧ wr = w1) (fun i _ => 32 - (intOf i).toNat)
  case atStart => exact ⟨m, Nat.le_refl _, by omega, rfl, fun j h1 h2 => by omega, rfl⟩
  case round =>
    obtain ⟨k, hmk, hk, rfl, hz, rfl⟩ := hrel
    have Hz := Lib.hid hz
    clear hz
    by_cases hlt : k < 32
    · have hcell := HB.out.cell k hlt
      rw [Nat.zero_add] at hcell
      by_cases h0 : byt v k = 0
      · rw [h0] at hcell
        have H0 := Lib.hid h0
        clear h0
        go_wp2_with fail
        go_roundw
        case rel => exact ⟨k + 1, by omega, by omega, by go_num, (fun j h1 h2 => if e : j = k then e ▸ H0.out else Hz.out j h1 (by omega)), trivial⟩
        case measure => simp [intOf]; omega
      · have hne : (((byt v k : Nat) : Int) != 0) = true := by rw [bne_iff_ne]; omega
        have HZ := Lib.hid (fun h : Zf v m => h0 (h k hmk hlt))
        clear h0
        go_wp2_with fail
        refine bodyPost_ret (v := .tuple #[.slice none 0 0, .int .i64 10]) (by simp only [results, Tryz.results126]; go_simp) rfl ⟨.inr ⟨HZ.out, rfl⟩, ?_⟩
        repeat first
          | with_reducible exact Below.refl _ _
          | with_reducible refine Below.drew ?_
          | with_reducible refine below_dN ?_
          | with_reducible refine Below.alloc ?_ (by first | omega | (simp; done) | (simp; omega)) _
          | with_reducible refine Below.setCell ?_ (by first | omega | (simp; done) | (simp; omega)) _
          | with_reducible refine Below.trans ?_ (Below.mono (by assumption) (by first | omega | (simp; done) | (simp; omega)))
    · obtain rfl : k = 32 := by omega
      have hc1 : (m : Int) ≤ (c : Int) := by have := Hc.out; omega
      clear hlt hk
      go_wp2_with fail
      refine bodyPost_ret (v := .tuple #[.slice (some ⟨g, 0, none⟩) m c, .int .i64 0]) (by simp only [results, Tryz.results126]; go_simp) rfl ⟨.inl ⟨Hz.out, g, c, rfl, Nat.le_trans (by simp only [World.size_alloc]; omega) Hg.out, HB.out.take m (by omega)⟩, ?_⟩
      repeat first
        | with_reducible exact Below.refl _ _
        | with_reducible refine Below.drew ?_
        | with_reducible refine below_dN ?_
        | with_reducible refine Below.alloc ?_ (by first | omega | (simp; done) | (simp; omega)) _
        | with_reducible refine Below.setCell ?_ (by first | omega | (simp; done) | (simp; omega)) _
        | with_reducible refine Below.trans ?_ (Below.mono (by assumption) (by first | omega | (simp; done) | (simp; omega)))
end Go.Proofs.YtdnkkbmpefhbjaaGreatDoor
namespace Go.Proofs.YtdnkkbmpefhbjaaGreatDoor
set_option linter.all false
open Go.RowKit
end Go.Proofs.YtdnkkbmpefhbjaaGreatDoor
namespace Go.Proofs.YtdnkkbmpefhbjaaGreatDoor
set_option linter.all false
open Go.RowKit
/-- A power of 256, named. -/
def un (r : Nat) : Nat := 256 ^ r
end Go.Proofs.YtdnkkbmpefhbjaaGreatDoor
namespace Go.Proofs.YtdnkkbmpefhbjaaGreatDoor
set_option linter.all false
open Go.RowKit
end Go.Proofs.YtdnkkbmpefhbjaaGreatDoor
namespace Go.Proofs.YtdnkkbmpefhbjaaGreatDoor
set_option linter.all false
open Go.RowKit
theorem rdc_lt {p v : Nat} (h : v < p) : rdc p v 0 = v := by unfold rdc; rw [if_pos ⟨h, rfl⟩]
theorem rdc_ne {p v : Nat} (hp : 0 < p) (hv : v < R4) (h : ¬ v < p) : rdc p v 0 ≠ v ∧ rdc p v 0 < R4 := by
  have e : rdc p v 0 = v - p := by
    unfold rdc; rw [if_neg (fun hh => h hh.1)]
    unfold subV
    have : (R4 : Nat) = R4 := rfl
    generalize R4 = R at *
    rw [show v + R - p = (v - p) + R by omega, Nat.add_mod_right, Nat.mod_eq_of_lt (by omega)]
  rw [e]
  omega
end Go.Proofs.YtdnkkbmpefhbjaaGreatDoor
namespace Go.Proofs.YtdnkkbmpefhbjaaGreatDoor
set_option linter.all false
open Go Go.RowKit
/-- A slice of n bytes, nil and empty ones let in. -/
structure SliceAt (w : World) (a : Option Addr) (n : Nat) (f : Nat → Nat) : Prop where
  lt : ∀ j, f j < 256
  at_ : n = 0 ∨ ∃ b off, a = some ⟨b, off, none⟩ ∧ BytesAt w b off n f
theorem SliceAt.below {w w' : World} {a : Option Addr} {n : Nat} {f : Nat → Nat} (h : SliceAt w a n f) (hb : Below w.heap.size w w') : SliceAt w' a n f :=
  ⟨h.lt, h.at_.imp id fun ⟨b, off, e, hB⟩ => ⟨b, off, e, hB.below hb⟩⟩
theorem SliceAt.pos {w : World} {a : Option Addr} {n : Nat} {f : Nat → Nat} (h : SliceAt w a n f) (hn : 0 < n) : ∃ b off, a = some ⟨b, off, none⟩ ∧ BytesAt w b off n f := h.at_.resolve_left (by omega)
theorem BytesAt.slice {w : World} {b off n : Nat} {f : Nat → Nat} (h : BytesAt w b off n f) : SliceAt w (some ⟨b, off, none⟩) n f := ⟨h.lt, .inr ⟨b, off, rfl, h⟩⟩
def fl (f : Nat → Nat) (n : Nat) : List Value := (List.range n).map fun j => Value.int .u8 ((f j : Nat) : Int)
theorem fl_len (f : Nat → Nat) (n : Nat) : (fl f n).length = n := by simp [fl]
end Go.Proofs.YtdnkkbmpefhbjaaGreatDoor
namespace Go.Proofs.YtdnkkbmpefhbjaaGreatDoor
set_option linter.all false
open Go Go.RowKit Go.Shelf
/-- The number of chunks of n bytes. -/
def cn (n : Int) : Nat := if 0 ≤ n ∧ n ≤ 65535 then ((n + 30) / 31).toNat else 0
theorem valid_c (n : Int) (w : World) : Calls Tryz.prog 122 #[.int .i64 n] w fun e w' => e = .returned (.bool (decide (0 ≤ n ∧ n ≤ 65535))) ∧ w = w' := by
  by_cases h0 : 0 ≤ n
  · by_cases h1 : n ≤ 65535
    · skip
      go_enter Tryz.func122, Tryz.ntmps122
      go_wp2
      go_ret
      exact ⟨by simp [h0, h1], rfl⟩
    · skip
      go_enter Tryz.func122, Tryz.ntmps122
      go_wp2
      go_ret
      exact ⟨by simp [h0]; omega, rfl⟩
  · have hd : decide (0 ≤ n ∧ n ≤ 65535) = false := by simp; omega
    go_enter Tryz.func122, Tryz.ntmps122
    go_wp2
    go_ret
    exact ⟨rfl, rfl⟩
theorem count_c (n : Int) (w : World) : Calls Tryz.prog 123 #[.int .i64 n] w fun e w' => e = .returned (.int .i64 (cn n : Int)) ∧ w = w' := by
  by_cases h : 0 ≤ n ∧ n ≤ 65535
  · have hd : decide (0 ≤ n ∧ n ≤ 65535) = true := by simpa using h
    obtain ⟨h0, h1⟩ := h
    go_enter Tryz.func123, Tryz.ntmps123
    go_wp2_with fail
    refine Calls.mono (valid_c n _) ?_
    rintro _ _ ⟨rfl, rfl⟩
    rw [hd]
    go_wp2_with fail
    go_ret
    refine ⟨?_, rfl⟩
    rw [show (cn n : Int) = (n + 30) / 31 by unfold cn; rw [if_pos ⟨h0, h1⟩]; omega]
    rw [show n + 31 - 1 = n + 30 by omega]
    rfl
  · have hd : decide (0 ≤ n ∧ n ≤ 65535) = false := by simpa using h
    have hc : cn n = 0 := by unfold cn; rw [if_neg h]
    go_enter Tryz.func123, Tryz.ntmps123
    go_wp2_with fail
    refine Calls.mono (valid_c n _) ?_
    rintro _ _ ⟨rfl, rfl⟩
    rw [hd]
    go_wp2_with fail
    go_ret
    exact ⟨by rw [hc]; rfl, rfl⟩
theorem bounds_c (n : Int) (w : World) : Calls Tryz.prog 124 #[.int .i64 n] w fun e w' =>
    e = .returned (.func (.func 153) #[] #[.pointer (some ⟨w.heap.size, 0, none⟩)]) ∧ w' = w.alloc (.cells #[.int .i64 n] 3) := by
  go_enter Tryz.func124, Tryz.ntmps124
  go_wp2
  go_ret
  exact ⟨rfl, rfl⟩
/-- The number of bytes of chunk i. -/
def cz (n i : Nat) : Nat := min 31 (n - 31 * i)
theorem cell?_block {w w' : World} {k : Nat} (h : w'.heap[k]? = w.heap[k]?) (j : Nat) : w'.cell? ⟨k, j, none⟩ = w.cell? ⟨k, j, none⟩ := by simp only [World.cell?, h]
theorem cn_lo {n k : Nat} (hn : n ≤ 65535) (hk : k < cn n) : 31 * k < n := by
  unfold cn at hk
  split at hk <;> omega
/-- The first k numbers below N. -/
def upF (N k : Nat) : List (Fin N) := (List.finRange N).take k
theorem upF_len {N k : Nat} (h : k ≤ N) : (upF N k).length = k := by simp [upF]; omega
theorem upF_succ {N k : Nat} (h : k < N) : upF N (k + 1) = upF N k ++ [⟨k, h⟩] := by
  unfold upF
  rw [List.take_succ_eq_append_getElem (by simpa using h)]
  simp
theorem upF_all (N : Nat) : upF N N = List.finRange N := by unfold upF; exact List.take_of_length_le (by simp)
theorem upF_map {α : Type} (N : Nat) (g : Nat → α) : (upF N N).map (fun i => g i.val) = (List.range N).map g := by
  rw [upF_all]
  apply List.ext_getElem
  · simp
  · intro i h1 h2
    simp
set_option maxRecDepth 100000 in
set_option maxHeartbeats 1000000 in
theorem bounds1_in (m : Nat) (hm : 2 ≤ m) (l n Bn : Nat) (hn : n ≤ 65535) (J Jx : List (Fin (cn n)) → World → Prop)
    (hY : ∀ pre x W, J pre W → pre.length < cn n → YieldAt Fence.wide (m - 1) Tryz.prog l #[.int .i64 ((x.val : Nat) : Int), .int .i64 ((cz n x.val : Nat) : Int)] W fun e W' =>
      (e = .returned (.bool true) ∧ J (pre ++ [x]) W' ∧ W'.heap[Bn]? = W.heap[Bn]?) ∨ (e = .returned (.bool false) ∧ Jx (pre ++ [x]) W'))
    (W : World) (hc : W.cell? ⟨Bn, 0, none⟩ = some (.int .i64 (n : Int))) (h0 : J [] W) :
    CallsIn Fence.wide m Tryz.prog 153 #[.func (.yield l) #[] #[], .pointer (some ⟨Bn, 0, none⟩)] W fun e W' => (∃ v, e = .returned v) ∧
      ((∃ ys, ys = upF (cn n) (cn n) ∧ J ys W') ∨ (∃ pre, (∃ k, k ≤ cn n ∧ pre = upF (cn n) k) ∧ Jx pre W')) := by
  have hcn : cn n ≤ 2115 := by unfold cn; split <;> omega
  refine callsIn_of_wp Tryz.func153 rfl trivial ?_ rfl
  simp only [Tryz.ntmps153, List.size_toArray, List.length_cons, List.length_nil, Nat.reduceAdd, Nat.reduceSub, Array.replicate_succ, Array.replicate_zero, List.push_toArray, List.append_toArray, List.nil_append, List.cons_append]
  gi_wp2
  refine ⟨trivial, ?_⟩
  try (refine ⟨(fun h => by cases h), ?_⟩)
  refine CallsIn.mono (callsIn_wide.2 (count_c _ _)) ?_
  rintro _ _ ⟨rfl, rfl⟩
  gi_wp2
  gi_loopw [6] (fun i wr => ∃ k : Nat, k ≤ cn n ∧ i = .int .i64 (k : Int) ∧ J (upF (cn n) k) wr ∧ wr.heap[Bn]? = W.heap[Bn]?) (fun i _ => cn n - (intOf i).toNat)
  case atStart => exact ⟨0, Nat.zero_le _, rfl, h0, rfl⟩
  case round =>
    obtain ⟨k, hk, rfl, hJs, hb⟩ := hrel
    have hcx := (cell?_block hb 0).trans hc
    have HB := Lib.hid hb
    clear hb
    by_cases hlt : k < cn n
    · obtain ⟨fn, tmps, assign, body, hy, hR⟩ := hY _ ⟨k, hlt⟩ wr hJs (by rw [upF_len hk]; exact hlt)
      have h31 := cn_lo hn hlt
      dsimp only at hy
      have hcz : min (31 : Int) ((n : Int) - (k : Int) * 31) = ((cz n k : Nat) : Int) := by unfold cz; omega
      gi_wp2
      refine ⟨(fun h => by cases h), hR.mono ?_⟩
      rintro e W3 (⟨rfl, hJ3, hk3⟩ | ⟨rfl, hJx3⟩)
      · gi_wp2
        go_roundw
        case rel => exact ⟨k + 1, by omega, by go_num, by rw [upF_succ hlt]; exact hJ3, hk3.trans HB.out⟩
        case measure => simp [intOf]; omega
      · gi_wp2
        refine bodyPost_ret (results_none rfl _ _ _) rfl ?_
        exact ⟨⟨_, rfl⟩, .inr ⟨_, ⟨k + 1, by omega, (upF_succ hlt).symm⟩, hJx3⟩⟩
    · obtain rfl : k = cn n := by omega
      gi_wp2
      go_end0
      exact ⟨⟨_, rfl⟩, .inl ⟨_, rfl, hJs⟩⟩
/-- The block of the iterator's bound lies as it lay. -/
def KB (Bn : Nat) (A B : World) : Prop := B.heap[Bn]? = A.heap[Bn]?
theorem KB_t {Bn : Nat} {A B C : World} (h : KB Bn A B) (k : KB Bn B C) : KB Bn A C := Eq.trans k h
theorem KB_b {Bn s : Nat} (hB : Bn < s) (W : World) (l : Nat) (o o' : Obj) (hl : s ≤ l) (_ : W.heap[l]? = some o) (_ : o.isCells = false) (_ : o.isWalk = false) : KB Bn W (W.putObj l o') :=
  World.putObj_heap_other (by omega)
theorem bounds_stops (m : Nat) (hm : 2 ≤ m) (n Bn : Nat) (hn : n ≤ 65535) (w : World) (hB : Bn < w.heap.size) (hc : w.cell? ⟨Bn, 0, none⟩ = some (.int .i64 (n : Int))) :
    SeqStopsK Fence.wide m Tryz.prog 153 #[.pointer (some ⟨Bn, 0, none⟩)] (fun i : Fin (cn n) => #[.int .i64 ((i.val : Nat) : Int), .int .i64 ((cz n i.val : Nat) : Int)]) (KB Bn) (fun xs => xs = upF (cn n) (cn n)) (fun pre => ∃ k, k ≤ cn n ∧ pre = upF (cn n) k) (cn n) w :=
  fun l J Jx W hW _ _ hY h0 => bounds1_in m hm l n Bn hn J Jx hY W ((hW.cell (p := ⟨Bn, 0, none⟩) hB).trans hc) h0
end Go.Proofs.YtdnkkbmpefhbjaaGreatDoor
namespace Go.Proofs.YtdnkkbmpefhbjaaGreatDoor
set_option linter.all false
open Go Go.RowKit
/-- Block b holds these cells and nothing else. -/
def Blk (W : World) (b : Nat) (cs : Array Value) (T : TypeId) : Prop := W.heap[b]? = some (.cells cs T (0, 0))
theorem Blk.lt {W : World} {b : Nat} {cs : Array Value} {T : TypeId} (h : Blk W b cs T) : b < W.heap.size := (Array.getElem?_eq_some_iff.1 h).1
theorem Blk.same {W W' : World} {b : Nat} {cs : Array Value} {T : TypeId} (h : Blk W b cs T) (e : W'.heap[b]? = W.heap[b]?) : Blk W' b cs T := Eq.trans e h
theorem Blk.below {W W' : World} {B b : Nat} {cs : Array Value} {T : TypeId} (h : Blk W b cs T) (hb : Below B W W') (hB : b < B) : Blk W' b cs T := h.same (hb.block b hB)
theorem Blk.kept {W W' : World} {b : Nat} {cs : Array Value} {T : TypeId} {row : Option Nat} (h : Blk W b cs T) (hg : W.grownBy W' row) (hr : ∀ r, row = some r → ∃ o : Obj, W.heap[r]? = some o ∧ o.isCells = false) : Blk W' b cs T := by
  refine h.same (hg.block b h.lt fun e => ?_)
  obtain ⟨o, ho, hc⟩ := hr b e.symm
  rw [show W.heap[b]? = some (.cells cs T (0, 0)) from h] at ho
  cases ho
  cases hc
theorem Blk.cell {W : World} {b j : Nat} {cs : Array Value} {T : TypeId} {v : Value} (h : Blk W b cs T) (hv : cs[j]? = some v) : W.cell? ⟨b, j, none⟩ = some v := by rw [cell_of_row W b j _ _ _ h]; exact hv
theorem Blk.fz {W : World} {b : Nat} {cs : Array Value} {T : TypeId} (h : Blk W b cs T) (j : Nat) : W.frozen? ⟨b, j, none⟩ = false := frozen_of_row W b j _ _ h
theorem Blk.new {W : World} {b : Nat} {cs : Array Value} {T : TypeId} (h : b = W.heap.size) : Blk (W.alloc (.cells cs T)) b cs T := by subst h; exact heap_alloc_new W _
theorem Blk.alloc {W : World} {b : Nat} {cs : Array Value} {T : TypeId} (h : Blk W b cs T) (o : Obj) : Blk (W.alloc o) b cs T := h.same (Below.heap_alloc W o b h.lt)
theorem Blk.set {W : World} {b : Nat} {v u : Value} {T : TypeId} (h : Blk W b #[v] T) : Blk (W.setCell ⟨b, 0, none⟩ u) b #[u] T := by
  unfold Blk
  rw [heap_setCell_same W b 0 _ T _ h]
  rfl
theorem Blk.other {W : World} {b p j : Nat} {cs : Array Value} {T : TypeId} {u : Value} (h : Blk W b cs T) (hp : b ≠ p) : Blk (W.setCell ⟨p, j, none⟩ u) b cs T := h.same (Below.heap_setCell _ _ _ _ hp)
def fieldA (s : Bool) : Array Value := match fieldV s with | .agg xs => xs | _ => #[]
theorem load_field (s : Bool) {W : World} {b : Nat} (h : ∀ (j : Nat) v, (fieldA s)[j]? = some v → W.cell? ⟨b, j, none⟩ = some v) : (Instr.loadAt 120 (.pointer (some ⟨b, 0, none⟩))).run Tryz.prog W = .ok (fieldV s) W := by
  have := run_loadVar_at (P := Tryz.prog) W ⟨b, 0, none⟩ 120 (fieldA s).toList _ (fun j v hj => by
    have e : (⟨b, 0, none⟩ : Addr).add j = ⟨b, 0 + j, none⟩ := by unfold Addr.add; split <;> simp_all
    rw [e, Nat.zero_add]
    exact h j v (by rw [← Array.getElem?_toList]; exact hj)) Tryz.underlying120 rfl (by kernel_rfl)
  simp only [Instr.loadAt, Instr.sureAddr, Sem.run_bind, Sem.run_pure, Result.andThen_ok, this]
  rfl
/-- Of the old blocks only p and the row r may have been written. -/
structure Wrote (w w' : World) (p : Nat) (r : Option Nat) : Prop where
  os : w'.os = w.os
  tape : w'.tape = w.tape
  output : w'.output = w.output
  size : w.heap.size ≤ w'.heap.size
  block : ∀ k, k < w.heap.size → k ≠ p → some k ≠ r → w'.heap[k]? = w.heap[k]?
theorem Wrote.refl (w : World) (p : Nat) (r : Option Nat) : Wrote w w p r := ⟨rfl, rfl, rfl, Nat.le_refl _, fun _ _ _ _ => rfl⟩
theorem Wrote.step {w a b : World} {p : Nat} {r : Option Nat} (h : Wrote w a p r) (hb : Below a.heap.size a b) : Wrote w b p r :=
  ⟨hb.os.trans h.os, hb.tape.trans h.tape, hb.output.trans h.output, Nat.le_trans h.size hb.size, fun k hk h1 h2 => (hb.block k (Nat.lt_of_lt_of_le hk h.size)).trans (h.block k hk h1 h2)⟩
theorem Wrote.set {w a : World} {p : Nat} {r : Option Nat} (h : Wrote w a p r) (j : Nat) (v : Value) : Wrote w (a.setCell ⟨p, j, none⟩ v) p r :=
  ⟨h.os, h.tape, h.output, by simpa [World.setCell] using h.size, fun k hk h1 h2 => (Below.heap_setCell _ _ _ _ h1).trans (h.block k hk h1 h2)⟩
theorem Wrote.grown {w a b : World} {p : Nat} {r : Option Nat} (h : Wrote w a p r) (hg : a.grownBy b r) : Wrote w b p r :=
  ⟨hg.os.trans h.os, hg.tape.trans h.tape, hg.output.trans h.output, Nat.le_trans h.size hg.size, fun k hk h1 h2 => (hg.block k (Nat.lt_of_lt_of_le hk h.size) h2).trans (h.block k hk h1 h2)⟩
theorem Wrote.setr {w a : World} {p k : Nat} (h : Wrote w a p (some k)) (j : Nat) (v : Value) : Wrote w (a.setCell ⟨k, j, none⟩ v) p (some k) :=
  ⟨h.os, h.tape, h.output, by simpa [World.setCell] using h.size, fun i hi h1 h2 => (Below.heap_setCell _ _ _ _ (fun e => h2 (by rw [e]))).trans (h.block i hi h1 h2)⟩
theorem Wrote.below {w w' : World} {p C : Nat} {r : Option Nat} (h : Wrote w w' p r) (hC : C ≤ p) (hw : C ≤ w.heap.size) (hr : ∀ k, r = some k → C ≤ k) : Below C w w' :=
  ⟨h.os, h.tape, h.output, h.size, fun k hk => h.block k (by omega) (by omega) (fun e => by have := hr k e.symm; omega)⟩
/-- What is no cells lies as it lay. -/
theorem Wrote.keeps {w w' : World} {p B : Nat} {r : Option Nat} {cs : Array Value} {T : TypeId} (h : Wrote w w' p r) (hp : Blk w p cs T) (hr : ∀ k, r = some k → ∃ o : Obj, w.heap[k]? = some o ∧ o.isCells = true) : KeepsFrom B w w' :=
  ⟨h.size, fun k o _ hk ho => (h.block k (Array.getElem?_eq_some_iff.1 hk).1 (fun e => by
    subst e
    rw [show w.heap[k]? = some (.cells cs T (0, 0)) from hp] at hk
    cases hk
    cases ho) (fun e => by
    obtain ⟨o', ho', hc⟩ := hr k e.symm
    rw [hk] at ho'
    cases ho'
    rw [ho] at hc
    cases hc)).trans hk⟩
theorem row_cells {w : World} {base n : Nat} {e : TypeId} {size : Nat} {v : Value} {xs : List Value} (h : w.ownsRow base e size v n xs) : ∀ k, v.ownBlock = some k → ∃ o : Obj, w.heap[k]? = some o ∧ o.isCells = true := fun k hk => by
  rcases h.2 with ⟨rfl, _⟩ | ⟨g, cap, cur, rfl, _, hh, _⟩
  · cases hk
  · cases hk
    exact ⟨_, hh, rfl⟩
theorem row_kept {W W' : World} {base n : Nat} {e : TypeId} {size : Nat} {v : Value} {xs : List Value} {row : Option Nat} (h : W.ownsRow base e size v n xs) (hg : W.grownBy W' row) (hr : ∀ r, row = some r → ∃ o : Obj, W.heap[r]? = some o ∧ o.isCells = false) : W'.ownsRow base e size v n xs := by
  refine h.kept hg ?_
  cases hv : v.ownBlock with
  | none => exact .inl rfl
  | some k =>
    refine .inr fun e => ?_
    obtain ⟨o, ho, hc⟩ := hr k e.symm
    obtain ⟨o', ho', hc'⟩ := row_cells h k hv
    rw [ho] at ho'
    cases ho'
    rw [hc] at hc'
    cases hc'
theorem row_below {w w' : World} {C : Nat} {e : TypeId} {size n : Nat} {v : Value} {xs : List Value} (h : w.ownsRow C e size v n xs) (hb : Below w.heap.size w w') : w'.ownsRow C e size v n xs := by
  refine h.kept (row := none) ⟨hb.os, hb.tape, hb.output, hb.size, fun k hk _ => hb.block k hk⟩ ?_
  cases hv : v.ownBlock with
  | none => exact .inl rfl
  | some k => exact .inr (fun h => by cases h)
theorem row_slice2 {w : World} {C : Nat} {e : TypeId} {size n : Nat} {v : Value} {xs : List Value} (h : w.ownsRow C e size v n xs) : ∃ a c, v = .slice a n c := by
  rcases h.2 with ⟨rfl, rfl⟩ | ⟨g, cap, cur, rfl, _⟩
  · exact ⟨_, _, rfl⟩
  · exact ⟨_, _, rfl⟩
/-- A row of elements is no block of another type. -/
theorem row_ne {W : World} {base n b : Nat} {e T : TypeId} {size : Nat} {v : Value} {xs : List Value} {cs : Array Value} (h : W.ownsRow base e size v n xs) (hb : Blk W b cs T) (hT : (e == T) = false) : v.ownBlock ≠ some b := fun hk => by
  rcases h.2 with ⟨rfl, _⟩ | ⟨g, cap, cur, rfl, _, hh, _⟩
  · cases hk
  · have hg : g = b := by simpa [Value.ownBlock] using hk
    subst hg
    rw [show W.heap[g]? = some (.cells cs T (0, 0)) from hb] at hh
    simp only [Option.some.injEq, Obj.cells.injEq] at hh
    have := hh.2.1
    subst this
    simp at hT
theorem row_other {w : World} {base n p j : Nat} {e : TypeId} {size : Nat} {v u : Value} {xs : List Value} (h : w.ownsRow base e size v n xs) (hp : v.ownBlock ≠ some p) : (w.setCell ⟨p, j, none⟩ u).ownsRow base e size v n xs := by
  refine ⟨h.1, h.2.imp id fun ⟨g, cap, cur, e1, hg, hh, k⟩ => ⟨g, cap, cur, e1, hg, ?_, k⟩⟩
  have hgb : g ≠ p := fun e2 => hp (by rw [e1, e2]; rfl)
  exact (Below.heap_setCell _ _ _ _ hgb).trans hh
theorem bytes_src {w : World} {b off n : Nat} {f : Nat → Nat} (h : BytesAt w b off n f) : ∀ j v, (fl f n)[j]? = some v → w.cell? ((⟨b, off, none⟩ : Addr).add j) = some v := fun j v hv => by
  have hj : j < n := by
    have := (List.getElem?_eq_some_iff.1 hv).1
    simpa [fl] using this
  have e : (⟨b, off, none⟩ : Addr).add j = ⟨b, off + j, none⟩ := by unfold Addr.add; split <;> simp_all
  rw [e, h.cell j hj, ← hv]
  simp [fl, hj]
theorem fl_one1 (f : Nat → Nat) (n : Nat) : ∀ v ∈ fl f n, v.oneCell' = true := fun v hv => by
  simp only [fl, List.mem_map] at hv
  obtain ⟨j, _, rfl⟩ := hv
  rfl
theorem fl_length (f : Nat → Nat) (n : Nat) : (fl f n).length = n := by simp [fl]
/-- append of nil to a row of the call's own, inside a fence. -/
theorem wpListIn_append_none {F : Fence} {n : Nat} {P : Program} (w : World) {ops : Array Oper} {rest : List Oper} {o : Oper} {a : Act} {Q : Exit → Act → World → Prop}
    (hg : o.guard = none) (s x : Operand) (t : TypeId) (hop : o.op = Op.call { callee := Callee.builtin Builtin.append, args := #[s, x], argTypes := #[t, t] })
    (base : Nat) (e : TypeId) (i : TypeInfo) (size : Nat) (h1 : P.underlying t = some (.slice e)) (h2 : P.info? e = some i)
    (v : Value) (k : Nat) (xs : List Value) (hs : a.eval s = v) (hown : w.ownsRow base e size v k xs) (hx : a.eval x = .slice none 0 0)
    (hK : wpListIn F n P ops Q rest (a.put o.dst v) w) : wpListIn F n P ops Q (o :: rest) a w := by
  refine wpListIn_plain hg fun K hK' => ?_
  have hrun := run_append_owned_none (P := P) w base t o.type e i size h1 h2 v k xs hown
  unfold Oper.wpIn
  refine ⟨?_, ?_⟩
  · simp [Oper.about, hop, resolve, Target.leads, Sem.run_pure]
  · rw [Oper.semAt_plain F _ _ (by rw [hop]; intro c hc'; cases hc')]
    simp [execOp, hop, resolve, invoke, builtin, hs, hx, hrun, Result.andThen]
    exact hK' _ _ hK
/-- The same post, no panic let in. -/
def noPanic (Q : Exit → Act → World → Prop) : Exit → Act → World → Prop | .panic _, _, _ => False | e, a, w => Q e a w
theorem wp_np {P : Program} {c : Code} {Q : Exit → Act → World → Prop} {a : Act} {w : World} (h : c.wp P (noPanic Q) a w) : c.wp P Q a w := wp_mono h fun e a w h => by
  cases e <;> first | exact h | exact h.elim
theorem np_normal {Q : Exit → Act → World → Prop} {a : Act} {w : World} (h : Q .normal a w) : noPanic Q .normal a w := h
/-- The cells of a vector; of a list of vectors. -/
def vc (x : Nat) : List Value := [.int .u64 ((dg 0 x : Nat) : Int), .int .u64 ((dg 1 x : Nat) : Int), .int .u64 ((dg 2 x : Nat) : Int), .int .u64 ((dg 3 x : Nat) : Int)]
end Go.Proofs.YtdnkkbmpefhbjaaGreatDoor
namespace Go.Proofs.YtdnkkbmpefhbjaaGreatDoor
set_option linter.all false
open Go Go.RowKit Go.Shelf
attribute [local go_sem] Oper.semAt_some
theorem wpi_name {F : Fence} {n : Nat} {P : Program} {Q : Exit → Act → World → Prop} {a : Act} {c : Code} {w : World} (h : ∀ wS, wS = w → c.wpIn F n P Q a wS) : c.wpIn F n P Q a w := h w rfl
/-- The reference counts the same. -/
theorem refCount_c (n : Int) (hn : -9223372036854775808 ≤ n) (w : World) : Calls Tryz.prog 103 #[.int .i64 n] w fun e w' => e = .returned (.int .i64 (cn n : Int)) ∧ w = w' := by
  by_cases h1 : 65535 < n
  · have hc : cn n = 0 := by unfold cn; rw [if_neg (by omega)]
    go_enter Tryz.func103, Tryz.ntmps103
    go_wp2_with fail
    go_ret
    exact ⟨by rw [hc]; rfl, rfl⟩
  · skip
    go_enter Tryz.func103, Tryz.ntmps103
    go_wp2_with fail
    go_loop [0, 3] (fun x k => ∃ j : Nat, k = .int .i64 (j : Int) ∧ x = .int .i64 (n - 31 * (j : Int)) ∧ (j : Int) ≤ 2115 ∧ (0 < j → 0 < n - 31 * ((j : Int) - 1))) (fun x _ => (intOf x).toNat)
    case atStart => exact ⟨0, rfl, by simp, by omega, by omega⟩
    case round =>
      obtain ⟨j, rfl, rfl, hj, hp⟩ := hrel
      by_cases hlt : 0 < n - 31 * (j : Int)
      · go_wp2_with fail
        go_round
        case rel => exact ⟨j + 1, by go_num, by rw [show n - 31 * (j : Int) - 31 = n - 31 * ((j + 1 : Nat) : Int) by omega], by omega, fun _ => by omega⟩
        case measure => simp only [intOf]; omega
      · have hc : cn n = j := by unfold cn; by_cases h0 : 0 ≤ n
                                 · rw [if_pos ⟨h0, by omega⟩]; by_cases hz : j = 0
                                   · subst hz; omega
                                   · have := hp (by omega); omega
                                 · rw [if_neg (fun h => h0 h.1)]; by_cases hz : j = 0
                                   · omega
                                   · have := hp (by omega); omega
        go_wp2_with fail
        go_ret
        exact ⟨rfl, rfl⟩
end Go.Proofs.YtdnkkbmpefhbjaaGreatDoor
namespace Go.Proofs.YtdnkkbmpefhbjaaGreatDoor
set_option linter.all false
open Go Go.RowKit
/-- Half of a number modulo p. -/
def halfm (p a : Nat) : Nat := if a % 2 = 1 then (a + p) / 2 else a / 2
theorem halfm_two {p a : Nat} (hp : p % 2 = 1) : 2 * halfm p a = a ∨ 2 * halfm p a = a + p := by unfold halfm; split <;> omega
theorem halfm_lt {p a : Nat} (hp : p % 2 = 1) (ha : a < p) : halfm p a < p := by unfold halfm; split <;> omega
def halves (p a : Nat) : Nat → Nat | 0 => a | k + 1 => halfm p (halves p a k)
theorem halves_lt {p a : Nat} (hp : p % 2 = 1) (ha : a < p) : ∀ k, halves p a k < p | 0 => ha | k + 1 => halfm_lt hp (halves_lt hp ha k)
theorem halves_mod {p a : Nat} (hp : p % 2 = 1) : ∀ k, halves p a k * 2 ^ k % p = a % p
  | 0 => by simp [halves]
  | k + 1 => by
    have ih := halves_mod (p := p) (a := a) hp k
    have h : halves p a (k + 1) * 2 ^ (k + 1) = 2 * halfm p (halves p a k) * 2 ^ k := by
      show halfm p (halves p a k) * 2 ^ (k + 1) = _
      rw [Nat.pow_succ]; ac_rfl
    rw [h]
    rcases halfm_two (a := halves p a k) hp with e | e
    · rw [e]; exact ih
    · rw [e, Nat.add_mul, Nat.add_mul_mod_self_left]; exact ih
theorem dg_lt64 (k a : Nat) : dg k a < 18446744073709551616 := by have := dg_lt k a; unfold W at this; exact this
theorem dg0_odd (a : Nat) : dg 0 a % 2 = a % 2 := by unfold dg W; simp only [Nat.pow_zero, Nat.div_one]; omega
theorem pr_odd (s : Bool) : pr s % 2 = 1 := by cases s <;> decide
theorem rinv_one (s : Bool) : R4 * rinv s % pr s = 1 := by cases s <;> decide
/-- The value of a Montgomery form. -/
def valm (s : Bool) (x : Nat) : Nat := x * rinv s % pr s
theorem halves_val (s : Bool) {a : Nat} (ha : a < pr s) : halves (pr s) a 256 = valm s a := by
  have h1 := halves_mod (p := pr s) (a := a) (pr_odd s) 256
  have h2 := halves_lt (pr_odd s) ha 256
  have h3 := rinv_one s
  have e : (2 : Nat) ^ 256 = R4 := by decide
  rw [e] at h1
  generalize halves (pr s) a 256 = h at *
  unfold valm
  have : h * R4 * rinv s % pr s = a * rinv s % pr s := by rw [Nat.mul_mod, h1, ← Nat.mul_mod]
  rw [← this, Nat.mul_assoc, Nat.mul_mod, h3, Nat.mul_one, Nat.mod_mod, Nat.mod_eq_of_lt h2]
theorem valm_RR (s : Bool) {v : Nat} (hv : v < pr s) : valm s (RR s v) = v := by
  have h3 := rinv_one s
  unfold valm
  rw [RR_eq, Nat.mod_mul_mod, Nat.mul_assoc, Nat.mul_mod, h3, Nat.mul_one, Nat.mod_mod, Nat.mod_eq_of_lt hv]
/-- The words of half of a number of 257 bits. -/
theorem half_val {d0 d1 d2 d3 t : Nat} : val4 (d0 / 2 + d1 % 2 * 9223372036854775808) (d1 / 2 + d2 % 2 * 9223372036854775808) (d2 / 2 + d3 % 2 * 9223372036854775808) (d3 / 2 + t * 9223372036854775808) = (val4 d0 d1 d2 d3 + t * R4) / 2 := by
  unfold val4 R4 W
  omega
theorem half_vec {a t : Nat} (ha : a < R4) (ht : t ≤ 1) : vec ((a + t * R4) / 2) = .agg #[.int .u64 ((dg 0 a : Int) / 2 + (dg 1 a : Int) % 2 * 9223372036854775808), .int .u64 ((dg 1 a : Int) / 2 + (dg 2 a : Int) % 2 * 9223372036854775808), .int .u64 ((dg 2 a : Int) / 2 + (dg 3 a : Int) % 2 * 9223372036854775808), .int .u64 ((dg 3 a : Int) / 2 + (t : Int) * 9223372036854775808)] := by
  have h0 := dg_lt 0 a
  have h1 := dg_lt 1 a
  have h2 := dg_lt 2 a
  have h3 := dg_lt 3 a
  unfold W at h0 h1 h2 h3
  have h := half_val (d0 := dg 0 a) (d1 := dg 1 a) (d2 := dg 2 a) (d3 := dg 3 a) (t := t)
  rw [val4_dg ha] at h
  rw [← h, vec_val4 (by unfold W; omega) (by unfold W; omega) (by unfold W; omega) (by unfold W; omega)]
  simp
theorem addV_split {a p : Nat} : addV a p + addC a p * R4 = a + p := by
  unfold addV addC
  rw [Nat.mul_comm]
  exact Nat.mod_add_div _ _
theorem addC_le1 {a p : Nat} (ha : a < R4) (hp : p < R4) : addC a p ≤ 1 := by
  unfold addC
  have : (a + p) / R4 < 2 := Nat.div_lt_of_lt_mul (by omega)
  omega
set_option maxRecDepth 100000 in
theorem halve_odd (p a0 : Nat) (W : World) (hp : p < R4) (ha : a0 < R4) (h : a0 % 2 = 1) : Calls Tryz.prog 104 [vec p, vec a0].toArray W fun e w => e = .returned (vec (halfm p a0)) ∧ Below W.heap.size W w := by
 have hm := dg0_odd a0
 have hlt : addV a0 p < R4 := addV_lt _ _
 have hc1 : addC a0 p ≤ 1 := addC_le1 ha hp
 have hd0 := dg_lt64 0 (addV a0 p)
 have hd1 := dg_lt64 1 (addV a0 p)
 have hd2 := dg_lt64 2 (addV a0 p)
 have hd3 := dg_lt64 3 (addV a0 p)
 have hd4 := dg_lt64 0 a0
 refine c_enter (args := [vec p, vec a0]) Tryz.func104 rfl rfl rfl fun a hk => ?_
 have hs := Sat.start W [] (fun _ h => by cases h)
 refine wS (wR ?_)
 refine q_box (vs := [.int .u64 ((dg 0 p : Nat) : Int), .int .u64 ((dg 1 p : Nat) : Int), .int .u64 ((dg 2 p : Nat) : Int), .int .u64 ((dg 3 p : Nat) : Int)]) hk hs rfl rfl rfl rfl fun b1 w a hk hs => ?_
 refine q_box (vs := [.int .u64 ((dg 0 a0 : Nat) : Int), .int .u64 ((dg 1 a0 : Nat) : Int), .int .u64 ((dg 2 a0 : Nat) : Int), .int .u64 ((dg 3 a0 : Nat) : Int)]) hk hs rfl rfl rfl rfl fun b2 w a hk hs => ?_
 refine q_alc (vs := [.int .u64 0, .int .u64 0, .int .u64 0, .int .u64 0]) hk hs zr47 rfl rfl rfl fun b3 w a hk hs => ?_
 refine c_end (x_t (wS (wR ?_)))
 refine q_v hk (w_as rfl) fun a hk => ?_
 refine c_end (x_t (wS (wS (wR ?_))))
 refine q_v hk (w_iaA (k := 0) rfl rfl Tryz.underlying47 ty46 (by omega) (by omega)) fun a hk => ?_
 refine q_v hk (w_ld1 rfl ty46 (.blk (n := 1) (hs.mi 1 rfl) rfl)) fun a hk => ?_
 refine q_v hk (w_rem rfl rfl (by omega) (wmd (by omega))) fun a hk => ?_
 refine q_v hk (w_eq rfl rfl (decide_eq_true (by omega))) fun a hk => ?_
 refine c_end (x_t ?_)
 refine c_T hk rfl ?_
 refine wR ?_
 refine q_v hk (w_ldv (z := a0) rfl ty47 (.blk (n := 4) (hs.mi 1 rfl) rfl)) fun a hk => ?_
 refine q_v hk (w_ldv (z := p) rfl ty47 (.blk (n := 4) (hs.mi 2 rfl) rfl)) fun a hk => ?_
 refine q_call (caps := []) hk rfl rfl Tryz.func68 fo68 rfl rfl (refSum_c a0 p (by assumption) (by assumption) _) ?_
 rintro _ w ⟨rfl, hb⟩
 have hs := hs.below hb
 refine ⟨_, rfl, fun a hk => ?_⟩
 refine q_v hk (w_mv rfl) fun a hk => ?_
 refine q_v hk (w_ext rfl rfl) fun a hk => ?_
 refine q_v hk (w_ext rfl rfl) fun a hk => ?_
 have hs := hs.up1
 refine q_sto (o := 0) (cs := [.int .u64 ((dg 0 (addV a0 p) : Nat) : Int), .int .u64 ((dg 1 (addV a0 p) : Nat) : Int), .int .u64 ((dg 2 (addV a0 p) : Nat) : Int), .int .u64 ((dg 3 (addV a0 p) : Nat) : Int)]) (vs' := [.int .u64 ((dg 0 (addV a0 p) : Nat) : Int), .int .u64 ((dg 1 (addV a0 p) : Nat) : Int), .int .u64 ((dg 2 (addV a0 p) : Nat) : Int), .int .u64 ((dg 3 (addV a0 p) : Nat) : Int)]) hk hs rfl rfl rfl ty47 rfl rfl rfl rfl rfl rfl fun w hs => ?_
 refine q_v hk (w_as rfl) fun a hk => ?_
 refine c_end (x_t (wS (wR ?_)))
 refine q_alc (vs := [.int .u64 0, .int .u64 0, .int .u64 0, .int .u64 0]) hk hs zr47 rfl rfl rfl fun b4 w a hk hs => ?_
 refine c_end (x_t (wS (wS (wR ?_))))
 refine q_v hk (w_as rfl) fun a hk => ?_
 refine c_end (x_t ?_)
 refine wpIn_block ?_
 refine c_rounds 5 ?_
 refine c_rsucc ?_
 refine wS (wS (wR ?_))
 refine q_v hk (w_mv rfl) fun a hk => ?_
 refine q_v hk (w_lt rfl rfl (decide_eq_true (by decide))) fun a hk => ?_
 refine c_end (x_t ?_)
 refine c_T hk rfl ?_
 refine (wpIn_skip (x_t ?_))
 refine wS ?_
 refine wpIn_block ?_
 refine wS (wR ?_)
 refine q_v hk (w_mv rfl) fun a hk => ?_
 refine q_v hk (w_as rfl) fun a hk => ?_
 refine c_end (x_t (wS (wS (wR ?_))))
 refine q_v hk (w_mv rfl) fun a hk => ?_
 refine q_v hk (w_lt rfl rfl (decide_eq_true (by decide))) fun a hk => ?_
 refine c_end (x_t ?_)
 refine c_T hk rfl ?_
 refine wR ?_
 refine q_v hk (w_mv rfl) fun a hk => ?_
 refine q_v hk (w_add (r := 1) rfl rfl (by decide)) fun a hk => ?_
 refine q_v hk (w_iaA (k := 1) rfl rfl Tryz.underlying47 ty46 (by omega) (by omega)) fun a hk => ?_
 refine q_v hk (w_ld1 rfl ty46 (.blk (n := 1) (hs.mi 1 rfl) rfl)) fun a hk => ?_
 refine q_v hk (w_rem rfl rfl (by omega) (wmd (by omega))) fun a hk => ?_
 refine q_v hk (w_as rfl) fun a hk => ?_
 refine c_end (x_t (wR ?_))
 refine q_v hk (w_mv rfl) fun a hk => ?_
 refine q_v hk (w_mv rfl) fun a hk => ?_
 refine q_v hk (w_iaA (k := 0) rfl rfl Tryz.underlying47 ty46 (by omega) (by omega)) fun a hk => ?_
 refine q_v hk (w_ld1 rfl ty46 (.blk (n := 1) (hs.mi 1 rfl) rfl)) fun a hk => ?_
 refine q_v hk (w_quo rfl rfl (by omega) (wdvu64 (by omega) (by omega) (by omega))) fun a hk => ?_
 refine q_v hk (w_mv rfl) fun a hk => ?_
 refine q_v hk (w_mul rfl rfl (wru64 (by omega) (by omega))) fun a hk => ?_
 refine q_v hk (w_add rfl rfl (wru64 (by omega) (by omega))) fun a hk => ?_
 refine q_v hk (w_iaA (k := 0) rfl rfl Tryz.underlying47 ty46 (by omega) (by omega)) fun a hk => ?_
 refine q_sto (o := 0) (cs := [.int .u64 ((((dg 0 (addV a0 p) : Nat) : Int) / 2) + ((((dg 1 (addV a0 p) : Nat) : Int) % 2) * 9223372036854775808))]) (vs' := [.int .u64 ((((dg 0 (addV a0 p) : Nat) : Int) / 2) + ((((dg 1 (addV a0 p) : Nat) : Int) % 2) * 9223372036854775808)), .int .u64 0, .int .u64 0, .int .u64 0]) hk hs rfl rfl rfl ty46 rfl rfl rfl rfl rfl rfl fun w hs => ?_
 refine (c_end (x_b (x_t ?_)))
 refine wR ?_
 refine q_v hk (w_mv rfl) fun a hk => ?_
 refine q_v hk (w_add (r := 1) rfl rfl (by decide)) fun a hk => ?_
 refine q_v hk (w_as rfl) fun a hk => ?_
 refine c_end (x_t ?_)
 refine c_rsucc ?_
 refine wS (wS (wR ?_))
 refine q_v hk (w_mv rfl) fun a hk => ?_
 refine q_v hk (w_lt rfl rfl (decide_eq_true (by decide))) fun a hk => ?_
 refine c_end (x_t ?_)
 refine c_T hk rfl ?_
 refine (wpIn_skip (x_t ?_))
 refine wS ?_
 refine wpIn_block ?_
 refine wS (wR ?_)
 refine q_v hk (w_mv rfl) fun a hk => ?_
 refine q_v hk (w_as rfl) fun a hk => ?_
 refine c_end (x_t (wS (wS (wR ?_))))
 refine q_v hk (w_mv rfl) fun a hk => ?_
 refine q_v hk (w_lt rfl rfl (decide_eq_true (by decide))) fun a hk => ?_
 refine c_end (x_t ?_)
 refine c_T hk rfl ?_
 refine wR ?_
 refine q_v hk (w_mv rfl) fun a hk => ?_
 refine q_v hk (w_add (r := 2) rfl rfl (by decide)) fun a hk => ?_
 refine q_v hk (w_iaA (k := 2) rfl rfl Tryz.underlying47 ty46 (by omega) (by omega)) fun a hk => ?_
 refine q_v hk (w_ld1 rfl ty46 (.blk (n := 1) (hs.mi 1 rfl) rfl)) fun a hk => ?_
 refine q_v hk (w_rem rfl rfl (by omega) (wmd (by omega))) fun a hk => ?_
 refine q_v hk (w_as rfl) fun a hk => ?_
 refine c_end (x_t (wR ?_))
 refine q_v hk (w_mv rfl) fun a hk => ?_
 refine q_v hk (w_mv rfl) fun a hk => ?_
 refine q_v hk (w_iaA (k := 1) rfl rfl Tryz.underlying47 ty46 (by omega) (by omega)) fun a hk => ?_
 refine q_v hk (w_ld1 rfl ty46 (.blk (n := 1) (hs.mi 1 rfl) rfl)) fun a hk => ?_
 refine q_v hk (w_quo rfl rfl (by omega) (wdvu64 (by omega) (by omega) (by omega))) fun a hk => ?_
 refine q_v hk (w_mv rfl) fun a hk => ?_
 refine q_v hk (w_mul rfl rfl (wru64 (by omega) (by omega))) fun a hk => ?_
 refine q_v hk (w_add rfl rfl (wru64 (by omega) (by omega))) fun a hk => ?_
 refine q_v hk (w_iaA (k := 1) rfl rfl Tryz.underlying47 ty46 (by omega) (by omega)) fun a hk => ?_
 refine q_sto (o := 1) (cs := [.int .u64 ((((dg 1 (addV a0 p) : Nat) : Int) / 2) + ((((dg 2 (addV a0 p) : Nat) : Int) % 2) * 9223372036854775808))]) (vs' := [.int .u64 ((((dg 0 (addV a0 p) : Nat) : Int) / 2) + ((((dg 1 (addV a0 p) : Nat) : Int) % 2) * 9223372036854775808)), .int .u64 ((((dg 1 (addV a0 p) : Nat) : Int) / 2) + ((((dg 2 (addV a0 p) : Nat) : Int) % 2) * 9223372036854775808)), .int .u64 0, .int .u64 0]) hk hs rfl rfl rfl ty46 rfl rfl rfl rfl rfl rfl fun w hs => ?_
 refine (c_end (x_b (x_t ?_)))
 refine wR ?_
 refine q_v hk (w_mv rfl) fun a hk => ?_
 refine q_v hk (w_add (r := 2) rfl rfl (by decide)) fun a hk => ?_
 refine q_v hk (w_as rfl) fun a hk => ?_
 refine c_end (x_t ?_)
 refine c_rsucc ?_
 refine wS (wS (wR ?_))
 refine q_v hk (w_mv rfl) fun a hk => ?_
 refine q_v hk (w_lt rfl rfl (decide_eq_true (by decide))) fun a hk => ?_
 refine c_end (x_t ?_)
 refine c_T hk rfl ?_
 refine (wpIn_skip (x_t ?_))
 refine wS ?_
 refine wpIn_block ?_
 refine wS (wR ?_)
 refine q_v hk (w_mv rfl) fun a hk => ?_
 refine q_v hk (w_as rfl) fun a hk => ?_
 refine c_end (x_t (wS (wS (wR ?_))))
 refine q_v hk (w_mv rfl) fun a hk => ?_
 refine q_v hk (w_lt rfl rfl (decide_eq_true (by decide))) fun a hk => ?_
 refine c_end (x_t ?_)
 refine c_T hk rfl ?_
 refine wR ?_
 refine q_v hk (w_mv rfl) fun a hk => ?_
 refine q_v hk (w_add (r := 3) rfl rfl (by decide)) fun a hk => ?_
 refine q_v hk (w_iaA (k := 3) rfl rfl Tryz.underlying47 ty46 (by omega) (by omega)) fun a hk => ?_
 refine q_v hk (w_ld1 rfl ty46 (.blk (n := 1) (hs.mi 1 rfl) rfl)) fun a hk => ?_
 refine q_v hk (w_rem rfl rfl (by omega) (wmd (by omega))) fun a hk => ?_
 refine q_v hk (w_as rfl) fun a hk => ?_
 refine c_end (x_t (wR ?_))
 refine q_v hk (w_mv rfl) fun a hk => ?_
 refine q_v hk (w_mv rfl) fun a hk => ?_
 refine q_v hk (w_iaA (k := 2) rfl rfl Tryz.underlying47 ty46 (by omega) (by omega)) fun a hk => ?_
 refine q_v hk (w_ld1 rfl ty46 (.blk (n := 1) (hs.mi 1 rfl) rfl)) fun a hk => ?_
 refine q_v hk (w_quo rfl rfl (by omega) (wdvu64 (by omega) (by omega) (by omega))) fun a hk => ?_
 refine q_v hk (w_mv rfl) fun a hk => ?_
 refine q_v hk (w_mul rfl rfl (wru64 (by omega) (by omega))) fun a hk => ?_
 refine q_v hk (w_add rfl rfl (wru64 (by omega) (by omega))) fun a hk => ?_
 refine q_v hk (w_iaA (k := 2) rfl rfl Tryz.underlying47 ty46 (by omega) (by omega)) fun a hk => ?_
 refine q_sto (o := 2) (cs := [.int .u64 ((((dg 2 (addV a0 p) : Nat) : Int) / 2) + ((((dg 3 (addV a0 p) : Nat) : Int) % 2) * 9223372036854775808))]) (vs' := [.int .u64 ((((dg 0 (addV a0 p) : Nat) : Int) / 2) + ((((dg 1 (addV a0 p) : Nat) : Int) % 2) * 9223372036854775808)), .int .u64 ((((dg 1 (addV a0 p) : Nat) : Int) / 2) + ((((dg 2 (addV a0 p) : Nat) : Int) % 2) * 9223372036854775808)), .int .u64 ((((dg 2 (addV a0 p) : Nat) : Int) / 2) + ((((dg 3 (addV a0 p) : Nat) : Int) % 2) * 9223372036854775808)), .int .u64 0]) hk hs rfl rfl rfl ty46 rfl rfl rfl rfl rfl rfl fun w hs => ?_
 refine (c_end (x_b (x_t ?_)))
 refine wR ?_
 refine q_v hk (w_mv rfl) fun a hk => ?_
 refine q_v hk (w_add (r := 3) rfl rfl (by decide)) fun a hk => ?_
 refine q_v hk (w_as rfl) fun a hk => ?_
 refine c_end (x_t ?_)
 refine c_rsucc ?_
 refine wS (wS (wR ?_))
 refine q_v hk (w_mv rfl) fun a hk => ?_
 refine q_v hk (w_lt rfl rfl (decide_eq_true (by decide))) fun a hk => ?_
 refine c_end (x_t ?_)
 refine c_T hk rfl ?_
 refine (wpIn_skip (x_t ?_))
 refine wS ?_
 refine wpIn_block ?_
 refine wS (wR ?_)
 refine q_v hk (w_mv rfl) fun a hk => ?_
 refine q_v hk (w_as rfl) fun a hk => ?_
 refine c_end (x_t (wS (wS (wR ?_))))
 refine q_v hk (w_mv rfl) fun a hk => ?_
 refine q_v hk (w_lt rfl rfl (decide_eq_false (by decide))) fun a hk => ?_
 refine c_end (x_t ?_)
 refine c_F hk rfl ?_
 refine (wpIn_skip (x_t ?_))
 refine wR ?_
 refine q_v hk (w_mv rfl) fun a hk => ?_
 refine q_v hk (w_mv rfl) fun a hk => ?_
 refine q_v hk (w_iaA (k := 3) rfl rfl Tryz.underlying47 ty46 (by omega) (by omega)) fun a hk => ?_
 refine q_v hk (w_ld1 rfl ty46 (.blk (n := 1) (hs.mi 1 rfl) rfl)) fun a hk => ?_
 refine q_v hk (w_quo rfl rfl (by omega) (wdvu64 (by omega) (by omega) (by omega))) fun a hk => ?_
 refine q_v hk (w_mv rfl) fun a hk => ?_
 refine q_v hk (w_mul rfl rfl (wru64 (by omega) (by omega))) fun a hk => ?_
 refine q_v hk (w_add rfl rfl (wru64 (by omega) (by omega))) fun a hk => ?_
 refine q_v hk (w_iaA (k := 3) rfl rfl Tryz.underlying47 ty46 (by omega) (by omega)) fun a hk => ?_
 refine q_sto (o := 3) (cs := [.int .u64 ((((dg 3 (addV a0 p) : Nat) : Int) / 2) + (((addC a0 p : Nat) : Int) * 9223372036854775808))]) (vs' := [.int .u64 ((((dg 0 (addV a0 p) : Nat) : Int) / 2) + ((((dg 1 (addV a0 p) : Nat) : Int) % 2) * 9223372036854775808)), .int .u64 ((((dg 1 (addV a0 p) : Nat) : Int) / 2) + ((((dg 2 (addV a0 p) : Nat) : Int) % 2) * 9223372036854775808)), .int .u64 ((((dg 2 (addV a0 p) : Nat) : Int) / 2) + ((((dg 3 (addV a0 p) : Nat) : Int) % 2) * 9223372036854775808)), .int .u64 ((((dg 3 (addV a0 p) : Nat) : Int) / 2) + (((addC a0 p : Nat) : Int) * 9223372036854775808))]) hk hs rfl rfl rfl ty46 rfl rfl rfl rfl rfl rfl fun w hs => ?_
 refine (c_end (x_b (x_t ?_)))
 refine wR ?_
 refine q_v hk (w_mv rfl) fun a hk => ?_
 refine q_v hk (w_add (r := 4) rfl rfl (by decide)) fun a hk => ?_
 refine q_v hk (w_as rfl) fun a hk => ?_
 refine c_end (x_t ?_)
 refine c_rsucc ?_
 refine wS (wS (wR ?_))
 refine q_v hk (w_mv rfl) fun a hk => ?_
 refine q_v hk (w_lt rfl rfl (decide_eq_false (by decide))) fun a hk => ?_
 refine c_end (x_t ?_)
 refine c_F hk rfl ?_
 refine (wpIn_exit (x_te (x_te (x_be ?_))))
 refine (x_t ?_)
 refine wS (wR ?_)
 refine q_v hk (w_ldA rfl ty47 (.blk (n := 4) (hs.mi 0 rfl) rfl) rfl) fun a hk => ?_
 have hs := hs.up2
 refine q_sto (o := 0) (cs := [.int .u64 ((((dg 0 (addV a0 p) : Nat) : Int) / 2) + ((((dg 1 (addV a0 p) : Nat) : Int) % 2) * 9223372036854775808)), .int .u64 ((((dg 1 (addV a0 p) : Nat) : Int) / 2) + ((((dg 2 (addV a0 p) : Nat) : Int) % 2) * 9223372036854775808)), .int .u64 ((((dg 2 (addV a0 p) : Nat) : Int) / 2) + ((((dg 3 (addV a0 p) : Nat) : Int) % 2) * 9223372036854775808)), .int .u64 ((((dg 3 (addV a0 p) : Nat) : Int) / 2) + (((addC a0 p : Nat) : Int) * 9223372036854775808))]) (vs' := [.int .u64 ((((dg 0 (addV a0 p) : Nat) : Int) / 2) + ((((dg 1 (addV a0 p) : Nat) : Int) % 2) * 9223372036854775808)), .int .u64 ((((dg 1 (addV a0 p) : Nat) : Int) / 2) + ((((dg 2 (addV a0 p) : Nat) : Int) % 2) * 9223372036854775808)), .int .u64 ((((dg 2 (addV a0 p) : Nat) : Int) / 2) + ((((dg 3 (addV a0 p) : Nat) : Int) % 2) * 9223372036854775808)), .int .u64 ((((dg 3 (addV a0 p) : Nat) : Int) / 2) + (((addC a0 p : Nat) : Int) * 9223372036854775808))]) hk hs rfl rfl rfl ty47 rfl rfl rfl rfl rfl rfl fun w hs => ?_
 refine c_end (x_t ?_)
 refine (wpIn_ret ?_)
 refine c_retG (vs := [.agg #[.int .u64 ((((dg 0 (addV a0 p) : Nat) : Int) / 2) + ((((dg 1 (addV a0 p) : Nat) : Int) % 2) * 9223372036854775808)), .int .u64 ((((dg 1 (addV a0 p) : Nat) : Int) / 2) + ((((dg 2 (addV a0 p) : Nat) : Int) % 2) * 9223372036854775808)), .int .u64 ((((dg 2 (addV a0 p) : Nat) : Int) / 2) + ((((dg 3 (addV a0 p) : Nat) : Int) % 2) * 9223372036854775808)), .int .u64 ((((dg 3 (addV a0 p) : Nat) : Int) / 2) + (((addC a0 p : Nat) : Int) * 9223372036854775808))]]) hk rfl ⟨⟨_, rfl, lv_A ty47 (.blk (n := 4) (hs.mi 0 rfl) rfl) rfl⟩, trivial⟩ rfl ?_
 refine ⟨?_, hs.toBelow⟩
 have hv := half_vec (a := addV a0 p) (t := addC a0 p) hlt (by omega)
 unfold halfm
 rw [if_pos h, ← addV_split, hv]
 simp [valq]
set_option maxRecDepth 100000 in
theorem halve_even (p a0 : Nat) (W : World) (hp : p < R4) (ha : a0 < R4) (h : ¬ a0 % 2 = 1) : Calls Tryz.prog 104 [vec p, vec a0].toArray W fun e w => e = .returned (vec (halfm p a0)) ∧ Below W.heap.size W w := by
 have hm := dg0_odd a0
 have hlt : a0 < R4 := ha
 have hd0 := dg_lt64 0 (a0)
 have hd1 := dg_lt64 1 (a0)
 have hd2 := dg_lt64 2 (a0)
 have hd3 := dg_lt64 3 (a0)
 have hd4 := dg_lt64 0 a0
 refine c_enter (args := [vec p, vec a0]) Tryz.func104 rfl rfl rfl fun a hk => ?_
 have hs := Sat.start W [] (fun _ h => by cases h)
 refine wS (wR ?_)
 refine q_box (vs := [.int .u64 ((dg 0 p : Nat) : Int), .int .u64 ((dg 1 p : Nat) : Int), .int .u64 ((dg 2 p : Nat) : Int), .int .u64 ((dg 3 p : Nat) : Int)]) hk hs rfl rfl rfl rfl fun b1 w a hk hs => ?_
 refine q_box (vs := [.int .u64 ((dg 0 a0 : Nat) : Int), .int .u64 ((dg 1 a0 : Nat) : Int), .int .u64 ((dg 2 a0 : Nat) : Int), .int .u64 ((dg 3 a0 : Nat) : Int)]) hk hs rfl rfl rfl rfl fun b2 w a hk hs => ?_
 refine q_alc (vs := [.int .u64 0, .int .u64 0, .int .u64 0, .int .u64 0]) hk hs zr47 rfl rfl rfl fun b3 w a hk hs => ?_
 refine c_end (x_t (wS (wR ?_)))
 refine q_v hk (w_as rfl) fun a hk => ?_
 refine c_end (x_t (wS (wS (wR ?_))))
 refine q_v hk (w_iaA (k := 0) rfl rfl Tryz.underlying47 ty46 (by omega) (by omega)) fun a hk => ?_
 refine q_v hk (w_ld1 rfl ty46 (.blk (n := 1) (hs.mi 1 rfl) rfl)) fun a hk => ?_
 refine q_v hk (w_rem rfl rfl (by omega) (wmd (by omega))) fun a hk => ?_
 refine q_v hk (w_eq rfl rfl (decide_eq_false (by omega))) fun a hk => ?_
 refine c_end (x_t ?_)
 refine c_F hk rfl ?_
 refine (wpIn_skip (x_t ?_))
 refine wS (wR ?_)
 refine q_alc (vs := [.int .u64 0, .int .u64 0, .int .u64 0, .int .u64 0]) hk hs zr47 rfl rfl rfl fun b4 w a hk hs => ?_
 refine c_end (x_t (wS (wS (wR ?_))))
 refine q_v hk (w_as rfl) fun a hk => ?_
 refine c_end (x_t ?_)
 refine wpIn_block ?_
 refine c_rounds 5 ?_
 refine c_rsucc ?_
 refine wS (wS (wR ?_))
 refine q_v hk (w_mv rfl) fun a hk => ?_
 refine q_v hk (w_lt rfl rfl (decide_eq_true (by decide))) fun a hk => ?_
 refine c_end (x_t ?_)
 refine c_T hk rfl ?_
 refine (wpIn_skip (x_t ?_))
 refine wS ?_
 refine wpIn_block ?_
 refine wS (wR ?_)
 refine q_v hk (w_mv rfl) fun a hk => ?_
 refine q_v hk (w_as rfl) fun a hk => ?_
 refine c_end (x_t (wS (wS (wR ?_))))
 refine q_v hk (w_mv rfl) fun a hk => ?_
 refine q_v hk (w_lt rfl rfl (decide_eq_true (by decide))) fun a hk => ?_
 refine c_end (x_t ?_)
 refine c_T hk rfl ?_
 refine wR ?_
 refine q_v hk (w_mv rfl) fun a hk => ?_
 refine q_v hk (w_add (r := 1) rfl rfl (by decide)) fun a hk => ?_
 refine q_v hk (w_iaA (k := 1) rfl rfl Tryz.underlying47 ty46 (by omega) (by omega)) fun a hk => ?_
 refine q_v hk (w_ld1 rfl ty46 (.blk (n := 1) (hs.mi 2 rfl) rfl)) fun a hk => ?_
 refine q_v hk (w_rem rfl rfl (by omega) (wmd (by omega))) fun a hk => ?_
 refine q_v hk (w_as rfl) fun a hk => ?_
 refine c_end (x_t (wR ?_))
 refine q_v hk (w_mv rfl) fun a hk => ?_
 refine q_v hk (w_mv rfl) fun a hk => ?_
 refine q_v hk (w_iaA (k := 0) rfl rfl Tryz.underlying47 ty46 (by omega) (by omega)) fun a hk => ?_
 refine q_v hk (w_ld1 rfl ty46 (.blk (n := 1) (hs.mi 2 rfl) rfl)) fun a hk => ?_
 refine q_v hk (w_quo rfl rfl (by omega) (wdvu64 (by omega) (by omega) (by omega))) fun a hk => ?_
 refine q_v hk (w_mv rfl) fun a hk => ?_
 refine q_v hk (w_mul rfl rfl (wru64 (by omega) (by omega))) fun a hk => ?_
 refine q_v hk (w_add rfl rfl (wru64 (by omega) (by omega))) fun a hk => ?_
 refine q_v hk (w_iaA (k := 0) rfl rfl Tryz.underlying47 ty46 (by omega) (by omega)) fun a hk => ?_
 refine q_sto (o := 0) (cs := [.int .u64 ((((dg 0 a0 : Nat) : Int) / 2) + ((((dg 1 a0 : Nat) : Int) % 2) * 9223372036854775808))]) (vs' := [.int .u64 ((((dg 0 a0 : Nat) : Int) / 2) + ((((dg 1 a0 : Nat) : Int) % 2) * 9223372036854775808)), .int .u64 0, .int .u64 0, .int .u64 0]) hk hs rfl rfl rfl ty46 rfl rfl rfl rfl rfl rfl fun w hs => ?_
 refine (c_end (x_b (x_t ?_)))
 refine wR ?_
 refine q_v hk (w_mv rfl) fun a hk => ?_
 refine q_v hk (w_add (r := 1) rfl rfl (by decide)) fun a hk => ?_
 refine q_v hk (w_as rfl) fun a hk => ?_
 refine c_end (x_t ?_)
 refine c_rsucc ?_
 refine wS (wS (wR ?_))
 refine q_v hk (w_mv rfl) fun a hk => ?_
 refine q_v hk (w_lt rfl rfl (decide_eq_true (by decide))) fun a hk => ?_
 refine c_end (x_t ?_)
 refine c_T hk rfl ?_
 refine (wpIn_skip (x_t ?_))
 refine wS ?_
 refine wpIn_block ?_
 refine wS (wR ?_)
 refine q_v hk (w_mv rfl) fun a hk => ?_
 refine q_v hk (w_as rfl) fun a hk => ?_
 refine c_end (x_t (wS (wS (wR ?_))))
 refine q_v hk (w_mv rfl) fun a hk => ?_
 refine q_v hk (w_lt rfl rfl (decide_eq_true (by decide))) fun a hk => ?_
 refine c_end (x_t ?_)
 refine c_T hk rfl ?_
 refine wR ?_
 refine q_v hk (w_mv rfl) fun a hk => ?_
 refine q_v hk (w_add (r := 2) rfl rfl (by decide)) fun a hk => ?_
 refine q_v hk (w_iaA (k := 2) rfl rfl Tryz.underlying47 ty46 (by omega) (by omega)) fun a hk => ?_
 refine q_v hk (w_ld1 rfl ty46 (.blk (n := 1) (hs.mi 2 rfl) rfl)) fun a hk => ?_
 refine q_v hk (w_rem rfl rfl (by omega) (wmd (by omega))) fun a hk => ?_
 refine q_v hk (w_as rfl) fun a hk => ?_
 refine c_end (x_t (wR ?_))
 refine q_v hk (w_mv rfl) fun a hk => ?_
 refine q_v hk (w_mv rfl) fun a hk => ?_
 refine q_v hk (w_iaA (k := 1) rfl rfl Tryz.underlying47 ty46 (by omega) (by omega)) fun a hk => ?_
 refine q_v hk (w_ld1 rfl ty46 (.blk (n := 1) (hs.mi 2 rfl) rfl)) fun a hk => ?_
 refine q_v hk (w_quo rfl rfl (by omega) (wdvu64 (by omega) (by omega) (by omega))) fun a hk => ?_
 refine q_v hk (w_mv rfl) fun a hk => ?_
 refine q_v hk (w_mul rfl rfl (wru64 (by omega) (by omega))) fun a hk => ?_
 refine q_v hk (w_add rfl rfl (wru64 (by omega) (by omega))) fun a hk => ?_
 refine q_v hk (w_iaA (k := 1) rfl rfl Tryz.underlying47 ty46 (by omega) (by omega)) fun a hk => ?_
 refine q_sto (o := 1) (cs := [.int .u64 ((((dg 1 a0 : Nat) : Int) / 2) + ((((dg 2 a0 : Nat) : Int) % 2) * 9223372036854775808))]) (vs' := [.int .u64 ((((dg 0 a0 : Nat) : Int) / 2) + ((((dg 1 a0 : Nat) : Int) % 2) * 9223372036854775808)), .int .u64 ((((dg 1 a0 : Nat) : Int) / 2) + ((((dg 2 a0 : Nat) : Int) % 2) * 9223372036854775808)), .int .u64 0, .int .u64 0]) hk hs rfl rfl rfl ty46 rfl rfl rfl rfl rfl rfl fun w hs => ?_
 refine (c_end (x_b (x_t ?_)))
 refine wR ?_
 refine q_v hk (w_mv rfl) fun a hk => ?_
 refine q_v hk (w_add (r := 2) rfl rfl (by decide)) fun a hk => ?_
 refine q_v hk (w_as rfl) fun a hk => ?_
 refine c_end (x_t ?_)
 refine c_rsucc ?_
 refine wS (wS (wR ?_))
 refine q_v hk (w_mv rfl) fun a hk => ?_
 refine q_v hk (w_lt rfl rfl (decide_eq_true (by decide))) fun a hk => ?_
 refine c_end (x_t ?_)
 refine c_T hk rfl ?_
 refine (wpIn_skip (x_t ?_))
 refine wS ?_
 refine wpIn_block ?_
 refine wS (wR ?_)
 refine q_v hk (w_mv rfl) fun a hk => ?_
 refine q_v hk (w_as rfl) fun a hk => ?_
 refine c_end (x_t (wS (wS (wR ?_))))
 refine q_v hk (w_mv rfl) fun a hk => ?_
 refine q_v hk (w_lt rfl rfl (decide_eq_true (by decide))) fun a hk => ?_
 refine c_end (x_t ?_)
 refine c_T hk rfl ?_
 refine wR ?_
 refine q_v hk (w_mv rfl) fun a hk => ?_
 refine q_v hk (w_add (r := 3) rfl rfl (by decide)) fun a hk => ?_
 refine q_v hk (w_iaA (k := 3) rfl rfl Tryz.underlying47 ty46 (by omega) (by omega)) fun a hk => ?_
 refine q_v hk (w_ld1 rfl ty46 (.blk (n := 1) (hs.mi 2 rfl) rfl)) fun a hk => ?_
 refine q_v hk (w_rem rfl rfl (by omega) (wmd (by omega))) fun a hk => ?_
 refine q_v hk (w_as rfl) fun a hk => ?_
 refine c_end (x_t (wR ?_))
 refine q_v hk (w_mv rfl) fun a hk => ?_
 refine q_v hk (w_mv rfl) fun a hk => ?_
 refine q_v hk (w_iaA (k := 2) rfl rfl Tryz.underlying47 ty46 (by omega) (by omega)) fun a hk => ?_
 refine q_v hk (w_ld1 rfl ty46 (.blk (n := 1) (hs.mi 2 rfl) rfl)) fun a hk => ?_
 refine q_v hk (w_quo rfl rfl (by omega) (wdvu64 (by omega) (by omega) (by omega))) fun a hk => ?_
 refine q_v hk (w_mv rfl) fun a hk => ?_
 refine q_v hk (w_mul rfl rfl (wru64 (by omega) (by omega))) fun a hk => ?_
 refine q_v hk (w_add rfl rfl (wru64 (by omega) (by omega))) fun a hk => ?_
 refine q_v hk (w_iaA (k := 2) rfl rfl Tryz.underlying47 ty46 (by omega) (by omega)) fun a hk => ?_
 refine q_sto (o := 2) (cs := [.int .u64 ((((dg 2 a0 : Nat) : Int) / 2) + ((((dg 3 a0 : Nat) : Int) % 2) * 9223372036854775808))]) (vs' := [.int .u64 ((((dg 0 a0 : Nat) : Int) / 2) + ((((dg 1 a0 : Nat) : Int) % 2) * 9223372036854775808)), .int .u64 ((((dg 1 a0 : Nat) : Int) / 2) + ((((dg 2 a0 : Nat) : Int) % 2) * 9223372036854775808)), .int .u64 ((((dg 2 a0 : Nat) : Int) / 2) + ((((dg 3 a0 : Nat) : Int) % 2) * 9223372036854775808)), .int .u64 0]) hk hs rfl rfl rfl ty46 rfl rfl rfl rfl rfl rfl fun w hs => ?_
 refine (c_end (x_b (x_t ?_)))
 refine wR ?_
 refine q_v hk (w_mv rfl) fun a hk => ?_
 refine q_v hk (w_add (r := 3) rfl rfl (by decide)) fun a hk => ?_
 refine q_v hk (w_as rfl) fun a hk => ?_
 refine c_end (x_t ?_)
 refine c_rsucc ?_
 refine wS (wS (wR ?_))
 refine q_v hk (w_mv rfl) fun a hk => ?_
 refine q_v hk (w_lt rfl rfl (decide_eq_true (by decide))) fun a hk => ?_
 refine c_end (x_t ?_)
 refine c_T hk rfl ?_
 refine (wpIn_skip (x_t ?_))
 refine wS ?_
 refine wpIn_block ?_
 refine wS (wR ?_)
 refine q_v hk (w_mv rfl) fun a hk => ?_
 refine q_v hk (w_as rfl) fun a hk => ?_
 refine c_end (x_t (wS (wS (wR ?_))))
 refine q_v hk (w_mv rfl) fun a hk => ?_
 refine q_v hk (w_lt rfl rfl (decide_eq_false (by decide))) fun a hk => ?_
 refine c_end (x_t ?_)
 refine c_F hk rfl ?_
 refine (wpIn_skip (x_t ?_))
 refine wR ?_
 refine q_v hk (w_mv rfl) fun a hk => ?_
 refine q_v hk (w_mv rfl) fun a hk => ?_
 refine q_v hk (w_iaA (k := 3) rfl rfl Tryz.underlying47 ty46 (by omega) (by omega)) fun a hk => ?_
 refine q_v hk (w_ld1 rfl ty46 (.blk (n := 1) (hs.mi 2 rfl) rfl)) fun a hk => ?_
 refine q_v hk (w_quo rfl rfl (by omega) (wdvu64 (by omega) (by omega) (by omega))) fun a hk => ?_
 refine q_v hk (w_mv rfl) fun a hk => ?_
 refine q_v hk (w_mul (r := 0) rfl rfl (by decide)) fun a hk => ?_
 refine q_v hk (w_add rfl rfl (wru64 (by omega) (by omega))) fun a hk => ?_
 refine q_v hk (w_iaA (k := 3) rfl rfl Tryz.underlying47 ty46 (by omega) (by omega)) fun a hk => ?_
 refine q_sto (o := 3) (cs := [.int .u64 ((((dg 3 a0 : Nat) : Int) / 2) + 0)]) (vs' := [.int .u64 ((((dg 0 a0 : Nat) : Int) / 2) + ((((dg 1 a0 : Nat) : Int) % 2) * 9223372036854775808)), .int .u64 ((((dg 1 a0 : Nat) : Int) / 2) + ((((dg 2 a0 : Nat) : Int) % 2) * 9223372036854775808)), .int .u64 ((((dg 2 a0 : Nat) : Int) / 2) + ((((dg 3 a0 : Nat) : Int) % 2) * 9223372036854775808)), .int .u64 ((((dg 3 a0 : Nat) : Int) / 2) + 0)]) hk hs rfl rfl rfl ty46 rfl rfl rfl rfl rfl rfl fun w hs => ?_
 refine (c_end (x_b (x_t ?_)))
 refine wR ?_
 refine q_v hk (w_mv rfl) fun a hk => ?_
 refine q_v hk (w_add (r := 4) rfl rfl (by decide)) fun a hk => ?_
 refine q_v hk (w_as rfl) fun a hk => ?_
 refine c_end (x_t ?_)
 refine c_rsucc ?_
 refine wS (wS (wR ?_))
 refine q_v hk (w_mv rfl) fun a hk => ?_
 refine q_v hk (w_lt rfl rfl (decide_eq_false (by decide))) fun a hk => ?_
 refine c_end (x_t ?_)
 refine c_F hk rfl ?_
 refine (wpIn_exit (x_te (x_te (x_be ?_))))
 refine (x_t ?_)
 refine wS (wR ?_)
 refine q_v hk (w_ldA rfl ty47 (.blk (n := 4) (hs.mi 0 rfl) rfl) rfl) fun a hk => ?_
 have hs := hs.up1
 refine q_sto (o := 0) (cs := [.int .u64 ((((dg 0 a0 : Nat) : Int) / 2) + ((((dg 1 a0 : Nat) : Int) % 2) * 9223372036854775808)), .int .u64 ((((dg 1 a0 : Nat) : Int) / 2) + ((((dg 2 a0 : Nat) : Int) % 2) * 9223372036854775808)), .int .u64 ((((dg 2 a0 : Nat) : Int) / 2) + ((((dg 3 a0 : Nat) : Int) % 2) * 9223372036854775808)), .int .u64 ((((dg 3 a0 : Nat) : Int) / 2) + 0)]) (vs' := [.int .u64 ((((dg 0 a0 : Nat) : Int) / 2) + ((((dg 1 a0 : Nat) : Int) % 2) * 9223372036854775808)), .int .u64 ((((dg 1 a0 : Nat) : Int) / 2) + ((((dg 2 a0 : Nat) : Int) % 2) * 9223372036854775808)), .int .u64 ((((dg 2 a0 : Nat) : Int) / 2) + ((((dg 3 a0 : Nat) : Int) % 2) * 9223372036854775808)), .int .u64 ((((dg 3 a0 : Nat) : Int) / 2) + 0)]) hk hs rfl rfl rfl ty47 rfl rfl rfl rfl rfl rfl fun w hs => ?_
 refine c_end (x_t ?_)
 refine (wpIn_ret ?_)
 refine c_retG (vs := [.agg #[.int .u64 ((((dg 0 a0 : Nat) : Int) / 2) + ((((dg 1 a0 : Nat) : Int) % 2) * 9223372036854775808)), .int .u64 ((((dg 1 a0 : Nat) : Int) / 2) + ((((dg 2 a0 : Nat) : Int) % 2) * 9223372036854775808)), .int .u64 ((((dg 2 a0 : Nat) : Int) / 2) + ((((dg 3 a0 : Nat) : Int) % 2) * 9223372036854775808)), .int .u64 ((((dg 3 a0 : Nat) : Int) / 2) + 0)]]) hk rfl ⟨⟨_, rfl, lv_A ty47 (.blk (n := 4) (hs.mi 0 rfl) rfl) rfl⟩, trivial⟩ rfl ?_
 refine ⟨?_, hs.toBelow⟩
 have hv := half_vec (a := a0) (t := 0) hlt (by omega)
 unfold halfm
 rw [if_neg h, show a0 / 2 = (a0 + 0 * R4) / 2 by rw [Nat.zero_mul, Nat.add_zero], hv]
 simp [valq]
theorem halve_c (p a0 : Nat) (hp : p < R4) (ha : a0 < R4) (W : World) : Calls Tryz.prog 104 #[vec p, vec a0] W fun e w => e = .returned (vec (halfm p a0)) ∧ Below W.heap.size W w := by
  by_cases h : a0 % 2 = 1
  · exact halve_odd p a0 W hp ha h
  · exact halve_even p a0 W hp ha h
set_option maxRecDepth 100000 in
theorem refValue_c (s : Bool) (a0 : Nat) (W : World) (ha : a0 < pr s) : Calls Tryz.prog 58 [vec (pr s), vec a0].toArray W fun e w => e = .returned (vec (valm s a0)) ∧ Below W.heap.size W w := by
 refine c_enter (args := [vec (pr s), vec a0]) Tryz.func58 rfl rfl rfl fun a hk => ?_
 have hs := Sat.start W [] (fun _ h => by cases h)
 refine wS (wR ?_)
 refine q_box (vs := [.int .u64 ((dg 0 (pr s) : Nat) : Int), .int .u64 ((dg 1 (pr s) : Nat) : Int), .int .u64 ((dg 2 (pr s) : Nat) : Int), .int .u64 ((dg 3 (pr s) : Nat) : Int)]) hk hs rfl rfl rfl rfl fun b1 w a hk hs => ?_
 refine q_box (vs := [.int .u64 ((dg 0 a0 : Nat) : Int), .int .u64 ((dg 1 a0 : Nat) : Int), .int .u64 ((dg 2 a0 : Nat) : Int), .int .u64 ((dg 3 a0 : Nat) : Int)]) hk hs rfl rfl rfl rfl fun b2 w a hk hs => ?_
 refine q_alc (vs := [.int .u64 0, .int .u64 0, .int .u64 0, .int .u64 0]) hk hs zr47 rfl rfl rfl fun b3 w a hk hs => ?_
 refine c_end (x_t (wS (wS (wR ?_))))
 refine q_v hk (w_as rfl) fun a hk => ?_
 refine c_end (x_t ?_)
 refine wpIn_block ?_
 refine c_loop (α := Nat) (fun k a w => k ≤ 256 ∧ Kn [] 14 [(5, .int .i64 (k : Int)), (4, .pointer (some ⟨b3, 0, none⟩)), (3, .pointer (some ⟨b2, 0, none⟩)), (2, .pointer (some ⟨b1, 0, none⟩))] a ∧ Sat no W [blk b3 [.int .u64 0, .int .u64 0, .int .u64 0, .int .u64 0] 47, blk b2 [.int .u64 ((dg 0 (halves (pr s) a0 k) : Nat) : Int), .int .u64 ((dg 1 (halves (pr s) a0 k) : Nat) : Int), .int .u64 ((dg 2 (halves (pr s) a0 k) : Nat) : Int), .int .u64 ((dg 3 (halves (pr s) a0 k) : Nat) : Int)] 47, blk b1 [.int .u64 ((dg 0 (pr s) : Nat) : Int), .int .u64 ((dg 1 (pr s) : Nat) : Int), .int .u64 ((dg 2 (pr s) : Nat) : Int), .int .u64 ((dg 3 (pr s) : Nat) : Int)] 47] [] w) (fun k => 256 - k) 0 ?_ ?_
 · exact ⟨(by omega), hk.k rfl (hk.k rfl (hk.k rfl (hk.k rfl hk.nil))), hs⟩
 rintro k a w ⟨hf0, hk, hs⟩
 refine wS (wS (wR ?_))
 refine q_v hk (w_mv rfl) fun a hk => ?_
 rcases Classical.em ((k : Int) < 256) with hc4 | hc4
 ·
  refine q_v hk (w_lt rfl rfl (decide_eq_true hc4)) fun a hk => ?_
  refine c_end (x_t ?_)
  refine c_T hk rfl ?_
  refine (wpIn_skip (x_t ?_))
  refine wS ?_
  refine wpIn_block ?_
  refine wR ?_
  refine q_v hk (w_ldv (z := pr s) rfl ty47 (.blk (n := 4) (hs.mi 2 rfl) rfl)) fun a hk => ?_
  refine q_v hk (w_ldv (z := (halves (pr s) a0 k)) rfl ty47 (.blk (n := 4) (hs.mi 1 rfl) rfl)) fun a hk => ?_
  refine q_call (caps := []) hk rfl rfl Tryz.func104 fo104 rfl rfl (halve_c (pr s) (halves (pr s) a0 k) (pr_lt s) (Nat.lt_trans (halves_lt (pr_odd s) ha k) (pr_lt s)) _) ?_
  rintro _ w ⟨rfl, hb⟩
  have hs := hs.below hb
  refine ⟨_, rfl, fun a hk => ?_⟩
  have hs := hs.up1
  refine q_sto (o := 0) (cs := [.int .u64 ((dg 0 (halfm (pr s) (halves (pr s) a0 k)) : Nat) : Int), .int .u64 ((dg 1 (halfm (pr s) (halves (pr s) a0 k)) : Nat) : Int), .int .u64 ((dg 2 (halfm (pr s) (halves (pr s) a0 k)) : Nat) : Int), .int .u64 ((dg 3 (halfm (pr s) (halves (pr s) a0 k)) : Nat) : Int)]) (vs' := [.int .u64 ((dg 0 (halfm (pr s) (halves (pr s) a0 k)) : Nat) : Int), .int .u64 ((dg 1 (halfm (pr s) (halves (pr s) a0 k)) : Nat) : Int), .int .u64 ((dg 2 (halfm (pr s) (halves (pr s) a0 k)) : Nat) : Int), .int .u64 ((dg 3 (halfm (pr s) (halves (pr s) a0 k)) : Nat) : Int)]) hk hs rfl rfl rfl ty47 rfl rfl rfl rfl rfl rfl fun w hs => ?_
  refine (c_end (x_b (x_t ?_)))
  refine wR ?_
  refine q_v hk (w_mv rfl) fun a hk => ?_
  refine q_v hk (w_add rfl rfl (wr64 (by omega) (by omega))) fun a hk => ?_
  refine q_v hk (w_as rfl) fun a hk => ?_
  refine c_end (x_t ?_)
  have hs := hs.up2
  have hs := hs.up1
  have hs := hs.up2
  exact ⟨k + 1, ⟨(by omega), hk.k rfl (hk.k rfl (hk.k rfl (hk.k rfl hk.nil))), hs⟩, by omega⟩
 ·
  obtain rfl : 256 = k := by omega
  refine q_v hk (w_lt rfl rfl (decide_eq_false hc4)) fun a hk => ?_
  refine c_end (x_t ?_)
  refine c_F hk rfl ?_
  refine (wpIn_exit (x_te (x_te (x_be ?_))))
  refine (x_t ?_)
  refine wS (wR ?_)
  refine q_v hk (w_ldv (z := (halves (pr s) a0 256)) rfl ty47 (.blk (n := 4) (hs.mi 1 rfl) rfl)) fun a hk => ?_
  refine q_sto (o := 0) (cs := [.int .u64 ((dg 0 (halves (pr s) a0 256) : Nat) : Int), .int .u64 ((dg 1 (halves (pr s) a0 256) : Nat) : Int), .int .u64 ((dg 2 (halves (pr s) a0 256) : Nat) : Int), .int .u64 ((dg 3 (halves (pr s) a0 256) : Nat) : Int)]) (vs' := [.int .u64 ((dg 0 (halves (pr s) a0 256) : Nat) : Int), .int .u64 ((dg 1 (halves (pr s) a0 256) : Nat) : Int), .int .u64 ((dg 2 (halves (pr s) a0 256) : Nat) : Int), .int .u64 ((dg 3 (halves (pr s) a0 256) : Nat) : Int)]) hk hs rfl rfl rfl ty47 rfl rfl rfl rfl rfl rfl fun w hs => ?_
  refine c_end (x_t ?_)
  refine (wpIn_ret ?_)
  refine c_retG (vs := [vec (halves (pr s) a0 256)]) hk rfl ⟨⟨_, rfl, lv_A ty47 (.blk (n := 4) (hs.mi 0 rfl) rfl) rfl⟩, trivial⟩ rfl ?_
  exact ⟨by rw [← halves_val s ha]; rfl, hs.toBelow⟩
end Go.Proofs.YtdnkkbmpefhbjaaGreatDoor
namespace Go.Proofs.YtdnkkbmpefhbjaaGreatDoor
set_option linter.all false
open Go Go.RowKit
abbrev fieldZ : Value := .agg #[.int .i64 0, .int .u64 0, .int .u64 0, .int .u64 0, .int .u64 0, .int .u64 0, .int .u64 0, .int .u64 0, .int .u64 0, .int .u64 0, .int .u64 0, .int .u64 0, .int .u64 0, .int .u64 0]
set_option maxRecDepth 100000 in
set_option maxHeartbeats 1000000 in
theorem getBad_c (F : Int) (h1 : F ≠ 1) (h2 : F ≠ 2) (w : World) (hL : Laid w) :
    Calls Tryz.prog 85 #[.int .i64 F] w fun e w' => e = .returned (.tuple #[fieldZ, .int .i64 3]) ∧ Below w.heap.size w w' := by
  have i0 := index0
  have i1 := index1
  have q1 : (fid false == F) = false := by rw [beq_eq_false_iff_ne]; exact h1.symm
  have q2 : (fid true == F) = false := by rw [beq_eq_false_iff_ne]; exact h2.symm
  have hg : ∀ o j v, fieldCells[j]? = some v → (w.alloc o).cell? ⟨0, j, none⟩ = some v := fun o => (hL.step ((Below.refl _ _).alloc (Nat.le_refl _) _))
  have Hg := Lib.hid hg
  clear hg h1 h2
  go_enter Tryz.func85, Tryz.ntmps85
  go_wp2_with (refine wpList_load_cells rfl 168 (.global 0) rfl 0 rfl fieldCells _ (Hg.out _) Tryz.underlying168 rfl (by kernel_rfl) ?_; simp only [Act.put, List.setIfInBounds_toArray, List.set_cons_zero, List.set_cons_succ])
  refine wp_loop_rounds 3 ?_
  rw [rounds_succ]
  go_wp2_with fail
  rw [rounds_succ]
  go_wp2_with fail
  rw [rounds_succ]
  go_wp2_with fail
  refine bodyPost_ret (v := .tuple #[fieldZ, .int .i64 3]) (by simp only [results, Tryz.results85]; go_simp) rfl ⟨rfl, ?_⟩
  repeat first
    | with_reducible exact Below.refl _ _
    | with_reducible refine Below.drew ?_
    | with_reducible refine below_dN ?_
    | with_reducible refine Below.alloc ?_ (by first | omega | (simp; done) | (simp; omega)) _
    | with_reducible refine Below.setCell ?_ (by first | omega | (simp; done) | (simp; omega)) _
    | with_reducible refine Below.trans ?_ (Below.mono (by assumption) (by first | omega | (simp; done) | (simp; omega)))
theorem fid_or (s : Bool) : fid s = 1 ∨ fid s = 2 := by cases s <;> decide
theorem fid_dec (s : Bool) : decide (fid s = 2) = s := by cases s <;> decide
theorem between_t (x lo hi : Int) (w : World) (h : lo ≤ x ∧ x ≤ hi) : Calls Tryz.prog 136 #[.int .i64 x, .int .i64 lo, .int .i64 hi] w fun e w' => e = .returned (.bool true) ∧ w = w' := by
  obtain ⟨h1, h2⟩ := h
  have q1 : decide (lo ≤ x) = true := decide_eq_true h1
  have q2 : decide (x ≤ hi) = true := decide_eq_true h2
  go_enter Tryz.func136, Tryz.ntmps136
  go_wp2
  go_ret
  exact ⟨rfl, rfl⟩
theorem between_f (x lo hi : Int) (w : World) (h : ¬ (lo ≤ x ∧ x ≤ hi)) : Calls Tryz.prog 136 #[.int .i64 x, .int .i64 lo, .int .i64 hi] w fun e w' => e = .returned (.bool false) ∧ w = w' := by
  by_cases h1 : lo ≤ x
  · have h2 : ¬ x ≤ hi := fun h2 => h ⟨h1, h2⟩
    have q1 : decide (lo ≤ x) = true := decide_eq_true h1
    have q2 : decide (x ≤ hi) = false := decide_eq_false h2
    clear h h2
    go_enter Tryz.func136, Tryz.ntmps136
    go_wp2
    go_ret
    exact ⟨rfl, rfl⟩
  · have q1 : decide (lo ≤ x) = false := decide_eq_false h1
    clear h h1
    go_enter Tryz.func136, Tryz.ntmps136
    go_wp2
    go_ret
    exact ⟨rfl, rfl⟩
theorem known_t (x : Int) (w : World) (h : x = 1 ∨ x = 2) : Calls Tryz.prog 102 #[.int .i64 x] w fun e w' => e = .returned (.bool true) ∧ w = w' := by
  rcases h with rfl | rfl
  all_goals
    go_enter Tryz.func102, Tryz.ntmps102
    go_wp2
    go_ret
    exact ⟨rfl, rfl⟩
theorem known_f (x : Int) (w : World) (h : ¬ (x = 1 ∨ x = 2)) : Calls Tryz.prog 102 #[.int .i64 x] w fun e w' => e = .returned (.bool false) ∧ w = w' := by
  have h1 : (x == 1) = false := by rw [beq_eq_false_iff_ne]; exact fun e => h (.inl e)
  have h2 : (x == 2) = false := by rw [beq_eq_false_iff_ne]; exact fun e => h (.inr e)
  clear h
  go_enter Tryz.func102, Tryz.ntmps102
  go_wp2
  go_ret
  exact ⟨rfl, rfl⟩
end Go.Proofs.YtdnkkbmpefhbjaaGreatDoor
namespace Go.Proofs.YtdnkkbmpefhbjaaGreatDoor
set_option linter.all false
open Go Go.RowKit
/-- Are the first n numbers less than the modulus? -/
def okB (s : Bool) (X : Nat → Nat) (n : Nat) : Bool := (List.range n).all fun i => decide (X i < pr s)
theorem okB_succ (s : Bool) (X : Nat → Nat) (k : Nat) : okB s X (k + 1) = (okB s X k && decide (X k < pr s)) := by simp [okB, List.range_succ]
theorem okB_at {s : Bool} {X : Nat → Nat} {n : Nat} (h : okB s X n = true) {i : Nat} (hi : i < n) : X i < pr s := by
  have := List.all_eq_true.1 h i (List.mem_range.2 hi)
  simpa using this
theorem okB_of {s : Bool} {X : Nat → Nat} {n : Nat} (h : ∀ i, i < n → X i < pr s) : okB s X n = true := List.all_eq_true.2 fun i hi => by simpa using h i (List.mem_range.1 hi)
theorem contAm (s : Bool) (x : Nat) (hx : x < R4) (w : World) : Calls Tryz.prog 137 #[fieldV s, vec x] w fun e w' => e = .returned (.int .u64 (am (decide (x < pr s)))) ∧ Below w.heap.size w w' := by
  by_cases h : x < pr s
  · rw [decide_eq_true h]; exact containsT_c s x h w
  · rw [decide_eq_false h]; exact containsF_c s x hx h w
/-- The error of a share. -/
def shErr (F T I L : Int) (n : Nat) (X : Nat → Nat) : Int :=
  if F = 1 ∨ F = 2 then if 1 ≤ T ∧ T ≤ 255 then if 1 ≤ I ∧ I ≤ 255 then if 0 ≤ L ∧ L ≤ 65535 then if n = cn L then if okB (decide (F = 2)) X n = true then 0 else 9 else 8 else 6 else 12 else 4 else 3
theorem am_zero (b : Bool) : am b = 0 ↔ b = false := by cases b <;> simp [am]
theorem okB_am {s : Bool} {X : Nat → Nat} {n : Nat} (h : ¬ am (okB s X n) = 0) : okB s X n = true := by
  rcases hq : okB s X n with _ | _
  · exact absurd ((am_zero _).2 hq) h
  · rfl
theorem ckShare_bad (F T I L : Int) (la : Option Addr) (n lc : Nat) (X : Nat → Nat) (W : World) (HX : LstAt W 4 (.slice la n lc) n (en vq X n)) (hn : n ≤ 100000000) (H4 : ∀ i, i < n → X i < R4) (HL : Laid W) (h1 : F ≠ 1) (h2 : F ≠ 2) : Calls Tryz.prog 105 [.agg #[.int .i64 F, .int .i64 T, .int .i64 I, .int .i64 L, .slice la n lc]].toArray W fun e w => e = .returned (.int .i64 (shErr F T I L n X)) ∧ Below W.heap.size W w := by
 refine c_enter (args := [.agg #[.int .i64 F, .int .i64 T, .int .i64 I, .int .i64 L, .slice la n lc]]) Tryz.func105 rfl rfl rfl fun a hk => ?_
 have hs := Sat.start W [lst 4 (.slice la n lc) n (en vq X n)] (fun r hr => by rcases List.mem_singleton.1 hr with rfl; exact HX)
 refine wS (wR ?_)
 refine q_box (vs := [.int .i64 F, .int .i64 T, .int .i64 I, .int .i64 L, .slice la n lc]) hk hs rfl rfl rfl rfl fun b1 w a hk hs => ?_
 refine q_v hk (w_as rfl) fun a hk => ?_
 refine c_end (x_t (wS (wR ?_)))
 refine q_v hk (w_fa rfl fq53_0 ty3) fun a hk => ?_
 refine q_v hk (w_ld1 rfl ty3 (.blk (n := 1) (hs.mi 0 rfl) rfl)) fun a hk => ?_
 refine q_call (caps := []) hk rfl rfl Tryz.func85 fo85 rfl rfl (getBad_c F h1 h2 _ (HL.step hs.toBelow)) ?_
 rintro _ w ⟨rfl, hb⟩
 have hs := hs.below hb
 refine ⟨_, rfl, fun a hk => ?_⟩
 refine q_v hk (w_mv rfl) fun a hk => ?_
 refine q_v hk (w_ext rfl rfl) fun a hk => ?_
 refine q_v hk (w_ext rfl rfl) fun a hk => ?_
 refine q_alc (vs := [.int .i64 0, .int .u64 0, .int .u64 0, .int .u64 0, .int .u64 0, .int .u64 0, .int .u64 0, .int .u64 0, .int .u64 0, .int .u64 0, .int .u64 0, .int .u64 0, .int .u64 0, .int .u64 0]) hk hs zr120 rfl rfl rfl fun b2 w a hk hs => ?_
 refine q_sto (o := 0) (cs := [.int .i64 0, .int .u64 0, .int .u64 0, .int .u64 0, .int .u64 0, .int .u64 0, .int .u64 0, .int .u64 0, .int .u64 0, .int .u64 0, .int .u64 0, .int .u64 0, .int .u64 0, .int .u64 0]) (vs' := [.int .i64 0, .int .u64 0, .int .u64 0, .int .u64 0, .int .u64 0, .int .u64 0, .int .u64 0, .int .u64 0, .int .u64 0, .int .u64 0, .int .u64 0, .int .u64 0, .int .u64 0, .int .u64 0]) hk hs rfl rfl rfl ty120 rfl rfl rfl rfl rfl rfl fun w hs => ?_
 refine q_v hk (w_as rfl) fun a hk => ?_
 refine c_end (x_t (wS ?_))
 refine wpIn_block ?_
 refine wS (wR ?_)
 refine q_v hk (w_mv rfl) fun a hk => ?_
 refine q_v hk (w_ne rfl rfl (decide_eq_true (by decide))) fun a hk => ?_
 refine q_v hk (w_as rfl) fun a hk => ?_
 refine c_end (x_t ?_)
 refine c_T hk rfl ?_
 refine wS (wR ?_)
 refine q_v hk (w_mv rfl) fun a hk => ?_
 refine q_v hk (w_as rfl) fun a hk => ?_
 refine c_end (x_t ?_)
 refine (wpIn_ret (x_br (x_tr ?_)))
 refine c_ret1 hk rfl rfl ?_
 exact ⟨by unfold shErr; rw [if_neg (by omega)], hs.toBelow⟩
theorem ckShare_s (s : Bool) (T I L : Int) (la : Option Addr) (n lc : Nat) (X : Nat → Nat) (W : World) (HX : LstAt W 4 (.slice la n lc) n (en vq X n)) (hn : n ≤ 100000000) (H4 : ∀ i, i < n → X i < R4) (HL : Laid W) : Calls Tryz.prog 105 [.agg #[.int .i64 (fid s), .int .i64 T, .int .i64 I, .int .i64 L, .slice la n lc]].toArray W fun e w => e = .returned (.int .i64 (shErr (fid s) T I L n X)) ∧ Below W.heap.size W w := by
 refine c_enter (args := [.agg #[.int .i64 (fid s), .int .i64 T, .int .i64 I, .int .i64 L, .slice la n lc]]) Tryz.func105 rfl rfl rfl fun a hk => ?_
 have hs := Sat.start W [lst 4 (.slice la n lc) n (en vq X n)] (fun r hr => by rcases List.mem_singleton.1 hr with rfl; exact HX)
 refine wS (wR ?_)
 refine q_box (vs := [.int .i64 (fid s), .int .i64 T, .int .i64 I, .int .i64 L, .slice la n lc]) hk hs rfl rfl rfl rfl fun b1 w a hk hs => ?_
 refine q_v hk (w_as rfl) fun a hk => ?_
 refine c_end (x_t (wS (wR ?_)))
 refine q_v hk (w_fa rfl fq53_0 ty3) fun a hk => ?_
 refine q_v hk (w_ld1 rfl ty3 (.blk (n := 1) (hs.mi 0 rfl) rfl)) fun a hk => ?_
 refine q_call (caps := []) hk rfl rfl Tryz.func85 fo85 rfl rfl (get_c s _ (HL.step hs.toBelow)) ?_
 rintro _ w ⟨rfl, hb⟩
 have hs := hs.below hb
 refine ⟨_, rfl, fun a hk => ?_⟩
 refine q_v hk (w_mv rfl) fun a hk => ?_
 refine q_v hk (w_ext rfl rfl) fun a hk => ?_
 refine q_v hk (w_ext rfl rfl) fun a hk => ?_
 refine q_alc (vs := [.int .i64 0, .int .u64 0, .int .u64 0, .int .u64 0, .int .u64 0, .int .u64 0, .int .u64 0, .int .u64 0, .int .u64 0, .int .u64 0, .int .u64 0, .int .u64 0, .int .u64 0, .int .u64 0]) hk hs zr120 rfl rfl rfl fun b2 w a hk hs => ?_
 refine q_sto (o := 0) (cs := fieldL s) (vs' := fieldL s) hk hs rfl rfl rfl ty120 rfl rfl rfl rfl rfl rfl fun w hs => ?_
 refine q_v hk (w_as rfl) fun a hk => ?_
 refine c_end (x_t (wS ?_))
 refine wpIn_block ?_
 refine wS (wR ?_)
 refine q_v hk (w_mv rfl) fun a hk => ?_
 refine q_v hk (w_ne rfl rfl (decide_eq_false (by decide))) fun a hk => ?_
 refine q_v hk (w_as rfl) fun a hk => ?_
 refine c_end (x_t ?_)
 refine c_F hk rfl ?_
 refine wS (wR ?_)
 refine q_v hk (w_fa rfl fq53_1 ty3) fun a hk => ?_
 refine q_v hk (w_ld1 rfl ty3 (.blk (n := 1) (hs.mi 1 rfl) rfl)) fun a hk => ?_
 rcases Classical.em (1 ≤ T ∧ T ≤ 255) with hc3 | hc3
 ·
  refine q_call (caps := []) hk rfl rfl Tryz.func136 fo136 rfl rfl (between_t _ _ _ _ hc3) ?_
  rintro _ _ ⟨rfl, rfl⟩
  refine ⟨_, rfl, fun a hk => ?_⟩
  refine q_v hk (w_not rfl) fun a hk => ?_
  refine q_v hk (w_as rfl) fun a hk => ?_
  refine c_end (x_t ?_)
  refine c_F hk rfl ?_
  refine wS (wR ?_)
  refine q_v hk (w_fa rfl fq53_2 ty3) fun a hk => ?_
  refine q_v hk (w_ld1 rfl ty3 (.blk (n := 1) (hs.mi 1 rfl) rfl)) fun a hk => ?_
  rcases Classical.em (1 ≤ I ∧ I ≤ 255) with hc4 | hc4
  ·
   refine q_call (caps := []) hk rfl rfl Tryz.func136 fo136 rfl rfl (between_t _ _ _ _ hc4) ?_
   rintro _ _ ⟨rfl, rfl⟩
   refine ⟨_, rfl, fun a hk => ?_⟩
   refine q_v hk (w_not rfl) fun a hk => ?_
   refine q_v hk (w_as rfl) fun a hk => ?_
   refine c_end (x_t ?_)
   refine c_F hk rfl ?_
   refine wS (wR ?_)
   refine q_v hk (w_fa rfl fq53_3 ty3) fun a hk => ?_
   refine q_v hk (w_ld1 rfl ty3 (.blk (n := 1) (hs.mi 1 rfl) rfl)) fun a hk => ?_
   rcases Classical.em (0 ≤ L ∧ L ≤ 65535) with hc5 | hc5
   ·
    refine q_call (caps := []) hk rfl rfl Tryz.func136 fo136 rfl rfl (between_t _ _ _ _ hc5) ?_
    rintro _ _ ⟨rfl, rfl⟩
    refine ⟨_, rfl, fun a hk => ?_⟩
    refine q_v hk (w_not rfl) fun a hk => ?_
    refine q_v hk (w_as rfl) fun a hk => ?_
    refine c_end (x_t ?_)
    refine c_F hk rfl ?_
    refine wS ?_
    rcases Classical.em (((n : Nat) : Int) ≠ ((cn L : Nat) : Int)) with hc6 | hc6
    ·
     have hL := okL.cons (hs.mi 1 rfl) okL.nil
     refine d_begin _ 8 (by kernel_rfl) rfl hs hL fun w hs hL => ?_
     refine d_w 0 1 hk hL rfl (fun w hL => w_fa rfl fq53_4 ty51) fun a hk => ?_
     refine d_w 1 3 hk hL rfl (fun w hL => w_ld1 rfl ty51 (.blk (n := 1) (hL.at 0 rfl) rfl)) fun a hk => ?_
     refine d_w 2 7 hk hL rfl (fun w hL => w_len rfl Tryz.underlying51) fun a hk => ?_
     refine d_w 3 15 hk hL rfl (fun w hL => w_fa rfl fq53_3 ty3) fun a hk => ?_
     refine d_w 4 31 hk hL rfl (fun w hL => w_ld1 rfl ty3 (.blk (n := 1) (hL.at 0 rfl) rfl)) fun a hk => ?_
     refine d_1 5 63 rfl (by kernel_rfl) fun K hK => ?_
     refine q_call (caps := []) hk rfl rfl Tryz.func123 fo123 rfl rfl (count_c L _) ?_
     rintro _ _ ⟨rfl, rfl⟩
     refine ⟨_, rfl, fun a hk => ?_⟩
     have hL := okL.cons (hs.mi 1 rfl) okL.nil
     refine c_end (x_t (hK _ _ hL ?_))
     clear hK K
     refine d_w 6 127 hk hL rfl (fun w hL => w_ne rfl rfl (decide_eq_true hc6)) fun a hk => ?_
     refine d_w 7 255 hk hL rfl (fun w hL => w_as rfl) fun a hk => ?_
     refine d_end (by kernel_rfl) ?_
     refine (x_t ?_)
     refine c_T hk rfl ?_
     refine wS (wR ?_)
     refine q_v hk (w_as rfl) fun a hk => ?_
     refine c_end (x_t ?_)
     refine (wpIn_ret (x_br (x_tr ?_)))
     refine c_ret1 hk rfl rfl ?_
     refine ⟨?_, hs.toBelow⟩
     have ho := fid_or s
     unfold shErr
     rw [fid_dec, if_pos ho]
     (repeat' split) <;> first | rfl | omega | contradiction | exact absurd (hob.symm.trans (by assumption)) Bool.false_ne_true
    ·
     have hL := okL.cons (hs.mi 1 rfl) okL.nil
     refine d_begin _ 8 (by kernel_rfl) rfl hs hL fun w hs hL => ?_
     refine d_w 0 1 hk hL rfl (fun w hL => w_fa rfl fq53_4 ty51) fun a hk => ?_
     refine d_w 1 3 hk hL rfl (fun w hL => w_ld1 rfl ty51 (.blk (n := 1) (hL.at 0 rfl) rfl)) fun a hk => ?_
     refine d_w 2 7 hk hL rfl (fun w hL => w_len rfl Tryz.underlying51) fun a hk => ?_
     refine d_w 3 15 hk hL rfl (fun w hL => w_fa rfl fq53_3 ty3) fun a hk => ?_
     refine d_w 4 31 hk hL rfl (fun w hL => w_ld1 rfl ty3 (.blk (n := 1) (hL.at 0 rfl) rfl)) fun a hk => ?_
     refine d_1 5 63 rfl (by kernel_rfl) fun K hK => ?_
     refine q_call (caps := []) hk rfl rfl Tryz.func123 fo123 rfl rfl (count_c L _) ?_
     rintro _ _ ⟨rfl, rfl⟩
     refine ⟨_, rfl, fun a hk => ?_⟩
     have hL := okL.cons (hs.mi 1 rfl) okL.nil
     refine c_end (x_t (hK _ _ hL ?_))
     clear hK K
     refine d_w 6 127 hk hL rfl (fun w hL => w_ne rfl rfl (decide_eq_false hc6)) fun a hk => ?_
     refine d_w 7 255 hk hL rfl (fun w hL => w_as rfl) fun a hk => ?_
     refine d_end (by kernel_rfl) ?_
     refine (x_t ?_)
     refine c_F hk rfl ?_
     refine (wpIn_skip (x_b (x_t ?_)))
     refine wS (wR ?_)
     refine q_v hk (w_ldA rfl ty120 (.blk (n := 14) (hs.mi 0 rfl) rfl) rfl) fun a hk => ?_
     refine q_v hk (w_bldv0 Tryz.underlying47 ty46 zr47) fun a hk => ?_
     refine q_call (caps := []) hk rfl rfl Tryz.func137 fo137 rfl rfl (contAm s 0 (by decide) _) ?_
     rintro _ w ⟨rfl, hb⟩
     have hs := hs.below hb
     refine ⟨_, rfl, fun a hk => ?_⟩
     refine q_v hk (w_as rfl) fun a hk => ?_
     refine c_end (x_t (wS (wS (wR ?_))))
     refine q_v hk (w_fa rfl fq53_4 ty51) fun a hk => ?_
     refine q_v hk (w_ld1 rfl ty51 (.blk (n := 1) (hs.mi 1 rfl) rfl)) fun a hk => ?_
     refine q_v hk (w_len rfl Tryz.underlying51) fun a hk => ?_
     refine q_v hk (w_mv rfl) fun a hk => ?_
     refine c_end (x_t ?_)
     refine wpIn_block ?_
     rw [show decide (0 < pr s) = okB s X 0 from decide_eq_true (pr_pos s)] at hk
     refine c_loop (α := Nat) (fun k a w => k ≤ n ∧ Kn [] 59 [(47, .int .i64 (k : Int)), (5, .int .u64 (am (okB s X k))), (46, .int .i64 ((n : Nat) : Int)), (45, .slice la n lc), (3, .pointer (some ⟨b2, 0, none⟩)), (2, .int .i64 0)] a ∧ Sat no W [blk b2 (fieldL s) 120, blk b1 [.int .i64 (fid s), .int .i64 T, .int .i64 I, .int .i64 L, .slice la n lc] 53] [lst 4 (.slice la n lc) n (en vq X n)] w) (fun k => n - k) 0 ?_ ?_
     · exact ⟨(by omega), hk.k rfl (hk.k rfl (hk.k rfl (hk.k rfl (hk.k rfl (hk.k rfl hk.nil))))), hs⟩
     rintro k a w ⟨hf0, hk, hs⟩
     refine wS (wR ?_)
     rcases Classical.em ((k : Int) < ((n : Nat) : Int)) with hc7 | hc7
     ·
      have hlt : k < n := by omega
      refine q_v hk (w_lt rfl rfl (decide_eq_true hc7)) fun a hk => ?_
      refine c_end (x_t (wS ?_))
      refine c_T hk rfl ?_
      refine (wpIn_skip (x_t ?_))
      refine wS ?_
      refine wpIn_block ?_
      refine wS (wR ?_)
      refine q_v hk (w_iaL (k := k) rfl rfl Tryz.underlying51 ty56 (hs.ri 0 rfl) (by omega) (by omega)) fun a hk => ?_
      refine q_v hk (w_ldv (z := X k) rfl ty56 (lstq (k := k) (hs.ri 0 rfl) (by omega) (en_chunk vq_len (by omega)))) fun a hk => ?_
      refine q_alc (vs := [.int .u64 0, .int .u64 0, .int .u64 0, .int .u64 0]) hk hs zr56 rfl rfl rfl fun b8 w a hk hs => ?_
      refine q_sto (o := 0) (cs := [.int .u64 ((dg 0 (X k) : Nat) : Int), .int .u64 ((dg 1 (X k) : Nat) : Int), .int .u64 ((dg 2 (X k) : Nat) : Int), .int .u64 ((dg 3 (X k) : Nat) : Int)]) (vs' := [.int .u64 ((dg 0 (X k) : Nat) : Int), .int .u64 ((dg 1 (X k) : Nat) : Int), .int .u64 ((dg 2 (X k) : Nat) : Int), .int .u64 ((dg 3 (X k) : Nat) : Int)]) hk hs rfl rfl rfl ty56 rfl rfl rfl rfl rfl rfl fun w hs => ?_
      refine c_end (x_t (wR ?_))
      refine q_v hk (w_mv rfl) fun a hk => ?_
      refine q_v hk (w_ldA rfl ty120 (.blk (n := 14) (hs.mi 1 rfl) rfl) rfl) fun a hk => ?_
      refine q_v hk (w_ldv (z := X k) rfl ty56 (.blk (n := 4) (hs.mi 0 rfl) rfl)) fun a hk => ?_
      refine q_call (caps := []) hk rfl rfl Tryz.func137 fo137 rfl rfl (contAm s (X k) (H4 k hlt) _) ?_
      rintro _ w ⟨rfl, hb⟩
      have hs := hs.below hb
      refine ⟨_, rfl, fun a hk => ?_⟩
      refine q_v hk (w_andam rfl rfl) fun a hk => ?_
      refine q_v hk (w_as rfl) fun a hk => ?_
      refine (c_end (x_b (x_t ?_)))
      refine wR ?_
      refine q_v hk (w_add rfl rfl (wr64 (by omega) (by omega))) fun a hk => ?_
      refine q_v hk (w_mv rfl) fun a hk => ?_
      refine c_end (x_t ?_)
      rw [← okB_succ] at hk
      have hs := hs.drop
      exact ⟨k + 1, ⟨(by omega), hk.k rfl (hk.k rfl (hk.k rfl (hk.k rfl (hk.k rfl (hk.k rfl hk.nil))))), hs⟩, by omega⟩
     ·
      obtain rfl : n = k := by omega
      refine q_v hk (w_lt rfl rfl (decide_eq_false hc7)) fun a hk => ?_
      refine c_end (x_t (wS ?_))
      refine c_F hk rfl ?_
      refine (wpIn_exit (x_te (x_te (x_be ?_))))
      refine (x_t ?_)
      refine wS (wS (wR ?_))
      refine q_v hk (w_mv rfl) fun a hk => ?_
      rcases Classical.em ((am (okB s X n)) = 0) with hc9 | hc9
      ·
       have hob : okB s X n = false := (am_zero _).1 hc9
       refine q_v hk (w_eq rfl rfl (decide_eq_true hc9)) fun a hk => ?_
       refine c_end (x_t ?_)
       refine c_T hk rfl ?_
       refine wS (wR ?_)
       refine q_v hk (w_as rfl) fun a hk => ?_
       refine c_end (x_t ?_)
       refine (wpIn_ret (x_tr ?_))
       refine c_ret1 hk rfl rfl ?_
       refine ⟨?_, hs.toBelow⟩
       have ho := fid_or s
       unfold shErr
       rw [fid_dec, if_pos ho]
       (repeat' split) <;> first | rfl | omega | contradiction | exact absurd (hob.symm.trans (by assumption)) Bool.false_ne_true
      ·
       have hob : okB s X n = true := okB_am hc9
       refine q_v hk (w_eq rfl rfl (decide_eq_false hc9)) fun a hk => ?_
       refine c_end (x_t ?_)
       refine c_F hk rfl ?_
       refine (wpIn_skip (x_t ?_))
       refine wS (wR ?_)
       refine q_v hk (w_as rfl) fun a hk => ?_
       refine c_end (x_t ?_)
       refine (wpIn_ret ?_)
       refine c_ret1 hk rfl rfl ?_
       refine ⟨?_, hs.toBelow⟩
       have ho := fid_or s
       unfold shErr
       rw [fid_dec, if_pos ho]
       (repeat' split) <;> first | rfl | omega | contradiction | exact absurd (hob.symm.trans (by assumption)) Bool.false_ne_true
   ·
    refine q_call (caps := []) hk rfl rfl Tryz.func136 fo136 rfl rfl (between_f _ _ _ _ hc5) ?_
    rintro _ _ ⟨rfl, rfl⟩
    refine ⟨_, rfl, fun a hk => ?_⟩
    refine q_v hk (w_not rfl) fun a hk => ?_
    refine q_v hk (w_as rfl) fun a hk => ?_
    refine c_end (x_t ?_)
    refine c_T hk rfl ?_
    refine wS (wR ?_)
    refine q_v hk (w_as rfl) fun a hk => ?_
    refine c_end (x_t ?_)
    refine (wpIn_ret (x_br (x_tr ?_)))
    refine c_ret1 hk rfl rfl ?_
    refine ⟨?_, hs.toBelow⟩
    have ho := fid_or s
    unfold shErr
    rw [fid_dec, if_pos ho]
    (repeat' split) <;> first | rfl | omega | contradiction | exact absurd (hob.symm.trans (by assumption)) Bool.false_ne_true
  ·
   refine q_call (caps := []) hk rfl rfl Tryz.func136 fo136 rfl rfl (between_f _ _ _ _ hc4) ?_
   rintro _ _ ⟨rfl, rfl⟩
   refine ⟨_, rfl, fun a hk => ?_⟩
   refine q_v hk (w_not rfl) fun a hk => ?_
   refine q_v hk (w_as rfl) fun a hk => ?_
   refine c_end (x_t ?_)
   refine c_T hk rfl ?_
   refine wS (wR ?_)
   refine q_v hk (w_as rfl) fun a hk => ?_
   refine c_end (x_t ?_)
   refine (wpIn_ret (x_br (x_tr ?_)))
   refine c_ret1 hk rfl rfl ?_
   refine ⟨?_, hs.toBelow⟩
   have ho := fid_or s
   unfold shErr
   rw [fid_dec, if_pos ho]
   (repeat' split) <;> first | rfl | omega | contradiction | exact absurd (hob.symm.trans (by assumption)) Bool.false_ne_true
 ·
  refine q_call (caps := []) hk rfl rfl Tryz.func136 fo136 rfl rfl (between_f _ _ _ _ hc3) ?_
  rintro _ _ ⟨rfl, rfl⟩
  refine ⟨_, rfl, fun a hk => ?_⟩
  refine q_v hk (w_not rfl) fun a hk => ?_
  refine q_v hk (w_as rfl) fun a hk => ?_
  refine c_end (x_t ?_)
  refine c_T hk rfl ?_
  refine wS (wR ?_)
  refine q_v hk (w_as rfl) fun a hk => ?_
  refine c_end (x_t ?_)
  refine (wpIn_ret (x_br (x_tr ?_)))
  refine c_ret1 hk rfl rfl ?_
  refine ⟨?_, hs.toBelow⟩
  have ho := fid_or s
  unfold shErr
  rw [fid_dec, if_pos ho]
  (repeat' split) <;> first | rfl | omega | contradiction | exact absurd (hob.symm.trans (by assumption)) Bool.false_ne_true
theorem rdc_R4 {p v : Nat} (hp : 0 < p) (hv : v < R4) : rdc p v 0 < R4 := by
  by_cases h : v < p
  · rw [rdc_lt h]; exact hv
  · exact (rdc_ne hp hv h).2
theorem okB_bad {s : Bool} {X : Nat → Nat} {n k : Nat} (hk : k < n) (h : rdc (pr s) (X k) 0 ≠ X k) : okB s X n = false := by
  rw [Bool.eq_false_iff]
  intro ho
  exact h (rdc_lt (okB_at ho hk))
theorem okB_next {s : Bool} {X : Nat → Nat} {k : Nat} (ho : okB s X k = true) (h4 : X k < R4) (h : ¬ rdc (pr s) (X k) 0 ≠ X k) : okB s X (k + 1) = true := by
  rw [okB_succ, ho]
  by_cases hp : X k < pr s
  · simpa using hp
  · exact absurd (rdc_ne (pr_pos s) h4 hp).1 h
theorem refCkShare_bad (F T I L : Int) (la : Option Addr) (n lc : Nat) (X : Nat → Nat) (W : World) (HX : LstAt W 4 (.slice la n lc) n (en vq X n)) (hn : n ≤ 100000000) (H4 : ∀ i, i < n → X i < R4) (h1 : F ≠ 1) (h2 : F ≠ 2) : Calls Tryz.prog 56 [.agg #[.int .i64 F, .int .i64 T, .int .i64 I, .int .i64 L, .slice la n lc]].toArray W fun e w => e = .returned (.int .i64 (shErr F T I L n X)) ∧ Below W.heap.size W w := by
 refine c_enter (args := [.agg #[.int .i64 F, .int .i64 T, .int .i64 I, .int .i64 L, .slice la n lc]]) Tryz.func56 rfl rfl rfl fun a hk => ?_
 have hs := Sat.start W [lst 4 (.slice la n lc) n (en vq X n)] (fun r hr => by rcases List.mem_singleton.1 hr with rfl; exact HX)
 refine wS (wR ?_)
 refine q_box (vs := [.int .i64 F, .int .i64 T, .int .i64 I, .int .i64 L, .slice la n lc]) hk hs rfl rfl rfl rfl fun b1 w a hk hs => ?_
 refine q_v hk (w_as rfl) fun a hk => ?_
 refine c_end (x_t (wS ?_))
 refine wpIn_block ?_
 refine wS (wR ?_)
 refine q_v hk (w_fa rfl fq53_0 ty3) fun a hk => ?_
 refine q_v hk (w_ld1 rfl ty3 (.blk (n := 1) (hs.mi 0 rfl) rfl)) fun a hk => ?_
 refine q_call (caps := []) hk rfl rfl Tryz.func102 fo102 rfl rfl (known_f _ _ (fun h => h.elim h1 h2)) ?_
 rintro _ _ ⟨rfl, rfl⟩
 refine ⟨_, rfl, fun a hk => ?_⟩
 refine q_v hk (w_not rfl) fun a hk => ?_
 refine q_v hk (w_as rfl) fun a hk => ?_
 refine c_end (x_t ?_)
 refine c_T hk rfl ?_
 refine wS (wR ?_)
 refine q_v hk (w_as rfl) fun a hk => ?_
 refine c_end (x_t ?_)
 refine (wpIn_ret (x_br (x_tr ?_)))
 refine c_ret1 hk rfl rfl ?_
 exact ⟨by unfold shErr; rw [if_neg (by omega)], hs.toBelow⟩
theorem refCkShare_s (s : Bool) (T I L : Int) (la : Option Addr) (n lc : Nat) (X : Nat → Nat) (W : World) (HX : LstAt W 4 (.slice la n lc) n (en vq X n)) (hn : n ≤ 100000000) (H4 : ∀ i, i < n → X i < R4) : Calls Tryz.prog 56 [.agg #[.int .i64 (fid s), .int .i64 T, .int .i64 I, .int .i64 L, .slice la n lc]].toArray W fun e w => e = .returned (.int .i64 (shErr (fid s) T I L n X)) ∧ Below W.heap.size W w := by
 refine c_enter (args := [.agg #[.int .i64 (fid s), .int .i64 T, .int .i64 I, .int .i64 L, .slice la n lc]]) Tryz.func56 rfl rfl rfl fun a hk => ?_
 have hs := Sat.start W [lst 4 (.slice la n lc) n (en vq X n)] (fun r hr => by rcases List.mem_singleton.1 hr with rfl; exact HX)
 refine wS (wR ?_)
 refine q_box (vs := [.int .i64 (fid s), .int .i64 T, .int .i64 I, .int .i64 L, .slice la n lc]) hk hs rfl rfl rfl rfl fun b1 w a hk hs => ?_
 refine q_v hk (w_as rfl) fun a hk => ?_
 refine c_end (x_t (wS ?_))
 refine wpIn_block ?_
 refine wS (wR ?_)
 refine q_v hk (w_fa rfl fq53_0 ty3) fun a hk => ?_
 refine q_v hk (w_ld1 rfl ty3 (.blk (n := 1) (hs.mi 0 rfl) rfl)) fun a hk => ?_
 refine q_call (caps := []) hk rfl rfl Tryz.func102 fo102 rfl rfl (known_t _ _ (fid_or s)) ?_
 rintro _ _ ⟨rfl, rfl⟩
 refine ⟨_, rfl, fun a hk => ?_⟩
 refine q_v hk (w_not rfl) fun a hk => ?_
 refine q_v hk (w_as rfl) fun a hk => ?_
 refine c_end (x_t ?_)
 refine c_F hk rfl ?_
 refine wS (wR ?_)
 refine q_v hk (w_fa rfl fq53_1 ty3) fun a hk => ?_
 refine q_v hk (w_ld1 rfl ty3 (.blk (n := 1) (hs.mi 0 rfl) rfl)) fun a hk => ?_
 rcases Classical.em (T < 1) with hc2 | hc2
 ·
  refine q_v hk (w_lt rfl rfl (decide_eq_true hc2)) fun a hk => ?_
  refine q_v hk (w_mv rfl) fun a hk => ?_
  refine q_skip hk rfl rfl fun a hk => ?_
  refine q_skip hk rfl rfl fun a hk => ?_
  refine q_skip hk rfl rfl fun a hk => ?_
  refine q_v hk (w_pickT rfl rfl) fun a hk => ?_
  refine q_v hk (w_as rfl) fun a hk => ?_
  refine c_end (x_t ?_)
  refine c_T hk rfl ?_
  refine wS (wR ?_)
  refine q_v hk (w_as rfl) fun a hk => ?_
  refine c_end (x_t ?_)
  refine (wpIn_ret (x_br (x_tr ?_)))
  refine c_ret1 hk rfl rfl ?_
  refine ⟨?_, hs.toBelow⟩
  have ho := fid_or s
  unfold shErr
  rw [fid_dec, if_pos ho]
  (repeat' split) <;> first | rfl | omega | contradiction | exact absurd (hob.symm.trans (by assumption)) Bool.false_ne_true
 ·
  refine q_v hk (w_lt rfl rfl (decide_eq_false hc2)) fun a hk => ?_
  refine q_v hk (w_mv rfl) fun a hk => ?_
  refine q_v hk (w_fa rfl fq53_1 ty3) fun a hk => ?_
  refine q_v hk (w_ld1 rfl ty3 (.blk (n := 1) (hs.mi 0 rfl) rfl)) fun a hk => ?_
  rcases Classical.em (255 < T) with hc3 | hc3
  ·
   refine q_v hk (w_gt rfl rfl (decide_eq_true hc3)) fun a hk => ?_
   refine q_v hk (w_pickF rfl rfl) fun a hk => ?_
   refine q_v hk (w_as rfl) fun a hk => ?_
   refine c_end (x_t ?_)
   refine c_T hk rfl ?_
   refine wS (wR ?_)
   refine q_v hk (w_as rfl) fun a hk => ?_
   refine c_end (x_t ?_)
   refine (wpIn_ret (x_br (x_tr ?_)))
   refine c_ret1 hk rfl rfl ?_
   refine ⟨?_, hs.toBelow⟩
   have ho := fid_or s
   unfold shErr
   rw [fid_dec, if_pos ho]
   (repeat' split) <;> first | rfl | omega | contradiction | exact absurd (hob.symm.trans (by assumption)) Bool.false_ne_true
  ·
   refine q_v hk (w_gt rfl rfl (decide_eq_false hc3)) fun a hk => ?_
   refine q_v hk (w_pickF rfl rfl) fun a hk => ?_
   refine q_v hk (w_as rfl) fun a hk => ?_
   refine c_end (x_t ?_)
   refine c_F hk rfl ?_
   refine wS (wR ?_)
   refine q_v hk (w_fa rfl fq53_2 ty3) fun a hk => ?_
   refine q_v hk (w_ld1 rfl ty3 (.blk (n := 1) (hs.mi 0 rfl) rfl)) fun a hk => ?_
   rcases Classical.em (I < 1) with hc4 | hc4
   ·
    refine q_v hk (w_lt rfl rfl (decide_eq_true hc4)) fun a hk => ?_
    refine q_v hk (w_mv rfl) fun a hk => ?_
    refine q_skip hk rfl rfl fun a hk => ?_
    refine q_skip hk rfl rfl fun a hk => ?_
    refine q_skip hk rfl rfl fun a hk => ?_
    refine q_v hk (w_pickT rfl rfl) fun a hk => ?_
    refine q_v hk (w_as rfl) fun a hk => ?_
    refine c_end (x_t ?_)
    refine c_T hk rfl ?_
    refine wS (wR ?_)
    refine q_v hk (w_as rfl) fun a hk => ?_
    refine c_end (x_t ?_)
    refine (wpIn_ret (x_br (x_tr ?_)))
    refine c_ret1 hk rfl rfl ?_
    refine ⟨?_, hs.toBelow⟩
    have ho := fid_or s
    unfold shErr
    rw [fid_dec, if_pos ho]
    (repeat' split) <;> first | rfl | omega | contradiction | exact absurd (hob.symm.trans (by assumption)) Bool.false_ne_true
   ·
    refine q_v hk (w_lt rfl rfl (decide_eq_false hc4)) fun a hk => ?_
    refine q_v hk (w_mv rfl) fun a hk => ?_
    refine q_v hk (w_fa rfl fq53_2 ty3) fun a hk => ?_
    refine q_v hk (w_ld1 rfl ty3 (.blk (n := 1) (hs.mi 0 rfl) rfl)) fun a hk => ?_
    rcases Classical.em (255 < I) with hc5 | hc5
    ·
     refine q_v hk (w_gt rfl rfl (decide_eq_true hc5)) fun a hk => ?_
     refine q_v hk (w_pickF rfl rfl) fun a hk => ?_
     refine q_v hk (w_as rfl) fun a hk => ?_
     refine c_end (x_t ?_)
     refine c_T hk rfl ?_
     refine wS (wR ?_)
     refine q_v hk (w_as rfl) fun a hk => ?_
     refine c_end (x_t ?_)
     refine (wpIn_ret (x_br (x_tr ?_)))
     refine c_ret1 hk rfl rfl ?_
     refine ⟨?_, hs.toBelow⟩
     have ho := fid_or s
     unfold shErr
     rw [fid_dec, if_pos ho]
     (repeat' split) <;> first | rfl | omega | contradiction | exact absurd (hob.symm.trans (by assumption)) Bool.false_ne_true
    ·
     refine q_v hk (w_gt rfl rfl (decide_eq_false hc5)) fun a hk => ?_
     refine q_v hk (w_pickF rfl rfl) fun a hk => ?_
     refine q_v hk (w_as rfl) fun a hk => ?_
     refine c_end (x_t ?_)
     refine c_F hk rfl ?_
     refine wS (wR ?_)
     refine q_v hk (w_fa rfl fq53_3 ty3) fun a hk => ?_
     refine q_v hk (w_ld1 rfl ty3 (.blk (n := 1) (hs.mi 0 rfl) rfl)) fun a hk => ?_
     rcases Classical.em (L < 0) with hc6 | hc6
     ·
      refine q_v hk (w_lt rfl rfl (decide_eq_true hc6)) fun a hk => ?_
      refine q_v hk (w_mv rfl) fun a hk => ?_
      refine q_skip hk rfl rfl fun a hk => ?_
      refine q_skip hk rfl rfl fun a hk => ?_
      refine q_skip hk rfl rfl fun a hk => ?_
      refine q_v hk (w_pickT rfl rfl) fun a hk => ?_
      refine q_v hk (w_as rfl) fun a hk => ?_
      refine c_end (x_t ?_)
      refine c_T hk rfl ?_
      refine wS (wR ?_)
      refine q_v hk (w_as rfl) fun a hk => ?_
      refine c_end (x_t ?_)
      refine (wpIn_ret (x_br (x_tr ?_)))
      refine c_ret1 hk rfl rfl ?_
      refine ⟨?_, hs.toBelow⟩
      have ho := fid_or s
      unfold shErr
      rw [fid_dec, if_pos ho]
      (repeat' split) <;> first | rfl | omega | contradiction | exact absurd (hob.symm.trans (by assumption)) Bool.false_ne_true
     ·
      refine q_v hk (w_lt rfl rfl (decide_eq_false hc6)) fun a hk => ?_
      refine q_v hk (w_mv rfl) fun a hk => ?_
      refine q_v hk (w_fa rfl fq53_3 ty3) fun a hk => ?_
      refine q_v hk (w_ld1 rfl ty3 (.blk (n := 1) (hs.mi 0 rfl) rfl)) fun a hk => ?_
      rcases Classical.em (65535 < L) with hc7 | hc7
      ·
       refine q_v hk (w_gt rfl rfl (decide_eq_true hc7)) fun a hk => ?_
       refine q_v hk (w_pickF rfl rfl) fun a hk => ?_
       refine q_v hk (w_as rfl) fun a hk => ?_
       refine c_end (x_t ?_)
       refine c_T hk rfl ?_
       refine wS (wR ?_)
       refine q_v hk (w_as rfl) fun a hk => ?_
       refine c_end (x_t ?_)
       refine (wpIn_ret (x_br (x_tr ?_)))
       refine c_ret1 hk rfl rfl ?_
       refine ⟨?_, hs.toBelow⟩
       have ho := fid_or s
       unfold shErr
       rw [fid_dec, if_pos ho]
       (repeat' split) <;> first | rfl | omega | contradiction | exact absurd (hob.symm.trans (by assumption)) Bool.false_ne_true
      ·
       refine q_v hk (w_gt rfl rfl (decide_eq_false hc7)) fun a hk => ?_
       refine q_v hk (w_pickF rfl rfl) fun a hk => ?_
       refine q_v hk (w_as rfl) fun a hk => ?_
       refine c_end (x_t ?_)
       refine c_F hk rfl ?_
       refine wS ?_
       rcases Classical.em (((n : Nat) : Int) ≠ ((cn L : Nat) : Int)) with hc8 | hc8
       ·
        have hL := okL.cons (hs.mi 0 rfl) okL.nil
        refine d_begin _ 8 (by kernel_rfl) rfl hs hL fun w hs hL => ?_
        refine d_w 0 1 hk hL rfl (fun w hL => w_fa rfl fq53_4 ty51) fun a hk => ?_
        refine d_w 1 3 hk hL rfl (fun w hL => w_ld1 rfl ty51 (.blk (n := 1) (hL.at 0 rfl) rfl)) fun a hk => ?_
        refine d_w 2 7 hk hL rfl (fun w hL => w_len rfl Tryz.underlying51) fun a hk => ?_
        refine d_w 3 15 hk hL rfl (fun w hL => w_fa rfl fq53_3 ty3) fun a hk => ?_
        refine d_w 4 31 hk hL rfl (fun w hL => w_ld1 rfl ty3 (.blk (n := 1) (hL.at 0 rfl) rfl)) fun a hk => ?_
        refine d_1 5 63 rfl (by kernel_rfl) fun K hK => ?_
        refine q_call (caps := []) hk rfl rfl Tryz.func103 fo103 rfl rfl (refCount_c L (by omega) _) ?_
        rintro _ _ ⟨rfl, rfl⟩
        refine ⟨_, rfl, fun a hk => ?_⟩
        have hL := okL.cons (hs.mi 0 rfl) okL.nil
        refine c_end (x_t (hK _ _ hL ?_))
        clear hK K
        refine d_w 6 127 hk hL rfl (fun w hL => w_ne rfl rfl (decide_eq_true hc8)) fun a hk => ?_
        refine d_w 7 255 hk hL rfl (fun w hL => w_as rfl) fun a hk => ?_
        refine d_end (by kernel_rfl) ?_
        refine (x_t ?_)
        refine c_T hk rfl ?_
        refine wS (wR ?_)
        refine q_v hk (w_as rfl) fun a hk => ?_
        refine c_end (x_t ?_)
        refine (wpIn_ret (x_br (x_tr ?_)))
        refine c_ret1 hk rfl rfl ?_
        refine ⟨?_, hs.toBelow⟩
        have ho := fid_or s
        unfold shErr
        rw [fid_dec, if_pos ho]
        (repeat' split) <;> first | rfl | omega | contradiction | exact absurd (hob.symm.trans (by assumption)) Bool.false_ne_true
       ·
        have hL := okL.cons (hs.mi 0 rfl) okL.nil
        refine d_begin _ 8 (by kernel_rfl) rfl hs hL fun w hs hL => ?_
        refine d_w 0 1 hk hL rfl (fun w hL => w_fa rfl fq53_4 ty51) fun a hk => ?_
        refine d_w 1 3 hk hL rfl (fun w hL => w_ld1 rfl ty51 (.blk (n := 1) (hL.at 0 rfl) rfl)) fun a hk => ?_
        refine d_w 2 7 hk hL rfl (fun w hL => w_len rfl Tryz.underlying51) fun a hk => ?_
        refine d_w 3 15 hk hL rfl (fun w hL => w_fa rfl fq53_3 ty3) fun a hk => ?_
        refine d_w 4 31 hk hL rfl (fun w hL => w_ld1 rfl ty3 (.blk (n := 1) (hL.at 0 rfl) rfl)) fun a hk => ?_
        refine d_1 5 63 rfl (by kernel_rfl) fun K hK => ?_
        refine q_call (caps := []) hk rfl rfl Tryz.func103 fo103 rfl rfl (refCount_c L (by omega) _) ?_
        rintro _ _ ⟨rfl, rfl⟩
        refine ⟨_, rfl, fun a hk => ?_⟩
        have hL := okL.cons (hs.mi 0 rfl) okL.nil
        refine c_end (x_t (hK _ _ hL ?_))
        clear hK K
        refine d_w 6 127 hk hL rfl (fun w hL => w_ne rfl rfl (decide_eq_false hc8)) fun a hk => ?_
        refine d_w 7 255 hk hL rfl (fun w hL => w_as rfl) fun a hk => ?_
        refine d_end (by kernel_rfl) ?_
        refine (x_t ?_)
        refine c_F hk rfl ?_
        refine (wpIn_skip (x_b (x_t ?_)))
        refine wS (wR ?_)
        refine q_v hk (w_fa rfl fq53_0 ty3) fun a hk => ?_
        refine q_v hk (w_ld1 rfl ty3 (.blk (n := 1) (hs.mi 0 rfl) rfl)) fun a hk => ?_
        refine q_call (caps := []) hk rfl rfl Tryz.func28 fo28 rfl rfl (refModulus_c s _) ?_
        rintro _ w ⟨rfl, hb⟩
        have hs := hs.below hb
        refine ⟨_, rfl, fun a hk => ?_⟩
        refine q_alc (vs := [.int .u64 0, .int .u64 0, .int .u64 0, .int .u64 0]) hk hs zr47 rfl rfl rfl fun b9 w a hk hs => ?_
        refine q_sto (o := 0) (cs := [.int .u64 ((dg 0 (pr s) : Nat) : Int), .int .u64 ((dg 1 (pr s) : Nat) : Int), .int .u64 ((dg 2 (pr s) : Nat) : Int), .int .u64 ((dg 3 (pr s) : Nat) : Int)]) (vs' := [.int .u64 ((dg 0 (pr s) : Nat) : Int), .int .u64 ((dg 1 (pr s) : Nat) : Int), .int .u64 ((dg 2 (pr s) : Nat) : Int), .int .u64 ((dg 3 (pr s) : Nat) : Int)]) hk hs rfl rfl rfl ty47 rfl rfl rfl rfl rfl rfl fun w hs => ?_
        refine c_end (x_t (wS (wS (wR ?_))))
        refine q_v hk (w_as rfl) fun a hk => ?_
        refine c_end (x_t ?_)
        refine wpIn_block ?_
        refine c_loop (α := Nat) (fun k a w => k ≤ n ∧ okB s X k = true ∧ Kn [] 68 [(4, .int .i64 (k : Int)), (3, .pointer (some ⟨b9, 0, none⟩)), (1, .pointer (some ⟨b1, 0, none⟩))] a ∧ Sat no W [blk b9 [.int .u64 ((dg 0 (pr s) : Nat) : Int), .int .u64 ((dg 1 (pr s) : Nat) : Int), .int .u64 ((dg 2 (pr s) : Nat) : Int), .int .u64 ((dg 3 (pr s) : Nat) : Int)] 47, blk b1 [.int .i64 (fid s), .int .i64 T, .int .i64 I, .int .i64 L, .slice la n lc] 53] [lst 4 (.slice la n lc) n (en vq X n)] w) (fun k => n - k) 0 ?_ ?_
        · exact ⟨(by omega), rfl, hk.k rfl (hk.k rfl (hk.k rfl hk.nil)), hs⟩
        rintro k a w ⟨hf0, hf1, hk, hs⟩
        refine wS (wS (wR ?_))
        refine q_v hk (w_mv rfl) fun a hk => ?_
        refine q_v hk (w_fa rfl fq53_4 ty51) fun a hk => ?_
        refine q_v hk (w_ld1 rfl ty51 (.blk (n := 1) (hs.mi 1 rfl) rfl)) fun a hk => ?_
        refine q_v hk (w_len rfl Tryz.underlying51) fun a hk => ?_
        rcases Classical.em ((k : Int) < ((n : Nat) : Int)) with hc10 | hc10
        ·
         have hlt : k < n := by omega
         refine q_v hk (w_lt rfl rfl (decide_eq_true hc10)) fun a hk => ?_
         refine c_end (x_t ?_)
         refine c_T hk rfl ?_
         refine (wpIn_skip (x_t ?_))
         refine wS ?_
         refine wpIn_block ?_
         refine wS ?_
         rcases Classical.em (rdc (pr s) (X k) 0 ≠ X k) with hc11 | hc11
         ·
          have hob := okB_bad hlt hc11
          have hL := okL.cons (hs.mi 0 rfl) (okL.cons (hs.mi 1 rfl) (okL.cons (hs.ri 0 rfl) okL.nil))
          refine d_begin _ 13 (by kernel_rfl) rfl hs hL fun w hs hL => ?_
          refine d_w 0 1 hk hL rfl (fun w hL => w_ldv (z := pr s) rfl ty47 (.blk (n := 4) (hL.at 0 rfl) rfl)) fun a hk => ?_
          refine d_w 1 3 hk hL rfl (fun w hL => w_fa rfl fq53_4 ty51) fun a hk => ?_
          refine d_w 2 7 hk hL rfl (fun w hL => w_ld1 rfl ty51 (.blk (n := 1) (hL.at 1 rfl) rfl)) fun a hk => ?_
          refine d_w 3 15 hk hL rfl (fun w hL => w_mv rfl) fun a hk => ?_
          refine d_w 4 31 hk hL rfl (fun w hL => w_iaL (k := k) rfl rfl Tryz.underlying51 ty56 (hL.at 2 rfl) (by omega) (by omega)) fun a hk => ?_
          refine d_w 5 63 hk hL rfl (fun w hL => w_ldv (z := X k) rfl ty56 (lstq (k := k) (hL.at 2 rfl) (by omega) (en_chunk vq_len (by omega)))) fun a hk => ?_
          refine d_w 7 191 hk hL rfl (fun w hL => w_fa rfl fq53_4 ty51) fun a hk => ?_
          refine d_w 8 447 hk hL rfl (fun w hL => w_ld1 rfl ty51 (.blk (n := 1) (hL.at 1 rfl) rfl)) fun a hk => ?_
          refine d_w 9 959 hk hL rfl (fun w hL => w_mv rfl) fun a hk => ?_
          refine d_w 10 1983 hk hL rfl (fun w hL => w_iaL (k := k) rfl rfl Tryz.underlying51 ty56 (hL.at 2 rfl) (by omega) (by omega)) fun a hk => ?_
          refine d_w 11 4031 hk hL rfl (fun w hL => w_ldv (z := X k) rfl ty56 (lstq (k := k) (hL.at 2 rfl) (by omega) (en_chunk vq_len (by omega)))) fun a hk => ?_
          refine d_1 6 4095 rfl (by kernel_rfl) fun K hK => ?_
          refine q_call (caps := []) hk rfl rfl Tryz.func69 fo69 rfl rfl (refSubtract_c (pr s) (X k) 0 (pr_lt s) (H4 k hlt) _) ?_
          rintro _ w ⟨rfl, hb⟩
          have hs := hs.below hb
          refine ⟨_, rfl, fun a hk => ?_⟩
          have hL := okL.cons (hs.mi 0 rfl) (okL.cons (hs.mi 1 rfl) (okL.cons (hs.ri 0 rfl) okL.nil))
          refine c_end (x_t (hK _ _ hL ?_))
          clear hK K
          refine d_w 12 8191 hk hL rfl (fun w hL => w_vne rfl rfl (rdc_R4 (pr_pos s) (H4 k hlt)) (H4 k hlt) Tryz.underlying47 Tryz.underlying46 ty46 eg47 (decide_eq_true hc11)) fun a hk => ?_
          refine d_end (by kernel_rfl) ?_
          refine (x_t ?_)
          refine c_T hk rfl ?_
          refine wS (wR ?_)
          refine q_v hk (w_as rfl) fun a hk => ?_
          refine c_end (x_t ?_)
          refine (wpIn_ret (x_br (x_tr (x_tr (x_br (x_tr ?_))))))
          refine c_ret1 hk rfl rfl ?_
          refine ⟨?_, hs.toBelow⟩
          have ho := fid_or s
          unfold shErr
          rw [fid_dec, if_pos ho]
          (repeat' split) <;> first | rfl | omega | contradiction | exact absurd (hob.symm.trans (by assumption)) Bool.false_ne_true
         ·
          have hob := okB_next hf1 (H4 k hlt) hc11
          have hL := okL.cons (hs.mi 0 rfl) (okL.cons (hs.mi 1 rfl) (okL.cons (hs.ri 0 rfl) okL.nil))
          refine d_begin _ 13 (by kernel_rfl) rfl hs hL fun w hs hL => ?_
          refine d_w 0 1 hk hL rfl (fun w hL => w_ldv (z := pr s) rfl ty47 (.blk (n := 4) (hL.at 0 rfl) rfl)) fun a hk => ?_
          refine d_w 1 3 hk hL rfl (fun w hL => w_fa rfl fq53_4 ty51) fun a hk => ?_
          refine d_w 2 7 hk hL rfl (fun w hL => w_ld1 rfl ty51 (.blk (n := 1) (hL.at 1 rfl) rfl)) fun a hk => ?_
          refine d_w 3 15 hk hL rfl (fun w hL => w_mv rfl) fun a hk => ?_
          refine d_w 4 31 hk hL rfl (fun w hL => w_iaL (k := k) rfl rfl Tryz.underlying51 ty56 (hL.at 2 rfl) (by omega) (by omega)) fun a hk => ?_
          refine d_w 5 63 hk hL rfl (fun w hL => w_ldv (z := X k) rfl ty56 (lstq (k := k) (hL.at 2 rfl) (by omega) (en_chunk vq_len (by omega)))) fun a hk => ?_
          refine d_w 7 191 hk hL rfl (fun w hL => w_fa rfl fq53_4 ty51) fun a hk => ?_
          refine d_w 8 447 hk hL rfl (fun w hL => w_ld1 rfl ty51 (.blk (n := 1) (hL.at 1 rfl) rfl)) fun a hk => ?_
          refine d_w 9 959 hk hL rfl (fun w hL => w_mv rfl) fun a hk => ?_
          refine d_w 10 1983 hk hL rfl (fun w hL => w_iaL (k := k) rfl rfl Tryz.underlying51 ty56 (hL.at 2 rfl) (by omega) (by omega)) fun a hk => ?_
          refine d_w 11 4031 hk hL rfl (fun w hL => w_ldv (z := X k) rfl ty56 (lstq (k := k) (hL.at 2 rfl) (by omega) (en_chunk vq_len (by omega)))) fun a hk => ?_
          refine d_1 6 4095 rfl (by kernel_rfl) fun K hK => ?_
          refine q_call (caps := []) hk rfl rfl Tryz.func69 fo69 rfl rfl (refSubtract_c (pr s) (X k) 0 (pr_lt s) (H4 k hlt) _) ?_
          rintro _ w ⟨rfl, hb⟩
          have hs := hs.below hb
          refine ⟨_, rfl, fun a hk => ?_⟩
          have hL := okL.cons (hs.mi 0 rfl) (okL.cons (hs.mi 1 rfl) (okL.cons (hs.ri 0 rfl) okL.nil))
          refine c_end (x_t (hK _ _ hL ?_))
          clear hK K
          refine d_w 12 8191 hk hL rfl (fun w hL => w_vne rfl rfl (rdc_R4 (pr_pos s) (H4 k hlt)) (H4 k hlt) Tryz.underlying47 Tryz.underlying46 ty46 eg47 (decide_eq_false hc11)) fun a hk => ?_
          refine d_end (by kernel_rfl) ?_
          refine (x_t ?_)
          refine c_F hk rfl ?_
          refine (wpIn_skip (x_b (x_t ?_)))
          refine wR ?_
          refine q_v hk (w_mv rfl) fun a hk => ?_
          refine q_v hk (w_add rfl rfl (wr64 (by omega) (by omega))) fun a hk => ?_
          refine q_v hk (w_as rfl) fun a hk => ?_
          refine c_end (x_t ?_)
          exact ⟨k + 1, ⟨(by omega), hob, hk.k rfl (hk.k rfl (hk.k rfl hk.nil)), hs⟩, by omega⟩
        ·
         obtain rfl : n = k := by omega
         refine q_v hk (w_lt rfl rfl (decide_eq_false hc10)) fun a hk => ?_
         refine c_end (x_t ?_)
         refine c_F hk rfl ?_
         refine (wpIn_exit (x_te (x_te (x_be ?_))))
         refine (x_t ?_)
         refine wS (wR ?_)
         refine q_v hk (w_as rfl) fun a hk => ?_
         refine c_end (x_t ?_)
         refine (wpIn_ret ?_)
         refine c_ret1 hk rfl rfl ?_
         refine ⟨?_, hs.toBelow⟩
         have ho := fid_or s
         unfold shErr
         rw [fid_dec, if_pos ho]
         (repeat' split) <;> first | rfl | omega | contradiction | exact absurd (hob.symm.trans (by assumption)) Bool.false_ne_true
theorem ckShare_c (F T I L : Int) (la : Option Addr) (n lc : Nat) (X : Nat → Nat) (W : World) (HX : LstAt W 4 (.slice la n lc) n (en vq X n)) (hn : n ≤ 100000000) (H4 : ∀ i, i < n → X i < R4) (HL : Laid W) :
    Calls Tryz.prog 105 #[.agg #[.int .i64 F, .int .i64 T, .int .i64 I, .int .i64 L, .slice la n lc]] W fun e w => e = .returned (.int .i64 (shErr F T I L n X)) ∧ Below W.heap.size W w := by
  by_cases h1 : F = 1
  · subst h1; exact ckShare_s false T I L la n lc X W HX hn H4 HL
  by_cases h2 : F = 2
  · subst h2; exact ckShare_s true T I L la n lc X W HX hn H4 HL
  exact ckShare_bad F T I L la n lc X W HX hn H4 HL h1 h2
theorem refCkShare_c (F T I L : Int) (la : Option Addr) (n lc : Nat) (X : Nat → Nat) (W : World) (HX : LstAt W 4 (.slice la n lc) n (en vq X n)) (hn : n ≤ 100000000) (H4 : ∀ i, i < n → X i < R4) :
    Calls Tryz.prog 56 #[.agg #[.int .i64 F, .int .i64 T, .int .i64 I, .int .i64 L, .slice la n lc]] W fun e w => e = .returned (.int .i64 (shErr F T I L n X)) ∧ Below W.heap.size W w := by
  by_cases h1 : F = 1
  · subst h1; exact refCkShare_s false T I L la n lc X W HX hn H4
  by_cases h2 : F = 2
  · subst h2; exact refCkShare_s true T I L la n lc X W HX hn H4
  exact refCkShare_bad F T I L la n lc X W HX hn H4 h1 h2
end Go.Proofs.YtdnkkbmpefhbjaaGreatDoor
namespace Go.Proofs.YtdnkkbmpefhbjaaGreatDoor
set_option linter.all false
open Go Go.RowKit Alg
/-- A share: its numbers, its payload as numbers, and where the payload lies. -/
structure Shr where
  F : Int
  T : Int
  I : Int
  L : Int
  n : Nat
  X : Nat → Nat
  a : Option Addr
  c : Nat
def shc (x : Shr) : List Value := [.int .i64 x.F, .int .i64 x.T, .int .i64 x.I, .int .i64 x.L, .slice x.a x.n x.c]
theorem shc_len (x : Shr) : (shc x).length = 5 := rfl
abbrev payR (x : Shr) : Res := lst 4 (.slice x.a x.n x.c) x.n (en vq x.X x.n)
/-- A list of m shares with their payloads. -/
def shareR (la : Option Addr) (m lc : Nat) (S : Nat → Shr) : Res := rall [lst 5 (.slice la m lc) m (en shc S m), rall ((List.range m).map fun i => payR (S i))]
section
variable {la : Option Addr} {m lc k : Nat} {S : Nat → Shr} {R : List Res}
theorem share_lst (h : HasR (shareR la m lc S) R) : HasR (lst 5 (.slice la m lc) m (en shc S m)) R := h.pi 0 rfl
theorem share_pay (h : HasR (shareR la m lc S) R) (hk : k < m) : HasR (payR (S k)) R := (HasR.pi (l := [_, _]) h 1 rfl).part (List.mem_map.2 ⟨k, List.mem_range.2 hk, rfl⟩)
end
/-- Bounds on the shares of a row. -/
structure ShOk (S : Nat → Shr) (m : Nat) : Prop where
  m_le : m ≤ 1000000
  n_le : ∀ k, k < m → (S k).n ≤ 100000000
  x_lt : ∀ k, k < m → ∀ i, i < (S k).n → (S k).X i < R4
def shE (x : Shr) : Int := shErr x.F x.T x.I x.L x.n x.X
/-- The first error of the first k shares. -/
def csE (S : Nat → Shr) : Nat → Int
  | 0 => 0
  | k + 1 => if csE S k ≠ 0 then csE S k else shE (S k)
def hdr (x : Shr) : Ev := (x.F, x.T, x.L)
def mixS (S : Nat → Shr) (k : Nat) : Bool := (List.range k).any fun i => decide (hdr (S i) ≠ hdr (S 0))
theorem mixS_succ (S : Nat → Shr) (k : Nat) : mixS S (k + 1) = (mixS S k || decide (hdr (S k) ≠ hdr (S 0))) := by simp [mixS, List.range_succ]
/-- The error of a list of shares. -/
def csErr (S : Nat → Shr) (m : Nat) : Int :=
  if csE S m ≠ 0 then csE S m else if mixS S m = true then 14 else if (((ksv (fun i => (S i).I) m).length : Nat) : Int) < ((m : Nat) : Int) then 15 else if ((m : Nat) : Int) = 0 ∨ ((m : Nat) : Int) < (S 0).T then 16 else 0
theorem csE_stay {S : Nat → Shr} {k : Nat} (h : csE S k ≠ 0) : ∀ d, csE S (k + d) = csE S k
  | 0 => rfl
  | d + 1 => by
    have ih := csE_stay h d
    show (if csE S (k + d) ≠ 0 then csE S (k + d) else _) = _
    rw [ih, if_pos h]
theorem csErr_at {S : Nat → Shr} {k m : Nat} (h0 : csE S k = 0) (h : shE (S k) ≠ 0) (hk : k < m) : csErr S m = shE (S k) := by
  have e : csE S (k + 1) = shE (S k) := by show (if csE S k ≠ 0 then _ else _) = _; rw [if_neg (by simp [h0])]
  have e2 := csE_stay (S := S) (k := k + 1) (by rw [e]; exact h) (m - (k + 1))
  rw [show k + 1 + (m - (k + 1)) = m by omega, e] at e2
  unfold csErr
  rw [e2, if_pos h]
theorem csE_next {S : Nat → Shr} {k : Nat} (h0 : csE S k = 0) (h : ¬ shE (S k) ≠ 0) : csE S (k + 1) = 0 := by
  show (if csE S k ≠ 0 then _ else _) = _
  rw [if_neg (by simp [h0])]
  exact Classical.not_not.1 h
/-- A column after k shares. -/
def clf (S : Nat → Shr) (ch k i : Nat) : Nat := if i < k then (S i).X ch else 0
section
variable {S : Nat → Shr} {ch k m : Nat}
theorem clf_zero : en vq (fun _ => 0) m = en vq (clf S ch 0) m := en_congr fun i _ => by unfold clf; rw [if_neg (Nat.not_lt_zero i)]
theorem clf_step : en vq (fun i => if i = k then (S k).X ch else clf S ch k i) m = en vq (clf S ch (k + 1)) m := en_congr fun i _ => by
  unfold clf
  by_cases h : i = k
  · subst h; rw [if_pos rfl, if_pos (Nat.lt_succ_self _)]
  · rw [if_neg h]
    by_cases l : i < k
    · rw [if_pos l, if_pos (by omega)]
    · rw [if_neg l, if_neg (by omega)]
theorem clf_end : en vq (clf S ch m) m = en vq (fun i => (S i).X ch) m := en_congr fun i hi => by unfold clf; rw [if_pos hi]
end
theorem hdr_c (F T I L : Int) (v : Value) (W : World) (hv : ones [v] = true) : Calls Tryz.prog 106 [.agg #[.int .i64 F, .int .i64 T, .int .i64 I, .int .i64 L, v]].toArray W fun e w => e = .returned (.agg #[.int .i64 F, .int .i64 T, .int .i64 L]) ∧ Below W.heap.size W w := by
 refine c_enter (args := [.agg #[.int .i64 F, .int .i64 T, .int .i64 I, .int .i64 L, v]]) Tryz.func106 rfl rfl rfl fun a hk => ?_
 have hs := Sat.start W [] (fun _ h => by cases h)
 refine wS (wR ?_)
 refine q_box (vs := [.int .i64 F, .int .i64 T, .int .i64 I, .int .i64 L, v]) hk hs rfl rfl rfl rfl fun b1 w a hk hs => ?_
 refine q_alc (vs := [.int .i64 0, .int .i64 0, .int .i64 0]) hk hs zr148 rfl rfl rfl fun b2 w a hk hs => ?_
 refine c_end (x_t (wS (wR ?_)))
 refine q_v hk (w_fa rfl fq53_0 ty3) fun a hk => ?_
 refine q_v hk (w_ld1 rfl ty3 (.blk (n := 1) (hs.mi 1 rfl) rfl)) fun a hk => ?_
 refine q_v hk (w_fa rfl fq53_1 ty3) fun a hk => ?_
 refine q_v hk (w_ld1 rfl ty3 (.blk (n := 1) (hs.mi 1 rfl) rfl)) fun a hk => ?_
 refine q_v hk (w_fa rfl fq53_3 ty3) fun a hk => ?_
 refine q_v hk (w_ld1 rfl ty3 (.blk (n := 1) (hs.mi 1 rfl) rfl)) fun a hk => ?_
 refine q_v hk (w_bld rfl fl148 zr148 rfl rfl) fun a hk => ?_
 refine q_sto (o := 0) (cs := [.int .i64 F, .int .i64 T, .int .i64 L]) (vs' := [.int .i64 F, .int .i64 T, .int .i64 L]) hk hs rfl rfl rfl ty148 rfl rfl rfl rfl rfl rfl fun w hs => ?_
 refine c_end (x_t ?_)
 refine (wpIn_ret ?_)
 refine c_retG (vs := [.agg #[.int .i64 F, .int .i64 T, .int .i64 L]]) hk rfl ⟨⟨_, rfl, lv_A ty148 (.blk (n := 3) (hs.mi 0 rfl) rfl) rfl⟩, trivial⟩ rfl ?_
 exact ⟨rfl, hs.toBelow⟩
theorem ckShares_c (m lc : Nat) (la : Option Addr) (S : Nat → Shr) (W : World) (HS : (shareR la m lc S).ok W) (HO : ShOk S m) (HL : Laid W) : Calls Tryz.prog 60 [.slice la m lc].toArray W fun e w => e = .returned (.int .i64 (csErr S m)) ∧ Below W.heap.size W w := by
 have hm6 := HO.m_le
 refine c_enter (args := [.slice la m lc]) Tryz.func60 rfl rfl rfl fun a hk => ?_
 have hs := Sat.start W [shareR la m lc S] (okr1 HS)
 refine wS (wR ?_)
 refine q_v hk (w_as rfl) fun a hk => ?_
 refine c_end (x_t (wS (wR ?_)))
 refine q_mkm isI hk hs rfl rfl fun b1 w a hk hs => ?_
 refine q_v hk (w_as rfl) fun a hk => ?_
 refine c_end (x_t (wS (wR ?_)))
 refine q_v hk (w_as rfl) fun a hk => ?_
 refine c_end (x_t (wS (wS (wR ?_))))
 refine q_v hk (w_mv rfl) fun a hk => ?_
 refine q_v hk (w_len rfl Tryz.underlying22) fun a hk => ?_
 refine q_v hk (w_mv rfl) fun a hk => ?_
 refine c_end (x_t ?_)
 refine wpIn_block ?_
 refine c_loop (α := Nat) (fun k a w => ∃ (mx : Bool), k ≤ m ∧ csE S k = 0 ∧ mx = mixS S k ∧ Kn [] 57 [(11, .int .i64 ((k : Nat) : Int)), (4, .bool mx), (10, .int .i64 ((m : Nat) : Int)), (9, .slice la m lc), (3, .map (some b1)), (0, .slice la m lc)] a ∧ Sat no W [mapI isI b1 (ksv (fun i => (S i).I) k)] [shareR la m lc S] w) (fun k => m - k) 0 ?_ ?_
 · exact ⟨_, (by omega), rfl, rfl, hk.k rfl (hk.k rfl (hk.k rfl (hk.k rfl (hk.k rfl (hk.k rfl hk.nil))))), hs⟩
 rintro k a w ⟨mx, hf0, hf1, hf2, hk, hs⟩
 refine wS (wR ?_)
 rcases Classical.em (((k : Nat) : Int) < ((m : Nat) : Int)) with hc2 | hc2
 ·
  have hlt : k < m := by omega
  refine q_v hk (w_lt rfl rfl (decide_eq_true hc2)) fun a hk => ?_
  refine c_end (x_t (wS ?_))
  refine c_T hk rfl ?_
  refine (wpIn_skip (x_t ?_))
  refine wS ?_
  refine wpIn_block ?_
  refine wS (wR ?_)
  refine q_v hk (w_iaL (k := k) rfl rfl Tryz.underlying22 ty53 ((share_lst (HasR.nth 0 rfl : HasR (shareR la m lc S) _)).at_ hs) (by omega) (by omega)) fun a hk => ?_
  refine q_v hk (w_ldA rfl ty53 (lstq (k := k) ((share_lst (HasR.nth 0 rfl : HasR (shareR la m lc S) _)).at_ hs) (by omega) (en_chunk shc_len (by omega))) rfl) fun a hk => ?_
  refine q_alc (vs := [.int .i64 0, .int .i64 0, .int .i64 0, .int .i64 0, .slice none 0 0]) hk hs zr53 rfl rfl rfl fun b3 w a hk hs => ?_
  refine q_sto (o := 0) (cs := [.int .i64 ((S k).F), .int .i64 ((S k).T), .int .i64 ((S k).I), .int .i64 ((S k).L), .slice ((S k).a) ((S k).n) ((S k).c)]) (vs' := [.int .i64 ((S k).F), .int .i64 ((S k).T), .int .i64 ((S k).I), .int .i64 ((S k).L), .slice ((S k).a) ((S k).n) ((S k).c)]) hk hs rfl rfl rfl ty53 rfl rfl rfl rfl rfl rfl fun w hs => ?_
  refine c_end (x_t (wS (wS (wR ?_))))
  refine q_v hk (w_ldA rfl ty53 (.blk (n := 5) (hs.mi 0 rfl) rfl) rfl) fun a hk => ?_
  refine q_call (caps := []) hk rfl rfl Tryz.func105 fo105 rfl rfl (ckShare_c _ _ _ _ _ _ _ (S k).X _ ((share_pay (k := k) (HasR.nth 0 rfl : HasR (shareR la m lc S) _) (by omega)).at_ hs) (HO.n_le k hlt) (HO.x_lt k hlt) (HL.step hs.toBelow)) ?_
  rintro _ w ⟨rfl, hb⟩
  have hs := hs.below hb
  refine ⟨_, rfl, fun a hk => ?_⟩
  refine q_v hk (w_as rfl) fun a hk => ?_
  refine c_end (x_t (wS (wR ?_)))
  refine q_v hk (w_mv rfl) fun a hk => ?_
  rcases Classical.em ((shE (S k)) ≠ 0) with hc4 | hc4
  ·
   refine q_v hk (w_ne rfl rfl (decide_eq_true hc4)) fun a hk => ?_
   refine c_end (x_t ?_)
   refine c_T hk rfl ?_
   refine wS (wR ?_)
   refine q_v hk (w_mv rfl) fun a hk => ?_
   refine q_v hk (w_as rfl) fun a hk => ?_
   refine c_end (x_t ?_)
   refine (wpIn_ret (x_tr (x_br (x_tr (x_tr (x_br (x_tr ?_)))))))
   refine c_ret1 hk rfl rfl ?_
   exact ⟨by rw [csErr_at hf1 (by assumption) (by omega)]; rfl, hs.toBelow⟩
  ·
   refine q_v hk (w_ne rfl rfl (decide_eq_false hc4)) fun a hk => ?_
   refine c_end (x_t ?_)
   refine c_F hk rfl ?_
   refine (wpIn_skip (x_t ?_))
   refine wS ?_
   rcases Classical.em (mx = true) with hc5 | hc5
   ·
    obtain rfl : mx = true := hc5
    refine d_begin _ 11 (by kernel_rfl) rfl hs okL.nil fun w hs hL => ?_
    refine d_w 0 1 hk hL rfl (fun w hL => w_mv rfl) fun a hk => ?_
    refine d_w 1 3 hk hL rfl (fun w hL => w_mv rfl) fun a hk => ?_
    refine d_s 2 7 hk hL rfl (by kernel_rfl) rfl rfl fun a hk => ?_
    refine d_s 3 15 hk hL rfl (by kernel_rfl) rfl rfl fun a hk => ?_
    refine d_s 4 31 hk hL rfl (by kernel_rfl) rfl rfl fun a hk => ?_
    refine d_s 5 63 hk hL rfl (by kernel_rfl) rfl rfl fun a hk => ?_
    refine d_s 6 127 hk hL rfl (by kernel_rfl) rfl rfl fun a hk => ?_
    refine d_s 7 255 hk hL rfl (by kernel_rfl) rfl rfl fun a hk => ?_
    refine d_s 8 511 hk hL rfl (by kernel_rfl) rfl rfl fun a hk => ?_
    refine d_w 9 1023 hk hL rfl (fun w hL => w_pickT rfl rfl) fun a hk => ?_
    refine d_w 10 2047 hk hL rfl (fun w hL => w_as rfl) fun a hk => ?_
    refine d_end (by kernel_rfl) ?_
    refine (x_t ?_)
    refine wR ?_
    refine q_v hk (w_mv rfl) fun a hk => ?_
    refine q_v hk (w_fa rfl fq53_2 ty3) fun a hk => ?_
    refine q_v hk (w_ld1 rfl ty3 (.blk (n := 1) (hs.mi 0 rfl) rfl)) fun a hk => ?_
    refine q_lkm hk (hs.mi 1 rfl) rfl rfl Tryz.underlying145 Tryz.underlying3 zr3 ⟨_, rfl⟩ rfl rfl ?_
    rintro _ a ⟨z6, rfl⟩ hk
    refine q_v hk (w_add (r := IntKind.i64.wrap (z6 + 1)) rfl rfl rfl) fun a hk => ?_
    have hs := hs.up1
    refine q_mup hk hs rfl rfl rfl ⟨_, rfl⟩ Tryz.underlying145 Tryz.underlying3 rfl fun w hs => ?_
    refine (c_end (x_b (x_t ?_)))
    refine wR ?_
    refine q_v hk (w_add rfl rfl (wr64 (by omega) (by omega))) fun a hk => ?_
    refine q_v hk (w_mv rfl) fun a hk => ?_
    refine c_end (x_t ?_)
    have hs := hs.rw0 (congrArg (mapI isI b1) (ksv_succ (fun i => (S i).I) k))
    have hen := csE_next hf1 (by first | assumption | omega)
    have hmn : true = mixS S (k + 1) := by rw [mixS_succ, ← hf2]; first | rfl | (rw [Bool.false_or]; first | exact (decide_eq_true hmm).symm | exact (decide_eq_false hmm).symm)
    have hs := hs.up1
    have hs := hs.drop
    exact ⟨k + 1, ⟨_, (by omega), hen, hmn, hk.k rfl (hk.k rfl (hk.k rfl (hk.k rfl (hk.k rfl (hk.k rfl hk.nil))))), hs⟩, by omega⟩
   ·
    obtain rfl : mx = false := by simpa using hc5
    rcases Classical.em (hdr (S k) ≠ hdr (S 0)) with hc7 | hc7
    ·
     have hmm := hc7
     have hL := okL.cons (hs.mi 0 rfl) (okL.cons ((share_lst (HasR.nth 0 rfl : HasR (shareR la m lc S) _)).at_ hs) okL.nil)
     refine d_begin _ 11 (by kernel_rfl) rfl hs hL fun w hs hL => ?_
     refine d_w 0 1 hk hL rfl (fun w hL => w_mv rfl) fun a hk => ?_
     refine d_w 1 3 hk hL rfl (fun w hL => w_mv rfl) fun a hk => ?_
     refine d_w 2 7 hk hL rfl (fun w hL => w_ldA rfl ty53 (.blk (n := 5) (hL.at 0 rfl) rfl) rfl) fun a hk => ?_
     refine d_w 4 23 hk hL rfl (fun w hL => w_mv rfl) fun a hk => ?_
     refine d_w 5 55 hk hL rfl (fun w hL => w_iaL (k := 0) rfl rfl Tryz.underlying22 ty53 (hL.at 1 rfl) (by omega) (by omega)) fun a hk => ?_
     refine d_w 6 119 hk hL rfl (fun w hL => w_ldA rfl ty53 (lstq (k := 0) (hL.at 1 rfl) (by omega) (en_chunk shc_len (by omega))) rfl) fun a hk => ?_
     refine d_1 3 127 rfl (by kernel_rfl) fun K hK => ?_
     refine q_call (caps := []) hk rfl rfl Tryz.func106 fo106 rfl rfl (hdr_c _ _ _ _ _ _ rfl) ?_
     rintro _ w ⟨rfl, hb⟩
     have hs := hs.below hb
     refine ⟨_, rfl, fun a hk => ?_⟩
     have hL := okL.cons (hs.mi 0 rfl) (okL.cons ((share_lst (HasR.nth 0 rfl : HasR (shareR la m lc S) _)).at_ hs) okL.nil)
     refine c_end (x_t (hK _ _ hL ?_))
     clear hK K
     refine d_1 7 255 rfl (by kernel_rfl) fun K hK => ?_
     refine q_call (caps := []) hk rfl rfl Tryz.func106 fo106 rfl rfl (hdr_c _ _ _ _ _ _ rfl) ?_
     rintro _ w ⟨rfl, hb⟩
     have hs := hs.below hb
     refine ⟨_, rfl, fun a hk => ?_⟩
     have hL := okL.cons (hs.mi 0 rfl) (okL.cons ((share_lst (HasR.nth 0 rfl : HasR (shareR la m lc S) _)).at_ hs) okL.nil)
     refine c_end (x_t (hK _ _ hL ?_))
     clear hK K
     refine d_w 8 511 hk hL rfl (fun w hL => w_ene (u := hdr (S k)) (v := hdr (S 0)) (nb := 8) rfl rfl (by kernel_rfl) (by kernel_rfl) Tryz.underlying3 ty3 (by kernel_rfl) (decide_eq_true hc7)) fun a hk => ?_
     refine d_w 9 1023 hk hL rfl (fun w hL => w_pickF rfl rfl) fun a hk => ?_
     refine d_w 10 2047 hk hL rfl (fun w hL => w_as rfl) fun a hk => ?_
     refine d_end (by kernel_rfl) ?_
     refine (x_t ?_)
     refine wR ?_
     refine q_v hk (w_mv rfl) fun a hk => ?_
     refine q_v hk (w_fa rfl fq53_2 ty3) fun a hk => ?_
     refine q_v hk (w_ld1 rfl ty3 (.blk (n := 1) (hs.mi 0 rfl) rfl)) fun a hk => ?_
     refine q_lkm hk (hs.mi 1 rfl) rfl rfl Tryz.underlying145 Tryz.underlying3 zr3 ⟨_, rfl⟩ rfl rfl ?_
     rintro _ a ⟨z8, rfl⟩ hk
     refine q_v hk (w_add (r := IntKind.i64.wrap (z8 + 1)) rfl rfl rfl) fun a hk => ?_
     have hs := hs.up1
     refine q_mup hk hs rfl rfl rfl ⟨_, rfl⟩ Tryz.underlying145 Tryz.underlying3 rfl fun w hs => ?_
     refine (c_end (x_b (x_t ?_)))
     refine wR ?_
     refine q_v hk (w_add rfl rfl (wr64 (by omega) (by omega))) fun a hk => ?_
     refine q_v hk (w_mv rfl) fun a hk => ?_
     refine c_end (x_t ?_)
     have hs := hs.rw0 (congrArg (mapI isI b1) (ksv_succ (fun i => (S i).I) k))
     have hen := csE_next hf1 (by first | assumption | omega)
     have hmn : true = mixS S (k + 1) := by rw [mixS_succ, ← hf2]; first | rfl | (rw [Bool.false_or]; first | exact (decide_eq_true hmm).symm | exact (decide_eq_false hmm).symm)
     have hs := hs.up1
     have hs := hs.drop
     exact ⟨k + 1, ⟨_, (by omega), hen, hmn, hk.k rfl (hk.k rfl (hk.k rfl (hk.k rfl (hk.k rfl (hk.k rfl hk.nil))))), hs⟩, by omega⟩
    ·
     have hmm := hc7
     have hL := okL.cons (hs.mi 0 rfl) (okL.cons ((share_lst (HasR.nth 0 rfl : HasR (shareR la m lc S) _)).at_ hs) okL.nil)
     refine d_begin _ 11 (by kernel_rfl) rfl hs hL fun w hs hL => ?_
     refine d_w 0 1 hk hL rfl (fun w hL => w_mv rfl) fun a hk => ?_
     refine d_w 1 3 hk hL rfl (fun w hL => w_mv rfl) fun a hk => ?_
     refine d_w 2 7 hk hL rfl (fun w hL => w_ldA rfl ty53 (.blk (n := 5) (hL.at 0 rfl) rfl) rfl) fun a hk => ?_
     refine d_w 4 23 hk hL rfl (fun w hL => w_mv rfl) fun a hk => ?_
     refine d_w 5 55 hk hL rfl (fun w hL => w_iaL (k := 0) rfl rfl Tryz.underlying22 ty53 (hL.at 1 rfl) (by omega) (by omega)) fun a hk => ?_
     refine d_w 6 119 hk hL rfl (fun w hL => w_ldA rfl ty53 (lstq (k := 0) (hL.at 1 rfl) (by omega) (en_chunk shc_len (by omega))) rfl) fun a hk => ?_
     refine d_1 3 127 rfl (by kernel_rfl) fun K hK => ?_
     refine q_call (caps := []) hk rfl rfl Tryz.func106 fo106 rfl rfl (hdr_c _ _ _ _ _ _ rfl) ?_
     rintro _ w ⟨rfl, hb⟩
     have hs := hs.below hb
     refine ⟨_, rfl, fun a hk => ?_⟩
     have hL := okL.cons (hs.mi 0 rfl) (okL.cons ((share_lst (HasR.nth 0 rfl : HasR (shareR la m lc S) _)).at_ hs) okL.nil)
     refine c_end (x_t (hK _ _ hL ?_))
     clear hK K
     refine d_1 7 255 rfl (by kernel_rfl) fun K hK => ?_
     refine q_call (caps := []) hk rfl rfl Tryz.func106 fo106 rfl rfl (hdr_c _ _ _ _ _ _ rfl) ?_
     rintro _ w ⟨rfl, hb⟩
     have hs := hs.below hb
     refine ⟨_, rfl, fun a hk => ?_⟩
     have hL := okL.cons (hs.mi 0 rfl) (okL.cons ((share_lst (HasR.nth 0 rfl : HasR (shareR la m lc S) _)).at_ hs) okL.nil)
     refine c_end (x_t (hK _ _ hL ?_))
     clear hK K
     refine d_w 8 511 hk hL rfl (fun w hL => w_ene (u := hdr (S k)) (v := hdr (S 0)) (nb := 8) rfl rfl (by kernel_rfl) (by kernel_rfl) Tryz.underlying3 ty3 (by kernel_rfl) (decide_eq_false hc7)) fun a hk => ?_
     refine d_w 9 1023 hk hL rfl (fun w hL => w_pickF rfl rfl) fun a hk => ?_
     refine d_w 10 2047 hk hL rfl (fun w hL => w_as rfl) fun a hk => ?_
     refine d_end (by kernel_rfl) ?_
     refine (x_t ?_)
     refine wR ?_
     refine q_v hk (w_mv rfl) fun a hk => ?_
     refine q_v hk (w_fa rfl fq53_2 ty3) fun a hk => ?_
     refine q_v hk (w_ld1 rfl ty3 (.blk (n := 1) (hs.mi 0 rfl) rfl)) fun a hk => ?_
     refine q_lkm hk (hs.mi 1 rfl) rfl rfl Tryz.underlying145 Tryz.underlying3 zr3 ⟨_, rfl⟩ rfl rfl ?_
     rintro _ a ⟨z9, rfl⟩ hk
     refine q_v hk (w_add (r := IntKind.i64.wrap (z9 + 1)) rfl rfl rfl) fun a hk => ?_
     have hs := hs.up1
     refine q_mup hk hs rfl rfl rfl ⟨_, rfl⟩ Tryz.underlying145 Tryz.underlying3 rfl fun w hs => ?_
     refine (c_end (x_b (x_t ?_)))
     refine wR ?_
     refine q_v hk (w_add rfl rfl (wr64 (by omega) (by omega))) fun a hk => ?_
     refine q_v hk (w_mv rfl) fun a hk => ?_
     refine c_end (x_t ?_)
     have hs := hs.rw0 (congrArg (mapI isI b1) (ksv_succ (fun i => (S i).I) k))
     have hen := csE_next hf1 (by first | assumption | omega)
     have hmn : false = mixS S (k + 1) := by rw [mixS_succ, ← hf2]; first | rfl | (rw [Bool.false_or]; first | exact (decide_eq_true hmm).symm | exact (decide_eq_false hmm).symm)
     have hs := hs.up1
     have hs := hs.drop
     exact ⟨k + 1, ⟨_, (by omega), hen, hmn, hk.k rfl (hk.k rfl (hk.k rfl (hk.k rfl (hk.k rfl (hk.k rfl hk.nil))))), hs⟩, by omega⟩
 ·
  refine q_v hk (w_lt rfl rfl (decide_eq_false hc2)) fun a hk => ?_
  refine c_end (x_t (wS ?_))
  refine c_F hk rfl ?_
  refine (wpIn_exit (x_te (x_te (x_be ?_))))
  refine (x_t ?_)
  refine wS ?_
  refine wpIn_block ?_
  refine wS (wR ?_)
  refine q_v hk (w_mv rfl) fun a hk => ?_
  refine q_v hk (w_as rfl) fun a hk => ?_
  refine c_end (x_t ?_)
  rcases mx with _ | _
  ·
   refine c_F hk rfl ?_
   refine wS (wR ?_)
   refine q_v hk (w_mv rfl) fun a hk => ?_
   refine q_v hk (w_lnm (hs.mi 0 rfl) rfl Tryz.underlying145) fun a hk => ?_
   refine q_v hk (w_mv rfl) fun a hk => ?_
   refine q_v hk (w_len rfl Tryz.underlying22) fun a hk => ?_
   rcases Classical.em ((((ksv (fun i => (S i).I) k).length : Nat) : Int) < ((m : Nat) : Int)) with hc10 | hc10
   ·
    refine q_v hk (w_lt rfl rfl (decide_eq_true hc10)) fun a hk => ?_
    refine q_v hk (w_as rfl) fun a hk => ?_
    refine c_end (x_t ?_)
    refine c_T hk rfl ?_
    refine wS (wR ?_)
    refine q_v hk (w_as rfl) fun a hk => ?_
    refine c_end (x_t ?_)
    refine (wpIn_ret (x_br (x_tr ?_)))
    refine c_ret1 hk rfl rfl ?_
    have hB := hs.toBelow
    obtain rfl : m = k := by omega
    refine ⟨?_, hB⟩
    have he : csErr S m = 15 := by
     unfold csErr
     rw [if_neg (by simp [hf1])]
     first | (rw [if_pos (hf2.symm)]; done) | (rw [if_neg (by rw [← hf2]; exact Bool.false_ne_true)]; (repeat' split) <;> first | rfl | omega | contradiction)
    rw [he]
   ·
    refine q_v hk (w_lt rfl rfl (decide_eq_false hc10)) fun a hk => ?_
    refine q_v hk (w_as rfl) fun a hk => ?_
    refine c_end (x_t ?_)
    refine c_F hk rfl ?_
    refine wS (wR ?_)
    refine q_v hk (w_mv rfl) fun a hk => ?_
    refine q_v hk (w_len rfl Tryz.underlying22) fun a hk => ?_
    rcases Classical.em (((m : Nat) : Int) = 0) with hc11 | hc11
    ·
     refine q_v hk (w_eq rfl rfl (decide_eq_true hc11)) fun a hk => ?_
     refine q_v hk (w_mv rfl) fun a hk => ?_
     refine q_skip hk rfl rfl fun a hk => ?_
     refine q_skip hk rfl rfl fun a hk => ?_
     refine q_skip hk rfl rfl fun a hk => ?_
     refine q_skip hk rfl rfl fun a hk => ?_
     refine q_skip hk rfl rfl fun a hk => ?_
     refine q_skip hk rfl rfl fun a hk => ?_
     refine q_skip hk rfl rfl fun a hk => ?_
     refine q_v hk (w_pickT rfl rfl) fun a hk => ?_
     refine q_v hk (w_as rfl) fun a hk => ?_
     refine c_end (x_t ?_)
     refine c_T hk rfl ?_
     refine wS (wR ?_)
     refine q_v hk (w_as rfl) fun a hk => ?_
     refine c_end (x_t ?_)
     refine (wpIn_ret (x_br (x_tr ?_)))
     refine c_ret1 hk rfl rfl ?_
     have hB := hs.toBelow
     obtain rfl : m = k := by omega
     refine ⟨?_, hB⟩
     have he : csErr S m = 16 := by
      unfold csErr
      rw [if_neg (by simp [hf1])]
      first | (rw [if_pos (hf2.symm)]; done) | (rw [if_neg (by rw [← hf2]; exact Bool.false_ne_true)]; (repeat' split) <;> first | rfl | omega | contradiction)
     rw [he]
    ·
     refine q_v hk (w_eq rfl rfl (decide_eq_false hc11)) fun a hk => ?_
     refine q_v hk (w_mv rfl) fun a hk => ?_
     refine q_v hk (w_mv rfl) fun a hk => ?_
     refine q_v hk (w_len rfl Tryz.underlying22) fun a hk => ?_
     refine q_v hk (w_mv rfl) fun a hk => ?_
     refine q_v hk (w_iaL (k := 0) rfl rfl Tryz.underlying22 ty53 ((share_lst (HasR.nth 0 rfl : HasR (shareR la m lc S) _)).at_ hs) (by omega) (by omega)) fun a hk => ?_
     refine q_v hk (w_fa rfl fq53_1 ty3) fun a hk => ?_
     refine q_v hk (w_ld1 rfl ty3 (lstf (k := 0) (o := 1) (m := 1) ((share_lst (HasR.nth 0 rfl : HasR (shareR la m lc S) _)).at_ hs) (by omega) (en_chunk shc_len (by omega)) rfl)) fun a hk => ?_
     rcases Classical.em (((m : Nat) : Int) < ((S 0).T)) with hc12 | hc12
     ·
      refine q_v hk (w_lt rfl rfl (decide_eq_true hc12)) fun a hk => ?_
      refine q_v hk (w_pickF rfl rfl) fun a hk => ?_
      refine q_v hk (w_as rfl) fun a hk => ?_
      refine c_end (x_t ?_)
      refine c_T hk rfl ?_
      refine wS (wR ?_)
      refine q_v hk (w_as rfl) fun a hk => ?_
      refine c_end (x_t ?_)
      refine (wpIn_ret (x_br (x_tr ?_)))
      refine c_ret1 hk rfl rfl ?_
      have hB := hs.toBelow
      obtain rfl : m = k := by omega
      refine ⟨?_, hB⟩
      have he : csErr S m = 16 := by
       unfold csErr
       rw [if_neg (by simp [hf1])]
       first | (rw [if_pos (hf2.symm)]; done) | (rw [if_neg (by rw [← hf2]; exact Bool.false_ne_true)]; (repeat' split) <;> first | rfl | omega | contradiction)
      rw [he]
     ·
      refine q_v hk (w_lt rfl rfl (decide_eq_false hc12)) fun a hk => ?_
      refine q_v hk (w_pickF rfl rfl) fun a hk => ?_
      refine q_v hk (w_as rfl) fun a hk => ?_
      refine c_end (x_t ?_)
      refine c_F hk rfl ?_
      refine (wpIn_skip (x_b (x_t ?_)))
      refine wS (wR ?_)
      refine q_v hk (w_as rfl) fun a hk => ?_
      refine c_end (x_t ?_)
      refine (wpIn_ret ?_)
      refine c_ret1 hk rfl rfl ?_
      have hB := hs.toBelow
      obtain rfl : m = k := by omega
      refine ⟨?_, hB⟩
      have he : csErr S m = 0 := by
       unfold csErr
       rw [if_neg (by simp [hf1])]
       first | (rw [if_pos (hf2.symm)]; done) | (rw [if_neg (by rw [← hf2]; exact Bool.false_ne_true)]; (repeat' split) <;> first | rfl | omega | contradiction)
      rw [he]
  ·
   refine c_T hk rfl ?_
   refine wS (wR ?_)
   refine q_v hk (w_as rfl) fun a hk => ?_
   refine c_end (x_t ?_)
   refine (wpIn_ret (x_br (x_tr ?_)))
   refine c_ret1 hk rfl rfl ?_
   have hB := hs.toBelow
   obtain rfl : m = k := by omega
   refine ⟨?_, hB⟩
   have he : csErr S m = 14 := by
    unfold csErr
    rw [if_neg (by simp [hf1])]
    first | (rw [if_pos (hf2.symm)]; done) | (rw [if_neg (by rw [← hf2]; exact Bool.false_ne_true)]; (repeat' split) <;> first | rfl | omega | contradiction)
   rw [he]
theorem indices_c (m lc : Nat) (la : Option Addr) (S : Nat → Shr) (W : World) (HS : (shareR la m lc S).ok W) (hm : m ≤ 1000000) : Calls Tryz.prog 80 [.slice la m lc].toArray W fun e w => ∃ a c, e = .returned (.slice a m c) ∧ Sat no W [row 3 1 (.slice a m c) m (en ic (fun i => (S i).I) m)] [] w := by
 refine c_enter (args := [.slice la m lc]) Tryz.func80 rfl rfl rfl fun a hk => ?_
 have hs := Sat.start W [shareR la m lc S] (okr1 HS)
 refine wS (wR ?_)
 refine q_v hk (w_as rfl) fun a hk => ?_
 refine c_end (x_t (wS (wR ?_)))
 refine q_v hk (w_as rfl) fun a hk => ?_
 refine c_end (x_t (wS (wS (wR ?_))))
 refine q_v hk (w_mv rfl) fun a hk => ?_
 refine q_v hk (w_len rfl Tryz.underlying22) fun a hk => ?_
 refine q_v hk (w_mv rfl) fun a hk => ?_
 refine c_end (x_t ?_)
 refine wpIn_block ?_
 have hs := hs.row0 3 1
 refine c_loop (α := Nat) (fun k a w => ∃ (ao : Option Addr) (co : Nat), k ≤ m ∧ Kn [] 19 [(8, .int .i64 (k : Int)), (3, .slice ao k co), (7, .int .i64 ((m : Nat) : Int)), (6, .slice la m lc), (2, .slice none 0 0)] a ∧ Sat no W [row 3 1 (.slice ao k co) k (en ic (fun i => (S i).I) k)] [shareR la m lc S] w) (fun k => m - k) 0 ?_ ?_
 · exact ⟨_, _, (by omega), hk.k rfl (hk.k rfl (hk.k rfl (hk.k rfl (hk.k rfl hk.nil)))), hs⟩
 rintro k a w ⟨ao, co, hf0, hk, hs⟩
 refine wS (wR ?_)
 rcases Classical.em ((k : Int) < ((m : Nat) : Int)) with hc1 | hc1
 ·
  refine q_v hk (w_lt rfl rfl (decide_eq_true hc1)) fun a hk => ?_
  refine c_end (x_t (wS ?_))
  refine c_T hk rfl ?_
  refine (wpIn_skip (x_t ?_))
  refine wS ?_
  refine wpIn_block ?_
  refine wS (wR ?_)
  refine q_v hk (w_iaL (k := k) rfl rfl Tryz.underlying22 ty53 ((share_lst (HasR.nth 0 rfl : HasR (shareR la m lc S) _)).at_ hs) (by omega) (by omega)) fun a hk => ?_
  refine q_v hk (w_ldA rfl ty53 (lstq (k := k) ((share_lst (HasR.nth 0 rfl : HasR (shareR la m lc S) _)).at_ hs) (by omega) (en_chunk shc_len (by omega))) rfl) fun a hk => ?_
  refine q_alc (vs := [.int .i64 0, .int .i64 0, .int .i64 0, .int .i64 0, .slice none 0 0]) hk hs zr53 rfl rfl rfl fun b2 w a hk hs => ?_
  refine q_sto (o := 0) (cs := [.int .i64 ((S k).F), .int .i64 ((S k).T), .int .i64 ((S k).I), .int .i64 ((S k).L), .slice ((S k).a) ((S k).n) ((S k).c)]) (vs' := [.int .i64 ((S k).F), .int .i64 ((S k).T), .int .i64 ((S k).I), .int .i64 ((S k).L), .slice ((S k).a) ((S k).n) ((S k).c)]) hk hs rfl rfl rfl ty53 rfl rfl rfl rfl rfl rfl fun w hs => ?_
  refine c_end (x_t (wR ?_))
  refine q_v hk (w_mv rfl) fun a hk => ?_
  refine q_v hk (w_fa rfl fq53_2 ty3) fun a hk => ?_
  refine q_v hk (w_ld1 rfl ty3 (.blk (n := 1) (hs.mi 0 rfl) rfl)) fun a hk => ?_
  refine q_bsl (els := [.tmp 14]) (cs := [.int .i64 ((S k).I)]) hk hs rfl Tryz.underlying34 ty3 zr3 rfl rfl rfl rfl rfl rfl rfl fun b3 w a hk hs => ?_
  have hs := hs.up2
  refine q_app (news := [.int .i64 ((S k).I)]) (m := 1) hk hs rfl rfl Tryz.underlying34 ty3 zr3 rfl rfl (.blk (n := 1) (hs.mi 1 rfl) rfl) rfl rfl (by omega) (by omega) rfl rfl fun a4 c5 w a hk hs => ?_
  have hs := hs.up1
  have hs := hs.drop
  refine q_v hk (w_as rfl) fun a hk => ?_
  refine (c_end (x_b (x_t ?_)))
  refine wR ?_
  refine q_v hk (w_add rfl rfl (wr64 (by omega) (by omega))) fun a hk => ?_
  refine q_v hk (w_mv rfl) fun a hk => ?_
  refine c_end (x_t ?_)
  have hs := hs.rw0 (congrArg _ en_succ)
  have hs := hs.up1
  have hs := hs.drop
  exact ⟨k + 1, ⟨_, _, (by omega), hk.k rfl (hk.k rfl (hk.k rfl (hk.k rfl (hk.k rfl hk.nil)))), hs⟩, by omega⟩
 ·
  refine q_v hk (w_lt rfl rfl (decide_eq_false hc1)) fun a hk => ?_
  refine c_end (x_t (wS ?_))
  refine c_F hk rfl ?_
  refine (wpIn_exit (x_te (x_te (x_be ?_))))
  refine (x_t ?_)
  refine wS (wR ?_)
  refine q_v hk (w_mv rfl) fun a hk => ?_
  refine q_v hk (w_as rfl) fun a hk => ?_
  refine c_end (x_t ?_)
  refine (wpIn_ret ?_)
  refine c_ret1 hk rfl rfl ?_
  have hkm : k = m := by omega
  rw [hkm] at hs ⊢
  exact ⟨_, _, rfl, hs.fin⟩
theorem column_c (m lc ch : Nat) (la : Option Addr) (S : Nat → Shr) (W : World) (HS : (shareR la m lc S).ok W) (hm : m ≤ 1000000) (hc : ∀ i, i < m → ch < (S i).n ∧ (S i).n ≤ 100000000) : Calls Tryz.prog 101 [.slice la m lc, .int .i64 ((ch : Nat) : Int)].toArray W fun e w => ∃ b, e = .returned (.slice (some ⟨b, 0, none⟩) m m) ∧ Sat no W [blk b (en vq (fun i => (S i).X ch) m) 56] [] w := by
 refine c_enter (args := [.slice la m lc, .int .i64 ((ch : Nat) : Int)]) Tryz.func101 rfl rfl rfl fun a hk => ?_
 have hs := Sat.start W [shareR la m lc S] (okr1 HS)
 refine wS (wR ?_)
 refine q_v hk (w_as rfl) fun a hk => ?_
 refine c_end (x_t (wS (wR ?_)))
 refine q_v hk (w_mv rfl) fun a hk => ?_
 refine q_v hk (w_len rfl Tryz.underlying22) fun a hk => ?_
 refine q_mks (k := m) (cs := vq 0) hk hs rfl rfl Tryz.underlying51 ty56 zr56 (by kernel_rfl) rfl rfl rfl rfl (by omega) (by omega) rfl rfl fun b1 w a hk hs => ?_
 have hs := hs.rw0 (show _ = blk b1 (en vq (fun _ => 0) m) 56 from rfl)
 refine q_v hk (w_as rfl) fun a hk => ?_
 refine c_end (x_t (wS (wS (wR ?_))))
 refine q_v hk (w_mv rfl) fun a hk => ?_
 refine q_v hk (w_len rfl Tryz.underlying22) fun a hk => ?_
 refine q_v hk (w_mv rfl) fun a hk => ?_
 refine c_end (x_t ?_)
 refine wpIn_block ?_
 have hs := hs.rw0 (congrArg (fun q => blk b1 q 56) (clf_zero (S := S) (ch := ch)))
 refine c_loop (α := Nat) (fun k a w => k ≤ m ∧ Kn [] 34 [(13, .int .i64 ((k : Nat) : Int)), (12, .int .i64 ((m : Nat) : Int)), (11, .slice la m lc), (5, .slice (some ⟨b1, 0, none⟩) m m), (4, .slice none 0 0), (1, .int .i64 ((ch : Nat) : Int))] a ∧ Sat no W [blk b1 (en vq (fun i => clf S ch k i) m) 56] [shareR la m lc S] w) (fun k => m - k) 0 ?_ ?_
 · exact ⟨(by omega), hk.k rfl (hk.k rfl (hk.k rfl (hk.k rfl (hk.k rfl (hk.k rfl hk.nil))))), hs⟩
 rintro k a w ⟨hf0, hk, hs⟩
 refine wS (wR ?_)
 rcases Classical.em (((k : Nat) : Int) < ((m : Nat) : Int)) with hc2 | hc2
 ·
  have hlt : k < m := by omega
  have hck := hc k hlt
  refine q_v hk (w_lt rfl rfl (decide_eq_true hc2)) fun a hk => ?_
  refine c_end (x_t (wS ?_))
  refine c_T hk rfl ?_
  refine (wpIn_skip (x_t ?_))
  refine wS ?_
  refine wpIn_block ?_
  refine wS (wR ?_)
  refine q_v hk (w_mv rfl) fun a hk => ?_
  refine q_v hk (w_iaL (k := k) rfl rfl Tryz.underlying22 ty53 ((share_lst (HasR.nth 0 rfl : HasR (shareR la m lc S) _)).at_ hs) (by omega) (by omega)) fun a hk => ?_
  refine q_v hk (w_ldA rfl ty53 (lstq (k := k) ((share_lst (HasR.nth 0 rfl : HasR (shareR la m lc S) _)).at_ hs) (by omega) (en_chunk shc_len (by omega))) rfl) fun a hk => ?_
  refine q_alc (vs := [.int .i64 0, .int .i64 0, .int .i64 0, .int .i64 0, .slice none 0 0]) hk hs zr53 rfl rfl rfl fun b3 w a hk hs => ?_
  refine q_v hk (w_as rfl) fun a hk => ?_
  refine q_sto (o := 0) (cs := [.int .i64 ((S k).F), .int .i64 ((S k).T), .int .i64 ((S k).I), .int .i64 ((S k).L), .slice ((S k).a) ((S k).n) ((S k).c)]) (vs' := [.int .i64 ((S k).F), .int .i64 ((S k).T), .int .i64 ((S k).I), .int .i64 ((S k).L), .slice ((S k).a) ((S k).n) ((S k).c)]) hk hs rfl rfl rfl ty53 rfl rfl rfl rfl rfl rfl fun w hs => ?_
  refine c_end (x_t (wS (wR ?_)))
  refine q_v hk (w_mv rfl) fun a hk => ?_
  refine q_v hk (w_fa rfl fq53_4 ty51) fun a hk => ?_
  refine q_v hk (w_ld1 rfl ty51 (.blk (n := 1) (hs.mi 0 rfl) rfl)) fun a hk => ?_
  refine q_v hk (w_len rfl Tryz.underlying51) fun a hk => ?_
  refine q_v hk (w_sub rfl rfl (wr64 (by omega) (by omega))) fun a hk => ?_
  refine q_call (caps := []) hk rfl rfl Tryz.func136 fo136 rfl rfl (between_t _ _ _ _ (by omega)) ?_
  rintro _ _ ⟨rfl, rfl⟩
  refine ⟨_, rfl, fun a hk => ?_⟩
  refine c_end (x_t ?_)
  refine c_T hk rfl ?_
  refine wR ?_
  refine q_v hk (w_mv rfl) fun a hk => ?_
  refine q_v hk (w_mv rfl) fun a hk => ?_
  refine q_v hk (w_fa rfl fq53_4 ty51) fun a hk => ?_
  refine q_v hk (w_ld1 rfl ty51 (.blk (n := 1) (hs.mi 0 rfl) rfl)) fun a hk => ?_
  refine q_v hk (w_mv rfl) fun a hk => ?_
  refine q_v hk (w_iaL (k := ch) rfl rfl Tryz.underlying51 ty56 ((share_pay (k := k) (HasR.nth 0 rfl : HasR (shareR la m lc S) _) (by omega)).at_ hs) (by omega) (by omega)) fun a hk => ?_
  refine q_v hk (w_ldv (z := (S k).X ch) rfl ty56 (lstq (k := ch) ((share_pay (k := k) (HasR.nth 0 rfl : HasR (shareR la m lc S) _) (by omega)).at_ hs) (by omega) (en_chunk vq_len (by omega)))) fun a hk => ?_
  refine q_v hk (w_iaL (k := k) rfl rfl Tryz.underlying51 ty56 (blk_lst (hs.mi 1 rfl) (en_len vq_len) (Nat.le_refl _)) (by omega) (by omega)) fun a hk => ?_
  have hs := hs.up1
  refine q_stoE (c := vq) (xx := ((S k).X ch)) (k := k) hk hs rfl rfl rfl ty56 rfl vq_len rfl (by omega) rfl fun w hs => ?_
  refine (c_end (x_b (x_t ?_)))
  refine wR ?_
  refine q_v hk (w_add rfl rfl (wr64 (by omega) (by omega))) fun a hk => ?_
  refine q_v hk (w_mv rfl) fun a hk => ?_
  refine c_end (x_t ?_)
  have hs := hs.rw0 (congrArg (fun q => blk b1 q 56) (clf_step (S := S) (ch := ch)))
  have hs := hs.up1
  have hs := hs.drop
  exact ⟨k + 1, ⟨(by omega), hk.k rfl (hk.k rfl (hk.k rfl (hk.k rfl (hk.k rfl (hk.k rfl hk.nil))))), hs⟩, by omega⟩
 ·
  refine q_v hk (w_lt rfl rfl (decide_eq_false hc2)) fun a hk => ?_
  refine c_end (x_t (wS ?_))
  refine c_F hk rfl ?_
  refine (wpIn_exit (x_te (x_te (x_be ?_))))
  refine (x_t ?_)
  refine wS (wR ?_)
  refine q_v hk (w_mv rfl) fun a hk => ?_
  refine q_v hk (w_as rfl) fun a hk => ?_
  refine c_end (x_t ?_)
  refine (wpIn_ret ?_)
  refine c_ret1 hk rfl rfl ?_
  have hkm : k = m := by omega
  rw [hkm] at hs
  rw [clf_end] at hs
  exact ⟨_, rfl, hs.fin⟩
end Go.Proofs.YtdnkkbmpefhbjaaGreatDoor
namespace Go.Proofs.YtdnkkbmpefhbjaaGreatDoor
set_option linter.all false
open Go Go.RowKit Alg
theorem interp_len2 {n : Nat} (h : n ≤ 255) : (interpE (n : Int)).length ≤ 140000 := by
  have h1 := weights_len (n := (n : Int)) (by omega)
  have h2 : (upE 0 (n : Int) (pairT n)).length ≤ n * n := pairTs_len
  have h3 : n * n ≤ 255 * 255 := Nat.mul_le_mul h h
  have e : interpE (n : Int) = weightsE (n : Int) ++ upE 0 (n : Int) (pairT n) := rfl
  rw [e, List.length_append]; omega
end Go.Proofs.YtdnkkbmpefhbjaaGreatDoor
namespace Go.Proofs.YtdnkkbmpefhbjaaGreatDoor
set_option linter.all false
open Go Go.RowKit Alg
structure Good (s : Bool) (S : Nat → Shr) (m : Nat) : Prop where
  m0 : 0 < m
  F : ∀ i, i < m → (S i).F = fid s
  T : ∀ i, i < m → (S i).T = (S 0).T
  Lq : ∀ i, i < m → (S i).L = (S 0).L
  n : ∀ i, i < m → (S i).n = (S 0).n
  idx : ∀ i, i < m → 1 ≤ (S i).I ∧ (S i).I ≤ 255
  app : ∀ i k, i < k → k < m → (S i).I ≠ (S k).I
  X : ∀ i, i < m → ∀ j, j < (S 0).n → (S i).X j < pr s
  t1 : 1 ≤ (S 0).T
  tm : (S 0).T ≤ (m : Int)
  l0 : 0 ≤ (S 0).L
  l1 : (S 0).L ≤ 65535
  cn : (S 0).n = cn (S 0).L
/-- The indices, the threshold as numbers; a column's elements. -/
def vI (S : Nat → Shr) (i : Nat) : Nat := (S i).I.toNat
def thN (S : Nat → Shr) : Nat := (S 0).T.toNat
def clz (s : Bool) (S : Nat → Shr) (ch i : Nat) : Zp s := mz s ((S i).X ch)
section
variable {s : Bool} {S : Nat → Shr} {m : Nat} (g : Good s S m)
include g
theorem Good.v_eq {i : Nat} (hi : i < m) : (S i).I = ((vI S i : Nat) : Int) := by have := g.idx i hi; unfold vI; omega
theorem Good.v_le (i : Nat) (hi : i < m) : 1 ≤ vI S i ∧ vI S i ≤ 255 := by have := g.idx i hi; unfold vI; omega
theorem Good.v_ne (i k : Nat) (hik : i < k) (hk : k < m) : vI S i ≠ vI S k := fun h => g.app i k hik hk (by rw [g.v_eq (Nat.lt_trans hik hk), g.v_eq hk, h])
theorem Good.th : (S 0).T = ((thN S : Nat) : Int) := by have := g.t1; unfold thN; omega
theorem Good.th_le : 1 ≤ thN S ∧ thN S ≤ m := by have := g.t1; have := g.tm; unfold thN; omega
theorem Good.xs_eq : en ic (fun i => (S i).I) m = en ic (fun i => ((vI S i : Nat) : Int)) m := en_congr fun i hi => g.v_eq hi
theorem Good.col_eq {ch : Nat} (hc : ch < (S 0).n) : en vq (fun i => (S i).X ch) m = en vq (fun i => mq (clz s S ch i)) m := en_congr fun i hi => (mz_mq (g.X i hi ch hc)).symm
end
/-- The program's fields, as something that is only read. -/
def laidR : Res where
  foot := (· = 0)
  ok w := Laid w
  loc w w' h k := fun j v hv => by rw [cell?_block (h _ rfl)]; exact k j v hv
  lt w k h hk := by subst hk; exact h.pos
end Go.Proofs.YtdnkkbmpefhbjaaGreatDoor
namespace Go.Proofs.YtdnkkbmpefhbjaaGreatDoor
set_option linter.all false
open Go Go.RowKit Alg
end Go.Proofs.YtdnkkbmpefhbjaaGreatDoor
namespace Go.Proofs.YtdnkkbmpefhbjaaGreatDoor
set_option linter.all false
open Go Go.RowKit Alg
section
variable {s : Bool}
/-- The sum of the c k * f k below n. -/
def Sg (c f : Nat → Zp s) : Nat → Zp s
  | 0 => 0
  | k + 1 => Sg c f k + c k * f k
theorem Sg_ev (c : Nat → Zp s) (z : Zp s) : ∀ n, rEv c z n = Sg c (pw z) n
  | 0 => rfl
  | n + 1 => by show rEv c z n + _ = Sg c (pw z) n + _; rw [Sg_ev c z n]
theorem Sg_congr {c d f : Nat → Zp s} : ∀ {n : Nat}, (∀ k, k < n → c k = d k) → Sg c f n = Sg d f n
  | 0, _ => rfl
  | n + 1, h => by show Sg c f n + _ = Sg d f n + _; rw [Sg_congr fun k hk => h k (by omega), h n (by omega)]
theorem Sg_zero {c f : Nat → Zp s} : ∀ {n : Nat}, (∀ k, k < n → c k = 0) → Sg c f n = 0
  | 0, _ => rfl
  | n + 1, h => by show Sg c f n + c n * f n = 0; rw [Sg_zero fun k hk => h k (by omega), h n (by omega)]; grind
theorem Sg_add (c d f : Nat → Zp s) (e : Zp s) : ∀ n, Sg (fun k => c k + e * d k) f n = Sg c f n + e * Sg d f n
  | 0 => by show (0 : Zp s) = 0 + e * 0; grind
  | n + 1 => by show Sg _ f n + (c n + e * d n) * f n = Sg c f n + c n * f n + e * (Sg d f n + d n * f n); rw [Sg_add c d f e n]; grind
theorem Sg_upd (g f : Nat → Zp s) (e : Zp s) (i : Nat) : ∀ n, Sg (fun j => if j = i then g j + e else g j) f n = Sg g f n + if i < n then e * f i else 0
  | 0 => by rw [if_neg (Nat.not_lt_zero i)]; show (0 : Zp s) = 0 + 0; grind
  | n + 1 => by
    show Sg _ f n + (if n = i then g n + e else g n) * f n = Sg g f n + g n * f n + _
    rw [Sg_upd g f e i n]
    by_cases h : n = i
    · subst h; rw [if_neg (Nat.lt_irrefl _), if_pos rfl, if_pos (Nat.lt_succ_self _)]; grind
    · rw [if_neg h]
      by_cases l : i < n
      · rw [if_pos l, if_pos (by omega)]; grind
      · rw [if_neg l, if_neg (by omega)]; grind
/-- A product with X - b. -/
theorem Sg_lin (c f : Nat → Zp s) (b : Zp s) (N : Nat) : ∀ n, n + 1 ≤ N → Sg (mall c (lin b) 2 n) f N = Sg c (fun k => f (k + 1) - b * f k) n
  | 0, _ => Sg_zero fun _ _ => rfl
  | n + 1, h => by
    have ih := Sg_lin c f b N n (by omega)
    show Sg (fun j => if j = n + 1 then (if j = n then mall c (lin b) 2 n j + c n * lin b 0 else mall c (lin b) 2 n j) + c n * lin b 1 else (if j = n then mall c (lin b) 2 n j + c n * lin b 0 else mall c (lin b) 2 n j)) f N = Sg c _ n + c n * (f (n + 1) - b * f n)
    rw [Sg_upd (fun j => if j = n then mall c (lin b) 2 n j + c n * lin b 0 else mall c (lin b) 2 n j), Sg_upd (mall c (lin b) 2 n), if_pos (by omega), if_pos (by omega), ih]
    show _ + c n * (0 - b) * f n + c n * 1 * f (n + 1) = _
    grind
theorem Sg_pw (c : Nat → Zp s) (z b : Zp s) : ∀ n, Sg c (fun k => pw z (k + 1) - b * pw z k) n = (z - b) * Sg c (pw z) n
  | 0 => by show (0 : Zp s) = (z - b) * 0; grind
  | n + 1 => by
    show Sg c _ n + c n * (pw z n * z - b * pw z n) = (z - b) * (Sg c (pw z) n + c n * pw z n)
    rw [Sg_pw c z b n]; grind
/-- (z^k - a^k) / (z - a). -/
def psi (a z : Zp s) : Nat → Zp s
  | 0 => 0
  | k + 1 => psi a z k * a + pw z k
theorem Sg_dp (c : Nat → Zp s) (z b : Zp s) : ∀ n, Sg c (fun k => psi z z (k + 1) - b * psi z z k) n = (z - b) * Sg c (psi z z) n + Sg c (pw z) n
  | 0 => by show (0 : Zp s) = (z - b) * 0 + 0; grind
  | n + 1 => by
    show Sg c _ n + c n * (psi z z n * z + pw z n - b * psi z z n) = (z - b) * (Sg c (psi z z) n + c n * psi z z n) + (Sg c (pw z) n + c n * pw z n)
    rw [Sg_dp c z b n]; grind
theorem psi_eq (a z : Zp s) : ∀ k, (z - a) * psi a z k = pw z k - pw a k
  | 0 => by show (z - a) * 0 = 1 - 1; grind
  | k + 1 => by
    have ih := psi_eq a z k
    show (z - a) * (psi a z k * a + pw z k) = pw z k * z - pw a k * a
    grind
theorem Sg_psi (c : Nat → Zp s) (a z : Zp s) : ∀ n, (z - a) * Sg c (psi a z) n = Sg c (pw z) n - Sg c (pw a) n
  | 0 => by show (z - a) * 0 = (0 : Zp s) - 0; grind
  | n + 1 => by
    have ih := Sg_psi c a z n
    have h := psi_eq a z n
    show (z - a) * (Sg c (psi a z) n + c n * psi a z n) = Sg c (pw z) n + c n * pw z n - (Sg c (pw a) n + c n * pw a n)
    grind
/-- Horner's partial values are the coefficients of the quotient. -/
theorem Hn_part (c : Nat → Zp s) (a z : Zp s) (n : Nat) : ∀ j, j ≤ n + 1 → Sg c (psi a z) (n + 1) - Sg c (psi a z) (n + 1 - j) = Sg (fun k => Hn c (n + 1) a (n - k)) (pw z) (n + 1) - Sg (fun k => Hn c (n + 1) a (n - k)) (pw z) (n + 1 - j) + Hn c (n + 1) a j * psi a z (n + 1 - j)
  | 0, _ => by show Sg c _ (n + 1) - Sg c _ (n + 1) = Sg _ _ (n + 1) - Sg _ _ (n + 1) + 0 * _; grind
  | j + 1, h => by
    have ih := Hn_part c a z n j (by omega)
    obtain ⟨m, hm⟩ : ∃ m, n = m + j := ⟨n - j, by omega⟩
    rw [show n + 1 - j = m + 1 by omega] at ih
    rw [show n + 1 - (j + 1) = m by omega]
    have e1 : Sg c (psi a z) (m + 1) = Sg c (psi a z) m + c m * psi a z m := rfl
    have e2 : Sg (fun k => Hn c (n + 1) a (n - k)) (pw z) (m + 1) = Sg (fun k => Hn c (n + 1) a (n - k)) (pw z) m + Hn c (n + 1) a j * pw z m := by
      show _ + Hn c (n + 1) a (n - m) * _ = _
      rw [show n - m = j by omega]
    have e3 : Hn c (n + 1) a (j + 1) = Hn c (n + 1) a j * a + c m := by
      show _ + c (n + 1 - 1 - j) = _
      rw [show n + 1 - 1 - j = m by omega]
    have e4 : psi a z (m + 1) = psi a z m * a + pw z m := rfl
    rw [e1, e2, e4] at ih
    rw [e3]
    generalize Sg c (psi a z) (n + 1) = A1 at *
    generalize Sg c (psi a z) m = A2 at *
    generalize Sg (fun k => Hn c (n + 1) a (n - k)) (pw z) (n + 1) = A3 at *
    generalize Sg (fun k => Hn c (n + 1) a (n - k)) (pw z) m = A4 at *
    grind
theorem Hn_quo (c : Nat → Zp s) (a z : Zp s) (n : Nat) : Sg (fun k => Hn c (n + 1) a (n - k)) (pw z) n = Sg c (psi a z) (n + 1) := by
  have h := Hn_part c a z n (n + 1) (Nat.le_refl _)
  rw [Nat.sub_self] at h
  have e : Sg (fun k => Hn c (n + 1) a (n - k)) (pw z) (n + 1) = Sg (fun k => Hn c (n + 1) a (n - k)) (pw z) n + 0 * pw z n := by
    show _ + Hn c (n + 1) a (n - n) * _ = _
    rw [Nat.sub_self]; rfl
  rw [e] at h
  have h0 : Sg c (psi a z) 0 = 0 := rfl
  have h1 : Sg (fun k => Hn c (n + 1) a (n - k)) (pw z) 0 = 0 := rfl
  have h2 : psi a z 0 = 0 := rfl
  rw [h0, h1, h2] at h
  grind
/-- Horner's last value is the value. -/
theorem Hn_top (c : Nat → Zp s) (z : Zp s) (n : Nat) : ∀ j, j ≤ n → Sg c (pw z) n = Sg c (pw z) (n - j) + Hn c n z j * pw z (n - j)
  | 0, _ => by show _ = _ + 0 * _; grind
  | j + 1, h => by
    have ih := Hn_top c z n j (by omega)
    obtain ⟨m, hm⟩ : ∃ m, n = m + (j + 1) := ⟨n - (j + 1), by omega⟩
    rw [show n - j = m + 1 by omega] at ih
    rw [show n - (j + 1) = m by omega, ih]
    show Sg c (pw z) m + c m * pw z m + Hn c n z j * (pw z m * z) = Sg c (pw z) m + (Hn c n z j * z + c (n - 1 - j)) * pw z m
    rw [show n - 1 - j = m by omega]
    grind
theorem Hn_ev (c : Nat → Zp s) (z : Zp s) (n : Nat) : Hn c n z n = Sg c (pw z) n := by
  have h := Hn_top c z n n (Nat.le_refl _)
  rw [Nat.sub_self] at h
  have e : Sg c (pw z) 0 = 0 := rfl
  have e2 : pw z 0 = 1 := rfl
  rw [e, e2] at h
  grind
/-! The product of the X - x i. -/
def Pd (x : Nat → Zp s) (z : Zp s) : Nat → Zp s
  | 0 => 1
  | k + 1 => (z - x k) * Pd x z k
theorem mst_ev (x : Nat → Zp s) (z : Zp s) : ∀ k, Sg (mst x k) (pw z) (k + 1) = Pd x z k
  | 0 => by show (0 : Zp s) + 1 * 1 = 1; grind
  | k + 1 => by
    show Sg (mall (mst x k) (lin (x k)) 2 (k + 1)) (pw z) (k + 2) = _
    rw [Sg_lin _ _ _ _ _ (Nat.le_refl _), Sg_pw, mst_ev x z k]; rfl
theorem mst_d (x : Nat → Zp s) (z : Zp s) (k : Nat) : Sg (mst x (k + 1)) (psi z z) (k + 2) = (z - x k) * Sg (mst x k) (psi z z) (k + 1) + Pd x z k := by
  show Sg (mall (mst x k) (lin (x k)) 2 (k + 1)) (psi z z) (k + 2) = _
  rw [Sg_lin _ _ _ _ _ (Nat.le_refl _), Sg_dp, mst_ev]
theorem Pd_zero (x : Nat → Zp s) (u : Nat) : ∀ k, u < k → Pd x (x u) k = 0
  | k + 1, h => by
    show (x u - x k) * Pd x (x u) k = 0
    by_cases e : u = k
    · subst e; grind
    · rw [Pd_zero x u k (by omega)]; grind
theorem Pd_wr (x : Nat → Zp s) (u : Nat) : ∀ k, k ≤ u → Pd x (x u) k = wr x u k
  | 0, _ => rfl
  | k + 1, h => by
    show (x u - x k) * Pd x (x u) k = if k = u then _ else wr x u k * (x u - x k)
    rw [if_neg (by omega), Pd_wr x u k (by omega)]; grind
theorem mst_wr (x : Nat → Zp s) (u : Nat) : ∀ k, u < k → Sg (mst x k) (psi (x u) (x u)) (k + 1) = wr x u k
  | k + 1, h => by
    rw [mst_d]
    show _ = if k = u then wr x u k else wr x u k * (x u - x k)
    by_cases e : k = u
    · subst e; rw [if_pos rfl, Pd_wr x k k (Nat.le_refl _)]; grind
    · rw [if_neg e, mst_wr x u k (by omega), Pd_zero x u k (by omega)]; grind
/-! Elements of which the power p - 1 is one. -/
def Fm (d : Zp s) : Prop := pw d (pr s - 1) = 1
theorem pr_ge (s : Bool) : 2 ≤ pr s := by cases s <;> decide
theorem Fm.one : Fm (1 : Zp s) := pw_of_one _
theorem Fm.mul {d e : Zp s} (h : Fm d) (k : Fm e) : Fm (d * e) := by unfold Fm at *; rw [pw_prod, h, k]; grind
theorem Fm.inv {d : Zp s} (h : Fm d) : zinv d * d = 1 := by
  have e : pr s - 1 = pr s - 2 + 1 := by have := pr_ge s; omega
  unfold Fm at h
  rw [e] at h
  exact h
theorem Fm.un {d : Zp s} (h : Fm d) : Un d := ⟨_, h.inv⟩
theorem one_ne (s : Bool) : (1 : Zp s) ≠ 0 := fun h => by have := congrArg Fin.val h; rw [one_val, Fin.val_zero] at this; omega
theorem Fm.ne {d : Zp s} (h : Fm d) : d ≠ 0 := fun e => by have h1 := h.inv; rw [e] at h1; exact one_ne s (by grind)
theorem pw_sq (d : Zp s) (n : Nat) : pw d (2 * n) = pw (d * d) n := by
  rw [← pw_pw]
  congr 1
  show 1 * d * d = d * d
  grind
theorem Fm.neg {d : Zp s} (h : Fm d) : Fm (0 - d) := by
  have e : pr s - 1 = 2 * ((pr s - 1) / 2) := by cases s <;> decide
  unfold Fm at *
  rw [e, pw_sq] at h ⊢
  rw [show (0 - d) * (0 - d) = d * d by grind]
  exact h
theorem wr_Fm {x : Nat → Zp s} {u n : Nat} (h : ∀ k, k < n → k ≠ u → Fm (x u - x k)) : ∀ k, k ≤ n → Fm (wr x u k)
  | 0, _ => Fm.one
  | k + 1, hk => by
    show Fm (if k = u then _ else _)
    by_cases e : k = u
    · rw [if_pos e]; exact wr_Fm h k (by omega)
    · rw [if_neg e]; exact (wr_Fm h k (by omega)).mul (h k (by omega) e)
/-! Batch's inverses. -/
theorem nz_of {d : Zp s} (h : Fm d) : nz d = d := by unfold nz; rw [if_neg h.ne]
theorem Pp_Fm {x : Nat → Zp s} {n : Nat} (h : ∀ k, k < n → Fm (x k)) : ∀ k, k ≤ n → Fm (Pp x k)
  | 0, _ => Fm.one
  | k + 1, hk => by show Fm (Pp x k * nz (x k)); rw [nz_of (h k (by omega))]; exact (Pp_Fm h k (by omega)).mul (h k (by omega))
theorem Iv_Pp {x : Nat → Zp s} {n : Nat} (h : ∀ k, k < n → Fm (x k)) : ∀ j, j ≤ n → Iv x n j * Pp x (n - j) = 1
  | 0, _ => (Pp_Fm h n (Nat.le_refl _)).inv
  | j + 1, hj => by
    have ih := Iv_Pp h j (by omega)
    obtain ⟨m, hm⟩ : ∃ m, n = m + (j + 1) := ⟨n - (j + 1), by omega⟩
    rw [show n - j = m + 1 by omega] at ih
    rw [show n - (j + 1) = m by omega]
    show Iv x n j * nz (x (n - 1 - j)) * Pp x m = 1
    rw [show n - 1 - j = m by omega]
    have e : Pp x (m + 1) = Pp x m * nz (x m) := rfl
    rw [e] at ih
    grind
theorem binv_mul {x : Nat → Zp s} {n i : Nat} (h : ∀ k, k < n → Fm (x k)) (hi : i < n) : binv x n i * x i = 1 := by
  have e := Iv_Pp h (n - 1 - i) (by omega)
  rw [show n - (n - 1 - i) = i + 1 by omega] at e
  have e2 : Pp x (i + 1) = Pp x i * nz (x i) := rfl
  rw [e2, nz_of (h i hi)] at e
  unfold binv
  rw [if_neg (h i hi).ne]
  grind
/-! Interpolation. -/
/-- The first n points lie apart. -/
def Fap (x : Nat → Zp s) (n : Nat) : Prop := ∀ i k, i < n → k < n → i ≠ k → Fm (x i - x k)
theorem Fap.le {x : Nat → Zp s} {n m : Nat} (h : Fap x n) (hm : m ≤ n) : Fap x m := fun i k hi hk => h i k (by omega) (by omega)
variable {x y : Nat → Zp s} {n : Nat}
theorem itp_at (h : Fap x n) {j : Nat} (hj : j < n) : ∀ m, m ≤ n → Sg (itp x y n m) (pw (x j)) n = if j < m then y j else 0
  | 0, _ => by rw [if_neg (Nat.not_lt_zero j)]; exact Sg_zero fun _ _ => rfl
  | u + 1, hu => by
    have ih := itp_at h hj u (by omega)
    have e : Sg (itp x y n (u + 1)) (pw (x j)) n = Sg (itp x y n u) (pw (x j)) n + wgt x n u * y u * Sg (mst x n) (psi (x u) (x j)) (n + 1) := by
      rw [← Hn_quo]
      exact Sg_add _ _ _ _ n
    rw [e, ih]
    by_cases hju : j = u
    · subst hju
      rw [if_neg (Nat.lt_irrefl j), if_pos (Nat.lt_succ_self j), mst_wr x j n hj]
      have hw : wgt x n j * wr x j n = 1 := binv_mul (x := fun i => wr x i n) (fun k hk => wr_Fm (fun k' hk' hne => h k k' hk hk' (Ne.symm hne)) n (Nat.le_refl n)) hj
      grind
    · have h0 : (x j - x u) * Sg (mst x n) (psi (x u) (x j)) (n + 1) = 0 := by
        rw [Sg_psi, mst_ev, mst_ev, Pd_zero x j n hj, Pd_zero x u n (by omega)]; grind
      rw [(h j u hj (by omega) hju).un.zero h0]
      by_cases l : j < u
      · rw [if_pos l, if_pos (by omega)]; grind
      · rw [if_neg l, if_neg (by omega)]; grind
/-- The program's polynomial has the values. -/
theorem itp_val (h : Fap x n) {j : Nat} (hj : j < n) : Sg (itp x y n n) (pw (x j)) n = y j := by rw [itp_at h hj n (Nat.le_refl n), if_pos hj]
/-- The product of the z - x i without the u-th. -/
def Pw (x : Nat → Zp s) (z : Zp s) (u : Nat) : Nat → Zp s
  | 0 => 1
  | k + 1 => if k = u then Pw x z u k else (z - x k) * Pw x z u k
theorem Pw_zero {z : Zp s} {u j : Nat} (hz : z = x j) (hju : j ≠ u) : ∀ k, j < k → Pw x z u k = 0
  | k + 1, hk => by
    show (if k = u then Pw x z u k else (z - x k) * Pw x z u k) = 0
    by_cases e : k = u
    · rw [if_pos e]; exact Pw_zero hz hju k (by omega)
    · rw [if_neg e]
      by_cases e2 : k = j
      · subst e2; grind
      · rw [Pw_zero hz hju k (by omega)]; grind
theorem Pw_wr {u : Nat} : ∀ k, Pw x (x u) u k = wr x u k
  | 0 => rfl
  | k + 1 => by
    show (if k = u then _ else _) = if k = u then _ else _
    rw [Pw_wr k]
    by_cases e : k = u
    · rw [if_pos e, if_pos e]
    · rw [if_neg e, if_neg e]; grind
theorem rcf_ev (z : Zp s) {u : Nat} : ∀ k, Sg (rcf x y n u k) (pw z) (rln u k) = zinv (wr x u n) * y u * Pw x z u k
  | 0 => by
    unfold rln
    rw [if_neg (Nat.not_lt_zero u)]
    show (0 : Zp s) + zinv (wr x u n) * y u * 1 = zinv (wr x u n) * y u * 1
    grind
  | k + 1 => by
    have ih := rcf_ev z (u := u) k
    show Sg (if k = u then _ else _) _ _ = _ * (if k = u then _ else _)
    by_cases e : k = u
    · rw [if_pos e, if_pos e, ← ih]
      congr 1
      unfold rln
      rw [if_pos (by omega), if_neg (by omega)]
    · rw [if_neg e, if_neg e, show rln u (k + 1) = rln u k + 1 from by unfold rln; by_cases l : u < k <;> simp [l, show (u < k + 1) ↔ u < k by omega], Sg_lin _ _ _ _ _ (Nat.le_refl _), Sg_pw, ih]
      grind
theorem rip_at (h : Fap x n) {j : Nat} (hj : j < n) : ∀ m, m ≤ n → Sg (rip x y n m) (pw (x j)) n = if j < m then y j else 0
  | 0, _ => by rw [if_neg (Nat.not_lt_zero j)]; exact Sg_zero fun _ _ => rfl
  | u + 1, hu => by
    have ih := rip_at h hj u (by omega)
    have e : Sg (rip x y n (u + 1)) (pw (x j)) n = Sg (rip x y n u) (pw (x j)) n + 1 * Sg (rcf x y n u n) (pw (x j)) n := by
      rw [← Sg_add]
      exact Sg_congr fun k _ => by show _ + _ = _ + 1 * _; grind
    have e2 := rcf_ev (x := x) (y := y) (n := n) (x j) (u := u) n
    rw [show rln u n = n by unfold rln; rw [if_pos (by omega)]] at e2
    rw [e, ih, e2]
    by_cases hju : j = u
    · subst hju
      rw [if_neg (Nat.lt_irrefl j), if_pos (Nat.lt_succ_self j), Pw_wr]
      have hw := (wr_Fm (x := x) (u := j) (n := n) (fun k hk hne => h j k hj hk (Ne.symm hne)) n (Nat.le_refl n)).inv
      grind
    · rw [Pw_zero rfl hju n hj]
      by_cases l : j < u
      · rw [if_pos l, if_pos (by omega)]; grind
      · rw [if_neg l, if_neg (by omega)]; grind
/-- The reference's polynomial has the values. -/
theorem rip_val (h : Fap x n) {j : Nat} (hj : j < n) : Sg (rip x y n n) (pw (x j)) n = y j := by rw [rip_at h hj n (Nat.le_refl n), if_pos hj]
/-! Uniqueness. -/
def lsf (c : Nat → Zp s) (n : Nat) : List (Zp s) := (List.range n).map c
theorem lsf_ev (c : Nat → Zp s) (z : Zp s) : ∀ n, Alg.ev (lsf c n) z = Sg c (pw z) n
  | 0 => rfl
  | n + 1 => by
    unfold lsf
    rw [List.range_succ, List.map_append, List.map_singleton, ev_app, List.length_map, List.length_range]
    show Alg.ev (lsf c n) z + _ = _
    rw [lsf_ev c z n]; rfl
theorem same_val {c d : Nat → Zp s} (h : Fap x n) (hv : ∀ j, j < n → Sg c (pw (x j)) n = Sg d (pw (x j)) n) {k : Nat} (hk : k < n) : c k = d k := by
  have hA : Ap ((List.range n).map x) := by
    unfold Ap
    rw [List.pairwise_map]
    refine List.Pairwise.imp_of_mem ?_ (List.pairwise_lt_range (n := n))
    intro i j hi hj hij
    exact (h j i (List.mem_range.1 hj) (List.mem_range.1 hi) (by omega)).un
  have e := Alg.same_of ((List.range n).map x) (lsf c n) (lsf d n) hA (by simp [lsf]) (by simp [lsf]) (fun z hz => by
    obtain ⟨j, hj, rfl⟩ := List.mem_map.1 hz
    rw [lsf_ev, lsf_ev]
    exact hv j (List.mem_range.1 hj))
  have e2 := congrArg (fun l => l[k]?) e
  simpa [lsf, hk] using e2
/-- The same coefficients. -/
theorem itp_rip (h : Fap x n) {k : Nat} (hk : k < n) : itp x y n n k = rip x y n n k := same_val h (fun j hj => by rw [itp_val h hj, rip_val h hj]) hk
/-- A polynomial with the values is the program's. -/
theorem itp_of {c : Nat → Zp s} (h : Fap x n) (hv : ∀ j, j < n → Sg c (pw (x j)) n = y j) {k : Nat} (hk : k < n) : itp x y n n k = c k := same_val h (fun j hj => by rw [itp_val h hj, hv j hj]) hk
theorem dot_itp : ∀ m, 1 ≤ n → dot (zw x n) y m = itp x y n m 0
  | 0, _ => rfl
  | m + 1, h => by
    show dot (zw x n) y m + wgt x n m * Hn (mst x n) (n + 1) (x m) n * y m = itp x y n m 0 + wgt x n m * y m * Hn (mst x n) (n + 1) (x m) (n + 1 - 1 - 0)
    rw [dot_itp m h]
    show _ = itp x y n m 0 + wgt x n m * y m * Hn (mst x n) (n + 1) (x m) n
    grind
end
end Go.Proofs.YtdnkkbmpefhbjaaGreatDoor
namespace Go.Proofs.YtdnkkbmpefhbjaaGreatDoor
set_option linter.all false
open Go Go.RowKit Alg
theorem shE_zero {x : Shr} (h : shE x = 0) : (x.F = 1 ∨ x.F = 2) ∧ (1 ≤ x.T ∧ x.T ≤ 255) ∧ (1 ≤ x.I ∧ x.I ≤ 255) ∧ (0 ≤ x.L ∧ x.L ≤ 65535) ∧ x.n = cn x.L ∧ okB (decide (x.F = 2)) x.X x.n = true := by
  unfold shE shErr at h
  by_cases h1 : x.F = 1 ∨ x.F = 2
  · rw [if_pos h1] at h
    by_cases h2 : 1 ≤ x.T ∧ x.T ≤ 255
    · rw [if_pos h2] at h
      by_cases h3 : 1 ≤ x.I ∧ x.I ≤ 255
      · rw [if_pos h3] at h
        by_cases h4 : 0 ≤ x.L ∧ x.L ≤ 65535
        · rw [if_pos h4] at h
          by_cases h5 : x.n = cn x.L
          · rw [if_pos h5] at h
            by_cases h6 : okB (decide (x.F = 2)) x.X x.n = true
            · exact ⟨h1, h2, h3, h4, h5, h6⟩
            · rw [if_neg h6] at h; cases h
          · rw [if_neg h5] at h; cases h
        · rw [if_neg h4] at h; cases h
      · rw [if_neg h3] at h; cases h
    · rw [if_neg h2] at h; cases h
  · rw [if_neg h1] at h; cases h
theorem csE_zero {S : Nat → Shr} : ∀ {m : Nat}, csE S m = 0 ↔ ∀ k, k < m → shE (S k) = 0
  | 0 => ⟨fun _ k h => by omega, fun _ => rfl⟩
  | m + 1 => by
    have ih := csE_zero (S := S) (m := m)
    constructor
    · intro h
      have h' : (if csE S m ≠ 0 then csE S m else shE (S m)) = 0 := h
      by_cases hz : csE S m = 0
      · rw [if_neg (by simp [hz])] at h'
        intro k hk
        by_cases e : k = m
        · rw [e]; exact h'
        · exact ih.1 hz k (by omega)
      · rw [if_pos hz] at h'; exact absurd h' hz
    · intro h
      have hz := ih.2 fun k hk => h k (by omega)
      show (if csE S m ≠ 0 then csE S m else shE (S m)) = 0
      rw [if_neg (by simp [hz])]
      exact h m (by omega)
theorem mixS_false {S : Nat → Shr} {m : Nat} : mixS S m = false ↔ ∀ k, k < m → hdr (S k) = hdr (S 0) := by
  unfold mixS
  rw [List.any_eq_false]
  constructor
  · intro h k hk
    have := h k (List.mem_range.2 hk)
    simpa using this
  · intro h k hk
    simpa using h k (List.mem_range.1 hk)
theorem ksv_nodup {v : Nat → Int} {m : Nat} : (ksv v m).length = m ↔ ∀ i k, i < k → k < m → v i ≠ v k := by
  constructor
  · intro h
    have h1 := (ins_eq ((List.range m).map v) []).1 (by unfold ksv at h; simpa using h)
    have h2 := h1.1
    rw [List.nodup_iff_pairwise_ne, List.pairwise_map, List.pairwise_iff_getElem] at h2
    intro i k hik hk
    have := h2 i k (by simp; omega) (by simpa using hk) hik
    simpa using this
  · exact ksv_full
theorem ksv_le (v : Nat → Int) (m : Nat) : (ksv v m).length ≤ m := by
  have := ins_le ((List.range m).map v) []
  simpa [ksv] using this
/-- Nothing is wrong. -/
theorem csErr_zero {S : Nat → Shr} {m : Nat} : csErr S m = 0 ↔ (∀ k, k < m → shE (S k) = 0) ∧ (∀ k, k < m → hdr (S k) = hdr (S 0)) ∧ (∀ i k, i < k → k < m → (S i).I ≠ (S k).I) ∧ 0 < m ∧ (S 0).T ≤ (m : Int) := by
  unfold csErr
  rw [← csE_zero, ← mixS_false, ← ksv_nodup (v := fun i => (S i).I)]
  have hle := ksv_le (fun i => (S i).I) m
  by_cases h1 : csE S m = 0
  · rw [if_neg (by simp [h1])]
    cases h2 : mixS S m with
    | true => simp
    | false =>
      rw [if_neg (by simp)]
      by_cases h3 : (((ksv (fun i => (S i).I) m).length : Nat) : Int) < ((m : Nat) : Int)
      · rw [if_pos h3]
        constructor
        · intro h; cases h
        · rintro ⟨_, _, h, _⟩; omega
      · rw [if_neg h3]
        by_cases h4 : ((m : Nat) : Int) = 0 ∨ ((m : Nat) : Int) < (S 0).T
        · rw [if_pos h4]
          constructor
          · intro h; cases h
          · rintro ⟨_, _, _, h5, h6⟩; omega
        · rw [if_neg h4]
          constructor
          · intro _; exact ⟨h1, rfl, by omega, by omega, by omega⟩
          · intro _; rfl
  · rw [if_pos h1]
    constructor
    · intro h; exact absurd h h1
    · rintro ⟨h, _⟩; exact absurd h h1
theorem good_of {S : Nat → Shr} {m : Nat} (h : csErr S m = 0) : ∃ s, Good s S m := by
  obtain ⟨h1, h2, h3, h4, h5⟩ := csErr_zero.1 h
  have hf : ∀ i, i < m → (S i).F = (S 0).F := fun i hi => congrArg (·.1) (h2 i hi)
  have hT : ∀ i, i < m → (S i).T = (S 0).T := fun i hi => congrArg (·.2.1) (h2 i hi)
  have hL : ∀ i, i < m → (S i).L = (S 0).L := fun i hi => congrArg (·.2.2) (h2 i hi)
  obtain ⟨hF, hTT, hI, hLL, hn, hX⟩ := shE_zero (h1 0 h4)
  have hn' : ∀ i, i < m → (S i).n = (S 0).n := fun i hi => by
    have := (shE_zero (h1 i hi)).2.2.2.2.1
    rw [this, hL i hi, hn]
  have hs : ∃ s : Bool, (S 0).F = fid s ∧ decide ((S 0).F = 2) = s := by
    rcases hF with hF | hF
    · exact ⟨false, hF, by rw [hF]; rfl⟩
    · exact ⟨true, hF, by rw [hF]; rfl⟩
  obtain ⟨s, hs1, hs2⟩ := hs
  refine ⟨s, h4, fun i hi => by rw [hf i hi, hs1], hT, hL, hn', fun i hi => (shE_zero (h1 i hi)).2.2.1, h3, fun i hi j hj => ?_, hTT.1, h5, hLL.1, hLL.2, hn⟩
  have hx := (shE_zero (h1 i hi)).2.2.2.2.2
  rw [hf i hi, hs2] at hx
  exact okB_at hx (by rw [hn' i hi]; exact hj)
theorem Good.err {s : Bool} {S : Nat → Shr} {m : Nat} (g : Good s S m) (hT : (S 0).T ≤ 255) : csErr S m = 0 := by
  refine csErr_zero.2 ⟨fun k hk => ?_, fun k hk => ?_, g.app, g.m0, g.tm⟩
  · unfold shE shErr
    have ho := fid_or s
    have hcn : (S k).n = Go.Proofs.YtdnkkbmpefhbjaaGreatDoor.cn (S k).L := by rw [g.n k hk, g.Lq k hk]; exact g.cn
    have hx : okB (decide ((S k).F = 2)) (S k).X (S k).n = true := by
      rw [g.F k hk, fid_dec]
      exact okB_of fun i hi => g.X k hk i (by rw [← g.n k hk]; exact hi)
    rw [if_pos (by rw [g.F k hk]; exact ho), if_pos (by rw [g.T k hk]; exact ⟨g.t1, hT⟩), if_pos (g.idx k hk), if_pos (by rw [g.Lq k hk]; exact ⟨g.l0, g.l1⟩), if_pos hcn, if_pos hx]
  · unfold hdr
    rw [g.F k hk, g.T k hk, g.Lq k hk, g.F 0 g.m0]
end Go.Proofs.YtdnkkbmpefhbjaaGreatDoor
