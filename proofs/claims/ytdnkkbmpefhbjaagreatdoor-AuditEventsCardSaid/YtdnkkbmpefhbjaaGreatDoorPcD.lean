/- Part 4 of what the proof of AuditEvents needs: joined out of the texts of this seat, only what is used. -/
import Derived.Test.YtdnkkbmpefhbjaaGreatDoorPcC
import Derived.Deep.AppendSrc
import Derived.Deep.Upon
namespace Go.Proofs.YtdnkkbmpefhbjaaGreatDoor
set_option linter.all false
open Go Go.RowKit Alg
/-- A share: its numbers, its payload as numbers, and where the payload lies. -/
structure Shr where
  F : Int
  T : Int
  I : Int
  L : Int
  n : Nat
  X : Nat → Nat
  a : Option Addr
  c : Nat
def shc (x : Shr) : List Value := [.int .i64 x.F, .int .i64 x.T, .int .i64 x.I, .int .i64 x.L, .slice x.a x.n x.c]
theorem shc_len (x : Shr) : (shc x).length = 5 := rfl
theorem shc_ones (x : Shr) : ones (shc x) = true := rfl
abbrev payR (x : Shr) : Res := lst 4 (.slice x.a x.n x.c) x.n (en vq x.X x.n)
/-- A list of m shares with their payloads. -/
def shareR (la : Option Addr) (m lc : Nat) (S : Nat → Shr) : Res := rall [lst 5 (.slice la m lc) m (en shc S m), rall ((List.range m).map fun i => payR (S i))]
section
variable {la : Option Addr} {m lc k : Nat} {S : Nat → Shr} {R : List Res}
theorem share_lst (h : HasR (shareR la m lc S) R) : HasR (lst 5 (.slice la m lc) m (en shc S m)) R := h.pi 0 rfl
theorem share_pay (h : HasR (shareR la m lc S) R) (hk : k < m) : HasR (payR (S k)) R := (HasR.pi (l := [_, _]) h 1 rfl).part (List.mem_map.2 ⟨k, List.mem_range.2 hk, rfl⟩)
end
/-- Bounds on the shares of a row. -/
structure ShOk (S : Nat → Shr) (m : Nat) : Prop where
  m_le : m ≤ 1000000
  n_le : ∀ k, k < m → (S k).n ≤ 100000000
  x_lt : ∀ k, k < m → ∀ i, i < (S k).n → (S k).X i < R4
def shE (x : Shr) : Int := shErr x.F x.T x.I x.L x.n x.X
/-- The first error of the first k shares. -/
def csE (S : Nat → Shr) : Nat → Int
  | 0 => 0
  | k + 1 => if csE S k ≠ 0 then csE S k else shE (S k)
def hdr (x : Shr) : Ev := (x.F, x.T, x.L)
def mixS (S : Nat → Shr) (k : Nat) : Bool := (List.range k).any fun i => decide (hdr (S i) ≠ hdr (S 0))
theorem mixS_succ (S : Nat → Shr) (k : Nat) : mixS S (k + 1) = (mixS S k || decide (hdr (S k) ≠ hdr (S 0))) := by simp [mixS, List.range_succ]
/-- The error of a list of shares. -/
def csErr (S : Nat → Shr) (m : Nat) : Int :=
  if csE S m ≠ 0 then csE S m else if mixS S m = true then 14 else if (((ksv (fun i => (S i).I) m).length : Nat) : Int) < ((m : Nat) : Int) then 15 else if ((m : Nat) : Int) = 0 ∨ ((m : Nat) : Int) < (S 0).T then 16 else 0
theorem csE_stay {S : Nat → Shr} {k : Nat} (h : csE S k ≠ 0) : ∀ d, csE S (k + d) = csE S k
  | 0 => rfl
  | d + 1 => by
    have ih := csE_stay h d
    show (if csE S (k + d) ≠ 0 then csE S (k + d) else _) = _
    rw [ih, if_pos h]
theorem csErr_at {S : Nat → Shr} {k m : Nat} (h0 : csE S k = 0) (h : shE (S k) ≠ 0) (hk : k < m) : csErr S m = shE (S k) := by
  have e : csE S (k + 1) = shE (S k) := by show (if csE S k ≠ 0 then _ else _) = _; rw [if_neg (by simp [h0])]
  have e2 := csE_stay (S := S) (k := k + 1) (by rw [e]; exact h) (m - (k + 1))
  rw [show k + 1 + (m - (k + 1)) = m by omega, e] at e2
  unfold csErr
  rw [e2, if_pos h]
theorem csE_next {S : Nat → Shr} {k : Nat} (h0 : csE S k = 0) (h : ¬ shE (S k) ≠ 0) : csE S (k + 1) = 0 := by
  show (if csE S k ≠ 0 then _ else _) = _
  rw [if_neg (by simp [h0])]
  exact Classical.not_not.1 h
/-- A column after k shares. -/
def clf (S : Nat → Shr) (ch k i : Nat) : Nat := if i < k then (S i).X ch else 0
section
variable {S : Nat → Shr} {ch k m : Nat}
theorem clf_zero : en vq (fun _ => 0) m = en vq (clf S ch 0) m := en_congr fun i _ => by unfold clf; rw [if_neg (Nat.not_lt_zero i)]
theorem clf_step : en vq (fun i => if i = k then (S k).X ch else clf S ch k i) m = en vq (clf S ch (k + 1)) m := en_congr fun i _ => by
  unfold clf
  by_cases h : i = k
  · subst h; rw [if_pos rfl, if_pos (Nat.lt_succ_self _)]
  · rw [if_neg h]
    by_cases l : i < k
    · rw [if_pos l, if_pos (by omega)]
    · rw [if_neg l, if_neg (by omega)]
theorem clf_end : en vq (clf S ch m) m = en vq (fun i => (S i).X ch) m := en_congr fun i hi => by unfold clf; rw [if_pos hi]
end
theorem hdr_c (F T I L : Int) (v : Value) (W : World) (hv : ones [v] = true) : Calls Tryz.prog 106 [.agg #[.int .i64 F, .int .i64 T, .int .i64 I, .int .i64 L, v]].toArray W fun e w => e = .returned (.agg #[.int .i64 F, .int .i64 T, .int .i64 L]) ∧ Below W.heap.size W w := by
 refine c_enter (args := [.agg #[.int .i64 F, .int .i64 T, .int .i64 I, .int .i64 L, v]]) Tryz.func106 rfl rfl rfl fun a hk => ?_
 have hs := Sat.start W [] (fun _ h => by cases h)
 refine wS (wR ?_)
 refine q_box (vs := [.int .i64 F, .int .i64 T, .int .i64 I, .int .i64 L, v]) hk hs rfl rfl rfl rfl fun b1 w a hk hs => ?_
 refine q_alc (vs := [.int .i64 0, .int .i64 0, .int .i64 0]) hk hs zr148 rfl rfl rfl fun b2 w a hk hs => ?_
 refine c_end (x_t (wS (wR ?_)))
 refine q_v hk (w_fa rfl fq53_0 ty3) fun a hk => ?_
 refine q_v hk (w_ld1 rfl ty3 (.blk (n := 1) (hs.mi 1 rfl) rfl)) fun a hk => ?_
 refine q_v hk (w_fa rfl fq53_1 ty3) fun a hk => ?_
 refine q_v hk (w_ld1 rfl ty3 (.blk (n := 1) (hs.mi 1 rfl) rfl)) fun a hk => ?_
 refine q_v hk (w_fa rfl fq53_3 ty3) fun a hk => ?_
 refine q_v hk (w_ld1 rfl ty3 (.blk (n := 1) (hs.mi 1 rfl) rfl)) fun a hk => ?_
 refine q_v hk (w_bld rfl fl148 zr148 rfl rfl) fun a hk => ?_
 refine q_sto (o := 0) (cs := [.int .i64 F, .int .i64 T, .int .i64 L]) (vs' := [.int .i64 F, .int .i64 T, .int .i64 L]) hk hs rfl rfl rfl ty148 rfl rfl rfl rfl rfl rfl fun w hs => ?_
 refine c_end (x_t ?_)
 refine (wpIn_ret ?_)
 refine c_retG (vs := [.agg #[.int .i64 F, .int .i64 T, .int .i64 L]]) hk rfl ⟨⟨_, rfl, lv_A ty148 (.blk (n := 3) (hs.mi 0 rfl) rfl) rfl⟩, trivial⟩ rfl ?_
 exact ⟨rfl, hs.toBelow⟩
theorem ckShares_c (m lc : Nat) (la : Option Addr) (S : Nat → Shr) (W : World) (HS : (shareR la m lc S).ok W) (HO : ShOk S m) (HL : Laid W) : Calls Tryz.prog 60 [.slice la m lc].toArray W fun e w => e = .returned (.int .i64 (csErr S m)) ∧ Below W.heap.size W w := by
 have hm6 := HO.m_le
 refine c_enter (args := [.slice la m lc]) Tryz.func60 rfl rfl rfl fun a hk => ?_
 have hs := Sat.start W [shareR la m lc S] (okr1 HS)
 refine wS (wR ?_)
 refine q_v hk (w_as rfl) fun a hk => ?_
 refine c_end (x_t (wS (wR ?_)))
 refine q_mkm isI hk hs rfl rfl fun b1 w a hk hs => ?_
 refine q_v hk (w_as rfl) fun a hk => ?_
 refine c_end (x_t (wS (wR ?_)))
 refine q_v hk (w_as rfl) fun a hk => ?_
 refine c_end (x_t (wS (wS (wR ?_))))
 refine q_v hk (w_mv rfl) fun a hk => ?_
 refine q_v hk (w_len rfl Tryz.underlying22) fun a hk => ?_
 refine q_v hk (w_mv rfl) fun a hk => ?_
 refine c_end (x_t ?_)
 refine wpIn_block ?_
 refine c_loop (α := Nat) (fun k a w => ∃ (mx : Bool), k ≤ m ∧ csE S k = 0 ∧ mx = mixS S k ∧ Kn [] 57 [(11, .int .i64 ((k : Nat) : Int)), (4, .bool mx), (10, .int .i64 ((m : Nat) : Int)), (9, .slice la m lc), (3, .map (some b1)), (0, .slice la m lc)] a ∧ Sat no W [mapI isI b1 (ksv (fun i => (S i).I) k)] [shareR la m lc S] w) (fun k => m - k) 0 ?_ ?_
 · exact ⟨_, (by omega), rfl, rfl, hk.k rfl (hk.k rfl (hk.k rfl (hk.k rfl (hk.k rfl (hk.k rfl hk.nil))))), hs⟩
 rintro k a w ⟨mx, hf0, hf1, hf2, hk, hs⟩
 refine wS (wR ?_)
 rcases Classical.em (((k : Nat) : Int) < ((m : Nat) : Int)) with hc2 | hc2
 ·
  have hlt : k < m := by omega
  refine q_v hk (w_lt rfl rfl (decide_eq_true hc2)) fun a hk => ?_
  refine c_end (x_t (wS ?_))
  refine c_T hk rfl ?_
  refine (wpIn_skip (x_t ?_))
  refine wS ?_
  refine wpIn_block ?_
  refine wS (wR ?_)
  refine q_v hk (w_iaL (k := k) rfl rfl Tryz.underlying22 ty53 ((share_lst (HasR.nth 0 rfl : HasR (shareR la m lc S) _)).at_ hs) (by omega) (by omega)) fun a hk => ?_
  refine q_v hk (w_ldA rfl ty53 (lstq (k := k) ((share_lst (HasR.nth 0 rfl : HasR (shareR la m lc S) _)).at_ hs) (by omega) (en_chunk shc_len (by omega))) rfl) fun a hk => ?_
  refine q_alc (vs := [.int .i64 0, .int .i64 0, .int .i64 0, .int .i64 0, .slice none 0 0]) hk hs zr53 rfl rfl rfl fun b3 w a hk hs => ?_
  refine q_sto (o := 0) (cs := [.int .i64 ((S k).F), .int .i64 ((S k).T), .int .i64 ((S k).I), .int .i64 ((S k).L), .slice ((S k).a) ((S k).n) ((S k).c)]) (vs' := [.int .i64 ((S k).F), .int .i64 ((S k).T), .int .i64 ((S k).I), .int .i64 ((S k).L), .slice ((S k).a) ((S k).n) ((S k).c)]) hk hs rfl rfl rfl ty53 rfl rfl rfl rfl rfl rfl fun w hs => ?_
  refine c_end (x_t (wS (wS (wR ?_))))
  refine q_v hk (w_ldA rfl ty53 (.blk (n := 5) (hs.mi 0 rfl) rfl) rfl) fun a hk => ?_
  refine q_call (caps := []) hk rfl rfl Tryz.func105 fo105 rfl rfl (ckShare_c _ _ _ _ _ _ _ (S k).X _ ((share_pay (k := k) (HasR.nth 0 rfl : HasR (shareR la m lc S) _) (by omega)).at_ hs) (HO.n_le k hlt) (HO.x_lt k hlt) (HL.step hs.toBelow)) ?_
  rintro _ w ⟨rfl, hb⟩
  have hs := hs.below hb
  refine ⟨_, rfl, fun a hk => ?_⟩
  refine q_v hk (w_as rfl) fun a hk => ?_
  refine c_end (x_t (wS (wR ?_)))
  refine q_v hk (w_mv rfl) fun a hk => ?_
  rcases Classical.em ((shE (S k)) ≠ 0) with hc4 | hc4
  ·
   refine q_v hk (w_ne rfl rfl (decide_eq_true hc4)) fun a hk => ?_
   refine c_end (x_t ?_)
   refine c_T hk rfl ?_
   refine wS (wR ?_)
   refine q_v hk (w_mv rfl) fun a hk => ?_
   refine q_v hk (w_as rfl) fun a hk => ?_
   refine c_end (x_t ?_)
   refine (wpIn_ret (x_tr (x_br (x_tr (x_tr (x_br (x_tr ?_)))))))
   refine c_ret1 hk rfl rfl ?_
   exact ⟨by rw [csErr_at hf1 (by assumption) (by omega)]; rfl, hs.toBelow⟩
  ·
   refine q_v hk (w_ne rfl rfl (decide_eq_false hc4)) fun a hk => ?_
   refine c_end (x_t ?_)
   refine c_F hk rfl ?_
   refine (wpIn_skip (x_t ?_))
   refine wS ?_
   rcases Classical.em (mx = true) with hc5 | hc5
   ·
    obtain rfl : mx = true := hc5
    refine d_begin _ 11 (by kernel_rfl) rfl hs okL.nil fun w hs hL => ?_
    refine d_w 0 1 hk hL rfl (fun w hL => w_mv rfl) fun a hk => ?_
    refine d_w 1 3 hk hL rfl (fun w hL => w_mv rfl) fun a hk => ?_
    refine d_s 2 7 hk hL rfl (by kernel_rfl) rfl rfl fun a hk => ?_
    refine d_s 3 15 hk hL rfl (by kernel_rfl) rfl rfl fun a hk => ?_
    refine d_s 4 31 hk hL rfl (by kernel_rfl) rfl rfl fun a hk => ?_
    refine d_s 5 63 hk hL rfl (by kernel_rfl) rfl rfl fun a hk => ?_
    refine d_s 6 127 hk hL rfl (by kernel_rfl) rfl rfl fun a hk => ?_
    refine d_s 7 255 hk hL rfl (by kernel_rfl) rfl rfl fun a hk => ?_
    refine d_s 8 511 hk hL rfl (by kernel_rfl) rfl rfl fun a hk => ?_
    refine d_w 9 1023 hk hL rfl (fun w hL => w_pickT rfl rfl) fun a hk => ?_
    refine d_w 10 2047 hk hL rfl (fun w hL => w_as rfl) fun a hk => ?_
    refine d_end (by kernel_rfl) ?_
    refine (x_t ?_)
    refine wR ?_
    refine q_v hk (w_mv rfl) fun a hk => ?_
    refine q_v hk (w_fa rfl fq53_2 ty3) fun a hk => ?_
    refine q_v hk (w_ld1 rfl ty3 (.blk (n := 1) (hs.mi 0 rfl) rfl)) fun a hk => ?_
    refine q_lkm hk (hs.mi 1 rfl) rfl rfl Tryz.underlying145 Tryz.underlying3 zr3 ⟨_, rfl⟩ rfl rfl ?_
    rintro _ a ⟨z6, rfl⟩ hk
    refine q_v hk (w_add (r := IntKind.i64.wrap (z6 + 1)) rfl rfl rfl) fun a hk => ?_
    have hs := hs.up1
    refine q_mup hk hs rfl rfl rfl ⟨_, rfl⟩ Tryz.underlying145 Tryz.underlying3 rfl fun w hs => ?_
    refine (c_end (x_b (x_t ?_)))
    refine wR ?_
    refine q_v hk (w_add rfl rfl (wr64 (by omega) (by omega))) fun a hk => ?_
    refine q_v hk (w_mv rfl) fun a hk => ?_
    refine c_end (x_t ?_)
    have hs := hs.rw0 (congrArg (mapI isI b1) (ksv_succ (fun i => (S i).I) k))
    have hen := csE_next hf1 (by first | assumption | omega)
    have hmn : true = mixS S (k + 1) := by rw [mixS_succ, ← hf2]; first | rfl | (rw [Bool.false_or]; first | exact (decide_eq_true hmm).symm | exact (decide_eq_false hmm).symm)
    have hs := hs.up1
    have hs := hs.drop
    exact ⟨k + 1, ⟨_, (by omega), hen, hmn, hk.k rfl (hk.k rfl (hk.k rfl (hk.k rfl (hk.k rfl (hk.k rfl hk.nil))))), hs⟩, by omega⟩
   ·
    obtain rfl : mx = false := by simpa using hc5
    rcases Classical.em (hdr (S k) ≠ hdr (S 0)) with hc7 | hc7
    ·
     have hmm := hc7
     have hL := okL.cons (hs.mi 0 rfl) (okL.cons ((share_lst (HasR.nth 0 rfl : HasR (shareR la m lc S) _)).at_ hs) okL.nil)
     refine d_begin _ 11 (by kernel_rfl) rfl hs hL fun w hs hL => ?_
     refine d_w 0 1 hk hL rfl (fun w hL => w_mv rfl) fun a hk => ?_
     refine d_w 1 3 hk hL rfl (fun w hL => w_mv rfl) fun a hk => ?_
     refine d_w 2 7 hk hL rfl (fun w hL => w_ldA rfl ty53 (.blk (n := 5) (hL.at 0 rfl) rfl) rfl) fun a hk => ?_
     refine d_w 4 23 hk hL rfl (fun w hL => w_mv rfl) fun a hk => ?_
     refine d_w 5 55 hk hL rfl (fun w hL => w_iaL (k := 0) rfl rfl Tryz.underlying22 ty53 (hL.at 1 rfl) (by omega) (by omega)) fun a hk => ?_
     refine d_w 6 119 hk hL rfl (fun w hL => w_ldA rfl ty53 (lstq (k := 0) (hL.at 1 rfl) (by omega) (en_chunk shc_len (by omega))) rfl) fun a hk => ?_
     refine d_1 3 127 rfl (by kernel_rfl) fun K hK => ?_
     refine q_call (caps := []) hk rfl rfl Tryz.func106 fo106 rfl rfl (hdr_c _ _ _ _ _ _ rfl) ?_
     rintro _ w ⟨rfl, hb⟩
     have hs := hs.below hb
     refine ⟨_, rfl, fun a hk => ?_⟩
     have hL := okL.cons (hs.mi 0 rfl) (okL.cons ((share_lst (HasR.nth 0 rfl : HasR (shareR la m lc S) _)).at_ hs) okL.nil)
     refine c_end (x_t (hK _ _ hL ?_))
     clear hK K
     refine d_1 7 255 rfl (by kernel_rfl) fun K hK => ?_
     refine q_call (caps := []) hk rfl rfl Tryz.func106 fo106 rfl rfl (hdr_c _ _ _ _ _ _ rfl) ?_
     rintro _ w ⟨rfl, hb⟩
     have hs := hs.below hb
     refine ⟨_, rfl, fun a hk => ?_⟩
     have hL := okL.cons (hs.mi 0 rfl) (okL.cons ((share_lst (HasR.nth 0 rfl : HasR (shareR la m lc S) _)).at_ hs) okL.nil)
     refine c_end (x_t (hK _ _ hL ?_))
     clear hK K
     refine d_w 8 511 hk hL rfl (fun w hL => w_ene (u := hdr (S k)) (v := hdr (S 0)) (nb := 8) rfl rfl (by kernel_rfl) (by kernel_rfl) Tryz.underlying3 ty3 (by kernel_rfl) (decide_eq_true hc7)) fun a hk => ?_
     refine d_w 9 1023 hk hL rfl (fun w hL => w_pickF rfl rfl) fun a hk => ?_
     refine d_w 10 2047 hk hL rfl (fun w hL => w_as rfl) fun a hk => ?_
     refine d_end (by kernel_rfl) ?_
     refine (x_t ?_)
     refine wR ?_
     refine q_v hk (w_mv rfl) fun a hk => ?_
     refine q_v hk (w_fa rfl fq53_2 ty3) fun a hk => ?_
     refine q_v hk (w_ld1 rfl ty3 (.blk (n := 1) (hs.mi 0 rfl) rfl)) fun a hk => ?_
     refine q_lkm hk (hs.mi 1 rfl) rfl rfl Tryz.underlying145 Tryz.underlying3 zr3 ⟨_, rfl⟩ rfl rfl ?_
     rintro _ a ⟨z8, rfl⟩ hk
     refine q_v hk (w_add (r := IntKind.i64.wrap (z8 + 1)) rfl rfl rfl) fun a hk => ?_
     have hs := hs.up1
     refine q_mup hk hs rfl rfl rfl ⟨_, rfl⟩ Tryz.underlying145 Tryz.underlying3 rfl fun w hs => ?_
     refine (c_end (x_b (x_t ?_)))
     refine wR ?_
     refine q_v hk (w_add rfl rfl (wr64 (by omega) (by omega))) fun a hk => ?_
     refine q_v hk (w_mv rfl) fun a hk => ?_
     refine c_end (x_t ?_)
     have hs := hs.rw0 (congrArg (mapI isI b1) (ksv_succ (fun i => (S i).I) k))
     have hen := csE_next hf1 (by first | assumption | omega)
     have hmn : true = mixS S (k + 1) := by rw [mixS_succ, ← hf2]; first | rfl | (rw [Bool.false_or]; first | exact (decide_eq_true hmm).symm | exact (decide_eq_false hmm).symm)
     have hs := hs.up1
     have hs := hs.drop
     exact ⟨k + 1, ⟨_, (by omega), hen, hmn, hk.k rfl (hk.k rfl (hk.k rfl (hk.k rfl (hk.k rfl (hk.k rfl hk.nil))))), hs⟩, by omega⟩
    ·
     have hmm := hc7
     have hL := okL.cons (hs.mi 0 rfl) (okL.cons ((share_lst (HasR.nth 0 rfl : HasR (shareR la m lc S) _)).at_ hs) okL.nil)
     refine d_begin _ 11 (by kernel_rfl) rfl hs hL fun w hs hL => ?_
     refine d_w 0 1 hk hL rfl (fun w hL => w_mv rfl) fun a hk => ?_
     refine d_w 1 3 hk hL rfl (fun w hL => w_mv rfl) fun a hk => ?_
     refine d_w 2 7 hk hL rfl (fun w hL => w_ldA rfl ty53 (.blk (n := 5) (hL.at 0 rfl) rfl) rfl) fun a hk => ?_
     refine d_w 4 23 hk hL rfl (fun w hL => w_mv rfl) fun a hk => ?_
     refine d_w 5 55 hk hL rfl (fun w hL => w_iaL (k := 0) rfl rfl Tryz.underlying22 ty53 (hL.at 1 rfl) (by omega) (by omega)) fun a hk => ?_
     refine d_w 6 119 hk hL rfl (fun w hL => w_ldA rfl ty53 (lstq (k := 0) (hL.at 1 rfl) (by omega) (en_chunk shc_len (by omega))) rfl) fun a hk => ?_
     refine d_1 3 127 rfl (by kernel_rfl) fun K hK => ?_
     refine q_call (caps := []) hk rfl rfl Tryz.func106 fo106 rfl rfl (hdr_c _ _ _ _ _ _ rfl) ?_
     rintro _ w ⟨rfl, hb⟩
     have hs := hs.below hb
     refine ⟨_, rfl, fun a hk => ?_⟩
     have hL := okL.cons (hs.mi 0 rfl) (okL.cons ((share_lst (HasR.nth 0 rfl : HasR (shareR la m lc S) _)).at_ hs) okL.nil)
     refine c_end (x_t (hK _ _ hL ?_))
     clear hK K
     refine d_1 7 255 rfl (by kernel_rfl) fun K hK => ?_
     refine q_call (caps := []) hk rfl rfl Tryz.func106 fo106 rfl rfl (hdr_c _ _ _ _ _ _ rfl) ?_
     rintro _ w ⟨rfl, hb⟩
     have hs := hs.below hb
     refine ⟨_, rfl, fun a hk => ?_⟩
     have hL := okL.cons (hs.mi 0 rfl) (okL.cons ((share_lst (HasR.nth 0 rfl : HasR (shareR la m lc S) _)).at_ hs) okL.nil)
     refine c_end (x_t (hK _ _ hL ?_))
     clear hK K
     refine d_w 8 511 hk hL rfl (fun w hL => w_ene (u := hdr (S k)) (v := hdr (S 0)) (nb := 8) rfl rfl (by kernel_rfl) (by kernel_rfl) Tryz.underlying3 ty3 (by kernel_rfl) (decide_eq_false hc7)) fun a hk => ?_
     refine d_w 9 1023 hk hL rfl (fun w hL => w_pickF rfl rfl) fun a hk => ?_
     refine d_w 10 2047 hk hL rfl (fun w hL => w_as rfl) fun a hk => ?_
     refine d_end (by kernel_rfl) ?_
     refine (x_t ?_)
     refine wR ?_
     refine q_v hk (w_mv rfl) fun a hk => ?_
     refine q_v hk (w_fa rfl fq53_2 ty3) fun a hk => ?_
     refine q_v hk (w_ld1 rfl ty3 (.blk (n := 1) (hs.mi 0 rfl) rfl)) fun a hk => ?_
     refine q_lkm hk (hs.mi 1 rfl) rfl rfl Tryz.underlying145 Tryz.underlying3 zr3 ⟨_, rfl⟩ rfl rfl ?_
     rintro _ a ⟨z9, rfl⟩ hk
     refine q_v hk (w_add (r := IntKind.i64.wrap (z9 + 1)) rfl rfl rfl) fun a hk => ?_
     have hs := hs.up1
     refine q_mup hk hs rfl rfl rfl ⟨_, rfl⟩ Tryz.underlying145 Tryz.underlying3 rfl fun w hs => ?_
     refine (c_end (x_b (x_t ?_)))
     refine wR ?_
     refine q_v hk (w_add rfl rfl (wr64 (by omega) (by omega))) fun a hk => ?_
     refine q_v hk (w_mv rfl) fun a hk => ?_
     refine c_end (x_t ?_)
     have hs := hs.rw0 (congrArg (mapI isI b1) (ksv_succ (fun i => (S i).I) k))
     have hen := csE_next hf1 (by first | assumption | omega)
     have hmn : false = mixS S (k + 1) := by rw [mixS_succ, ← hf2]; first | rfl | (rw [Bool.false_or]; first | exact (decide_eq_true hmm).symm | exact (decide_eq_false hmm).symm)
     have hs := hs.up1
     have hs := hs.drop
     exact ⟨k + 1, ⟨_, (by omega), hen, hmn, hk.k rfl (hk.k rfl (hk.k rfl (hk.k rfl (hk.k rfl (hk.k rfl hk.nil))))), hs⟩, by omega⟩
 ·
  refine q_v hk (w_lt rfl rfl (decide_eq_false hc2)) fun a hk => ?_
  refine c_end (x_t (wS ?_))
  refine c_F hk rfl ?_
  refine (wpIn_exit (x_te (x_te (x_be ?_))))
  refine (x_t ?_)
  refine wS ?_
  refine wpIn_block ?_
  refine wS (wR ?_)
  refine q_v hk (w_mv rfl) fun a hk => ?_
  refine q_v hk (w_as rfl) fun a hk => ?_
  refine c_end (x_t ?_)
  rcases mx with _ | _
  ·
   refine c_F hk rfl ?_
   refine wS (wR ?_)
   refine q_v hk (w_mv rfl) fun a hk => ?_
   refine q_v hk (w_lnm (hs.mi 0 rfl) rfl Tryz.underlying145) fun a hk => ?_
   refine q_v hk (w_mv rfl) fun a hk => ?_
   refine q_v hk (w_len rfl Tryz.underlying22) fun a hk => ?_
   rcases Classical.em ((((ksv (fun i => (S i).I) k).length : Nat) : Int) < ((m : Nat) : Int)) with hc10 | hc10
   ·
    refine q_v hk (w_lt rfl rfl (decide_eq_true hc10)) fun a hk => ?_
    refine q_v hk (w_as rfl) fun a hk => ?_
    refine c_end (x_t ?_)
    refine c_T hk rfl ?_
    refine wS (wR ?_)
    refine q_v hk (w_as rfl) fun a hk => ?_
    refine c_end (x_t ?_)
    refine (wpIn_ret (x_br (x_tr ?_)))
    refine c_ret1 hk rfl rfl ?_
    have hB := hs.toBelow
    obtain rfl : m = k := by omega
    refine ⟨?_, hB⟩
    have he : csErr S m = 15 := by
     unfold csErr
     rw [if_neg (by simp [hf1])]
     first | (rw [if_pos (hf2.symm)]; done) | (rw [if_neg (by rw [← hf2]; exact Bool.false_ne_true)]; (repeat' split) <;> first | rfl | omega | contradiction)
    rw [he]
   ·
    refine q_v hk (w_lt rfl rfl (decide_eq_false hc10)) fun a hk => ?_
    refine q_v hk (w_as rfl) fun a hk => ?_
    refine c_end (x_t ?_)
    refine c_F hk rfl ?_
    refine wS (wR ?_)
    refine q_v hk (w_mv rfl) fun a hk => ?_
    refine q_v hk (w_len rfl Tryz.underlying22) fun a hk => ?_
    rcases Classical.em (((m : Nat) : Int) = 0) with hc11 | hc11
    ·
     refine q_v hk (w_eq rfl rfl (decide_eq_true hc11)) fun a hk => ?_
     refine q_v hk (w_mv rfl) fun a hk => ?_
     refine q_skip hk rfl rfl fun a hk => ?_
     refine q_skip hk rfl rfl fun a hk => ?_
     refine q_skip hk rfl rfl fun a hk => ?_
     refine q_skip hk rfl rfl fun a hk => ?_
     refine q_skip hk rfl rfl fun a hk => ?_
     refine q_skip hk rfl rfl fun a hk => ?_
     refine q_skip hk rfl rfl fun a hk => ?_
     refine q_v hk (w_pickT rfl rfl) fun a hk => ?_
     refine q_v hk (w_as rfl) fun a hk => ?_
     refine c_end (x_t ?_)
     refine c_T hk rfl ?_
     refine wS (wR ?_)
     refine q_v hk (w_as rfl) fun a hk => ?_
     refine c_end (x_t ?_)
     refine (wpIn_ret (x_br (x_tr ?_)))
     refine c_ret1 hk rfl rfl ?_
     have hB := hs.toBelow
     obtain rfl : m = k := by omega
     refine ⟨?_, hB⟩
     have he : csErr S m = 16 := by
      unfold csErr
      rw [if_neg (by simp [hf1])]
      first | (rw [if_pos (hf2.symm)]; done) | (rw [if_neg (by rw [← hf2]; exact Bool.false_ne_true)]; (repeat' split) <;> first | rfl | omega | contradiction)
     rw [he]
    ·
     refine q_v hk (w_eq rfl rfl (decide_eq_false hc11)) fun a hk => ?_
     refine q_v hk (w_mv rfl) fun a hk => ?_
     refine q_v hk (w_mv rfl) fun a hk => ?_
     refine q_v hk (w_len rfl Tryz.underlying22) fun a hk => ?_
     refine q_v hk (w_mv rfl) fun a hk => ?_
     refine q_v hk (w_iaL (k := 0) rfl rfl Tryz.underlying22 ty53 ((share_lst (HasR.nth 0 rfl : HasR (shareR la m lc S) _)).at_ hs) (by omega) (by omega)) fun a hk => ?_
     refine q_v hk (w_fa rfl fq53_1 ty3) fun a hk => ?_
     refine q_v hk (w_ld1 rfl ty3 (lstf (k := 0) (o := 1) (m := 1) ((share_lst (HasR.nth 0 rfl : HasR (shareR la m lc S) _)).at_ hs) (by omega) (en_chunk shc_len (by omega)) rfl)) fun a hk => ?_
     rcases Classical.em (((m : Nat) : Int) < ((S 0).T)) with hc12 | hc12
     ·
      refine q_v hk (w_lt rfl rfl (decide_eq_true hc12)) fun a hk => ?_
      refine q_v hk (w_pickF rfl rfl) fun a hk => ?_
      refine q_v hk (w_as rfl) fun a hk => ?_
      refine c_end (x_t ?_)
      refine c_T hk rfl ?_
      refine wS (wR ?_)
      refine q_v hk (w_as rfl) fun a hk => ?_
      refine c_end (x_t ?_)
      refine (wpIn_ret (x_br (x_tr ?_)))
      refine c_ret1 hk rfl rfl ?_
      have hB := hs.toBelow
      obtain rfl : m = k := by omega
      refine ⟨?_, hB⟩
      have he : csErr S m = 16 := by
       unfold csErr
       rw [if_neg (by simp [hf1])]
       first | (rw [if_pos (hf2.symm)]; done) | (rw [if_neg (by rw [← hf2]; exact Bool.false_ne_true)]; (repeat' split) <;> first | rfl | omega | contradiction)
      rw [he]
     ·
      refine q_v hk (w_lt rfl rfl (decide_eq_false hc12)) fun a hk => ?_
      refine q_v hk (w_pickF rfl rfl) fun a hk => ?_
      refine q_v hk (w_as rfl) fun a hk => ?_
      refine c_end (x_t ?_)
      refine c_F hk rfl ?_
      refine (wpIn_skip (x_b (x_t ?_)))
      refine wS (wR ?_)
      refine q_v hk (w_as rfl) fun a hk => ?_
      refine c_end (x_t ?_)
      refine (wpIn_ret ?_)
      refine c_ret1 hk rfl rfl ?_
      have hB := hs.toBelow
      obtain rfl : m = k := by omega
      refine ⟨?_, hB⟩
      have he : csErr S m = 0 := by
       unfold csErr
       rw [if_neg (by simp [hf1])]
       first | (rw [if_pos (hf2.symm)]; done) | (rw [if_neg (by rw [← hf2]; exact Bool.false_ne_true)]; (repeat' split) <;> first | rfl | omega | contradiction)
      rw [he]
  ·
   refine c_T hk rfl ?_
   refine wS (wR ?_)
   refine q_v hk (w_as rfl) fun a hk => ?_
   refine c_end (x_t ?_)
   refine (wpIn_ret (x_br (x_tr ?_)))
   refine c_ret1 hk rfl rfl ?_
   have hB := hs.toBelow
   obtain rfl : m = k := by omega
   refine ⟨?_, hB⟩
   have he : csErr S m = 14 := by
    unfold csErr
    rw [if_neg (by simp [hf1])]
    first | (rw [if_pos (hf2.symm)]; done) | (rw [if_neg (by rw [← hf2]; exact Bool.false_ne_true)]; (repeat' split) <;> first | rfl | omega | contradiction)
   rw [he]
theorem indices_c (m lc : Nat) (la : Option Addr) (S : Nat → Shr) (W : World) (HS : (shareR la m lc S).ok W) (hm : m ≤ 1000000) : Calls Tryz.prog 80 [.slice la m lc].toArray W fun e w => ∃ a c, e = .returned (.slice a m c) ∧ Sat no W [row 3 1 (.slice a m c) m (en ic (fun i => (S i).I) m)] [] w := by
 refine c_enter (args := [.slice la m lc]) Tryz.func80 rfl rfl rfl fun a hk => ?_
 have hs := Sat.start W [shareR la m lc S] (okr1 HS)
 refine wS (wR ?_)
 refine q_v hk (w_as rfl) fun a hk => ?_
 refine c_end (x_t (wS (wR ?_)))
 refine q_v hk (w_as rfl) fun a hk => ?_
 refine c_end (x_t (wS (wS (wR ?_))))
 refine q_v hk (w_mv rfl) fun a hk => ?_
 refine q_v hk (w_len rfl Tryz.underlying22) fun a hk => ?_
 refine q_v hk (w_mv rfl) fun a hk => ?_
 refine c_end (x_t ?_)
 refine wpIn_block ?_
 have hs := hs.row0 3 1
 refine c_loop (α := Nat) (fun k a w => ∃ (ao : Option Addr) (co : Nat), k ≤ m ∧ Kn [] 19 [(8, .int .i64 (k : Int)), (3, .slice ao k co), (7, .int .i64 ((m : Nat) : Int)), (6, .slice la m lc), (2, .slice none 0 0)] a ∧ Sat no W [row 3 1 (.slice ao k co) k (en ic (fun i => (S i).I) k)] [shareR la m lc S] w) (fun k => m - k) 0 ?_ ?_
 · exact ⟨_, _, (by omega), hk.k rfl (hk.k rfl (hk.k rfl (hk.k rfl (hk.k rfl hk.nil)))), hs⟩
 rintro k a w ⟨ao, co, hf0, hk, hs⟩
 refine wS (wR ?_)
 rcases Classical.em ((k : Int) < ((m : Nat) : Int)) with hc1 | hc1
 ·
  refine q_v hk (w_lt rfl rfl (decide_eq_true hc1)) fun a hk => ?_
  refine c_end (x_t (wS ?_))
  refine c_T hk rfl ?_
  refine (wpIn_skip (x_t ?_))
  refine wS ?_
  refine wpIn_block ?_
  refine wS (wR ?_)
  refine q_v hk (w_iaL (k := k) rfl rfl Tryz.underlying22 ty53 ((share_lst (HasR.nth 0 rfl : HasR (shareR la m lc S) _)).at_ hs) (by omega) (by omega)) fun a hk => ?_
  refine q_v hk (w_ldA rfl ty53 (lstq (k := k) ((share_lst (HasR.nth 0 rfl : HasR (shareR la m lc S) _)).at_ hs) (by omega) (en_chunk shc_len (by omega))) rfl) fun a hk => ?_
  refine q_alc (vs := [.int .i64 0, .int .i64 0, .int .i64 0, .int .i64 0, .slice none 0 0]) hk hs zr53 rfl rfl rfl fun b2 w a hk hs => ?_
  refine q_sto (o := 0) (cs := [.int .i64 ((S k).F), .int .i64 ((S k).T), .int .i64 ((S k).I), .int .i64 ((S k).L), .slice ((S k).a) ((S k).n) ((S k).c)]) (vs' := [.int .i64 ((S k).F), .int .i64 ((S k).T), .int .i64 ((S k).I), .int .i64 ((S k).L), .slice ((S k).a) ((S k).n) ((S k).c)]) hk hs rfl rfl rfl ty53 rfl rfl rfl rfl rfl rfl fun w hs => ?_
  refine c_end (x_t (wR ?_))
  refine q_v hk (w_mv rfl) fun a hk => ?_
  refine q_v hk (w_fa rfl fq53_2 ty3) fun a hk => ?_
  refine q_v hk (w_ld1 rfl ty3 (.blk (n := 1) (hs.mi 0 rfl) rfl)) fun a hk => ?_
  refine q_bsl (els := [.tmp 14]) (cs := [.int .i64 ((S k).I)]) hk hs rfl Tryz.underlying34 ty3 zr3 rfl rfl rfl rfl rfl rfl rfl fun b3 w a hk hs => ?_
  have hs := hs.up2
  refine q_app (news := [.int .i64 ((S k).I)]) (m := 1) hk hs rfl rfl Tryz.underlying34 ty3 zr3 rfl rfl (.blk (n := 1) (hs.mi 1 rfl) rfl) rfl rfl (by omega) (by omega) rfl rfl fun a4 c5 w a hk hs => ?_
  have hs := hs.up1
  have hs := hs.drop
  refine q_v hk (w_as rfl) fun a hk => ?_
  refine (c_end (x_b (x_t ?_)))
  refine wR ?_
  refine q_v hk (w_add rfl rfl (wr64 (by omega) (by omega))) fun a hk => ?_
  refine q_v hk (w_mv rfl) fun a hk => ?_
  refine c_end (x_t ?_)
  have hs := hs.rw0 (congrArg _ en_succ)
  have hs := hs.up1
  have hs := hs.drop
  exact ⟨k + 1, ⟨_, _, (by omega), hk.k rfl (hk.k rfl (hk.k rfl (hk.k rfl (hk.k rfl hk.nil)))), hs⟩, by omega⟩
 ·
  refine q_v hk (w_lt rfl rfl (decide_eq_false hc1)) fun a hk => ?_
  refine c_end (x_t (wS ?_))
  refine c_F hk rfl ?_
  refine (wpIn_exit (x_te (x_te (x_be ?_))))
  refine (x_t ?_)
  refine wS (wR ?_)
  refine q_v hk (w_mv rfl) fun a hk => ?_
  refine q_v hk (w_as rfl) fun a hk => ?_
  refine c_end (x_t ?_)
  refine (wpIn_ret ?_)
  refine c_ret1 hk rfl rfl ?_
  have hkm : k = m := by omega
  rw [hkm] at hs ⊢
  exact ⟨_, _, rfl, hs.fin⟩
theorem column_c (m lc ch : Nat) (la : Option Addr) (S : Nat → Shr) (W : World) (HS : (shareR la m lc S).ok W) (hm : m ≤ 1000000) (hc : ∀ i, i < m → ch < (S i).n ∧ (S i).n ≤ 100000000) : Calls Tryz.prog 101 [.slice la m lc, .int .i64 ((ch : Nat) : Int)].toArray W fun e w => ∃ b, e = .returned (.slice (some ⟨b, 0, none⟩) m m) ∧ Sat no W [blk b (en vq (fun i => (S i).X ch) m) 56] [] w := by
 refine c_enter (args := [.slice la m lc, .int .i64 ((ch : Nat) : Int)]) Tryz.func101 rfl rfl rfl fun a hk => ?_
 have hs := Sat.start W [shareR la m lc S] (okr1 HS)
 refine wS (wR ?_)
 refine q_v hk (w_as rfl) fun a hk => ?_
 refine c_end (x_t (wS (wR ?_)))
 refine q_v hk (w_mv rfl) fun a hk => ?_
 refine q_v hk (w_len rfl Tryz.underlying22) fun a hk => ?_
 refine q_mks (k := m) (cs := vq 0) hk hs rfl rfl Tryz.underlying51 ty56 zr56 (by kernel_rfl) rfl rfl rfl rfl (by omega) (by omega) rfl rfl fun b1 w a hk hs => ?_
 have hs := hs.rw0 (show _ = blk b1 (en vq (fun _ => 0) m) 56 from rfl)
 refine q_v hk (w_as rfl) fun a hk => ?_
 refine c_end (x_t (wS (wS (wR ?_))))
 refine q_v hk (w_mv rfl) fun a hk => ?_
 refine q_v hk (w_len rfl Tryz.underlying22) fun a hk => ?_
 refine q_v hk (w_mv rfl) fun a hk => ?_
 refine c_end (x_t ?_)
 refine wpIn_block ?_
 have hs := hs.rw0 (congrArg (fun q => blk b1 q 56) (clf_zero (S := S) (ch := ch)))
 refine c_loop (α := Nat) (fun k a w => k ≤ m ∧ Kn [] 34 [(13, .int .i64 ((k : Nat) : Int)), (12, .int .i64 ((m : Nat) : Int)), (11, .slice la m lc), (5, .slice (some ⟨b1, 0, none⟩) m m), (4, .slice none 0 0), (1, .int .i64 ((ch : Nat) : Int))] a ∧ Sat no W [blk b1 (en vq (fun i => clf S ch k i) m) 56] [shareR la m lc S] w) (fun k => m - k) 0 ?_ ?_
 · exact ⟨(by omega), hk.k rfl (hk.k rfl (hk.k rfl (hk.k rfl (hk.k rfl (hk.k rfl hk.nil))))), hs⟩
 rintro k a w ⟨hf0, hk, hs⟩
 refine wS (wR ?_)
 rcases Classical.em (((k : Nat) : Int) < ((m : Nat) : Int)) with hc2 | hc2
 ·
  have hlt : k < m := by omega
  have hck := hc k hlt
  refine q_v hk (w_lt rfl rfl (decide_eq_true hc2)) fun a hk => ?_
  refine c_end (x_t (wS ?_))
  refine c_T hk rfl ?_
  refine (wpIn_skip (x_t ?_))
  refine wS ?_
  refine wpIn_block ?_
  refine wS (wR ?_)
  refine q_v hk (w_mv rfl) fun a hk => ?_
  refine q_v hk (w_iaL (k := k) rfl rfl Tryz.underlying22 ty53 ((share_lst (HasR.nth 0 rfl : HasR (shareR la m lc S) _)).at_ hs) (by omega) (by omega)) fun a hk => ?_
  refine q_v hk (w_ldA rfl ty53 (lstq (k := k) ((share_lst (HasR.nth 0 rfl : HasR (shareR la m lc S) _)).at_ hs) (by omega) (en_chunk shc_len (by omega))) rfl) fun a hk => ?_
  refine q_alc (vs := [.int .i64 0, .int .i64 0, .int .i64 0, .int .i64 0, .slice none 0 0]) hk hs zr53 rfl rfl rfl fun b3 w a hk hs => ?_
  refine q_v hk (w_as rfl) fun a hk => ?_
  refine q_sto (o := 0) (cs := [.int .i64 ((S k).F), .int .i64 ((S k).T), .int .i64 ((S k).I), .int .i64 ((S k).L), .slice ((S k).a) ((S k).n) ((S k).c)]) (vs' := [.int .i64 ((S k).F), .int .i64 ((S k).T), .int .i64 ((S k).I), .int .i64 ((S k).L), .slice ((S k).a) ((S k).n) ((S k).c)]) hk hs rfl rfl rfl ty53 rfl rfl rfl rfl rfl rfl fun w hs => ?_
  refine c_end (x_t (wS (wR ?_)))
  refine q_v hk (w_mv rfl) fun a hk => ?_
  refine q_v hk (w_fa rfl fq53_4 ty51) fun a hk => ?_
  refine q_v hk (w_ld1 rfl ty51 (.blk (n := 1) (hs.mi 0 rfl) rfl)) fun a hk => ?_
  refine q_v hk (w_len rfl Tryz.underlying51) fun a hk => ?_
  refine q_v hk (w_sub rfl rfl (wr64 (by omega) (by omega))) fun a hk => ?_
  refine q_call (caps := []) hk rfl rfl Tryz.func136 fo136 rfl rfl (between_t _ _ _ _ (by omega)) ?_
  rintro _ _ ⟨rfl, rfl⟩
  refine ⟨_, rfl, fun a hk => ?_⟩
  refine c_end (x_t ?_)
  refine c_T hk rfl ?_
  refine wR ?_
  refine q_v hk (w_mv rfl) fun a hk => ?_
  refine q_v hk (w_mv rfl) fun a hk => ?_
  refine q_v hk (w_fa rfl fq53_4 ty51) fun a hk => ?_
  refine q_v hk (w_ld1 rfl ty51 (.blk (n := 1) (hs.mi 0 rfl) rfl)) fun a hk => ?_
  refine q_v hk (w_mv rfl) fun a hk => ?_
  refine q_v hk (w_iaL (k := ch) rfl rfl Tryz.underlying51 ty56 ((share_pay (k := k) (HasR.nth 0 rfl : HasR (shareR la m lc S) _) (by omega)).at_ hs) (by omega) (by omega)) fun a hk => ?_
  refine q_v hk (w_ldv (z := (S k).X ch) rfl ty56 (lstq (k := ch) ((share_pay (k := k) (HasR.nth 0 rfl : HasR (shareR la m lc S) _) (by omega)).at_ hs) (by omega) (en_chunk vq_len (by omega)))) fun a hk => ?_
  refine q_v hk (w_iaL (k := k) rfl rfl Tryz.underlying51 ty56 (blk_lst (hs.mi 1 rfl) (en_len vq_len) (Nat.le_refl _)) (by omega) (by omega)) fun a hk => ?_
  have hs := hs.up1
  refine q_stoE (c := vq) (xx := ((S k).X ch)) (k := k) hk hs rfl rfl rfl ty56 rfl vq_len rfl (by omega) rfl fun w hs => ?_
  refine (c_end (x_b (x_t ?_)))
  refine wR ?_
  refine q_v hk (w_add rfl rfl (wr64 (by omega) (by omega))) fun a hk => ?_
  refine q_v hk (w_mv rfl) fun a hk => ?_
  refine c_end (x_t ?_)
  have hs := hs.rw0 (congrArg (fun q => blk b1 q 56) (clf_step (S := S) (ch := ch)))
  have hs := hs.up1
  have hs := hs.drop
  exact ⟨k + 1, ⟨(by omega), hk.k rfl (hk.k rfl (hk.k rfl (hk.k rfl (hk.k rfl (hk.k rfl hk.nil))))), hs⟩, by omega⟩
 ·
  refine q_v hk (w_lt rfl rfl (decide_eq_false hc2)) fun a hk => ?_
  refine c_end (x_t (wS ?_))
  refine c_F hk rfl ?_
  refine (wpIn_exit (x_te (x_te (x_be ?_))))
  refine (x_t ?_)
  refine wS (wR ?_)
  refine q_v hk (w_mv rfl) fun a hk => ?_
  refine q_v hk (w_as rfl) fun a hk => ?_
  refine c_end (x_t ?_)
  refine (wpIn_ret ?_)
  refine c_ret1 hk rfl rfl ?_
  have hkm : k = m := by omega
  rw [hkm] at hs
  rw [clf_end] at hs
  exact ⟨_, rfl, hs.fin⟩
end Go.Proofs.YtdnkkbmpefhbjaaGreatDoor
namespace Go.Proofs.YtdnkkbmpefhbjaaGreatDoor
set_option linter.all false
open Go Go.RowKit Alg
/-- The events of Below. -/
def belF (th : Nat) (i : Int) : List Ev := if i < (th : Int) then [] else [(2, i, 0)]
def belowE (n th : Nat) : List Ev := upE 0 (n : Int) (belF th)
theorem bel_no {E : List Ev} {u th : Nat} (h : ((u : Nat) : Int) < (th : Int)) : E ++ upE 0 ((u : Nat) : Int) (belF th) = E ++ upE 0 ((u + 1 : Nat) : Int) (belF th) := by
  have e := upE_succ (F := belF th) (fr := 0) (x := (u : Int)) (by omega)
  have p : belF th (u : Int) = [] := by unfold belF; rw [if_pos h]
  rw [p, List.append_nil] at e
  rw [e]; rfl
theorem bel_yes {E : List Ev} {u th : Nat} (h : ¬ ((u : Nat) : Int) < (th : Int)) : E ++ upE 0 ((u : Nat) : Int) (belF th) ++ [(2, ((u : Nat) : Int), 0)] = E ++ upE 0 ((u + 1 : Nat) : Int) (belF th) := by
  have e := upE_succ (F := belF th) (fr := 0) (x := (u : Int)) (by omega)
  have p : belF th (u : Int) = [(2, (u : Int), 0)] := by unfold belF; rw [if_neg h]
  rw [p] at e
  rw [List.append_assoc, e]; rfl
theorem bel_len {u th : Nat} : (upE 0 ((u : Nat) : Int) (belF th)).length ≤ u := by
  have := upE_len (fr := 0) (to := (u : Int)) (F := belF th) (B := 1) (fun k => by unfold belF; split <;> simp)
  omega
/-- Are the coefficients from th on zero? -/
def belZ {s : Bool} (c : Nat → Zp s) (n th : Nat) : Bool := (List.range n).all fun i => decide (i < th) || decide (c i = 0)
theorem belZ_succ {s : Bool} (c : Nat → Zp s) (k th : Nat) : belZ c (k + 1) th = (belZ c k th && (decide (k < th) || decide (c k = 0))) := by simp [belZ, List.range_succ]
theorem dgs_zero {x : Nat} (hx : x < R4) : (dg 0 x = 0 ∧ dg 1 x = 0 ∧ dg 2 x = 0 ∧ dg 3 x = 0) ↔ x = 0 := by
  constructor
  · rintro ⟨h0, h1, h2, h3⟩
    have := val4_dg hx
    unfold val4 at this
    rw [h0, h1, h2, h3] at this
    omega
  · rintro rfl; decide
theorem bel_or {s : Bool} {c : Nat → Zp s} {u th o : Nat} (h : o = 0 ↔ belZ c u th = true) (ht : ¬ ((u : Nat) : Int) < (th : Int)) :
    o ||| dg 0 (mq (c u)) ||| dg 1 (mq (c u)) ||| dg 2 (mq (c u)) ||| dg 3 (mq (c u)) = 0 ↔ belZ c (u + 1) th = true := by
  rw [belZ_succ, Bool.and_eq_true, Bool.or_eq_true, decide_eq_true_iff, decide_eq_true_iff, Nat.or_eq_zero_iff, Nat.or_eq_zero_iff, Nat.or_eq_zero_iff, Nat.or_eq_zero_iff, h]
  have hz := dgs_zero (mq_lt4 (c u))
  rw [mq_eq_zero] at hz
  constructor
  · rintro ⟨⟨⟨⟨h1, h2⟩, h3⟩, h4⟩, h5⟩
    exact ⟨h1, .inr (hz.1 ⟨h2, h3, h4, h5⟩)⟩
  · rintro ⟨h1, h2 | h2⟩
    · omega
    · have := hz.2 h2
      exact ⟨⟨⟨⟨h1, this.1⟩, this.2.1⟩, this.2.2.1⟩, this.2.2.2⟩
theorem bel_keep {s : Bool} {c : Nat → Zp s} {u th o : Nat} (h : o = 0 ↔ belZ c u th = true) (ht : ((u : Nat) : Int) < (th : Int)) : o = 0 ↔ belZ c (u + 1) th = true := by
  rw [belZ_succ, h, decide_eq_true (show u < th by omega), Bool.true_or, Bool.and_true]
theorem orl_one (o : Nat) : (orl [o] = 0) ↔ o = 0 := by rw [orl_zero]; simp
theorem interp_len2 {n : Nat} (h : n ≤ 255) : (interpE (n : Int)).length ≤ 140000 := by
  have h1 := weights_len (n := (n : Int)) (by omega)
  have h2 : (upE 0 (n : Int) (pairT n)).length ≤ n * n := pairTs_len
  have h3 : n * n ≤ 255 * 255 := Nat.mul_le_mul h h
  have e : interpE (n : Int) = weightsE (n : Int) ++ upE 0 (n : Int) (pairT n) := rfl
  rw [e, List.length_append]; omega
theorem below_m {F0 : Nat → Prop} {W : World} {M R : List Res} (s : Bool) (n th cc : Nat) (T : Int) (ca : Option Addr) (c : Nat → Zp s) (t : Option Nat) (evs : List Ev) (r : Res) (w0 : World) (hs : Sat F0 W (r :: M) ((lst 4 (.slice ca n cc) n (en vq (fun i => mq (c i)) n)) :: R) w0) (hth : T = ((th : Nat) : Int)) (hT : TapeIs t evs r) (hn : n ≤ 1000) (he : evs.length ≤ 100000000) : Calls Tryz.prog 135 [tval t, .slice ca n cc, .int .i64 T].toArray w0 fun e w => ∃ r, e = .returned (.int .u64 (am (belZ c n th))) ∧ TapeIs t (evs ++ belowE n th) r ∧ Sat F0 W (r :: M) R w := by
 refine c_enter (args := [tval t, .slice ca n cc, .int .i64 T]) Tryz.func135 rfl rfl rfl fun a hk => ?_
 refine wS (wR ?_)
 refine q_v hk (w_as rfl) fun a hk => ?_
 refine c_end (x_t (wS (wR ?_)))
 refine q_v hk (w_as rfl) fun a hk => ?_
 refine c_end (x_t (wS (wS (wR ?_))))
 refine q_v hk (w_mv rfl) fun a hk => ?_
 refine q_v hk (w_len rfl Tryz.underlying51) fun a hk => ?_
 refine q_v hk (w_mv rfl) fun a hk => ?_
 refine c_end (x_t ?_)
 refine wpIn_block ?_
 refine c_loop (α := Nat) (fun u a w => ∃ (r : Res) (o : Nat), u ≤ n ∧ TapeIs t (evs ++ upE 0 ((u : Nat) : Int) (belF th)) r ∧ (o = 0 ↔ belZ c u th = true) ∧ o < Go.Proofs.YtdnkkbmpefhbjaaGreatDoor.W ∧ Kn [] 37 [(13, .int .i64 ((u : Nat) : Int)), (7, .int .u64 ((o : Nat) : Int)), (12, .int .i64 ((n : Nat) : Int)), (6, .int .u64 0), (0, tval t), (1, .slice ca n cc), (2, .int .i64 T)] a ∧ Sat F0 W (r :: M) ((lst 4 (.slice ca n cc) n (en vq (fun i => mq (c i)) n)) :: R) w) (fun u => n - u) 0 ?_ ?_
 · exact ⟨_, _, (by omega), (by rw [upE_nil (by omega), List.append_nil]; exact hT), (by simp [belZ]), (by decide), hk.k rfl (hk.k rfl (hk.k rfl (hk.k rfl (hk.k rfl (hk.k rfl (hk.k rfl hk.nil)))))), hs⟩
 rintro u a w ⟨r, o, hf0, hf1, hf2, hf3, hk, hs⟩
 have hT := hf1
 have hoW := hf3
 have hlk := bel_len (u := u) (th := th)
 refine wS (wR ?_)
 rcases Classical.em (((u : Nat) : Int) < ((n : Nat) : Int)) with hc1 | hc1
 ·
  refine q_v hk (w_lt rfl rfl (decide_eq_true hc1)) fun a hk => ?_
  refine c_end (x_t (wS ?_))
  refine c_T hk rfl ?_
  refine (wpIn_skip (x_t ?_))
  refine wS ?_
  refine wpIn_block ?_
  refine wS (wR ?_)
  refine q_v hk (w_mv rfl) fun a hk => ?_
  refine q_v hk (w_as rfl) fun a hk => ?_
  refine c_end (x_t (wS (wS (wR ?_))))
  refine q_v hk (w_mv rfl) fun a hk => ?_
  refine q_v hk (w_mv rfl) fun a hk => ?_
  rcases Classical.em (((u : Nat) : Int) < T) with hc2 | hc2
  ·
   refine q_v hk (w_lt rfl rfl (decide_eq_true hc2)) fun a hk => ?_
   refine c_end (x_t ?_)
   refine c_T hk rfl ?_
   refine (wpIn_exit (x_te (x_be ?_)))
   refine (x_t ?_)
   refine wR ?_
   refine q_v hk (w_add rfl rfl (wr64 (by omega) (by omega))) fun a hk => ?_
   refine q_v hk (w_mv rfl) fun a hk => ?_
   refine c_end (x_t ?_)
   have hT := hT
   rw [bel_no (show ((u : Nat) : Int) < (th : Int) by omega)] at hT
   have hoW' := hoW
   have hob := bel_keep hf2 (show ((u : Nat) : Int) < (th : Int) by omega)
   exact ⟨u + 1, ⟨_, _, (by omega), hT, hob, hoW', hk.k rfl (hk.k rfl (hk.k rfl (hk.k rfl (hk.k rfl (hk.k rfl (hk.k rfl hk.nil)))))), hs⟩, by omega⟩
  ·
   refine q_v hk (w_lt rfl rfl (decide_eq_false hc2)) fun a hk => ?_
   refine c_end (x_t ?_)
   refine c_F hk rfl ?_
   refine (wpIn_skip (x_t ?_))
   refine wS (wR ?_)
   refine q_v hk (w_mv rfl) fun a hk => ?_
   refine q_v hk (w_mv rfl) fun a hk => ?_
   refine q_call (caps := []) hk rfl rfl Tryz.func61 fo61 rfl rfl (note_m t 2 ((u : Nat) : Int) 0 (evs ++ upE 0 ((u : Nat) : Int) (belF th)) _ _ hT hs (by simp only [List.length_append]; omega)) ?_
   rintro _ w ⟨v3, r4, rfl, ht5, hs⟩
   have hT := ht5
   refine ⟨_, rfl, fun a hk => ?_⟩
   refine c_end (x_t (wS (wR ?_)))
   refine q_v hk (w_mv rfl) fun a hk => ?_
   refine q_v hk (w_mv rfl) fun a hk => ?_
   refine q_v hk (w_iaL (k := u) rfl rfl Tryz.underlying51 ty56 (hs.ri 0 rfl) (by omega) (by omega)) fun a hk => ?_
   refine q_v hk (w_ldv (z := mq (c u)) rfl ty56 (lstq (k := u) (hs.ri 0 rfl) (by omega) (en_chunk vq_len (by omega)))) fun a hk => ?_
   refine q_v hk (w_mv rfl) fun a hk => ?_
   refine c_end (x_t ?_)
   refine wpIn_block ?_
   refine c_rounds 5 ?_
   refine c_rsucc ?_
   refine wS (wR ?_)
   refine q_v hk (w_lt rfl rfl (decide_eq_true (by decide))) fun a hk => ?_
   refine c_end (x_t (wS ?_))
   refine c_T hk rfl ?_
   refine (wpIn_skip (x_t ?_))
   refine wS ?_
   refine wpIn_block ?_
   refine wS (wR ?_)
   refine q_v hk (w_ix (vs := vq (mq (c u))) (k := 0) rfl rfl Tryz.underlying56 ty46 rfl (by decide) rfl) fun a hk => ?_
   refine q_v hk (w_as rfl) fun a hk => ?_
   refine c_end (x_t (wR ?_))
   refine q_v hk (w_mv rfl) fun a hk => ?_
   refine q_v hk (w_mv rfl) fun a hk => ?_
   refine q_v hk (w_bit (op := .or) (by simp) rfl rfl (u64_or_nat _ _ hoW (dg_lt _ _))) fun a hk => ?_
   refine q_v hk (w_as rfl) fun a hk => ?_
   refine (c_end (x_b (x_t ?_)))
   refine wR ?_
   refine q_v hk (w_add (r := 1) rfl rfl (by decide)) fun a hk => ?_
   refine q_v hk (w_mv rfl) fun a hk => ?_
   refine c_end (x_t ?_)
   refine c_rsucc ?_
   refine wS (wR ?_)
   refine q_v hk (w_lt rfl rfl (decide_eq_true (by decide))) fun a hk => ?_
   refine c_end (x_t (wS ?_))
   refine c_T hk rfl ?_
   refine (wpIn_skip (x_t ?_))
   refine wS ?_
   refine wpIn_block ?_
   refine wS (wR ?_)
   refine q_v hk (w_ix (vs := vq (mq (c u))) (k := 1) rfl rfl Tryz.underlying56 ty46 rfl (by decide) rfl) fun a hk => ?_
   refine q_v hk (w_as rfl) fun a hk => ?_
   refine c_end (x_t (wR ?_))
   refine q_v hk (w_mv rfl) fun a hk => ?_
   refine q_v hk (w_mv rfl) fun a hk => ?_
   refine q_v hk (w_bit (op := .or) (by simp) rfl rfl (u64_or_nat _ _ (or_lt_W hoW (dg_lt _ _)) (dg_lt _ _))) fun a hk => ?_
   refine q_v hk (w_as rfl) fun a hk => ?_
   refine (c_end (x_b (x_t ?_)))
   refine wR ?_
   refine q_v hk (w_add (r := 2) rfl rfl (by decide)) fun a hk => ?_
   refine q_v hk (w_mv rfl) fun a hk => ?_
   refine c_end (x_t ?_)
   refine c_rsucc ?_
   refine wS (wR ?_)
   refine q_v hk (w_lt rfl rfl (decide_eq_true (by decide))) fun a hk => ?_
   refine c_end (x_t (wS ?_))
   refine c_T hk rfl ?_
   refine (wpIn_skip (x_t ?_))
   refine wS ?_
   refine wpIn_block ?_
   refine wS (wR ?_)
   refine q_v hk (w_ix (vs := vq (mq (c u))) (k := 2) rfl rfl Tryz.underlying56 ty46 rfl (by decide) rfl) fun a hk => ?_
   refine q_v hk (w_as rfl) fun a hk => ?_
   refine c_end (x_t (wR ?_))
   refine q_v hk (w_mv rfl) fun a hk => ?_
   refine q_v hk (w_mv rfl) fun a hk => ?_
   refine q_v hk (w_bit (op := .or) (by simp) rfl rfl (u64_or_nat _ _ (or_lt_W (or_lt_W hoW (dg_lt _ _)) (dg_lt _ _)) (dg_lt _ _))) fun a hk => ?_
   refine q_v hk (w_as rfl) fun a hk => ?_
   refine (c_end (x_b (x_t ?_)))
   refine wR ?_
   refine q_v hk (w_add (r := 3) rfl rfl (by decide)) fun a hk => ?_
   refine q_v hk (w_mv rfl) fun a hk => ?_
   refine c_end (x_t ?_)
   refine c_rsucc ?_
   refine wS (wR ?_)
   refine q_v hk (w_lt rfl rfl (decide_eq_true (by decide))) fun a hk => ?_
   refine c_end (x_t (wS ?_))
   refine c_T hk rfl ?_
   refine (wpIn_skip (x_t ?_))
   refine wS ?_
   refine wpIn_block ?_
   refine wS (wR ?_)
   refine q_v hk (w_ix (vs := vq (mq (c u))) (k := 3) rfl rfl Tryz.underlying56 ty46 rfl (by decide) rfl) fun a hk => ?_
   refine q_v hk (w_as rfl) fun a hk => ?_
   refine c_end (x_t (wR ?_))
   refine q_v hk (w_mv rfl) fun a hk => ?_
   refine q_v hk (w_mv rfl) fun a hk => ?_
   refine q_v hk (w_bit (op := .or) (by simp) rfl rfl (u64_or_nat _ _ (or_lt_W (or_lt_W (or_lt_W hoW (dg_lt _ _)) (dg_lt _ _)) (dg_lt _ _)) (dg_lt _ _))) fun a hk => ?_
   refine q_v hk (w_as rfl) fun a hk => ?_
   refine (c_end (x_b (x_t ?_)))
   refine wR ?_
   refine q_v hk (w_add (r := 4) rfl rfl (by decide)) fun a hk => ?_
   refine q_v hk (w_mv rfl) fun a hk => ?_
   refine c_end (x_t ?_)
   refine c_rsucc ?_
   refine wS (wR ?_)
   refine q_v hk (w_lt rfl rfl (decide_eq_false (by decide))) fun a hk => ?_
   refine c_end (x_t (wS ?_))
   refine c_F hk rfl ?_
   refine (wpIn_exit (x_te (x_te (x_be ?_))))
   refine (x_b (x_t ?_))
   refine wR ?_
   refine q_v hk (w_add rfl rfl (wr64 (by omega) (by omega))) fun a hk => ?_
   refine q_v hk (w_mv rfl) fun a hk => ?_
   refine c_end (x_t ?_)
   rw [bel_yes (show ¬ ((u : Nat) : Int) < (th : Int) by omega)] at hT
   have hoW' : o ||| dg 0 (mq (c u)) ||| dg 1 (mq (c u)) ||| dg 2 (mq (c u)) ||| dg 3 (mq (c u)) < Go.Proofs.YtdnkkbmpefhbjaaGreatDoor.W := (or_lt_W (or_lt_W (or_lt_W (or_lt_W hoW (dg_lt _ _)) (dg_lt _ _)) (dg_lt _ _)) (dg_lt _ _))
   have hob := bel_or hf2 (show ¬ ((u : Nat) : Int) < (th : Int) by omega)
   exact ⟨u + 1, ⟨_, _, (by omega), hT, hob, hoW', hk.k rfl (hk.k rfl (hk.k rfl (hk.k rfl (hk.k rfl (hk.k rfl (hk.k rfl hk.nil)))))), hs⟩, by omega⟩
 ·
  refine q_v hk (w_lt rfl rfl (decide_eq_false hc1)) fun a hk => ?_
  refine c_end (x_t (wS ?_))
  refine c_F hk rfl ?_
  refine (wpIn_exit (x_te (x_te (x_be ?_))))
  refine (x_t ?_)
  refine wS (wR ?_)
  refine q_v hk (w_mv rfl) fun a hk => ?_
  refine q_bsl (els := [.tmp 34]) (cs := [.int .u64 ((o : Nat) : Int)]) hk hs rfl Tryz.underlying91 ty46 zr46 rfl rfl rfl rfl rfl rfl rfl fun b6 w a hk hs => ?_
  refine q_call (caps := []) hk rfl rfl Tryz.func155 fo155 rfl rfl (maskIsZ_c _ 1 1 [o] _ (blk_lst (hs.mi 0 rfl) rfl (Nat.le_refl _)) (fun x hx => by rcases List.mem_singleton.1 hx with rfl; exact hoW) (by decide)) ?_
  rintro _ w ⟨rfl, hb⟩
  have hs := hs.below hb
  refine ⟨_, rfl, fun a hk => ?_⟩
  refine q_v hk (w_as rfl) fun a hk => ?_
  refine c_end (x_t ?_)
  refine (wpIn_ret ?_)
  refine c_ret1 hk rfl rfl ?_
  have hs := hs.drop
  have hs := hs.toR (R' := R) (fun r hr => .of (by simp [hr]))
  have hun : u = n := by omega
  rw [hun] at hT
  exact ⟨_, by rw [show decide (orl [o] = 0) = belZ c n th from by rw [← hun]; cases hb : belZ c u th with | true => exact decide_eq_true ((orl_one o).2 (hf2.2 hb)) | false => exact decide_eq_false fun h => by have := hf2.1 ((orl_one o).1 h); rw [hb] at this; cases this], hT, hs⟩
theorem fits_m {F0 : Nat → Prop} {W : World} {M R : List Res} (s : Bool) (n th lc yc : Nat) (T : Int) (la ya : Option Addr) (v : Nat → Nat) (py : Nat → Zp s) (t : Option Nat) (evs : List Ev) (r : Res) (w0 : World) (hs : Sat F0 W (r :: M) ((lst 4 (.slice ya n yc) n (en vq (fun i => mq (py i)) n)) :: R) w0) (hth : T = ((th : Nat) : Int)) (hT : TapeIs t evs r) (hL : HasR (lst 1 (.slice la n lc) n (en ic (fun i => ((v i : Nat) : Int)) n)) R) (h0 : 0 < n) (hn : n ≤ 255) (hv : ∀ i, i < n → 1 ≤ v i ∧ v i ≤ 255) (hd : ∀ i k, i < k → k < n → v i ≠ v k) (he : evs.length ≤ 10000000) : Calls Tryz.prog 100 [tval t, fieldV s, .slice la n lc, .slice ya n yc, .int .i64 T].toArray w0 fun e w => ∃ r, e = .returned (.tuple #[.int .u64 (am (belZ (itp (pt s v) py n n) n th)), .int .i64 0]) ∧ TapeIs t (evs ++ (interpE (n : Int) ++ belowE n th)) r ∧ Sat F0 W (r :: M) R w := by
 refine c_enter (args := [tval t, fieldV s, .slice la n lc, .slice ya n yc, .int .i64 T]) Tryz.func100 rfl rfl rfl fun a hk => ?_
 refine wS (wR ?_)
 refine q_box (vs := fieldL s) hk hs rfl rfl rfl rfl fun b1 w a hk hs => ?_
 refine q_v hk (w_as rfl) fun a hk => ?_
 refine q_v hk (w_as rfl) fun a hk => ?_
 refine c_end (x_t (wS (wR ?_)))
 refine q_v hk (w_mv rfl) fun a hk => ?_
 refine q_v hk (w_ldA rfl ty120 (.blk (n := 14) (hs.mi 0 rfl) rfl) rfl) fun a hk => ?_
 refine q_v hk (w_mv rfl) fun a hk => ?_
 refine q_v hk (w_mv rfl) fun a hk => ?_
 have hs := hs.up1
 refine q_call (caps := []) hk rfl rfl Tryz.func90 fo90 rfl rfl (interp_m s n lc yc la ya v py t evs _ _ (hs.hasR (HasR.nth 0 rfl)) hT (hL.cons) h0 hn hv hd (by omega)) ?_
 rintro _ w ⟨b2, r3, rfl, ht4, hs⟩
 have hT := ht4
 have hs := hs.subR (R' := ((lst 4 (.slice ya n yc) n (en vq (fun i => mq (py i)) n)) :: R)) (by simp +contextual)
 refine ⟨_, rfl, fun a hk => ?_⟩
 refine q_v hk (w_mv rfl) fun a hk => ?_
 refine q_v hk (w_ext rfl rfl) fun a hk => ?_
 refine q_v hk (w_ext rfl rfl) fun a hk => ?_
 refine q_v hk (w_as rfl) fun a hk => ?_
 refine q_v hk (w_as rfl) fun a hk => ?_
 refine c_end (x_t (wS (wS (wR ?_))))
 refine q_v hk (w_mv rfl) fun a hk => ?_
 refine q_v hk (w_ne rfl rfl (decide_eq_false (by decide))) fun a hk => ?_
 refine c_end (x_t ?_)
 refine c_F hk rfl ?_
 refine (wpIn_skip (x_t ?_))
 refine wS (wR ?_)
 refine q_v hk (w_mv rfl) fun a hk => ?_
 refine q_v hk (w_mv rfl) fun a hk => ?_
 refine q_v hk (w_mv rfl) fun a hk => ?_
 have hs := hs.up1
 have hs := hs.frz (r := lst 4 (.slice (some ⟨b2, 0, none⟩) n n) n (en vq (fun i => mq (itp (pt s v) py n n i)) n)) (blk_lst (hs.mi 0 rfl) (en_len vq_len) (Nat.le_refl _)) (fun _ h => (Option.some.inj h.2).symm)
 refine q_call (caps := []) hk rfl rfl Tryz.func135 fo135 rfl rfl (below_m s n th n T (some ⟨b2, 0, none⟩) (itp (pt s v) py n n) t (evs ++ interpE (n : Int)) _ _ (hs.hasR (HasR.nth 0 rfl)) hth hT (by omega) (by have := interp_len2 (n := n) (by omega); simp only [List.length_append]; omega)) ?_
 rintro _ w ⟨r5, rfl, ht6, hs⟩
 have hT := ht6
 have hs := hs.subR (R' := ((lst 4 (.slice (some ⟨b2, 0, none⟩) n n) n (en vq (fun i => mq (itp (pt s v) py n n i)) n)) :: (lst 4 (.slice ya n yc) n (en vq (fun i => mq (py i)) n)) :: R)) (by simp +contextual)
 refine ⟨_, rfl, fun a hk => ?_⟩
 refine q_v hk (w_as rfl) fun a hk => ?_
 refine q_v hk (w_as rfl) fun a hk => ?_
 refine c_end (x_t ?_)
 refine (wpIn_ret ?_)
 refine c_ret2 hk rfl rfl rfl ?_
 have hs := hs.up1
 have hs := hs.drop
 have hs := hs.toR (R' := R) (fun r hr => .of (by simp [hr]))
 exact ⟨_, rfl, by rw [← List.append_assoc]; exact hT, hs⟩
end Go.Proofs.YtdnkkbmpefhbjaaGreatDoor
namespace Go.Proofs.YtdnkkbmpefhbjaaGreatDoor
set_option linter.all false
open Go Go.RowKit Alg
structure Good (s : Bool) (S : Nat → Shr) (m : Nat) : Prop where
  m0 : 0 < m
  F : ∀ i, i < m → (S i).F = fid s
  T : ∀ i, i < m → (S i).T = (S 0).T
  Lq : ∀ i, i < m → (S i).L = (S 0).L
  n : ∀ i, i < m → (S i).n = (S 0).n
  idx : ∀ i, i < m → 1 ≤ (S i).I ∧ (S i).I ≤ 255
  app : ∀ i k, i < k → k < m → (S i).I ≠ (S k).I
  X : ∀ i, i < m → ∀ j, j < (S 0).n → (S i).X j < pr s
  t1 : 1 ≤ (S 0).T
  tm : (S 0).T ≤ (m : Int)
  l0 : 0 ≤ (S 0).L
  l1 : (S 0).L ≤ 65535
  cn : (S 0).n = cn (S 0).L
/-- The indices, the threshold as numbers; a column's elements. -/
def vI (S : Nat → Shr) (i : Nat) : Nat := (S i).I.toNat
def thN (S : Nat → Shr) : Nat := (S 0).T.toNat
def clz (s : Bool) (S : Nat → Shr) (ch i : Nat) : Zp s := mz s ((S i).X ch)
section
variable {s : Bool} {S : Nat → Shr} {m : Nat} (g : Good s S m)
include g
theorem Good.v_eq {i : Nat} (hi : i < m) : (S i).I = ((vI S i : Nat) : Int) := by have := g.idx i hi; unfold vI; omega
theorem Good.v_le (i : Nat) (hi : i < m) : 1 ≤ vI S i ∧ vI S i ≤ 255 := by have := g.idx i hi; unfold vI; omega
theorem Good.v_ne (i k : Nat) (hik : i < k) (hk : k < m) : vI S i ≠ vI S k := fun h => g.app i k hik hk (by rw [g.v_eq (Nat.lt_trans hik hk), g.v_eq hk, h])
theorem Good.th : (S 0).T = ((thN S : Nat) : Int) := by have := g.t1; unfold thN; omega
theorem Good.th_le : 1 ≤ thN S ∧ thN S ≤ m := by have := g.t1; have := g.tm; unfold thN; omega
theorem Good.xs_eq : en ic (fun i => (S i).I) m = en ic (fun i => ((vI S i : Nat) : Int)) m := en_congr fun i hi => g.v_eq hi
theorem Good.col_eq {ch : Nat} (hc : ch < (S 0).n) : en vq (fun i => (S i).X ch) m = en vq (fun i => mq (clz s S ch i)) m := en_congr fun i hi => (mz_mq (g.X i hi ch hc)).symm
end
/-- The program's fields, as something that is only read. -/
def laidR : Res where
  foot := (· = 0)
  ok w := Laid w
  loc w w' h k := fun j v hv => by rw [cell?_block (h _ rfl)]; exact k j v hv
  lt w k h hk := by subst hk; exact h.pos
end Go.Proofs.YtdnkkbmpefhbjaaGreatDoor
namespace Go.Proofs.YtdnkkbmpefhbjaaGreatDoor
set_option linter.all false
open Go Go.RowKit Alg
def amc (b : Bool) : List Value := [.int .u64 (am b)]
theorem amc_len (b : Bool) : (amc b).length = 1 := rfl
/-- Do the shares of a chunk fit? -/
def fitB (s : Bool) (S : Nat → Shr) (m ch : Nat) : Bool := belZ (itp (pt s (vI S)) (clz s S ch) m m) m (thN S)
def chunkE (m th : Nat) (ch : Int) : List Ev := [(4, ch, 0)] ++ (interpE (m : Int) ++ belowE m th)
theorem chunk_next {E : List Ev} {m th k : Nat} : E ++ upE 0 ((k : Nat) : Int) (chunkE m th) ++ chunkE m th ((k : Nat) : Int) = E ++ upE 0 ((k + 1 : Nat) : Int) (chunkE m th) := by
  have e := upE_succ (F := chunkE m th) (fr := 0) (x := (k : Int)) (by omega)
  rw [List.append_assoc, e]
  rfl
theorem chunkE_len {m th : Nat} (hm : m ≤ 255) (i : Int) : (chunkE m th i).length ≤ 140000 := by
  have h1 := interp_len (n := (m : Int)) (by omega)
  have h2 := bel_len (u := m) (th := th)
  unfold chunkE belowE
  simp only [List.length_append, List.length_singleton]
  omega
theorem chunks_len {m th k : Nat} (hm : m ≤ 255) : (upE 0 ((k : Nat) : Int) (chunkE m th)).length ≤ k * 140000 := by
  have := upE_len (fr := 0) (to := (k : Int)) (F := chunkE m th) (B := 140000) (fun i => chunkE_len hm i)
  simpa using this
theorem mtest_m {F0 : Nat → Prop} {W : World} {M R : List Res} (s : Bool) (S : Nat → Shr) (m lc xc oc ch k bt bf bx bl b10 : Nat) (la xa oa : Option Addr) (Z : Nat → Bool) (t : Option Nat) (evs : List Ev) (r : Res) (w0 : World) (hs : Sat F0 W (r :: (blk b10 [.slice oa k oc] 91) :: (row 46 1 (.slice oa k oc) k (en amc (fun i => Z i) k)) :: M) R w0) (g : Good s S m) (hm : m ≤ 255) (hc : ch < (S 0).n) (hn9 : (S 0).n ≤ 100000000) (hF : HasR (rall [blk bt [tval t] 60, blk bf (fieldL s) 120, blk bx [.slice xa m xc] 34, lst 1 (.slice xa m xc) m (en ic (fun i => ((vI S i : Nat) : Int)) m), blk bl [.slice la m lc] 22, shareR la m lc S]) R) (hT : TapeIs t evs r) (he : evs.length ≤ 9000000) (hk9 : k ≤ 1000000) : Calls Tryz.prog 99 [.int .i64 ((ch : Nat) : Int), .pointer (some ⟨bt, 0, none⟩), .pointer (some ⟨bf, 0, none⟩), .pointer (some ⟨bx, 0, none⟩), .pointer (some ⟨bl, 0, none⟩), .pointer (some ⟨b10, 0, none⟩)].toArray w0 fun e w => ∃ r oa oc, e = .returned (.int .i64 0) ∧ TapeIs t (evs ++ chunkE m (thN S) ((ch : Nat) : Int)) r ∧ Sat F0 W (r :: blk b10 [.slice oa (k + 1) oc] 91 :: row 46 1 (.slice oa (k + 1) oc) (k + 1) (en amc Z k ++ amc (fitB s S m ch)) :: M) R w := by
 have hm0 := g.m0
 refine c_enter (args := [.int .i64 ((ch : Nat) : Int), .pointer (some ⟨bt, 0, none⟩), .pointer (some ⟨bf, 0, none⟩), .pointer (some ⟨bx, 0, none⟩), .pointer (some ⟨bl, 0, none⟩), .pointer (some ⟨b10, 0, none⟩)]) Tryz.func99 rfl rfl rfl fun a hk => ?_
 refine wS (wR ?_)
 refine q_v hk (w_as rfl) fun a hk => ?_
 refine c_end (x_t (wS (wR ?_)))
 refine q_v hk (w_ld1 rfl ty60 (.blk (n := 1) ((hF.pi 0 rfl).at_ hs) rfl)) fun a hk => ?_
 refine q_v hk (w_mv rfl) fun a hk => ?_
 refine q_call (caps := []) hk rfl rfl Tryz.func61 fo61 rfl rfl (note_m t 4 ((ch : Nat) : Int) 0 evs _ _ hT hs (by omega)) ?_
 rintro _ w ⟨v1, r2, rfl, ht3, hs⟩
 have hT := ht3
 refine ⟨_, rfl, fun a hk => ?_⟩
 refine c_end (x_t (wS ?_))
 have hL := okL.cons ((hF.pi 0 rfl).at_ hs) (okL.cons ((hF.pi 1 rfl).at_ hs) (okL.cons ((hF.pi 2 rfl).at_ hs) (okL.cons ((hF.pi 4 rfl).at_ hs) (okL.cons ((share_lst (hF.pi 5 rfl)).at_ hs) okL.nil))))
 refine d_begin _ 16 (by kernel_rfl) rfl hs hL fun w hs hL => ?_
 refine d_w 0 1 hk hL rfl (fun w hL => w_ld1 rfl ty60 (.blk (n := 1) (hL.at 0 rfl) rfl)) fun a hk => ?_
 refine d_w 1 3 hk hL rfl (fun w hL => w_ldA rfl ty120 (.blk (n := 14) (hL.at 1 rfl) rfl) rfl) fun a hk => ?_
 refine d_w 2 7 hk hL rfl (fun w hL => w_ld1 rfl ty34 (.blk (n := 1) (hL.at 2 rfl) rfl)) fun a hk => ?_
 refine d_w 3 15 hk hL rfl (fun w hL => w_ld1 rfl ty22 (.blk (n := 1) (hL.at 3 rfl) rfl)) fun a hk => ?_
 refine d_w 4 31 hk hL rfl (fun w hL => w_mv rfl) fun a hk => ?_
 refine d_w 6 95 hk hL rfl (fun w hL => w_ld1 rfl ty22 (.blk (n := 1) (hL.at 3 rfl) rfl)) fun a hk => ?_
 refine d_w 7 223 hk hL rfl (fun w hL => w_iaL (k := 0) rfl rfl Tryz.underlying22 ty53 (hL.at 4 rfl) (by omega) (by omega)) fun a hk => ?_
 refine d_w 8 479 hk hL rfl (fun w hL => w_fa rfl fq53_1 ty3) fun a hk => ?_
 refine d_w 9 991 hk hL rfl (fun w hL => w_ld1 rfl ty3 (lstf (k := 0) (o := 1) (m := 1) (hL.at 4 rfl) (by omega) (en_chunk shc_len (by omega)) rfl)) fun a hk => ?_
 refine d_1 5 1023 rfl (by kernel_rfl) fun K hK => ?_
 refine q_call (caps := []) hk rfl rfl Tryz.func101 fo101 rfl rfl (column_c m lc ch la S _ ((hF.pi 5 rfl).at_ hs) (by omega) (fun i hi => by rw [g.n i hi]; exact ⟨hc, hn9⟩)) ?_
 rintro _ w ⟨b1_5, rfl, hS⟩
 have hs := hs.call1 hS
 clear hS
 refine ⟨_, rfl, fun a hk => ?_⟩
 have hL := okL.cons ((hF.pi 0 rfl).at_ hs) (okL.cons ((hF.pi 1 rfl).at_ hs) (okL.cons ((hF.pi 2 rfl).at_ hs) (okL.cons ((hF.pi 4 rfl).at_ hs) (okL.cons ((share_lst (hF.pi 5 rfl)).at_ hs) okL.nil))))
 refine c_end (x_t (hK _ _ hL ?_))
 clear hK K
 refine d_1 10 2047 rfl (by kernel_rfl) fun K hK => ?_
 have hs := hs.rw0 (congrArg (fun q => blk b1_5 q 56) (g.col_eq hc))
 have hs := hs.frz (r := lst 4 (.slice (some ⟨b1_5, 0, none⟩) m m) m (en vq (fun i => mq (clz s S ch i)) m)) (blk_lst (hs.mi 0 rfl) (en_len vq_len) (Nat.le_refl _)) (fun _ h => (Option.some.inj h.2).symm)
 refine q_call (caps := []) hk rfl rfl Tryz.func100 fo100 rfl rfl (fits_m s m (thN S) xc m (S 0).T xa (some ⟨b1_5, 0, none⟩) (vI S) (clz s S ch) t (evs ++ [(4, ((ch : Nat) : Int), 0)]) _ _ (hs.hasR (HasR.nth 0 rfl)) g.th hT ((hF.pi 3 rfl).cons) g.m0 (by omega) g.v_le g.v_ne (by simp only [List.length_append, List.length_singleton]; omega)) ?_
 rintro _ w ⟨r1_10, rfl, ht1_10b, hs⟩
 have hT := ht1_10b
 have hs := hs.subR (R' := ((lst 4 (.slice (some ⟨b1_5, 0, none⟩) m m) m (en vq (fun i => mq (clz s S ch i)) m)) :: R)) (by simp +contextual)
 have hs := hs.subR (R' := R) (by simp +contextual)
 refine ⟨_, rfl, fun a hk => ?_⟩
 have hL := okL.cons ((hF.pi 0 rfl).at_ hs) (okL.cons ((hF.pi 1 rfl).at_ hs) (okL.cons ((hF.pi 2 rfl).at_ hs) (okL.cons ((hF.pi 4 rfl).at_ hs) (okL.cons ((share_lst (hF.pi 5 rfl)).at_ hs) okL.nil))))
 refine c_end (x_t (hK _ _ hL ?_))
 clear hK K
 refine d_w 11 4095 hk hL rfl (fun w hL => w_mv rfl) fun a hk => ?_
 refine d_w 12 8191 hk hL rfl (fun w hL => w_ext rfl rfl) fun a hk => ?_
 refine d_w 13 16383 hk hL rfl (fun w hL => w_ext rfl rfl) fun a hk => ?_
 refine d_w 14 32767 hk hL rfl (fun w hL => w_as rfl) fun a hk => ?_
 refine d_w 15 65535 hk hL rfl (fun w hL => w_as rfl) fun a hk => ?_
 refine d_end (by kernel_rfl) ?_
 refine (x_t ?_)
 refine wS (wR ?_)
 refine q_v hk (w_ld1 rfl ty91 (.blk (n := 1) (hs.mi 1 rfl) rfl)) fun a hk => ?_
 refine q_v hk (w_mv rfl) fun a hk => ?_
 refine q_bsl (els := [.tmp 28]) (cs := [.int .u64 (am (fitB s S m ch))]) hk hs rfl Tryz.underlying91 ty46 zr46 rfl rfl rfl rfl rfl rfl rfl fun b4 w a hk hs => ?_
 have hs := hs.up3
 refine q_app (news := [.int .u64 (am (fitB s S m ch))]) (m := 1) hk hs rfl rfl Tryz.underlying91 ty46 zr46 rfl rfl (.blk (n := 1) (hs.mi 1 rfl) rfl) rfl rfl (by omega) (by omega) rfl rfl fun a5 c6 w a hk hs => ?_
 have hs := hs.up1
 have hs := hs.drop
 have hs := hs.up2
 refine q_sto (o := 0) (cs := [.slice a5 (k + 1) c6]) (vs' := [.slice a5 (k + 1) c6]) hk hs rfl rfl rfl ty91 rfl rfl rfl rfl rfl rfl fun w hs => ?_
 refine c_end (x_t (wS (wR ?_)))
 refine q_v hk (w_mv rfl) fun a hk => ?_
 refine q_v hk (w_as rfl) fun a hk => ?_
 refine c_end (x_t ?_)
 refine (wpIn_ret ?_)
 refine c_ret1 hk rfl rfl ?_
 have hs := hs.up1
 have hs := hs.up1
 have hs := hs.up2
 exact ⟨_, _, _, rfl, by unfold chunkE; rw [← List.append_assoc]; exact hT, hs⟩
theorem masks_bad {F0 : Nat → Prop} {W : World} {M R : List Res} (m lc : Nat) (la : Option Addr) (S : Nat → Shr) (t : Option Nat) (w0 : World) (hs : Sat F0 W M R w0) (hS : HasR (shareR la m lc S) R) (hG : HasR laidR R) (HO : ShOk S m) (hz : csErr S m ≠ 0) : Calls Tryz.prog 55 [tval t, .slice la m lc].toArray w0 fun e w => e = .returned (.tuple #[.slice none 0 0, .int .i64 (csErr S m)]) ∧ Sat F0 W M R w := by
 refine c_enter (args := [tval t, .slice la m lc]) Tryz.func55 rfl rfl rfl fun a hk => ?_
 refine wS (wR ?_)
 refine q_box (vs := [tval t]) hk hs rfl rfl rfl rfl fun b1 w a hk hs => ?_
 refine q_box (vs := [.slice la m lc]) hk hs rfl rfl rfl rfl fun b2 w a hk hs => ?_
 refine q_v hk (w_as rfl) fun a hk => ?_
 refine q_v hk (w_as rfl) fun a hk => ?_
 refine c_end (x_t (wS (wS (wR ?_))))
 refine q_v hk (w_ld1 rfl ty22 (.blk (n := 1) (hs.mi 0 rfl) rfl)) fun a hk => ?_
 refine q_call (caps := []) hk rfl rfl Tryz.func60 fo60 rfl rfl (ckShares_c m lc la S _ ((hS).at_ hs) HO ((hG).at_ hs)) ?_
 rintro _ w ⟨rfl, hb⟩
 have hs := hs.below hb
 refine ⟨_, rfl, fun a hk => ?_⟩
 refine q_v hk (w_as rfl) fun a hk => ?_
 refine c_end (x_t (wS (wR ?_)))
 refine q_v hk (w_mv rfl) fun a hk => ?_
 refine q_v hk (w_ne rfl rfl (decide_eq_true (by omega))) fun a hk => ?_
 refine c_end (x_t ?_)
 refine c_T hk rfl ?_
 refine wS (wR ?_)
 refine q_v hk (w_mv rfl) fun a hk => ?_
 refine q_v hk (w_as rfl) fun a hk => ?_
 refine q_v hk (w_as rfl) fun a hk => ?_
 refine c_end (x_t ?_)
 refine (wpIn_ret (x_tr ?_))
 refine c_ret2 hk rfl rfl rfl ?_
 have hs := hs.drop
 have hs := hs.drop
 exact ⟨rfl, hs⟩
theorem masks_m {F0 : Nat → Prop} {W : World} {M R : List Res} (s : Bool) (m lc : Nat) (la : Option Addr) (S : Nat → Shr) (t : Option Nat) (evs : List Ev) (r : Res) (w0 : World) (hs : Sat F0 W (r :: M) R w0) (hS : HasR (shareR la m lc S) R) (hG : HasR laidR R) (HO : ShOk S m) (g : Good s S m) (hz : csErr S m = 0) (hm : m ≤ 255) (hn9 : (S 0).n ≤ 4) (hT : TapeIs t evs r) (he : evs.length ≤ 6000000) : Calls Tryz.prog 55 [tval t, .slice la m lc].toArray w0 fun e w => ∃ r a c, e = .returned (.tuple #[.slice a (S 0).n c, .int .i64 0]) ∧ TapeIs t (evs ++ upE 0 (((S 0).n : Nat) : Int) (chunkE m (thN S))) r ∧ Sat F0 W (r :: row 46 1 (.slice a (S 0).n c) (S 0).n (en amc (fitB s S m) (S 0).n) :: M) R w := by
 have hm0 := g.m0
 refine c_enter (args := [tval t, .slice la m lc]) Tryz.func55 rfl rfl rfl fun a hk => ?_
 refine wS (wR ?_)
 refine q_box (vs := [tval t]) hk hs rfl rfl rfl rfl fun b1 w a hk hs => ?_
 refine q_box (vs := [.slice la m lc]) hk hs rfl rfl rfl rfl fun b2 w a hk hs => ?_
 refine q_v hk (w_as rfl) fun a hk => ?_
 refine q_v hk (w_as rfl) fun a hk => ?_
 refine c_end (x_t (wS (wS (wR ?_))))
 refine q_v hk (w_ld1 rfl ty22 (.blk (n := 1) (hs.mi 0 rfl) rfl)) fun a hk => ?_
 refine q_call (caps := []) hk rfl rfl Tryz.func60 fo60 rfl rfl (ckShares_c m lc la S _ ((hS).at_ hs) HO ((hG).at_ hs)) ?_
 rintro _ w ⟨rfl, hb⟩
 have hs := hs.below hb
 refine ⟨_, rfl, fun a hk => ?_⟩
 refine q_v hk (w_as rfl) fun a hk => ?_
 refine c_end (x_t (wS (wR ?_)))
 refine q_v hk (w_mv rfl) fun a hk => ?_
 refine q_v hk (w_ne rfl rfl (decide_eq_false (by omega))) fun a hk => ?_
 refine c_end (x_t ?_)
 refine c_F hk rfl ?_
 refine (wpIn_skip (x_t ?_))
 refine wS (wR ?_)
 refine q_v hk (w_ld1 rfl ty22 (.blk (n := 1) (hs.mi 0 rfl) rfl)) fun a hk => ?_
 refine q_v hk (w_iaL (k := 0) rfl rfl Tryz.underlying22 ty53 ((share_lst hS).at_ hs) (by omega) (by omega)) fun a hk => ?_
 refine q_v hk (w_fa rfl fq53_0 ty3) fun a hk => ?_
 refine q_v hk (w_ld1 rfl ty3 (ic_eq (g.F 0 g.m0) (lstf (k := 0) (o := 0) (m := 1) ((share_lst hS).at_ hs) (by omega) (en_chunk shc_len (by omega)) rfl))) fun a hk => ?_
 refine q_call (caps := []) hk rfl rfl Tryz.func85 fo85 rfl rfl (get_c s _ ((hG).at_ hs)) ?_
 rintro _ w ⟨rfl, hb⟩
 have hs := hs.below hb
 refine ⟨_, rfl, fun a hk => ?_⟩
 refine q_v hk (w_mv rfl) fun a hk => ?_
 refine q_v hk (w_ext rfl rfl) fun a hk => ?_
 refine q_v hk (w_ext rfl rfl) fun a hk => ?_
 refine q_alc (vs := [.int .i64 0, .int .u64 0, .int .u64 0, .int .u64 0, .int .u64 0, .int .u64 0, .int .u64 0, .int .u64 0, .int .u64 0, .int .u64 0, .int .u64 0, .int .u64 0, .int .u64 0, .int .u64 0]) hk hs zr120 rfl rfl rfl fun b3 w a hk hs => ?_
 refine q_sto (o := 0) (cs := fieldL s) (vs' := fieldL s) hk hs rfl rfl rfl ty120 rfl rfl rfl rfl rfl rfl fun w hs => ?_
 refine q_v hk (w_as rfl) fun a hk => ?_
 refine c_end (x_t (wS (wR ?_)))
 refine q_v hk (w_ld1 rfl ty22 (.blk (n := 1) (hs.mi 1 rfl) rfl)) fun a hk => ?_
 refine q_call (caps := []) hk rfl rfl Tryz.func80 fo80 rfl rfl (indices_c m lc la S _ ((hS).at_ hs) (by omega)) ?_
 rintro _ w ⟨a4, c5, rfl, hS⟩
 have hs := hs.call1 hS
 clear hS
 refine ⟨_, rfl, fun a hk => ?_⟩
 refine q_alc (vs := [.slice none 0 0]) hk hs zr34 rfl rfl rfl fun b6 w a hk hs => ?_
 refine q_sto (o := 0) (cs := [.slice a4 m c5]) (vs' := [.slice a4 m c5]) hk hs rfl rfl rfl ty34 rfl rfl rfl rfl rfl rfl fun w hs => ?_
 refine c_end (x_t (wS (wR ?_)))
 refine q_alc (vs := [.slice none 0 0]) hk hs zr91 rfl rfl rfl fun b7 w a hk hs => ?_
 refine c_end (x_t (wS (wR ?_)))
 refine q_v hk (w_mkf (frees := [.tmp 2, .tmp 7, .tmp 9, .tmp 3, .tmp 10]) rfl) fun a hk => ?_
 refine q_v hk (w_as rfl) fun a hk => ?_
 refine c_end (x_t (wS (wS (wR ?_))))
 refine q_v hk (w_ld1 rfl ty22 (.blk (n := 1) (hs.mi 4 rfl) rfl)) fun a hk => ?_
 refine q_v hk (w_iaL (k := 0) rfl rfl Tryz.underlying22 ty53 ((share_lst hS).at_ hs) (by omega) (by omega)) fun a hk => ?_
 refine q_v hk (w_fa rfl fq53_4 ty51) fun a hk => ?_
 refine q_v hk (w_ld1 rfl ty51 (lstf (k := 0) (o := 4) (m := 1) ((share_lst hS).at_ hs) (by omega) (en_chunk shc_len (by omega)) rfl)) fun a hk => ?_
 refine q_v hk (w_len rfl Tryz.underlying51) fun a hk => ?_
 refine q_v hk (w_mv rfl) fun a hk => ?_
 refine c_end (x_t ?_)
 refine wpIn_block ?_
 have hs := hs.up2
 have hs := hs.rw0 (congrArg (fun q => row 3 1 (.slice a4 m c5) m q) g.xs_eq)
 have hs := hs.frz (r := lst 1 (.slice a4 m c5) m (en ic (fun i => ((vI S i : Nat) : Int)) m)) (row_lst (hs.mi 0 rfl)) (fun _ h => h.2)
 have hs := hs.up4
 have hs := hs.frz (r := blk b1 [tval t] 60) (hs.okM _ (.head _)) (fun _ h => h)
 have hs := hs.up3
 have hs := hs.frz (r := blk b2 [.slice la m lc] 22) (hs.okM _ (.head _)) (fun _ h => h)
 have hs := hs.up2
 have hs := hs.frz (r := blk b3 (fieldL s) 120) (hs.okM _ (.head _)) (fun _ h => h)
 have hs := hs.up1
 have hs := hs.frz (r := blk b6 [.slice a4 m c5] 34) (hs.okM _ (.head _)) (fun _ h => h)
 have hs := hs.row0 46 1
 refine c_loop (α := Nat) (fun k a w => ∃ (r : Res) (ao : Option Addr) (co : Nat), k ≤ (S 0).n ∧ TapeIs t (evs ++ upE 0 ((k : Nat) : Int) (chunkE m (thN S))) r ∧ Kn [] 46 [(35, .int .i64 ((k : Nat) : Int)), (34, .int .i64 (((S 0).n : Nat) : Int)), (11, .func (.func 99) #[] #[.pointer (some ⟨b1, 0, none⟩), .pointer (some ⟨b3, 0, none⟩), .pointer (some ⟨b6, 0, none⟩), .pointer (some ⟨b2, 0, none⟩), .pointer (some ⟨b7, 0, none⟩)]), (10, .pointer (some ⟨b7, 0, none⟩))] a ∧ Sat F0 W ((row 46 1 (.slice ao k co) k (en amc (fun i => fitB s S m i) k)) :: (blk b7 [.slice ao k co] 91) :: r :: M) ((blk b6 [.slice a4 m c5] 34) :: (blk b3 (fieldL s) 120) :: (blk b2 [.slice la m lc] 22) :: (blk b1 [tval t] 60) :: (lst 1 (.slice a4 m c5) m (en ic (fun i => ((vI S i : Nat) : Int)) m)) :: R) w) (fun k => (S 0).n - k) 0 ?_ ?_
 · exact ⟨_, _, _, (by omega), (by rw [upE_nil (by omega), List.append_nil]; exact hT), hk.k rfl (hk.k rfl (hk.k rfl (hk.k rfl hk.nil))), hs⟩
 rintro k a w ⟨r, ao, co, hf0, hf1, hk, hs⟩
 have hT := hf1
 have hlk := chunks_len (m := m) (th := thN S) (k := k) hm
 refine wS (wR ?_)
 rcases Classical.em (((k : Nat) : Int) < (((S 0).n : Nat) : Int)) with hc8 | hc8
 ·
  refine q_v hk (w_lt rfl rfl (decide_eq_true hc8)) fun a hk => ?_
  refine c_end (x_t (wS ?_))
  refine c_T hk rfl ?_
  refine (wpIn_skip (x_t ?_))
  refine wS ?_
  refine wpIn_block ?_
  refine wS (wR ?_)
  refine q_v hk (w_mv rfl) fun a hk => ?_
  refine q_v hk (w_as rfl) fun a hk => ?_
  refine c_end (x_t (wS (wR ?_)))
  refine q_v hk (w_mv rfl) fun a hk => ?_
  refine q_v hk (w_mv rfl) fun a hk => ?_
  have hs := hs.up1
  have hs := hs.up2
  have hFF : HasR (rall [blk b1 [tval t] 60, blk b3 (fieldL s) 120, blk b6 [.slice a4 m c5] 34, lst 1 (.slice a4 m c5) m (en ic (fun i => ((vI S i : Nat) : Int)) m), blk b2 [.slice la m lc] 22, shareR la m lc S]) ((blk b6 [.slice a4 m c5] 34) :: (blk b3 (fieldL s) 120) :: (blk b2 [.slice la m lc] 22) :: (blk b1 [tval t] 60) :: (lst 1 (.slice a4 m c5) m (en ic (fun i => ((vI S i : Nat) : Int)) m)) :: R) := (.rall fun q hq => by simp only [List.mem_cons, List.not_mem_nil, or_false] at hq; rcases hq with rfl | rfl | rfl | rfl | rfl | rfl <;> first | exact (hS.cons.cons.cons.cons.cons) | exact HasR.of (by simp))
  refine q_call (caps := [.pointer (some ⟨b1, 0, none⟩), .pointer (some ⟨b3, 0, none⟩), .pointer (some ⟨b6, 0, none⟩), .pointer (some ⟨b2, 0, none⟩), .pointer (some ⟨b7, 0, none⟩)]) hk rfl rfl Tryz.func99 fo99 rfl rfl (mtest_m s S m lc c5 co k k b1 b3 b6 b2 b7 la a4 ao (fitB s S m) t (evs ++ upE 0 ((k : Nat) : Int) (chunkE m (thN S))) _ _ hs g hm (by omega) (by omega) hFF hT (by simp only [List.length_append]; omega) (by omega)) ?_
  rintro _ w ⟨r9, a10, c11, rfl, hT, hs⟩
  refine ⟨_, rfl, fun a hk => ?_⟩
  refine q_v hk (w_as rfl) fun a hk => ?_
  refine c_end (x_t (wS (wR ?_)))
  refine q_v hk (w_mv rfl) fun a hk => ?_
  refine q_v hk (w_ne rfl rfl (decide_eq_false (by decide))) fun a hk => ?_
  refine c_end (x_t ?_)
  refine c_F hk rfl ?_
  refine (wpIn_skip (x_b (x_t ?_)))
  refine wR ?_
  refine q_v hk (w_add rfl rfl (wr64 (by omega) (by omega))) fun a hk => ?_
  refine q_v hk (w_mv rfl) fun a hk => ?_
  refine c_end (x_t ?_)
  have hs := hs.up2
  have hs := hs.rw0 (congrArg _ en_succ)
  rw [chunk_next] at hT
  have hs := hs.up1
  have hs := hs.up2
  have hs := hs.up2
  exact ⟨k + 1, ⟨_, _, _, (by omega), hT, hk.k rfl (hk.k rfl (hk.k rfl (hk.k rfl hk.nil))), hs⟩, by omega⟩
 ·
  refine q_v hk (w_lt rfl rfl (decide_eq_false hc8)) fun a hk => ?_
  refine c_end (x_t (wS ?_))
  refine c_F hk rfl ?_
  refine (wpIn_exit (x_te (x_te (x_be ?_))))
  refine (x_t ?_)
  refine wS (wR ?_)
  refine q_v hk (w_ld1 rfl ty91 (.blk (n := 1) (hs.mi 1 rfl) rfl)) fun a hk => ?_
  refine q_v hk (w_as rfl) fun a hk => ?_
  refine q_v hk (w_as rfl) fun a hk => ?_
  refine c_end (x_t ?_)
  refine (wpIn_ret ?_)
  refine c_ret2 hk rfl rfl rfl ?_
  have hs := hs.up1
  have hs := hs.drop
  have hs := hs.up1
  have hs := hs.toR (R' := R) (fun r hr => .of (by simp [hr]))
  have hkn : k = (S 0).n := by omega
  rw [hkn] at hs hT ⊢
  exact ⟨_, _, _, rfl, hT, hs⟩
end Go.Proofs.YtdnkkbmpefhbjaaGreatDoor
namespace Go.Proofs.YtdnkkbmpefhbjaaGreatDoor
set_option linter.all false
open Go Go.RowKit Alg
section
variable {s : Bool}
/-- The sum of the c k * f k below n. -/
def Sg (c f : Nat → Zp s) : Nat → Zp s
  | 0 => 0
  | k + 1 => Sg c f k + c k * f k
theorem Sg_congr {c d f : Nat → Zp s} : ∀ {n : Nat}, (∀ k, k < n → c k = d k) → Sg c f n = Sg d f n
  | 0, _ => rfl
  | n + 1, h => by show Sg c f n + _ = Sg d f n + _; rw [Sg_congr fun k hk => h k (by omega), h n (by omega)]
theorem Sg_zero {c f : Nat → Zp s} : ∀ {n : Nat}, (∀ k, k < n → c k = 0) → Sg c f n = 0
  | 0, _ => rfl
  | n + 1, h => by show Sg c f n + c n * f n = 0; rw [Sg_zero fun k hk => h k (by omega), h n (by omega)]; grind
theorem Sg_add (c d f : Nat → Zp s) (e : Zp s) : ∀ n, Sg (fun k => c k + e * d k) f n = Sg c f n + e * Sg d f n
  | 0 => by show (0 : Zp s) = 0 + e * 0; grind
  | n + 1 => by show Sg _ f n + (c n + e * d n) * f n = Sg c f n + c n * f n + e * (Sg d f n + d n * f n); rw [Sg_add c d f e n]; grind
theorem Sg_upd (g f : Nat → Zp s) (e : Zp s) (i : Nat) : ∀ n, Sg (fun j => if j = i then g j + e else g j) f n = Sg g f n + if i < n then e * f i else 0
  | 0 => by rw [if_neg (Nat.not_lt_zero i)]; show (0 : Zp s) = 0 + 0; grind
  | n + 1 => by
    show Sg _ f n + (if n = i then g n + e else g n) * f n = Sg g f n + g n * f n + _
    rw [Sg_upd g f e i n]
    by_cases h : n = i
    · subst h; rw [if_neg (Nat.lt_irrefl _), if_pos rfl, if_pos (Nat.lt_succ_self _)]; grind
    · rw [if_neg h]
      by_cases l : i < n
      · rw [if_pos l, if_pos (by omega)]; grind
      · rw [if_neg l, if_neg (by omega)]; grind
/-- A product with X - b. -/
theorem Sg_lin (c f : Nat → Zp s) (b : Zp s) (N : Nat) : ∀ n, n + 1 ≤ N → Sg (mall c (lin b) 2 n) f N = Sg c (fun k => f (k + 1) - b * f k) n
  | 0, _ => Sg_zero fun _ _ => rfl
  | n + 1, h => by
    have ih := Sg_lin c f b N n (by omega)
    show Sg (fun j => if j = n + 1 then (if j = n then mall c (lin b) 2 n j + c n * lin b 0 else mall c (lin b) 2 n j) + c n * lin b 1 else (if j = n then mall c (lin b) 2 n j + c n * lin b 0 else mall c (lin b) 2 n j)) f N = Sg c _ n + c n * (f (n + 1) - b * f n)
    rw [Sg_upd (fun j => if j = n then mall c (lin b) 2 n j + c n * lin b 0 else mall c (lin b) 2 n j), Sg_upd (mall c (lin b) 2 n), if_pos (by omega), if_pos (by omega), ih]
    show _ + c n * (0 - b) * f n + c n * 1 * f (n + 1) = _
    grind
theorem Sg_pw (c : Nat → Zp s) (z b : Zp s) : ∀ n, Sg c (fun k => pw z (k + 1) - b * pw z k) n = (z - b) * Sg c (pw z) n
  | 0 => by show (0 : Zp s) = (z - b) * 0; grind
  | n + 1 => by
    show Sg c _ n + c n * (pw z n * z - b * pw z n) = (z - b) * (Sg c (pw z) n + c n * pw z n)
    rw [Sg_pw c z b n]; grind
/-- (z^k - a^k) / (z - a). -/
def psi (a z : Zp s) : Nat → Zp s
  | 0 => 0
  | k + 1 => psi a z k * a + pw z k
theorem Sg_dp (c : Nat → Zp s) (z b : Zp s) : ∀ n, Sg c (fun k => psi z z (k + 1) - b * psi z z k) n = (z - b) * Sg c (psi z z) n + Sg c (pw z) n
  | 0 => by show (0 : Zp s) = (z - b) * 0 + 0; grind
  | n + 1 => by
    show Sg c _ n + c n * (psi z z n * z + pw z n - b * psi z z n) = (z - b) * (Sg c (psi z z) n + c n * psi z z n) + (Sg c (pw z) n + c n * pw z n)
    rw [Sg_dp c z b n]; grind
theorem psi_eq (a z : Zp s) : ∀ k, (z - a) * psi a z k = pw z k - pw a k
  | 0 => by show (z - a) * 0 = 1 - 1; grind
  | k + 1 => by
    have ih := psi_eq a z k
    show (z - a) * (psi a z k * a + pw z k) = pw z k * z - pw a k * a
    grind
theorem Sg_psi (c : Nat → Zp s) (a z : Zp s) : ∀ n, (z - a) * Sg c (psi a z) n = Sg c (pw z) n - Sg c (pw a) n
  | 0 => by show (z - a) * 0 = (0 : Zp s) - 0; grind
  | n + 1 => by
    have ih := Sg_psi c a z n
    have h := psi_eq a z n
    show (z - a) * (Sg c (psi a z) n + c n * psi a z n) = Sg c (pw z) n + c n * pw z n - (Sg c (pw a) n + c n * pw a n)
    grind
/-- Horner's partial values are the coefficients of the quotient. -/
theorem Hn_part (c : Nat → Zp s) (a z : Zp s) (n : Nat) : ∀ j, j ≤ n + 1 → Sg c (psi a z) (n + 1) - Sg c (psi a z) (n + 1 - j) = Sg (fun k => Hn c (n + 1) a (n - k)) (pw z) (n + 1) - Sg (fun k => Hn c (n + 1) a (n - k)) (pw z) (n + 1 - j) + Hn c (n + 1) a j * psi a z (n + 1 - j)
  | 0, _ => by show Sg c _ (n + 1) - Sg c _ (n + 1) = Sg _ _ (n + 1) - Sg _ _ (n + 1) + 0 * _; grind
  | j + 1, h => by
    have ih := Hn_part c a z n j (by omega)
    obtain ⟨m, hm⟩ : ∃ m, n = m + j := ⟨n - j, by omega⟩
    rw [show n + 1 - j = m + 1 by omega] at ih
    rw [show n + 1 - (j + 1) = m by omega]
    have e1 : Sg c (psi a z) (m + 1) = Sg c (psi a z) m + c m * psi a z m := rfl
    have e2 : Sg (fun k => Hn c (n + 1) a (n - k)) (pw z) (m + 1) = Sg (fun k => Hn c (n + 1) a (n - k)) (pw z) m + Hn c (n + 1) a j * pw z m := by
      show _ + Hn c (n + 1) a (n - m) * _ = _
      rw [show n - m = j by omega]
    have e3 : Hn c (n + 1) a (j + 1) = Hn c (n + 1) a j * a + c m := by
      show _ + c (n + 1 - 1 - j) = _
      rw [show n + 1 - 1 - j = m by omega]
    have e4 : psi a z (m + 1) = psi a z m * a + pw z m := rfl
    rw [e1, e2, e4] at ih
    rw [e3]
    generalize Sg c (psi a z) (n + 1) = A1 at *
    generalize Sg c (psi a z) m = A2 at *
    generalize Sg (fun k => Hn c (n + 1) a (n - k)) (pw z) (n + 1) = A3 at *
    generalize Sg (fun k => Hn c (n + 1) a (n - k)) (pw z) m = A4 at *
    grind
theorem Hn_quo (c : Nat → Zp s) (a z : Zp s) (n : Nat) : Sg (fun k => Hn c (n + 1) a (n - k)) (pw z) n = Sg c (psi a z) (n + 1) := by
  have h := Hn_part c a z n (n + 1) (Nat.le_refl _)
  rw [Nat.sub_self] at h
  have e : Sg (fun k => Hn c (n + 1) a (n - k)) (pw z) (n + 1) = Sg (fun k => Hn c (n + 1) a (n - k)) (pw z) n + 0 * pw z n := by
    show _ + Hn c (n + 1) a (n - n) * _ = _
    rw [Nat.sub_self]; rfl
  rw [e] at h
  have h0 : Sg c (psi a z) 0 = 0 := rfl
  have h1 : Sg (fun k => Hn c (n + 1) a (n - k)) (pw z) 0 = 0 := rfl
  have h2 : psi a z 0 = 0 := rfl
  rw [h0, h1, h2] at h
  grind
/-! The product of the X - x i. -/
def Pd (x : Nat → Zp s) (z : Zp s) : Nat → Zp s
  | 0 => 1
  | k + 1 => (z - x k) * Pd x z k
theorem mst_ev (x : Nat → Zp s) (z : Zp s) : ∀ k, Sg (mst x k) (pw z) (k + 1) = Pd x z k
  | 0 => by show (0 : Zp s) + 1 * 1 = 1; grind
  | k + 1 => by
    show Sg (mall (mst x k) (lin (x k)) 2 (k + 1)) (pw z) (k + 2) = _
    rw [Sg_lin _ _ _ _ _ (Nat.le_refl _), Sg_pw, mst_ev x z k]; rfl
theorem mst_d (x : Nat → Zp s) (z : Zp s) (k : Nat) : Sg (mst x (k + 1)) (psi z z) (k + 2) = (z - x k) * Sg (mst x k) (psi z z) (k + 1) + Pd x z k := by
  show Sg (mall (mst x k) (lin (x k)) 2 (k + 1)) (psi z z) (k + 2) = _
  rw [Sg_lin _ _ _ _ _ (Nat.le_refl _), Sg_dp, mst_ev]
theorem Pd_zero (x : Nat → Zp s) (u : Nat) : ∀ k, u < k → Pd x (x u) k = 0
  | k + 1, h => by
    show (x u - x k) * Pd x (x u) k = 0
    by_cases e : u = k
    · subst e; grind
    · rw [Pd_zero x u k (by omega)]; grind
theorem Pd_wr (x : Nat → Zp s) (u : Nat) : ∀ k, k ≤ u → Pd x (x u) k = wr x u k
  | 0, _ => rfl
  | k + 1, h => by
    show (x u - x k) * Pd x (x u) k = if k = u then _ else wr x u k * (x u - x k)
    rw [if_neg (by omega), Pd_wr x u k (by omega)]; grind
theorem mst_wr (x : Nat → Zp s) (u : Nat) : ∀ k, u < k → Sg (mst x k) (psi (x u) (x u)) (k + 1) = wr x u k
  | k + 1, h => by
    rw [mst_d]
    show _ = if k = u then wr x u k else wr x u k * (x u - x k)
    by_cases e : k = u
    · subst e; rw [if_pos rfl, Pd_wr x k k (Nat.le_refl _)]; grind
    · rw [if_neg e, mst_wr x u k (by omega), Pd_zero x u k (by omega)]; grind
/-! Elements of which the power p - 1 is one. -/
def Fm (d : Zp s) : Prop := pw d (pr s - 1) = 1
theorem pr_ge (s : Bool) : 2 ≤ pr s := by cases s <;> decide
theorem Fm.one : Fm (1 : Zp s) := pw_of_one _
theorem Fm.mul {d e : Zp s} (h : Fm d) (k : Fm e) : Fm (d * e) := by unfold Fm at *; rw [pw_prod, h, k]; grind
theorem Fm.inv {d : Zp s} (h : Fm d) : zinv d * d = 1 := by
  have e : pr s - 1 = pr s - 2 + 1 := by have := pr_ge s; omega
  unfold Fm at h
  rw [e] at h
  exact h
theorem Fm.un {d : Zp s} (h : Fm d) : Un d := ⟨_, h.inv⟩
theorem one_ne (s : Bool) : (1 : Zp s) ≠ 0 := fun h => by have := congrArg Fin.val h; rw [one_val, Fin.val_zero] at this; omega
theorem Fm.ne {d : Zp s} (h : Fm d) : d ≠ 0 := fun e => by have h1 := h.inv; rw [e] at h1; exact one_ne s (by grind)
theorem pw_sq (d : Zp s) (n : Nat) : pw d (2 * n) = pw (d * d) n := by
  rw [← pw_pw]
  congr 1
  show 1 * d * d = d * d
  grind
theorem Fm.neg {d : Zp s} (h : Fm d) : Fm (0 - d) := by
  have e : pr s - 1 = 2 * ((pr s - 1) / 2) := by cases s <;> decide
  unfold Fm at *
  rw [e, pw_sq] at h ⊢
  rw [show (0 - d) * (0 - d) = d * d by grind]
  exact h
theorem wr_Fm {x : Nat → Zp s} {u n : Nat} (h : ∀ k, k < n → k ≠ u → Fm (x u - x k)) : ∀ k, k ≤ n → Fm (wr x u k)
  | 0, _ => Fm.one
  | k + 1, hk => by
    show Fm (if k = u then _ else _)
    by_cases e : k = u
    · rw [if_pos e]; exact wr_Fm h k (by omega)
    · rw [if_neg e]; exact (wr_Fm h k (by omega)).mul (h k (by omega) e)
/-! Batch's inverses. -/
theorem nz_of {d : Zp s} (h : Fm d) : nz d = d := by unfold nz; rw [if_neg h.ne]
theorem Pp_Fm {x : Nat → Zp s} {n : Nat} (h : ∀ k, k < n → Fm (x k)) : ∀ k, k ≤ n → Fm (Pp x k)
  | 0, _ => Fm.one
  | k + 1, hk => by show Fm (Pp x k * nz (x k)); rw [nz_of (h k (by omega))]; exact (Pp_Fm h k (by omega)).mul (h k (by omega))
theorem Iv_Pp {x : Nat → Zp s} {n : Nat} (h : ∀ k, k < n → Fm (x k)) : ∀ j, j ≤ n → Iv x n j * Pp x (n - j) = 1
  | 0, _ => (Pp_Fm h n (Nat.le_refl _)).inv
  | j + 1, hj => by
    have ih := Iv_Pp h j (by omega)
    obtain ⟨m, hm⟩ : ∃ m, n = m + (j + 1) := ⟨n - (j + 1), by omega⟩
    rw [show n - j = m + 1 by omega] at ih
    rw [show n - (j + 1) = m by omega]
    show Iv x n j * nz (x (n - 1 - j)) * Pp x m = 1
    rw [show n - 1 - j = m by omega]
    have e : Pp x (m + 1) = Pp x m * nz (x m) := rfl
    rw [e] at ih
    grind
theorem binv_mul {x : Nat → Zp s} {n i : Nat} (h : ∀ k, k < n → Fm (x k)) (hi : i < n) : binv x n i * x i = 1 := by
  have e := Iv_Pp h (n - 1 - i) (by omega)
  rw [show n - (n - 1 - i) = i + 1 by omega] at e
  have e2 : Pp x (i + 1) = Pp x i * nz (x i) := rfl
  rw [e2, nz_of (h i hi)] at e
  unfold binv
  rw [if_neg (h i hi).ne]
  grind
/-! Interpolation. -/
/-- The first n points lie apart. -/
def Fap (x : Nat → Zp s) (n : Nat) : Prop := ∀ i k, i < n → k < n → i ≠ k → Fm (x i - x k)
theorem Fap.le {x : Nat → Zp s} {n m : Nat} (h : Fap x n) (hm : m ≤ n) : Fap x m := fun i k hi hk => h i k (by omega) (by omega)
variable {x y : Nat → Zp s} {n : Nat}
theorem itp_at (h : Fap x n) {j : Nat} (hj : j < n) : ∀ m, m ≤ n → Sg (itp x y n m) (pw (x j)) n = if j < m then y j else 0
  | 0, _ => by rw [if_neg (Nat.not_lt_zero j)]; exact Sg_zero fun _ _ => rfl
  | u + 1, hu => by
    have ih := itp_at h hj u (by omega)
    have e : Sg (itp x y n (u + 1)) (pw (x j)) n = Sg (itp x y n u) (pw (x j)) n + wgt x n u * y u * Sg (mst x n) (psi (x u) (x j)) (n + 1) := by
      rw [← Hn_quo]
      exact Sg_add _ _ _ _ n
    rw [e, ih]
    by_cases hju : j = u
    · subst hju
      rw [if_neg (Nat.lt_irrefl j), if_pos (Nat.lt_succ_self j), mst_wr x j n hj]
      have hw : wgt x n j * wr x j n = 1 := binv_mul (x := fun i => wr x i n) (fun k hk => wr_Fm (fun k' hk' hne => h k k' hk hk' (Ne.symm hne)) n (Nat.le_refl n)) hj
      grind
    · have h0 : (x j - x u) * Sg (mst x n) (psi (x u) (x j)) (n + 1) = 0 := by
        rw [Sg_psi, mst_ev, mst_ev, Pd_zero x j n hj, Pd_zero x u n (by omega)]; grind
      rw [(h j u hj (by omega) hju).un.zero h0]
      by_cases l : j < u
      · rw [if_pos l, if_pos (by omega)]; grind
      · rw [if_neg l, if_neg (by omega)]; grind
/-- The program's polynomial has the values. -/
theorem itp_val (h : Fap x n) {j : Nat} (hj : j < n) : Sg (itp x y n n) (pw (x j)) n = y j := by rw [itp_at h hj n (Nat.le_refl n), if_pos hj]
/-- The product of the z - x i without the u-th. -/
def Pw (x : Nat → Zp s) (z : Zp s) (u : Nat) : Nat → Zp s
  | 0 => 1
  | k + 1 => if k = u then Pw x z u k else (z - x k) * Pw x z u k
theorem Pw_zero {z : Zp s} {u j : Nat} (hz : z = x j) (hju : j ≠ u) : ∀ k, j < k → Pw x z u k = 0
  | k + 1, hk => by
    show (if k = u then Pw x z u k else (z - x k) * Pw x z u k) = 0
    by_cases e : k = u
    · rw [if_pos e]; exact Pw_zero hz hju k (by omega)
    · rw [if_neg e]
      by_cases e2 : k = j
      · subst e2; grind
      · rw [Pw_zero hz hju k (by omega)]; grind
theorem Pw_wr {u : Nat} : ∀ k, Pw x (x u) u k = wr x u k
  | 0 => rfl
  | k + 1 => by
    show (if k = u then _ else _) = if k = u then _ else _
    rw [Pw_wr k]
    by_cases e : k = u
    · rw [if_pos e, if_pos e]
    · rw [if_neg e, if_neg e]; grind
theorem rcf_ev (z : Zp s) {u : Nat} : ∀ k, Sg (rcf x y n u k) (pw z) (rln u k) = zinv (wr x u n) * y u * Pw x z u k
  | 0 => by
    unfold rln
    rw [if_neg (Nat.not_lt_zero u)]
    show (0 : Zp s) + zinv (wr x u n) * y u * 1 = zinv (wr x u n) * y u * 1
    grind
  | k + 1 => by
    have ih := rcf_ev z (u := u) k
    show Sg (if k = u then _ else _) _ _ = _ * (if k = u then _ else _)
    by_cases e : k = u
    · rw [if_pos e, if_pos e, ← ih]
      congr 1
      unfold rln
      rw [if_pos (by omega), if_neg (by omega)]
    · rw [if_neg e, if_neg e, show rln u (k + 1) = rln u k + 1 from by unfold rln; by_cases l : u < k <;> simp [l, show (u < k + 1) ↔ u < k by omega], Sg_lin _ _ _ _ _ (Nat.le_refl _), Sg_pw, ih]
      grind
theorem rip_at (h : Fap x n) {j : Nat} (hj : j < n) : ∀ m, m ≤ n → Sg (rip x y n m) (pw (x j)) n = if j < m then y j else 0
  | 0, _ => by rw [if_neg (Nat.not_lt_zero j)]; exact Sg_zero fun _ _ => rfl
  | u + 1, hu => by
    have ih := rip_at h hj u (by omega)
    have e : Sg (rip x y n (u + 1)) (pw (x j)) n = Sg (rip x y n u) (pw (x j)) n + 1 * Sg (rcf x y n u n) (pw (x j)) n := by
      rw [← Sg_add]
      exact Sg_congr fun k _ => by show _ + _ = _ + 1 * _; grind
    have e2 := rcf_ev (x := x) (y := y) (n := n) (x j) (u := u) n
    rw [show rln u n = n by unfold rln; rw [if_pos (by omega)]] at e2
    rw [e, ih, e2]
    by_cases hju : j = u
    · subst hju
      rw [if_neg (Nat.lt_irrefl j), if_pos (Nat.lt_succ_self j), Pw_wr]
      have hw := (wr_Fm (x := x) (u := j) (n := n) (fun k hk hne => h j k hj hk (Ne.symm hne)) n (Nat.le_refl n)).inv
      grind
    · rw [Pw_zero rfl hju n hj]
      by_cases l : j < u
      · rw [if_pos l, if_pos (by omega)]; grind
      · rw [if_neg l, if_neg (by omega)]; grind
/-- The reference's polynomial has the values. -/
theorem rip_val (h : Fap x n) {j : Nat} (hj : j < n) : Sg (rip x y n n) (pw (x j)) n = y j := by rw [rip_at h hj n (Nat.le_refl n), if_pos hj]
/-! Uniqueness. -/
def lsf (c : Nat → Zp s) (n : Nat) : List (Zp s) := (List.range n).map c
theorem lsf_ev (c : Nat → Zp s) (z : Zp s) : ∀ n, Alg.ev (lsf c n) z = Sg c (pw z) n
  | 0 => rfl
  | n + 1 => by
    unfold lsf
    rw [List.range_succ, List.map_append, List.map_singleton, ev_app, List.length_map, List.length_range]
    show Alg.ev (lsf c n) z + _ = _
    rw [lsf_ev c z n]; rfl
theorem same_val {c d : Nat → Zp s} (h : Fap x n) (hv : ∀ j, j < n → Sg c (pw (x j)) n = Sg d (pw (x j)) n) {k : Nat} (hk : k < n) : c k = d k := by
  have hA : Ap ((List.range n).map x) := by
    unfold Ap
    rw [List.pairwise_map]
    refine List.Pairwise.imp_of_mem ?_ (List.pairwise_lt_range (n := n))
    intro i j hi hj hij
    exact (h j i (List.mem_range.1 hj) (List.mem_range.1 hi) (by omega)).un
  have e := Alg.same_of ((List.range n).map x) (lsf c n) (lsf d n) hA (by simp [lsf]) (by simp [lsf]) (fun z hz => by
    obtain ⟨j, hj, rfl⟩ := List.mem_map.1 hz
    rw [lsf_ev, lsf_ev]
    exact hv j (List.mem_range.1 hj))
  have e2 := congrArg (fun l => l[k]?) e
  simpa [lsf, hk] using e2
/-- A polynomial with the values is the program's. -/
theorem itp_of {c : Nat → Zp s} (h : Fap x n) (hv : ∀ j, j < n → Sg c (pw (x j)) n = y j) {k : Nat} (hk : k < n) : itp x y n n k = c k := same_val h (fun j hj => by rw [itp_val h hj, hv j hj]) hk
theorem Sg_cut {c f : Nat → Zp s} {th : Nat} : ∀ {n : Nat}, th ≤ n → (∀ k, th ≤ k → k < n → c k = 0) → Sg c f n = Sg c f th
  | 0, h, _ => by rw [Nat.le_zero.1 h]
  | n + 1, h, hz => by
    by_cases e : th = n + 1
    · rw [e]
    · show Sg c f n + c n * f n = _
      rw [Sg_cut (by omega) (fun k h1 h2 => hz k h1 (by omega)), hz n (by omega) (by omega)]
      grind
theorem belZ_iff {c : Nat → Zp s} {th : Nat} : belZ c n th = true ↔ ∀ k, th ≤ k → k < n → c k = 0 := by
  unfold belZ
  simp only [List.all_eq_true, List.mem_range, Bool.or_eq_true, decide_eq_true_eq]
  constructor
  · intro h k h1 h2
    rcases h k h2 with h3 | h3
    · omega
    · exact h3
  · intro h k hk
    by_cases l : k < th
    · exact .inl l
    · exact .inr (h k (by omega) hk)
/-- The values lie on a polynomial with th coefficients. -/
theorem fits_of {c : Nat → Zp s} {th : Nat} (h : Fap x n) (ht : th ≤ n) (hv : ∀ j, j < n → Sg c (pw (x j)) th = y j) : belZ (itp x y n n) n th = true := by
  refine belZ_iff.2 fun k h1 h2 => ?_
  have e := itp_of (y := y) (c := fun k => if k < th then c k else 0) h (fun j hj => by
    rw [← hv j hj, Sg_cut (th := th) ht (fun k h1 _ => if_neg (by omega))]
    exact Sg_congr fun k hk => if_pos hk) h2
  rw [e]
  exact if_neg (by omega)
theorem fits_iff {th : Nat} (h : Fap x n) (ht : th ≤ n) : belZ (itp x y n n) n th = true ↔ ∀ j, j < n → Sg (rip x y th th) (pw (x j)) th = y j := by
  constructor
  · intro hb j hj
    have hz := belZ_iff.1 hb
    have e : ∀ k, k < th → rip x y th th k = itp x y n n k := fun k hk => (same_val (h.le ht) (fun i hi => by
      rw [rip_val (h.le ht) hi, ← itp_val (y := y) h (Nat.lt_of_lt_of_le hi ht), Sg_cut ht hz]) hk)
    rw [Sg_congr e, ← itp_val (y := y) h hj, Sg_cut ht hz]
  · exact fun hv => fits_of h ht hv
end
end Go.Proofs.YtdnkkbmpefhbjaaGreatDoor
namespace Go.Proofs.YtdnkkbmpefhbjaaGreatDoor
set_option linter.all false
open Go Go.RowKit Alg
theorem shE_zero {x : Shr} (h : shE x = 0) : (x.F = 1 ∨ x.F = 2) ∧ (1 ≤ x.T ∧ x.T ≤ 255) ∧ (1 ≤ x.I ∧ x.I ≤ 255) ∧ (0 ≤ x.L ∧ x.L ≤ 65535) ∧ x.n = cn x.L ∧ okB (decide (x.F = 2)) x.X x.n = true := by
  unfold shE shErr at h
  by_cases h1 : x.F = 1 ∨ x.F = 2
  · rw [if_pos h1] at h
    by_cases h2 : 1 ≤ x.T ∧ x.T ≤ 255
    · rw [if_pos h2] at h
      by_cases h3 : 1 ≤ x.I ∧ x.I ≤ 255
      · rw [if_pos h3] at h
        by_cases h4 : 0 ≤ x.L ∧ x.L ≤ 65535
        · rw [if_pos h4] at h
          by_cases h5 : x.n = cn x.L
          · rw [if_pos h5] at h
            by_cases h6 : okB (decide (x.F = 2)) x.X x.n = true
            · exact ⟨h1, h2, h3, h4, h5, h6⟩
            · rw [if_neg h6] at h; cases h
          · rw [if_neg h5] at h; cases h
        · rw [if_neg h4] at h; cases h
      · rw [if_neg h3] at h; cases h
    · rw [if_neg h2] at h; cases h
  · rw [if_neg h1] at h; cases h
theorem csE_zero {S : Nat → Shr} : ∀ {m : Nat}, csE S m = 0 ↔ ∀ k, k < m → shE (S k) = 0
  | 0 => ⟨fun _ k h => by omega, fun _ => rfl⟩
  | m + 1 => by
    have ih := csE_zero (S := S) (m := m)
    constructor
    · intro h
      have h' : (if csE S m ≠ 0 then csE S m else shE (S m)) = 0 := h
      by_cases hz : csE S m = 0
      · rw [if_neg (by simp [hz])] at h'
        intro k hk
        by_cases e : k = m
        · rw [e]; exact h'
        · exact ih.1 hz k (by omega)
      · rw [if_pos hz] at h'; exact absurd h' hz
    · intro h
      have hz := ih.2 fun k hk => h k (by omega)
      show (if csE S m ≠ 0 then csE S m else shE (S m)) = 0
      rw [if_neg (by simp [hz])]
      exact h m (by omega)
theorem mixS_false {S : Nat → Shr} {m : Nat} : mixS S m = false ↔ ∀ k, k < m → hdr (S k) = hdr (S 0) := by
  unfold mixS
  rw [List.any_eq_false]
  constructor
  · intro h k hk
    have := h k (List.mem_range.2 hk)
    simpa using this
  · intro h k hk
    simpa using h k (List.mem_range.1 hk)
theorem ksv_nodup {v : Nat → Int} {m : Nat} : (ksv v m).length = m ↔ ∀ i k, i < k → k < m → v i ≠ v k := by
  constructor
  · intro h
    have h1 := (ins_eq ((List.range m).map v) []).1 (by unfold ksv at h; simpa using h)
    have h2 := h1.1
    rw [List.nodup_iff_pairwise_ne, List.pairwise_map, List.pairwise_iff_getElem] at h2
    intro i k hik hk
    have := h2 i k (by simp; omega) (by simpa using hk) hik
    simpa using this
  · exact ksv_full
theorem ksv_le (v : Nat → Int) (m : Nat) : (ksv v m).length ≤ m := by
  have := ins_le ((List.range m).map v) []
  simpa [ksv] using this
/-- Nothing is wrong. -/
theorem csErr_zero {S : Nat → Shr} {m : Nat} : csErr S m = 0 ↔ (∀ k, k < m → shE (S k) = 0) ∧ (∀ k, k < m → hdr (S k) = hdr (S 0)) ∧ (∀ i k, i < k → k < m → (S i).I ≠ (S k).I) ∧ 0 < m ∧ (S 0).T ≤ (m : Int) := by
  unfold csErr
  rw [← csE_zero, ← mixS_false, ← ksv_nodup (v := fun i => (S i).I)]
  have hle := ksv_le (fun i => (S i).I) m
  by_cases h1 : csE S m = 0
  · rw [if_neg (by simp [h1])]
    cases h2 : mixS S m with
    | true => simp
    | false =>
      rw [if_neg (by simp)]
      by_cases h3 : (((ksv (fun i => (S i).I) m).length : Nat) : Int) < ((m : Nat) : Int)
      · rw [if_pos h3]
        constructor
        · intro h; cases h
        · rintro ⟨_, _, h, _⟩; omega
      · rw [if_neg h3]
        by_cases h4 : ((m : Nat) : Int) = 0 ∨ ((m : Nat) : Int) < (S 0).T
        · rw [if_pos h4]
          constructor
          · intro h; cases h
          · rintro ⟨_, _, _, h5, h6⟩; omega
        · rw [if_neg h4]
          constructor
          · intro _; exact ⟨h1, rfl, by omega, by omega, by omega⟩
          · intro _; rfl
  · rw [if_pos h1]
    constructor
    · intro h; exact absurd h h1
    · rintro ⟨h, _⟩; exact absurd h h1
theorem good_of {S : Nat → Shr} {m : Nat} (h : csErr S m = 0) : ∃ s, Good s S m := by
  obtain ⟨h1, h2, h3, h4, h5⟩ := csErr_zero.1 h
  have hf : ∀ i, i < m → (S i).F = (S 0).F := fun i hi => congrArg (·.1) (h2 i hi)
  have hT : ∀ i, i < m → (S i).T = (S 0).T := fun i hi => congrArg (·.2.1) (h2 i hi)
  have hL : ∀ i, i < m → (S i).L = (S 0).L := fun i hi => congrArg (·.2.2) (h2 i hi)
  obtain ⟨hF, hTT, hI, hLL, hn, hX⟩ := shE_zero (h1 0 h4)
  have hn' : ∀ i, i < m → (S i).n = (S 0).n := fun i hi => by
    have := (shE_zero (h1 i hi)).2.2.2.2.1
    rw [this, hL i hi, hn]
  have hs : ∃ s : Bool, (S 0).F = fid s ∧ decide ((S 0).F = 2) = s := by
    rcases hF with hF | hF
    · exact ⟨false, hF, by rw [hF]; rfl⟩
    · exact ⟨true, hF, by rw [hF]; rfl⟩
  obtain ⟨s, hs1, hs2⟩ := hs
  refine ⟨s, h4, fun i hi => by rw [hf i hi, hs1], hT, hL, hn', fun i hi => (shE_zero (h1 i hi)).2.2.1, h3, fun i hi j hj => ?_, hTT.1, h5, hLL.1, hLL.2, hn⟩
  have hx := (shE_zero (h1 i hi)).2.2.2.2.2
  rw [hf i hi, hs2] at hx
  exact okB_at hx (by rw [hn' i hi]; exact hj)
theorem Good.err {s : Bool} {S : Nat → Shr} {m : Nat} (g : Good s S m) (hT : (S 0).T ≤ 255) : csErr S m = 0 := by
  refine csErr_zero.2 ⟨fun k hk => ?_, fun k hk => ?_, g.app, g.m0, g.tm⟩
  · unfold shE shErr
    have ho := fid_or s
    have hcn : (S k).n = Go.Proofs.YtdnkkbmpefhbjaaGreatDoor.cn (S k).L := by rw [g.n k hk, g.Lq k hk]; exact g.cn
    have hx : okB (decide ((S k).F = 2)) (S k).X (S k).n = true := by
      rw [g.F k hk, fid_dec]
      exact okB_of fun i hi => g.X k hk i (by rw [← g.n k hk]; exact hi)
    rw [if_pos (by rw [g.F k hk]; exact ho), if_pos (by rw [g.T k hk]; exact ⟨g.t1, hT⟩), if_pos (g.idx k hk), if_pos (by rw [g.Lq k hk]; exact ⟨g.l0, g.l1⟩), if_pos hcn, if_pos hx]
  · unfold hdr
    rw [g.F k hk, g.T k hk, g.Lq k hk, g.F 0 g.m0]
end Go.Proofs.YtdnkkbmpefhbjaaGreatDoor
namespace Go.Proofs.YtdnkkbmpefhbjaaGreatDoor
set_option linter.all false
open Go Go.RowKit Alg
section
variable {S : Nat → Shr} {m k j : Nat}
theorem csErr_14 (h1 : csE S m = 0) (hk : k < m) (h : hdr (S k) ≠ hdr (S 0)) : csErr S m = 14 := by
  unfold csErr
  rw [if_neg (by simp [h1]), if_pos]
  cases hm : mixS S m with
  | true => rfl
  | false => exact absurd (mixS_false.1 hm k hk) h
theorem csErr_15 (h1 : csE S m = 0) (h2 : ∀ k, k < m → hdr (S k) = hdr (S 0)) (hj : j < k) (hk : k < m) (h : (S k).I = (S j).I) : csErr S m = 15 := by
  unfold csErr
  rw [if_neg (by simp [h1]), if_neg (by rw [mixS_false.2 h2]; exact Bool.false_ne_true), if_pos]
  have hle := ksv_le (fun i => (S i).I) m
  have hne : (ksv (fun i => (S i).I) m).length ≠ m := fun e => (ksv_nodup.1 e) j k hj hk h.symm
  omega
theorem csErr_16 (h1 : csE S m = 0) (h2 : ∀ k, k < m → hdr (S k) = hdr (S 0)) (h3 : ∀ i k, i < k → k < m → (S i).I ≠ (S k).I) (h : ((m : Nat) : Int) = 0 ∨ ((m : Nat) : Int) < (S 0).T) : csErr S m = 16 := by
  unfold csErr
  have hk := ksv_nodup (v := fun i => (S i).I).2 h3
  rw [if_neg (by simp [h1]), if_neg (by rw [mixS_false.2 h2]; exact Bool.false_ne_true), if_neg (by omega), if_pos h]
theorem csErr_0 (h1 : csE S m = 0) (h2 : ∀ k, k < m → hdr (S k) = hdr (S 0)) (h3 : ∀ i k, i < k → k < m → (S i).I ≠ (S k).I) (h : ¬ (((m : Nat) : Int) = 0 ∨ ((m : Nat) : Int) < (S 0).T)) : csErr S m = 0 := by
  unfold csErr
  have hk := ksv_nodup (v := fun i => (S i).I).2 h3
  rw [if_neg (by simp [h1]), if_neg (by rw [mixS_false.2 h2]; exact Bool.false_ne_true), if_neg (by omega), if_neg h]
end
theorem refCkShares_c (m lc : Nat) (la : Option Addr) (S : Nat → Shr) (W : World) (HS : (shareR la m lc S).ok W) (HO : ShOk S m) : Calls Tryz.prog 18 [.slice la m lc].toArray W fun e w => e = .returned (.int .i64 (csErr S m)) ∧ Below W.heap.size W w := by
 have hm6 := HO.m_le
 refine c_enter (args := [.slice la m lc]) Tryz.func18 rfl rfl rfl fun a hk => ?_
 have hs := Sat.start W [shareR la m lc S] (okr1 HS)
 refine wS (wR ?_)
 refine q_v hk (w_as rfl) fun a hk => ?_
 refine c_end (x_t (wS (wS (wR ?_))))
 refine q_v hk (w_as rfl) fun a hk => ?_
 refine c_end (x_t ?_)
 refine wpIn_block ?_
 refine c_loop (α := Nat) (fun i a w => i ≤ m ∧ csE S i = 0 ∧ Kn [] 96 [(3, .int .i64 ((i : Nat) : Int)), (0, .slice la m lc)] a ∧ Sat no W [] [shareR la m lc S] w) (fun i => m - i) 0 ?_ ?_
 · exact ⟨(by omega), rfl, hk.k rfl (hk.k rfl hk.nil), hs⟩
 rintro i a w ⟨hf0, hf1, hk, hs⟩
 refine wS (wS (wR ?_))
 refine q_v hk (w_mv rfl) fun a hk => ?_
 refine q_v hk (w_mv rfl) fun a hk => ?_
 refine q_v hk (w_len rfl Tryz.underlying22) fun a hk => ?_
 rcases Classical.em (((i : Nat) : Int) < ((m : Nat) : Int)) with hc1 | hc1
 ·
  have hlt : i < m := by omega
  refine q_v hk (w_lt rfl rfl (decide_eq_true hc1)) fun a hk => ?_
  refine c_end (x_t ?_)
  refine c_T hk rfl ?_
  refine (wpIn_skip (x_t ?_))
  refine wS ?_
  refine wpIn_block ?_
  refine wS (wR ?_)
  refine q_v hk (w_mv rfl) fun a hk => ?_
  refine q_v hk (w_mv rfl) fun a hk => ?_
  refine q_v hk (w_iaL (k := i) rfl rfl Tryz.underlying22 ty53 ((share_lst (HasR.nth 0 rfl : HasR (shareR la m lc S) _)).at_ hs) (by omega) (by omega)) fun a hk => ?_
  refine q_v hk (w_ldA rfl ty53 (lstq (k := i) ((share_lst (HasR.nth 0 rfl : HasR (shareR la m lc S) _)).at_ hs) (by omega) (en_chunk shc_len (by omega))) rfl) fun a hk => ?_
  refine q_call (caps := []) hk rfl rfl Tryz.func56 fo56 rfl rfl (refCkShare_c _ _ _ _ _ _ _ (S i).X _ ((share_pay (k := i) (HasR.nth 0 rfl : HasR (shareR la m lc S) _) (by omega)).at_ hs) (HO.n_le i hlt) (HO.x_lt i hlt)) ?_
  rintro _ w ⟨rfl, hb⟩
  have hs := hs.below hb
  refine ⟨_, rfl, fun a hk => ?_⟩
  refine q_v hk (w_as rfl) fun a hk => ?_
  refine c_end (x_t (wS (wR ?_)))
  refine q_v hk (w_mv rfl) fun a hk => ?_
  rcases Classical.em ((shE (S i)) ≠ 0) with hc2 | hc2
  ·
   refine q_v hk (w_ne rfl rfl (decide_eq_true hc2)) fun a hk => ?_
   refine c_end (x_t ?_)
   refine c_T hk rfl ?_
   refine wS (wR ?_)
   refine q_v hk (w_mv rfl) fun a hk => ?_
   refine q_v hk (w_as rfl) fun a hk => ?_
   refine c_end (x_t ?_)
   refine (wpIn_ret (x_br (x_tr (x_tr (x_br (x_tr ?_))))))
   refine c_ret1 hk rfl rfl ?_
   exact ⟨by rw [csErr_at hf1 (by assumption) (by omega)]; rfl, hs.toBelow⟩
  ·
   refine q_v hk (w_ne rfl rfl (decide_eq_false hc2)) fun a hk => ?_
   refine c_end (x_t ?_)
   refine c_F hk rfl ?_
   refine (wpIn_skip (x_b (x_t ?_)))
   refine wR ?_
   refine q_v hk (w_mv rfl) fun a hk => ?_
   refine q_v hk (w_add rfl rfl (wr64 (by omega) (by omega))) fun a hk => ?_
   refine q_v hk (w_as rfl) fun a hk => ?_
   refine c_end (x_t ?_)
   exact ⟨i + 1, ⟨(by omega), (csE_next hf1 (by first | assumption | omega)), hk.k rfl (hk.k rfl hk.nil), hs⟩, by omega⟩
 ·
  have hE : csE S m = 0 := by rw [show m = i by omega]; exact hf1
  refine q_v hk (w_lt rfl rfl (decide_eq_false hc1)) fun a hk => ?_
  refine c_end (x_t ?_)
  refine c_F hk rfl ?_
  refine (wpIn_exit (x_te (x_te (x_be ?_))))
  refine (x_t ?_)
  refine wS (wS (wR ?_))
  refine q_v hk (w_as rfl) fun a hk => ?_
  refine c_end (x_t ?_)
  refine wpIn_block ?_
  refine c_loop (α := Nat) (fun k a w => (1 ≤ k ∧ (k ≤ m ∨ k = 1)) ∧ (∀ q, q < k → hdr (S q) = hdr (S 0)) ∧ Kn [] 96 [(5, .int .i64 ((k : Nat) : Int)), (0, .slice la m lc)] a ∧ Sat no W [] [shareR la m lc S] w) (fun k => m - k) 1 ?_ ?_
  · exact ⟨(by omega), (fun q hq => by rw [show q = 0 by omega]), hk.k rfl (hk.k rfl hk.nil), hs⟩
  rintro k a w ⟨hf0, hf1, hk, hs⟩
  have hf2 := hf1
  refine wS (wS (wR ?_))
  refine q_v hk (w_mv rfl) fun a hk => ?_
  refine q_v hk (w_mv rfl) fun a hk => ?_
  refine q_v hk (w_len rfl Tryz.underlying22) fun a hk => ?_
  rcases Classical.em (((k : Nat) : Int) < ((m : Nat) : Int)) with hc3 | hc3
  ·
   have hltk : k < m := by omega
   refine q_v hk (w_lt rfl rfl (decide_eq_true hc3)) fun a hk => ?_
   refine c_end (x_t ?_)
   refine c_T hk rfl ?_
   refine (wpIn_skip (x_t ?_))
   refine wS ?_
   refine wpIn_block ?_
   refine wS ?_
   rcases Classical.em ((S k).F ≠ (S 0).F) with hc4 | hc4
   ·
    have hdf : hdr (S k) ≠ hdr (S 0) := fun e => by unfold hdr at e; simp only [Prod.mk.injEq] at e; first | exact absurd e.1 (by assumption) | exact absurd e.2.1 (by assumption) | exact absurd e.2.2 (by assumption)
    have hL := okL.cons ((share_lst (HasR.nth 0 rfl : HasR (shareR la m lc S) _)).at_ hs) okL.nil
    refine d_begin _ 34 (by kernel_rfl) rfl hs hL fun w hs hL => ?_
    refine d_w 0 1 hk hL rfl (fun w hL => w_mv rfl) fun a hk => ?_
    refine d_w 1 3 hk hL rfl (fun w hL => w_mv rfl) fun a hk => ?_
    refine d_w 2 7 hk hL rfl (fun w hL => w_iaL (k := k) rfl rfl Tryz.underlying22 ty53 (hL.at 0 rfl) (by omega) (by omega)) fun a hk => ?_
    refine d_w 3 15 hk hL rfl (fun w hL => w_fa rfl fq53_0 ty3) fun a hk => ?_
    refine d_w 4 31 hk hL rfl (fun w hL => w_ld1 rfl ty3 (lstf (k := k) (o := 0) (m := 1) (hL.at 0 rfl) (by omega) (en_chunk shc_len (by omega)) rfl)) fun a hk => ?_
    refine d_w 5 63 hk hL rfl (fun w hL => w_mv rfl) fun a hk => ?_
    refine d_w 6 127 hk hL rfl (fun w hL => w_iaL (k := 0) rfl rfl Tryz.underlying22 ty53 (hL.at 0 rfl) (by omega) (by omega)) fun a hk => ?_
    refine d_w 7 255 hk hL rfl (fun w hL => w_fa rfl fq53_0 ty3) fun a hk => ?_
    refine d_w 8 511 hk hL rfl (fun w hL => w_ld1 rfl ty3 (lstf (k := 0) (o := 0) (m := 1) (hL.at 0 rfl) (by omega) (en_chunk shc_len (by omega)) rfl)) fun a hk => ?_
    refine d_w 9 1023 hk hL rfl (fun w hL => w_ne rfl rfl (decide_eq_true hc4)) fun a hk => ?_
    refine d_w 10 2047 hk hL rfl (fun w hL => w_mv rfl) fun a hk => ?_
    refine d_s 11 4095 hk hL rfl (by kernel_rfl) rfl rfl fun a hk => ?_
    refine d_s 12 8191 hk hL rfl (by kernel_rfl) rfl rfl fun a hk => ?_
    refine d_s 13 16383 hk hL rfl (by kernel_rfl) rfl rfl fun a hk => ?_
    refine d_s 14 32767 hk hL rfl (by kernel_rfl) rfl rfl fun a hk => ?_
    refine d_s 15 65535 hk hL rfl (by kernel_rfl) rfl rfl fun a hk => ?_
    refine d_s 16 131071 hk hL rfl (by kernel_rfl) rfl rfl fun a hk => ?_
    refine d_s 17 262143 hk hL rfl (by kernel_rfl) rfl rfl fun a hk => ?_
    refine d_s 18 524287 hk hL rfl (by kernel_rfl) rfl rfl fun a hk => ?_
    refine d_s 19 1048575 hk hL rfl (by kernel_rfl) rfl rfl fun a hk => ?_
    refine d_s 20 2097151 hk hL rfl (by kernel_rfl) rfl rfl fun a hk => ?_
    refine d_w 21 4194303 hk hL rfl (fun w hL => w_pickT rfl rfl) fun a hk => ?_
    refine d_w 22 8388607 hk hL rfl (fun w hL => w_mv rfl) fun a hk => ?_
    refine d_s 23 16777215 hk hL rfl (by kernel_rfl) rfl rfl fun a hk => ?_
    refine d_s 24 33554431 hk hL rfl (by kernel_rfl) rfl rfl fun a hk => ?_
    refine d_s 25 67108863 hk hL rfl (by kernel_rfl) rfl rfl fun a hk => ?_
    refine d_s 26 134217727 hk hL rfl (by kernel_rfl) rfl rfl fun a hk => ?_
    refine d_s 27 268435455 hk hL rfl (by kernel_rfl) rfl rfl fun a hk => ?_
    refine d_s 28 536870911 hk hL rfl (by kernel_rfl) rfl rfl fun a hk => ?_
    refine d_s 29 1073741823 hk hL rfl (by kernel_rfl) rfl rfl fun a hk => ?_
    refine d_s 30 2147483647 hk hL rfl (by kernel_rfl) rfl rfl fun a hk => ?_
    refine d_s 31 4294967295 hk hL rfl (by kernel_rfl) rfl rfl fun a hk => ?_
    refine d_s 32 8589934591 hk hL rfl (by kernel_rfl) rfl rfl fun a hk => ?_
    refine d_w 33 17179869183 hk hL rfl (fun w hL => w_pickT rfl rfl) fun a hk => ?_
    refine d_end (by kernel_rfl) ?_
    refine (x_t ?_)
    refine c_T hk rfl ?_
    refine wS (wR ?_)
    refine q_v hk (w_as rfl) fun a hk => ?_
    refine c_end (x_t ?_)
    refine (wpIn_ret (x_br (x_tr (x_tr (x_br (x_tr ?_))))))
    refine c_ret1 hk rfl rfl ?_
    exact ⟨by rw [csErr_14 hE hltk hdf], hs.toBelow⟩
   ·
    rcases Classical.em ((S k).T ≠ (S 0).T) with hc5 | hc5
    ·
     have hdf : hdr (S k) ≠ hdr (S 0) := fun e => by unfold hdr at e; simp only [Prod.mk.injEq] at e; first | exact absurd e.1 (by assumption) | exact absurd e.2.1 (by assumption) | exact absurd e.2.2 (by assumption)
     have hL := okL.cons ((share_lst (HasR.nth 0 rfl : HasR (shareR la m lc S) _)).at_ hs) okL.nil
     refine d_begin _ 34 (by kernel_rfl) rfl hs hL fun w hs hL => ?_
     refine d_w 0 1 hk hL rfl (fun w hL => w_mv rfl) fun a hk => ?_
     refine d_w 1 3 hk hL rfl (fun w hL => w_mv rfl) fun a hk => ?_
     refine d_w 2 7 hk hL rfl (fun w hL => w_iaL (k := k) rfl rfl Tryz.underlying22 ty53 (hL.at 0 rfl) (by omega) (by omega)) fun a hk => ?_
     refine d_w 3 15 hk hL rfl (fun w hL => w_fa rfl fq53_0 ty3) fun a hk => ?_
     refine d_w 4 31 hk hL rfl (fun w hL => w_ld1 rfl ty3 (lstf (k := k) (o := 0) (m := 1) (hL.at 0 rfl) (by omega) (en_chunk shc_len (by omega)) rfl)) fun a hk => ?_
     refine d_w 5 63 hk hL rfl (fun w hL => w_mv rfl) fun a hk => ?_
     refine d_w 6 127 hk hL rfl (fun w hL => w_iaL (k := 0) rfl rfl Tryz.underlying22 ty53 (hL.at 0 rfl) (by omega) (by omega)) fun a hk => ?_
     refine d_w 7 255 hk hL rfl (fun w hL => w_fa rfl fq53_0 ty3) fun a hk => ?_
     refine d_w 8 511 hk hL rfl (fun w hL => w_ld1 rfl ty3 (lstf (k := 0) (o := 0) (m := 1) (hL.at 0 rfl) (by omega) (en_chunk shc_len (by omega)) rfl)) fun a hk => ?_
     refine d_w 9 1023 hk hL rfl (fun w hL => w_ne rfl rfl (decide_eq_false hc4)) fun a hk => ?_
     refine d_w 10 2047 hk hL rfl (fun w hL => w_mv rfl) fun a hk => ?_
     refine d_w 11 4095 hk hL rfl (fun w hL => w_mv rfl) fun a hk => ?_
     refine d_w 12 8191 hk hL rfl (fun w hL => w_mv rfl) fun a hk => ?_
     refine d_w 13 16383 hk hL rfl (fun w hL => w_iaL (k := k) rfl rfl Tryz.underlying22 ty53 (hL.at 0 rfl) (by omega) (by omega)) fun a hk => ?_
     refine d_w 14 32767 hk hL rfl (fun w hL => w_fa rfl fq53_1 ty3) fun a hk => ?_
     refine d_w 15 65535 hk hL rfl (fun w hL => w_ld1 rfl ty3 (lstf (k := k) (o := 1) (m := 1) (hL.at 0 rfl) (by omega) (en_chunk shc_len (by omega)) rfl)) fun a hk => ?_
     refine d_w 16 131071 hk hL rfl (fun w hL => w_mv rfl) fun a hk => ?_
     refine d_w 17 262143 hk hL rfl (fun w hL => w_iaL (k := 0) rfl rfl Tryz.underlying22 ty53 (hL.at 0 rfl) (by omega) (by omega)) fun a hk => ?_
     refine d_w 18 524287 hk hL rfl (fun w hL => w_fa rfl fq53_1 ty3) fun a hk => ?_
     refine d_w 19 1048575 hk hL rfl (fun w hL => w_ld1 rfl ty3 (lstf (k := 0) (o := 1) (m := 1) (hL.at 0 rfl) (by omega) (en_chunk shc_len (by omega)) rfl)) fun a hk => ?_
     refine d_w 20 2097151 hk hL rfl (fun w hL => w_ne rfl rfl (decide_eq_true hc5)) fun a hk => ?_
     refine d_w 21 4194303 hk hL rfl (fun w hL => w_pickF rfl rfl) fun a hk => ?_
     refine d_w 22 8388607 hk hL rfl (fun w hL => w_mv rfl) fun a hk => ?_
     refine d_s 23 16777215 hk hL rfl (by kernel_rfl) rfl rfl fun a hk => ?_
     refine d_s 24 33554431 hk hL rfl (by kernel_rfl) rfl rfl fun a hk => ?_
     refine d_s 25 67108863 hk hL rfl (by kernel_rfl) rfl rfl fun a hk => ?_
     refine d_s 26 134217727 hk hL rfl (by kernel_rfl) rfl rfl fun a hk => ?_
     refine d_s 27 268435455 hk hL rfl (by kernel_rfl) rfl rfl fun a hk => ?_
     refine d_s 28 536870911 hk hL rfl (by kernel_rfl) rfl rfl fun a hk => ?_
     refine d_s 29 1073741823 hk hL rfl (by kernel_rfl) rfl rfl fun a hk => ?_
     refine d_s 30 2147483647 hk hL rfl (by kernel_rfl) rfl rfl fun a hk => ?_
     refine d_s 31 4294967295 hk hL rfl (by kernel_rfl) rfl rfl fun a hk => ?_
     refine d_s 32 8589934591 hk hL rfl (by kernel_rfl) rfl rfl fun a hk => ?_
     refine d_w 33 17179869183 hk hL rfl (fun w hL => w_pickT rfl rfl) fun a hk => ?_
     refine d_end (by kernel_rfl) ?_
     refine (x_t ?_)
     refine c_T hk rfl ?_
     refine wS (wR ?_)
     refine q_v hk (w_as rfl) fun a hk => ?_
     refine c_end (x_t ?_)
     refine (wpIn_ret (x_br (x_tr (x_tr (x_br (x_tr ?_))))))
     refine c_ret1 hk rfl rfl ?_
     exact ⟨by rw [csErr_14 hE hltk hdf], hs.toBelow⟩
    ·
     rcases Classical.em ((S k).L ≠ (S 0).L) with hc6 | hc6
     ·
      have hdf : hdr (S k) ≠ hdr (S 0) := fun e => by unfold hdr at e; simp only [Prod.mk.injEq] at e; first | exact absurd e.1 (by assumption) | exact absurd e.2.1 (by assumption) | exact absurd e.2.2 (by assumption)
      have hL := okL.cons ((share_lst (HasR.nth 0 rfl : HasR (shareR la m lc S) _)).at_ hs) okL.nil
      refine d_begin _ 34 (by kernel_rfl) rfl hs hL fun w hs hL => ?_
      refine d_w 0 1 hk hL rfl (fun w hL => w_mv rfl) fun a hk => ?_
      refine d_w 1 3 hk hL rfl (fun w hL => w_mv rfl) fun a hk => ?_
      refine d_w 2 7 hk hL rfl (fun w hL => w_iaL (k := k) rfl rfl Tryz.underlying22 ty53 (hL.at 0 rfl) (by omega) (by omega)) fun a hk => ?_
      refine d_w 3 15 hk hL rfl (fun w hL => w_fa rfl fq53_0 ty3) fun a hk => ?_
      refine d_w 4 31 hk hL rfl (fun w hL => w_ld1 rfl ty3 (lstf (k := k) (o := 0) (m := 1) (hL.at 0 rfl) (by omega) (en_chunk shc_len (by omega)) rfl)) fun a hk => ?_
      refine d_w 5 63 hk hL rfl (fun w hL => w_mv rfl) fun a hk => ?_
      refine d_w 6 127 hk hL rfl (fun w hL => w_iaL (k := 0) rfl rfl Tryz.underlying22 ty53 (hL.at 0 rfl) (by omega) (by omega)) fun a hk => ?_
      refine d_w 7 255 hk hL rfl (fun w hL => w_fa rfl fq53_0 ty3) fun a hk => ?_
      refine d_w 8 511 hk hL rfl (fun w hL => w_ld1 rfl ty3 (lstf (k := 0) (o := 0) (m := 1) (hL.at 0 rfl) (by omega) (en_chunk shc_len (by omega)) rfl)) fun a hk => ?_
      refine d_w 9 1023 hk hL rfl (fun w hL => w_ne rfl rfl (decide_eq_false hc4)) fun a hk => ?_
      refine d_w 10 2047 hk hL rfl (fun w hL => w_mv rfl) fun a hk => ?_
      refine d_w 11 4095 hk hL rfl (fun w hL => w_mv rfl) fun a hk => ?_
      refine d_w 12 8191 hk hL rfl (fun w hL => w_mv rfl) fun a hk => ?_
      refine d_w 13 16383 hk hL rfl (fun w hL => w_iaL (k := k) rfl rfl Tryz.underlying22 ty53 (hL.at 0 rfl) (by omega) (by omega)) fun a hk => ?_
      refine d_w 14 32767 hk hL rfl (fun w hL => w_fa rfl fq53_1 ty3) fun a hk => ?_
      refine d_w 15 65535 hk hL rfl (fun w hL => w_ld1 rfl ty3 (lstf (k := k) (o := 1) (m := 1) (hL.at 0 rfl) (by omega) (en_chunk shc_len (by omega)) rfl)) fun a hk => ?_
      refine d_w 16 131071 hk hL rfl (fun w hL => w_mv rfl) fun a hk => ?_
      refine d_w 17 262143 hk hL rfl (fun w hL => w_iaL (k := 0) rfl rfl Tryz.underlying22 ty53 (hL.at 0 rfl) (by omega) (by omega)) fun a hk => ?_
      refine d_w 18 524287 hk hL rfl (fun w hL => w_fa rfl fq53_1 ty3) fun a hk => ?_
      refine d_w 19 1048575 hk hL rfl (fun w hL => w_ld1 rfl ty3 (lstf (k := 0) (o := 1) (m := 1) (hL.at 0 rfl) (by omega) (en_chunk shc_len (by omega)) rfl)) fun a hk => ?_
      refine d_w 20 2097151 hk hL rfl (fun w hL => w_ne rfl rfl (decide_eq_false hc5)) fun a hk => ?_
      refine d_w 21 4194303 hk hL rfl (fun w hL => w_pickF rfl rfl) fun a hk => ?_
      refine d_w 22 8388607 hk hL rfl (fun w hL => w_mv rfl) fun a hk => ?_
      refine d_w 23 16777215 hk hL rfl (fun w hL => w_mv rfl) fun a hk => ?_
      refine d_w 24 33554431 hk hL rfl (fun w hL => w_mv rfl) fun a hk => ?_
      refine d_w 25 67108863 hk hL rfl (fun w hL => w_iaL (k := k) rfl rfl Tryz.underlying22 ty53 (hL.at 0 rfl) (by omega) (by omega)) fun a hk => ?_
      refine d_w 26 134217727 hk hL rfl (fun w hL => w_fa rfl fq53_3 ty3) fun a hk => ?_
      refine d_w 27 268435455 hk hL rfl (fun w hL => w_ld1 rfl ty3 (lstf (k := k) (o := 3) (m := 1) (hL.at 0 rfl) (by omega) (en_chunk shc_len (by omega)) rfl)) fun a hk => ?_
      refine d_w 28 536870911 hk hL rfl (fun w hL => w_mv rfl) fun a hk => ?_
      refine d_w 29 1073741823 hk hL rfl (fun w hL => w_iaL (k := 0) rfl rfl Tryz.underlying22 ty53 (hL.at 0 rfl) (by omega) (by omega)) fun a hk => ?_
      refine d_w 30 2147483647 hk hL rfl (fun w hL => w_fa rfl fq53_3 ty3) fun a hk => ?_
      refine d_w 31 4294967295 hk hL rfl (fun w hL => w_ld1 rfl ty3 (lstf (k := 0) (o := 3) (m := 1) (hL.at 0 rfl) (by omega) (en_chunk shc_len (by omega)) rfl)) fun a hk => ?_
      refine d_w 32 8589934591 hk hL rfl (fun w hL => w_ne rfl rfl (decide_eq_true hc6)) fun a hk => ?_
      refine d_w 33 17179869183 hk hL rfl (fun w hL => w_pickF rfl rfl) fun a hk => ?_
      refine d_end (by kernel_rfl) ?_
      refine (x_t ?_)
      refine c_T hk rfl ?_
      refine wS (wR ?_)
      refine q_v hk (w_as rfl) fun a hk => ?_
      refine c_end (x_t ?_)
      refine (wpIn_ret (x_br (x_tr (x_tr (x_br (x_tr ?_))))))
      refine c_ret1 hk rfl rfl ?_
      exact ⟨by rw [csErr_14 hE hltk hdf], hs.toBelow⟩
     ·
      have hne : ∀ q, q < k + 1 → hdr (S q) = hdr (S 0) := fun q hq => if e : q = k then (by subst e; unfold hdr; simp only [ne_eq, Classical.not_not] at *; simp [*]) else hf2 q (by omega)
      have hL := okL.cons ((share_lst (HasR.nth 0 rfl : HasR (shareR la m lc S) _)).at_ hs) okL.nil
      refine d_begin _ 34 (by kernel_rfl) rfl hs hL fun w hs hL => ?_
      refine d_w 0 1 hk hL rfl (fun w hL => w_mv rfl) fun a hk => ?_
      refine d_w 1 3 hk hL rfl (fun w hL => w_mv rfl) fun a hk => ?_
      refine d_w 2 7 hk hL rfl (fun w hL => w_iaL (k := k) rfl rfl Tryz.underlying22 ty53 (hL.at 0 rfl) (by omega) (by omega)) fun a hk => ?_
      refine d_w 3 15 hk hL rfl (fun w hL => w_fa rfl fq53_0 ty3) fun a hk => ?_
      refine d_w 4 31 hk hL rfl (fun w hL => w_ld1 rfl ty3 (lstf (k := k) (o := 0) (m := 1) (hL.at 0 rfl) (by omega) (en_chunk shc_len (by omega)) rfl)) fun a hk => ?_
      refine d_w 5 63 hk hL rfl (fun w hL => w_mv rfl) fun a hk => ?_
      refine d_w 6 127 hk hL rfl (fun w hL => w_iaL (k := 0) rfl rfl Tryz.underlying22 ty53 (hL.at 0 rfl) (by omega) (by omega)) fun a hk => ?_
      refine d_w 7 255 hk hL rfl (fun w hL => w_fa rfl fq53_0 ty3) fun a hk => ?_
      refine d_w 8 511 hk hL rfl (fun w hL => w_ld1 rfl ty3 (lstf (k := 0) (o := 0) (m := 1) (hL.at 0 rfl) (by omega) (en_chunk shc_len (by omega)) rfl)) fun a hk => ?_
      refine d_w 9 1023 hk hL rfl (fun w hL => w_ne rfl rfl (decide_eq_false hc4)) fun a hk => ?_
      refine d_w 10 2047 hk hL rfl (fun w hL => w_mv rfl) fun a hk => ?_
      refine d_w 11 4095 hk hL rfl (fun w hL => w_mv rfl) fun a hk => ?_
      refine d_w 12 8191 hk hL rfl (fun w hL => w_mv rfl) fun a hk => ?_
      refine d_w 13 16383 hk hL rfl (fun w hL => w_iaL (k := k) rfl rfl Tryz.underlying22 ty53 (hL.at 0 rfl) (by omega) (by omega)) fun a hk => ?_
      refine d_w 14 32767 hk hL rfl (fun w hL => w_fa rfl fq53_1 ty3) fun a hk => ?_
      refine d_w 15 65535 hk hL rfl (fun w hL => w_ld1 rfl ty3 (lstf (k := k) (o := 1) (m := 1) (hL.at 0 rfl) (by omega) (en_chunk shc_len (by omega)) rfl)) fun a hk => ?_
      refine d_w 16 131071 hk hL rfl (fun w hL => w_mv rfl) fun a hk => ?_
      refine d_w 17 262143 hk hL rfl (fun w hL => w_iaL (k := 0) rfl rfl Tryz.underlying22 ty53 (hL.at 0 rfl) (by omega) (by omega)) fun a hk => ?_
      refine d_w 18 524287 hk hL rfl (fun w hL => w_fa rfl fq53_1 ty3) fun a hk => ?_
      refine d_w 19 1048575 hk hL rfl (fun w hL => w_ld1 rfl ty3 (lstf (k := 0) (o := 1) (m := 1) (hL.at 0 rfl) (by omega) (en_chunk shc_len (by omega)) rfl)) fun a hk => ?_
      refine d_w 20 2097151 hk hL rfl (fun w hL => w_ne rfl rfl (decide_eq_false hc5)) fun a hk => ?_
      refine d_w 21 4194303 hk hL rfl (fun w hL => w_pickF rfl rfl) fun a hk => ?_
      refine d_w 22 8388607 hk hL rfl (fun w hL => w_mv rfl) fun a hk => ?_
      refine d_w 23 16777215 hk hL rfl (fun w hL => w_mv rfl) fun a hk => ?_
      refine d_w 24 33554431 hk hL rfl (fun w hL => w_mv rfl) fun a hk => ?_
      refine d_w 25 67108863 hk hL rfl (fun w hL => w_iaL (k := k) rfl rfl Tryz.underlying22 ty53 (hL.at 0 rfl) (by omega) (by omega)) fun a hk => ?_
      refine d_w 26 134217727 hk hL rfl (fun w hL => w_fa rfl fq53_3 ty3) fun a hk => ?_
      refine d_w 27 268435455 hk hL rfl (fun w hL => w_ld1 rfl ty3 (lstf (k := k) (o := 3) (m := 1) (hL.at 0 rfl) (by omega) (en_chunk shc_len (by omega)) rfl)) fun a hk => ?_
      refine d_w 28 536870911 hk hL rfl (fun w hL => w_mv rfl) fun a hk => ?_
      refine d_w 29 1073741823 hk hL rfl (fun w hL => w_iaL (k := 0) rfl rfl Tryz.underlying22 ty53 (hL.at 0 rfl) (by omega) (by omega)) fun a hk => ?_
      refine d_w 30 2147483647 hk hL rfl (fun w hL => w_fa rfl fq53_3 ty3) fun a hk => ?_
      refine d_w 31 4294967295 hk hL rfl (fun w hL => w_ld1 rfl ty3 (lstf (k := 0) (o := 3) (m := 1) (hL.at 0 rfl) (by omega) (en_chunk shc_len (by omega)) rfl)) fun a hk => ?_
      refine d_w 32 8589934591 hk hL rfl (fun w hL => w_ne rfl rfl (decide_eq_false hc6)) fun a hk => ?_
      refine d_w 33 17179869183 hk hL rfl (fun w hL => w_pickF rfl rfl) fun a hk => ?_
      refine d_end (by kernel_rfl) ?_
      refine (x_t ?_)
      refine c_F hk rfl ?_
      refine (wpIn_skip (x_b (x_t ?_)))
      refine wR ?_
      refine q_v hk (w_mv rfl) fun a hk => ?_
      refine q_v hk (w_add rfl rfl (wr64 (by omega) (by omega))) fun a hk => ?_
      refine q_v hk (w_as rfl) fun a hk => ?_
      refine c_end (x_t ?_)
      exact ⟨k + 1, ⟨(by omega), hne, hk.k rfl (hk.k rfl hk.nil), hs⟩, by omega⟩
  ·
   have hH : ∀ q, q < m → hdr (S q) = hdr (S 0) := fun q hq => hf2 q (by omega)
   refine q_v hk (w_lt rfl rfl (decide_eq_false hc3)) fun a hk => ?_
   refine c_end (x_t ?_)
   refine c_F hk rfl ?_
   refine (wpIn_exit (x_te (x_te (x_be ?_))))
   refine (x_t ?_)
   refine wS (wS (wR ?_))
   refine q_v hk (w_as rfl) fun a hk => ?_
   refine c_end (x_t ?_)
   refine wpIn_block ?_
   refine c_loop (α := Nat) (fun u a w => u ≤ m ∧ (∀ q p, q < p → p < u → (S q).I ≠ (S p).I) ∧ Kn [] 96 [(6, .int .i64 ((u : Nat) : Int)), (0, .slice la m lc)] a ∧ Sat no W [] [shareR la m lc S] w) (fun u => m - u) 0 ?_ ?_
   · exact ⟨(by omega), (fun q p _ h => by omega), hk.k rfl (hk.k rfl hk.nil), hs⟩
   rintro u a w ⟨hf0, hf1, hk, hs⟩
   have hfu := hf1
   refine wS (wS (wR ?_))
   refine q_v hk (w_mv rfl) fun a hk => ?_
   refine q_v hk (w_mv rfl) fun a hk => ?_
   refine q_v hk (w_len rfl Tryz.underlying22) fun a hk => ?_
   rcases Classical.em (((u : Nat) : Int) < ((m : Nat) : Int)) with hc7 | hc7
   ·
    have hltu : u < m := by omega
    refine q_v hk (w_lt rfl rfl (decide_eq_true hc7)) fun a hk => ?_
    refine c_end (x_t ?_)
    refine c_T hk rfl ?_
    refine (wpIn_skip (x_t ?_))
    refine wS ?_
    refine wpIn_block ?_
    refine wS (wR ?_)
    refine q_v hk (w_as rfl) fun a hk => ?_
    refine c_end (x_t ?_)
    refine wpIn_block ?_
    refine c_loop (α := Nat) (fun j a w => j ≤ u ∧ (∀ q, q < j → (S u).I ≠ (S q).I) ∧ Kn [] 96 [(7, .int .i64 ((j : Nat) : Int)), (65, .bool true), (64, .int .i64 ((m : Nat) : Int)), (63, .slice la m lc), (62, .int .i64 ((u : Nat) : Int)), (6, .int .i64 ((u : Nat) : Int)), (0, .slice la m lc)] a ∧ Sat no W [] [shareR la m lc S] w) (fun j => u - j) 0 ?_ ?_
    · exact ⟨(by omega), (fun q h => by omega), hk.k rfl (hk.k rfl (hk.k rfl (hk.k rfl (hk.k rfl (hk.k rfl (hk.k rfl hk.nil)))))), hs⟩
    rintro j a w ⟨hf0, hf1, hk, hs⟩
    have hfj := hf1
    refine wS (wS (wR ?_))
    refine q_v hk (w_mv rfl) fun a hk => ?_
    refine q_v hk (w_mv rfl) fun a hk => ?_
    rcases Classical.em (((j : Nat) : Int) < ((u : Nat) : Int)) with hc8 | hc8
    ·
     refine q_v hk (w_lt rfl rfl (decide_eq_true hc8)) fun a hk => ?_
     refine c_end (x_t ?_)
     refine c_T hk rfl ?_
     refine (wpIn_skip (x_t ?_))
     refine wS ?_
     refine wpIn_block ?_
     refine wS ?_
     rcases Classical.em ((S u).I = (S j).I) with hc9 | hc9
     ·
      have hL := okL.cons ((share_lst (HasR.nth 0 rfl : HasR (shareR la m lc S) _)).at_ hs) okL.nil
      refine d_begin _ 11 (by kernel_rfl) rfl hs hL fun w hs hL => ?_
      refine d_w 0 1 hk hL rfl (fun w hL => w_mv rfl) fun a hk => ?_
      refine d_w 1 3 hk hL rfl (fun w hL => w_mv rfl) fun a hk => ?_
      refine d_w 2 7 hk hL rfl (fun w hL => w_iaL (k := u) rfl rfl Tryz.underlying22 ty53 (hL.at 0 rfl) (by omega) (by omega)) fun a hk => ?_
      refine d_w 3 15 hk hL rfl (fun w hL => w_fa rfl fq53_2 ty3) fun a hk => ?_
      refine d_w 4 31 hk hL rfl (fun w hL => w_ld1 rfl ty3 (lstf (k := u) (o := 2) (m := 1) (hL.at 0 rfl) (by omega) (en_chunk shc_len (by omega)) rfl)) fun a hk => ?_
      refine d_w 5 63 hk hL rfl (fun w hL => w_mv rfl) fun a hk => ?_
      refine d_w 6 127 hk hL rfl (fun w hL => w_mv rfl) fun a hk => ?_
      refine d_w 7 255 hk hL rfl (fun w hL => w_iaL (k := j) rfl rfl Tryz.underlying22 ty53 (hL.at 0 rfl) (by omega) (by omega)) fun a hk => ?_
      refine d_w 8 511 hk hL rfl (fun w hL => w_fa rfl fq53_2 ty3) fun a hk => ?_
      refine d_w 9 1023 hk hL rfl (fun w hL => w_ld1 rfl ty3 (lstf (k := j) (o := 2) (m := 1) (hL.at 0 rfl) (by omega) (en_chunk shc_len (by omega)) rfl)) fun a hk => ?_
      refine d_w 10 2047 hk hL rfl (fun w hL => w_eq rfl rfl (decide_eq_true hc9)) fun a hk => ?_
      refine d_end (by kernel_rfl) ?_
      refine (x_t ?_)
      refine c_T hk rfl ?_
      refine wS (wR ?_)
      refine q_v hk (w_as rfl) fun a hk => ?_
      refine c_end (x_t ?_)
      refine (wpIn_ret (x_br (x_tr (x_tr (x_br (x_br (x_tr (x_tr (x_br (x_tr ?_))))))))))
      refine c_ret1 hk rfl rfl ?_
      exact ⟨by rw [csErr_15 (k := u) (j := j) hE hH (by omega) hltu (by assumption)], hs.toBelow⟩
     ·
      have hnj : ∀ q, q < j + 1 → (S u).I ≠ (S q).I := fun q hq => if e : q = j then (by rw [e]; exact hc9) else hfj q (by omega)
      have hL := okL.cons ((share_lst (HasR.nth 0 rfl : HasR (shareR la m lc S) _)).at_ hs) okL.nil
      refine d_begin _ 11 (by kernel_rfl) rfl hs hL fun w hs hL => ?_
      refine d_w 0 1 hk hL rfl (fun w hL => w_mv rfl) fun a hk => ?_
      refine d_w 1 3 hk hL rfl (fun w hL => w_mv rfl) fun a hk => ?_
      refine d_w 2 7 hk hL rfl (fun w hL => w_iaL (k := u) rfl rfl Tryz.underlying22 ty53 (hL.at 0 rfl) (by omega) (by omega)) fun a hk => ?_
      refine d_w 3 15 hk hL rfl (fun w hL => w_fa rfl fq53_2 ty3) fun a hk => ?_
      refine d_w 4 31 hk hL rfl (fun w hL => w_ld1 rfl ty3 (lstf (k := u) (o := 2) (m := 1) (hL.at 0 rfl) (by omega) (en_chunk shc_len (by omega)) rfl)) fun a hk => ?_
      refine d_w 5 63 hk hL rfl (fun w hL => w_mv rfl) fun a hk => ?_
      refine d_w 6 127 hk hL rfl (fun w hL => w_mv rfl) fun a hk => ?_
      refine d_w 7 255 hk hL rfl (fun w hL => w_iaL (k := j) rfl rfl Tryz.underlying22 ty53 (hL.at 0 rfl) (by omega) (by omega)) fun a hk => ?_
      refine d_w 8 511 hk hL rfl (fun w hL => w_fa rfl fq53_2 ty3) fun a hk => ?_
      refine d_w 9 1023 hk hL rfl (fun w hL => w_ld1 rfl ty3 (lstf (k := j) (o := 2) (m := 1) (hL.at 0 rfl) (by omega) (en_chunk shc_len (by omega)) rfl)) fun a hk => ?_
      refine d_w 10 2047 hk hL rfl (fun w hL => w_eq rfl rfl (decide_eq_false hc9)) fun a hk => ?_
      refine d_end (by kernel_rfl) ?_
      refine (x_t ?_)
      refine c_F hk rfl ?_
      refine (wpIn_skip (x_b (x_t ?_)))
      refine wR ?_
      refine q_v hk (w_mv rfl) fun a hk => ?_
      refine q_v hk (w_add rfl rfl (wr64 (by omega) (by omega))) fun a hk => ?_
      refine q_v hk (w_as rfl) fun a hk => ?_
      refine c_end (x_t ?_)
      exact ⟨j + 1, ⟨(by omega), hnj, hk.k rfl (hk.k rfl (hk.k rfl (hk.k rfl (hk.k rfl (hk.k rfl (hk.k rfl hk.nil)))))), hs⟩, by omega⟩
    ·
     have hnu : ∀ q p, q < p → p < u + 1 → (S q).I ≠ (S p).I := fun q p h1 h2 => if e : p = u then (by rw [e]; exact fun h => hfj q (by omega) h.symm) else hfu q p h1 (by omega)
     refine q_v hk (w_lt rfl rfl (decide_eq_false hc8)) fun a hk => ?_
     refine c_end (x_t ?_)
     refine c_F hk rfl ?_
     refine (wpIn_exit (x_te (x_te (x_be ?_))))
     refine (x_b (x_t ?_))
     refine wR ?_
     refine q_v hk (w_mv rfl) fun a hk => ?_
     refine q_v hk (w_add rfl rfl (wr64 (by omega) (by omega))) fun a hk => ?_
     refine q_v hk (w_as rfl) fun a hk => ?_
     refine c_end (x_t ?_)
     exact ⟨u + 1, ⟨(by omega), hnu, hk.k rfl (hk.k rfl hk.nil), hs⟩, by omega⟩
   ·
    have hI : ∀ q p, q < p → p < m → (S q).I ≠ (S p).I := fun q p h1 h2 => hfu q p h1 (by omega)
    refine q_v hk (w_lt rfl rfl (decide_eq_false hc7)) fun a hk => ?_
    refine c_end (x_t ?_)
    refine c_F hk rfl ?_
    refine (wpIn_exit (x_te (x_te (x_be ?_))))
    refine (x_t ?_)
    refine wS (wS (wR ?_))
    refine q_v hk (w_mv rfl) fun a hk => ?_
    refine q_v hk (w_len rfl Tryz.underlying22) fun a hk => ?_
    rcases Classical.em (((m : Nat) : Int) = 0) with hc10 | hc10
    ·
     refine q_v hk (w_eq rfl rfl (decide_eq_true hc10)) fun a hk => ?_
     refine q_v hk (w_mv rfl) fun a hk => ?_
     refine q_skip hk rfl rfl fun a hk => ?_
     refine q_skip hk rfl rfl fun a hk => ?_
     refine q_skip hk rfl rfl fun a hk => ?_
     refine q_skip hk rfl rfl fun a hk => ?_
     refine q_skip hk rfl rfl fun a hk => ?_
     refine q_skip hk rfl rfl fun a hk => ?_
     refine q_skip hk rfl rfl fun a hk => ?_
     refine q_v hk (w_pickT rfl rfl) fun a hk => ?_
     refine c_end (x_t ?_)
     refine c_T hk rfl ?_
     refine wS (wR ?_)
     refine q_v hk (w_as rfl) fun a hk => ?_
     refine c_end (x_t ?_)
     refine (wpIn_ret (x_tr ?_))
     refine c_ret1 hk rfl rfl ?_
     exact ⟨by rw [csErr_16 hE hH hI (by omega)], hs.toBelow⟩
    ·
     refine q_v hk (w_eq rfl rfl (decide_eq_false hc10)) fun a hk => ?_
     refine q_v hk (w_mv rfl) fun a hk => ?_
     refine q_v hk (w_mv rfl) fun a hk => ?_
     refine q_v hk (w_len rfl Tryz.underlying22) fun a hk => ?_
     refine q_v hk (w_mv rfl) fun a hk => ?_
     refine q_v hk (w_iaL (k := 0) rfl rfl Tryz.underlying22 ty53 ((share_lst (HasR.nth 0 rfl : HasR (shareR la m lc S) _)).at_ hs) (by omega) (by omega)) fun a hk => ?_
     refine q_v hk (w_fa rfl fq53_1 ty3) fun a hk => ?_
     refine q_v hk (w_ld1 rfl ty3 (lstf (k := 0) (o := 1) (m := 1) ((share_lst (HasR.nth 0 rfl : HasR (shareR la m lc S) _)).at_ hs) (by omega) (en_chunk shc_len (by omega)) rfl)) fun a hk => ?_
     rcases Classical.em (((m : Nat) : Int) < ((S 0).T)) with hc11 | hc11
     ·
      refine q_v hk (w_lt rfl rfl (decide_eq_true hc11)) fun a hk => ?_
      refine q_v hk (w_pickF rfl rfl) fun a hk => ?_
      refine c_end (x_t ?_)
      refine c_T hk rfl ?_
      refine wS (wR ?_)
      refine q_v hk (w_as rfl) fun a hk => ?_
      refine c_end (x_t ?_)
      refine (wpIn_ret (x_tr ?_))
      refine c_ret1 hk rfl rfl ?_
      exact ⟨by rw [csErr_16 hE hH hI (by omega)], hs.toBelow⟩
     ·
      refine q_v hk (w_lt rfl rfl (decide_eq_false hc11)) fun a hk => ?_
      refine q_v hk (w_pickF rfl rfl) fun a hk => ?_
      refine c_end (x_t ?_)
      refine c_F hk rfl ?_
      refine (wpIn_skip (x_t ?_))
      refine wS (wR ?_)
      refine q_v hk (w_as rfl) fun a hk => ?_
      refine c_end (x_t ?_)
      refine (wpIn_ret ?_)
      refine c_ret1 hk rfl rfl ?_
      exact ⟨by rw [csErr_0 hE hH hI (by omega)], hs.toBelow⟩
end Go.Proofs.YtdnkkbmpefhbjaaGreatDoor
namespace Go.Proofs.YtdnkkbmpefhbjaaGreatDoor
set_option linter.all false
open Go Go.RowKit Alg
end Go.Proofs.YtdnkkbmpefhbjaaGreatDoor
namespace Go.Proofs.YtdnkkbmpefhbjaaGreatDoor
set_option linter.all false
open Go Go.RowKit Alg
def boc (b : Bool) : List Value := [.bool b]
theorem boc_len (b : Bool) : (boc b).length = 1 := rfl
def allB (f : Nat → Bool) : Nat → Bool
  | 0 => true
  | k + 1 => allB f k && f k
theorem allB_iff (f : Nat → Bool) : ∀ n, allB f n = true ↔ ∀ k, k < n → f k = true
  | 0 => by simp [allB]
  | n + 1 => by
    rw [allB, Bool.and_eq_true, allB_iff f n]
    constructor
    · rintro ⟨h1, h2⟩ k hk
      by_cases h : k = n
      · subst h; exact h2
      · exact h1 k (by omega)
    · intro h
      exact ⟨fun k hk => h k (by omega), h n (by omega)⟩
theorem am_ne (b : Bool) : decide (am b ≠ 0) = b := by cases b <;> rfl
def conB (s : Bool) (S : Nat → Shr) (m : Nat) : Bool := allB (fitB s S m) (S 0).n
def bof (f : Nat → Bool) (k i : Nat) : Bool := if i < k then f i else false
section
variable {f : Nat → Bool} {n k : Nat}
theorem bof_zero : en boc (fun _ => false) n = en boc (bof f 0) n := en_congr fun i _ => by unfold bof; rw [if_neg (Nat.not_lt_zero i)]
theorem bof_step : en boc (fun i => if i = k then f k else bof f k i) n = en boc (bof f (k + 1)) n := en_congr fun i _ => by
  unfold bof
  by_cases h : i = k
  · subst h; rw [if_pos rfl, if_pos (Nat.lt_succ_self _)]
  · rw [if_neg h]
    by_cases l : i < k
    · rw [if_pos l, if_pos (by omega)]
    · rw [if_neg l, if_neg (by omega)]
theorem bof_end : en boc (bof f n) n = en boc f n := en_congr fun i hi => by unfold bof; rw [if_pos hi]
end
theorem cons_bad {F0 : Nat → Prop} {W : World} {M R : List Res} (m lc : Nat) (la : Option Addr) (S : Nat → Shr) (t : Option Nat) (w0 : World) (hs : Sat F0 W M R w0) (hS : HasR (shareR la m lc S) R) (hG : HasR laidR R) (HO : ShOk S m) (hz : csErr S m ≠ 0) : Calls Tryz.prog 17 [tval t, .slice la m lc].toArray w0 fun e w => e = .returned (.tuple #[.bool false, .int .i64 (csErr S m)]) ∧ Sat F0 W M R w := by
 refine c_enter (args := [tval t, .slice la m lc]) Tryz.func17 rfl rfl rfl fun a hk => ?_
 refine wS (wR ?_)
 refine q_v hk (w_as rfl) fun a hk => ?_
 refine q_v hk (w_as rfl) fun a hk => ?_
 refine c_end (x_t (wS (wR ?_)))
 refine q_v hk (w_mv rfl) fun a hk => ?_
 refine q_v hk (w_mv rfl) fun a hk => ?_
 refine q_call (caps := []) hk rfl rfl Tryz.func55 fo55 rfl rfl (masks_bad m lc la S t _ hs (hS) (hG) HO hz) ?_
 rintro _ w ⟨rfl, hs⟩
 refine ⟨_, rfl, fun a hk => ?_⟩
 refine q_v hk (w_mv rfl) fun a hk => ?_
 refine q_v hk (w_ext rfl rfl) fun a hk => ?_
 refine q_v hk (w_ext rfl rfl) fun a hk => ?_
 refine q_v hk (w_as rfl) fun a hk => ?_
 refine q_v hk (w_as rfl) fun a hk => ?_
 refine c_end (x_t (wS (wS (wR ?_))))
 refine q_v hk (w_mv rfl) fun a hk => ?_
 refine q_v hk (w_ne rfl rfl (decide_eq_true (by omega))) fun a hk => ?_
 refine c_end (x_t ?_)
 refine c_T hk rfl ?_
 refine wS (wR ?_)
 refine q_v hk (w_mv rfl) fun a hk => ?_
 refine q_v hk (w_as rfl) fun a hk => ?_
 refine q_v hk (w_as rfl) fun a hk => ?_
 refine c_end (x_t ?_)
 refine (wpIn_ret (x_tr ?_))
 refine c_ret2 hk rfl rfl rfl ?_
 exact ⟨rfl, hs⟩
theorem cons_m {F0 : Nat → Prop} {W : World} {M R : List Res} (s : Bool) (m lc : Nat) (la : Option Addr) (S : Nat → Shr) (t : Option Nat) (evs : List Ev) (r : Res) (w0 : World) (hs : Sat F0 W (r :: M) R w0) (hS : HasR (shareR la m lc S) R) (hG : HasR laidR R) (HO : ShOk S m) (g : Good s S m) (hz : csErr S m = 0) (hm : m ≤ 255) (hn9 : (S 0).n ≤ 4) (hT : TapeIs t evs r) (he : evs.length ≤ 6000000) : Calls Tryz.prog 17 [tval t, .slice la m lc].toArray w0 fun e w => ∃ r, e = .returned (.tuple #[.bool (conB s S m), .int .i64 0]) ∧ TapeIs t (evs ++ upE 0 (((S 0).n : Nat) : Int) (chunkE m (thN S))) r ∧ Sat F0 W (r :: M) R w := by
 refine c_enter (args := [tval t, .slice la m lc]) Tryz.func17 rfl rfl rfl fun a hk => ?_
 refine wS (wR ?_)
 refine q_v hk (w_as rfl) fun a hk => ?_
 refine q_v hk (w_as rfl) fun a hk => ?_
 refine c_end (x_t (wS (wR ?_)))
 refine q_v hk (w_mv rfl) fun a hk => ?_
 refine q_v hk (w_mv rfl) fun a hk => ?_
 refine q_call (caps := []) hk rfl rfl Tryz.func55 fo55 rfl rfl (masks_m s m lc la S t evs _ _ hs (hS) (hG) HO g hz hm hn9 hT he) ?_
 rintro _ w ⟨r1, a2, c3, rfl, hT, hs⟩
 refine ⟨_, rfl, fun a hk => ?_⟩
 refine q_v hk (w_mv rfl) fun a hk => ?_
 refine q_v hk (w_ext rfl rfl) fun a hk => ?_
 refine q_v hk (w_ext rfl rfl) fun a hk => ?_
 refine q_v hk (w_as rfl) fun a hk => ?_
 refine q_v hk (w_as rfl) fun a hk => ?_
 refine c_end (x_t (wS (wS (wR ?_))))
 refine q_v hk (w_mv rfl) fun a hk => ?_
 refine q_v hk (w_ne rfl rfl (decide_eq_false (by decide))) fun a hk => ?_
 refine c_end (x_t ?_)
 refine c_F hk rfl ?_
 refine (wpIn_skip (x_t ?_))
 refine wS (wR ?_)
 refine q_v hk (w_as rfl) fun a hk => ?_
 refine c_end (x_t (wS (wS (wR ?_))))
 refine q_v hk (w_mv rfl) fun a hk => ?_
 refine q_v hk (w_len rfl Tryz.underlying91) fun a hk => ?_
 refine q_v hk (w_mv rfl) fun a hk => ?_
 refine c_end (x_t ?_)
 refine wpIn_block ?_
 refine c_loop (α := Nat) (fun k a w => k ≤ (S 0).n ∧ Kn [] 32 [(22, .int .i64 ((k : Nat) : Int)), (8, .int .u64 (am (allB (fitB s S m) k))), (21, .int .i64 (((S 0).n : Nat) : Int)), (20, .slice a2 ((S 0).n) c3), (5, .int .i64 0), (4, .bool false)] a ∧ Sat F0 W (r1 :: (row 46 1 (.slice a2 ((S 0).n) c3) ((S 0).n) (en amc (fun i => fitB s S m i) ((S 0).n))) :: M) R w) (fun k => (S 0).n - k) 0 ?_ ?_
 · exact ⟨(by omega), hk.k rfl (hk.k rfl (hk.k rfl (hk.k rfl (hk.k rfl (hk.k rfl hk.nil))))), hs⟩
 rintro k a w ⟨hf0, hk, hs⟩
 refine wS (wR ?_)
 rcases Classical.em (((k : Nat) : Int) < (((S 0).n : Nat) : Int)) with hc4 | hc4
 ·
  refine q_v hk (w_lt rfl rfl (decide_eq_true hc4)) fun a hk => ?_
  refine c_end (x_t (wS ?_))
  refine c_T hk rfl ?_
  refine (wpIn_skip (x_t ?_))
  refine wS ?_
  refine wpIn_block ?_
  refine wS (wR ?_)
  refine q_v hk (w_iaL (k := k) rfl rfl Tryz.underlying91 ty46 (row_lst (hs.mi 1 rfl)) (by omega) (by omega)) fun a hk => ?_
  refine q_v hk (w_ld1 rfl ty46 (lstq (k := k) (row_lst (hs.mi 1 rfl)) (by omega) (en_chunk amc_len (by omega)))) fun a hk => ?_
  refine q_v hk (w_as rfl) fun a hk => ?_
  refine c_end (x_t (wR ?_))
  refine q_v hk (w_mv rfl) fun a hk => ?_
  refine q_v hk (w_mv rfl) fun a hk => ?_
  refine q_v hk (w_andam rfl rfl) fun a hk => ?_
  refine q_v hk (w_as rfl) fun a hk => ?_
  refine (c_end (x_b (x_t ?_)))
  refine wR ?_
  refine q_v hk (w_add rfl rfl (wr64 (by omega) (by omega))) fun a hk => ?_
  refine q_v hk (w_mv rfl) fun a hk => ?_
  refine c_end (x_t ?_)
  exact ⟨k + 1, ⟨(by omega), hk.k rfl (hk.k rfl (hk.k rfl (hk.k rfl (hk.k rfl (hk.k rfl hk.nil))))), hs⟩, by omega⟩
 ·
  refine q_v hk (w_lt rfl rfl (decide_eq_false hc4)) fun a hk => ?_
  refine c_end (x_t (wS ?_))
  refine c_F hk rfl ?_
  refine (wpIn_exit (x_te (x_te (x_be ?_))))
  refine (x_t ?_)
  refine wS (wR ?_)
  refine q_v hk (w_mv rfl) fun a hk => ?_
  refine q_v hk (w_ne rfl rfl (am_ne _)) fun a hk => ?_
  refine q_v hk (w_as rfl) fun a hk => ?_
  refine q_v hk (w_as rfl) fun a hk => ?_
  refine c_end (x_t ?_)
  refine (wpIn_ret ?_)
  refine c_ret2 hk rfl rfl rfl ?_
  have hs := hs.up1
  have hs := hs.drop
  have hkn : k = (S 0).n := by omega
  rw [hkn]
  exact ⟨_, rfl, hT, hs⟩
theorem achunks_bad {F0 : Nat → Prop} {W : World} {M R : List Res} (m lc : Nat) (la : Option Addr) (S : Nat → Shr) (t : Option Nat) (w0 : World) (hs : Sat F0 W M R w0) (hS : HasR (shareR la m lc S) R) (hG : HasR laidR R) (HO : ShOk S m) (hz : csErr S m ≠ 0) : Calls Tryz.prog 20 [tval t, .slice la m lc].toArray w0 fun e w => e = .returned (.tuple #[.slice none 0 0, .int .i64 (csErr S m)]) ∧ Sat F0 W M R w := by
 refine c_enter (args := [tval t, .slice la m lc]) Tryz.func20 rfl rfl rfl fun a hk => ?_
 refine wS (wR ?_)
 refine q_v hk (w_as rfl) fun a hk => ?_
 refine q_v hk (w_as rfl) fun a hk => ?_
 refine c_end (x_t (wS (wR ?_)))
 refine q_v hk (w_mv rfl) fun a hk => ?_
 refine q_v hk (w_mv rfl) fun a hk => ?_
 refine q_call (caps := []) hk rfl rfl Tryz.func55 fo55 rfl rfl (masks_bad m lc la S t _ hs (hS) (hG) HO hz) ?_
 rintro _ w ⟨rfl, hs⟩
 refine ⟨_, rfl, fun a hk => ?_⟩
 refine q_v hk (w_mv rfl) fun a hk => ?_
 refine q_v hk (w_ext rfl rfl) fun a hk => ?_
 refine q_v hk (w_ext rfl rfl) fun a hk => ?_
 refine q_v hk (w_as rfl) fun a hk => ?_
 refine q_v hk (w_as rfl) fun a hk => ?_
 refine c_end (x_t (wS (wS (wR ?_))))
 refine q_v hk (w_mv rfl) fun a hk => ?_
 refine q_v hk (w_ne rfl rfl (decide_eq_true (by omega))) fun a hk => ?_
 refine c_end (x_t ?_)
 refine c_T hk rfl ?_
 refine wS (wR ?_)
 refine q_v hk (w_mv rfl) fun a hk => ?_
 refine q_v hk (w_as rfl) fun a hk => ?_
 refine q_v hk (w_as rfl) fun a hk => ?_
 refine c_end (x_t ?_)
 refine (wpIn_ret (x_tr ?_))
 refine c_ret2 hk rfl rfl rfl ?_
 exact ⟨rfl, hs⟩
theorem achunks_m {F0 : Nat → Prop} {W : World} {M R : List Res} (s : Bool) (m lc : Nat) (la : Option Addr) (S : Nat → Shr) (t : Option Nat) (evs : List Ev) (r : Res) (w0 : World) (hs : Sat F0 W (r :: M) R w0) (hS : HasR (shareR la m lc S) R) (hG : HasR laidR R) (HO : ShOk S m) (g : Good s S m) (hz : csErr S m = 0) (hm : m ≤ 255) (hn9 : (S 0).n ≤ 4) (hT : TapeIs t evs r) (he : evs.length ≤ 6000000) : Calls Tryz.prog 20 [tval t, .slice la m lc].toArray w0 fun e w => ∃ r b, e = .returned (.tuple #[.slice (some ⟨b, 0, none⟩) (S 0).n (S 0).n, .int .i64 0]) ∧ TapeIs t (evs ++ upE 0 (((S 0).n : Nat) : Int) (chunkE m (thN S))) r ∧ Sat F0 W (r :: blk b (en boc (fitB s S m) (S 0).n) 4 :: M) R w := by
 refine c_enter (args := [tval t, .slice la m lc]) Tryz.func20 rfl rfl rfl fun a hk => ?_
 refine wS (wR ?_)
 refine q_v hk (w_as rfl) fun a hk => ?_
 refine q_v hk (w_as rfl) fun a hk => ?_
 refine c_end (x_t (wS (wR ?_)))
 refine q_v hk (w_mv rfl) fun a hk => ?_
 refine q_v hk (w_mv rfl) fun a hk => ?_
 refine q_call (caps := []) hk rfl rfl Tryz.func55 fo55 rfl rfl (masks_m s m lc la S t evs _ _ hs (hS) (hG) HO g hz hm hn9 hT he) ?_
 rintro _ w ⟨r1, a2, c3, rfl, hT, hs⟩
 refine ⟨_, rfl, fun a hk => ?_⟩
 refine q_v hk (w_mv rfl) fun a hk => ?_
 refine q_v hk (w_ext rfl rfl) fun a hk => ?_
 refine q_v hk (w_ext rfl rfl) fun a hk => ?_
 refine q_v hk (w_as rfl) fun a hk => ?_
 refine q_v hk (w_as rfl) fun a hk => ?_
 refine c_end (x_t (wS (wS (wR ?_))))
 refine q_v hk (w_mv rfl) fun a hk => ?_
 refine q_v hk (w_ne rfl rfl (decide_eq_false (by decide))) fun a hk => ?_
 refine c_end (x_t ?_)
 refine c_F hk rfl ?_
 refine (wpIn_skip (x_t ?_))
 refine wS (wR ?_)
 refine q_v hk (w_mv rfl) fun a hk => ?_
 refine q_v hk (w_len rfl Tryz.underlying91) fun a hk => ?_
 refine q_mks (k := (S 0).n) (cs := boc false) hk hs rfl rfl Tryz.underlying29 ty4 zr4 (by kernel_rfl) rfl rfl rfl rfl (by omega) (by omega) rfl rfl fun b4 w a hk hs => ?_
 have hs := hs.rw0 (show _ = blk b4 (en boc (fun _ => false) ((S 0).n)) 4 from rfl)
 refine q_v hk (w_as rfl) fun a hk => ?_
 refine c_end (x_t (wS (wS (wR ?_))))
 refine q_v hk (w_mv rfl) fun a hk => ?_
 refine q_v hk (w_len rfl Tryz.underlying91) fun a hk => ?_
 refine q_v hk (w_mv rfl) fun a hk => ?_
 refine c_end (x_t ?_)
 refine wpIn_block ?_
 have hs := hs.rw0 (congrArg (fun q => blk b4 q 4) (bof_zero (f := fitB s S m)))
 refine c_loop (α := Nat) (fun k a w => k ≤ (S 0).n ∧ Kn [] 37 [(25, .int .i64 ((k : Nat) : Int)), (24, .int .i64 (((S 0).n : Nat) : Int)), (23, .slice a2 ((S 0).n) c3), (8, .slice (some ⟨b4, 0, none⟩) ((S 0).n) ((S 0).n)), (5, .int .i64 0), (4, .slice none 0 0)] a ∧ Sat F0 W ((blk b4 (en boc (fun i => bof (fitB s S m) k i) ((S 0).n)) 4) :: r1 :: (row 46 1 (.slice a2 ((S 0).n) c3) ((S 0).n) (en amc (fun i => fitB s S m i) ((S 0).n))) :: M) R w) (fun k => (S 0).n - k) 0 ?_ ?_
 · exact ⟨(by omega), hk.k rfl (hk.k rfl (hk.k rfl (hk.k rfl (hk.k rfl (hk.k rfl hk.nil))))), hs⟩
 rintro k a w ⟨hf0, hk, hs⟩
 refine wS (wR ?_)
 rcases Classical.em (((k : Nat) : Int) < (((S 0).n : Nat) : Int)) with hc5 | hc5
 ·
  refine q_v hk (w_lt rfl rfl (decide_eq_true hc5)) fun a hk => ?_
  refine c_end (x_t (wS ?_))
  refine c_T hk rfl ?_
  refine (wpIn_skip (x_t ?_))
  refine wS ?_
  refine wpIn_block ?_
  refine wS (wR ?_)
  refine q_v hk (w_mv rfl) fun a hk => ?_
  refine q_v hk (w_iaL (k := k) rfl rfl Tryz.underlying91 ty46 (row_lst (hs.mi 2 rfl)) (by omega) (by omega)) fun a hk => ?_
  refine q_v hk (w_ld1 rfl ty46 (lstq (k := k) (row_lst (hs.mi 2 rfl)) (by omega) (en_chunk amc_len (by omega)))) fun a hk => ?_
  refine q_v hk (w_as rfl) fun a hk => ?_
  refine q_v hk (w_as rfl) fun a hk => ?_
  refine c_end (x_t (wR ?_))
  refine q_v hk (w_mv rfl) fun a hk => ?_
  refine q_v hk (w_mv rfl) fun a hk => ?_
  refine q_v hk (w_mv rfl) fun a hk => ?_
  refine q_v hk (w_ne rfl rfl (am_ne _)) fun a hk => ?_
  refine q_v hk (w_iaL (k := k) rfl rfl Tryz.underlying29 ty4 (blk_lst (hs.mi 0 rfl) (en_len boc_len) (Nat.le_refl _)) (by omega) (by omega)) fun a hk => ?_
  refine q_stoE (c := boc) (xx := (fitB s S m k)) (k := k) hk hs rfl rfl rfl ty4 rfl boc_len rfl (by omega) rfl fun w hs => ?_
  refine (c_end (x_b (x_t ?_)))
  refine wR ?_
  refine q_v hk (w_add rfl rfl (wr64 (by omega) (by omega))) fun a hk => ?_
  refine q_v hk (w_mv rfl) fun a hk => ?_
  refine c_end (x_t ?_)
  have hs := hs.rw0 (congrArg (fun q => blk b4 q 4) (bof_step (f := fitB s S m)))
  exact ⟨k + 1, ⟨(by omega), hk.k rfl (hk.k rfl (hk.k rfl (hk.k rfl (hk.k rfl (hk.k rfl hk.nil))))), hs⟩, by omega⟩
 ·
  refine q_v hk (w_lt rfl rfl (decide_eq_false hc5)) fun a hk => ?_
  refine c_end (x_t (wS ?_))
  refine c_F hk rfl ?_
  refine (wpIn_exit (x_te (x_te (x_be ?_))))
  refine (x_t ?_)
  refine wS (wR ?_)
  refine q_v hk (w_mv rfl) fun a hk => ?_
  refine q_v hk (w_as rfl) fun a hk => ?_
  refine q_v hk (w_as rfl) fun a hk => ?_
  refine c_end (x_t ?_)
  refine (wpIn_ret ?_)
  refine c_ret2 hk rfl rfl rfl ?_
  have hs := hs.up2
  have hs := hs.drop
  have hs := hs.up1
  have hkn : k = (S 0).n := by omega
  rw [hkn] at hs
  rw [bof_end] at hs
  exact ⟨_, _, rfl, hT, hs⟩
end Go.Proofs.YtdnkkbmpefhbjaaGreatDoor
namespace Go.Proofs.YtdnkkbmpefhbjaaGreatDoor
set_option linter.all false
open Go Go.RowKit Alg
theorem sla_zero {a : Option Addr} {m s : Nat} : sla a m 0 s = a := by
  unfold sla
  split
  · rfl
  · cases a with
    | none => rfl
    | some q => show some (q.add (0 * s)) = some q; rw [Nat.zero_mul]; rfl
theorem w_slc_eq {P : Program} {G : List (Nat × Value)} {o : Oper} {w : World} {a a' : Option Addr} {n n' c c' : Nat} (h : Wq P G o (.slice a n c) w w) (ha : a = a') (hn : n = n') (hc : c = c') : Wq P G o (.slice a' n' c') w w := by
  subst ha hn hc; exact h
section
variable {la : Option Addr} {m lc th : Nat} {S : Nat → Shr} {R M : List Res} {F0 : Nat → Prop} {W w : World}
theorem share_cap (h : HasR (shareR la m lc S) R) (hs : Sat F0 W M R w) : m ≤ lc := by
  obtain ⟨a, c, he, hc, _⟩ := ((share_lst h).at_ hs).at_
  cases he
  exact hc
theorem lst_take {n c th s : Nat} {xs ys : List Value} {r : Res} (hr : r = lst s (.slice la n c) n xs) (ht : th ≤ n) (hy : ys.length = th * s) (hxy : ∀ (j : Nat) (u : Value), ys[j]? = some u → xs[j]? = some u) : HasR (lst s (.slice la th c) th ys) [r] := by
  subst hr
  refine ⟨fun w hw => ?_, fun k hk => ⟨_, .head _, ?_⟩⟩
  · obtain ⟨a, c', he, hc, h0, h1⟩ := (hw _ (.head _)).at_
    cases he
    exact ⟨hy, la, c, rfl, Nat.le_trans ht hc, fun h => ⟨by have := (h0 h).1; omega, (h0 h).2⟩, fun ad ha hp => ⟨(h1 ad ha (by omega)).1, (h1 ad ha (by omega)).2.1, fun j u hj => (h1 ad ha (by omega)).2.2 j u (hxy j u hj)⟩⟩
  · have h1 := hk.1
    have h2 := hk.2
    exact ⟨by omega, by cases la <;> simpa [Value.ownBlock] using h2⟩
theorem en_take {α : Type} {c : α → List Value} {f : Nat → α} {th m s : Nat} (hl : ∀ x, (c x).length = s) (ht : th ≤ m) : ∀ (j : Nat) (u : Value), (en c f th)[j]? = some u → (en c f m)[j]? = some u := by
  intro j u h
  obtain ⟨d, rfl⟩ : ∃ d, m = th + d := ⟨m - th, by omega⟩
  have e : en c f (th + d) = en c f th ++ en c (fun i => f (th + i)) d := by
    unfold en
    rw [List.range_add, List.flatMap_append, List.flatMap_map]
  rw [e, List.getElem?_append_left (List.getElem?_eq_some_iff.1 h).1]
  exact h
theorem Good.take {s : Bool} (g : Good s S m) : Good s S (thN S) := by
  have ht := g.th_le
  have h2 := g.th
  exact ⟨by omega, fun i hi => g.F i (by omega), fun i hi => g.T i (by omega), fun i hi => g.Lq i (by omega), fun i hi => g.n i (by omega), fun i hi => g.idx i (by omega), fun i k hik hk => g.app i k hik (by omega), fun i hi => g.X i (by omega), g.t1, by omega, g.l0, g.l1, g.cn⟩
end
end Go.Proofs.YtdnkkbmpefhbjaaGreatDoor
namespace Go.Proofs.YtdnkkbmpefhbjaaGreatDoor
set_option linter.all false
open Go Go.RowKit Alg
end Go.Proofs.YtdnkkbmpefhbjaaGreatDoor
namespace Go.Proofs.YtdnkkbmpefhbjaaGreatDoor
set_option linter.all false
open Go Go.RowKit Alg
theorem rmodulus_z {v : Int} {s : Bool} (h : v = fid s) (w : World) : Calls Tryz.prog 28 #[.int .i64 v] w fun e w' => e = .returned (vec (pr s)) ∧ Below w.heap.size w w' := by subst h; exact refModulus_c s w
theorem allB_F {f : Nat → Bool} {k n : Nat} (h : f k = false) (hk : k < n) : allB f n = false := by
  cases e : allB f n with
  | false => rfl
  | true => rw [(allB_iff f n).1 e k hk] at h; cases h
end Go.Proofs.YtdnkkbmpefhbjaaGreatDoor
namespace Go.Proofs.YtdnkkbmpefhbjaaGreatDoor
set_option linter.all false
open Go Go.RowKit
theorem src_of {P : Program} {w : World} {s n c : Nat} {a : Option Addr} {xs : List Value} {tx e' : TypeId} (h : LstAt w s (.slice a n c) n xs) (h1 : ones xs = true) (hu : P.underlying tx = some (.slice e')) : Src P s tx (.slice a n c) n xs w := by
  obtain ⟨a', c', he, hc, h0, hx⟩ := h.at_
  cases he
  cases a with
  | none =>
    obtain ⟨rfl, rfl⟩ := h0 rfl
    have : xs = [] := List.eq_nil_of_length_eq_zero (by have := h.len; omega)
    subst this
    exact Src.ofNil w hu 0
  | some ad =>
    refine Src.ofSlice w hu ad n c xs h.len (fun j u hj => ?_) (ones_spec h1)
    by_cases hn : 0 < n
    · exact (hx ad rfl hn).2.2 j u hj
    · have h0 : n = 0 := by omega
      have hl := h.len
      rw [h0, Nat.zero_mul] at hl
      have : xs = [] := List.eq_nil_of_length_eq_zero hl
      subst this
      cases hj
section
variable {r : Option Nat} {n N : Nat} {P : Program} {ops : Array Oper} {Q : Exit → Act → World → Prop} {rest : List Oper} {G : List (Nat × Value)} {a : Act} {w w' : World} {v : Value} {Ds : List Nat}
  {d T : Nat} {p : String} {e : Array Edge} {g : Option (Nat × Bool)} {x y : Operand} {t te : TypeId} {F0 : Nat → Prop} {W : World} {M R : List Res} {xs ys : List Value} {ab : Bool} {s nb i j cy : Nat} {z : Value} {ax ay : Option Addr}
theorem w_appF (hs : Sat F0 W M R w) (hX : HasR (lst s (.slice ax i i) i xs) R) (hY : HasR (lst s (.slice ay j cy) j ys) R) (hx : evq G x = some (.slice ax i i)) (hy : evq G y = some (.slice ay j cy))
    (hu : P.underlying t = some (.slice te)) (ht : tq P te = some (ab, s, nb)) (hz : zq P te = some z) (hzs : Nat.beq z.cells.size s = true) (hs0 : Nat.blt 0 s = true) (h1 : ones xs = true) (h2 : ones ys = true) (hb : (i + j) * nb ≤ 140737488355328) (h63 : i + j ≤ 9223372036854775807) :
    ∃ a' c' w', Wq P G ⟨some d, .call ⟨.builtin .append, #[x, y], #[t, t]⟩, T, p, e, g⟩ (.slice a' (i + j) c') w w' ∧ i + j ≤ c' ∧ Sat F0 W M (lst s (.slice a' (i + j) c') (i + j) (xs ++ ys) :: R) w' := by
  obtain ⟨inf, hi, hiz, his, hib⟩ := tz_info ht hz
  have lX := hX.at_ hs
  have lY := hY.at_ hs
  have sX := src_of (P := P) (tx := t) lX h1 hu
  have sY := src_of (P := P) (tx := t) lY h2 hu
  subst his
  by_cases hj : j = 0
  · subst hj
    have hy0 : ys = [] := List.eq_nil_of_length_eq_zero (by have := lY.len; omega)
    subst hy0
    refine ⟨ax, i, w, .of2 hx hy fun ev e1 e2 => ?_, Nat.le_refl _, ?_⟩
    · have hr := run_append_nothing (P := P) w t t T te inf hu hi ax i i (Nat.le_refl _) _ sY
      simp only [execOp, resolve, invoke, builtin, Sem.run_bind, Sem.run_pure, Result.andThen_ok, List.map_toArray, List.map_cons, List.map_nil, e1, e2, hr, Nat.add_zero]
    · rw [List.append_nil, Nat.add_zero]
      exact hs.hasR hX
  · have hsz : z.cells.size = inf.size := Nat.eq_of_beq_eq_true hzs
    have hr := run_append_grow_src (P := P) w t t T te inf z hu hi hiz ax i i xs sX.cellsD _ j ys sY (by omega) (by omega) (growslice_fits (by omega) (by rw [hib]; exact hb))
    have hge := grownCap_ge w (i + j) i te
    have hcm : grownCap w (i + j) i te ≤ maxLen := grownCap_le_maxLen w (i + j) i te (by unfold maxLen; omega)
    have hlen : (xs ++ ys).length = (i + j) * inf.size := by rw [List.length_append, lX.len, lY.len, Nat.add_mul]
    refine ⟨some ⟨w.heap.size, 0, none⟩, grownCap w (i + j) i te, w.drew.alloc (.cells ((xs ++ ys).toArray ++ Builtin.zeroCells z.cells (grownCap w (i + j) i te - (i + j))) te), .of2 hx hy fun ev e1 e2 => ?_, hge, ?_⟩
    · simp only [execOp, resolve, invoke, builtin, Sem.run_bind, Sem.run_pure, Result.andThen_ok, List.map_toArray, List.map_cons, List.map_nil, e1, e2, hr]
    · have hg : w.grownBy (w.drew.alloc (.cells ((xs ++ ys).toArray ++ Builtin.zeroCells z.cells (grownCap w (i + j) i te - (i + j))) te)) none := ⟨rfl, rfl, rfl, by simp, fun k hk _ => Below.heap_alloc w.drew _ k hk⟩
      have ho : (w.drew.alloc (.cells ((xs ++ ys).toArray ++ Builtin.zeroCells z.cells (grownCap w (i + j) i te - (i + j))) te)).ownsRow 0 te inf.size (.slice (some ⟨w.heap.size, 0, none⟩) (i + j) (grownCap w (i + j) i te)) (i + j) (xs ++ ys) := by
        refine ⟨hlen, .inr ⟨w.heap.size, _, _, rfl, Nat.zero_le _, heap_alloc_new w.drew _, hge, hcm, ?_, ?_⟩⟩
        · simp only [Array.size_append, List.size_toArray, size_zeroCells, hsz, hlen, ← Nat.add_mul]
          congr 1
          omega
        · simp only [Array.toList_append]
          rw [← hlen]
          exact List.take_left
      have h3 : Sat F0 W (row te inf.size (.slice (some ⟨w.heap.size, 0, none⟩) (i + j) (grownCap w (i + j) i te)) (i + j) (xs ++ ys) :: M) R _ := hs.new ((Keeps.grown hg).mono fun k hk _ => by cases hk) ho fun k hk => by cases hk; exact Nat.le_refl _
      exact h3.frz (r := lst inf.size (.slice (some ⟨w.heap.size, 0, none⟩) (i + j) (grownCap w (i + j) i te)) (i + j) (xs ++ ys)) (row_lst (h3.mi 0 rfl)) (fun _ h => h.2)
theorem q_appF (hk : Kn Ds N G a) (hs : Sat F0 W M R w) (hX : HasR (lst s (.slice ax i i) i xs) R) (hY : HasR (lst s (.slice ay j cy) j ys) R) (hx : evq G x = some (.slice ax i i)) (hy : evq G y = some (.slice ay j cy))
    (hu : P.underlying t = some (.slice te)) (ht : tq P te = some (ab, s, nb)) (hz : zq P te = some z) (hzs : Nat.beq z.cells.size s = true) (hs0 : Nat.blt 0 s = true) (h1 : ones xs = true) (h2 : ones ys = true) (hb : (i + j) * nb ≤ 140737488355328) (h63 : i + j ≤ 9223372036854775807)
    (hd : Nat.ble (d + 1) N = true) (hg : wq ops G g = some true)
    (h : ∀ a' c' w a, Kn Ds N ((d, .slice a' (i + j) c') :: G) a → i + j ≤ c' → Sat F0 W M (lst s (.slice a' (i + j) c') (i + j) (xs ++ ys) :: R) w → wpListIn (Fr r) n P ops Q rest a w) :
    wpListIn (Fr r) n P ops Q (⟨some d, .call ⟨.builtin .append, #[x, y], #[t, t]⟩, T, p, e, g⟩ :: rest) a w := by
  obtain ⟨a', c', w', hw, hc, hs'⟩ := w_appF (d := d) (T := T) (p := p) (e := e) (g := g) hs hX hY hx hy hu ht hz hzs hs0 h1 h2 hb h63
  exact q_val hk hw hd rfl hg fun a hk => h a' c' w' a hk hc hs'
end
end Go.Proofs.YtdnkkbmpefhbjaaGreatDoor
namespace Go.Proofs.YtdnkkbmpefhbjaaGreatDoor
set_option linter.all false
open Go Go.RowKit Alg
/-- The shares without the i-th. -/
def wo (S : Nat → Shr) (i k : Nat) : Shr := if k < i then S k else S (k + 1)
section
variable {s : Bool} {S : Nat → Shr} {m i k : Nat} {la a : Option Addr} {lc c : Nat} {R : List Res}
theorem wo_some (hi : i < m) (hk : k < m - 1) : ∃ j, j < m ∧ wo S i k = S j := by
  unfold wo
  by_cases h : k < i
  · exact ⟨k, by omega, if_pos h⟩
  · exact ⟨k + 1, by omega, if_neg h⟩
theorem Good.wo (g : Good s S m) (hi : i < m) (ht : (S 0).T < (m : Int)) : Good s (wo S i) (m - 1) := by
  have h1 := g.t1
  have hm : 0 < m - 1 := by omega
  obtain ⟨j0, hj0, e0⟩ := wo_some (S := S) hi hm
  have key : ∀ k, k < m - 1 → ∃ j, j < m ∧ Go.Proofs.YtdnkkbmpefhbjaaGreatDoor.wo S i k = S j := fun k hk => wo_some hi hk
  have hT0 : (Go.Proofs.YtdnkkbmpefhbjaaGreatDoor.wo S i 0).T = (S 0).T := by rw [e0]; exact g.T j0 hj0
  have hL0 : (Go.Proofs.YtdnkkbmpefhbjaaGreatDoor.wo S i 0).L = (S 0).L := by rw [e0]; exact g.Lq j0 hj0
  have hn0 : (Go.Proofs.YtdnkkbmpefhbjaaGreatDoor.wo S i 0).n = (S 0).n := by rw [e0]; exact g.n j0 hj0
  refine ⟨hm, fun k hk => ?_, fun k hk => ?_, fun k hk => ?_, fun k hk => ?_, fun k hk => ?_, fun k k' hkk hk => ?_, fun k hk j hj => ?_, by rw [hT0]; exact h1, by rw [hT0]; omega, by rw [hL0]; exact g.l0, by rw [hL0]; exact g.l1, by rw [hL0, hn0]; exact g.cn⟩
  · obtain ⟨j, hj, e⟩ := key k hk; rw [e]; exact g.F j hj
  · obtain ⟨j, hj, e⟩ := key k hk; rw [e, hT0]; exact g.T j hj
  · obtain ⟨j, hj, e⟩ := key k hk; rw [e, hL0]; exact g.Lq j hj
  · obtain ⟨j, hj, e⟩ := key k hk; rw [e, hn0]; exact g.n j hj
  · obtain ⟨j, hj, e⟩ := key k hk; rw [e]; exact g.idx j hj
  · unfold Go.Proofs.YtdnkkbmpefhbjaaGreatDoor.wo
    by_cases h1 : k < i <;> by_cases h2 : k' < i
    · rw [if_pos h1, if_pos h2]; exact g.app k k' hkk (by omega)
    · rw [if_pos h1, if_neg h2]; exact g.app k (k' + 1) (by omega) (by omega)
    · omega
    · rw [if_neg h1, if_neg h2]; exact g.app (k + 1) (k' + 1) (by omega) (by omega)
  · obtain ⟨j', hj', e⟩ := key k hk; rw [e]; rw [hn0] at hj; exact g.X j' hj' j hj
theorem ShOk.wo (h : ShOk S m) (hi : i < m) : ShOk (wo S i) (m - 1) := by
  refine ⟨by have := h.m_le; omega, fun k hk => ?_, fun k hk => ?_⟩
  · obtain ⟨j, hj, e⟩ := wo_some (S := S) hi hk; rw [e]; exact h.n_le j hj
  · obtain ⟨j, hj, e⟩ := wo_some (S := S) hi hk; rw [e]; exact h.x_lt j hj
theorem wo_en (hi : i < m) : en shc S i ++ en shc (fun j => S (i + 1 + j)) (m - (i + 1)) = en shc (wo S i) (i + (m - (i + 1))) := by
  have e : en shc (wo S i) (i + (m - (i + 1))) = en shc (wo S i) i ++ en shc (fun j => wo S i (i + j)) (m - (i + 1)) := by
    unfold en
    rw [List.range_add, List.flatMap_append, List.flatMap_map]
  rw [e]
  congr 1
  · exact en_congr fun k hk => by unfold wo; rw [if_pos hk]
  · exact en_congr fun k _ => by unfold wo; rw [if_neg (by omega), show i + k + 1 = i + 1 + k by omega]
theorem lst_clip {n s : Nat} {xs : List Value} : HasR (lst s (.slice a n n) n xs) [lst s (.slice a n c) n xs] := by
  refine ⟨fun w hw => ?_, fun k hk => ⟨_, .head _, hk.1, by have h2 := hk.2; cases a <;> simpa [Value.ownBlock] using h2⟩⟩
  obtain ⟨a', c', he, hc, h0, h1⟩ := (hw _ (.head _)).at_
  cases he
  exact ⟨(hw _ (.head _)).len, a, n, rfl, Nat.le_refl _, fun h => ⟨(h0 h).1, (h0 h).1⟩, h1⟩
theorem pre_share (hS : HasR (shareR la m lc S) R) (hi : i < m) : HasR (lst 5 (.slice la i i) i (en shc S i)) R :=
  (lst_clip (c := lc)).trans ((lst_take rfl (Nat.le_of_lt hi) (en_len shc_len) (en_take shc_len (Nat.le_of_lt hi))).trans (share_lst hS))
theorem en_drop {n : Nat} (h : i + 1 ≤ n) : (en shc S n).drop ((i + 1) * 5) = en shc (fun j => S (i + 1 + j)) (n - (i + 1)) := by
  have e : en shc S n = en shc S (i + 1) ++ en shc (fun j => S (i + 1 + j)) (n - (i + 1)) := by
    conv => lhs; rw [show n = i + 1 + (n - (i + 1)) by omega]
    unfold en
    rw [List.range_add, List.flatMap_append, List.flatMap_map]
  rw [e, List.drop_append_of_le_length (by rw [en_len shc_len]; exact Nat.le_refl _), List.drop_eq_nil_of_le (by rw [en_len shc_len]; exact Nat.le_refl _), List.nil_append]
theorem post_share (hS : HasR (shareR la m lc S) R) (hi : i < m) (hc : m ≤ lc) : HasR (lst 5 (.slice (sla la lc (i + 1) 5) (m - (i + 1)) (lc - (i + 1))) (m - (i + 1)) (en shc (fun j => S (i + 1 + j)) (m - (i + 1)))) R := by
  have h0 := share_lst hS
  refine HasR.trans (m := lst 5 (.slice la m lc) m (en shc S m)) ⟨fun w hw => ?_, fun k hk => ⟨_, .head _, ?_⟩⟩ h0
  · have hL : LstAt w 5 (.slice la m lc) m (en shc S m) := hw _ (.head _)
    have h := hL.sub (l := i + 1) (h := m) (m := lc) (by omega) (by omega) (by omega) (by omega)
    have e : ((en shc S m).drop ((i + 1) * 5)).take ((m - (i + 1)) * 5) = en shc (fun j => S (i + 1 + j)) (m - (i + 1)) := by
      rw [en_drop (by omega), List.take_of_length_le (by rw [en_len shc_len]; exact Nat.le_refl _)]
    rw [← e]
    exact h
  · obtain ⟨h1, h2⟩ := hk
    refine ⟨by omega, ?_⟩
    unfold sla at h2
    cases la with
    | none => split at h2 <;> simp [Value.ownBlock] at h2
    | some q =>
      split at h2
      · exact h2
      · simp only [Option.map_some, Value.ownBlock] at h2 ⊢
        rw [← h2]
        unfold Addr.add
        split <;> rfl
/-- What is handed to Consistent. -/
theorem oth_share (h : HasR (lst 5 (.slice a (i + (m - (i + 1))) c) (i + (m - (i + 1))) (en shc S i ++ en shc (fun j => S (i + 1 + j)) (m - (i + 1)))) R) (hS : HasR (shareR la m lc S) R) (hi : i < m) : HasR (shareR a (i + (m - (i + 1))) (i + (m - (i + 1))) (wo S i)) R := by
  refine .rall fun x hx => ?_
  simp only [List.mem_cons, List.not_mem_nil, or_false] at hx
  rcases hx with rfl | rfl
  · rw [← wo_en hi]
    exact lst_clip.trans h
  · refine .rall fun y hy => ?_
    obtain ⟨k, hk, rfl⟩ := List.mem_map.1 hy
    obtain ⟨j, hj, e⟩ := wo_some (S := S) (k := k) hi (by have := List.mem_range.1 hk; omega)
    rw [e]
    exact share_pay hS hj
end
end Go.Proofs.YtdnkkbmpefhbjaaGreatDoor
namespace Go.Proofs.YtdnkkbmpefhbjaaGreatDoor
set_option linter.all false
open Go Go.RowKit Alg
theorem Good.wo0 {s : Bool} {S : Nat → Shr} {m i : Nat} (g : Good s S m) (hi : i < m) (ht : (S 0).T < (m : Int)) : (Go.Proofs.YtdnkkbmpefhbjaaGreatDoor.wo S i 0).n = (S 0).n ∧ thN (Go.Proofs.YtdnkkbmpefhbjaaGreatDoor.wo S i) = thN S := by
  have h1 := g.t1
  obtain ⟨j, hj, e⟩ := wo_some (S := S) (k := 0) hi (by omega)
  unfold thN
  rw [e]
  exact ⟨g.n j hj, by rw [g.T j hj]⟩
def consE (m th n : Nat) : List Ev := upE 0 ((n : Nat) : Int) (chunkE (m - 1) th)
def susF (m th n : Nat) (i : Int) : List Ev := [(5, i, 0)] ++ consE m th n
def susE (m th n : Nat) : List Ev := upE 0 ((m : Nat) : Int) (susF m th n)
/-- The suspects among the first k. -/
def susL (s : Bool) (S : Nat → Shr) (m : Nat) : Nat → List Int
  | 0 => []
  | k + 1 => if conB s (wo S k) (k + (m - (k + 1))) = true then susL s S m k ++ [(k : Int)] else susL s S m k
theorem sus_next {E : List Ev} {m th n k : Nat} : E ++ upE 0 ((k : Nat) : Int) (susF m th n) ++ [(5, ((k : Nat) : Int), 0)] ++ consE m th n = E ++ upE 0 ((k + 1 : Nat) : Int) (susF m th n) := by
  have e := upE_succ (F := susF m th n) (fr := 0) (x := (k : Int)) (by omega)
  rw [List.append_assoc, List.append_assoc, show [((5 : Int), ((k : Nat) : Int), (0 : Int))] ++ consE m th n = susF m th n (k : Int) from rfl, e]
  rfl
theorem susF_len {m th n : Nat} (hm : m ≤ 8) (hn : n ≤ 4) (i : Int) : (susF m th n i).length ≤ 600000 := by
  have := chunks_len (m := m - 1) (th := th) (k := n) (by omega)
  unfold susF consE
  simp only [List.length_append, List.length_singleton]
  omega
theorem susK_len {m th n k : Nat} (hm : m ≤ 8) (hn : n ≤ 4) : (upE 0 ((k : Nat) : Int) (susF m th n)).length ≤ k * 600000 := by
  have := upE_len (fr := 0) (to := (k : Int)) (F := susF m th n) (B := 600000) (fun i => susF_len hm hn i)
  simpa using this
theorem clip_c (n c : Nat) (la : Option Addr) (W : World) (hc : n ≤ c) : Calls Tryz.prog 62 [.slice la n c].toArray W fun e w => e = .returned (.slice la n n) ∧ Below W.heap.size W w := by
 refine c_enter (args := [.slice la n c]) Tryz.func62 rfl rfl rfl fun a hk => ?_
 have hs := Sat.start W [] (fun _ h => by cases h)
 refine wS (wR ?_)
 refine q_v hk (w_as rfl) fun a hk => ?_
 refine c_end (x_t (wS (wR ?_)))
 refine q_v hk (w_mv rfl) fun a hk => ?_
 refine q_v hk (w_mv rfl) fun a hk => ?_
 refine q_v hk (w_len rfl Tryz.underlying22) fun a hk => ?_
 refine q_v hk (w_mv rfl) fun a hk => ?_
 refine q_v hk (w_len rfl Tryz.underlying22) fun a hk => ?_
 refine q_v hk (w_slc_eq (w_slc3 (l := 0) (h := n) (m := n) rfl rfl rfl rfl Tryz.underlying22 ty53 rfl rfl rfl (by omega) (by omega) (by omega) (by omega) (by omega) (by omega)) sla_zero (Nat.sub_zero _) (Nat.sub_zero _)) fun a hk => ?_
 refine q_v hk (w_as rfl) fun a hk => ?_
 refine c_end (x_t ?_)
 refine (wpIn_ret ?_)
 refine c_ret1 hk rfl rfl ?_
 exact ⟨rfl, hs.toBelow⟩
theorem sus_bad {F0 : Nat → Prop} {W : World} {M R : List Res} (m lc : Nat) (la : Option Addr) (S : Nat → Shr) (t : Option Nat) (w0 : World) (hs : Sat F0 W M R w0) (hS : HasR (shareR la m lc S) R) (hG : HasR laidR R) (HO : ShOk S m) (hz : csErr S m ≠ 0) : Calls Tryz.prog 23 [tval t, .slice la m lc].toArray w0 fun e w => e = .returned (.tuple #[.slice none 0 0, .int .i64 (csErr S m)]) ∧ Sat F0 W M R w := by
 refine c_enter (args := [tval t, .slice la m lc]) Tryz.func23 rfl rfl rfl fun a hk => ?_
 refine wS (wR ?_)
 refine q_v hk (w_as rfl) fun a hk => ?_
 refine q_v hk (w_as rfl) fun a hk => ?_
 refine c_end (x_t (wS (wS (wR ?_))))
 refine q_v hk (w_mv rfl) fun a hk => ?_
 refine q_call (caps := []) hk rfl rfl Tryz.func60 fo60 rfl rfl (ckShares_c m lc la S _ ((hS).at_ hs) HO ((hG).at_ hs)) ?_
 rintro _ w ⟨rfl, hb⟩
 have hs := hs.below hb
 refine ⟨_, rfl, fun a hk => ?_⟩
 refine q_v hk (w_as rfl) fun a hk => ?_
 refine c_end (x_t (wS (wR ?_)))
 refine q_v hk (w_mv rfl) fun a hk => ?_
 refine q_v hk (w_ne rfl rfl (decide_eq_true (by omega))) fun a hk => ?_
 refine c_end (x_t ?_)
 refine c_T hk rfl ?_
 refine wS (wR ?_)
 refine q_v hk (w_mv rfl) fun a hk => ?_
 refine q_v hk (w_as rfl) fun a hk => ?_
 refine q_v hk (w_as rfl) fun a hk => ?_
 refine c_end (x_t ?_)
 refine (wpIn_ret (x_tr ?_))
 refine c_ret2 hk rfl rfl rfl ?_
 exact ⟨rfl, hs⟩
theorem sus_few {F0 : Nat → Prop} {W : World} {M R : List Res} (m lc : Nat) (la : Option Addr) (S : Nat → Shr) (t : Option Nat) (w0 : World) (hs : Sat F0 W M R w0) (hS : HasR (shareR la m lc S) R) (hG : HasR laidR R) (HO : ShOk S m) (hz : csErr S m = 0) (hm0 : 0 < m) (hm : m ≤ 255) (hf : ((m : Nat) : Int) ≤ (S 0).T) : Calls Tryz.prog 23 [tval t, .slice la m lc].toArray w0 fun e w => e = .returned (.tuple #[.slice none 0 0, .int .i64 16]) ∧ Sat F0 W M R w := by
 refine c_enter (args := [tval t, .slice la m lc]) Tryz.func23 rfl rfl rfl fun a hk => ?_
 refine wS (wR ?_)
 refine q_v hk (w_as rfl) fun a hk => ?_
 refine q_v hk (w_as rfl) fun a hk => ?_
 refine c_end (x_t (wS (wS (wR ?_))))
 refine q_v hk (w_mv rfl) fun a hk => ?_
 refine q_call (caps := []) hk rfl rfl Tryz.func60 fo60 rfl rfl (ckShares_c m lc la S _ ((hS).at_ hs) HO ((hG).at_ hs)) ?_
 rintro _ w ⟨rfl, hb⟩
 have hs := hs.below hb
 refine ⟨_, rfl, fun a hk => ?_⟩
 refine q_v hk (w_as rfl) fun a hk => ?_
 refine c_end (x_t (wS (wR ?_)))
 refine q_v hk (w_mv rfl) fun a hk => ?_
 refine q_v hk (w_ne rfl rfl (decide_eq_false (by omega))) fun a hk => ?_
 refine c_end (x_t ?_)
 refine c_F hk rfl ?_
 refine (wpIn_skip (x_t ?_))
 refine wS (wS (wR ?_))
 refine q_v hk (w_mv rfl) fun a hk => ?_
 refine q_v hk (w_len rfl Tryz.underlying22) fun a hk => ?_
 refine q_v hk (w_mv rfl) fun a hk => ?_
 refine q_v hk (w_iaL (k := 0) rfl rfl Tryz.underlying22 ty53 ((share_lst hS).at_ hs) (by omega) (by omega)) fun a hk => ?_
 refine q_v hk (w_fa rfl fq53_1 ty3) fun a hk => ?_
 refine q_v hk (w_ld1 rfl ty3 (lstf (k := 0) (o := 1) (m := 1) ((share_lst hS).at_ hs) (by omega) (en_chunk shc_len (by omega)) rfl)) fun a hk => ?_
 refine q_v hk (w_le rfl rfl (decide_eq_true (by omega))) fun a hk => ?_
 refine c_end (x_t ?_)
 refine c_T hk rfl ?_
 refine wS (wR ?_)
 refine q_v hk (w_as rfl) fun a hk => ?_
 refine q_v hk (w_as rfl) fun a hk => ?_
 refine c_end (x_t ?_)
 refine (wpIn_ret (x_tr ?_))
 refine c_ret2 hk rfl rfl rfl ?_
 exact ⟨rfl, hs⟩
theorem sus_m {F0 : Nat → Prop} {W : World} {M R : List Res} (s : Bool) (m lc : Nat) (la : Option Addr) (S : Nat → Shr) (t : Option Nat) (evs : List Ev) (r : Res) (w0 : World) (hs : Sat F0 W (r :: M) R w0) (hS : HasR (shareR la m lc S) R) (hG : HasR laidR R) (HO : ShOk S m) (g : Good s S m) (hz : csErr S m = 0) (hm8 : m ≤ 8) (hn9 : (S 0).n ≤ 4) (hf : (S 0).T < ((m : Nat) : Int)) (hT : TapeIs t evs r) (he : evs.length ≤ 1000) : Calls Tryz.prog 23 [tval t, .slice la m lc].toArray w0 fun e w => ∃ r a n c, e = .returned (.tuple #[.slice a n c, .int .i64 0]) ∧ TapeIs t (evs ++ susE m (thN S) (S 0).n) r ∧ Sat F0 W (r :: row 3 1 (.slice a n c) n (el ic (susL s S m m)) :: M) R w := by
 have hm0 := g.m0
 have hcap := share_cap hS hs
 refine c_enter (args := [tval t, .slice la m lc]) Tryz.func23 rfl rfl rfl fun a hk => ?_
 refine wS (wR ?_)
 refine q_v hk (w_as rfl) fun a hk => ?_
 refine q_v hk (w_as rfl) fun a hk => ?_
 refine c_end (x_t (wS (wS (wR ?_))))
 refine q_v hk (w_mv rfl) fun a hk => ?_
 refine q_call (caps := []) hk rfl rfl Tryz.func60 fo60 rfl rfl (ckShares_c m lc la S _ ((hS).at_ hs) HO ((hG).at_ hs)) ?_
 rintro _ w ⟨rfl, hb⟩
 have hs := hs.below hb
 refine ⟨_, rfl, fun a hk => ?_⟩
 refine q_v hk (w_as rfl) fun a hk => ?_
 refine c_end (x_t (wS (wR ?_)))
 refine q_v hk (w_mv rfl) fun a hk => ?_
 refine q_v hk (w_ne rfl rfl (decide_eq_false (by omega))) fun a hk => ?_
 refine c_end (x_t ?_)
 refine c_F hk rfl ?_
 refine (wpIn_skip (x_t ?_))
 refine wS (wS (wR ?_))
 refine q_v hk (w_mv rfl) fun a hk => ?_
 refine q_v hk (w_len rfl Tryz.underlying22) fun a hk => ?_
 refine q_v hk (w_mv rfl) fun a hk => ?_
 refine q_v hk (w_iaL (k := 0) rfl rfl Tryz.underlying22 ty53 ((share_lst hS).at_ hs) (by omega) (by omega)) fun a hk => ?_
 refine q_v hk (w_fa rfl fq53_1 ty3) fun a hk => ?_
 refine q_v hk (w_ld1 rfl ty3 (lstf (k := 0) (o := 1) (m := 1) ((share_lst hS).at_ hs) (by omega) (en_chunk shc_len (by omega)) rfl)) fun a hk => ?_
 refine q_v hk (w_le rfl rfl (decide_eq_false (by omega))) fun a hk => ?_
 refine c_end (x_t ?_)
 refine c_F hk rfl ?_
 refine (wpIn_skip (x_t ?_))
 refine wS (wR ?_)
 refine q_v hk (w_as rfl) fun a hk => ?_
 refine c_end (x_t (wS (wS (wR ?_))))
 refine q_v hk (w_mv rfl) fun a hk => ?_
 refine q_v hk (w_len rfl Tryz.underlying22) fun a hk => ?_
 refine q_v hk (w_mv rfl) fun a hk => ?_
 refine c_end (x_t ?_)
 refine wpIn_block ?_
 have hs := hs.row0 3 1
 have hs := hs.rw0 (show _ = row 3 1 (.slice none 0 0) 0 (el ic (susL s S m 0)) from rfl)
 refine c_loop (α := Nat) (fun k a w => ∃ (r : Res) (ao : Option Addr) (no : Nat) (co : Nat), (k ≤ m ∧ no ≤ k) ∧ TapeIs t (evs ++ upE 0 ((k : Nat) : Int) (susF m (thN S) (S 0).n)) r ∧ Kn [] 55 [(26, .int .i64 ((k : Nat) : Int)), (7, .slice ao no co), (25, .int .i64 ((m : Nat) : Int)), (5, .int .i64 0), (4, .slice none 0 0), (0, tval t), (1, .slice la m lc)] a ∧ Sat F0 W ((row 3 1 (.slice ao no co) no (el ic (susL s S m k))) :: r :: M) R w) (fun k => m - k) 0 ?_ ?_
 · exact ⟨_, _, _, _, ⟨by omega, by omega⟩, (by rw [upE_nil (by omega), List.append_nil]; exact hT), hk.k rfl (hk.k rfl (hk.k rfl (hk.k rfl (hk.k rfl (hk.k rfl (hk.k rfl hk.nil)))))), hs⟩
 rintro k a w ⟨r, ao, no, co, hf0, hf1, hk, hs⟩
 have hT := hf1
 have hlk := susK_len (m := m) (th := (thN S)) (n := (S 0).n) (k := k) hm8 hn9
 refine wS (wR ?_)
 rcases Classical.em (((k : Nat) : Int) < ((m : Nat) : Int)) with hc1 | hc1
 ·
  have hlt : k < m := by omega
  have hw0 := g.wo0 hlt hf
  have g' : Good s (wo S k) (k + (m - (k + 1))) := by rw [show k + (m - (k + 1)) = m - 1 by omega]; exact g.wo hlt hf
  have hO' : ShOk (wo S k) (k + (m - (k + 1))) := by rw [show k + (m - (k + 1)) = m - 1 by omega]; exact HO.wo hlt
  refine q_v hk (w_lt rfl rfl (decide_eq_true hc1)) fun a hk => ?_
  refine c_end (x_t (wS ?_))
  refine c_T hk rfl ?_
  refine (wpIn_skip (x_t ?_))
  refine wS ?_
  refine wpIn_block ?_
  refine wS (wR ?_)
  refine q_v hk (w_mv rfl) fun a hk => ?_
  refine q_v hk (w_as rfl) fun a hk => ?_
  refine c_end (x_t (wS (wR ?_)))
  refine q_v hk (w_mv rfl) fun a hk => ?_
  refine q_v hk (w_mv rfl) fun a hk => ?_
  have hs := hs.up1
  refine q_call (caps := []) hk rfl rfl Tryz.func61 fo61 rfl rfl (note_m t 5 ((k : Nat) : Int) 0 (evs ++ upE 0 ((k : Nat) : Int) (susF m (thN S) (S 0).n)) _ _ hT hs (by simp only [List.length_append]; omega)) ?_
  rintro _ w ⟨v2, r3, rfl, ht4, hs⟩
  have hT := ht4
  refine ⟨_, rfl, fun a hk => ?_⟩
  refine c_end (x_t (wS ?_))
  refine d_begin _ 10 (by kernel_rfl) rfl hs okL.nil fun w hs hL => ?_
  refine d_w 0 1 hk hL rfl (fun w hL => w_mv rfl) fun a hk => ?_
  refine d_w 1 3 hk hL rfl (fun w hL => w_mv rfl) fun a hk => ?_
  refine d_w 2 7 hk hL rfl (fun w hL => w_mv rfl) fun a hk => ?_
  refine d_w 3 15 hk hL rfl (fun w hL => w_slc_eq (w_slc3 (l := 0) (h := k) (m := k) rfl rfl rfl rfl Tryz.underlying22 ty53 rfl rfl rfl (by omega) (by omega) (by omega) (by omega) (by omega) (by omega)) sla_zero (Nat.sub_zero _) (Nat.sub_zero _)) fun a hk => ?_
  refine d_w 4 31 hk hL rfl (fun w hL => w_mv rfl) fun a hk => ?_
  refine d_w 5 63 hk hL rfl (fun w hL => w_mv rfl) fun a hk => ?_
  refine d_w 6 127 hk hL rfl (fun w hL => w_add rfl rfl (wr64 (by omega) (by omega))) fun a hk => ?_
  refine d_w 7 255 hk hL rfl (fun w hL => w_slc (l := ((((k : Nat) : Int) + 1)).toNat) (h := m) rfl rfl rfl Tryz.underlying22 ty53 rfl rfl (by omega) (by omega) (by omega) (by omega) (by omega)) fun a hk => ?_
  refine d_1 8 511 rfl (by kernel_rfl) fun K hK => ?_
  refine q_appF (xs := (en shc S k)) (ys := (en shc (fun j => S (k + 1 + j)) (m - (k + 1)))) hk hs (pre_share (hS) hlt) (post_share (hS) hlt hcap) rfl rfl Tryz.underlying22 ty53 zr53 rfl rfl (en_ones shc_ones) (en_ones shc_ones) (by omega) (by omega) rfl rfl fun a1_8 c1_8b w a hk hcap1_8c hs => ?_
  have hL : okL [] w := okL.nil
  refine c_end (x_t (hK _ _ hL ?_))
  clear hK K
  refine d_w 9 1023 hk hL rfl (fun w hL => w_as rfl) fun a hk => ?_
  refine d_end (by kernel_rfl) ?_
  refine (x_t ?_)
  refine wS (wR ?_)
  refine q_v hk (w_mv rfl) fun a hk => ?_
  refine q_v hk (w_mv rfl) fun a hk => ?_
  refine q_call (caps := []) hk rfl rfl Tryz.func62 fo62 rfl rfl (clip_c (k + (m - (((((k : Nat) : Int) + 1)).toNat))) c1_8b a1_8 _ (by omega)) ?_
  rintro _ w ⟨rfl, hb⟩
  have hs := hs.below hb
  refine ⟨_, rfl, fun a hk => ?_⟩
  refine q_call (caps := []) hk rfl rfl Tryz.func17 fo17 rfl rfl (cons_m s (k + (m - (k + 1))) (k + (m - (k + 1))) a1_8 (wo S k) t ((evs ++ upE 0 ((k : Nat) : Int) (susF m (thN S) (S 0).n)) ++ [(5, ((k : Nat) : Int), 0)]) _ _ hs (oth_share (HasR.nth 0 rfl) (hS.cons) hlt) (hG.cons) hO' g' (g'.err (by have := g'.tm; omega)) (by omega) (by rw [hw0.1]; exact hn9) hT (by simp only [List.length_append, List.length_singleton]; omega)) ?_
  rintro _ w ⟨r5, he, hT, hs⟩
  obtain ⟨cb, hcb⟩ : ∃ cb, conB s (wo S k) (k + (m - (k + 1))) = cb := ⟨_, rfl⟩
  rw [hcb] at he
  subst he
  rw [hw0.1, hw0.2, show (k + (m - (k + 1))) = m - 1 by omega] at hT
  have hT : TapeIs t (((evs ++ upE 0 ((k : Nat) : Int) (susF m (thN S) (S 0).n)) ++ [(5, ((k : Nat) : Int), 0)]) ++ consE m (thN S) (S 0).n) r5 := hT
  have hs := hs.subR (R' := R) (by simp +contextual)
  refine ⟨_, rfl, fun a hk => ?_⟩
  refine q_v hk (w_mv rfl) fun a hk => ?_
  refine q_v hk (w_ext rfl rfl) fun a hk => ?_
  refine q_v hk (w_ext rfl rfl) fun a hk => ?_
  refine q_v hk (w_as rfl) fun a hk => ?_
  refine q_v hk (w_as rfl) fun a hk => ?_
  refine c_end (x_t (wS (wR ?_)))
  refine q_v hk (w_mv rfl) fun a hk => ?_
  refine c_end (x_t ?_)
  rcases cb with _ | _
  ·
   refine c_F hk rfl ?_
   refine (wpIn_skip (x_b (x_t ?_)))
   refine wR ?_
   refine q_v hk (w_add rfl rfl (wr64 (by omega) (by omega))) fun a hk => ?_
   refine q_v hk (w_mv rfl) fun a hk => ?_
   refine c_end (x_t ?_)
   rw [sus_next] at hT
   have hs := hs.up1
   have hs := hs.rw0 (congrArg (fun q => row 3 1 (.slice ao no co) no (el ic q)) (show _ = susL s S m (k + 1) from (if_neg (by rw [hcb]; exact Bool.false_ne_true)).symm))
   exact ⟨k + 1, ⟨_, _, _, _, ⟨by omega, by omega⟩, hT, hk.k rfl (hk.k rfl (hk.k rfl (hk.k rfl (hk.k rfl (hk.k rfl (hk.k rfl hk.nil)))))), hs⟩, by omega⟩
  ·
   refine c_T hk rfl ?_
   refine wR ?_
   refine q_v hk (w_mv rfl) fun a hk => ?_
   refine q_v hk (w_mv rfl) fun a hk => ?_
   refine q_bsl (els := [.tmp 50]) (cs := [.int .i64 ((k : Nat) : Int)]) hk hs rfl Tryz.underlying34 ty3 zr3 rfl rfl rfl rfl rfl rfl rfl fun b6 w a hk hs => ?_
   have hs := hs.up2
   refine q_app (news := [.int .i64 ((k : Nat) : Int)]) (m := 1) hk hs rfl rfl Tryz.underlying34 ty3 zr3 rfl rfl (.blk (n := 1) (hs.mi 1 rfl) rfl) rfl rfl (by omega) (by omega) rfl rfl fun a7 c8 w a hk hs => ?_
   have hs := hs.up1
   have hs := hs.drop
   refine q_v hk (w_as rfl) fun a hk => ?_
   refine (c_end (x_b (x_t ?_)))
   refine wR ?_
   refine q_v hk (w_add rfl rfl (wr64 (by omega) (by omega))) fun a hk => ?_
   refine q_v hk (w_mv rfl) fun a hk => ?_
   refine c_end (x_t ?_)
   rw [sus_next] at hT
   have hs := hs.rw0 (congrArg _ el_snoc)
   have hs := hs.rw0 (congrArg (fun q => row 3 1 (.slice a7 (no + 1) c8) (no + 1) (el ic q)) (show _ = susL s S m (k + 1) from (if_pos hcb).symm))
   exact ⟨k + 1, ⟨_, _, _, _, ⟨by omega, by omega⟩, hT, hk.k rfl (hk.k rfl (hk.k rfl (hk.k rfl (hk.k rfl (hk.k rfl (hk.k rfl hk.nil)))))), hs⟩, by omega⟩
 ·
  refine q_v hk (w_lt rfl rfl (decide_eq_false hc1)) fun a hk => ?_
  refine c_end (x_t (wS ?_))
  refine c_F hk rfl ?_
  refine (wpIn_exit (x_te (x_te (x_be ?_))))
  refine (x_t ?_)
  refine wS (wR ?_)
  refine q_v hk (w_mv rfl) fun a hk => ?_
  refine q_v hk (w_as rfl) fun a hk => ?_
  refine q_v hk (w_as rfl) fun a hk => ?_
  refine c_end (x_t ?_)
  refine (wpIn_ret ?_)
  refine c_ret2 hk rfl rfl rfl ?_
  have hs := hs.up1
  have hkm : k = m := by omega
  rw [hkm] at hs hT
  exact ⟨_, _, _, _, rfl, hT, hs⟩
end Go.Proofs.YtdnkkbmpefhbjaaGreatDoor
namespace Go.Proofs.YtdnkkbmpefhbjaaGreatDoor
set_option linter.all false
open Go Go.RowKit Alg
end Go.Proofs.YtdnkkbmpefhbjaaGreatDoor
namespace Go.Proofs.YtdnkkbmpefhbjaaGreatDoor
set_option linter.all false
open Go Go.RowKit Alg
/-- a ^ (e / 2^(256-j)) modulo p, by squaring. -/
def fpw (p a e : Nat) : Nat → Nat
  | 0 => 1
  | j + 1 => (fpw p a e j) ^ 2 * a ^ (e / 2 ^ (255 - j) % 2) % p
theorem fpw_val {s : Bool} (x : Zp s) (e : Nat) (he : e < R4) : ∀ j, j ≤ 256 → fpw (pr s) x.val e j = (pw x (e / 2 ^ (256 - j))).val
  | 0, _ => by
    rw [show e / 2 ^ (256 - 0) = 0 from Nat.div_eq_of_lt he]
    exact one_val.symm
  | j + 1, hj => by
    have ih := fpw_val x e he j (by omega)
    show (fpw (pr s) x.val e j) ^ 2 * x.val ^ (e / 2 ^ (255 - j) % 2) % pr s = _
    rw [ih, show 256 - (j + 1) = 255 - j by omega]
    have e1 : e / 2 ^ (256 - j) = e / 2 ^ (255 - j) / 2 := by rw [show 256 - j = (255 - j) + 1 by omega, Nat.pow_succ, Nat.div_div_eq_div_mul]
    rw [e1]
    generalize e / 2 ^ (255 - j) = q
    rcases Nat.mod_two_eq_zero_or_one q with h | h
    · obtain ⟨m, rfl⟩ : ∃ m, q = 2 * m := ⟨q / 2, by omega⟩
      rw [h, show 2 * m / 2 = m by omega, Nat.pow_zero, Nat.mul_one, pw_sq, pw_prod, Nat.pow_two]
      exact (Fin.val_mul _ _).symm
    · obtain ⟨m, rfl⟩ : ∃ m, q = 2 * m + 1 := ⟨q / 2, by omega⟩
      rw [h, show (2 * m + 1) / 2 = m by omega, Nat.pow_one, Nat.pow_two]
      have e2 : pw x (2 * m + 1) = pw x m * pw x m * x := by show pw x (2 * m) * x = _; rw [pw_sq, pw_prod]
      rw [e2, Fin.val_mul, Fin.val_mul, Nat.mod_mul_mod]
theorem fm_all : (List.range 254).all (fun d => fpw (pr false) (d + 1) (pr false - 1) 256 == 1 && fpw (pr true) (d + 1) (pr true - 1) 256 == 1) = true := by decide +kernel
theorem pr_1000 (s : Bool) : 1000 < pr s := by cases s <;> decide
theorem fm_small {s : Bool} {d : Nat} (h1 : 1 ≤ d) (h2 : d ≤ 254) : Fm (zn s d) := by
  have h := List.all_eq_true.1 fm_all (d - 1) (List.mem_range.2 (by omega))
  rw [show d - 1 + 1 = d by omega, Bool.and_eq_true, beq_iff_eq, beq_iff_eq] at h
  have hp := pr_1000 s
  have hv : (zn s d).val = d := Nat.mod_eq_of_lt (by omega)
  have hr := pr_lt s
  have e := fpw_val (zn s d) (pr s - 1) (by omega) 256 (Nat.le_refl _)
  rw [hv, Nat.sub_self, Nat.pow_zero, Nat.div_one] at e
  have e1 : fpw (pr s) d (pr s - 1) 256 = 1 := by cases s; exact h.1; exact h.2
  rw [e1] at e
  exact Fin.ext (e.symm.trans one_val.symm)
theorem zn_sub {s : Bool} {a b : Nat} (h : b ≤ a) : zn s a - zn s b = zn s (a - b) := by
  have e : zn s a = zn s (a - b) + zn s b := by
    unfold zn
    apply Fin.ext
    rw [Fin.val_add]
    simp only [Fin.val_ofNat]
    rw [← Nat.add_mod, Nat.sub_add_cancel h]
  rw [e]
  grind
theorem pt_fm {s : Bool} {a b : Nat} (h : a ≠ b) (ha1 : 1 ≤ a) (ha2 : a ≤ 255) (hb1 : 1 ≤ b) (hb2 : b ≤ 255) : Fm (zn s a - zn s b) := by
  by_cases l : b ≤ a
  · rw [zn_sub l]; exact fm_small (by omega) (by omega)
  · rw [show zn s a - zn s b = 0 - (zn s b - zn s a) by grind, zn_sub (by omega)]
    exact (fm_small (by omega) (by omega)).neg
section
variable {s : Bool} {S : Nat → Shr} {m : Nat} (g : Good s S m)
include g
theorem Good.fap : Fap (pt s (vI S)) m := fun i k hi hk h => by
  have a1 := g.v_le i hi
  have a2 := g.v_le k hk
  refine pt_fm ?_ a1.1 a1.2 a2.1 a2.2
  rcases Nat.lt_or_gt_of_ne h with l | l
  · exact g.v_ne i k l hk
  · exact (g.v_ne k i l hi).symm
end
end Go.Proofs.YtdnkkbmpefhbjaaGreatDoor
namespace Go.Proofs.YtdnkkbmpefhbjaaGreatDoor
set_option linter.all false
open Go Go.RowKit Alg
section
variable {P : Program} {G : List (Nat × Value)} {w : World} {d : Option Nat} {T : Nat} {p : String} {e : Array Edge} {g : Option (Nat × Bool)} {x y : Operand} {tx ty : TypeId} {a b t : Bool}
theorem w_bne (hx : evq G x = some (.bool a)) (hy : evq G y = some (.bool b)) (ht : P.underlying tx = some .bool) (hr : (a != b) = t) : Wq P G ⟨d, .binOp .neq tx x y ty, T, p, e, g⟩ (.bool t) w w := .of2 hx hy fun ev h1 h2 => by
  have hr' : (!(a == b)) = t := hr
  simp [execOp, h1, h2, binOp, eqGuard, run_equal_bool w tx a b ht, hr', Sem.run_pure, go_sem]
end
/-- What Large says. -/
def lrg (S : Nat → Shr) (m : Nat) : Int := if 12 < m then 1 else if allB (fun q => decide ((S q).n ≤ 4)) m = true then 0 else 1
theorem lrg_le {S : Nat → Shr} {m : Nat} (h : ¬ 0 < lrg S m) : m ≤ 12 ∧ ∀ k, k < m → (S k).n ≤ 4 := by
  unfold lrg at h
  by_cases h1 : 12 < m
  · rw [if_pos h1] at h; exact absurd (by decide) h
  · rw [if_neg h1] at h
    by_cases h2 : allB (fun q => decide ((S q).n ≤ 4)) m = true
    · exact ⟨by omega, fun k hk => of_decide_eq_true ((allB_iff _ m).1 h2 k hk)⟩
    · rw [if_neg h2] at h; exact absurd (by decide) h
theorem shok_of {S : Nat → Shr} {m : Nat} (h : m ≤ 12 ∧ ∀ k, k < m → (S k).n ≤ 4) (hx : ∀ k, k < m → ∀ i, i < (S k).n → (S k).X i < R4) : ShOk S m := ⟨by omega, fun k hk => by have := h.2 k hk; omega, hx⟩
theorem laidR_ok {w : World} (h : Laid w) : laidR.ok w := h
section
variable {la : Option Addr} {m lc : Nat} {S : Nat → Shr} {w : World}
theorem sat_in (HS : (shareR la m lc S).ok w) (HL : Laid w) : Sat no w [] [shareR la m lc S, laidR] w := Sat.start w _ (fun r hr => by
  simp only [List.mem_cons, List.not_mem_nil, or_false] at hr
  rcases hr with rfl | rfl
  · exact HS
  · exact HL)
theorem hr0 : HasR (shareR la m lc S) [shareR la m lc S, laidR] := .head
theorem hr1 : HasR laidR [shareR la m lc S, laidR] := HasR.nth 1 rfl
theorem sat_out {M : List Res} {w' : World} (hs : Sat no w (nores :: M) [shareR la m lc S, laidR] w') : Sat no w M [] w' := hs.drop.fin
variable (HS : (shareR la m lc S).ok w) (HL : Laid w) (HO : ShOk S m)
include HS HL HO
variable {s : Bool} (g : Good s S m) (hz : csErr S m = 0) (hm : m ≤ 255) (hn9 : (S 0).n ≤ 4)
include g hz hm hn9
theorem consN : Calls Tryz.prog 17 #[.pointer none, .slice la m lc] w fun e w' => e = .returned (.tuple #[.bool (conB s S m), .int .i64 0]) ∧ Below w.heap.size w w' :=
  (cons_m s m lc la S none [] nores w (sat_in HS HL).none hr0 hr1 HO g hz hm hn9 rfl (by decide)).mono fun _ _ h => by
    obtain ⟨r, h1, h2, h3⟩ := h
    obtain rfl := h2
    exact ⟨h1, (sat_out h3).toBelow⟩
theorem achN : Calls Tryz.prog 20 #[.pointer none, .slice la m lc] w fun e w' => ∃ b, e = .returned (.tuple #[.slice (some ⟨b, 0, none⟩) (S 0).n (S 0).n, .int .i64 0]) ∧ Sat no w [blk b (en boc (fitB s S m) (S 0).n) 4] [] w' :=
  (achunks_m s m lc la S none [] nores w (sat_in HS HL).none hr0 hr1 HO g hz hm hn9 rfl (by decide)).mono fun _ _ h => by
    obtain ⟨r, b, h1, h2, h3⟩ := h
    obtain rfl := h2
    exact ⟨b, h1, sat_out h3⟩
end
section
variable {la : Option Addr} {m lc : Nat} {S : Nat → Shr} {w : World} (HS : (shareR la m lc S).ok w) (HL : Laid w) (HO : ShOk S m) {s : Bool} (g : Good s S m) (hz : csErr S m = 0) (hm : m ≤ 8) (hn9 : (S 0).n ≤ 4)
include HS HL HO g hz hm hn9
theorem susN (hf : (S 0).T < ((m : Nat) : Int)) : Calls Tryz.prog 23 #[.pointer none, .slice la m lc] w fun e w' => ∃ a n c, e = .returned (.tuple #[.slice a n c, .int .i64 0]) ∧ Sat no w [row 3 1 (.slice a n c) n (el ic (susL s S m m))] [] w' :=
  (sus_m s m lc la S none [] nores w (sat_in HS HL).none hr0 hr1 HO g hz hm hn9 hf rfl (by decide)).mono fun _ _ h => by
    obtain ⟨r, a, n, c, h1, h2, h3⟩ := h
    obtain rfl := h2
    exact ⟨a, n, c, h1, sat_out h3⟩
end
theorem large_c (m lc : Nat) (la : Option Addr) (S : Nat → Shr) (W : World) (HS : (shareR la m lc S).ok W) : Calls Tryz.prog 15 [.slice la m lc].toArray W fun e w => e = .returned (.int .i64 (lrg S m)) ∧ Below W.heap.size W w := by
 refine c_enter (args := [.slice la m lc]) Tryz.func15 rfl rfl rfl fun a hk => ?_
 have hs := Sat.start W [shareR la m lc S] (okr1 HS)
 refine wS (wR ?_)
 refine q_v hk (w_as rfl) fun a hk => ?_
 refine c_end (x_t (wS (wS (wR ?_))))
 refine q_v hk (w_mv rfl) fun a hk => ?_
 refine q_v hk (w_len rfl Tryz.underlying22) fun a hk => ?_
 rcases Classical.em (12 < ((m : Nat) : Int)) with hc1 | hc1
 ·
  refine q_v hk (w_gt rfl rfl (decide_eq_true hc1)) fun a hk => ?_
  refine c_end (x_t ?_)
  refine c_T hk rfl ?_
  refine wS (wR ?_)
  refine q_v hk (w_as rfl) fun a hk => ?_
  refine c_end (x_t ?_)
  refine (wpIn_ret (x_tr ?_))
  refine c_ret1 hk rfl rfl ?_
  first | exact ⟨by unfold lrg; rw [if_pos (by omega)], hs.toBelow⟩ | exact ⟨by unfold lrg; rw [if_neg (by omega), if_neg (by rw [allB_F (f := fun q => decide ((S q).n ≤ 4)) (k := k) (decide_eq_false (by omega)) (by omega)]; exact Bool.false_ne_true)], hs.toBelow⟩
 ·
  refine q_v hk (w_gt rfl rfl (decide_eq_false hc1)) fun a hk => ?_
  refine c_end (x_t ?_)
  refine c_F hk rfl ?_
  refine (wpIn_skip (x_t ?_))
  refine wS (wS (wR ?_))
  refine q_v hk (w_mv rfl) fun a hk => ?_
  refine q_v hk (w_len rfl Tryz.underlying22) fun a hk => ?_
  refine q_v hk (w_mv rfl) fun a hk => ?_
  refine c_end (x_t ?_)
  refine wpIn_block ?_
  refine c_loop (α := Nat) (fun k a w => k ≤ m ∧ allB (fun q => decide ((S q).n ≤ 4)) k = true ∧ Kn [] 19 [(10, .int .i64 ((k : Nat) : Int)), (9, .int .i64 ((m : Nat) : Int)), (8, .slice la m lc)] a ∧ Sat no W [] [shareR la m lc S] w) (fun k => m - k) 0 ?_ ?_
  · exact ⟨(by omega), rfl, hk.k rfl (hk.k rfl (hk.k rfl hk.nil)), hs⟩
  rintro k a w ⟨hf0, hf1, hk, hs⟩
  refine wS (wR ?_)
  rcases Classical.em (((k : Nat) : Int) < ((m : Nat) : Int)) with hc2 | hc2
  ·
   refine q_v hk (w_lt rfl rfl (decide_eq_true hc2)) fun a hk => ?_
   refine c_end (x_t (wS ?_))
   refine c_T hk rfl ?_
   refine (wpIn_skip (x_t ?_))
   refine wS ?_
   refine wpIn_block ?_
   refine wS (wR ?_)
   refine q_v hk (w_iaL (k := k) rfl rfl Tryz.underlying22 ty53 ((share_lst (HasR.nth 0 rfl : HasR (shareR la m lc S) _)).at_ hs) (by omega) (by omega)) fun a hk => ?_
   refine q_v hk (w_ldA rfl ty53 (lstq (k := k) ((share_lst (HasR.nth 0 rfl : HasR (shareR la m lc S) _)).at_ hs) (by omega) (en_chunk shc_len (by omega))) rfl) fun a hk => ?_
   refine q_alc (vs := [.int .i64 0, .int .i64 0, .int .i64 0, .int .i64 0, .slice none 0 0]) hk hs zr53 rfl rfl rfl fun b3 w a hk hs => ?_
   refine q_sto (o := 0) (cs := [.int .i64 ((S k).F), .int .i64 ((S k).T), .int .i64 ((S k).I), .int .i64 ((S k).L), .slice ((S k).a) ((S k).n) ((S k).c)]) (vs' := [.int .i64 ((S k).F), .int .i64 ((S k).T), .int .i64 ((S k).I), .int .i64 ((S k).L), .slice ((S k).a) ((S k).n) ((S k).c)]) hk hs rfl rfl rfl ty53 rfl rfl rfl rfl rfl rfl fun w hs => ?_
   refine c_end (x_t (wS (wR ?_)))
   refine q_v hk (w_fa rfl fq53_4 ty51) fun a hk => ?_
   refine q_v hk (w_ld1 rfl ty51 (.blk (n := 1) (hs.mi 0 rfl) rfl)) fun a hk => ?_
   refine q_v hk (w_len rfl Tryz.underlying51) fun a hk => ?_
   rcases Classical.em (4 < (((S k).n : Nat) : Int)) with hc4 | hc4
   ·
    refine q_v hk (w_gt rfl rfl (decide_eq_true hc4)) fun a hk => ?_
    refine c_end (x_t ?_)
    refine c_T hk rfl ?_
    refine wS (wR ?_)
    refine q_v hk (w_as rfl) fun a hk => ?_
    refine c_end (x_t ?_)
    refine (wpIn_ret (x_br (x_tr (x_tr (x_br (x_tr ?_))))))
    refine c_ret1 hk rfl rfl ?_
    first | exact ⟨by unfold lrg; rw [if_pos (by omega)], hs.toBelow⟩ | exact ⟨by unfold lrg; rw [if_neg (by omega), if_neg (by rw [allB_F (f := fun q => decide ((S q).n ≤ 4)) (k := k) (decide_eq_false (by omega)) (by omega)]; exact Bool.false_ne_true)], hs.toBelow⟩
   ·
    have hnx : allB (fun q => decide ((S q).n ≤ 4)) (k + 1) = true := by simp only [allB, hf1, decide_eq_true_eq, Bool.true_and]; omega
    refine q_v hk (w_gt rfl rfl (decide_eq_false hc4)) fun a hk => ?_
    refine c_end (x_t ?_)
    refine c_F hk rfl ?_
    refine (wpIn_skip (x_b (x_t ?_)))
    refine wR ?_
    refine q_v hk (w_add rfl rfl (wr64 (by omega) (by omega))) fun a hk => ?_
    refine q_v hk (w_mv rfl) fun a hk => ?_
    refine c_end (x_t ?_)
    have hs := hs.drop
    exact ⟨k + 1, ⟨(by omega), hnx, hk.k rfl (hk.k rfl (hk.k rfl hk.nil)), hs⟩, by omega⟩
  ·
   refine q_v hk (w_lt rfl rfl (decide_eq_false hc2)) fun a hk => ?_
   refine c_end (x_t (wS ?_))
   refine c_F hk rfl ?_
   refine (wpIn_exit (x_te (x_te (x_be ?_))))
   refine (x_t ?_)
   refine wS (wR ?_)
   refine q_v hk (w_as rfl) fun a hk => ?_
   refine c_end (x_t ?_)
   refine (wpIn_ret ?_)
   refine c_ret1 hk rfl rfl ?_
   exact ⟨by unfold lrg; rw [if_neg (by omega), if_pos (by rw [show m = k by omega]; exact hf1)], hs.toBelow⟩
theorem eqB_c (n lc yc : Nat) (la ya : Option Addr) (f : Nat → Bool) (W : World) (HX : LstAt W 1 (.slice la n lc) n (en boc f n)) (HY : LstAt W 1 (.slice ya n yc) n (en boc f n)) (hn : n ≤ 1000000) : Calls Tryz.prog 21 [.slice la n lc, .slice ya n yc].toArray W fun e w => e = .returned (.bool true) ∧ Below W.heap.size W w := by
 refine c_enter (args := [.slice la n lc, .slice ya n yc]) Tryz.func21 rfl rfl rfl fun a hk => ?_
 have hs := Sat.start W [lst 1 (.slice la n lc) n (en boc (fun i => f i) n), lst 1 (.slice ya n yc) n (en boc (fun i => f i) n)] (okrc HX (okr1 HY))
 refine wS (wR ?_)
 refine q_v hk (w_as rfl) fun a hk => ?_
 refine c_end (x_t (wS (wS (wR ?_))))
 refine q_v hk (w_mv rfl) fun a hk => ?_
 refine q_v hk (w_len rfl Tryz.underlying29) fun a hk => ?_
 refine q_v hk (w_mv rfl) fun a hk => ?_
 refine q_v hk (w_len rfl Tryz.underlying29) fun a hk => ?_
 refine q_v hk (w_ne rfl rfl (decide_eq_false (by omega))) fun a hk => ?_
 refine c_end (x_t ?_)
 refine c_F hk rfl ?_
 refine (wpIn_skip (x_t ?_))
 refine wS (wS (wR ?_))
 refine q_v hk (w_mv rfl) fun a hk => ?_
 refine q_v hk (w_len rfl Tryz.underlying29) fun a hk => ?_
 refine q_v hk (w_mv rfl) fun a hk => ?_
 refine c_end (x_t ?_)
 refine wpIn_block ?_
 refine c_loop (α := Nat) (fun k a w => k ≤ n ∧ Kn [] 26 [(13, .int .i64 ((k : Nat) : Int)), (12, .int .i64 ((n : Nat) : Int)), (0, .slice la n lc), (1, .slice ya n yc)] a ∧ Sat no W [] [lst 1 (.slice la n lc) n (en boc (fun i => f i) n), lst 1 (.slice ya n yc) n (en boc (fun i => f i) n)] w) (fun k => n - k) 0 ?_ ?_
 · exact ⟨(by omega), hk.k rfl (hk.k rfl (hk.k rfl (hk.k rfl hk.nil))), hs⟩
 rintro k a w ⟨hf0, hk, hs⟩
 refine wS (wR ?_)
 rcases Classical.em (((k : Nat) : Int) < ((n : Nat) : Int)) with hc1 | hc1
 ·
  refine q_v hk (w_lt rfl rfl (decide_eq_true hc1)) fun a hk => ?_
  refine c_end (x_t (wS ?_))
  refine c_T hk rfl ?_
  refine (wpIn_skip (x_t ?_))
  refine wS ?_
  refine wpIn_block ?_
  refine wS (wR ?_)
  refine q_v hk (w_mv rfl) fun a hk => ?_
  refine q_v hk (w_as rfl) fun a hk => ?_
  refine c_end (x_t (wS ?_))
  have hL := okL.cons (hs.ri 0 rfl) (okL.cons (hs.ri 1 rfl) okL.nil)
  refine d_begin _ 9 (by kernel_rfl) rfl hs hL fun w hs hL => ?_
  refine d_w 0 1 hk hL rfl (fun w hL => w_mv rfl) fun a hk => ?_
  refine d_w 1 3 hk hL rfl (fun w hL => w_mv rfl) fun a hk => ?_
  refine d_w 2 7 hk hL rfl (fun w hL => w_iaL (k := k) rfl rfl Tryz.underlying29 ty4 (hL.at 0 rfl) (by omega) (by omega)) fun a hk => ?_
  refine d_w 3 15 hk hL rfl (fun w hL => w_ld1 rfl ty4 (lstq (k := k) (hL.at 0 rfl) (by omega) (en_chunk boc_len (by omega)))) fun a hk => ?_
  refine d_w 4 31 hk hL rfl (fun w hL => w_mv rfl) fun a hk => ?_
  refine d_w 5 63 hk hL rfl (fun w hL => w_mv rfl) fun a hk => ?_
  refine d_w 6 127 hk hL rfl (fun w hL => w_iaL (k := k) rfl rfl Tryz.underlying29 ty4 (hL.at 1 rfl) (by omega) (by omega)) fun a hk => ?_
  refine d_w 7 255 hk hL rfl (fun w hL => w_ld1 rfl ty4 (lstq (k := k) (hL.at 1 rfl) (by omega) (en_chunk boc_len (by omega)))) fun a hk => ?_
  refine d_w 8 511 hk hL rfl (fun w hL => w_bne (t := false) rfl rfl Tryz.underlying4 (by simp)) fun a hk => ?_
  refine d_end (by kernel_rfl) ?_
  refine (x_t ?_)
  refine c_F hk rfl ?_
  refine (wpIn_skip (x_b (x_t ?_)))
  refine wR ?_
  refine q_v hk (w_add rfl rfl (wr64 (by omega) (by omega))) fun a hk => ?_
  refine q_v hk (w_mv rfl) fun a hk => ?_
  refine c_end (x_t ?_)
  exact ⟨k + 1, ⟨(by omega), hk.k rfl (hk.k rfl (hk.k rfl (hk.k rfl hk.nil))), hs⟩, by omega⟩
 ·
  refine q_v hk (w_lt rfl rfl (decide_eq_false hc1)) fun a hk => ?_
  refine c_end (x_t (wS ?_))
  refine c_F hk rfl ?_
  refine (wpIn_exit (x_te (x_te (x_be ?_))))
  refine (x_t ?_)
  refine wS (wR ?_)
  refine q_v hk (w_as rfl) fun a hk => ?_
  refine c_end (x_t ?_)
  refine (wpIn_ret ?_)
  refine c_ret1 hk rfl rfl ?_
  exact ⟨rfl, hs.toBelow⟩
theorem eqI_c (n lc yc : Nat) (la ya : Option Addr) (f : Nat → Int) (W : World) (HX : LstAt W 1 (.slice la n lc) n (en ic f n)) (HY : LstAt W 1 (.slice ya n yc) n (en ic f n)) (hn : n ≤ 1000000) : Calls Tryz.prog 25 [.slice la n lc, .slice ya n yc].toArray W fun e w => e = .returned (.bool true) ∧ Below W.heap.size W w := by
 refine c_enter (args := [.slice la n lc, .slice ya n yc]) Tryz.func25 rfl rfl rfl fun a hk => ?_
 have hs := Sat.start W [lst 1 (.slice la n lc) n (en ic (fun i => f i) n), lst 1 (.slice ya n yc) n (en ic (fun i => f i) n)] (okrc HX (okr1 HY))
 refine wS (wR ?_)
 refine q_v hk (w_as rfl) fun a hk => ?_
 refine c_end (x_t (wS (wS (wR ?_))))
 refine q_v hk (w_mv rfl) fun a hk => ?_
 refine q_v hk (w_len rfl Tryz.underlying34) fun a hk => ?_
 refine q_v hk (w_mv rfl) fun a hk => ?_
 refine q_v hk (w_len rfl Tryz.underlying34) fun a hk => ?_
 refine q_v hk (w_ne rfl rfl (decide_eq_false (by omega))) fun a hk => ?_
 refine c_end (x_t ?_)
 refine c_F hk rfl ?_
 refine (wpIn_skip (x_t ?_))
 refine wS (wS (wR ?_))
 refine q_v hk (w_mv rfl) fun a hk => ?_
 refine q_v hk (w_len rfl Tryz.underlying34) fun a hk => ?_
 refine q_v hk (w_mv rfl) fun a hk => ?_
 refine c_end (x_t ?_)
 refine wpIn_block ?_
 refine c_loop (α := Nat) (fun k a w => k ≤ n ∧ Kn [] 26 [(13, .int .i64 ((k : Nat) : Int)), (12, .int .i64 ((n : Nat) : Int)), (0, .slice la n lc), (1, .slice ya n yc)] a ∧ Sat no W [] [lst 1 (.slice la n lc) n (en ic (fun i => f i) n), lst 1 (.slice ya n yc) n (en ic (fun i => f i) n)] w) (fun k => n - k) 0 ?_ ?_
 · exact ⟨(by omega), hk.k rfl (hk.k rfl (hk.k rfl (hk.k rfl hk.nil))), hs⟩
 rintro k a w ⟨hf0, hk, hs⟩
 refine wS (wR ?_)
 rcases Classical.em (((k : Nat) : Int) < ((n : Nat) : Int)) with hc1 | hc1
 ·
  refine q_v hk (w_lt rfl rfl (decide_eq_true hc1)) fun a hk => ?_
  refine c_end (x_t (wS ?_))
  refine c_T hk rfl ?_
  refine (wpIn_skip (x_t ?_))
  refine wS ?_
  refine wpIn_block ?_
  refine wS (wR ?_)
  refine q_v hk (w_mv rfl) fun a hk => ?_
  refine q_v hk (w_as rfl) fun a hk => ?_
  refine c_end (x_t (wS ?_))
  have hL := okL.cons (hs.ri 0 rfl) (okL.cons (hs.ri 1 rfl) okL.nil)
  refine d_begin _ 9 (by kernel_rfl) rfl hs hL fun w hs hL => ?_
  refine d_w 0 1 hk hL rfl (fun w hL => w_mv rfl) fun a hk => ?_
  refine d_w 1 3 hk hL rfl (fun w hL => w_mv rfl) fun a hk => ?_
  refine d_w 2 7 hk hL rfl (fun w hL => w_iaL (k := k) rfl rfl Tryz.underlying34 ty3 (hL.at 0 rfl) (by omega) (by omega)) fun a hk => ?_
  refine d_w 3 15 hk hL rfl (fun w hL => w_ld1 rfl ty3 (lstq (k := k) (hL.at 0 rfl) (by omega) (en_chunk ic_len (by omega)))) fun a hk => ?_
  refine d_w 4 31 hk hL rfl (fun w hL => w_mv rfl) fun a hk => ?_
  refine d_w 5 63 hk hL rfl (fun w hL => w_mv rfl) fun a hk => ?_
  refine d_w 6 127 hk hL rfl (fun w hL => w_iaL (k := k) rfl rfl Tryz.underlying34 ty3 (hL.at 1 rfl) (by omega) (by omega)) fun a hk => ?_
  refine d_w 7 255 hk hL rfl (fun w hL => w_ld1 rfl ty3 (lstq (k := k) (hL.at 1 rfl) (by omega) (en_chunk ic_len (by omega)))) fun a hk => ?_
  refine d_w 8 511 hk hL rfl (fun w hL => w_ne (t := false) rfl rfl (by simp)) fun a hk => ?_
  refine d_end (by kernel_rfl) ?_
  refine (x_t ?_)
  refine c_F hk rfl ?_
  refine (wpIn_skip (x_b (x_t ?_)))
  refine wR ?_
  refine q_v hk (w_add rfl rfl (wr64 (by omega) (by omega))) fun a hk => ?_
  refine q_v hk (w_mv rfl) fun a hk => ?_
  refine c_end (x_t ?_)
  exact ⟨k + 1, ⟨(by omega), hk.k rfl (hk.k rfl (hk.k rfl (hk.k rfl hk.nil))), hs⟩, by omega⟩
 ·
  refine q_v hk (w_lt rfl rfl (decide_eq_false hc1)) fun a hk => ?_
  refine c_end (x_t (wS ?_))
  refine c_F hk rfl ?_
  refine (wpIn_exit (x_te (x_te (x_be ?_))))
  refine (x_t ?_)
  refine wS (wR ?_)
  refine q_v hk (w_as rfl) fun a hk => ?_
  refine c_end (x_t ?_)
  refine (wpIn_ret ?_)
  refine c_ret1 hk rfl rfl ?_
  exact ⟨rfl, hs.toBelow⟩
end Go.Proofs.YtdnkkbmpefhbjaaGreatDoor
namespace Go.Proofs.YtdnkkbmpefhbjaaGreatDoor
set_option linter.all false
open Go Go.RowKit Alg
theorem zn_lit {v : Nat} (hv : v < 1000) : zv (zn false v) = v := Nat.mod_eq_of_lt (Nat.lt_trans hv (pr_1000 false))
theorem rform_s (v : Nat) (hv : v < 1000) (w : World) : Calls Tryz.prog 43 #[vec (pr false), vec v] w fun e w' => e = .returned (vec (mq (zn false v))) ∧ Below w.heap.size w w' := by
  exact rform_z w (zn_lit hv).symm
def pk3 {α : Type} (y0 y1 y2 : α) (i : Nat) : α := if i = 0 then y0 else if i = 1 then y1 else y2
/-- Three shares of the examples. -/
def sh3 (y0 y1 y2 a0 a1 a2 : Nat) (i : Nat) : Shr := ⟨1, 2, (i : Int) + 1, 1, 1, fun _ => mq (zn false (pk3 y0 y1 y2 i)), some ⟨pk3 a0 a1 a2 i, 0, none⟩, 1⟩
section
variable {y0 y1 y2 a0 a1 a2 : Nat}
theorem sh3_good : Good false (sh3 y0 y1 y2 a0 a1 a2) 3 where
  m0 := by decide
  F _ _ := rfl
  T _ _ := rfl
  Lq _ _ := rfl
  n _ _ := rfl
  idx i hi := by show 1 ≤ (i : Int) + 1 ∧ (i : Int) + 1 ≤ 255; omega
  app i k h _ := by show (i : Int) + 1 ≠ (k : Int) + 1; omega
  X _ _ _ _ := mq_lt _
  t1 := by show (1 : Int) ≤ 2; decide
  tm := by show (2 : Int) ≤ 3; decide
  l0 := by show (0 : Int) ≤ 1; decide
  l1 := by show (1 : Int) ≤ 65535; decide
  cn := by show 1 = cn 1; decide
theorem sh3_err : csErr (sh3 y0 y1 y2 a0 a1 a2) 3 = 0 := sh3_good.err (by show (2 : Int) ≤ 255; decide)
theorem sh3_ok : ShOk (sh3 y0 y1 y2 a0 a1 a2) 3 := ⟨by decide, fun _ _ => by show (1 : Nat) ≤ 100000000; decide, fun _ _ _ _ => mq_lt4 _⟩
theorem sh3_clz (ch i : Nat) : clz false (sh3 y0 y1 y2 a0 a1 a2) ch i = zn false (pk3 y0 y1 y2 i) := mz_of _
theorem sh3_pt (i : Nat) : pt false (vI (sh3 y0 y1 y2 a0 a1 a2)) i = zn false (i + 1) := rfl
/-- The polynomial 5 + 3 X. -/
def p53 (k : Nat) : Zp false := if k = 0 then zn false 5 else zn false 3
theorem p53_0 : Sg p53 (pw (zn false 1)) 2 = zn false 8 := by decide +kernel
theorem p53_1 : Sg p53 (pw (zn false 2)) 2 = zn false 11 := by decide +kernel
theorem p53_2 : Sg p53 (pw (zn false 3)) 2 = zn false 14 := by decide +kernel
theorem n14_15 : zn false 14 ≠ zn false 15 := by decide +kernel
theorem aliveA : conB false (sh3 8 11 14 a0 a1 a2) 3 = true := by
  refine (allB_iff _ _).2 fun k hk => ?_
  refine fits_of (c := p53) (th := 2) sh3_good.fap (by decide) fun j hj => ?_
  rw [sh3_clz, sh3_pt]
  match j, hj with
  | 0, _ => exact p53_0
  | 1, _ => exact p53_1
  | 2, _ => exact p53_2
theorem aliveB' : fitB false (sh3 8 11 15 a0 a1 a2) 3 0 = false := by
  cases h : fitB false (sh3 8 11 15 a0 a1 a2) 3 0 with
  | false => rfl
  | true =>
    exfalso
    have g := sh3_good (y0 := 8) (y1 := 11) (y2 := 15) (a0 := a0) (a1 := a1) (a2 := a2)
    have h2 := (fits_iff (th := 2) g.fap (by decide)).1 h
    have ha : Fap (pt false (vI (sh3 8 11 15 a0 a1 a2))) 2 := g.fap.le (by decide)
    have e : ∀ k, k < 2 → rip (pt false (vI (sh3 8 11 15 a0 a1 a2))) (clz false (sh3 8 11 15 a0 a1 a2) 0) 2 2 k = p53 k := fun k hk => same_val ha (fun j hj => by
      rw [rip_val ha hj, sh3_clz, sh3_pt]
      match j, hj with
      | 0, _ => exact p53_0.symm
      | 1, _ => exact p53_1.symm) hk
    have h3 := h2 2 (by decide)
    have h4 : Sg (rip (pt false (vI (sh3 8 11 15 a0 a1 a2))) (clz false (sh3 8 11 15 a0 a1 a2) 0) 2 2) (pw (pt false (vI (sh3 8 11 15 a0 a1 a2)) 2)) 2 = clz false (sh3 8 11 15 a0 a1 a2) 0 2 := h3
    rw [Sg_congr e, sh3_clz, sh3_pt] at h4
    exact n14_15 (p53_2.symm.trans h4)
theorem aliveB : conB false (sh3 8 11 15 a0 a1 a2) 3 = false := by
  refine Bool.eq_false_iff.2 fun h => ?_
  have h0 := (allB_iff _ _).1 h 0 (by show (0 : Nat) < 1; decide)
  rw [aliveB'] at h0
  cases h0
theorem conB_few {s : Bool} {S : Nat → Shr} {m : Nat} (h : m ≤ thN S) : conB s S m = true := (allB_iff _ _).2 fun k _ => belZ_iff.2 fun j h1 h2 => by omega
theorem susL_all {s : Bool} {S : Nat → Shr} {m : Nat} : ∀ k, (∀ j, j < k → conB s (wo S j) (j + (m - (j + 1))) = true) → susL s S m k = (List.range k).map fun i => ((i : Nat) : Int)
  | 0, _ => rfl
  | k + 1, h => by
    show (if _ then susL s S m k ++ [(k : Int)] else _) = _
    rw [if_pos (h k (Nat.lt_succ_self k)), susL_all k fun j hj => h j (by omega), List.range_succ, List.map_append]
    rfl
theorem aliveS : susL false (sh3 8 11 15 a0 a1 a2) 3 3 = (List.range 3).map fun i => ((i : Nat) : Int) := by
  have h : ∀ k, k < 3 → conB false (wo (sh3 8 11 15 a0 a1 a2) k) (k + (3 - (k + 1))) = true := fun k hk => conB_few (by
    have e : thN (wo (sh3 8 11 15 a0 a1 a2) k) = 2 := by unfold thN wo; split <;> rfl
    rw [e]; omega)
  exact susL_all 3 fun k hk => h k (by omega)
theorem sh3_shareR {b TB TP : Nat} {w : World} (h : (blk b (en shc (sh3 y0 y1 y2 a0 a1 a2) 3) TB).ok w) (h0 : (blk a0 (vq (mq (zn false y0))) TP).ok w) (h1 : (blk a1 (vq (mq (zn false y1))) TP).ok w) (h2 : (blk a2 (vq (mq (zn false y2))) TP).ok w) : (shareR (some ⟨b, 0, none⟩) 3 3 (sh3 y0 y1 y2 a0 a1 a2)).ok w := by
  intro x hx
  simp only [List.mem_cons, List.not_mem_nil, or_false] at hx
  rcases hx with rfl | rfl
  · exact blk_lst h (en_len shc_len) (Nat.le_refl _)
  · intro y hy
    obtain ⟨k, hk, rfl⟩ := List.mem_map.1 hy
    have hk' := List.mem_range.1 hk
    match k, hk' with
    | 0, _ => exact blk_lst h0 rfl (Nat.le_refl _)
    | 1, _ => exact blk_lst h1 rfl (Nat.le_refl _)
    | 2, _ => exact blk_lst h2 rfl (Nat.le_refl _)
end
theorem sh3_cells {y0 y1 y2 a0 a1 a2 : Nat} : en shc (sh3 y0 y1 y2 a0 a1 a2) 3 = [.int .i64 1, .int .i64 2, .int .i64 1, .int .i64 1, .slice (some ⟨a0, 0, none⟩) 1 1, .int .i64 1, .int .i64 2, .int .i64 2, .int .i64 1, .slice (some ⟨a1, 0, none⟩) 1 1, .int .i64 1, .int .i64 2, .int .i64 3, .int .i64 1, .slice (some ⟨a2, 0, none⟩) 1 1] := rfl
section
variable {b a0 a1 a2 y0 y1 y2 TB TP : Nat} {w : World}
theorem sh3_in (h : (blk b [.int .i64 1, .int .i64 2, .int .i64 1, .int .i64 1, .slice (some ⟨a0, 0, none⟩) 1 1, .int .i64 1, .int .i64 2, .int .i64 2, .int .i64 1, .slice (some ⟨a1, 0, none⟩) 1 1, .int .i64 1, .int .i64 2, .int .i64 3, .int .i64 1, .slice (some ⟨a2, 0, none⟩) 1 1] TB).ok w)
    (h0 : (blk a0 (vq (mq (zn false y0))) TP).ok w) (h1 : (blk a1 (vq (mq (zn false y1))) TP).ok w) (h2 : (blk a2 (vq (mq (zn false y2))) TP).ok w) : (shareR (some ⟨b, 0, none⟩) 3 3 (sh3 y0 y1 y2 a0 a1 a2)).ok w := sh3_shareR (TB := TB) (by rw [sh3_cells]; exact h) h0 h1 h2
theorem alA (HS : (shareR (some ⟨b, 0, none⟩) 3 3 (sh3 8 11 14 a0 a1 a2)).ok w) (HL : Laid w) : Calls Tryz.prog 17 #[.pointer none, .slice (some ⟨b, 0, none⟩) 3 3] w fun e w' => e = .returned (.tuple #[.bool true, .int .i64 0]) ∧ Below w.heap.size w w' := by
  have h := consN HS HL sh3_ok sh3_good sh3_err (by decide) (by show (1 : Nat) ≤ 4; decide)
  rw [aliveA] at h
  exact h
theorem alB (HS : (shareR (some ⟨b, 0, none⟩) 3 3 (sh3 8 11 15 a0 a1 a2)).ok w) (HL : Laid w) : Calls Tryz.prog 17 #[.pointer none, .slice (some ⟨b, 0, none⟩) 3 3] w fun e w' => e = .returned (.tuple #[.bool false, .int .i64 0]) ∧ Below w.heap.size w w' := by
  have h := consN HS HL sh3_ok sh3_good sh3_err (by decide) (by show (1 : Nat) ≤ 4; decide)
  rw [aliveB] at h
  exact h
theorem alC (HS : (shareR (some ⟨b, 0, none⟩) 3 3 (sh3 8 11 15 a0 a1 a2)).ok w) (HL : Laid w) : Calls Tryz.prog 20 #[.pointer none, .slice (some ⟨b, 0, none⟩) 3 3] w fun e w' => ∃ b, e = .returned (.tuple #[.slice (some ⟨b, 0, none⟩) 1 1, .int .i64 0]) ∧ Sat no w [blk b (en boc (fun _ => false) 1) 4] [] w' := by
  have h := achN HS HL sh3_ok sh3_good sh3_err (by decide) (by show (1 : Nat) ≤ 4; decide)
  have e : en boc (fitB false (sh3 8 11 15 a0 a1 a2) 3) 1 = en boc (fun _ => false) 1 := en_congr fun i hi => by rw [Nat.lt_one_iff.1 hi, aliveB']
  refine h.mono fun _ _ h => ?_
  obtain ⟨b', h1, h2⟩ := h
  refine ⟨b', h1, ?_⟩
  rw [← e]
  exact h2
theorem alS (HS : (shareR (some ⟨b, 0, none⟩) 3 3 (sh3 8 11 15 a0 a1 a2)).ok w) (HL : Laid w) : Calls Tryz.prog 23 #[.pointer none, .slice (some ⟨b, 0, none⟩) 3 3] w fun e w' => ∃ a c, e = .returned (.tuple #[.slice a 3 c, .int .i64 0]) ∧ Sat no w [row 3 1 (.slice a 3 c) 3 (en ic (fun i => ((i : Nat) : Int)) 3)] [] w' := by
  have h := susN HS HL sh3_ok sh3_good sh3_err (by decide) (by show (1 : Nat) ≤ 4; decide) (by show (2 : Int) < 3; decide)
  refine h.mono fun _ _ h => ?_
  obtain ⟨a, n, c, h1, h2⟩ := h
  rw [aliveS, ← en_el] at h2
  have hl := (row_lst (h2.okM _ (.head _))).len
  rw [en_len ic_len] at hl
  obtain rfl : n = 3 := by omega
  exact ⟨a, c, h1, h2⟩
theorem lit3 {a : Option Addr} {c : Nat} (h : LstAt w 1 (.slice a 3 c) 3 [.int .i64 0, .int .i64 1, .int .i64 2]) : LstAt w 1 (.slice a 3 c) 3 (en ic (fun i => ((i : Nat) : Int)) 3) := h
theorem lit1 {a : Option Addr} {c : Nat} (h : LstAt w 1 (.slice a 1 c) 1 [.bool false]) : LstAt w 1 (.slice a 1 c) 1 (en boc (fun _ => false) 1) := h
end
theorem alive18_s (x : Int) (v pb : Nat) (W : World) (HP : (blk pb (vq (pr false)) 47).ok W) (hv : v < 1000) : Calls Tryz.prog 54 [.int .i64 x, .int .u64 ((v : Nat) : Int), .pointer (some ⟨pb, 0, none⟩)].toArray W fun e w => ∃ b, e = .returned (.agg #[.int .i64 1, .int .i64 2, .int .i64 x, .int .i64 1, .slice (some ⟨b, 0, none⟩) 1 1]) ∧ Sat no W [blk b (vq (mq (zn false v))) 56] [] w := by
 refine c_enter (args := [.int .i64 x, .int .u64 ((v : Nat) : Int), .pointer (some ⟨pb, 0, none⟩)]) Tryz.func54 rfl rfl rfl fun a hk => ?_
 have hs := Sat.start W [blk pb [.int .u64 ((dg 0 (pr false) : Nat) : Int), .int .u64 ((dg 1 (pr false) : Nat) : Int), .int .u64 ((dg 2 (pr false) : Nat) : Int), .int .u64 ((dg 3 (pr false) : Nat) : Int)] 47] (okr1 HP)
 refine wS (wR ?_)
 refine q_alc (vs := [.int .i64 0, .int .i64 0, .int .i64 0, .int .i64 0, .slice none 0 0]) hk hs zr53 rfl rfl rfl fun b1 w a hk hs => ?_
 refine c_end (x_t (wS (wR ?_)))
 refine q_v hk (w_mv rfl) fun a hk => ?_
 refine q_v hk (w_ldv (z := pr false) rfl ty47 (.blk (n := 4) (hs.ri 0 rfl) rfl)) fun a hk => ?_
 refine q_v hk (w_mv rfl) fun a hk => ?_
 refine q_v hk (w_bldv1 (k := v) rfl (by omega) (by unfold Go.Proofs.YtdnkkbmpefhbjaaGreatDoor.W; omega) Tryz.underlying47 ty46 zr47) fun a hk => ?_
 refine q_call (caps := []) hk rfl rfl Tryz.func43 fo43 rfl rfl (rform_s v hv _) ?_
 rintro _ w ⟨rfl, hb⟩
 have hs := hs.below hb
 refine ⟨_, rfl, fun a hk => ?_⟩
 refine q_bsl (els := [.tmp 10]) (cs := [.int .u64 ((dg 0 (mq (zn false v)) : Nat) : Int), .int .u64 ((dg 1 (mq (zn false v)) : Nat) : Int), .int .u64 ((dg 2 (mq (zn false v)) : Nat) : Int), .int .u64 ((dg 3 (mq (zn false v)) : Nat) : Int)]) hk hs rfl Tryz.underlying51 ty56 zr56 rfl rfl rfl rfl rfl rfl rfl fun b2 w a hk hs => ?_
 refine q_v hk (w_bld rfl fl53 zr53 rfl rfl) fun a hk => ?_
 have hs := hs.up1
 refine q_sto (o := 0) (cs := [.int .i64 1, .int .i64 2, .int .i64 x, .int .i64 1, .slice (some ⟨b2, 0, none⟩) 1 1]) (vs' := [.int .i64 1, .int .i64 2, .int .i64 x, .int .i64 1, .slice (some ⟨b2, 0, none⟩) 1 1]) hk hs rfl rfl rfl ty53 rfl rfl rfl rfl rfl rfl fun w hs => ?_
 refine c_end (x_t ?_)
 refine (wpIn_ret ?_)
 refine c_retG (vs := [.agg #[.int .i64 1, .int .i64 2, .int .i64 x, .int .i64 1, .slice (some ⟨b2, 0, none⟩) 1 1]]) hk rfl ⟨⟨_, rfl, lv_A ty53 (.blk (n := 5) (hs.mi 0 rfl) rfl) rfl⟩, trivial⟩ rfl ?_
 have hs := hs.drop
 exact ⟨_, rfl, hs.fin⟩
theorem alive18_c  (W : World) (HL : Laid W) : Calls Tryz.prog 16 [].toArray W fun e w => e = .returned (.bool true) ∧ Below W.heap.size W w := by
 refine c_enter (args := []) Tryz.func16 rfl rfl rfl fun a hk => ?_
 have hs := Sat.start W [] (fun _ h => by cases h)
 refine wS (wR ?_)
 refine q_v hk (w_as rfl) fun a hk => ?_
 refine c_end (x_t (wS (wR ?_)))
 refine q_call (caps := []) hk rfl rfl Tryz.func28 fo28 rfl rfl (rmodulus_z (s := false) rfl _) ?_
 rintro _ w ⟨rfl, hb⟩
 have hs := hs.below hb
 refine ⟨_, rfl, fun a hk => ?_⟩
 refine q_alc (vs := [.int .u64 0, .int .u64 0, .int .u64 0, .int .u64 0]) hk hs zr47 rfl rfl rfl fun b1 w a hk hs => ?_
 refine q_sto (o := 0) (cs := [.int .u64 ((dg 0 (pr false) : Nat) : Int), .int .u64 ((dg 1 (pr false) : Nat) : Int), .int .u64 ((dg 2 (pr false) : Nat) : Int), .int .u64 ((dg 3 (pr false) : Nat) : Int)]) (vs' := [.int .u64 ((dg 0 (pr false) : Nat) : Int), .int .u64 ((dg 1 (pr false) : Nat) : Int), .int .u64 ((dg 2 (pr false) : Nat) : Int), .int .u64 ((dg 3 (pr false) : Nat) : Int)]) hk hs rfl rfl rfl ty47 rfl rfl rfl rfl rfl rfl fun w hs => ?_
 refine c_end (x_t (wS (wR ?_)))
 refine q_v hk (w_mkf (frees := [.tmp 1]) rfl) fun a hk => ?_
 refine q_v hk (w_as rfl) fun a hk => ?_
 refine c_end (x_t (wS (wR ?_)))
 refine q_v hk (w_mv rfl) fun a hk => ?_
 refine q_call (caps := [.pointer (some ⟨b1, 0, none⟩)]) hk rfl rfl Tryz.func54 fo54 rfl rfl (alive18_s 1 8 b1 _ (hs.mi 0 rfl) (by decide)) ?_
 rintro _ w ⟨b2, rfl, hS⟩
 have hs := hs.call1 hS
 clear hS
 refine ⟨_, rfl, fun a hk => ?_⟩
 refine q_v hk (w_mv rfl) fun a hk => ?_
 refine q_call (caps := [.pointer (some ⟨b1, 0, none⟩)]) hk rfl rfl Tryz.func54 fo54 rfl rfl (alive18_s 2 11 b1 _ (hs.mi 1 rfl) (by decide)) ?_
 rintro _ w ⟨b3, rfl, hS⟩
 have hs := hs.call1 hS
 clear hS
 refine ⟨_, rfl, fun a hk => ?_⟩
 refine q_v hk (w_mv rfl) fun a hk => ?_
 refine q_call (caps := [.pointer (some ⟨b1, 0, none⟩)]) hk rfl rfl Tryz.func54 fo54 rfl rfl (alive18_s 3 14 b1 _ (hs.mi 2 rfl) (by decide)) ?_
 rintro _ w ⟨b4, rfl, hS⟩
 have hs := hs.call1 hS
 clear hS
 refine ⟨_, rfl, fun a hk => ?_⟩
 refine q_bsl (els := [.tmp 16, .tmp 18, .tmp 20]) (cs := [.int .i64 1, .int .i64 2, .int .i64 1, .int .i64 1, .slice (some ⟨b2, 0, none⟩) 1 1, .int .i64 1, .int .i64 2, .int .i64 2, .int .i64 1, .slice (some ⟨b3, 0, none⟩) 1 1, .int .i64 1, .int .i64 2, .int .i64 3, .int .i64 1, .slice (some ⟨b4, 0, none⟩) 1 1]) hk hs rfl Tryz.underlying22 ty53 zr53 rfl rfl rfl rfl rfl rfl rfl fun b5 w a hk hs => ?_
 refine q_call (caps := []) hk rfl rfl Tryz.func17 fo17 rfl rfl (alA (sh3_in (y0 := 8) (y1 := 11) (y2 := 14) (hs.mi 0 rfl) (hs.mi 3 rfl) (hs.mi 2 rfl) (hs.mi 1 rfl)) (HL.step hs.toBelow)) ?_
 rintro _ w ⟨rfl, hb⟩
 have hs := hs.below hb
 refine ⟨_, rfl, fun a hk => ?_⟩
 refine q_v hk (w_mv rfl) fun a hk => ?_
 refine q_v hk (w_ext rfl rfl) fun a hk => ?_
 refine q_v hk (w_ext rfl rfl) fun a hk => ?_
 refine q_v hk (w_as rfl) fun a hk => ?_
 refine q_v hk (w_as rfl) fun a hk => ?_
 refine c_end (x_t (wS (wR ?_)))
 refine q_v hk (w_mv rfl) fun a hk => ?_
 refine q_call (caps := [.pointer (some ⟨b1, 0, none⟩)]) hk rfl rfl Tryz.func54 fo54 rfl rfl (alive18_s 1 8 b1 _ (hs.mi 4 rfl) (by decide)) ?_
 rintro _ w ⟨b6, rfl, hS⟩
 have hs := hs.call1 hS
 clear hS
 refine ⟨_, rfl, fun a hk => ?_⟩
 refine q_v hk (w_mv rfl) fun a hk => ?_
 refine q_call (caps := [.pointer (some ⟨b1, 0, none⟩)]) hk rfl rfl Tryz.func54 fo54 rfl rfl (alive18_s 2 11 b1 _ (hs.mi 5 rfl) (by decide)) ?_
 rintro _ w ⟨b7, rfl, hS⟩
 have hs := hs.call1 hS
 clear hS
 refine ⟨_, rfl, fun a hk => ?_⟩
 refine q_v hk (w_mv rfl) fun a hk => ?_
 refine q_call (caps := [.pointer (some ⟨b1, 0, none⟩)]) hk rfl rfl Tryz.func54 fo54 rfl rfl (alive18_s 3 15 b1 _ (hs.mi 6 rfl) (by decide)) ?_
 rintro _ w ⟨b8, rfl, hS⟩
 have hs := hs.call1 hS
 clear hS
 refine ⟨_, rfl, fun a hk => ?_⟩
 refine q_bsl (els := [.tmp 26, .tmp 28, .tmp 30]) (cs := [.int .i64 1, .int .i64 2, .int .i64 1, .int .i64 1, .slice (some ⟨b6, 0, none⟩) 1 1, .int .i64 1, .int .i64 2, .int .i64 2, .int .i64 1, .slice (some ⟨b7, 0, none⟩) 1 1, .int .i64 1, .int .i64 2, .int .i64 3, .int .i64 1, .slice (some ⟨b8, 0, none⟩) 1 1]) hk hs rfl Tryz.underlying22 ty53 zr53 rfl rfl rfl rfl rfl rfl rfl fun b9 w a hk hs => ?_
 refine q_v hk (w_as rfl) fun a hk => ?_
 refine c_end (x_t (wS (wR ?_)))
 refine q_v hk (w_mv rfl) fun a hk => ?_
 refine q_call (caps := []) hk rfl rfl Tryz.func17 fo17 rfl rfl (alB (sh3_in (y0 := 8) (y1 := 11) (y2 := 15) (hs.mi 0 rfl) (hs.mi 3 rfl) (hs.mi 2 rfl) (hs.mi 1 rfl)) (HL.step hs.toBelow)) ?_
 rintro _ w ⟨rfl, hb⟩
 have hs := hs.below hb
 refine ⟨_, rfl, fun a hk => ?_⟩
 refine q_v hk (w_mv rfl) fun a hk => ?_
 refine q_v hk (w_ext rfl rfl) fun a hk => ?_
 refine q_v hk (w_ext rfl rfl) fun a hk => ?_
 refine q_v hk (w_as rfl) fun a hk => ?_
 refine q_v hk (w_as rfl) fun a hk => ?_
 refine c_end (x_t (wS (wR ?_)))
 refine q_v hk (w_mv rfl) fun a hk => ?_
 refine q_call (caps := []) hk rfl rfl Tryz.func23 fo23 rfl rfl (alS (sh3_in (y0 := 8) (y1 := 11) (y2 := 15) (hs.mi 0 rfl) (hs.mi 3 rfl) (hs.mi 2 rfl) (hs.mi 1 rfl)) (HL.step hs.toBelow)) ?_
 rintro _ w ⟨a10, c11, rfl, hS⟩
 have hs := hs.call1 hS
 clear hS
 refine ⟨_, rfl, fun a hk => ?_⟩
 refine q_v hk (w_mv rfl) fun a hk => ?_
 refine q_v hk (w_ext rfl rfl) fun a hk => ?_
 refine q_v hk (w_ext rfl rfl) fun a hk => ?_
 refine q_v hk (w_as rfl) fun a hk => ?_
 refine q_v hk (w_as rfl) fun a hk => ?_
 refine c_end (x_t (wS (wR ?_)))
 refine q_v hk (w_mv rfl) fun a hk => ?_
 refine q_call (caps := []) hk rfl rfl Tryz.func20 fo20 rfl rfl (alC (sh3_in (y0 := 8) (y1 := 11) (y2 := 15) (hs.mi 1 rfl) (hs.mi 4 rfl) (hs.mi 3 rfl) (hs.mi 2 rfl)) (HL.step hs.toBelow)) ?_
 rintro _ w ⟨b12, rfl, hS⟩
 have hs := hs.call1 hS
 clear hS
 refine ⟨_, rfl, fun a hk => ?_⟩
 refine q_v hk (w_mv rfl) fun a hk => ?_
 refine q_v hk (w_ext rfl rfl) fun a hk => ?_
 refine q_v hk (w_ext rfl rfl) fun a hk => ?_
 refine q_v hk (w_as rfl) fun a hk => ?_
 refine q_v hk (w_as rfl) fun a hk => ?_
 refine c_end (x_t (wS (wR ?_)))
 refine q_v hk (w_mv rfl) fun a hk => ?_
 refine q_v hk (w_mv rfl) fun a hk => ?_
 refine q_v hk (w_mv rfl) fun a hk => ?_
 refine q_v hk (w_eq rfl rfl (decide_eq_true (by decide))) fun a hk => ?_
 refine q_v hk (w_pickT rfl rfl) fun a hk => ?_
 refine q_v hk (w_mv rfl) fun a hk => ?_
 refine q_v hk (w_mv rfl) fun a hk => ?_
 refine q_v hk (w_not rfl) fun a hk => ?_
 refine q_v hk (w_pickT rfl rfl) fun a hk => ?_
 refine q_v hk (w_mv rfl) fun a hk => ?_
 refine q_v hk (w_mv rfl) fun a hk => ?_
 refine q_v hk (w_eq rfl rfl (decide_eq_true (by decide))) fun a hk => ?_
 refine q_v hk (w_pickT rfl rfl) fun a hk => ?_
 refine q_v hk (w_mv rfl) fun a hk => ?_
 refine q_v hk (w_mv rfl) fun a hk => ?_
 refine q_v hk (w_eq rfl rfl (decide_eq_true (by decide))) fun a hk => ?_
 refine q_v hk (w_pickT rfl rfl) fun a hk => ?_
 refine q_v hk (w_mv rfl) fun a hk => ?_
 refine q_v hk (w_mv rfl) fun a hk => ?_
 refine q_bsl (els := [.const (.int .i64 0), .const (.int .i64 1), .const (.int .i64 2)]) (cs := [.int .i64 0, .int .i64 1, .int .i64 2]) hk hs rfl Tryz.underlying34 ty3 zr3 rfl rfl rfl rfl rfl rfl rfl fun b13 w a hk hs => ?_
 refine q_call (caps := []) hk rfl rfl Tryz.func25 fo25 rfl rfl (eqI_c 3 c11 3 a10 (some ⟨b13, 0, none⟩) (fun i => ((i : Nat) : Int)) _ (row_lst (hs.mi 2 rfl)) (lit3 (blk_lst (hs.mi 0 rfl) rfl (Nat.le_refl _))) (by decide)) ?_
 rintro _ w ⟨rfl, hb⟩
 have hs := hs.below hb
 refine ⟨_, rfl, fun a hk => ?_⟩
 refine q_v hk (w_pickT rfl rfl) fun a hk => ?_
 refine q_v hk (w_mv rfl) fun a hk => ?_
 refine q_v hk (w_mv rfl) fun a hk => ?_
 refine q_v hk (w_eq rfl rfl (decide_eq_true (by decide))) fun a hk => ?_
 refine q_v hk (w_pickT rfl rfl) fun a hk => ?_
 refine q_v hk (w_mv rfl) fun a hk => ?_
 refine q_v hk (w_mv rfl) fun a hk => ?_
 refine q_bsl (els := [.const (.bool false)]) (cs := [.bool false]) hk hs rfl Tryz.underlying29 ty4 zr4 rfl rfl rfl rfl rfl rfl rfl fun b14 w a hk hs => ?_
 refine q_call (caps := []) hk rfl rfl Tryz.func21 fo21 rfl rfl (eqB_c 1 1 1 (some ⟨b12, 0, none⟩) (some ⟨b14, 0, none⟩) (fun _ => false) _ (blk_lst (hs.mi 2 rfl) (en_len boc_len) (Nat.le_refl _)) (lit1 (blk_lst (hs.mi 0 rfl) rfl (Nat.le_refl _))) (by decide)) ?_
 rintro _ w ⟨rfl, hb⟩
 have hs := hs.below hb
 refine ⟨_, rfl, fun a hk => ?_⟩
 refine q_v hk (w_pickT rfl rfl) fun a hk => ?_
 refine q_v hk (w_as rfl) fun a hk => ?_
 refine c_end (x_t ?_)
 refine (wpIn_ret ?_)
 refine c_ret1 hk rfl rfl ?_
 exact ⟨rfl, hs.toBelow⟩
end Go.Proofs.YtdnkkbmpefhbjaaGreatDoor
namespace Go.Proofs.YtdnkkbmpefhbjaaGreatDoor
set_option linter.all false
open Go Go.RowKit Alg
end Go.Proofs.YtdnkkbmpefhbjaaGreatDoor
namespace Go.Proofs.YtdnkkbmpefhbjaaGreatDoor
set_option linter.all false
open Go Go.RowKit
abbrev DenE (v : Nat × List Value) (es : List Ev) (r : Res) : Prop := Den Tryz.prog (fval v) evE es r
theorem take_snoc {α : Type} {l : List α} {k : Nat} {x : α} (h : l[k]? = some x) : l.take k ++ [x] = l.take (k + 1) := by
  obtain ⟨h1, h2⟩ := List.getElem?_eq_some_iff.1 h
  rw [List.take_succ_eq_append_getElem h1, h2]
theorem appendSeq_m {F0 : Nat → Prop} {W : World} {M R : List Res} (x : Nat × List Value) (es : List Ev) (rx : Res) (w0 : World) (hs : Sat F0 W M R w0) (hx : DenE x es rx) (hx2 : HasR rx R) (hl : es.length ≤ 1000000000000) : Calls Tryz.prog 141 [.slice none 0 0, .func (.func x.1) #[] (List.toArray x.2)].toArray w0 fun e w => ∃ a c, e = .returned (.slice a es.length c) ∧ Sat F0 W (row 112 3 (.slice a es.length c) es.length (el ec es) :: M) R w := by
 refine c_enterM (args := [.slice none 0 0, .func (.func x.1) #[] (List.toArray x.2)]) Tryz.func141 rfl rfl rfl fun a hk => ?_
 refine wS (wR ?_)
 refine q_box (vs := [.slice none 0 0]) hk hs rfl rfl rfl rfl fun b1 w a hk hs => ?_
 refine q_v hk (w_as rfl) fun a hk => ?_
 refine c_end (x_t (wS (wS (wR ?_))))
 refine q_v hk (w_mv rfl) fun a hk => ?_
 refine c_end (x_t ?_)
 refine wpIn_block ?_
 have hs := hs.row0 112 3
 have hk : Kn [] 13 [(6, .func (.func x.1) #[] (List.toArray x.2)), (4, .slice none 0 0), (2, .pointer (some ⟨b1, 0, none⟩))] a := hk.k rfl (hk.k rfl (hk.k rfl hk.nil))
 have hs := hs.up1
 have hs := Sat.pack (l := [blk b1 [.slice none 0 0] 63, row 112 3 (.slice none 0 0) 0 (el ec (es.take 0))]) hs
 have hs := hs.none.up1
 refine c_range0 hk hs rfl hx hx2 (fun _ => rfl) rfl (fun k r => ∃ (al : Option Addr) (cl : Nat), r = bun [blk b1 [.slice al k cl] 63, row 112 3 (.slice al k cl) k (el ec (es.take k))]) (fun c k r => False) ⟨_, _, rfl⟩ rfl ?_ ?_ ?_
 ·
  rintro l2 k2 x2 hx2 LR2 LB2 FR2 hL2 r a w ⟨al, cl, rfl⟩ hk hs
  have hlt : k2 < es.length := (List.getElem?_eq_some_iff.1 hx2).1
  have hk : Kn [] 13 [(7, .agg #[.int .i64 x2.1, .int .i64 x2.2.1, .int .i64 x2.2.2]), (6, .func (.func x.1) #[] (List.toArray x.2)), (4, .slice none 0 0), (2, .pointer (some ⟨b1, 0, none⟩))] a := hk
  have hs : Sat F0 W [blk b1 [.slice al k2 cl] 63, row 112 3 (.slice al k2 cl) k2 (el ec (es.take k2)), LR2, FR2] R w := hs.unpack
  refine wR ?_
  refine q_alc (vs := [.int .i64 0, .int .i64 0, .int .i64 0]) hk hs zr112 rfl rfl rfl fun b3 w a hk hs => ?_
  refine q_sto (o := 0) (cs := [.int .i64 x2.1, .int .i64 x2.2.1, .int .i64 x2.2.2]) (vs' := [.int .i64 x2.1, .int .i64 x2.2.1, .int .i64 x2.2.2]) hk hs rfl rfl rfl ty112 rfl rfl rfl rfl rfl rfl fun w hs => ?_
  refine c_end (x_t ?_)
  have hs := hs.up3
  refine hL2.begin_ hs fun w hs => ?_
  refine wpIn_block ?_
  refine wR ?_
  refine q_v hk (w_ld1 rfl ty63 (.blk (n := 1) (hs.mi 2 rfl) rfl)) fun a hk => ?_
  refine q_v hk (w_ldA rfl ty112 (.blk (n := 3) (hs.mi 1 rfl) rfl) rfl) fun a hk => ?_
  refine q_bsl (els := [.tmp 9]) (cs := [.int .i64 x2.1, .int .i64 x2.2.1, .int .i64 x2.2.2]) hk hs rfl Tryz.underlying63 ty112 zr112 rfl rfl rfl rfl rfl rfl rfl fun b4 w a hk hs => ?_
  have hs := hs.up4
  refine q_app (news := [.int .i64 x2.1, .int .i64 x2.2.1, .int .i64 x2.2.2]) (m := 1) hk hs rfl rfl Tryz.underlying63 ty112 zr112 rfl rfl (.blk (n := 3) (hs.mi 1 rfl) rfl) rfl rfl (by omega) (by omega) rfl rfl fun a5 c6 w a hk hs => ?_
  have hs := hs.up1
  have hs := hs.drop
  have hs := hs.up3
  refine q_sto (o := 0) (cs := [.slice a5 (k2 + 1) c6]) (vs' := [.slice a5 (k2 + 1) c6]) hk hs rfl rfl rfl ty63 rfl rfl rfl rfl rfl rfl fun w hs => ?_
  refine (c_end (x_b ?_))
  have hs := hs.up1
  have hs := hs.rw0 (congrArg _ el_snoc)
  rw [take_snoc hx2] at hs
  have hs := hs.up3
  have hs := hs.drop
  have hs := hs.up3
  have hs := hs.up3
  have hs := hs.up2
  have hs := hs.up3
  exact ⟨_, ⟨_, _, rfl⟩, Sat.pack (l := [_, _]) hs⟩
 ·
  intro D2 r r2 a w hJ hK hk hs
  obtain ⟨al, cl, rfl⟩ := hJ
  obtain rfl := hK
  have hs := Sat.unpack (l := [blk b1 [.slice al es.length cl] 63, row 112 3 (.slice al es.length cl) es.length (el ec (es.take es.length))]) hs.up2.drop.up1
  have hs : Sat F0 W ((blk b1 [.slice al es.length cl] 63) :: (row 112 3 (.slice al es.length cl) es.length (el ec (es.take es.length))) :: (dres D2) :: M) R w := hs
  refine (x_b (x_t ?_))
  refine wS (wR ?_)
  refine q_v hk (w_ld1 rfl ty63 (.blk (n := 1) (hs.mi 0 rfl) rfl)) fun a hk => ?_
  refine q_v hk (w_as rfl) fun a hk => ?_
  refine c_end (x_t ?_)
  refine (wpIn_ret ?_)
  have hs := hs.up1
  have hs := hs.up1
  have hs := hs.up2
  refine c_retM (M := ((blk b1 [.slice al es.length cl] 63) :: (row 112 3 (.slice al es.length cl) es.length (el ec (es.take es.length))) :: M)) hk hs fun w hs => ⟨_, res_ok (rs := [.tmp 4]) (vs := [.slice al es.length cl]) hk rfl ⟨rfl, trivial⟩, ?_⟩
  rw [List.take_length] at hs
  have hs := hs.drop
  exact ⟨_, _, rfl, hs⟩
 · rintro _ _ _ _ _ _ _ _ h; exact h.elim
theorem collect_m {F0 : Nat → Prop} {W : World} {M R : List Res} (x : Nat × List Value) (es : List Ev) (rx : Res) (w0 : World) (hs : Sat F0 W M R w0) (hx : DenE x es rx) (hx2 : HasR rx R) (hl : es.length ≤ 1000000000000) : Calls Tryz.prog 114 [.func (.func x.1) #[] (List.toArray x.2)].toArray w0 fun e w => ∃ a c, e = .returned (.slice a es.length c) ∧ Sat F0 W (row 112 3 (.slice a es.length c) es.length (el ec es) :: M) R w := by
 refine c_enter (args := [.func (.func x.1) #[] (List.toArray x.2)]) Tryz.func114 rfl rfl rfl fun a hk => ?_
 refine wS (wR ?_)
 refine q_v hk (w_as rfl) fun a hk => ?_
 refine c_end (x_t (wS (wR ?_)))
 refine q_v hk (w_mv rfl) fun a hk => ?_
 refine q_call (caps := []) hk rfl rfl Tryz.func141 fo141 rfl rfl (appendSeq_m x es rx _ hs hx hx2 hl) ?_
 rintro _ w ⟨a1, c2, rfl, hs⟩
 refine ⟨_, rfl, fun a hk => ?_⟩
 refine q_v hk (w_as rfl) fun a hk => ?_
 refine c_end (x_t ?_)
 refine (wpIn_ret ?_)
 refine c_ret1 hk rfl rfl ?_
 exact ⟨_, _, rfl, hs⟩
theorem since_c (b la : Nat) (lc : Option Addr) (ps : List Nat) (evs : List Ev) (W : World) (HB : (tapeR b lc la ps evs).ok W) (hps : ps.length = (evs.length + 63) / 64) (hn : evs.length ≤ 1000000000000) : Calls Tryz.prog 74 [.pointer (some ⟨b, 0, none⟩), .int .i64 0].toArray W fun e w => ∃ a c, e = .returned (.slice a evs.length c) ∧ Sat no W [row 112 3 (.slice a evs.length c) evs.length (el ec evs)] [] w := by
 refine c_enter (args := [.pointer (some ⟨b, 0, none⟩), .int .i64 0]) Tryz.func74 rfl rfl rfl fun a hk => ?_
 have hs := Sat.start W [tapeR b lc la ps evs] (okr1 HB)
 refine wS (wR ?_)
 refine q_v hk (w_as rfl) fun a hk => ?_
 refine c_end (x_t (wS (wR ?_)))
 refine q_v hk (w_mv rfl) fun a hk => ?_
 refine q_v hk (w_mv rfl) fun a hk => ?_
 refine q_call (caps := []) hk rfl rfl Tryz.func115 fo115 rfl rfl (from_c b _) ?_
 rintro _ w ⟨b1, b2, rfl, hS⟩
 have hs := hs.call2 hS
 clear hS
 refine ⟨_, rfl, fun a hk => ?_⟩
 have hs := hs.up1
 have hs := hs.up1
 have hs := Sat.frzL (l := [blk b1 [.int .i64 0] 3, blk b2 [.pointer (some ⟨b, 0, none⟩)] 60]) hs
 have hd : DenE (142, [.pointer (some ⟨b1, 0, none⟩), .pointer (some ⟨b2, 0, none⟩)]) evs (rall [rall [blk b1 [.int .i64 0] 3, blk b2 [.pointer (some ⟨b, 0, none⟩)] 60], tapeR b lc la ps evs]) := ⟨_, _, _, rfl, Tryz.func142, fo142, from_it b1 b2 b la lc ps evs hps hn⟩
 refine q_call (caps := []) hk rfl rfl Tryz.func114 fo114 rfl rfl (collect_m (142, [.pointer (some ⟨b1, 0, none⟩), .pointer (some ⟨b2, 0, none⟩)]) evs _ _ hs hd (HasR.two (HasR.nth 0 rfl) (HasR.nth 1 rfl)) hn) ?_
 rintro _ w ⟨a3, c4, rfl, hs⟩
 refine ⟨_, rfl, fun a hk => ?_⟩
 refine q_v hk (w_as rfl) fun a hk => ?_
 refine c_end (x_t ?_)
 refine (wpIn_ret ?_)
 refine c_ret1 hk rfl rfl ?_
 exact ⟨_, _, rfl, hs.fin⟩
theorem events_c (b la : Nat) (lc : Option Addr) (ps : List Nat) (evs : List Ev) (W : World) (HB : (tapeR b lc la ps evs).ok W) (hps : ps.length = (evs.length + 63) / 64) (hn : evs.length ≤ 1000000000000) : Calls Tryz.prog 37 [.pointer (some ⟨b, 0, none⟩)].toArray W fun e w => ∃ a c, e = .returned (.slice a evs.length c) ∧ Sat no W [row 112 3 (.slice a evs.length c) evs.length (el ec evs)] [] w := by
 refine c_enter (args := [.pointer (some ⟨b, 0, none⟩)]) Tryz.func37 rfl rfl rfl fun a hk => ?_
 have hs := Sat.start W [tapeR b lc la ps evs] (okr1 HB)
 refine wS (wR ?_)
 refine q_v hk (w_as rfl) fun a hk => ?_
 refine c_end (x_t (wS (wR ?_)))
 refine q_v hk (w_mv rfl) fun a hk => ?_
 refine q_call (caps := []) hk rfl rfl Tryz.func74 fo74 rfl rfl (since_c b la lc ps evs _ ((HasR.nth 0 rfl : HasR (tapeR b lc la ps evs) _).at_ hs) hps hn) ?_
 rintro _ w ⟨a1, c2, rfl, hS⟩
 have hs := hs.call1 hS
 clear hS
 refine ⟨_, rfl, fun a hk => ?_⟩
 refine q_v hk (w_as rfl) fun a hk => ?_
 refine c_end (x_t ?_)
 refine (wpIn_ret ?_)
 refine c_ret1 hk rfl rfl ?_
 exact ⟨_, _, rfl, hs.fin⟩
/-- A tape's events. -/
theorem tevents {b : Nat} {evs : List Ev} {r : Res} {w : World} (hT : TapeIs (some b) evs r) (h : r.ok w) (hn : evs.length ≤ 1000000000000) : Calls Tryz.prog 37 #[.pointer (some ⟨b, 0, none⟩)] w fun e w' => ∃ a c, e = .returned (.slice a evs.length c) ∧ Sat no w [row 112 3 (.slice a evs.length c) evs.length (el ec evs)] [] w' := by
  obtain ⟨la, lc, ps, hps, rfl⟩ := hT
  exact events_c b lc la ps evs w h hps hn
theorem tlen0 {b : Nat} {evs : List Ev} {r : Res} {w : World} (hT : TapeIs (some b) evs r) (h : r.ok w) : Calls Tryz.prog 33 #[.pointer (some ⟨b, 0, none⟩)] w fun e w' => e = .returned (.int .i64 ((evs.length : Nat) : Int)) ∧ Below w.heap.size w w' := by
  obtain ⟨la, lc, ps, hps, rfl⟩ := hT
  exact tlen_s b _ _ _ evs w (tape_parts h).1
end Go.Proofs.YtdnkkbmpefhbjaaGreatDoor
namespace Go.Proofs.YtdnkkbmpefhbjaaGreatDoor
set_option linter.all false
open Go Go.RowKit
theorem refPairs_false (n : Int) (W : World) (hn : n ≤ 255) : Calls Tryz.prog 134 [.int .i64 n, .int .i64 n, .bool true].toArray W fun e w => ∃ la nn lc, e = .returned (.slice la nn lc) ∧ Sat no W [row 112 3 (.slice la nn lc) nn (el ec (pairsE n false))] [] w := by
 refine c_enter (args := [.int .i64 n, .int .i64 n, .bool true]) Tryz.func134 rfl rfl rfl fun a hk => ?_
 have hs := Sat.start W [] (fun _ h => by cases h)
 refine wS (wR ?_)
 refine q_v hk (w_as rfl) fun a hk => ?_
 refine c_end (x_t (wS (wR ?_)))
 refine q_v hk (w_as rfl) fun a hk => ?_
 refine c_end (x_t (wS (wS (wR ?_))))
 refine q_v hk (w_as rfl) fun a hk => ?_
 refine c_end (x_t ?_)
 refine wpIn_block ?_
 have hs := hs.row0 112 3
 have hs := hs.rw0 (congrArg (fun q => row 112 3 (.slice none 0 0) 0 (el ec q)) (show ([] : List _) = (upE 0 (0 : Int) (fun i => upE 0 n fun k => pairE false i k)) from (upE_nil (by omega)).symm))
 refine c_loop (α := Nat) (fun i a w => ∃ (ai : Option Addr) (ni : Nat) (ci : Nat) (xi : Int), (i ≤ n.toNat ∧ xi = (i : Int)) ∧ Kn [] 34 [(8, .int .i64 xi), (7, .slice ai ni ci), (6, .slice none 0 0), (0, .int .i64 n), (1, .int .i64 n), (2, .bool true)] a ∧ Sat no W [row 112 3 (.slice ai ni ci) ni (el ec (upE 0 (i : Int) (fun i => upE 0 n fun k => pairE false i k)))] [] w) (fun i => n.toNat - i) 0 ?_ ?_
 · exact ⟨_, _, _, _, ⟨by omega, by omega⟩, hk.k rfl (hk.k rfl (hk.k rfl (hk.k rfl (hk.k rfl (hk.k rfl hk.nil))))), hs⟩
 rintro i a w ⟨ai, ni, ci, xi, hf0, hk, hs⟩
 have hci := row_cnt (hs.mi 0 rfl)
 have hl := upE_len (fr := 0) (to := (i : Int)) (F := (fun i => upE 0 n fun k => pairE false i k)) (B := 255) (fun i => by have := up255 (fr := 0) (to := n) (fun k => pairE_len false i k) (by omega) hn; omega)
 have hfo := hf0
 refine wS (wS (wR ?_))
 refine q_v hk (w_mv rfl) fun a hk => ?_
 refine q_v hk (w_mv rfl) fun a hk => ?_
 rcases Classical.em (xi < n) with hc1 | hc1
 ·
  refine q_v hk (w_lt rfl rfl (decide_eq_true hc1)) fun a hk => ?_
  refine c_end (x_t ?_)
  refine c_T hk rfl ?_
  refine (wpIn_skip (x_t ?_))
  refine wS ?_
  refine wpIn_block ?_
  refine wS (wR ?_)
  refine q_v hk (w_as rfl) fun a hk => ?_
  refine c_end (x_t ?_)
  refine wpIn_block ?_
  have hs := hs.rw0 (congrArg (fun q => row 112 3 (.slice ai ni ci) ni (el ec q)) (show ((upE 0 (i : Int) (fun i => upE 0 n fun k => pairE false i k)) : List _) = ((upE 0 (i : Int) (fun i => upE 0 n fun k => pairE false i k)) ++ upE 0 (0 : Int) (fun k => pairE false (i : Int) k)) from by rw [upE_nil (fr := 0) (a := 0) (F := fun k => pairE false (i : Int) k) (by omega), List.append_nil]))
  refine c_loop (α := Nat) (fun k a w => ∃ (ak : Option Addr) (nk : Nat) (ck : Nat) (xk : Int), (k ≤ n.toNat ∧ xk = (k : Int)) ∧ Kn [] 34 [(9, .int .i64 xk), (7, .slice ak nk ck), (12, .bool true), (11, .int .i64 n), (10, .int .i64 xi), (8, .int .i64 xi), (6, .slice none 0 0), (0, .int .i64 n), (1, .int .i64 n), (2, .bool true)] a ∧ Sat no W [row 112 3 (.slice ak nk ck) nk (el ec ((upE 0 (i : Int) (fun i => upE 0 n fun k => pairE false i k)) ++ upE 0 (k : Int) (fun k => pairE false (i : Int) k)))] [] w) (fun k => n.toNat - k) 0 ?_ ?_
  · exact ⟨_, _, _, _, ⟨by omega, by omega⟩, hk.k rfl (hk.k rfl (hk.k rfl (hk.k rfl (hk.k rfl (hk.k rfl (hk.k rfl (hk.k rfl (hk.k rfl (hk.k rfl hk.nil))))))))), hs⟩
  rintro k a w ⟨ak, nk, ck, xk, hf0, hk, hs⟩
  have hck := row_cnt (hs.mi 0 rfl)
  have hl2 := upE_len (fr := 0) (to := (k : Int)) (F := fun k => pairE false (i : Int) k) (B := 1) (fun k => pairE_len false (i : Int) k)
  rw [List.length_append] at hck
  have hf1 := hf0
  have hf0 := hfo
  refine wS (wS (wR ?_))
  refine q_v hk (w_mv rfl) fun a hk => ?_
  refine q_v hk (w_mv rfl) fun a hk => ?_
  rcases Classical.em (xk < n) with hc2 | hc2
  ·
   refine q_v hk (w_lt rfl rfl (decide_eq_true hc2)) fun a hk => ?_
   refine c_end (x_t ?_)
   refine c_T hk rfl ?_
   refine (wpIn_skip (x_t ?_))
   refine wS ?_
   refine wpIn_block ?_
   refine wS (wR ?_)
   refine q_v hk (w_mv rfl) fun a hk => ?_
   refine q_v hk (w_not rfl) fun a hk => ?_
   refine q_v hk (w_mv rfl) fun a hk => ?_
   refine q_v hk (w_mv rfl) fun a hk => ?_
   refine q_v hk (w_mv rfl) fun a hk => ?_
   rcases Classical.em (xi ≠ xk) with hc3 | hc3
   ·
    refine q_v hk (w_ne rfl rfl (decide_eq_true hc3)) fun a hk => ?_
    refine q_v hk (w_pickF rfl rfl) fun a hk => ?_
    refine c_end (x_t ?_)
    refine c_T hk rfl ?_
    refine wR ?_
    refine q_v hk (w_mv rfl) fun a hk => ?_
    refine q_v hk (w_mv rfl) fun a hk => ?_
    refine q_v hk (w_mv rfl) fun a hk => ?_
    refine q_v hk (w_bld rfl fl112 zr112 rfl rfl) fun a hk => ?_
    refine q_bsl (els := [.tmp 30]) (cs := [.int .i64 3, .int .i64 xi, .int .i64 xk]) hk hs rfl Tryz.underlying63 ty112 zr112 rfl rfl rfl rfl rfl rfl rfl fun b4 w a hk hs => ?_
    have hs := hs.up1
    refine q_app (news := [.int .i64 3, .int .i64 xi, .int .i64 xk]) (m := 1) hk hs rfl rfl Tryz.underlying63 ty112 zr112 rfl rfl (.blk (n := 3) (hs.mi 1 rfl) rfl) rfl rfl (by omega) (by omega) rfl rfl fun a5 c6 w a hk hs => ?_
    have hs := hs.up1
    have hs := hs.drop
    have hs := hs.rw0 (congrArg _ (el_snoc (c := ec) (l := ((upE 0 (i : Int) (fun i => upE 0 n fun k => pairE false i k)) ++ upE 0 (k : Int) (fun k => pairE false (i : Int) k))) (x := (3, xi, xk))))
    refine q_v hk (w_as rfl) fun a hk => ?_
    refine (c_end (x_b (x_t ?_)))
    refine wR ?_
    refine q_v hk (w_mv rfl) fun a hk => ?_
    refine q_v hk (w_add rfl rfl (wr64 (by omega) (by omega))) fun a hk => ?_
    refine q_v hk (w_as rfl) fun a hk => ?_
    refine c_end (x_t ?_)
    have hs := hs.rw0 (congrArg (fun q => row 112 3 (.slice a5 (nk + 1) c6) (nk + 1) (el ec q)) (show ((((upE 0 (i : Int) (fun i => upE 0 n fun k => pairE false i k)) ++ upE 0 (k : Int) (fun k => pairE false (i : Int) k)) ++ [(3, xi, xk)]) : List _) = ((upE 0 (i : Int) (fun i => upE 0 n fun k => pairE false i k)) ++ upE 0 ((k + 1 : Nat) : Int) (fun k => pairE false (i : Int) k)) from by rw [show (((k + 1 : Nat) : Int)) = (k : Int) + 1 from rfl, ← upE_succ (F := fun k => pairE false (i : Int) k) (x := (k : Int)) (by omega), ← List.append_assoc]; first | (rw [hf0.2, hf1.2, pairE_ne (by omega)]; done) | (rw [pairE_no (by omega), List.append_nil]; done)))
    exact ⟨k + 1, ⟨_, _, _, _, ⟨by omega, by omega⟩, hk.k rfl (hk.k rfl (hk.k rfl (hk.k rfl (hk.k rfl (hk.k rfl (hk.k rfl (hk.k rfl (hk.k rfl (hk.k rfl hk.nil))))))))), hs⟩, by omega⟩
   ·
    refine q_v hk (w_ne rfl rfl (decide_eq_false hc3)) fun a hk => ?_
    refine q_v hk (w_pickF rfl rfl) fun a hk => ?_
    refine c_end (x_t ?_)
    refine c_F hk rfl ?_
    refine (wpIn_skip (x_b (x_t ?_)))
    refine wR ?_
    refine q_v hk (w_mv rfl) fun a hk => ?_
    refine q_v hk (w_add rfl rfl (wr64 (by omega) (by omega))) fun a hk => ?_
    refine q_v hk (w_as rfl) fun a hk => ?_
    refine c_end (x_t ?_)
    have hs := hs.rw0 (congrArg (fun q => row 112 3 (.slice ak nk ck) nk (el ec q)) (show (((upE 0 (i : Int) (fun i => upE 0 n fun k => pairE false i k)) ++ upE 0 (k : Int) (fun k => pairE false (i : Int) k)) : List _) = ((upE 0 (i : Int) (fun i => upE 0 n fun k => pairE false i k)) ++ upE 0 ((k + 1 : Nat) : Int) (fun k => pairE false (i : Int) k)) from by rw [show (((k + 1 : Nat) : Int)) = (k : Int) + 1 from rfl, ← upE_succ (F := fun k => pairE false (i : Int) k) (x := (k : Int)) (by omega), ← List.append_assoc]; first | (rw [hf0.2, hf1.2, pairE_ne (by omega)]; done) | (rw [pairE_no (by omega), List.append_nil]; done)))
    exact ⟨k + 1, ⟨_, _, _, _, ⟨by omega, by omega⟩, hk.k rfl (hk.k rfl (hk.k rfl (hk.k rfl (hk.k rfl (hk.k rfl (hk.k rfl (hk.k rfl (hk.k rfl (hk.k rfl hk.nil))))))))), hs⟩, by omega⟩
  ·
   refine q_v hk (w_lt rfl rfl (decide_eq_false hc2)) fun a hk => ?_
   refine c_end (x_t ?_)
   refine c_F hk rfl ?_
   refine (wpIn_exit (x_te (x_te (x_be ?_))))
   refine (x_b (x_t ?_))
   refine wR ?_
   refine q_v hk (w_mv rfl) fun a hk => ?_
   refine q_v hk (w_add rfl rfl (wr64 (by omega) (by omega))) fun a hk => ?_
   refine q_v hk (w_as rfl) fun a hk => ?_
   refine c_end (x_t ?_)
   have hs := hs.rw0 (congrArg (fun q => row 112 3 (.slice ak nk ck) nk (el ec q)) (show (((upE 0 (i : Int) (fun i => upE 0 n fun k => pairE false i k)) ++ upE 0 (k : Int) (fun k => pairE false (i : Int) k)) : List _) = (upE 0 ((i + 1 : Nat) : Int) (fun i => upE 0 n fun k => pairE false i k)) from by rw [upE_to (fr := 0) (a := (k : Int)) (b := n) (by omega)]; exact upE_succ (F := (fun i => upE 0 n fun k => pairE false i k)) (x := (i : Int)) (by omega)))
   exact ⟨i + 1, ⟨_, _, _, _, ⟨by omega, by omega⟩, hk.k rfl (hk.k rfl (hk.k rfl (hk.k rfl (hk.k rfl (hk.k rfl hk.nil))))), hs⟩, by omega⟩
 ·
  refine q_v hk (w_lt rfl rfl (decide_eq_false hc1)) fun a hk => ?_
  refine c_end (x_t ?_)
  refine c_F hk rfl ?_
  refine (wpIn_exit (x_te (x_te (x_be ?_))))
  refine (x_t ?_)
  refine wS (wR ?_)
  refine q_v hk (w_mv rfl) fun a hk => ?_
  refine q_v hk (w_as rfl) fun a hk => ?_
  refine c_end (x_t ?_)
  refine (wpIn_ret ?_)
  refine c_ret1 hk rfl rfl ?_
  have hs := hs.rw0 (congrArg (fun q => row 112 3 (.slice ai ni ci) ni (el ec q)) (show ((upE 0 (i : Int) (fun i => upE 0 n fun k => pairE false i k)) : List _) = (pairsE n false) from upE_to (by omega)))
  exact ⟨_, _, _, rfl, hs.fin⟩
theorem refPairs_true (n : Int) (W : World) (hn : n ≤ 255) : Calls Tryz.prog 134 [.int .i64 n, .int .i64 n, .bool false].toArray W fun e w => ∃ la nn lc, e = .returned (.slice la nn lc) ∧ Sat no W [row 112 3 (.slice la nn lc) nn (el ec (pairsE n true))] [] w := by
 refine c_enter (args := [.int .i64 n, .int .i64 n, .bool false]) Tryz.func134 rfl rfl rfl fun a hk => ?_
 have hs := Sat.start W [] (fun _ h => by cases h)
 refine wS (wR ?_)
 refine q_v hk (w_as rfl) fun a hk => ?_
 refine c_end (x_t (wS (wR ?_)))
 refine q_v hk (w_as rfl) fun a hk => ?_
 refine c_end (x_t (wS (wS (wR ?_))))
 refine q_v hk (w_as rfl) fun a hk => ?_
 refine c_end (x_t ?_)
 refine wpIn_block ?_
 have hs := hs.row0 112 3
 have hs := hs.rw0 (congrArg (fun q => row 112 3 (.slice none 0 0) 0 (el ec q)) (show ([] : List _) = (upE 0 (0 : Int) (fun i => upE 0 n fun k => pairE true i k)) from (upE_nil (by omega)).symm))
 refine c_loop (α := Nat) (fun i a w => ∃ (ai : Option Addr) (ni : Nat) (ci : Nat) (xi : Int), (i ≤ n.toNat ∧ xi = (i : Int)) ∧ Kn [] 34 [(8, .int .i64 xi), (7, .slice ai ni ci), (6, .slice none 0 0), (0, .int .i64 n), (1, .int .i64 n), (2, .bool false)] a ∧ Sat no W [row 112 3 (.slice ai ni ci) ni (el ec (upE 0 (i : Int) (fun i => upE 0 n fun k => pairE true i k)))] [] w) (fun i => n.toNat - i) 0 ?_ ?_
 · exact ⟨_, _, _, _, ⟨by omega, by omega⟩, hk.k rfl (hk.k rfl (hk.k rfl (hk.k rfl (hk.k rfl (hk.k rfl hk.nil))))), hs⟩
 rintro i a w ⟨ai, ni, ci, xi, hf0, hk, hs⟩
 have hci := row_cnt (hs.mi 0 rfl)
 have hl := upE_len (fr := 0) (to := (i : Int)) (F := (fun i => upE 0 n fun k => pairE true i k)) (B := 255) (fun i => by have := up255 (fr := 0) (to := n) (fun k => pairE_len true i k) (by omega) hn; omega)
 have hfo := hf0
 refine wS (wS (wR ?_))
 refine q_v hk (w_mv rfl) fun a hk => ?_
 refine q_v hk (w_mv rfl) fun a hk => ?_
 rcases Classical.em (xi < n) with hc1 | hc1
 ·
  refine q_v hk (w_lt rfl rfl (decide_eq_true hc1)) fun a hk => ?_
  refine c_end (x_t ?_)
  refine c_T hk rfl ?_
  refine (wpIn_skip (x_t ?_))
  refine wS ?_
  refine wpIn_block ?_
  refine wS (wR ?_)
  refine q_v hk (w_as rfl) fun a hk => ?_
  refine c_end (x_t ?_)
  refine wpIn_block ?_
  have hs := hs.rw0 (congrArg (fun q => row 112 3 (.slice ai ni ci) ni (el ec q)) (show ((upE 0 (i : Int) (fun i => upE 0 n fun k => pairE true i k)) : List _) = ((upE 0 (i : Int) (fun i => upE 0 n fun k => pairE true i k)) ++ upE 0 (0 : Int) (fun k => pairE true (i : Int) k)) from by rw [upE_nil (fr := 0) (a := 0) (F := fun k => pairE true (i : Int) k) (by omega), List.append_nil]))
  refine c_loop (α := Nat) (fun k a w => ∃ (ak : Option Addr) (nk : Nat) (ck : Nat) (xk : Int), (k ≤ n.toNat ∧ xk = (k : Int)) ∧ Kn [] 34 [(9, .int .i64 xk), (7, .slice ak nk ck), (12, .bool true), (11, .int .i64 n), (10, .int .i64 xi), (8, .int .i64 xi), (6, .slice none 0 0), (0, .int .i64 n), (1, .int .i64 n), (2, .bool false)] a ∧ Sat no W [row 112 3 (.slice ak nk ck) nk (el ec ((upE 0 (i : Int) (fun i => upE 0 n fun k => pairE true i k)) ++ upE 0 (k : Int) (fun k => pairE true (i : Int) k)))] [] w) (fun k => n.toNat - k) 0 ?_ ?_
  · exact ⟨_, _, _, _, ⟨by omega, by omega⟩, hk.k rfl (hk.k rfl (hk.k rfl (hk.k rfl (hk.k rfl (hk.k rfl (hk.k rfl (hk.k rfl (hk.k rfl (hk.k rfl hk.nil))))))))), hs⟩
  rintro k a w ⟨ak, nk, ck, xk, hf0, hk, hs⟩
  have hck := row_cnt (hs.mi 0 rfl)
  have hl2 := upE_len (fr := 0) (to := (k : Int)) (F := fun k => pairE true (i : Int) k) (B := 1) (fun k => pairE_len true (i : Int) k)
  rw [List.length_append] at hck
  have hf1 := hf0
  have hf0 := hfo
  refine wS (wS (wR ?_))
  refine q_v hk (w_mv rfl) fun a hk => ?_
  refine q_v hk (w_mv rfl) fun a hk => ?_
  rcases Classical.em (xk < n) with hc2 | hc2
  ·
   refine q_v hk (w_lt rfl rfl (decide_eq_true hc2)) fun a hk => ?_
   refine c_end (x_t ?_)
   refine c_T hk rfl ?_
   refine (wpIn_skip (x_t ?_))
   refine wS ?_
   refine wpIn_block ?_
   refine wS (wR ?_)
   refine q_v hk (w_mv rfl) fun a hk => ?_
   refine q_v hk (w_not rfl) fun a hk => ?_
   refine q_v hk (w_mv rfl) fun a hk => ?_
   refine q_skip hk rfl rfl fun a hk => ?_
   refine q_skip hk rfl rfl fun a hk => ?_
   refine q_skip hk rfl rfl fun a hk => ?_
   refine q_v hk (w_pickT rfl rfl) fun a hk => ?_
   refine c_end (x_t ?_)
   refine c_T hk rfl ?_
   refine wR ?_
   refine q_v hk (w_mv rfl) fun a hk => ?_
   refine q_v hk (w_mv rfl) fun a hk => ?_
   refine q_v hk (w_mv rfl) fun a hk => ?_
   refine q_v hk (w_bld rfl fl112 zr112 rfl rfl) fun a hk => ?_
   refine q_bsl (els := [.tmp 30]) (cs := [.int .i64 3, .int .i64 xi, .int .i64 xk]) hk hs rfl Tryz.underlying63 ty112 zr112 rfl rfl rfl rfl rfl rfl rfl fun b3 w a hk hs => ?_
   have hs := hs.up1
   refine q_app (news := [.int .i64 3, .int .i64 xi, .int .i64 xk]) (m := 1) hk hs rfl rfl Tryz.underlying63 ty112 zr112 rfl rfl (.blk (n := 3) (hs.mi 1 rfl) rfl) rfl rfl (by omega) (by omega) rfl rfl fun a4 c5 w a hk hs => ?_
   have hs := hs.up1
   have hs := hs.drop
   have hs := hs.rw0 (congrArg _ (el_snoc (c := ec) (l := ((upE 0 (i : Int) (fun i => upE 0 n fun k => pairE true i k)) ++ upE 0 (k : Int) (fun k => pairE true (i : Int) k))) (x := (3, xi, xk))))
   refine q_v hk (w_as rfl) fun a hk => ?_
   refine (c_end (x_b (x_t ?_)))
   refine wR ?_
   refine q_v hk (w_mv rfl) fun a hk => ?_
   refine q_v hk (w_add rfl rfl (wr64 (by omega) (by omega))) fun a hk => ?_
   refine q_v hk (w_as rfl) fun a hk => ?_
   refine c_end (x_t ?_)
   have hs := hs.rw0 (congrArg (fun q => row 112 3 (.slice a4 (nk + 1) c5) (nk + 1) (el ec q)) (show ((((upE 0 (i : Int) (fun i => upE 0 n fun k => pairE true i k)) ++ upE 0 (k : Int) (fun k => pairE true (i : Int) k)) ++ [(3, xi, xk)]) : List _) = ((upE 0 (i : Int) (fun i => upE 0 n fun k => pairE true i k)) ++ upE 0 ((k + 1 : Nat) : Int) (fun k => pairE true (i : Int) k)) from by rw [show (((k + 1 : Nat) : Int)) = (k : Int) + 1 from rfl, ← upE_succ (F := fun k => pairE true (i : Int) k) (x := (k : Int)) (by omega), ← List.append_assoc]; rw [hf0.2, hf1.2, pairE_t]))
   exact ⟨k + 1, ⟨_, _, _, _, ⟨by omega, by omega⟩, hk.k rfl (hk.k rfl (hk.k rfl (hk.k rfl (hk.k rfl (hk.k rfl (hk.k rfl (hk.k rfl (hk.k rfl (hk.k rfl hk.nil))))))))), hs⟩, by omega⟩
  ·
   refine q_v hk (w_lt rfl rfl (decide_eq_false hc2)) fun a hk => ?_
   refine c_end (x_t ?_)
   refine c_F hk rfl ?_
   refine (wpIn_exit (x_te (x_te (x_be ?_))))
   refine (x_b (x_t ?_))
   refine wR ?_
   refine q_v hk (w_mv rfl) fun a hk => ?_
   refine q_v hk (w_add rfl rfl (wr64 (by omega) (by omega))) fun a hk => ?_
   refine q_v hk (w_as rfl) fun a hk => ?_
   refine c_end (x_t ?_)
   have hs := hs.rw0 (congrArg (fun q => row 112 3 (.slice ak nk ck) nk (el ec q)) (show (((upE 0 (i : Int) (fun i => upE 0 n fun k => pairE true i k)) ++ upE 0 (k : Int) (fun k => pairE true (i : Int) k)) : List _) = (upE 0 ((i + 1 : Nat) : Int) (fun i => upE 0 n fun k => pairE true i k)) from by rw [upE_to (fr := 0) (a := (k : Int)) (b := n) (by omega)]; exact upE_succ (F := (fun i => upE 0 n fun k => pairE true i k)) (x := (i : Int)) (by omega)))
   exact ⟨i + 1, ⟨_, _, _, _, ⟨by omega, by omega⟩, hk.k rfl (hk.k rfl (hk.k rfl (hk.k rfl (hk.k rfl (hk.k rfl hk.nil))))), hs⟩, by omega⟩
 ·
  refine q_v hk (w_lt rfl rfl (decide_eq_false hc1)) fun a hk => ?_
  refine c_end (x_t ?_)
  refine c_F hk rfl ?_
  refine (wpIn_exit (x_te (x_te (x_be ?_))))
  refine (x_t ?_)
  refine wS (wR ?_)
  refine q_v hk (w_mv rfl) fun a hk => ?_
  refine q_v hk (w_as rfl) fun a hk => ?_
  refine c_end (x_t ?_)
  refine (wpIn_ret ?_)
  refine c_ret1 hk rfl rfl ?_
  have hs := hs.rw0 (congrArg (fun q => row 112 3 (.slice ai ni ci) ni (el ec q)) (show ((upE 0 (i : Int) (fun i => upE 0 n fun k => pairE true i k)) : List _) = (pairsE n true) from upE_to (by omega)))
  exact ⟨_, _, _, rfl, hs.fin⟩
theorem refPow_e  (W : World)  : Calls Tryz.prog 174 [].toArray W fun e w => ∃ la nn lc, e = .returned (.slice la nn lc) ∧ Sat no W [row 112 3 (.slice la nn lc) nn (el ec (inverseE))] [] w := by
 refine c_enter (args := []) Tryz.func174 rfl rfl rfl fun a hk => ?_
 have hs := Sat.start W [] (fun _ h => by cases h)
 refine wS (wR ?_)
 refine q_v hk (w_as rfl) fun a hk => ?_
 refine c_end (x_t (wS (wR ?_)))
 refine q_v hk (w_as rfl) fun a hk => ?_
 refine c_end (x_t (wS (wS (wR ?_))))
 refine q_v hk (w_as rfl) fun a hk => ?_
 refine c_end (x_t ?_)
 refine wpIn_block ?_
 have hs := hs.row0 112 3
 have hs := hs.rw0 (congrArg (fun q => row 112 3 (.slice none 0 0) 0 (el ec q)) (show ([] : List _) = (upE 0 (0 : Int) (fun i => stepE (64 - 1 - i))) from by rw [upE_nil (fr := 0) (a := 0) (F := (fun i => stepE (64 - 1 - i))) (by omega)]))
 refine c_loop (α := Nat) (fun j a w => ∃ (aj : Option Addr) (nj : Nat) (cj : Nat) (xj : Int), (j ≤ 64 ∧ xj = 63 - (j : Int)) ∧ Kn [] 23 [(2, .int .i64 xj), (1, .slice aj nj cj), (0, .slice none 0 0)] a ∧ Sat no W [row 112 3 (.slice aj nj cj) nj (el ec (upE 0 (j : Int) (fun i => stepE (64 - 1 - i))))] [] w) (fun j => 64 - j) 0 ?_ ?_
 · exact ⟨_, _, _, _, ⟨by omega, by omega⟩, hk.k rfl (hk.k rfl (hk.k rfl hk.nil)), hs⟩
 rintro j a w ⟨aj, nj, cj, xj, hf0, hk, hs⟩
 have hcj := row_cnt (hs.mi 0 rfl)
 have hlj := upE_len (fr := 0) (to := (j : Int)) (F := (fun i => stepE (64 - 1 - i))) (B := 17) (fun _ => step_len _)
 have hfo := hf0
 refine wS (wS (wR ?_))
 refine q_v hk (w_mv rfl) fun a hk => ?_
 rcases Classical.em (0 ≤ xj) with hc1 | hc1
 ·
  refine q_v hk (w_ge rfl rfl (decide_eq_true hc1)) fun a hk => ?_
  refine c_end (x_t ?_)
  refine c_T hk rfl ?_
  refine (wpIn_skip (x_t ?_))
  refine wS ?_
  refine wpIn_block ?_
  refine wS (wR ?_)
  refine q_v hk (w_mv rfl) fun a hk => ?_
  refine q_v hk (w_mv rfl) fun a hk => ?_
  refine q_v hk (w_bld rfl fl112 zr112 rfl rfl) fun a hk => ?_
  refine q_bsl (els := [.tmp 10]) (cs := [.int .i64 6, .int .i64 xj, .int .i64 0]) hk hs rfl Tryz.underlying63 ty112 zr112 rfl rfl rfl rfl rfl rfl rfl fun b2 w a hk hs => ?_
  have hs := hs.up1
  refine q_app (news := [.int .i64 6, .int .i64 xj, .int .i64 0]) (m := 1) hk hs rfl rfl Tryz.underlying63 ty112 zr112 rfl rfl (.blk (n := 3) (hs.mi 1 rfl) rfl) rfl rfl (by omega) (by omega) rfl rfl fun a3 c4 w a hk hs => ?_
  have hs := hs.up1
  have hs := hs.drop
  have hs := hs.rw0 (congrArg _ (el_snoc (c := ec) (l := (upE 0 (j : Int) (fun i => stepE (64 - 1 - i)))) (x := (6, xj, 0))))
  refine q_v hk (w_as rfl) fun a hk => ?_
  refine c_end (x_t (wS (wR ?_)))
  refine q_v hk (w_as rfl) fun a hk => ?_
  refine c_end (x_t ?_)
  refine wpIn_block ?_
  have hs := hs.rw0 (congrArg (fun q => row 112 3 (.slice a3 (nj + 1) c4) (nj + 1) (el ec q)) (show (((upE 0 (j : Int) (fun i => stepE (64 - 1 - i))) ++ [(6, xj, 0)]) : List _) = ((upE 0 (j : Int) (fun i => stepE (64 - 1 - i)) ++ [(6, xj, 0)]) ++ upE 0 (0 : Int) (fun j => [(1, j, 0)])) from by rw [upE_nil (fr := 0) (a := 0) (F := (fun j => [(1, j, 0)])) (by omega), List.append_nil]))
  refine c_loop (α := Nat) (fun k a w => ∃ (ak : Option Addr) (nk : Nat) (ck : Nat) (xk : Int), (k ≤ 16 ∧ xk = (k : Int)) ∧ Kn [] 23 [(3, .int .i64 xk), (1, .slice ak nk ck), (12, .slice a3 (nj + 1) c4), (11, .slice (some ⟨b2, 0, none⟩) 1 1), (10, .agg #[.int .i64 6, .int .i64 xj, .int .i64 0]), (9, .int .i64 xj), (8, .slice aj nj cj), (5, .bool true), (4, .int .i64 xj), (2, .int .i64 xj), (0, .slice none 0 0)] a ∧ Sat no W [row 112 3 (.slice ak nk ck) nk (el ec ((upE 0 (j : Int) (fun i => stepE (64 - 1 - i)) ++ [(6, xj, 0)]) ++ upE 0 (k : Int) (fun j => [(1, j, 0)])))] [] w) (fun k => 16 - k) 0 ?_ ?_
  · exact ⟨_, _, _, _, ⟨by omega, by omega⟩, hk.k rfl (hk.k rfl (hk.k rfl (hk.k rfl (hk.k rfl (hk.k rfl (hk.k rfl (hk.k rfl (hk.k rfl (hk.k rfl (hk.k rfl hk.nil)))))))))), hs⟩
  rintro k a w ⟨ak, nk, ck, xk, hf0, hk, hs⟩
  have hck := row_cnt (hs.mi 0 rfl)
  have hlk := upE_len (fr := 0) (to := (k : Int)) (F := (fun j => [(1, j, 0)])) (B := 1) (fun _ => by simp)
  simp only [List.length_append, List.length_singleton] at hck
  refine wS (wS (wR ?_))
  refine q_v hk (w_mv rfl) fun a hk => ?_
  rcases Classical.em (xk < 16) with hc5 | hc5
  ·
   refine q_v hk (w_lt rfl rfl (decide_eq_true hc5)) fun a hk => ?_
   refine c_end (x_t ?_)
   refine c_T hk rfl ?_
   refine (wpIn_skip (x_t ?_))
   refine wS ?_
   refine wpIn_block ?_
   refine wR ?_
   refine q_v hk (w_mv rfl) fun a hk => ?_
   refine q_v hk (w_mv rfl) fun a hk => ?_
   refine q_v hk (w_bld rfl fl112 zr112 rfl rfl) fun a hk => ?_
   refine q_bsl (els := [.tmp 19]) (cs := [.int .i64 1, .int .i64 xk, .int .i64 0]) hk hs rfl Tryz.underlying63 ty112 zr112 rfl rfl rfl rfl rfl rfl rfl fun b6 w a hk hs => ?_
   have hs := hs.up1
   refine q_app (news := [.int .i64 1, .int .i64 xk, .int .i64 0]) (m := 1) hk hs rfl rfl Tryz.underlying63 ty112 zr112 rfl rfl (.blk (n := 3) (hs.mi 1 rfl) rfl) rfl rfl (by omega) (by omega) rfl rfl fun a7 c8 w a hk hs => ?_
   have hs := hs.up1
   have hs := hs.drop
   have hs := hs.rw0 (congrArg _ (el_snoc (c := ec) (l := ((upE 0 (j : Int) (fun i => stepE (64 - 1 - i)) ++ [(6, xj, 0)]) ++ upE 0 (k : Int) (fun j => [(1, j, 0)]))) (x := (1, xk, 0))))
   refine q_v hk (w_as rfl) fun a hk => ?_
   refine (c_end (x_b (x_t ?_)))
   refine wR ?_
   refine q_v hk (w_mv rfl) fun a hk => ?_
   refine q_v hk (w_add rfl rfl (wr64 (by omega) (by omega))) fun a hk => ?_
   refine q_v hk (w_as rfl) fun a hk => ?_
   refine c_end (x_t ?_)
   have hs := hs.rw0 (congrArg (fun q => row 112 3 (.slice a7 (nk + 1) c8) (nk + 1) (el ec q)) (show ((((upE 0 (j : Int) (fun i => stepE (64 - 1 - i)) ++ [(6, xj, 0)]) ++ upE 0 (k : Int) (fun j => [(1, j, 0)])) ++ [(1, xk, 0)]) : List _) = ((upE 0 (j : Int) (fun i => stepE (64 - 1 - i)) ++ [(6, xj, 0)]) ++ upE 0 ((k + 1 : Nat) : Int) (fun j => [(1, j, 0)])) from by rw [show (((k + 1 : Nat) : Int)) = (k : Int) + 1 from rfl, ← upE_succ (F := (fun j => [(1, j, 0)])) (x := (k : Int)) (by omega), ← List.append_assoc, hf0.2]))
   exact ⟨k + 1, ⟨_, _, _, _, ⟨by omega, by omega⟩, hk.k rfl (hk.k rfl (hk.k rfl (hk.k rfl (hk.k rfl (hk.k rfl (hk.k rfl (hk.k rfl (hk.k rfl (hk.k rfl (hk.k rfl hk.nil)))))))))), hs⟩, by omega⟩
  ·
   refine q_v hk (w_lt rfl rfl (decide_eq_false hc5)) fun a hk => ?_
   refine c_end (x_t ?_)
   refine c_F hk rfl ?_
   refine (wpIn_exit (x_te (x_te (x_be ?_))))
   refine (x_b (x_t ?_))
   refine wR ?_
   refine q_v hk (w_mv rfl) fun a hk => ?_
   refine q_v hk (w_sub rfl rfl (wr64 (by omega) (by omega))) fun a hk => ?_
   refine q_v hk (w_as rfl) fun a hk => ?_
   refine c_end (x_t ?_)
   have hs := hs.rw0 (congrArg (fun q => row 112 3 (.slice ak nk ck) nk (el ec q)) (show (((upE 0 (j : Int) (fun i => stepE (64 - 1 - i)) ++ [(6, xj, 0)]) ++ upE 0 (k : Int) (fun j => [(1, j, 0)])) : List _) = (upE 0 ((j + 1 : Nat) : Int) (fun i => stepE (64 - 1 - i))) from by rw [show (((j + 1 : Nat) : Int)) = (j : Int) + 1 from rfl, ← upE_succ (F := (fun i => stepE (64 - 1 - i))) (x := (j : Int)) (by omega), upE_to (fr := 0) (a := (k : Int)) (b := 16) (by omega), hfo.2, List.append_assoc]; unfold stepE; rw [show (64 - 1 - (j : Int)) = 63 - (j : Int) by omega]))
   exact ⟨j + 1, ⟨_, _, _, _, ⟨by omega, by omega⟩, hk.k rfl (hk.k rfl (hk.k rfl hk.nil)), hs⟩, by omega⟩
 ·
  refine q_v hk (w_ge rfl rfl (decide_eq_false hc1)) fun a hk => ?_
  refine c_end (x_t ?_)
  refine c_F hk rfl ?_
  refine (wpIn_exit (x_te (x_te (x_be ?_))))
  refine (x_t ?_)
  refine wS (wR ?_)
  refine q_v hk (w_mv rfl) fun a hk => ?_
  refine q_v hk (w_as rfl) fun a hk => ?_
  refine c_end (x_t ?_)
  refine (wpIn_ret ?_)
  refine c_ret1 hk rfl rfl ?_
  have hs := hs.rw0 (congrArg (fun q => row 112 3 (.slice aj nj cj) nj (el ec q)) (show ((upE 0 (j : Int) (fun i => stepE (64 - 1 - i))) : List _) = inverseE from by rw [upE_to (fr := 0) (a := (j : Int)) (b := 64) (by omega)]; rfl))
  exact ⟨_, _, _, rfl, hs.fin⟩
def batchE (n : Int) : List Ev := if n = 0 then [] else upE 0 n coefE ++ inverseE ++ downE n coefE
theorem refBatch_e (n : Int) (W : World) (hn : n ≤ 255) (hn0 : -1000 ≤ n) : Calls Tryz.prog 158 [.int .i64 n].toArray W fun e w => ∃ la nn lc, e = .returned (.slice la nn lc) ∧ Sat no W [row 112 3 (.slice la nn lc) nn (el ec (batchE n))] [] w := by
 refine c_enter (args := [.int .i64 n]) Tryz.func158 rfl rfl rfl fun a hk => ?_
 have hs := Sat.start W [] (fun _ h => by cases h)
 refine wS (wR ?_)
 refine q_v hk (w_as rfl) fun a hk => ?_
 refine c_end (x_t (wS (wR ?_)))
 refine q_v hk (w_as rfl) fun a hk => ?_
 refine c_end (x_t (wS (wS (wR ?_))))
 refine q_v hk (w_mv rfl) fun a hk => ?_
 rcases Classical.em (n = 0) with hc1 | hc1
 ·
  refine q_v hk (w_eq rfl rfl (decide_eq_true hc1)) fun a hk => ?_
  refine c_end (x_t ?_)
  refine c_T hk rfl ?_
  refine wS (wR ?_)
  refine q_v hk (w_mv rfl) fun a hk => ?_
  refine q_v hk (w_as rfl) fun a hk => ?_
  refine c_end (x_t ?_)
  refine (wpIn_ret (x_tr ?_))
  refine c_ret1 hk rfl rfl ?_
  have e : batchE n = [] := by unfold batchE; rw [if_pos hc1]
  rw [e]
  have hs := hs.row0 112 3
  exact ⟨_, _, _, rfl, hs.fin⟩
 ·
  refine q_v hk (w_eq rfl rfl (decide_eq_false hc1)) fun a hk => ?_
  refine c_end (x_t ?_)
  refine c_F hk rfl ?_
  refine (wpIn_skip (x_t ?_))
  refine wS (wS (wR ?_))
  refine q_v hk (w_as rfl) fun a hk => ?_
  refine c_end (x_t ?_)
  refine wpIn_block ?_
  have hs := hs.row0 112 3
  have hs := hs.rw0 (congrArg (fun q => row 112 3 (.slice none 0 0) 0 (el ec q)) (show ([] : List _) = (upE 0 (0 : Int) coefE) from by rw [upE_nil (fr := 0) (a := 0) (F := coefE) (by omega)]))
  refine c_loop (α := Nat) (fun k a w => ∃ (ak : Option Addr) (nk : Nat) (ck : Nat) (xk : Int), (k ≤ n.toNat ∧ xk = (k : Int)) ∧ Kn [] 34 [(4, .int .i64 xk), (3, .slice ak nk ck), (2, .slice none 0 0), (0, .int .i64 n)] a ∧ Sat no W [row 112 3 (.slice ak nk ck) nk (el ec (upE 0 (k : Int) coefE))] [] w) (fun k => n.toNat - k) 0 ?_ ?_
  · exact ⟨_, _, _, _, ⟨by omega, by omega⟩, hk.k rfl (hk.k rfl (hk.k rfl (hk.k rfl hk.nil))), hs⟩
  rintro k a w ⟨ak, nk, ck, xk, hf0, hk, hs⟩
  have hck := row_cnt (hs.mi 0 rfl)
  have hlk := upE_len (fr := 0) (to := (k : Int)) (F := coefE) (B := 1) coef_len
  refine wS (wS (wR ?_))
  refine q_v hk (w_mv rfl) fun a hk => ?_
  refine q_v hk (w_mv rfl) fun a hk => ?_
  rcases Classical.em (xk < n) with hc2 | hc2
  ·
   refine q_v hk (w_lt rfl rfl (decide_eq_true hc2)) fun a hk => ?_
   refine c_end (x_t ?_)
   refine c_T hk rfl ?_
   refine (wpIn_skip (x_t ?_))
   refine wS ?_
   refine wpIn_block ?_
   refine wR ?_
   refine q_v hk (w_mv rfl) fun a hk => ?_
   refine q_v hk (w_mv rfl) fun a hk => ?_
   refine q_v hk (w_bld rfl fl112 zr112 rfl rfl) fun a hk => ?_
   refine q_bsl (els := [.tmp 16]) (cs := [.int .i64 2, .int .i64 xk, .int .i64 0]) hk hs rfl Tryz.underlying63 ty112 zr112 rfl rfl rfl rfl rfl rfl rfl fun b3 w a hk hs => ?_
   have hs := hs.up1
   refine q_app (news := [.int .i64 2, .int .i64 xk, .int .i64 0]) (m := 1) hk hs rfl rfl Tryz.underlying63 ty112 zr112 rfl rfl (.blk (n := 3) (hs.mi 1 rfl) rfl) rfl rfl (by omega) (by omega) rfl rfl fun a4 c5 w a hk hs => ?_
   have hs := hs.up1
   have hs := hs.drop
   have hs := hs.rw0 (congrArg _ (el_snoc (c := ec) (l := (upE 0 (k : Int) coefE)) (x := (2, xk, 0))))
   refine q_v hk (w_as rfl) fun a hk => ?_
   refine (c_end (x_b (x_t ?_)))
   refine wR ?_
   refine q_v hk (w_mv rfl) fun a hk => ?_
   refine q_v hk (w_add rfl rfl (wr64 (by omega) (by omega))) fun a hk => ?_
   refine q_v hk (w_as rfl) fun a hk => ?_
   refine c_end (x_t ?_)
   have hs := hs.rw0 (congrArg (fun q => row 112 3 (.slice a4 (nk + 1) c5) (nk + 1) (el ec q)) (show (((upE 0 (k : Int) coefE) ++ [(2, xk, 0)]) : List _) = (upE 0 ((k + 1 : Nat) : Int) coefE) from by rw [show (((k + 1 : Nat) : Int)) = (k : Int) + 1 from rfl, ← upE_succ (F := coefE) (x := (k : Int)) (by omega), hf0.2]; rfl))
   exact ⟨k + 1, ⟨_, _, _, _, ⟨by omega, by omega⟩, hk.k rfl (hk.k rfl (hk.k rfl (hk.k rfl hk.nil))), hs⟩, by omega⟩
  ·
   refine q_v hk (w_lt rfl rfl (decide_eq_false hc2)) fun a hk => ?_
   refine c_end (x_t ?_)
   refine c_F hk rfl ?_
   refine (wpIn_exit (x_te (x_te (x_be ?_))))
   refine (x_t ?_)
   refine wS (wR ?_)
   refine q_v hk (w_mv rfl) fun a hk => ?_
   refine q_call (caps := []) hk rfl rfl Tryz.func174 fo174 rfl rfl (refPow_e _) ?_
   rintro _ w ⟨a6, k7, c8, rfl, hS⟩
   have hs := hs.call1 hS
   clear hS
   refine ⟨_, rfl, fun a hk => ?_⟩
   have hs := hs.up1
   refine q_appL (news := (el ec inverseE)) (mm := k7) hk hs rfl rfl Tryz.underlying63 ty112 zr112 rfl rfl (row_lst (hs.mi 1 rfl))  (el_ones ec_ones) (by have := inverse_len; have := row_cnt (hs.mi 1 rfl); omega) (by have := inverse_len; have := row_cnt (hs.mi 1 rfl); omega) rfl rfl fun a9 c10 w a hk hs => ?_
   have hs := hs.rw0 (congrArg _ (el_app (c := ec) (l := (upE 0 (k : Int) coefE)) (m := inverseE)))
   refine q_v hk (w_as rfl) fun a hk => ?_
   refine c_end (x_t (wS (wS (wR ?_))))
   refine q_v hk (w_mv rfl) fun a hk => ?_
   refine q_v hk (w_sub rfl rfl (wr64 (by omega) (by omega))) fun a hk => ?_
   refine q_v hk (w_as rfl) fun a hk => ?_
   refine c_end (x_t ?_)
   refine wpIn_block ?_
   have hs := hs.rw0 (congrArg (fun q => row 112 3 (.slice a9 (nk + k7) c10) (nk + k7) (el ec q)) (show (((upE 0 (k : Int) coefE) ++ inverseE) : List _) = ((upE 0 (k : Int) coefE ++ inverseE) ++ upE 0 (0 : Int) (fun i => coefE (n - 1 - i))) from by rw [upE_nil (fr := 0) (a := 0) (F := (fun i => coefE (n - 1 - i))) (by omega), List.append_nil]))
   refine c_loop (α := Nat) (fun j a w => ∃ (aj : Option Addr) (nj : Nat) (cj : Nat) (xj : Int), (j ≤ n.toNat ∧ xj = n - 1 - (j : Int)) ∧ Kn [] 34 [(5, .int .i64 xj), (3, .slice aj nj cj), (2, .slice none 0 0)] a ∧ Sat no W [row 112 3 (.slice aj nj cj) nj (el ec ((upE 0 (k : Int) coefE ++ inverseE) ++ upE 0 (j : Int) (fun i => coefE (n - 1 - i)))), row 112 3 (.slice a6 k7 c8) k7 (el ec inverseE)] [] w) (fun j => n.toNat - j) 0 ?_ ?_
   · exact ⟨_, _, _, _, ⟨by omega, by omega⟩, hk.k rfl (hk.k rfl (hk.k rfl hk.nil)), hs⟩
   rintro j a w ⟨aj, nj, cj, xj, hf0, hk, hs⟩
   have hcj := row_cnt (hs.mi 0 rfl)
   have hlj := upE_len (fr := 0) (to := (j : Int)) (F := (fun i => coefE (n - 1 - i))) (B := 1) (fun _ => coef_len _)
   simp only [List.length_append, List.length_singleton] at hcj
   have hli := inverse_len
   refine wS (wS (wR ?_))
   refine q_v hk (w_mv rfl) fun a hk => ?_
   rcases Classical.em (0 ≤ xj) with hc11 | hc11
   ·
    refine q_v hk (w_ge rfl rfl (decide_eq_true hc11)) fun a hk => ?_
    refine c_end (x_t ?_)
    refine c_T hk rfl ?_
    refine (wpIn_skip (x_t ?_))
    refine wS ?_
    refine wpIn_block ?_
    refine wR ?_
    refine q_v hk (w_mv rfl) fun a hk => ?_
    refine q_v hk (w_mv rfl) fun a hk => ?_
    refine q_v hk (w_bld rfl fl112 zr112 rfl rfl) fun a hk => ?_
    refine q_bsl (els := [.tmp 30]) (cs := [.int .i64 2, .int .i64 xj, .int .i64 0]) hk hs rfl Tryz.underlying63 ty112 zr112 rfl rfl rfl rfl rfl rfl rfl fun b12 w a hk hs => ?_
    have hs := hs.up1
    refine q_app (news := [.int .i64 2, .int .i64 xj, .int .i64 0]) (m := 1) hk hs rfl rfl Tryz.underlying63 ty112 zr112 rfl rfl (.blk (n := 3) (hs.mi 1 rfl) rfl) rfl rfl (by omega) (by omega) rfl rfl fun a13 c14 w a hk hs => ?_
    have hs := hs.up1
    have hs := hs.drop
    have hs := hs.rw0 (congrArg _ (el_snoc (c := ec) (l := ((upE 0 (k : Int) coefE ++ inverseE) ++ upE 0 (j : Int) (fun i => coefE (n - 1 - i)))) (x := (2, xj, 0))))
    refine q_v hk (w_as rfl) fun a hk => ?_
    refine (c_end (x_b (x_t ?_)))
    refine wR ?_
    refine q_v hk (w_mv rfl) fun a hk => ?_
    refine q_v hk (w_sub rfl rfl (wr64 (by omega) (by omega))) fun a hk => ?_
    refine q_v hk (w_as rfl) fun a hk => ?_
    refine c_end (x_t ?_)
    have hs := hs.rw0 (congrArg (fun q => row 112 3 (.slice a13 (nj + 1) c14) (nj + 1) (el ec q)) (show ((((upE 0 (k : Int) coefE ++ inverseE) ++ upE 0 (j : Int) (fun i => coefE (n - 1 - i))) ++ [(2, xj, 0)]) : List _) = ((upE 0 (k : Int) coefE ++ inverseE) ++ upE 0 ((j + 1 : Nat) : Int) (fun i => coefE (n - 1 - i))) from by rw [show (((j + 1 : Nat) : Int)) = (j : Int) + 1 from rfl, ← upE_succ (F := (fun i => coefE (n - 1 - i))) (x := (j : Int)) (by omega), ← List.append_assoc, hf0.2]; rfl))
    exact ⟨j + 1, ⟨_, _, _, _, ⟨by omega, by omega⟩, hk.k rfl (hk.k rfl (hk.k rfl hk.nil)), hs⟩, by omega⟩
   ·
    refine q_v hk (w_ge rfl rfl (decide_eq_false hc11)) fun a hk => ?_
    refine c_end (x_t ?_)
    refine c_F hk rfl ?_
    refine (wpIn_exit (x_te (x_te (x_be ?_))))
    refine (x_t ?_)
    refine wS (wR ?_)
    refine q_v hk (w_mv rfl) fun a hk => ?_
    refine q_v hk (w_as rfl) fun a hk => ?_
    refine c_end (x_t ?_)
    refine (wpIn_ret ?_)
    refine c_ret1 hk rfl rfl ?_
    have hs := hs.up1
    have hs := hs.drop
    have hs := hs.rw0 (congrArg (fun q => row 112 3 (.slice aj nj cj) nj (el ec q)) (show (((upE 0 (k : Int) coefE ++ inverseE) ++ upE 0 (j : Int) (fun i => coefE (n - 1 - i))) : List _) = (batchE n) from by unfold batchE; rw [if_neg hc1, upE_to (fr := 0) (a := (k : Int)) (b := n) (by omega), upE_to (fr := 0) (a := (j : Int)) (b := n) (by omega)]; rfl))
    exact ⟨_, _, _, rfl, hs.fin⟩
theorem batch_len {n : Int} (h : n ≤ 255) : (batchE n).length ≤ 2000 := by
  unfold batchE
  split
  · simp
  · have h2 := up255 (fr := 0) (to := n) coef_len (by omega) h
    have h3 := down_len (n := n) coef_len h
    have h4 := inverse_len
    simp only [List.length_append]
    omega
theorem refWeights_e (n : Int) (W : World) (hn : n ≤ 255) (hn0 : -1000 ≤ n) : Calls Tryz.prog 133 [.int .i64 n].toArray W fun e w => ∃ la nn lc, e = .returned (.slice la nn lc) ∧ Sat no W [row 112 3 (.slice la nn lc) nn (el ec (weightsE n))] [] w := by
 refine c_enter (args := [.int .i64 n]) Tryz.func133 rfl rfl rfl fun a hk => ?_
 have hs := Sat.start W [] (fun _ h => by cases h)
 refine wS (wR ?_)
 refine q_v hk (w_as rfl) fun a hk => ?_
 refine c_end (x_t (wS (wR ?_)))
 refine q_v hk (w_mv rfl) fun a hk => ?_
 refine q_v hk (w_mv rfl) fun a hk => ?_
 refine q_call (caps := []) hk rfl rfl Tryz.func134 fo134 rfl rfl (refPairs_false n _ (by omega)) ?_
 rintro _ w ⟨a1, k2, c3, rfl, hS⟩
 have hs := hs.call1 hS
 clear hS
 refine ⟨_, rfl, fun a hk => ?_⟩
 refine q_v hk (w_mv rfl) fun a hk => ?_
 refine q_call (caps := []) hk rfl rfl Tryz.func158 fo158 rfl rfl (refBatch_e n _ (by omega) (by omega)) ?_
 rintro _ w ⟨a4, k5, c6, rfl, hS⟩
 have hs := hs.call1 hS
 clear hS
 refine ⟨_, rfl, fun a hk => ?_⟩
 have hs := hs.up1
 refine q_appL (news := (el ec (batchE n))) (mm := k5) hk hs rfl rfl Tryz.underlying63 ty112 zr112 rfl rfl (row_lst (hs.mi 1 rfl))  (el_ones ec_ones) (by have q0 := row_cnt (hs.mi 0 rfl); have q1 := row_cnt (hs.mi 1 rfl); (try simp only [List.length_append, List.length_singleton] at q0); (try simp only [List.length_append] at q1); have := pairs_len false hn; (try simp only [List.length_append] at this); have := batch_len hn; (try simp only [List.length_append] at this); omega) (by have q0 := row_cnt (hs.mi 0 rfl); have q1 := row_cnt (hs.mi 1 rfl); (try simp only [List.length_append, List.length_singleton] at q0); (try simp only [List.length_append] at q1); have := pairs_len false hn; (try simp only [List.length_append] at this); have := batch_len hn; (try simp only [List.length_append] at this); omega) rfl rfl fun a7 c8 w a hk hs => ?_
 have hs := hs.rw0 (congrArg _ (el_app (c := ec) (l := pairsE n false) (m := batchE n)))
 refine q_v hk (w_as rfl) fun a hk => ?_
 refine c_end (x_t ?_)
 refine (wpIn_ret ?_)
 refine c_ret1 hk rfl rfl ?_
 have hs := hs.up1
 have hs := hs.drop
 have hs := hs.rw0 (congrArg (fun q => row 112 3 (.slice a7 (k2 + k5) c8) (k2 + k5) (el ec q)) (show ((pairsE n false ++ (batchE n)) : List _) = (weightsE n) from weights_eq n))
 exact ⟨_, _, _, rfl, hs.fin⟩
theorem refInterp_e (n : Int) (W : World) (hn : n ≤ 255) (hn0 : -1000 ≤ n) : Calls Tryz.prog 97 [.int .i64 n].toArray W fun e w => ∃ la nn lc, e = .returned (.slice la nn lc) ∧ Sat no W [row 112 3 (.slice la nn lc) nn (el ec (interpE n))] [] w := by
 refine c_enter (args := [.int .i64 n]) Tryz.func97 rfl rfl rfl fun a hk => ?_
 have hs := Sat.start W [] (fun _ h => by cases h)
 refine wS (wR ?_)
 refine q_v hk (w_as rfl) fun a hk => ?_
 refine c_end (x_t (wS (wR ?_)))
 refine q_v hk (w_mv rfl) fun a hk => ?_
 refine q_call (caps := []) hk rfl rfl Tryz.func133 fo133 rfl rfl (refWeights_e n _ (by omega) (by omega)) ?_
 rintro _ w ⟨a1, k2, c3, rfl, hS⟩
 have hs := hs.call1 hS
 clear hS
 refine ⟨_, rfl, fun a hk => ?_⟩
 refine q_v hk (w_mv rfl) fun a hk => ?_
 refine q_v hk (w_mv rfl) fun a hk => ?_
 refine q_call (caps := []) hk rfl rfl Tryz.func134 fo134 rfl rfl (refPairs_true n _ (by omega)) ?_
 rintro _ w ⟨a4, k5, c6, rfl, hS⟩
 have hs := hs.call1 hS
 clear hS
 refine ⟨_, rfl, fun a hk => ?_⟩
 have hs := hs.up1
 refine q_appL (news := (el ec (pairsE n true))) (mm := k5) hk hs rfl rfl Tryz.underlying63 ty112 zr112 rfl rfl (row_lst (hs.mi 1 rfl))  (el_ones ec_ones) (by have q0 := row_cnt (hs.mi 0 rfl); have q1 := row_cnt (hs.mi 1 rfl); (try simp only [List.length_append, List.length_singleton] at q0); (try simp only [List.length_append] at q1); have := weights_len hn; (try simp only [List.length_append] at this); have := pairs_len true hn; (try simp only [List.length_append] at this); omega) (by have q0 := row_cnt (hs.mi 0 rfl); have q1 := row_cnt (hs.mi 1 rfl); (try simp only [List.length_append, List.length_singleton] at q0); (try simp only [List.length_append] at q1); have := weights_len hn; (try simp only [List.length_append] at this); have := pairs_len true hn; (try simp only [List.length_append] at this); omega) rfl rfl fun a7 c8 w a hk hs => ?_
 have hs := hs.rw0 (congrArg _ (el_app (c := ec) (l := weightsE n) (m := pairsE n true)))
 refine q_v hk (w_as rfl) fun a hk => ?_
 refine c_end (x_t ?_)
 refine (wpIn_ret ?_)
 refine c_ret1 hk rfl rfl ?_
 have hs := hs.up1
 have hs := hs.drop
 have hs := hs.rw0 (congrArg (fun q => row 112 3 (.slice a7 (k2 + k5) c8) (k2 + k5) (el ec q)) (show ((weightsE n ++ (pairsE n true)) : List _) = (interpE n) from rfl))
 exact ⟨_, _, _, rfl, hs.fin⟩
theorem refBelow_e (n k : Int) (W : World) (hn : n ≤ 255) (hk0 : 0 ≤ k) : Calls Tryz.prog 113 [.int .i64 n, .int .i64 k].toArray W fun e w => ∃ la nn lc, e = .returned (.slice la nn lc) ∧ Sat no W [row 112 3 (.slice la nn lc) nn (el ec (upE k n coefE))] [] w := by
 refine c_enter (args := [.int .i64 n, .int .i64 k]) Tryz.func113 rfl rfl rfl fun a hk => ?_
 have hs := Sat.start W [] (fun _ h => by cases h)
 refine wS (wR ?_)
 refine q_v hk (w_as rfl) fun a hk => ?_
 refine c_end (x_t (wS (wR ?_)))
 refine q_v hk (w_as rfl) fun a hk => ?_
 refine c_end (x_t (wS (wS (wR ?_))))
 refine q_v hk (w_as rfl) fun a hk => ?_
 refine c_end (x_t ?_)
 refine wpIn_block ?_
 have hs := hs.row0 112 3
 have hs := hs.rw0 (congrArg (fun q => row 112 3 (.slice none 0 0) 0 (el ec q)) (show ([] : List _) = (upE k (0 : Int) coefE) from (upE_nil (by omega)).symm))
 refine c_loop (α := Nat) (fun i a w => ∃ (ai : Option Addr) (ni : Nat) (ci : Nat) (xi : Int), (i ≤ n.toNat ∧ xi = (i : Int)) ∧ Kn [] 21 [(6, .int .i64 xi), (5, .slice ai ni ci), (4, .slice none 0 0), (0, .int .i64 n), (1, .int .i64 k)] a ∧ Sat no W [row 112 3 (.slice ai ni ci) ni (el ec (upE k (i : Int) coefE))] [] w) (fun i => n.toNat - i) 0 ?_ ?_
 · exact ⟨_, _, _, _, ⟨by omega, by omega⟩, hk.k rfl (hk.k rfl (hk.k rfl (hk.k rfl (hk.k rfl hk.nil)))), hs⟩
 rintro i a w ⟨ai, ni, ci, xi, hf0, hk, hs⟩
 have hci := row_cnt (hs.mi 0 rfl)
 have hl := upE_len (fr := k) (to := (i : Int)) (F := coefE) (B := 1) coef_len
 refine wS (wS (wR ?_))
 refine q_v hk (w_mv rfl) fun a hk => ?_
 refine q_v hk (w_mv rfl) fun a hk => ?_
 rcases Classical.em (xi < n) with hc1 | hc1
 ·
  refine q_v hk (w_lt rfl rfl (decide_eq_true hc1)) fun a hk => ?_
  refine c_end (x_t ?_)
  refine c_T hk rfl ?_
  refine (wpIn_skip (x_t ?_))
  refine wS ?_
  refine wpIn_block ?_
  refine wS (wR ?_)
  refine q_v hk (w_mv rfl) fun a hk => ?_
  refine q_v hk (w_mv rfl) fun a hk => ?_
  rcases Classical.em (k ≤ xi) with hc2 | hc2
  ·
   refine q_v hk (w_ge rfl rfl (decide_eq_true hc2)) fun a hk => ?_
   refine c_end (x_t ?_)
   refine c_T hk rfl ?_
   refine wR ?_
   refine q_v hk (w_mv rfl) fun a hk => ?_
   refine q_v hk (w_mv rfl) fun a hk => ?_
   refine q_v hk (w_bld rfl fl112 zr112 rfl rfl) fun a hk => ?_
   refine q_bsl (els := [.tmp 17]) (cs := [.int .i64 2, .int .i64 xi, .int .i64 0]) hk hs rfl Tryz.underlying63 ty112 zr112 rfl rfl rfl rfl rfl rfl rfl fun b3 w a hk hs => ?_
   have hs := hs.up1
   refine q_app (news := [.int .i64 2, .int .i64 xi, .int .i64 0]) (m := 1) hk hs rfl rfl Tryz.underlying63 ty112 zr112 rfl rfl (.blk (n := 3) (hs.mi 1 rfl) rfl) rfl rfl (by omega) (by omega) rfl rfl fun a4 c5 w a hk hs => ?_
   have hs := hs.up1
   have hs := hs.drop
   have hs := hs.rw0 (congrArg _ (el_snoc (c := ec) (l := (upE k (i : Int) coefE)) (x := (2, xi, 0))))
   refine q_v hk (w_as rfl) fun a hk => ?_
   refine (c_end (x_b (x_t ?_)))
   refine wR ?_
   refine q_v hk (w_mv rfl) fun a hk => ?_
   refine q_v hk (w_add rfl rfl (wr64 (by omega) (by omega))) fun a hk => ?_
   refine q_v hk (w_as rfl) fun a hk => ?_
   refine c_end (x_t ?_)
   have hs := hs.rw0 (congrArg (fun q => row 112 3 (.slice a4 (ni + 1) c5) (ni + 1) (el ec q)) (show (((upE k (i : Int) coefE) ++ [(2, xi, 0)]) : List _) = (upE k ((i + 1 : Nat) : Int) coefE) from by first | (rw [show (((i + 1 : Nat) : Int)) = (i : Int) + 1 from rfl, hf0.2]; exact upE_succ (F := coefE) (by omega)) | (rw [upE_nil (fr := k) (a := (i : Int)) (by omega), upE_nil (by omega)])))
   exact ⟨i + 1, ⟨_, _, _, _, ⟨by omega, by omega⟩, hk.k rfl (hk.k rfl (hk.k rfl (hk.k rfl (hk.k rfl hk.nil)))), hs⟩, by omega⟩
  ·
   refine q_v hk (w_ge rfl rfl (decide_eq_false hc2)) fun a hk => ?_
   refine c_end (x_t ?_)
   refine c_F hk rfl ?_
   refine (wpIn_skip (x_b (x_t ?_)))
   refine wR ?_
   refine q_v hk (w_mv rfl) fun a hk => ?_
   refine q_v hk (w_add rfl rfl (wr64 (by omega) (by omega))) fun a hk => ?_
   refine q_v hk (w_as rfl) fun a hk => ?_
   refine c_end (x_t ?_)
   have hs := hs.rw0 (congrArg (fun q => row 112 3 (.slice ai ni ci) ni (el ec q)) (show ((upE k (i : Int) coefE) : List _) = (upE k ((i + 1 : Nat) : Int) coefE) from by first | (rw [show (((i + 1 : Nat) : Int)) = (i : Int) + 1 from rfl, hf0.2]; exact upE_succ (F := coefE) (by omega)) | (rw [upE_nil (fr := k) (a := (i : Int)) (by omega), upE_nil (by omega)])))
   exact ⟨i + 1, ⟨_, _, _, _, ⟨by omega, by omega⟩, hk.k rfl (hk.k rfl (hk.k rfl (hk.k rfl (hk.k rfl hk.nil)))), hs⟩, by omega⟩
 ·
  refine q_v hk (w_lt rfl rfl (decide_eq_false hc1)) fun a hk => ?_
  refine c_end (x_t ?_)
  refine c_F hk rfl ?_
  refine (wpIn_exit (x_te (x_te (x_be ?_))))
  refine (x_t ?_)
  refine wS (wR ?_)
  refine q_v hk (w_mv rfl) fun a hk => ?_
  refine q_v hk (w_as rfl) fun a hk => ?_
  refine c_end (x_t ?_)
  refine (wpIn_ret ?_)
  refine c_ret1 hk rfl rfl ?_
  have hs := hs.rw0 (congrArg (fun q => row 112 3 (.slice ai ni ci) ni (el ec q)) (show ((upE k (i : Int) coefE) : List _) = (upE k n coefE) from upE_to (by omega)))
  exact ⟨_, _, _, rfl, hs.fin⟩
theorem refFits_e (n k : Int) (W : World) (hn : n ≤ 255) (hn0 : -1000 ≤ n) (hk0 : 0 ≤ k) : Calls Tryz.prog 72 [.int .i64 n, .int .i64 k].toArray W fun e w => ∃ la nn lc, e = .returned (.slice la nn lc) ∧ Sat no W [row 112 3 (.slice la nn lc) nn (el ec (interpE n ++ upE k n coefE))] [] w := by
 refine c_enter (args := [.int .i64 n, .int .i64 k]) Tryz.func72 rfl rfl rfl fun a hk => ?_
 have hs := Sat.start W [] (fun _ h => by cases h)
 refine wS (wR ?_)
 refine q_v hk (w_as rfl) fun a hk => ?_
 refine c_end (x_t (wS (wR ?_)))
 refine q_v hk (w_mv rfl) fun a hk => ?_
 refine q_call (caps := []) hk rfl rfl Tryz.func97 fo97 rfl rfl (refInterp_e n _ (by omega) (by omega)) ?_
 rintro _ w ⟨a1, k2, c3, rfl, hS⟩
 have hs := hs.call1 hS
 clear hS
 refine ⟨_, rfl, fun a hk => ?_⟩
 refine q_v hk (w_mv rfl) fun a hk => ?_
 refine q_v hk (w_mv rfl) fun a hk => ?_
 refine q_call (caps := []) hk rfl rfl Tryz.func113 fo113 rfl rfl (refBelow_e n k _ (by omega) (by omega)) ?_
 rintro _ w ⟨a4, k5, c6, rfl, hS⟩
 have hs := hs.call1 hS
 clear hS
 refine ⟨_, rfl, fun a hk => ?_⟩
 have hs := hs.up1
 refine q_appL (news := (el ec (upE k n coefE))) (mm := k5) hk hs rfl rfl Tryz.underlying63 ty112 zr112 rfl rfl (row_lst (hs.mi 1 rfl))  (el_ones ec_ones) (by have q0 := row_cnt (hs.mi 0 rfl); have q1 := row_cnt (hs.mi 1 rfl); (try simp only [List.length_append, List.length_singleton] at q0); (try simp only [List.length_append] at q1); have := interp_len hn; (try simp only [List.length_append] at this); have := up255 (fr := k) (to := n) coef_len hk0 hn; (try simp only [List.length_append] at this); omega) (by have q0 := row_cnt (hs.mi 0 rfl); have q1 := row_cnt (hs.mi 1 rfl); (try simp only [List.length_append, List.length_singleton] at q0); (try simp only [List.length_append] at q1); have := interp_len hn; (try simp only [List.length_append] at this); have := up255 (fr := k) (to := n) coef_len hk0 hn; (try simp only [List.length_append] at this); omega) rfl rfl fun a7 c8 w a hk hs => ?_
 have hs := hs.rw0 (congrArg _ (el_app (c := ec) (l := interpE n) (m := upE k n coefE)))
 refine q_v hk (w_as rfl) fun a hk => ?_
 refine c_end (x_t ?_)
 refine (wpIn_ret ?_)
 refine c_ret1 hk rfl rfl ?_
 have hs := hs.up1
 have hs := hs.drop
 exact ⟨_, _, _, rfl, hs.fin⟩
theorem fits_len {n k : Int} (hn : n ≤ 255) (hk : 0 ≤ k) : (interpE n ++ upE k n coefE).length ≤ 134000 := by have h1 := interp_len hn; have h2 := up255 (fr := k) (to := n) coef_len hk hn; rw [List.length_append]; omega
theorem refAll_e (n k m : Int) (W : World) (hn : n ≤ 255) (hn0 : -1000 ≤ n) (hk0 : 0 ≤ k) (hm : m ≤ 2115) : Calls Tryz.prog 34 [.int .i64 n, .int .i64 k, .int .i64 m].toArray W fun e w => ∃ la nn lc, e = .returned (.slice la nn lc) ∧ Sat no W [row 112 3 (.slice la nn lc) nn (el ec (checkE k n m))] [] w := by
 refine c_enter (args := [.int .i64 n, .int .i64 k, .int .i64 m]) Tryz.func34 rfl rfl rfl fun a hk => ?_
 have hs := Sat.start W [] (fun _ h => by cases h)
 refine wS (wR ?_)
 refine q_v hk (w_as rfl) fun a hk => ?_
 refine c_end (x_t (wS (wR ?_)))
 refine q_v hk (w_as rfl) fun a hk => ?_
 refine c_end (x_t (wS (wS (wR ?_))))
 refine q_v hk (w_as rfl) fun a hk => ?_
 refine c_end (x_t ?_)
 refine wpIn_block ?_
 have hs := hs.row0 112 3
 have hs := hs.rw0 (congrArg (fun q => row 112 3 (.slice none 0 0) 0 (el ec q)) (show ([] : List _) = (upE 0 (0 : Int) (fun i => [(4, i, 0)] ++ (interpE n ++ upE k n coefE))) from by rw [upE_nil (fr := 0) (a := 0) (F := (fun i => [(4, i, 0)] ++ (interpE n ++ upE k n coefE))) (by omega)]))
 refine c_loop (α := Nat) (fun j a w => ∃ (aj : Option Addr) (nj : Nat) (cj : Nat) (xj : Int), (j ≤ m.toNat ∧ xj = (j : Int)) ∧ Kn [] 25 [(8, .int .i64 xj), (7, .slice aj nj cj), (6, .slice none 0 0), (0, .int .i64 n), (1, .int .i64 k), (2, .int .i64 m)] a ∧ Sat no W [row 112 3 (.slice aj nj cj) nj (el ec (upE 0 (j : Int) (fun i => [(4, i, 0)] ++ (interpE n ++ upE k n coefE))))] [] w) (fun j => m.toNat - j) 0 ?_ ?_
 · exact ⟨_, _, _, _, ⟨by omega, by omega⟩, hk.k rfl (hk.k rfl (hk.k rfl (hk.k rfl (hk.k rfl (hk.k rfl hk.nil))))), hs⟩
 rintro j a w ⟨aj, nj, cj, xj, hf0, hk, hs⟩
 have hcj := row_cnt (hs.mi 0 rfl)
 have hlj := upE_len (fr := 0) (to := (j : Int)) (F := (fun i => [(4, i, 0)] ++ (interpE n ++ upE k n coefE))) (B := 134001) (fun i => by have := fits_len hn hk0; rw [List.length_append, List.length_singleton]; omega)
 refine wS (wS (wR ?_))
 refine q_v hk (w_mv rfl) fun a hk => ?_
 refine q_v hk (w_mv rfl) fun a hk => ?_
 rcases Classical.em (xj < m) with hc1 | hc1
 ·
  refine q_v hk (w_lt rfl rfl (decide_eq_true hc1)) fun a hk => ?_
  refine c_end (x_t ?_)
  refine c_T hk rfl ?_
  refine (wpIn_skip (x_t ?_))
  refine wS ?_
  refine wpIn_block ?_
  refine wS (wR ?_)
  refine q_v hk (w_mv rfl) fun a hk => ?_
  refine q_v hk (w_mv rfl) fun a hk => ?_
  refine q_v hk (w_bld rfl fl112 zr112 rfl rfl) fun a hk => ?_
  refine q_bsl (els := [.tmp 16]) (cs := [.int .i64 4, .int .i64 xj, .int .i64 0]) hk hs rfl Tryz.underlying63 ty112 zr112 rfl rfl rfl rfl rfl rfl rfl fun b2 w a hk hs => ?_
  have hs := hs.up1
  refine q_app (news := [.int .i64 4, .int .i64 xj, .int .i64 0]) (m := 1) hk hs rfl rfl Tryz.underlying63 ty112 zr112 rfl rfl (.blk (n := 3) (hs.mi 1 rfl) rfl) rfl rfl (by omega) (by omega) rfl rfl fun a3 c4 w a hk hs => ?_
  have hs := hs.up1
  have hs := hs.drop
  have hs := hs.rw0 (congrArg _ (el_snoc (c := ec) (l := (upE 0 (j : Int) (fun i => [(4, i, 0)] ++ (interpE n ++ upE k n coefE)))) (x := (4, xj, 0))))
  refine q_v hk (w_as rfl) fun a hk => ?_
  refine c_end (x_t (wR ?_))
  refine q_v hk (w_mv rfl) fun a hk => ?_
  refine q_v hk (w_mv rfl) fun a hk => ?_
  refine q_v hk (w_mv rfl) fun a hk => ?_
  refine q_call (caps := []) hk rfl rfl Tryz.func72 fo72 rfl rfl (refFits_e n k _ (by omega) (by omega) (by omega)) ?_
  rintro _ w ⟨a5, k6, c7, rfl, hS⟩
  have hs := hs.call1 hS
  clear hS
  refine ⟨_, rfl, fun a hk => ?_⟩
  have hs := hs.up1
  refine q_appL (news := (el ec (interpE n ++ upE k n coefE))) (mm := k6) hk hs rfl rfl Tryz.underlying63 ty112 zr112 rfl rfl (row_lst (hs.mi 1 rfl))  (el_ones ec_ones) (by have q0 := row_cnt (hs.mi 0 rfl); have q1 := row_cnt (hs.mi 1 rfl); (try simp only [List.length_append, List.length_singleton] at q0); (try simp only [List.length_append] at q1); have := fits_len hn hk0; (try simp only [List.length_append] at this); omega) (by have q0 := row_cnt (hs.mi 0 rfl); have q1 := row_cnt (hs.mi 1 rfl); (try simp only [List.length_append, List.length_singleton] at q0); (try simp only [List.length_append] at q1); have := fits_len hn hk0; (try simp only [List.length_append] at this); omega) rfl rfl fun a8 c9 w a hk hs => ?_
  have hs := hs.rw0 (congrArg _ (el_app (c := ec) (l := ((upE 0 (j : Int) (fun i => [(4, i, 0)] ++ (interpE n ++ upE k n coefE))) ++ [(4, xj, 0)])) (m := interpE n ++ upE k n coefE)))
  refine q_v hk (w_as rfl) fun a hk => ?_
  refine (c_end (x_b (x_t ?_)))
  refine wR ?_
  refine q_v hk (w_mv rfl) fun a hk => ?_
  refine q_v hk (w_add rfl rfl (wr64 (by omega) (by omega))) fun a hk => ?_
  refine q_v hk (w_as rfl) fun a hk => ?_
  refine c_end (x_t ?_)
  have hs := hs.rw0 (congrArg (fun q => row 112 3 (.slice a8 ((nj + 1) + k6) c9) ((nj + 1) + k6) (el ec q)) (show ((((upE 0 (j : Int) (fun i => [(4, i, 0)] ++ (interpE n ++ upE k n coefE))) ++ [(4, xj, 0)]) ++ (interpE n ++ upE k n coefE)) : List _) = (upE 0 ((j + 1 : Nat) : Int) (fun i => [(4, i, 0)] ++ (interpE n ++ upE k n coefE))) from by rw [show (((j + 1 : Nat) : Int)) = (j : Int) + 1 from rfl, ← upE_succ (F := (fun i => [(4, i, 0)] ++ (interpE n ++ upE k n coefE))) (x := (j : Int)) (by omega), hf0.2]; simp [List.append_assoc]))
  have hs := hs.up1
  have hs := hs.drop
  exact ⟨j + 1, ⟨_, _, _, _, ⟨by omega, by omega⟩, hk.k rfl (hk.k rfl (hk.k rfl (hk.k rfl (hk.k rfl (hk.k rfl hk.nil))))), hs⟩, by omega⟩
 ·
  refine q_v hk (w_lt rfl rfl (decide_eq_false hc1)) fun a hk => ?_
  refine c_end (x_t ?_)
  refine c_F hk rfl ?_
  refine (wpIn_exit (x_te (x_te (x_be ?_))))
  refine (x_t ?_)
  refine wS (wR ?_)
  refine q_v hk (w_mv rfl) fun a hk => ?_
  refine q_v hk (w_as rfl) fun a hk => ?_
  refine c_end (x_t ?_)
  refine (wpIn_ret ?_)
  refine c_ret1 hk rfl rfl ?_
  have hs := hs.rw0 (congrArg (fun q => row 112 3 (.slice aj nj cj) nj (el ec q)) (show ((upE 0 (j : Int) (fun i => [(4, i, 0)] ++ (interpE n ++ upE k n coefE))) : List _) = (checkE k n m) from upE_to (by omega)))
  exact ⟨_, _, _, rfl, hs.fin⟩
theorem check_len {n k m : Int} (hn : n ≤ 255) (hk : 0 ≤ k) (hm : m ≤ 2115) : (checkE k n m).length ≤ 300000000 := by have := each_len (c := m) (B := 134000) (fits_len hn hk) hm; unfold checkE; omega
theorem refSus_e (n k m : Int) (W : World) (hn : n ≤ 255) (hn0 : -900 ≤ n) (hk0 : 0 ≤ k) (hm : m ≤ 2115) : Calls Tryz.prog 35 [.int .i64 n, .int .i64 k, .int .i64 m].toArray W fun e w => ∃ la nn lc, e = .returned (.slice la nn lc) ∧ Sat no W [row 112 3 (.slice la nn lc) nn (el ec (upE 0 n fun i => [(5, i, 0)] ++ checkE k (n - 1) m))] [] w := by
 refine c_enter (args := [.int .i64 n, .int .i64 k, .int .i64 m]) Tryz.func35 rfl rfl rfl fun a hk => ?_
 have hs := Sat.start W [] (fun _ h => by cases h)
 refine wS (wR ?_)
 refine q_v hk (w_as rfl) fun a hk => ?_
 refine c_end (x_t (wS (wR ?_)))
 refine q_v hk (w_as rfl) fun a hk => ?_
 refine c_end (x_t (wS (wS (wR ?_))))
 refine q_v hk (w_as rfl) fun a hk => ?_
 refine c_end (x_t ?_)
 refine wpIn_block ?_
 have hs := hs.row0 112 3
 have hs := hs.rw0 (congrArg (fun q => row 112 3 (.slice none 0 0) 0 (el ec q)) (show ([] : List _) = (upE 0 (0 : Int) (fun i => [(5, i, 0)] ++ checkE k (n - 1) m)) from by rw [upE_nil (fr := 0) (a := 0) (F := (fun i => [(5, i, 0)] ++ checkE k (n - 1) m)) (by omega)]))
 refine c_loop (α := Nat) (fun j a w => ∃ (aj : Option Addr) (nj : Nat) (cj : Nat) (xj : Int), (j ≤ n.toNat ∧ xj = (j : Int)) ∧ Kn [] 27 [(8, .int .i64 xj), (7, .slice aj nj cj), (6, .slice none 0 0), (0, .int .i64 n), (1, .int .i64 k), (2, .int .i64 m)] a ∧ Sat no W [row 112 3 (.slice aj nj cj) nj (el ec (upE 0 (j : Int) (fun i => [(5, i, 0)] ++ checkE k (n - 1) m)))] [] w) (fun j => n.toNat - j) 0 ?_ ?_
 · exact ⟨_, _, _, _, ⟨by omega, by omega⟩, hk.k rfl (hk.k rfl (hk.k rfl (hk.k rfl (hk.k rfl (hk.k rfl hk.nil))))), hs⟩
 rintro j a w ⟨aj, nj, cj, xj, hf0, hk, hs⟩
 have hcj := row_cnt (hs.mi 0 rfl)
 have hlj := upE_len (fr := 0) (to := (j : Int)) (F := (fun i => [(5, i, 0)] ++ checkE k (n - 1) m)) (B := 300000001) (fun i => by have := check_len (n := n - 1) (k := k) (m := m) (by omega) hk0 hm; rw [List.length_append, List.length_singleton]; omega)
 refine wS (wS (wR ?_))
 refine q_v hk (w_mv rfl) fun a hk => ?_
 refine q_v hk (w_mv rfl) fun a hk => ?_
 rcases Classical.em (xj < n) with hc1 | hc1
 ·
  refine q_v hk (w_lt rfl rfl (decide_eq_true hc1)) fun a hk => ?_
  refine c_end (x_t ?_)
  refine c_T hk rfl ?_
  refine (wpIn_skip (x_t ?_))
  refine wS ?_
  refine wpIn_block ?_
  refine wS (wR ?_)
  refine q_v hk (w_mv rfl) fun a hk => ?_
  refine q_v hk (w_mv rfl) fun a hk => ?_
  refine q_v hk (w_bld rfl fl112 zr112 rfl rfl) fun a hk => ?_
  refine q_bsl (els := [.tmp 16]) (cs := [.int .i64 5, .int .i64 xj, .int .i64 0]) hk hs rfl Tryz.underlying63 ty112 zr112 rfl rfl rfl rfl rfl rfl rfl fun b2 w a hk hs => ?_
  have hs := hs.up1
  refine q_app (news := [.int .i64 5, .int .i64 xj, .int .i64 0]) (m := 1) hk hs rfl rfl Tryz.underlying63 ty112 zr112 rfl rfl (.blk (n := 3) (hs.mi 1 rfl) rfl) rfl rfl (by omega) (by omega) rfl rfl fun a3 c4 w a hk hs => ?_
  have hs := hs.up1
  have hs := hs.drop
  have hs := hs.rw0 (congrArg _ (el_snoc (c := ec) (l := (upE 0 (j : Int) (fun i => [(5, i, 0)] ++ checkE k (n - 1) m))) (x := (5, xj, 0))))
  refine q_v hk (w_as rfl) fun a hk => ?_
  refine c_end (x_t (wR ?_))
  refine q_v hk (w_mv rfl) fun a hk => ?_
  refine q_v hk (w_mv rfl) fun a hk => ?_
  refine q_v hk (w_sub rfl rfl (wr64 (by omega) (by omega))) fun a hk => ?_
  refine q_v hk (w_mv rfl) fun a hk => ?_
  refine q_v hk (w_mv rfl) fun a hk => ?_
  refine q_call (caps := []) hk rfl rfl Tryz.func34 fo34 rfl rfl (refAll_e (n - 1) k m _ (by omega) (by omega) (by omega) (by omega)) ?_
  rintro _ w ⟨a5, k6, c7, rfl, hS⟩
  have hs := hs.call1 hS
  clear hS
  refine ⟨_, rfl, fun a hk => ?_⟩
  have hs := hs.up1
  refine q_appL (news := (el ec (checkE k (n - 1) m))) (mm := k6) hk hs rfl rfl Tryz.underlying63 ty112 zr112 rfl rfl (row_lst (hs.mi 1 rfl))  (el_ones ec_ones) (by have q0 := row_cnt (hs.mi 0 rfl); have q1 := row_cnt (hs.mi 1 rfl); (try simp only [List.length_append, List.length_singleton] at q0); (try simp only [List.length_append] at q1); have := check_len (n := n - 1) (by omega) hk0 hm; (try simp only [List.length_append] at this); omega) (by have q0 := row_cnt (hs.mi 0 rfl); have q1 := row_cnt (hs.mi 1 rfl); (try simp only [List.length_append, List.length_singleton] at q0); (try simp only [List.length_append] at q1); have := check_len (n := n - 1) (by omega) hk0 hm; (try simp only [List.length_append] at this); omega) rfl rfl fun a8 c9 w a hk hs => ?_
  have hs := hs.rw0 (congrArg _ (el_app (c := ec) (l := ((upE 0 (j : Int) (fun i => [(5, i, 0)] ++ checkE k (n - 1) m)) ++ [(5, xj, 0)])) (m := checkE k (n - 1) m)))
  refine q_v hk (w_as rfl) fun a hk => ?_
  refine (c_end (x_b (x_t ?_)))
  refine wR ?_
  refine q_v hk (w_mv rfl) fun a hk => ?_
  refine q_v hk (w_add rfl rfl (wr64 (by omega) (by omega))) fun a hk => ?_
  refine q_v hk (w_as rfl) fun a hk => ?_
  refine c_end (x_t ?_)
  have hs := hs.rw0 (congrArg (fun q => row 112 3 (.slice a8 ((nj + 1) + k6) c9) ((nj + 1) + k6) (el ec q)) (show ((((upE 0 (j : Int) (fun i => [(5, i, 0)] ++ checkE k (n - 1) m)) ++ [(5, xj, 0)]) ++ (checkE k (n - 1) m)) : List _) = (upE 0 ((j + 1 : Nat) : Int) (fun i => [(5, i, 0)] ++ checkE k (n - 1) m)) from by rw [show (((j + 1 : Nat) : Int)) = (j : Int) + 1 from rfl, ← upE_succ (F := (fun i => [(5, i, 0)] ++ checkE k (n - 1) m)) (x := (j : Int)) (by omega), hf0.2]; simp [List.append_assoc]))
  have hs := hs.up1
  have hs := hs.drop
  exact ⟨j + 1, ⟨_, _, _, _, ⟨by omega, by omega⟩, hk.k rfl (hk.k rfl (hk.k rfl (hk.k rfl (hk.k rfl (hk.k rfl hk.nil))))), hs⟩, by omega⟩
 ·
  refine q_v hk (w_lt rfl rfl (decide_eq_false hc1)) fun a hk => ?_
  refine c_end (x_t ?_)
  refine c_F hk rfl ?_
  refine (wpIn_exit (x_te (x_te (x_be ?_))))
  refine (x_t ?_)
  refine wS (wR ?_)
  refine q_v hk (w_mv rfl) fun a hk => ?_
  refine q_v hk (w_as rfl) fun a hk => ?_
  refine c_end (x_t ?_)
  refine (wpIn_ret ?_)
  refine c_ret1 hk rfl rfl ?_
  have hs := hs.rw0 (congrArg (fun q => row 112 3 (.slice aj nj cj) nj (el ec q)) (show ((upE 0 (j : Int) (fun i => [(5, i, 0)] ++ checkE k (n - 1) m)) : List _) = (upE 0 n (fun i => [(5, i, 0)] ++ checkE k (n - 1) m)) from upE_to (by omega)))
  exact ⟨_, _, _, rfl, hs.fin⟩
end Go.Proofs.YtdnkkbmpefhbjaaGreatDoor
