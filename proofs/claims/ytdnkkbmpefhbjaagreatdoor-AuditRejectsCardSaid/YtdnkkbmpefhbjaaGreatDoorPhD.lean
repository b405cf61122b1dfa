/- Part 4 of what the proof of AuditRejects needs: joined out of the texts of this seat, only what is used. -/
import Derived.Test.YtdnkkbmpefhbjaaGreatDoorPhC
import Derived.Deep.AppendSrc
import Derived.Deep.Upon
import Derived.Shelf.Bytes.SlEqualAll
namespace Go.Proofs.YtdnkkbmpefhbjaaGreatDoor
set_option linter.all false
open Go Go.RowKit Alg
/-- A share: its numbers, its payload as numbers, and where the payload lies. -/
structure Shr where
  F : Int
  T : Int
  I : Int
  L : Int
  n : Nat
  X : Nat → Nat
  a : Option Addr
  c : Nat
def shc (x : Shr) : List Value := [.int .i64 x.F, .int .i64 x.T, .int .i64 x.I, .int .i64 x.L, .slice x.a x.n x.c]
theorem shc_len (x : Shr) : (shc x).length = 5 := rfl
theorem shc_ones (x : Shr) : ones (shc x) = true := rfl
abbrev payR (x : Shr) : Res := lst 4 (.slice x.a x.n x.c) x.n (en vq x.X x.n)
/-- A list of m shares with their payloads. -/
def shareR (la : Option Addr) (m lc : Nat) (S : Nat → Shr) : Res := rall [lst 5 (.slice la m lc) m (en shc S m), rall ((List.range m).map fun i => payR (S i))]
section
variable {la : Option Addr} {m lc k : Nat} {S : Nat → Shr} {R : List Res}
theorem share_lst (h : HasR (shareR la m lc S) R) : HasR (lst 5 (.slice la m lc) m (en shc S m)) R := h.pi 0 rfl
theorem share_pay (h : HasR (shareR la m lc S) R) (hk : k < m) : HasR (payR (S k)) R := (HasR.pi (l := [_, _]) h 1 rfl).part (List.mem_map.2 ⟨k, List.mem_range.2 hk, rfl⟩)
end
/-- Bounds on the shares of a row. -/
structure ShOk (S : Nat → Shr) (m : Nat) : Prop where
  m_le : m ≤ 1000000
  n_le : ∀ k, k < m → (S k).n ≤ 100000000
  x_lt : ∀ k, k < m → ∀ i, i < (S k).n → (S k).X i < R4
def shE (x : Shr) : Int := shErr x.F x.T x.I x.L x.n x.X
/-- The first error of the first k shares. -/
def csE (S : Nat → Shr) : Nat → Int
  | 0 => 0
  | k + 1 => if csE S k ≠ 0 then csE S k else shE (S k)
def hdr (x : Shr) : Ev := (x.F, x.T, x.L)
def mixS (S : Nat → Shr) (k : Nat) : Bool := (List.range k).any fun i => decide (hdr (S i) ≠ hdr (S 0))
theorem mixS_succ (S : Nat → Shr) (k : Nat) : mixS S (k + 1) = (mixS S k || decide (hdr (S k) ≠ hdr (S 0))) := by simp [mixS, List.range_succ]
/-- The error of a list of shares. -/
def csErr (S : Nat → Shr) (m : Nat) : Int :=
  if csE S m ≠ 0 then csE S m else if mixS S m = true then 14 else if (((ksv (fun i => (S i).I) m).length : Nat) : Int) < ((m : Nat) : Int) then 15 else if ((m : Nat) : Int) = 0 ∨ ((m : Nat) : Int) < (S 0).T then 16 else 0
theorem csE_stay {S : Nat → Shr} {k : Nat} (h : csE S k ≠ 0) : ∀ d, csE S (k + d) = csE S k
  | 0 => rfl
  | d + 1 => by
    have ih := csE_stay h d
    show (if csE S (k + d) ≠ 0 then csE S (k + d) else _) = _
    rw [ih, if_pos h]
theorem csErr_at {S : Nat → Shr} {k m : Nat} (h0 : csE S k = 0) (h : shE (S k) ≠ 0) (hk : k < m) : csErr S m = shE (S k) := by
  have e : csE S (k + 1) = shE (S k) := by show (if csE S k ≠ 0 then _ else _) = _; rw [if_neg (by simp [h0])]
  have e2 := csE_stay (S := S) (k := k + 1) (by rw [e]; exact h) (m - (k + 1))
  rw [show k + 1 + (m - (k + 1)) = m by omega, e] at e2
  unfold csErr
  rw [e2, if_pos h]
theorem csE_next {S : Nat → Shr} {k : Nat} (h0 : csE S k = 0) (h : ¬ shE (S k) ≠ 0) : csE S (k + 1) = 0 := by
  show (if csE S k ≠ 0 then _ else _) = _
  rw [if_neg (by simp [h0])]
  exact Classical.not_not.1 h
/-- A column after k shares. -/
def clf (S : Nat → Shr) (ch k i : Nat) : Nat := if i < k then (S i).X ch else 0
section
variable {S : Nat → Shr} {ch k m : Nat}
theorem clf_zero : en vq (fun _ => 0) m = en vq (clf S ch 0) m := en_congr fun i _ => by unfold clf; rw [if_neg (Nat.not_lt_zero i)]
theorem clf_step : en vq (fun i => if i = k then (S k).X ch else clf S ch k i) m = en vq (clf S ch (k + 1)) m := en_congr fun i _ => by
  unfold clf
  by_cases h : i = k
  · subst h; rw [if_pos rfl, if_pos (Nat.lt_succ_self _)]
  · rw [if_neg h]
    by_cases l : i < k
    · rw [if_pos l, if_pos (by omega)]
    · rw [if_neg l, if_neg (by omega)]
theorem clf_end : en vq (clf S ch m) m = en vq (fun i => (S i).X ch) m := en_congr fun i hi => by unfold clf; rw [if_pos hi]
end
theorem hdr_c (F T I L : Int) (v : Value) (W : World) (hv : ones [v] = true) : Calls Tryz.prog 106 [.agg #[.int .i64 F, .int .i64 T, .int .i64 I, .int .i64 L, v]].toArray W fun e w => e = .returned (.agg #[.int .i64 F, .int .i64 T, .int .i64 L]) ∧ Below W.heap.size W w := by
 refine c_enter (args := [.agg #[.int .i64 F, .int .i64 T, .int .i64 I, .int .i64 L, v]]) Tryz.func106 rfl rfl rfl fun a hk => ?_
 have hs := Sat.start W [] (fun _ h => by cases h)
 refine wS (wR ?_)
 refine q_box (vs := [.int .i64 F, .int .i64 T, .int .i64 I, .int .i64 L, v]) hk hs rfl rfl rfl rfl fun b1 w a hk hs => ?_
 refine q_alc (vs := [.int .i64 0, .int .i64 0, .int .i64 0]) hk hs zr148 rfl rfl rfl fun b2 w a hk hs => ?_
 refine c_end (x_t (wS (wR ?_)))
 refine q_v hk (w_fa rfl fq53_0 ty3) fun a hk => ?_
 refine q_v hk (w_ld1 rfl ty3 (.blk (n := 1) (hs.mi 1 rfl) rfl)) fun a hk => ?_
 refine q_v hk (w_fa rfl fq53_1 ty3) fun a hk => ?_
 refine q_v hk (w_ld1 rfl ty3 (.blk (n := 1) (hs.mi 1 rfl) rfl)) fun a hk => ?_
 refine q_v hk (w_fa rfl fq53_3 ty3) fun a hk => ?_
 refine q_v hk (w_ld1 rfl ty3 (.blk (n := 1) (hs.mi 1 rfl) rfl)) fun a hk => ?_
 refine q_v hk (w_bld rfl fl148 zr148 rfl rfl) fun a hk => ?_
 refine q_sto (o := 0) (cs := [.int .i64 F, .int .i64 T, .int .i64 L]) (vs' := [.int .i64 F, .int .i64 T, .int .i64 L]) hk hs rfl rfl rfl ty148 rfl rfl rfl rfl rfl rfl fun w hs => ?_
 refine c_end (x_t ?_)
 refine (wpIn_ret ?_)
 refine c_retG (vs := [.agg #[.int .i64 F, .int .i64 T, .int .i64 L]]) hk rfl ⟨⟨_, rfl, lv_A ty148 (.blk (n := 3) (hs.mi 0 rfl) rfl) rfl⟩, trivial⟩ rfl ?_
 exact ⟨rfl, hs.toBelow⟩
theorem ckShares_c (m lc : Nat) (la : Option Addr) (S : Nat → Shr) (W : World) (HS : (shareR la m lc S).ok W) (HO : ShOk S m) (HL : Laid W) : Calls Tryz.prog 60 [.slice la m lc].toArray W fun e w => e = .returned (.int .i64 (csErr S m)) ∧ Below W.heap.size W w := by
 have hm6 := HO.m_le
 refine c_enter (args := [.slice la m lc]) Tryz.func60 rfl rfl rfl fun a hk => ?_
 have hs := Sat.start W [shareR la m lc S] (okr1 HS)
 refine wS (wR ?_)
 refine q_v hk (w_as rfl) fun a hk => ?_
 refine c_end (x_t (wS (wR ?_)))
 refine q_mkm isI hk hs rfl rfl fun b1 w a hk hs => ?_
 refine q_v hk (w_as rfl) fun a hk => ?_
 refine c_end (x_t (wS (wR ?_)))
 refine q_v hk (w_as rfl) fun a hk => ?_
 refine c_end (x_t (wS (wS (wR ?_))))
 refine q_v hk (w_mv rfl) fun a hk => ?_
 refine q_v hk (w_len rfl Tryz.underlying22) fun a hk => ?_
 refine q_v hk (w_mv rfl) fun a hk => ?_
 refine c_end (x_t ?_)
 refine wpIn_block ?_
 refine c_loop (α := Nat) (fun k a w => ∃ (mx : Bool), k ≤ m ∧ csE S k = 0 ∧ mx = mixS S k ∧ Kn [] 57 [(11, .int .i64 ((k : Nat) : Int)), (4, .bool mx), (10, .int .i64 ((m : Nat) : Int)), (9, .slice la m lc), (3, .map (some b1)), (0, .slice la m lc)] a ∧ Sat no W [mapI isI b1 (ksv (fun i => (S i).I) k)] [shareR la m lc S] w) (fun k => m - k) 0 ?_ ?_
 · exact ⟨_, (by omega), rfl, rfl, hk.k rfl (hk.k rfl (hk.k rfl (hk.k rfl (hk.k rfl (hk.k rfl hk.nil))))), hs⟩
 rintro k a w ⟨mx, hf0, hf1, hf2, hk, hs⟩
 refine wS (wR ?_)
 rcases Classical.em (((k : Nat) : Int) < ((m : Nat) : Int)) with hc2 | hc2
 ·
  have hlt : k < m := by omega
  refine q_v hk (w_lt rfl rfl (decide_eq_true hc2)) fun a hk => ?_
  refine c_end (x_t (wS ?_))
  refine c_T hk rfl ?_
  refine (wpIn_skip (x_t ?_))
  refine wS ?_
  refine wpIn_block ?_
  refine wS (wR ?_)
  refine q_v hk (w_iaL (k := k) rfl rfl Tryz.underlying22 ty53 ((share_lst (HasR.nth 0 rfl : HasR (shareR la m lc S) _)).at_ hs) (by omega) (by omega)) fun a hk => ?_
  refine q_v hk (w_ldA rfl ty53 (lstq (k := k) ((share_lst (HasR.nth 0 rfl : HasR (shareR la m lc S) _)).at_ hs) (by omega) (en_chunk shc_len (by omega))) rfl) fun a hk => ?_
  refine q_alc (vs := [.int .i64 0, .int .i64 0, .int .i64 0, .int .i64 0, .slice none 0 0]) hk hs zr53 rfl rfl rfl fun b3 w a hk hs => ?_
  refine q_sto (o := 0) (cs := [.int .i64 ((S k).F), .int .i64 ((S k).T), .int .i64 ((S k).I), .int .i64 ((S k).L), .slice ((S k).a) ((S k).n) ((S k).c)]) (vs' := [.int .i64 ((S k).F), .int .i64 ((S k).T), .int .i64 ((S k).I), .int .i64 ((S k).L), .slice ((S k).a) ((S k).n) ((S k).c)]) hk hs rfl rfl rfl ty53 rfl rfl rfl rfl rfl rfl fun w hs => ?_
  refine c_end (x_t (wS (wS (wR ?_))))
  refine q_v hk (w_ldA rfl ty53 (.blk (n := 5) (hs.mi 0 rfl) rfl) rfl) fun a hk => ?_
  refine q_call (caps := []) hk rfl rfl Tryz.func105 fo105 rfl rfl (ckShare_c _ _ _ _ _ _ _ (S k).X _ ((share_pay (k := k) (HasR.nth 0 rfl : HasR (shareR la m lc S) _) (by omega)).at_ hs) (HO.n_le k hlt) (HO.x_lt k hlt) (HL.step hs.toBelow)) ?_
  rintro _ w ⟨rfl, hb⟩
  have hs := hs.below hb
  refine ⟨_, rfl, fun a hk => ?_⟩
  refine q_v hk (w_as rfl) fun a hk => ?_
  refine c_end (x_t (wS (wR ?_)))
  refine q_v hk (w_mv rfl) fun a hk => ?_
  rcases Classical.em ((shE (S k)) ≠ 0) with hc4 | hc4
  ·
   refine q_v hk (w_ne rfl rfl (decide_eq_true hc4)) fun a hk => ?_
   refine c_end (x_t ?_)
   refine c_T hk rfl ?_
   refine wS (wR ?_)
   refine q_v hk (w_mv rfl) fun a hk => ?_
   refine q_v hk (w_as rfl) fun a hk => ?_
   refine c_end (x_t ?_)
   refine (wpIn_ret (x_tr (x_br (x_tr (x_tr (x_br (x_tr ?_)))))))
   refine c_ret1 hk rfl rfl ?_
   exact ⟨by rw [csErr_at hf1 (by assumption) (by omega)]; rfl, hs.toBelow⟩
  ·
   refine q_v hk (w_ne rfl rfl (decide_eq_false hc4)) fun a hk => ?_
   refine c_end (x_t ?_)
   refine c_F hk rfl ?_
   refine (wpIn_skip (x_t ?_))
   refine wS ?_
   rcases Classical.em (mx = true) with hc5 | hc5
   ·
    obtain rfl : mx = true := hc5
    refine d_begin _ 11 (by kernel_rfl) rfl hs okL.nil fun w hs hL => ?_
    refine d_w 0 1 hk hL rfl (fun w hL => w_mv rfl) fun a hk => ?_
    refine d_w 1 3 hk hL rfl (fun w hL => w_mv rfl) fun a hk => ?_
    refine d_s 2 7 hk hL rfl (by kernel_rfl) rfl rfl fun a hk => ?_
    refine d_s 3 15 hk hL rfl (by kernel_rfl) rfl rfl fun a hk => ?_
    refine d_s 4 31 hk hL rfl (by kernel_rfl) rfl rfl fun a hk => ?_
    refine d_s 5 63 hk hL rfl (by kernel_rfl) rfl rfl fun a hk => ?_
    refine d_s 6 127 hk hL rfl (by kernel_rfl) rfl rfl fun a hk => ?_
    refine d_s 7 255 hk hL rfl (by kernel_rfl) rfl rfl fun a hk => ?_
    refine d_s 8 511 hk hL rfl (by kernel_rfl) rfl rfl fun a hk => ?_
    refine d_w 9 1023 hk hL rfl (fun w hL => w_pickT rfl rfl) fun a hk => ?_
    refine d_w 10 2047 hk hL rfl (fun w hL => w_as rfl) fun a hk => ?_
    refine d_end (by kernel_rfl) ?_
    refine (x_t ?_)
    refine wR ?_
    refine q_v hk (w_mv rfl) fun a hk => ?_
    refine q_v hk (w_fa rfl fq53_2 ty3) fun a hk => ?_
    refine q_v hk (w_ld1 rfl ty3 (.blk (n := 1) (hs.mi 0 rfl) rfl)) fun a hk => ?_
    refine q_lkm hk (hs.mi 1 rfl) rfl rfl Tryz.underlying145 Tryz.underlying3 zr3 ⟨_, rfl⟩ rfl rfl ?_
    rintro _ a ⟨z6, rfl⟩ hk
    refine q_v hk (w_add (r := IntKind.i64.wrap (z6 + 1)) rfl rfl rfl) fun a hk => ?_
    have hs := hs.up1
    refine q_mup hk hs rfl rfl rfl ⟨_, rfl⟩ Tryz.underlying145 Tryz.underlying3 rfl fun w hs => ?_
    refine (c_end (x_b (x_t ?_)))
    refine wR ?_
    refine q_v hk (w_add rfl rfl (wr64 (by omega) (by omega))) fun a hk => ?_
    refine q_v hk (w_mv rfl) fun a hk => ?_
    refine c_end (x_t ?_)
    have hs := hs.rw0 (congrArg (mapI isI b1) (ksv_succ (fun i => (S i).I) k))
    have hen := csE_next hf1 (by first | assumption | omega)
    have hmn : true = mixS S (k + 1) := by rw [mixS_succ, ← hf2]; first | rfl | (rw [Bool.false_or]; first | exact (decide_eq_true hmm).symm | exact (decide_eq_false hmm).symm)
    have hs := hs.up1
    have hs := hs.drop
    exact ⟨k + 1, ⟨_, (by omega), hen, hmn, hk.k rfl (hk.k rfl (hk.k rfl (hk.k rfl (hk.k rfl (hk.k rfl hk.nil))))), hs⟩, by omega⟩
   ·
    obtain rfl : mx = false := by simpa using hc5
    rcases Classical.em (hdr (S k) ≠ hdr (S 0)) with hc7 | hc7
    ·
     have hmm := hc7
     have hL := okL.cons (hs.mi 0 rfl) (okL.cons ((share_lst (HasR.nth 0 rfl : HasR (shareR la m lc S) _)).at_ hs) okL.nil)
     refine d_begin _ 11 (by kernel_rfl) rfl hs hL fun w hs hL => ?_
     refine d_w 0 1 hk hL rfl (fun w hL => w_mv rfl) fun a hk => ?_
     refine d_w 1 3 hk hL rfl (fun w hL => w_mv rfl) fun a hk => ?_
     refine d_w 2 7 hk hL rfl (fun w hL => w_ldA rfl ty53 (.blk (n := 5) (hL.at 0 rfl) rfl) rfl) fun a hk => ?_
     refine d_w 4 23 hk hL rfl (fun w hL => w_mv rfl) fun a hk => ?_
     refine d_w 5 55 hk hL rfl (fun w hL => w_iaL (k := 0) rfl rfl Tryz.underlying22 ty53 (hL.at 1 rfl) (by omega) (by omega)) fun a hk => ?_
     refine d_w 6 119 hk hL rfl (fun w hL => w_ldA rfl ty53 (lstq (k := 0) (hL.at 1 rfl) (by omega) (en_chunk shc_len (by omega))) rfl) fun a hk => ?_
     refine d_1 3 127 rfl (by kernel_rfl) fun K hK => ?_
     refine q_call (caps := []) hk rfl rfl Tryz.func106 fo106 rfl rfl (hdr_c _ _ _ _ _ _ rfl) ?_
     rintro _ w ⟨rfl, hb⟩
     have hs := hs.below hb
     refine ⟨_, rfl, fun a hk => ?_⟩
     have hL := okL.cons (hs.mi 0 rfl) (okL.cons ((share_lst (HasR.nth 0 rfl : HasR (shareR la m lc S) _)).at_ hs) okL.nil)
     refine c_end (x_t (hK _ _ hL ?_))
     clear hK K
     refine d_1 7 255 rfl (by kernel_rfl) fun K hK => ?_
     refine q_call (caps := []) hk rfl rfl Tryz.func106 fo106 rfl rfl (hdr_c _ _ _ _ _ _ rfl) ?_
     rintro _ w ⟨rfl, hb⟩
     have hs := hs.below hb
     refine ⟨_, rfl, fun a hk => ?_⟩
     have hL := okL.cons (hs.mi 0 rfl) (okL.cons ((share_lst (HasR.nth 0 rfl : HasR (shareR la m lc S) _)).at_ hs) okL.nil)
     refine c_end (x_t (hK _ _ hL ?_))
     clear hK K
     refine d_w 8 511 hk hL rfl (fun w hL => w_ene (u := hdr (S k)) (v := hdr (S 0)) (nb := 8) rfl rfl (by kernel_rfl) (by kernel_rfl) Tryz.underlying3 ty3 (by kernel_rfl) (decide_eq_true hc7)) fun a hk => ?_
     refine d_w 9 1023 hk hL rfl (fun w hL => w_pickF rfl rfl) fun a hk => ?_
     refine d_w 10 2047 hk hL rfl (fun w hL => w_as rfl) fun a hk => ?_
     refine d_end (by kernel_rfl) ?_
     refine (x_t ?_)
     refine wR ?_
     refine q_v hk (w_mv rfl) fun a hk => ?_
     refine q_v hk (w_fa rfl fq53_2 ty3) fun a hk => ?_
     refine q_v hk (w_ld1 rfl ty3 (.blk (n := 1) (hs.mi 0 rfl) rfl)) fun a hk => ?_
     refine q_lkm hk (hs.mi 1 rfl) rfl rfl Tryz.underlying145 Tryz.underlying3 zr3 ⟨_, rfl⟩ rfl rfl ?_
     rintro _ a ⟨z8, rfl⟩ hk
     refine q_v hk (w_add (r := IntKind.i64.wrap (z8 + 1)) rfl rfl rfl) fun a hk => ?_
     have hs := hs.up1
     refine q_mup hk hs rfl rfl rfl ⟨_, rfl⟩ Tryz.underlying145 Tryz.underlying3 rfl fun w hs => ?_
     refine (c_end (x_b (x_t ?_)))
     refine wR ?_
     refine q_v hk (w_add rfl rfl (wr64 (by omega) (by omega))) fun a hk => ?_
     refine q_v hk (w_mv rfl) fun a hk => ?_
     refine c_end (x_t ?_)
     have hs := hs.rw0 (congrArg (mapI isI b1) (ksv_succ (fun i => (S i).I) k))
     have hen := csE_next hf1 (by first | assumption | omega)
     have hmn : true = mixS S (k + 1) := by rw [mixS_succ, ← hf2]; first | rfl | (rw [Bool.false_or]; first | exact (decide_eq_true hmm).symm | exact (decide_eq_false hmm).symm)
     have hs := hs.up1
     have hs := hs.drop
     exact ⟨k + 1, ⟨_, (by omega), hen, hmn, hk.k rfl (hk.k rfl (hk.k rfl (hk.k rfl (hk.k rfl (hk.k rfl hk.nil))))), hs⟩, by omega⟩
    ·
     have hmm := hc7
     have hL := okL.cons (hs.mi 0 rfl) (okL.cons ((share_lst (HasR.nth 0 rfl : HasR (shareR la m lc S) _)).at_ hs) okL.nil)
     refine d_begin _ 11 (by kernel_rfl) rfl hs hL fun w hs hL => ?_
     refine d_w 0 1 hk hL rfl (fun w hL => w_mv rfl) fun a hk => ?_
     refine d_w 1 3 hk hL rfl (fun w hL => w_mv rfl) fun a hk => ?_
     refine d_w 2 7 hk hL rfl (fun w hL => w_ldA rfl ty53 (.blk (n := 5) (hL.at 0 rfl) rfl) rfl) fun a hk => ?_
     refine d_w 4 23 hk hL rfl (fun w hL => w_mv rfl) fun a hk => ?_
     refine d_w 5 55 hk hL rfl (fun w hL => w_iaL (k := 0) rfl rfl Tryz.underlying22 ty53 (hL.at 1 rfl) (by omega) (by omega)) fun a hk => ?_
     refine d_w 6 119 hk hL rfl (fun w hL => w_ldA rfl ty53 (lstq (k := 0) (hL.at 1 rfl) (by omega) (en_chunk shc_len (by omega))) rfl) fun a hk => ?_
     refine d_1 3 127 rfl (by kernel_rfl) fun K hK => ?_
     refine q_call (caps := []) hk rfl rfl Tryz.func106 fo106 rfl rfl (hdr_c _ _ _ _ _ _ rfl) ?_
     rintro _ w ⟨rfl, hb⟩
     have hs := hs.below hb
     refine ⟨_, rfl, fun a hk => ?_⟩
     have hL := okL.cons (hs.mi 0 rfl) (okL.cons ((share_lst (HasR.nth 0 rfl : HasR (shareR la m lc S) _)).at_ hs) okL.nil)
     refine c_end (x_t (hK _ _ hL ?_))
     clear hK K
     refine d_1 7 255 rfl (by kernel_rfl) fun K hK => ?_
     refine q_call (caps := []) hk rfl rfl Tryz.func106 fo106 rfl rfl (hdr_c _ _ _ _ _ _ rfl) ?_
     rintro _ w ⟨rfl, hb⟩
     have hs := hs.below hb
     refine ⟨_, rfl, fun a hk => ?_⟩
     have hL := okL.cons (hs.mi 0 rfl) (okL.cons ((share_lst (HasR.nth 0 rfl : HasR (shareR la m lc S) _)).at_ hs) okL.nil)
     refine c_end (x_t (hK _ _ hL ?_))
     clear hK K
     refine d_w 8 511 hk hL rfl (fun w hL => w_ene (u := hdr (S k)) (v := hdr (S 0)) (nb := 8) rfl rfl (by kernel_rfl) (by kernel_rfl) Tryz.underlying3 ty3 (by kernel_rfl) (decide_eq_false hc7)) fun a hk => ?_
     refine d_w 9 1023 hk hL rfl (fun w hL => w_pickF rfl rfl) fun a hk => ?_
     refine d_w 10 2047 hk hL rfl (fun w hL => w_as rfl) fun a hk => ?_
     refine d_end (by kernel_rfl) ?_
     refine (x_t ?_)
     refine wR ?_
     refine q_v hk (w_mv rfl) fun a hk => ?_
     refine q_v hk (w_fa rfl fq53_2 ty3) fun a hk => ?_
     refine q_v hk (w_ld1 rfl ty3 (.blk (n := 1) (hs.mi 0 rfl) rfl)) fun a hk => ?_
     refine q_lkm hk (hs.mi 1 rfl) rfl rfl Tryz.underlying145 Tryz.underlying3 zr3 ⟨_, rfl⟩ rfl rfl ?_
     rintro _ a ⟨z9, rfl⟩ hk
     refine q_v hk (w_add (r := IntKind.i64.wrap (z9 + 1)) rfl rfl rfl) fun a hk => ?_
     have hs := hs.up1
     refine q_mup hk hs rfl rfl rfl ⟨_, rfl⟩ Tryz.underlying145 Tryz.underlying3 rfl fun w hs => ?_
     refine (c_end (x_b (x_t ?_)))
     refine wR ?_
     refine q_v hk (w_add rfl rfl (wr64 (by omega) (by omega))) fun a hk => ?_
     refine q_v hk (w_mv rfl) fun a hk => ?_
     refine c_end (x_t ?_)
     have hs := hs.rw0 (congrArg (mapI isI b1) (ksv_succ (fun i => (S i).I) k))
     have hen := csE_next hf1 (by first | assumption | omega)
     have hmn : false = mixS S (k + 1) := by rw [mixS_succ, ← hf2]; first | rfl | (rw [Bool.false_or]; first | exact (decide_eq_true hmm).symm | exact (decide_eq_false hmm).symm)
     have hs := hs.up1
     have hs := hs.drop
     exact ⟨k + 1, ⟨_, (by omega), hen, hmn, hk.k rfl (hk.k rfl (hk.k rfl (hk.k rfl (hk.k rfl (hk.k rfl hk.nil))))), hs⟩, by omega⟩
 ·
  refine q_v hk (w_lt rfl rfl (decide_eq_false hc2)) fun a hk => ?_
  refine c_end (x_t (wS ?_))
  refine c_F hk rfl ?_
  refine (wpIn_exit (x_te (x_te (x_be ?_))))
  refine (x_t ?_)
  refine wS ?_
  refine wpIn_block ?_
  refine wS (wR ?_)
  refine q_v hk (w_mv rfl) fun a hk => ?_
  refine q_v hk (w_as rfl) fun a hk => ?_
  refine c_end (x_t ?_)
  rcases mx with _ | _
  ·
   refine c_F hk rfl ?_
   refine wS (wR ?_)
   refine q_v hk (w_mv rfl) fun a hk => ?_
   refine q_v hk (w_lnm (hs.mi 0 rfl) rfl Tryz.underlying145) fun a hk => ?_
   refine q_v hk (w_mv rfl) fun a hk => ?_
   refine q_v hk (w_len rfl Tryz.underlying22) fun a hk => ?_
   rcases Classical.em ((((ksv (fun i => (S i).I) k).length : Nat) : Int) < ((m : Nat) : Int)) with hc10 | hc10
   ·
    refine q_v hk (w_lt rfl rfl (decide_eq_true hc10)) fun a hk => ?_
    refine q_v hk (w_as rfl) fun a hk => ?_
    refine c_end (x_t ?_)
    refine c_T hk rfl ?_
    refine wS (wR ?_)
    refine q_v hk (w_as rfl) fun a hk => ?_
    refine c_end (x_t ?_)
    refine (wpIn_ret (x_br (x_tr ?_)))
    refine c_ret1 hk rfl rfl ?_
    have hB := hs.toBelow
    obtain rfl : m = k := by omega
    refine ⟨?_, hB⟩
    have he : csErr S m = 15 := by
     unfold csErr
     rw [if_neg (by simp [hf1])]
     first | (rw [if_pos (hf2.symm)]; done) | (rw [if_neg (by rw [← hf2]; exact Bool.false_ne_true)]; (repeat' split) <;> first | rfl | omega | contradiction)
    rw [he]
   ·
    refine q_v hk (w_lt rfl rfl (decide_eq_false hc10)) fun a hk => ?_
    refine q_v hk (w_as rfl) fun a hk => ?_
    refine c_end (x_t ?_)
    refine c_F hk rfl ?_
    refine wS (wR ?_)
    refine q_v hk (w_mv rfl) fun a hk => ?_
    refine q_v hk (w_len rfl Tryz.underlying22) fun a hk => ?_
    rcases Classical.em (((m : Nat) : Int) = 0) with hc11 | hc11
    ·
     refine q_v hk (w_eq rfl rfl (decide_eq_true hc11)) fun a hk => ?_
     refine q_v hk (w_mv rfl) fun a hk => ?_
     refine q_skip hk rfl rfl fun a hk => ?_
     refine q_skip hk rfl rfl fun a hk => ?_
     refine q_skip hk rfl rfl fun a hk => ?_
     refine q_skip hk rfl rfl fun a hk => ?_
     refine q_skip hk rfl rfl fun a hk => ?_
     refine q_skip hk rfl rfl fun a hk => ?_
     refine q_skip hk rfl rfl fun a hk => ?_
     refine q_v hk (w_pickT rfl rfl) fun a hk => ?_
     refine q_v hk (w_as rfl) fun a hk => ?_
     refine c_end (x_t ?_)
     refine c_T hk rfl ?_
     refine wS (wR ?_)
     refine q_v hk (w_as rfl) fun a hk => ?_
     refine c_end (x_t ?_)
     refine (wpIn_ret (x_br (x_tr ?_)))
     refine c_ret1 hk rfl rfl ?_
     have hB := hs.toBelow
     obtain rfl : m = k := by omega
     refine ⟨?_, hB⟩
     have he : csErr S m = 16 := by
      unfold csErr
      rw [if_neg (by simp [hf1])]
      first | (rw [if_pos (hf2.symm)]; done) | (rw [if_neg (by rw [← hf2]; exact Bool.false_ne_true)]; (repeat' split) <;> first | rfl | omega | contradiction)
     rw [he]
    ·
     refine q_v hk (w_eq rfl rfl (decide_eq_false hc11)) fun a hk => ?_
     refine q_v hk (w_mv rfl) fun a hk => ?_
     refine q_v hk (w_mv rfl) fun a hk => ?_
     refine q_v hk (w_len rfl Tryz.underlying22) fun a hk => ?_
     refine q_v hk (w_mv rfl) fun a hk => ?_
     refine q_v hk (w_iaL (k := 0) rfl rfl Tryz.underlying22 ty53 ((share_lst (HasR.nth 0 rfl : HasR (shareR la m lc S) _)).at_ hs) (by omega) (by omega)) fun a hk => ?_
     refine q_v hk (w_fa rfl fq53_1 ty3) fun a hk => ?_
     refine q_v hk (w_ld1 rfl ty3 (lstf (k := 0) (o := 1) (m := 1) ((share_lst (HasR.nth 0 rfl : HasR (shareR la m lc S) _)).at_ hs) (by omega) (en_chunk shc_len (by omega)) rfl)) fun a hk => ?_
     rcases Classical.em (((m : Nat) : Int) < ((S 0).T)) with hc12 | hc12
     ·
      refine q_v hk (w_lt rfl rfl (decide_eq_true hc12)) fun a hk => ?_
      refine q_v hk (w_pickF rfl rfl) fun a hk => ?_
      refine q_v hk (w_as rfl) fun a hk => ?_
      refine c_end (x_t ?_)
      refine c_T hk rfl ?_
      refine wS (wR ?_)
      refine q_v hk (w_as rfl) fun a hk => ?_
      refine c_end (x_t ?_)
      refine (wpIn_ret (x_br (x_tr ?_)))
      refine c_ret1 hk rfl rfl ?_
      have hB := hs.toBelow
      obtain rfl : m = k := by omega
      refine ⟨?_, hB⟩
      have he : csErr S m = 16 := by
       unfold csErr
       rw [if_neg (by simp [hf1])]
       first | (rw [if_pos (hf2.symm)]; done) | (rw [if_neg (by rw [← hf2]; exact Bool.false_ne_true)]; (repeat' split) <;> first | rfl | omega | contradiction)
      rw [he]
     ·
      refine q_v hk (w_lt rfl rfl (decide_eq_false hc12)) fun a hk => ?_
      refine q_v hk (w_pickF rfl rfl) fun a hk => ?_
      refine q_v hk (w_as rfl) fun a hk => ?_
      refine c_end (x_t ?_)
      refine c_F hk rfl ?_
      refine (wpIn_skip (x_b (x_t ?_)))
      refine wS (wR ?_)
      refine q_v hk (w_as rfl) fun a hk => ?_
      refine c_end (x_t ?_)
      refine (wpIn_ret ?_)
      refine c_ret1 hk rfl rfl ?_
      have hB := hs.toBelow
      obtain rfl : m = k := by omega
      refine ⟨?_, hB⟩
      have he : csErr S m = 0 := by
       unfold csErr
       rw [if_neg (by simp [hf1])]
       first | (rw [if_pos (hf2.symm)]; done) | (rw [if_neg (by rw [← hf2]; exact Bool.false_ne_true)]; (repeat' split) <;> first | rfl | omega | contradiction)
      rw [he]
  ·
   refine c_T hk rfl ?_
   refine wS (wR ?_)
   refine q_v hk (w_as rfl) fun a hk => ?_
   refine c_end (x_t ?_)
   refine (wpIn_ret (x_br (x_tr ?_)))
   refine c_ret1 hk rfl rfl ?_
   have hB := hs.toBelow
   obtain rfl : m = k := by omega
   refine ⟨?_, hB⟩
   have he : csErr S m = 14 := by
    unfold csErr
    rw [if_neg (by simp [hf1])]
    first | (rw [if_pos (hf2.symm)]; done) | (rw [if_neg (by rw [← hf2]; exact Bool.false_ne_true)]; (repeat' split) <;> first | rfl | omega | contradiction)
   rw [he]
theorem indices_c (m lc : Nat) (la : Option Addr) (S : Nat → Shr) (W : World) (HS : (shareR la m lc S).ok W) (hm : m ≤ 1000000) : Calls Tryz.prog 80 [.slice la m lc].toArray W fun e w => ∃ a c, e = .returned (.slice a m c) ∧ Sat no W [row 3 1 (.slice a m c) m (en ic (fun i => (S i).I) m)] [] w := by
 refine c_enter (args := [.slice la m lc]) Tryz.func80 rfl rfl rfl fun a hk => ?_
 have hs := Sat.start W [shareR la m lc S] (okr1 HS)
 refine wS (wR ?_)
 refine q_v hk (w_as rfl) fun a hk => ?_
 refine c_end (x_t (wS (wR ?_)))
 refine q_v hk (w_as rfl) fun a hk => ?_
 refine c_end (x_t (wS (wS (wR ?_))))
 refine q_v hk (w_mv rfl) fun a hk => ?_
 refine q_v hk (w_len rfl Tryz.underlying22) fun a hk => ?_
 refine q_v hk (w_mv rfl) fun a hk => ?_
 refine c_end (x_t ?_)
 refine wpIn_block ?_
 have hs := hs.row0 3 1
 refine c_loop (α := Nat) (fun k a w => ∃ (ao : Option Addr) (co : Nat), k ≤ m ∧ Kn [] 19 [(8, .int .i64 (k : Int)), (3, .slice ao k co), (7, .int .i64 ((m : Nat) : Int)), (6, .slice la m lc), (2, .slice none 0 0)] a ∧ Sat no W [row 3 1 (.slice ao k co) k (en ic (fun i => (S i).I) k)] [shareR la m lc S] w) (fun k => m - k) 0 ?_ ?_
 · exact ⟨_, _, (by omega), hk.k rfl (hk.k rfl (hk.k rfl (hk.k rfl (hk.k rfl hk.nil)))), hs⟩
 rintro k a w ⟨ao, co, hf0, hk, hs⟩
 refine wS (wR ?_)
 rcases Classical.em ((k : Int) < ((m : Nat) : Int)) with hc1 | hc1
 ·
  refine q_v hk (w_lt rfl rfl (decide_eq_true hc1)) fun a hk => ?_
  refine c_end (x_t (wS ?_))
  refine c_T hk rfl ?_
  refine (wpIn_skip (x_t ?_))
  refine wS ?_
  refine wpIn_block ?_
  refine wS (wR ?_)
  refine q_v hk (w_iaL (k := k) rfl rfl Tryz.underlying22 ty53 ((share_lst (HasR.nth 0 rfl : HasR (shareR la m lc S) _)).at_ hs) (by omega) (by omega)) fun a hk => ?_
  refine q_v hk (w_ldA rfl ty53 (lstq (k := k) ((share_lst (HasR.nth 0 rfl : HasR (shareR la m lc S) _)).at_ hs) (by omega) (en_chunk shc_len (by omega))) rfl) fun a hk => ?_
  refine q_alc (vs := [.int .i64 0, .int .i64 0, .int .i64 0, .int .i64 0, .slice none 0 0]) hk hs zr53 rfl rfl rfl fun b2 w a hk hs => ?_
  refine q_sto (o := 0) (cs := [.int .i64 ((S k).F), .int .i64 ((S k).T), .int .i64 ((S k).I), .int .i64 ((S k).L), .slice ((S k).a) ((S k).n) ((S k).c)]) (vs' := [.int .i64 ((S k).F), .int .i64 ((S k).T), .int .i64 ((S k).I), .int .i64 ((S k).L), .slice ((S k).a) ((S k).n) ((S k).c)]) hk hs rfl rfl rfl ty53 rfl rfl rfl rfl rfl rfl fun w hs => ?_
  refine c_end (x_t (wR ?_))
  refine q_v hk (w_mv rfl) fun a hk => ?_
  refine q_v hk (w_fa rfl fq53_2 ty3) fun a hk => ?_
  refine q_v hk (w_ld1 rfl ty3 (.blk (n := 1) (hs.mi 0 rfl) rfl)) fun a hk => ?_
  refine q_bsl (els := [.tmp 14]) (cs := [.int .i64 ((S k).I)]) hk hs rfl Tryz.underlying34 ty3 zr3 rfl rfl rfl rfl rfl rfl rfl fun b3 w a hk hs => ?_
  have hs := hs.up2
  refine q_app (news := [.int .i64 ((S k).I)]) (m := 1) hk hs rfl rfl Tryz.underlying34 ty3 zr3 rfl rfl (.blk (n := 1) (hs.mi 1 rfl) rfl) rfl rfl (by omega) (by omega) rfl rfl fun a4 c5 w a hk hs => ?_
  have hs := hs.up1
  have hs := hs.drop
  refine q_v hk (w_as rfl) fun a hk => ?_
  refine (c_end (x_b (x_t ?_)))
  refine wR ?_
  refine q_v hk (w_add rfl rfl (wr64 (by omega) (by omega))) fun a hk => ?_
  refine q_v hk (w_mv rfl) fun a hk => ?_
  refine c_end (x_t ?_)
  have hs := hs.rw0 (congrArg _ en_succ)
  have hs := hs.up1
  have hs := hs.drop
  exact ⟨k + 1, ⟨_, _, (by omega), hk.k rfl (hk.k rfl (hk.k rfl (hk.k rfl (hk.k rfl hk.nil)))), hs⟩, by omega⟩
 ·
  refine q_v hk (w_lt rfl rfl (decide_eq_false hc1)) fun a hk => ?_
  refine c_end (x_t (wS ?_))
  refine c_F hk rfl ?_
  refine (wpIn_exit (x_te (x_te (x_be ?_))))
  refine (x_t ?_)
  refine wS (wR ?_)
  refine q_v hk (w_mv rfl) fun a hk => ?_
  refine q_v hk (w_as rfl) fun a hk => ?_
  refine c_end (x_t ?_)
  refine (wpIn_ret ?_)
  refine c_ret1 hk rfl rfl ?_
  have hkm : k = m := by omega
  rw [hkm] at hs ⊢
  exact ⟨_, _, rfl, hs.fin⟩
theorem column_c (m lc ch : Nat) (la : Option Addr) (S : Nat → Shr) (W : World) (HS : (shareR la m lc S).ok W) (hm : m ≤ 1000000) (hc : ∀ i, i < m → ch < (S i).n ∧ (S i).n ≤ 100000000) : Calls Tryz.prog 101 [.slice la m lc, .int .i64 ((ch : Nat) : Int)].toArray W fun e w => ∃ b, e = .returned (.slice (some ⟨b, 0, none⟩) m m) ∧ Sat no W [blk b (en vq (fun i => (S i).X ch) m) 56] [] w := by
 refine c_enter (args := [.slice la m lc, .int .i64 ((ch : Nat) : Int)]) Tryz.func101 rfl rfl rfl fun a hk => ?_
 have hs := Sat.start W [shareR la m lc S] (okr1 HS)
 refine wS (wR ?_)
 refine q_v hk (w_as rfl) fun a hk => ?_
 refine c_end (x_t (wS (wR ?_)))
 refine q_v hk (w_mv rfl) fun a hk => ?_
 refine q_v hk (w_len rfl Tryz.underlying22) fun a hk => ?_
 refine q_mks (k := m) (cs := vq 0) hk hs rfl rfl Tryz.underlying51 ty56 zr56 (by kernel_rfl) rfl rfl rfl rfl (by omega) (by omega) rfl rfl fun b1 w a hk hs => ?_
 have hs := hs.rw0 (show _ = blk b1 (en vq (fun _ => 0) m) 56 from rfl)
 refine q_v hk (w_as rfl) fun a hk => ?_
 refine c_end (x_t (wS (wS (wR ?_))))
 refine q_v hk (w_mv rfl) fun a hk => ?_
 refine q_v hk (w_len rfl Tryz.underlying22) fun a hk => ?_
 refine q_v hk (w_mv rfl) fun a hk => ?_
 refine c_end (x_t ?_)
 refine wpIn_block ?_
 have hs := hs.rw0 (congrArg (fun q => blk b1 q 56) (clf_zero (S := S) (ch := ch)))
 refine c_loop (α := Nat) (fun k a w => k ≤ m ∧ Kn [] 34 [(13, .int .i64 ((k : Nat) : Int)), (12, .int .i64 ((m : Nat) : Int)), (11, .slice la m lc), (5, .slice (some ⟨b1, 0, none⟩) m m), (4, .slice none 0 0), (1, .int .i64 ((ch : Nat) : Int))] a ∧ Sat no W [blk b1 (en vq (fun i => clf S ch k i) m) 56] [shareR la m lc S] w) (fun k => m - k) 0 ?_ ?_
 · exact ⟨(by omega), hk.k rfl (hk.k rfl (hk.k rfl (hk.k rfl (hk.k rfl (hk.k rfl hk.nil))))), hs⟩
 rintro k a w ⟨hf0, hk, hs⟩
 refine wS (wR ?_)
 rcases Classical.em (((k : Nat) : Int) < ((m : Nat) : Int)) with hc2 | hc2
 ·
  have hlt : k < m := by omega
  have hck := hc k hlt
  refine q_v hk (w_lt rfl rfl (decide_eq_true hc2)) fun a hk => ?_
  refine c_end (x_t (wS ?_))
  refine c_T hk rfl ?_
  refine (wpIn_skip (x_t ?_))
  refine wS ?_
  refine wpIn_block ?_
  refine wS (wR ?_)
  refine q_v hk (w_mv rfl) fun a hk => ?_
  refine q_v hk (w_iaL (k := k) rfl rfl Tryz.underlying22 ty53 ((share_lst (HasR.nth 0 rfl : HasR (shareR la m lc S) _)).at_ hs) (by omega) (by omega)) fun a hk => ?_
  refine q_v hk (w_ldA rfl ty53 (lstq (k := k) ((share_lst (HasR.nth 0 rfl : HasR (shareR la m lc S) _)).at_ hs) (by omega) (en_chunk shc_len (by omega))) rfl) fun a hk => ?_
  refine q_alc (vs := [.int .i64 0, .int .i64 0, .int .i64 0, .int .i64 0, .slice none 0 0]) hk hs zr53 rfl rfl rfl fun b3 w a hk hs => ?_
  refine q_v hk (w_as rfl) fun a hk => ?_
  refine q_sto (o := 0) (cs := [.int .i64 ((S k).F), .int .i64 ((S k).T), .int .i64 ((S k).I), .int .i64 ((S k).L), .slice ((S k).a) ((S k).n) ((S k).c)]) (vs' := [.int .i64 ((S k).F), .int .i64 ((S k).T), .int .i64 ((S k).I), .int .i64 ((S k).L), .slice ((S k).a) ((S k).n) ((S k).c)]) hk hs rfl rfl rfl ty53 rfl rfl rfl rfl rfl rfl fun w hs => ?_
  refine c_end (x_t (wS (wR ?_)))
  refine q_v hk (w_mv rfl) fun a hk => ?_
  refine q_v hk (w_fa rfl fq53_4 ty51) fun a hk => ?_
  refine q_v hk (w_ld1 rfl ty51 (.blk (n := 1) (hs.mi 0 rfl) rfl)) fun a hk => ?_
  refine q_v hk (w_len rfl Tryz.underlying51) fun a hk => ?_
  refine q_v hk (w_sub rfl rfl (wr64 (by omega) (by omega))) fun a hk => ?_
  refine q_call (caps := []) hk rfl rfl Tryz.func136 fo136 rfl rfl (between_t _ _ _ _ (by omega)) ?_
  rintro _ _ ⟨rfl, rfl⟩
  refine ⟨_, rfl, fun a hk => ?_⟩
  refine c_end (x_t ?_)
  refine c_T hk rfl ?_
  refine wR ?_
  refine q_v hk (w_mv rfl) fun a hk => ?_
  refine q_v hk (w_mv rfl) fun a hk => ?_
  refine q_v hk (w_fa rfl fq53_4 ty51) fun a hk => ?_
  refine q_v hk (w_ld1 rfl ty51 (.blk (n := 1) (hs.mi 0 rfl) rfl)) fun a hk => ?_
  refine q_v hk (w_mv rfl) fun a hk => ?_
  refine q_v hk (w_iaL (k := ch) rfl rfl Tryz.underlying51 ty56 ((share_pay (k := k) (HasR.nth 0 rfl : HasR (shareR la m lc S) _) (by omega)).at_ hs) (by omega) (by omega)) fun a hk => ?_
  refine q_v hk (w_ldv (z := (S k).X ch) rfl ty56 (lstq (k := ch) ((share_pay (k := k) (HasR.nth 0 rfl : HasR (shareR la m lc S) _) (by omega)).at_ hs) (by omega) (en_chunk vq_len (by omega)))) fun a hk => ?_
  refine q_v hk (w_iaL (k := k) rfl rfl Tryz.underlying51 ty56 (blk_lst (hs.mi 1 rfl) (en_len vq_len) (Nat.le_refl _)) (by omega) (by omega)) fun a hk => ?_
  have hs := hs.up1
  refine q_stoE (c := vq) (xx := ((S k).X ch)) (k := k) hk hs rfl rfl rfl ty56 rfl vq_len rfl (by omega) rfl fun w hs => ?_
  refine (c_end (x_b (x_t ?_)))
  refine wR ?_
  refine q_v hk (w_add rfl rfl (wr64 (by omega) (by omega))) fun a hk => ?_
  refine q_v hk (w_mv rfl) fun a hk => ?_
  refine c_end (x_t ?_)
  have hs := hs.rw0 (congrArg (fun q => blk b1 q 56) (clf_step (S := S) (ch := ch)))
  have hs := hs.up1
  have hs := hs.drop
  exact ⟨k + 1, ⟨(by omega), hk.k rfl (hk.k rfl (hk.k rfl (hk.k rfl (hk.k rfl (hk.k rfl hk.nil))))), hs⟩, by omega⟩
 ·
  refine q_v hk (w_lt rfl rfl (decide_eq_false hc2)) fun a hk => ?_
  refine c_end (x_t (wS ?_))
  refine c_F hk rfl ?_
  refine (wpIn_exit (x_te (x_te (x_be ?_))))
  refine (x_t ?_)
  refine wS (wR ?_)
  refine q_v hk (w_mv rfl) fun a hk => ?_
  refine q_v hk (w_as rfl) fun a hk => ?_
  refine c_end (x_t ?_)
  refine (wpIn_ret ?_)
  refine c_ret1 hk rfl rfl ?_
  have hkm : k = m := by omega
  rw [hkm] at hs
  rw [clf_end] at hs
  exact ⟨_, rfl, hs.fin⟩
end Go.Proofs.YtdnkkbmpefhbjaaGreatDoor
namespace Go.Proofs.YtdnkkbmpefhbjaaGreatDoor
set_option linter.all false
open Go Go.RowKit Alg
def ptf {s : Bool} (x : Nat → Zp s) (k i : Nat) : Nat := if i < k then mq (x i) else 0
theorem ptf_zero {s : Bool} {x : Nat → Zp s} {n : Nat} : en vq (fun _ => 0) n = en vq (ptf x 0) n := en_congr fun i _ => by unfold ptf; rw [if_neg (Nat.not_lt_zero i)]
theorem ptf_step {s : Bool} {x : Nat → Zp s} {k n : Nat} : en vq (fun i => if i = k then mq (x k) else ptf x k i) n = en vq (ptf x (k + 1)) n := en_congr fun i _ => by
  unfold ptf
  by_cases h : i = k
  · subst h; rw [if_pos rfl, if_pos (Nat.lt_succ_self _)]
  · rw [if_neg h]
    by_cases l : i < k
    · rw [if_pos l, if_pos (by omega)]
    · rw [if_neg l, if_neg (by omega)]
theorem ptf_end {s : Bool} {x : Nat → Zp s} {n : Nat} : en vq (ptf x n) n = en vq (fun i => mq (x i)) n := en_congr fun i hi => by unfold ptf; rw [if_pos hi]
theorem lt255 {k : Nat} (h : k ≤ 255) : k < R4 := Nat.lt_of_le_of_lt h (by decide)
theorem points_m {F0 : Nat → Prop} {W : World} {M R : List Res} (s : Bool) (n lc : Nat) (la : Option Addr) (v : Nat → Nat) (w0 : World) (hs : Sat F0 W M ((lst 1 (.slice la n lc) n (en ic (fun i => ((v i : Nat) : Int)) n)) :: R) w0) (hn : n ≤ 1000000) (hv : ∀ i, i < n → 1 ≤ v i ∧ v i ≤ 255) : Calls Tryz.prog 117 [fieldV s, .slice la n lc].toArray w0 fun e w => ∃ b, e = .returned (.slice (some ⟨b, 0, none⟩) n n) ∧ Sat F0 W (blk b (en vq (fun i => mq (pt s v i)) n) 56 :: M) R w := by
 refine c_enter (args := [fieldV s, .slice la n lc]) Tryz.func117 rfl rfl rfl fun a hk => ?_
 refine wS (wR ?_)
 refine q_box (vs := fieldL s) hk hs rfl rfl rfl rfl fun b1 w a hk hs => ?_
 refine q_v hk (w_as rfl) fun a hk => ?_
 refine c_end (x_t (wS (wR ?_)))
 refine q_v hk (w_mv rfl) fun a hk => ?_
 refine q_v hk (w_len rfl Tryz.underlying34) fun a hk => ?_
 refine q_mks (k := n) (cs := vq 0) hk hs rfl rfl Tryz.underlying51 ty56 zr56 (by kernel_rfl) rfl rfl rfl rfl (by omega) (by omega) rfl rfl fun b2 w a hk hs => ?_
 have hs := hs.rw0 (show _ = blk b2 (en vq (fun _ => 0) n) 56 from rfl)
 refine q_v hk (w_as rfl) fun a hk => ?_
 refine c_end (x_t (wS (wS (wR ?_))))
 refine q_v hk (w_mv rfl) fun a hk => ?_
 refine q_v hk (w_len rfl Tryz.underlying34) fun a hk => ?_
 refine q_v hk (w_mv rfl) fun a hk => ?_
 refine c_end (x_t ?_)
 refine wpIn_block ?_
 have hs := hs.rw0 (congrArg (fun q => blk b2 q 56) (ptf_zero (x := pt s v)))
 refine c_loop (α := Nat) (fun k a w => k ≤ n ∧ Kn [] 28 [(13, .int .i64 ((k : Nat) : Int)), (12, .int .i64 ((n : Nat) : Int)), (11, .slice la n lc), (5, .slice (some ⟨b2, 0, none⟩) n n), (4, .slice none 0 0), (2, .pointer (some ⟨b1, 0, none⟩))] a ∧ Sat F0 W ((blk b2 (en vq (fun i => ptf (pt s v) k i) n) 56) :: (blk b1 (fieldL s) 120) :: M) ((lst 1 (.slice la n lc) n (en ic (fun i => ((v i : Nat) : Int)) n)) :: R) w) (fun k => n - k) 0 ?_ ?_
 · exact ⟨(by omega), hk.k rfl (hk.k rfl (hk.k rfl (hk.k rfl (hk.k rfl (hk.k rfl hk.nil))))), hs⟩
 rintro k a w ⟨hf0, hk, hs⟩
 refine wS (wR ?_)
 rcases Classical.em (((k : Nat) : Int) < ((n : Nat) : Int)) with hc3 | hc3
 ·
  have hvk := hv k (by omega)
  refine q_v hk (w_lt rfl rfl (decide_eq_true hc3)) fun a hk => ?_
  refine c_end (x_t (wS ?_))
  refine c_T hk rfl ?_
  refine (wpIn_skip (x_t ?_))
  refine wS ?_
  refine wpIn_block ?_
  refine wS (wR ?_)
  refine q_v hk (w_mv rfl) fun a hk => ?_
  refine q_v hk (w_iaL (k := k) rfl rfl Tryz.underlying34 ty3 (hs.ri 0 rfl) (by omega) (by omega)) fun a hk => ?_
  refine q_v hk (w_ld1 rfl ty3 (lstq (k := k) (hs.ri 0 rfl) (by omega) (en_chunk ic_len (by omega)))) fun a hk => ?_
  refine q_v hk (w_as rfl) fun a hk => ?_
  refine q_v hk (w_as rfl) fun a hk => ?_
  refine c_end (x_t (wR ?_))
  refine q_v hk (w_mv rfl) fun a hk => ?_
  refine q_v hk (w_mv rfl) fun a hk => ?_
  refine q_v hk (w_ldA rfl ty120 (.blk (n := 14) (hs.mi 1 rfl) rfl) rfl) fun a hk => ?_
  refine q_v hk (w_mv rfl) fun a hk => ?_
  refine q_v hk (w_conv rfl Tryz.underlying3 Tryz.underlying46 (wru64 (by omega) (by omega))) fun a hk => ?_
  refine q_v hk (w_bldv1 (k := v k) rfl (by omega) (by unfold Go.Proofs.YtdnkkbmpefhbjaaGreatDoor.W; omega) Tryz.underlying47 ty46 zr47) fun a hk => ?_
  refine q_call (caps := []) hk rfl rfl Tryz.func88 fo88 rfl rfl (zto_c (s := s) _ (v k) (lt255 hvk.2)) ?_
  rintro _ w ⟨rfl, hb⟩
  have hs := hs.below hb
  refine ⟨_, rfl, fun a hk => ?_⟩
  refine q_v hk (w_iaL (k := k) rfl rfl Tryz.underlying51 ty56 (blk_lst (hs.mi 0 rfl) (en_len vq_len) (Nat.le_refl _)) (by omega) (by omega)) fun a hk => ?_
  refine q_stoE (c := vq) (xx := (mq (pt s v k))) (k := k) hk hs rfl rfl rfl ty56 rfl vq_len rfl (by omega) rfl fun w hs => ?_
  refine (c_end (x_b (x_t ?_)))
  refine wR ?_
  refine q_v hk (w_add rfl rfl (wr64 (by omega) (by omega))) fun a hk => ?_
  refine q_v hk (w_mv rfl) fun a hk => ?_
  refine c_end (x_t ?_)
  have hs := hs.rw0 (congrArg (fun q => blk b2 q 56) (ptf_step (x := pt s v)))
  exact ⟨k + 1, ⟨(by omega), hk.k rfl (hk.k rfl (hk.k rfl (hk.k rfl (hk.k rfl (hk.k rfl hk.nil))))), hs⟩, by omega⟩
 ·
  refine q_v hk (w_lt rfl rfl (decide_eq_false hc3)) fun a hk => ?_
  refine c_end (x_t (wS ?_))
  refine c_F hk rfl ?_
  refine (wpIn_exit (x_te (x_te (x_be ?_))))
  refine (x_t ?_)
  refine wS (wR ?_)
  refine q_v hk (w_mv rfl) fun a hk => ?_
  refine q_v hk (w_as rfl) fun a hk => ?_
  refine c_end (x_t ?_)
  refine (wpIn_ret ?_)
  refine c_ret1 hk rfl rfl ?_
  have hs := hs.up1
  have hs := hs.drop
  have hs := hs.toR (R' := R) (fun r hr => .of (by simp [hr]))
  have hkn : k = n := by omega
  subst hkn
  rw [ptf_end] at hs
  exact ⟨_, rfl, hs⟩
theorem weights_m0 {F0 : Nat → Prop} {W : World} {M R : List Res} (s : Bool) (n lc : Nat) (la : Option Addr) (v : Nat → Nat) (t : Option Nat) (evs : List Ev) (r : Res) (w0 : World) (hs : Sat F0 W (r :: M) R w0) (hT : TapeIs t evs r) (hL : HasR (lst 1 (.slice la n lc) n (en ic (fun i => ((v i : Nat) : Int)) n)) R) (h0 : 0 < n) (hn : n ≤ 255) (hv : ∀ i, i < n → 1 ≤ v i ∧ v i ≤ 255) (hd : ∀ i k, i < k → k < n → v i ≠ v k) (he : evs.length ≤ 100000000) : Calls Tryz.prog 116 [tval t, fieldV s, .slice la n lc].toArray w0 fun e w => ∃ b r, e = .returned (.tuple #[.slice (some ⟨b, 0, none⟩) n n, .int .i64 0]) ∧ TapeIs t (evs ++ weightsE (n : Int)) r ∧ Sat F0 W (r :: blk b (en vq (fun i => mq (wgt (pt s v) n i)) n) 56 :: M) R w := by
 refine c_enter (args := [tval t, fieldV s, .slice la n lc]) Tryz.func116 rfl rfl rfl fun a hk => ?_
 refine wS (wR ?_)
 refine q_box (vs := fieldL s) hk hs rfl rfl rfl rfl fun b1 w a hk hs => ?_
 refine q_v hk (w_as rfl) fun a hk => ?_
 refine q_v hk (w_as rfl) fun a hk => ?_
 refine c_end (x_t (wS (wS (wR ?_))))
 refine q_v hk (w_mv rfl) fun a hk => ?_
 refine q_call (caps := []) hk rfl rfl Tryz.func127 fo127 rfl rfl (lcheck_c n lc la v _ ((hL).at_ hs) (by omega) hv hd) ?_
 rintro _ w ⟨rfl, hb⟩
 have hs := hs.below hb
 refine ⟨_, rfl, fun a hk => ?_⟩
 refine q_v hk (w_as rfl) fun a hk => ?_
 refine c_end (x_t (wS (wR ?_)))
 refine q_v hk (w_mv rfl) fun a hk => ?_
 refine q_v hk (w_ne rfl rfl (decide_eq_false (by decide))) fun a hk => ?_
 refine c_end (x_t ?_)
 refine c_F hk rfl ?_
 refine (wpIn_skip (x_t ?_))
 refine wS (wR ?_)
 refine q_v hk (w_ldA rfl ty120 (.blk (n := 14) (hs.mi 0 rfl) rfl) rfl) fun a hk => ?_
 refine q_v hk (w_mv rfl) fun a hk => ?_
 refine q_call (caps := []) hk rfl rfl Tryz.func117 fo117 rfl rfl (points_m s n lc la v _ (hs.hasR hL) (by omega) hv) ?_
 rintro _ w ⟨b2, rfl, hs⟩
 have hs := hs.subR (R' := R) (by simp)
 refine ⟨_, rfl, fun a hk => ?_⟩
 refine q_v hk (w_as rfl) fun a hk => ?_
 have hs := hs.frz (r := lst 4 (.slice (some ⟨b2, 0, none⟩) n n) n (en vq (fun i => mq (pt s v i)) n)) (blk_lst (hs.mi 0 rfl) (en_len vq_len) (Nat.le_refl _)) (fun _ h => (Option.some.inj h.2).symm)
 refine c_end (x_t (wS (wR ?_)))
 refine q_v hk (w_mv rfl) fun a hk => ?_
 refine q_v hk (w_len rfl Tryz.underlying51) fun a hk => ?_
 refine q_mks (k := n) (cs := vq 0) hk hs rfl rfl Tryz.underlying51 ty56 zr56 (by kernel_rfl) rfl rfl rfl rfl (by omega) (by omega) rfl rfl fun b3 w a hk hs => ?_
 have hs := hs.rw0 (show _ = blk b3 (en vq (fun _ => 0) n) 56 from rfl)
 refine q_v hk (w_as rfl) fun a hk => ?_
 refine c_end (x_t (wS (wS (wR ?_))))
 refine q_v hk (w_mv rfl) fun a hk => ?_
 refine q_v hk (w_len rfl Tryz.underlying51) fun a hk => ?_
 refine q_v hk (w_mv rfl) fun a hk => ?_
 refine c_end (x_t ?_)
 refine wpIn_block ?_
 have hs := hs.rw0 (congrArg (fun q => blk b3 q 56) (wdz_zero (x := pt s v)))
 refine c_loop (α := Nat) (fun u a w => ∃ (r : Res), u ≤ n ∧ TapeIs t (evs ++ upE 0 ((u : Nat) : Int) (pairF n)) r ∧ Kn [] 71 [(26, .int .i64 ((u : Nat) : Int)), (25, .int .i64 ((n : Nat) : Int)), (10, .slice (some ⟨b3, 0, none⟩) n n), (9, .slice (some ⟨b2, 0, none⟩) n n), (7, .int .i64 0), (6, .slice none 0 0), (4, .pointer (some ⟨b1, 0, none⟩)), (0, tval t)] a ∧ Sat F0 W ((blk b3 (en vq (fun i => Wd (pt s v) n u i) n) 56) :: (blk b1 (fieldL s) 120) :: r :: M) ((lst 4 (.slice (some ⟨b2, 0, none⟩) n n) n (en vq (fun i => mq (pt s v i)) n)) :: R) w) (fun u => n - u) 0 ?_ ?_
 · exact ⟨_, (by omega), (by rw [upE_nil (by omega), List.append_nil]; exact hT), hk.k rfl (hk.k rfl (hk.k rfl (hk.k rfl (hk.k rfl (hk.k rfl (hk.k rfl (hk.k rfl hk.nil))))))), hs⟩
 rintro u a w ⟨r, hf0, hf1, hk, hs⟩
 have hT := hf1
 refine wS (wR ?_)
 rcases Classical.em (((u : Nat) : Int) < ((n : Nat) : Int)) with hc4 | hc4
 ·
  refine q_v hk (w_lt rfl rfl (decide_eq_true hc4)) fun a hk => ?_
  refine c_end (x_t (wS ?_))
  refine c_T hk rfl ?_
  refine (wpIn_skip (x_t ?_))
  refine wS ?_
  refine wpIn_block ?_
  refine wS (wR ?_)
  refine q_v hk (w_mv rfl) fun a hk => ?_
  refine q_v hk (w_as rfl) fun a hk => ?_
  refine c_end (x_t (wS (wR ?_)))
  refine q_v hk (w_mv rfl) fun a hk => ?_
  refine q_v hk (w_mv rfl) fun a hk => ?_
  refine q_v hk (w_fa rfl fq120_3 ty56) fun a hk => ?_
  refine q_v hk (w_ldv (z := rone s) rfl ty56 (.blk (n := 4) (hs.mi 1 rfl) rfl)) fun a hk => ?_
  refine q_v hk (w_iaL (k := u) rfl rfl Tryz.underlying51 ty56 (blk_lst (hs.mi 0 rfl) (en_len vq_len) (Nat.le_refl _)) (by omega) (by omega)) fun a hk => ?_
  refine q_stoE (c := vq) (xx := (rone s)) (k := u) hk hs rfl rfl rfl ty56 rfl vq_len rfl (by omega) rfl fun w hs => ?_
  refine c_end (x_t (wS (wR ?_)))
  refine q_v hk (w_mv rfl) fun a hk => ?_
  refine q_v hk (w_len rfl Tryz.underlying51) fun a hk => ?_
  refine q_v hk (w_mv rfl) fun a hk => ?_
  refine c_end (x_t ?_)
  refine wpIn_block ?_
  have hs := hs.rw0 (congrArg (fun q => blk b3 q 56) (wdz_open (x := pt s v)))
  refine c_loop (α := Nat) (fun k a w => ∃ (r2 : Res), k ≤ n ∧ TapeIs t (evs ++ upE 0 ((u : Nat) : Int) (pairF n) ++ upE 0 ((k : Nat) : Int) (pairE false ((u : Nat) : Int))) r2 ∧ Kn [] 71 [(36, .int .i64 ((k : Nat) : Int)), (35, .int .i64 ((n : Nat) : Int)), (34, .slice (some ⟨b2, 0, none⟩) n n), (32, vec (rone s)), (31, .pointer (some ⟨b1, 6, none⟩)), (30, .int .i64 ((u : Nat) : Int)), (29, .slice (some ⟨b3, 0, none⟩) n n), (11, .int .i64 ((u : Nat) : Int)), (28, .int .i64 ((u : Nat) : Int)), (27, .bool true), (26, .int .i64 ((u : Nat) : Int)), (25, .int .i64 ((n : Nat) : Int)), (10, .slice (some ⟨b3, 0, none⟩) n n), (9, .slice (some ⟨b2, 0, none⟩) n n), (7, .int .i64 0), (6, .slice none 0 0), (4, .pointer (some ⟨b1, 0, none⟩)), (0, tval t)] a ∧ Sat F0 W ((blk b3 (en vq (fun i => Wi (pt s v) n u k i) n) 56) :: (blk b1 (fieldL s) 120) :: r2 :: M) ((lst 4 (.slice (some ⟨b2, 0, none⟩) n n) n (en vq (fun i => mq (pt s v i)) n)) :: R) w) (fun k => n - k) 0 ?_ ?_
  · exact ⟨_, (by omega), (by rw [upE_nil (a := ((0 : Nat) : Int)) (by omega), List.append_nil]; exact hT), hk.k rfl (hk.k rfl (hk.k rfl (hk.k rfl (hk.k rfl (hk.k rfl (hk.k rfl (hk.k rfl (hk.k rfl (hk.k rfl (hk.k rfl (hk.k rfl (hk.k rfl (hk.k rfl (hk.k rfl (hk.k rfl (hk.k rfl (hk.k rfl hk.nil))))))))))))))))), hs⟩
  rintro k a w ⟨r2, hf0, hf1, hk, hs⟩
  have hT := hf1
  have hlu := pairFs_len (n := n) (u := u)
  have hlk := pairK_len (k := k) (u := u)
  have hun : u * n ≤ 1000 * 1000 := Nat.mul_le_mul (by omega) (by omega)
  refine wS (wR ?_)
  rcases Classical.em (((k : Nat) : Int) < ((n : Nat) : Int)) with hc5 | hc5
  ·
   refine q_v hk (w_lt rfl rfl (decide_eq_true hc5)) fun a hk => ?_
   refine c_end (x_t (wS ?_))
   refine c_T hk rfl ?_
   refine (wpIn_skip (x_t ?_))
   refine wS ?_
   refine wpIn_block ?_
   refine wS (wR ?_)
   refine q_v hk (w_mv rfl) fun a hk => ?_
   refine q_v hk (w_as rfl) fun a hk => ?_
   refine c_end (x_t (wS (wR ?_)))
   refine q_v hk (w_mv rfl) fun a hk => ?_
   refine q_v hk (w_mv rfl) fun a hk => ?_
   rcases Classical.em (((k : Nat) : Int) ≠ ((u : Nat) : Int)) with hc6 | hc6
   ·
    refine q_v hk (w_ne rfl rfl (decide_eq_true hc6)) fun a hk => ?_
    refine c_end (x_t ?_)
    refine c_T hk rfl ?_
    refine wS (wR ?_)
    refine q_v hk (w_mv rfl) fun a hk => ?_
    refine q_v hk (w_mv rfl) fun a hk => ?_
    refine q_v hk (w_mv rfl) fun a hk => ?_
    have hs := hs.up2
    refine q_call (caps := []) hk rfl rfl Tryz.func61 fo61 rfl rfl (note_m t 3 ((u : Nat) : Int) ((k : Nat) : Int) (evs ++ upE 0 ((u : Nat) : Int) (pairF n) ++ upE 0 ((k : Nat) : Int) (pairE false ((u : Nat) : Int))) _ _ hT hs (by simp only [List.length_append]; omega)) ?_
    rintro _ w ⟨v7, r8, rfl, ht9, hs⟩
    have hT := ht9
    refine ⟨_, rfl, fun a hk => ?_⟩
    refine c_end (x_t ?_)
    have hL := okL.cons (hs.mi 2 rfl) (okL.cons (hs.ri 0 rfl) okL.nil)
    refine d_begin _ 20 (by kernel_rfl) rfl hs hL fun w hs hL => ?_
    refine d_join (n2 := 3) 131071 (fun a w => Kn [] 71 [(62, vec (mq ((pt s v u) - (pt s v k)))), (52, vec (mq (wr (pt s v) u k))), (51, .pointer (some ((adq (some ⟨b3, 0, none⟩)).add (u * 4)))), (61, vec (mq (pt s v k))), (60, .pointer (some ((adq (some ⟨b2, 0, none⟩)).add (k * 4)))), (59, .int .i64 ((k : Nat) : Int)), (58, .slice (some ⟨b2, 0, none⟩) n n), (57, vec (mq (pt s v u))), (56, .pointer (some ((adq (some ⟨b2, 0, none⟩)).add (u * 4)))), (55, .int .i64 ((u : Nat) : Int)), (54, .slice (some ⟨b2, 0, none⟩) n n), (53, fieldV s), (50, .int .i64 ((u : Nat) : Int)), (49, .slice (some ⟨b3, 0, none⟩) n n), (48, fieldV s), (47, .int .i64 ((u : Nat) : Int)), (46, .slice (some ⟨b3, 0, none⟩) n n), (45, v7), (44, .int .i64 ((k : Nat) : Int)), (43, .int .i64 ((u : Nat) : Int)), (42, tval t), (41, .bool true), (40, .int .i64 ((u : Nat) : Int)), (39, .int .i64 ((k : Nat) : Int)), (12, .int .i64 ((k : Nat) : Int)), (38, .int .i64 ((k : Nat) : Int)), (37, .bool true), (36, .int .i64 ((k : Nat) : Int)), (35, .int .i64 ((n : Nat) : Int)), (34, .slice (some ⟨b2, 0, none⟩) n n), (32, vec (rone s)), (31, .pointer (some ⟨b1, 6, none⟩)), (30, .int .i64 ((u : Nat) : Int)), (29, .slice (some ⟨b3, 0, none⟩) n n), (11, .int .i64 ((u : Nat) : Int)), (28, .int .i64 ((u : Nat) : Int)), (27, .bool true), (26, .int .i64 ((u : Nat) : Int)), (25, .int .i64 ((n : Nat) : Int)), (10, .slice (some ⟨b3, 0, none⟩) n n), (9, .slice (some ⟨b2, 0, none⟩) n n), (7, .int .i64 0), (6, .slice none 0 0), (4, .pointer (some ⟨b1, 0, none⟩)), (0, tval t)] a ∧ Sat F0 W (r8 :: (blk b3 (en vq (fun i => Wi (pt s v) n u k i) n) 56) :: (blk b1 (fieldL s) 120) :: M) ((lst 4 (.slice (some ⟨b2, 0, none⟩) n n) n (en vq (fun i => mq (pt s v i)) n)) :: R) w ∧ okL [blk b1 (fieldL s) 120, lst 4 (.slice (some ⟨b2, 0, none⟩) n n) n (en vq (fun i => mq (pt s v i)) n)] w) ?_ ?_
    ·
     intro hJ131071
     refine d_join (n2 := 4) 131007 (fun a w => Kn [] 71 [(62, vec (mq ((pt s v u) - (pt s v k)))), (51, .pointer (some ((adq (some ⟨b3, 0, none⟩)).add (u * 4)))), (61, vec (mq (pt s v k))), (60, .pointer (some ((adq (some ⟨b2, 0, none⟩)).add (k * 4)))), (59, .int .i64 ((k : Nat) : Int)), (58, .slice (some ⟨b2, 0, none⟩) n n), (57, vec (mq (pt s v u))), (56, .pointer (some ((adq (some ⟨b2, 0, none⟩)).add (u * 4)))), (55, .int .i64 ((u : Nat) : Int)), (54, .slice (some ⟨b2, 0, none⟩) n n), (53, fieldV s), (50, .int .i64 ((u : Nat) : Int)), (49, .slice (some ⟨b3, 0, none⟩) n n), (48, fieldV s), (47, .int .i64 ((u : Nat) : Int)), (46, .slice (some ⟨b3, 0, none⟩) n n), (45, v7), (44, .int .i64 ((k : Nat) : Int)), (43, .int .i64 ((u : Nat) : Int)), (42, tval t), (41, .bool true), (40, .int .i64 ((u : Nat) : Int)), (39, .int .i64 ((k : Nat) : Int)), (12, .int .i64 ((k : Nat) : Int)), (38, .int .i64 ((k : Nat) : Int)), (37, .bool true), (36, .int .i64 ((k : Nat) : Int)), (35, .int .i64 ((n : Nat) : Int)), (34, .slice (some ⟨b2, 0, none⟩) n n), (32, vec (rone s)), (31, .pointer (some ⟨b1, 6, none⟩)), (30, .int .i64 ((u : Nat) : Int)), (29, .slice (some ⟨b3, 0, none⟩) n n), (11, .int .i64 ((u : Nat) : Int)), (28, .int .i64 ((u : Nat) : Int)), (27, .bool true), (26, .int .i64 ((u : Nat) : Int)), (25, .int .i64 ((n : Nat) : Int)), (10, .slice (some ⟨b3, 0, none⟩) n n), (9, .slice (some ⟨b2, 0, none⟩) n n), (7, .int .i64 0), (6, .slice none 0 0), (4, .pointer (some ⟨b1, 0, none⟩)), (0, tval t)] a ∧ Sat F0 W (r8 :: (blk b3 (en vq (fun i => Wi (pt s v) n u k i) n) 56) :: (blk b1 (fieldL s) 120) :: M) ((lst 4 (.slice (some ⟨b2, 0, none⟩) n n) n (en vq (fun i => mq (pt s v i)) n)) :: R) w ∧ okL [blk b1 (fieldL s) 120, lst 4 (.slice (some ⟨b2, 0, none⟩) n n) n (en vq (fun i => mq (pt s v i)) n)] w) ?_ ?_
     ·
      intro hJ131007
      refine d_w 0 1 hk hL rfl (fun w hL => w_mv rfl) fun a hk => ?_
      refine d_w 1 3 hk hL rfl (fun w hL => w_mv rfl) fun a hk => ?_
      refine d_w 2 7 hk hL rfl (fun w hL => w_ldA rfl ty120 (.blk (n := 14) (hL.at 0 rfl) rfl) rfl) fun a hk => ?_
      refine d_w 3 15 hk hL rfl (fun w hL => w_mv rfl) fun a hk => ?_
      refine d_w 4 31 hk hL rfl (fun w hL => w_mv rfl) fun a hk => ?_
      refine d_w 7 159 hk hL rfl (fun w hL => w_ldA rfl ty120 (.blk (n := 14) (hL.at 0 rfl) rfl) rfl) fun a hk => ?_
      refine d_w 8 415 hk hL rfl (fun w hL => w_mv rfl) fun a hk => ?_
      refine d_w 9 927 hk hL rfl (fun w hL => w_mv rfl) fun a hk => ?_
      refine d_w 10 1951 hk hL rfl (fun w hL => w_iaL (k := u) rfl rfl Tryz.underlying51 ty56 (hL.at 1 rfl) (by omega) (by omega)) fun a hk => ?_
      refine d_w 11 3999 hk hL rfl (fun w hL => w_ldv (z := mq (pt s v u)) rfl ty56 (lstq (k := u) (hL.at 1 rfl) (by omega) (en_chunk vq_len (by omega)))) fun a hk => ?_
      refine d_w 12 8095 hk hL rfl (fun w hL => w_mv rfl) fun a hk => ?_
      refine d_w 13 16287 hk hL rfl (fun w hL => w_mv rfl) fun a hk => ?_
      refine d_w 14 32671 hk hL rfl (fun w hL => w_iaL (k := k) rfl rfl Tryz.underlying51 ty56 (hL.at 1 rfl) (by omega) (by omega)) fun a hk => ?_
      refine d_w 15 65439 hk hL rfl (fun w hL => w_ldv (z := mq (pt s v k)) rfl ty56 (lstq (k := k) (hL.at 1 rfl) (by omega) (en_chunk vq_len (by omega)))) fun a hk => ?_
      refine d_2 5 16 65471 130975 rfl rfl (by kernel_rfl) (fun K hK => ?_) (fun K hK => ?_)
      ·
       refine q_v hk (w_iaL (k := u) rfl rfl Tryz.underlying51 ty56 (blk_lst (hs.mi 1 rfl) (en_len vq_len) (Nat.le_refl _)) (by omega) (by omega)) fun a hk => ?_
       have hL := okL.cons (hs.mi 2 rfl) (okL.cons (hs.ri 0 rfl) okL.nil)
       refine c_end (x_t (hK _ _ hL ?_))
       clear hK K
       refine d_2 6 16 65535 131007 rfl rfl (by kernel_rfl) (fun K hK => ?_) (fun K hK => ?_)
       ·
        refine q_v hk (w_ldv (z := mq (wr (pt s v) u k)) rfl ty56 (vq_eq wi_at (lstq (k := u) (blk_lst (hs.mi 1 rfl) (en_len vq_len) (Nat.le_refl _)) (by omega) (en_chunk vq_len (by omega))))) fun a hk => ?_
        have hL := okL.cons (hs.mi 2 rfl) (okL.cons (hs.ri 0 rfl) okL.nil)
        refine c_end (x_t (hK _ _ hL ?_))
        clear hK K
        refine d_1 16 131071 rfl (by kernel_rfl) fun K hK => ?_
        refine q_call (caps := []) hk rfl rfl Tryz.func143 fo143 rfl rfl (zsub_c (x := (pt s v u)) (y := (pt s v k)) _ rfl rfl) ?_
        rintro _ w ⟨rfl, hb⟩
        have hs := hs.below hb
        refine ⟨_, rfl, fun a hk => ?_⟩
        have hL := okL.cons (hs.mi 2 rfl) (okL.cons (hs.ri 0 rfl) okL.nil)
        refine c_end (x_t (hK _ _ hL ?_))
        clear hK K
        have hL := okL.cons (hs.mi 2 rfl) (okL.cons (hs.ri 0 rfl) okL.nil)
        exact hJ131071 _ _ ⟨hk.k rfl (hk.k rfl (hk.k rfl (hk.k rfl (hk.k rfl (hk.k rfl (hk.k rfl (hk.k rfl (hk.k rfl (hk.k rfl (hk.k rfl (hk.k rfl (hk.k rfl (hk.k rfl (hk.k rfl (hk.k rfl (hk.k rfl (hk.k rfl (hk.k rfl (hk.k rfl (hk.k rfl (hk.k rfl (hk.k rfl (hk.k rfl (hk.k rfl (hk.k rfl (hk.k rfl (hk.k rfl (hk.k rfl (hk.k rfl (hk.k rfl (hk.k rfl (hk.k rfl (hk.k rfl (hk.k rfl (hk.k rfl (hk.k rfl (hk.k rfl (hk.k rfl (hk.k rfl (hk.k rfl (hk.k rfl (hk.k rfl (hk.k rfl (hk.k rfl hk.nil)))))))))))))))))))))))))))))))))))))))))))), hs, hL⟩
       ·
        refine q_call (caps := []) hk rfl rfl Tryz.func143 fo143 rfl rfl (zsub_c (x := (pt s v u)) (y := (pt s v k)) _ rfl rfl) ?_
        rintro _ w ⟨rfl, hb⟩
        have hs := hs.below hb
        refine ⟨_, rfl, fun a hk => ?_⟩
        have hL := okL.cons (hs.mi 2 rfl) (okL.cons (hs.ri 0 rfl) okL.nil)
        refine c_end (x_t (hK _ _ hL ?_))
        clear hK K
        have hL := okL.cons (hs.mi 2 rfl) (okL.cons (hs.ri 0 rfl) okL.nil)
        exact hJ131007 _ _ ⟨hk.k rfl (hk.k rfl (hk.k rfl (hk.k rfl (hk.k rfl (hk.k rfl (hk.k rfl (hk.k rfl (hk.k rfl (hk.k rfl (hk.k rfl (hk.k rfl (hk.k rfl (hk.k rfl (hk.k rfl (hk.k rfl (hk.k rfl (hk.k rfl (hk.k rfl (hk.k rfl (hk.k rfl (hk.k rfl (hk.k rfl (hk.k rfl (hk.k rfl (hk.k rfl (hk.k rfl (hk.k rfl (hk.k rfl (hk.k rfl (hk.k rfl (hk.k rfl (hk.k rfl (hk.k rfl (hk.k rfl (hk.k rfl (hk.k rfl (hk.k rfl (hk.k rfl (hk.k rfl (hk.k rfl (hk.k rfl (hk.k rfl (hk.k rfl hk.nil))))))))))))))))))))))))))))))))))))))))))), hs, hL⟩
      ·
       refine q_call (caps := []) hk rfl rfl Tryz.func143 fo143 rfl rfl (zsub_c (x := (pt s v u)) (y := (pt s v k)) _ rfl rfl) ?_
       rintro _ w ⟨rfl, hb⟩
       have hs := hs.below hb
       refine ⟨_, rfl, fun a hk => ?_⟩
       have hL := okL.cons (hs.mi 2 rfl) (okL.cons (hs.ri 0 rfl) okL.nil)
       refine c_end (x_t (hK _ _ hL ?_))
       clear hK K
       refine d_1 5 131007 rfl (by kernel_rfl) fun K hK => ?_
       refine q_v hk (w_iaL (k := u) rfl rfl Tryz.underlying51 ty56 (blk_lst (hs.mi 1 rfl) (en_len vq_len) (Nat.le_refl _)) (by omega) (by omega)) fun a hk => ?_
       have hL := okL.cons (hs.mi 2 rfl) (okL.cons (hs.ri 0 rfl) okL.nil)
       refine c_end (x_t (hK _ _ hL ?_))
       clear hK K
       have hL := okL.cons (hs.mi 2 rfl) (okL.cons (hs.ri 0 rfl) okL.nil)
       exact hJ131007 _ _ ⟨hk.k rfl (hk.k rfl (hk.k rfl (hk.k rfl (hk.k rfl (hk.k rfl (hk.k rfl (hk.k rfl (hk.k rfl (hk.k rfl (hk.k rfl (hk.k rfl (hk.k rfl (hk.k rfl (hk.k rfl (hk.k rfl (hk.k rfl (hk.k rfl (hk.k rfl (hk.k rfl (hk.k rfl (hk.k rfl (hk.k rfl (hk.k rfl (hk.k rfl (hk.k rfl (hk.k rfl (hk.k rfl (hk.k rfl (hk.k rfl (hk.k rfl (hk.k rfl (hk.k rfl (hk.k rfl (hk.k rfl (hk.k rfl (hk.k rfl (hk.k rfl (hk.k rfl (hk.k rfl (hk.k rfl (hk.k rfl (hk.k rfl (hk.k rfl hk.nil))))))))))))))))))))))))))))))))))))))))))), hs, hL⟩
     ·
      rintro a w ⟨hk, hs, hL⟩
      refine d_1 6 131071 rfl (by kernel_rfl) fun K hK => ?_
      refine q_v hk (w_ldv (z := mq (wr (pt s v) u k)) rfl ty56 (vq_eq wi_at (lstq (k := u) (blk_lst (hs.mi 1 rfl) (en_len vq_len) (Nat.le_refl _)) (by omega) (en_chunk vq_len (by omega))))) fun a hk => ?_
      have hL := okL.cons (hs.mi 2 rfl) (okL.cons (hs.ri 0 rfl) okL.nil)
      refine c_end (x_t (hK _ _ hL ?_))
      clear hK K
      have hL := okL.cons (hs.mi 2 rfl) (okL.cons (hs.ri 0 rfl) okL.nil)
      exact hJ131071 _ _ ⟨hk.k rfl (hk.k rfl (hk.k rfl (hk.k rfl (hk.k rfl (hk.k rfl (hk.k rfl (hk.k rfl (hk.k rfl (hk.k rfl (hk.k rfl (hk.k rfl (hk.k rfl (hk.k rfl (hk.k rfl (hk.k rfl (hk.k rfl (hk.k rfl (hk.k rfl (hk.k rfl (hk.k rfl (hk.k rfl (hk.k rfl (hk.k rfl (hk.k rfl (hk.k rfl (hk.k rfl (hk.k rfl (hk.k rfl (hk.k rfl (hk.k rfl (hk.k rfl (hk.k rfl (hk.k rfl (hk.k rfl (hk.k rfl (hk.k rfl (hk.k rfl (hk.k rfl (hk.k rfl (hk.k rfl (hk.k rfl (hk.k rfl (hk.k rfl (hk.k rfl hk.nil)))))))))))))))))))))))))))))))))))))))))))), hs, hL⟩
    ·
     rintro a w ⟨hk, hs, hL⟩
     refine d_1 17 262143 rfl (by kernel_rfl) fun K hK => ?_
     refine q_call (caps := []) hk rfl rfl Tryz.func120 fo120 rfl rfl (zmul_c (x := (wr (pt s v) u k)) (y := ((pt s v u) - (pt s v k))) _ rfl rfl) ?_
     rintro _ w ⟨rfl, hb⟩
     have hs := hs.below hb
     refine ⟨_, rfl, fun a hk => ?_⟩
     have hL := okL.cons (hs.mi 2 rfl) (okL.cons (hs.ri 0 rfl) okL.nil)
     refine c_end (x_t (hK _ _ hL ?_))
     clear hK K
     refine d_1 18 524287 rfl (by kernel_rfl) fun K hK => ?_
     refine q_v hk (w_iaL (k := u) rfl rfl Tryz.underlying51 ty56 (blk_lst (hs.mi 1 rfl) (en_len vq_len) (Nat.le_refl _)) (by omega) (by omega)) fun a hk => ?_
     have hL := okL.cons (hs.mi 2 rfl) (okL.cons (hs.ri 0 rfl) okL.nil)
     refine c_end (x_t (hK _ _ hL ?_))
     clear hK K
     refine d_1 19 1048575 rfl (by kernel_rfl) fun K hK => ?_
     have hs := hs.up1
     refine q_stoE (c := vq) (xx := (mq ((wr (pt s v) u k) * ((pt s v u) - (pt s v k))))) (k := u) hk hs rfl rfl rfl ty56 rfl vq_len rfl (by omega) rfl fun w hs => ?_
     have hL := okL.cons (hs.mi 2 rfl) (okL.cons (hs.ri 0 rfl) okL.nil)
     refine c_end (x_t (hK _ _ hL ?_))
     clear hK K
     refine d_end (by kernel_rfl) ?_
     refine (x_b (x_t ?_))
     refine wR ?_
     refine q_v hk (w_add rfl rfl (wr64 (by omega) (by omega))) fun a hk => ?_
     refine q_v hk (w_mv rfl) fun a hk => ?_
     refine c_end (x_t ?_)
     have hs := hs.rw0 (congrArg (fun q => blk b3 q 56) (wi_step (x := pt s v) (by omega)))
     rw [pf_ne (by omega)] at hT
     have hs := hs.up1
     have hs := hs.up2
     have hs := hs.up2
     exact ⟨k + 1, ⟨_, (by omega), hT, hk.k rfl (hk.k rfl (hk.k rfl (hk.k rfl (hk.k rfl (hk.k rfl (hk.k rfl (hk.k rfl (hk.k rfl (hk.k rfl (hk.k rfl (hk.k rfl (hk.k rfl (hk.k rfl (hk.k rfl (hk.k rfl (hk.k rfl (hk.k rfl hk.nil))))))))))))))))), hs⟩, by omega⟩
   ·
    refine q_v hk (w_ne rfl rfl (decide_eq_false hc6)) fun a hk => ?_
    refine c_end (x_t ?_)
    refine c_F hk rfl ?_
    refine (wpIn_skip (x_b (x_t ?_)))
    refine wR ?_
    refine q_v hk (w_add rfl rfl (wr64 (by omega) (by omega))) fun a hk => ?_
    refine q_v hk (w_mv rfl) fun a hk => ?_
    refine c_end (x_t ?_)
    have hs := hs.rw0 (congrArg (fun q => blk b3 q 56) (wi_skip (x := pt s v) (by omega)))
    rw [pf_eq (by omega)] at hT
    exact ⟨k + 1, ⟨_, (by omega), hT, hk.k rfl (hk.k rfl (hk.k rfl (hk.k rfl (hk.k rfl (hk.k rfl (hk.k rfl (hk.k rfl (hk.k rfl (hk.k rfl (hk.k rfl (hk.k rfl (hk.k rfl (hk.k rfl (hk.k rfl (hk.k rfl (hk.k rfl (hk.k rfl hk.nil))))))))))))))))), hs⟩, by omega⟩
  ·
   refine q_v hk (w_lt rfl rfl (decide_eq_false hc5)) fun a hk => ?_
   refine c_end (x_t (wS ?_))
   refine c_F hk rfl ?_
   refine (wpIn_exit (x_te (x_te (x_be ?_))))
   refine (x_b (x_t ?_))
   refine wR ?_
   refine q_v hk (w_add rfl rfl (wr64 (by omega) (by omega))) fun a hk => ?_
   refine q_v hk (w_mv rfl) fun a hk => ?_
   refine c_end (x_t ?_)
   have hkn : k = n := by omega
   subst hkn
   have hs := hs.rw0 (congrArg (fun q => blk b3 q 56) (wi_shut (x := pt s v) (u := u)))
   rw [pf_row] at hT
   exact ⟨u + 1, ⟨_, (by omega), hT, hk.k rfl (hk.k rfl (hk.k rfl (hk.k rfl (hk.k rfl (hk.k rfl (hk.k rfl (hk.k rfl hk.nil))))))), hs⟩, by omega⟩
 ·
  refine q_v hk (w_lt rfl rfl (decide_eq_false hc4)) fun a hk => ?_
  refine c_end (x_t (wS ?_))
  refine c_F hk rfl ?_
  refine (wpIn_exit (x_te (x_te (x_be ?_))))
  refine (x_t ?_)
  refine wS (wR ?_)
  refine q_v hk (w_mv rfl) fun a hk => ?_
  refine q_v hk (w_ldA rfl ty120 (.blk (n := 14) (hs.mi 1 rfl) rfl) rfl) fun a hk => ?_
  refine q_v hk (w_mv rfl) fun a hk => ?_
  have hun : u = n := by omega
  rw [hun] at hs hT
  have hs := hs.rw0 (congrArg (fun q => blk b3 q 56) (wdz_end (x := pt s v)))
  have hs := hs.frz (r := lst 4 (.slice (some ⟨b3, 0, none⟩) n n) n (en vq (fun i => mq (wr (pt s v) i n)) n)) (blk_lst (hs.mi 0 rfl) (en_len vq_len) (Nat.le_refl _)) (fun _ h => (Option.some.inj h.2).symm)
  have hs := hs.up1
  have hlu := pairFs_len (n := n) (u := n)
  have hnn : n * n ≤ 1000 * 1000 := Nat.mul_le_mul (by omega) (by omega)
  refine q_call (caps := []) hk rfl rfl Tryz.func144 fo144 rfl rfl (batch_m s n n (some ⟨b3, 0, none⟩) (fun i => wr (pt s v) i n) t (evs ++ upE 0 ((n : Nat) : Int) (pairF n)) _ _ hs hT (HasR.nth 0 rfl) (by omega) (by omega) (by simp only [List.length_append]; omega)) ?_
  rintro _ w ⟨b10, r11, rfl, ht12, hs⟩
  have hT := ht12
  refine ⟨_, rfl, fun a hk => ?_⟩
  refine q_v hk (w_as rfl) fun a hk => ?_
  refine q_v hk (w_as rfl) fun a hk => ?_
  refine c_end (x_t ?_)
  refine (wpIn_ret ?_)
  refine c_ret2 hk rfl rfl rfl ?_
  have hs := hs.up2
  have hs := hs.drop
  have hs := hs.toR (R' := R) (fun r hr => .of (by simp [hr]))
  rw [wE_eq h0] at hT
  exact ⟨_, _, rfl, hT, hs⟩
end Go.Proofs.YtdnkkbmpefhbjaaGreatDoor
namespace Go.Proofs.YtdnkkbmpefhbjaaGreatDoor
set_option linter.all false
open Go Go.RowKit Alg
def lin {s : Bool} (y : Zp s) (k : Nat) : Zp s := if k = 0 then 0 - y else 1
/-- The product of X - x i. -/
def mst {s : Bool} (x : Nat → Zp s) : Nat → Nat → Zp s
  | 0 => fun _ => 1
  | k + 1 => mall (mst x k) (lin (x k)) 2 (k + 1)
theorem mst_zero {s : Bool} {x : Nat → Zp s} : vq (rone s) = en vq (fun i => mq (mst x 0 i)) 1 := by
  show _ = vq (mq (1 : Zp s)) ++ []
  rw [mq_one, List.append_nil]
theorem lin_two {s : Bool} {y : Zp s} : vq (mq (0 - y)) ++ vq (rone s) = en vq (fun i => mq (lin y i)) 2 := by
  show _ = vq (mq (lin y 0)) ++ (vq (mq (lin y 1)) ++ [])
  show _ = vq (mq (0 - y)) ++ (vq (mq (1 : Zp s)) ++ [])
  rw [mq_one, List.append_nil]
/-- Weights for the value at zero. -/
def zw {s : Bool} (x : Nat → Zp s) (n i : Nat) : Zp s := wgt x n i * Hn (mst x n) (n + 1) (x i) n
/-- A sum of products. -/
def dot {s : Bool} (x y : Nat → Zp s) : Nat → Zp s
  | 0 => 0
  | k + 1 => dot x y k + x k * y k
theorem master_m {F0 : Nat → Prop} {W : World} {M R : List Res} (s : Bool) (n lc : Nat) (la : Option Addr) (x : Nat → Zp s) (w0 : World) (hs : Sat F0 W M ((lst 4 (.slice la n lc) n (en vq (fun i => mq (x i)) n)) :: R) w0) (hn : n ≤ 1000) : Calls Tryz.prog 118 [fieldV s, .slice la n lc].toArray w0 fun e w => ∃ b, e = .returned (.slice (some ⟨b, 0, none⟩) (n + 1) (n + 1)) ∧ Sat F0 W (blk b (en vq (fun i => mq (mst x n i)) (n + 1)) 56 :: M) R w := by
 refine c_enter (args := [fieldV s, .slice la n lc]) Tryz.func118 rfl rfl rfl fun a hk => ?_
 refine wS (wR ?_)
 refine q_box (vs := fieldL s) hk hs rfl rfl rfl rfl fun b1 w a hk hs => ?_
 refine q_v hk (w_as rfl) fun a hk => ?_
 refine c_end (x_t (wS (wR ?_)))
 refine q_v hk (w_fa rfl fq120_3 ty56) fun a hk => ?_
 refine q_v hk (w_ldv (z := rone s) rfl ty56 (.blk (n := 4) (hs.mi 0 rfl) rfl)) fun a hk => ?_
 refine q_bsl (els := [.tmp 9]) (cs := [.int .u64 ((dg 0 (rone s) : Nat) : Int), .int .u64 ((dg 1 (rone s) : Nat) : Int), .int .u64 ((dg 2 (rone s) : Nat) : Int), .int .u64 ((dg 3 (rone s) : Nat) : Int)]) hk hs rfl Tryz.underlying51 ty56 zr56 rfl rfl rfl rfl rfl rfl rfl fun b2 w a hk hs => ?_
 refine q_v hk (w_as rfl) fun a hk => ?_
 refine c_end (x_t (wS (wS (wR ?_))))
 refine q_v hk (w_mv rfl) fun a hk => ?_
 refine q_v hk (w_len rfl Tryz.underlying51) fun a hk => ?_
 refine q_v hk (w_mv rfl) fun a hk => ?_
 refine c_end (x_t ?_)
 refine wpIn_block ?_
 have hs := hs.rw0 (congrArg (fun q => blk b2 q 56) (mst_zero (x := x)))
 refine c_loop (α := Nat) (fun k a w => ∃ (ob : Nat), k ≤ n ∧ Kn [] 28 [(13, .int .i64 ((k : Nat) : Int)), (5, .slice (some ⟨ob, 0, none⟩) (k + 1) (k + 1)), (12, .int .i64 ((n : Nat) : Int)), (11, .slice la n lc), (4, .slice none 0 0), (2, .pointer (some ⟨b1, 0, none⟩))] a ∧ Sat F0 W ((blk ob (en vq (fun i => mq (mst x k i)) (k + 1)) 56) :: (blk b1 (fieldL s) 120) :: M) ((lst 4 (.slice la n lc) n (en vq (fun i => mq (x i)) n)) :: R) w) (fun k => n - k) 0 ?_ ?_
 · exact ⟨_, (by omega), hk.k rfl (hk.k rfl (hk.k rfl (hk.k rfl (hk.k rfl (hk.k rfl hk.nil))))), hs⟩
 rintro k a w ⟨ob, hf0, hk, hs⟩
 refine wS (wR ?_)
 rcases Classical.em (((k : Nat) : Int) < ((n : Nat) : Int)) with hc3 | hc3
 ·
  refine q_v hk (w_lt rfl rfl (decide_eq_true hc3)) fun a hk => ?_
  refine c_end (x_t (wS ?_))
  refine c_T hk rfl ?_
  refine (wpIn_skip (x_t ?_))
  refine wS ?_
  refine wpIn_block ?_
  refine wS (wR ?_)
  refine q_v hk (w_iaL (k := k) rfl rfl Tryz.underlying51 ty56 (hs.ri 0 rfl) (by omega) (by omega)) fun a hk => ?_
  refine q_v hk (w_ldv (z := mq (x k)) rfl ty56 (lstq (k := k) (hs.ri 0 rfl) (by omega) (en_chunk vq_len (by omega)))) fun a hk => ?_
  refine q_alc (vs := [.int .u64 0, .int .u64 0, .int .u64 0, .int .u64 0]) hk hs zr56 rfl rfl rfl fun b4 w a hk hs => ?_
  refine q_sto (o := 0) (cs := [.int .u64 ((dg 0 (mq (x k)) : Nat) : Int), .int .u64 ((dg 1 (mq (x k)) : Nat) : Int), .int .u64 ((dg 2 (mq (x k)) : Nat) : Int), .int .u64 ((dg 3 (mq (x k)) : Nat) : Int)]) (vs' := [.int .u64 ((dg 0 (mq (x k)) : Nat) : Int), .int .u64 ((dg 1 (mq (x k)) : Nat) : Int), .int .u64 ((dg 2 (mq (x k)) : Nat) : Int), .int .u64 ((dg 3 (mq (x k)) : Nat) : Int)]) hk hs rfl rfl rfl ty56 rfl rfl rfl rfl rfl rfl fun w hs => ?_
  refine c_end (x_t ?_)
  have hL := okL.cons (hs.mi 2 rfl) (okL.cons (hs.mi 0 rfl) okL.nil)
  refine d_begin _ 10 (by kernel_rfl) rfl hs hL fun w hs hL => ?_
  refine d_w 0 1 hk hL rfl (fun w hL => w_ldA rfl ty120 (.blk (n := 14) (hL.at 0 rfl) rfl) rfl) fun a hk => ?_
  refine d_w 1 3 hk hL rfl (fun w hL => w_mv rfl) fun a hk => ?_
  refine d_w 2 7 hk hL rfl (fun w hL => w_ldA rfl ty120 (.blk (n := 14) (hL.at 0 rfl) rfl) rfl) fun a hk => ?_
  refine d_w 3 15 hk hL rfl (fun w hL => w_ldv (z := mq (x k)) rfl ty56 (.blk (n := 4) (hL.at 1 rfl) rfl)) fun a hk => ?_
  refine d_w 5 47 hk hL rfl (fun w hL => w_fa rfl fq120_3 ty56) fun a hk => ?_
  refine d_w 6 111 hk hL rfl (fun w hL => w_ldv (z := rone s) rfl ty56 (.blk (n := 4) (hL.at 0 rfl) rfl)) fun a hk => ?_
  refine d_1 4 127 rfl (by kernel_rfl) fun K hK => ?_
  refine q_call (caps := []) hk rfl rfl Tryz.func146 fo146 rfl rfl (zneg_c (x := (x k)) _ rfl) ?_
  rintro _ w ⟨rfl, hb⟩
  have hs := hs.below hb
  refine ⟨_, rfl, fun a hk => ?_⟩
  have hL := okL.cons (hs.mi 2 rfl) (okL.cons (hs.mi 0 rfl) okL.nil)
  refine c_end (x_t (hK _ _ hL ?_))
  clear hK K
  refine d_1 7 255 rfl (by kernel_rfl) fun K hK => ?_
  refine q_bsl (els := [.tmp 21, .tmp 23]) (cs := [.int .u64 ((dg 0 (mq (0 - (x k))) : Nat) : Int), .int .u64 ((dg 1 (mq (0 - (x k))) : Nat) : Int), .int .u64 ((dg 2 (mq (0 - (x k))) : Nat) : Int), .int .u64 ((dg 3 (mq (0 - (x k))) : Nat) : Int), .int .u64 ((dg 0 (rone s) : Nat) : Int), .int .u64 ((dg 1 (rone s) : Nat) : Int), .int .u64 ((dg 2 (rone s) : Nat) : Int), .int .u64 ((dg 3 (rone s) : Nat) : Int)]) hk hs rfl Tryz.underlying51 ty56 zr56 rfl rfl rfl rfl rfl rfl rfl fun b1_7 w a hk hs => ?_
  have hL := okL.cons (hs.mi 3 rfl) (okL.cons (hs.mi 1 rfl) okL.nil)
  refine c_end (x_t (hK _ _ hL ?_))
  clear hK K
  refine d_1 8 511 rfl (by kernel_rfl) fun K hK => ?_
  have hs := hs.rw0 (congrArg (fun q => blk b1_7 q 56) (lin_two (y := x k)))
  have hs := hs.frz (r := lst 4 (.slice (some ⟨b1_7, 0, none⟩) 2 2) 2 (en vq (fun i => mq (lin (x k) i)) 2)) (blk_lst (hs.mi 0 rfl) (en_len vq_len) (Nat.le_refl _)) (fun _ h => (Option.some.inj h.2).symm)
  have hs := hs.up1
  have hs := hs.frz (r := lst 4 (.slice (some ⟨ob, 0, none⟩) (k + 1) (k + 1)) (k + 1) (en vq (fun i => mq (mst x k i)) (k + 1))) (blk_lst (hs.mi 0 rfl) (en_len vq_len) (Nat.le_refl _)) (fun _ h => (Option.some.inj h.2).symm)
  refine q_call (caps := []) hk rfl rfl Tryz.func145 fo145 rfl rfl (mul_m s (k + 1) (k + 1) 2 2 (some ⟨ob, 0, none⟩) (some ⟨b1_7, 0, none⟩) (mst x k) (lin (x k)) _ ((hs.hasR (HasR.nth 1 rfl)).hasR (HasR.nth 0 rfl).cons) (by omega) (by omega) (by omega) (by omega)) ?_
  rintro _ w ⟨b1_8, rfl, hs⟩
  have hs := hs.subR (R' := ((lst 4 (.slice la n lc) n (en vq (fun i => mq (x i)) n)) :: R)) (by simp +contextual)
  have hs : Sat F0 W ((blk b1_8 (en vq (fun i => mq (mst x (k + 1) i)) (k + 1 + 1)) 56) :: (blk b4 [.int .u64 ((dg 0 (mq (x k)) : Nat) : Int), .int .u64 ((dg 1 (mq (x k)) : Nat) : Int), .int .u64 ((dg 2 (mq (x k)) : Nat) : Int), .int .u64 ((dg 3 (mq (x k)) : Nat) : Int)] 56) :: (blk b1 (fieldL s) 120) :: M) ((lst 4 (.slice la n lc) n (en vq (fun i => mq (x i)) n)) :: R) w := hs
  refine ⟨_, rfl, fun a hk => ?_⟩
  have hL := okL.cons (hs.mi 2 rfl) (okL.cons (hs.mi 1 rfl) okL.nil)
  refine c_end (x_t (hK _ _ hL ?_))
  clear hK K
  refine d_w 9 1023 hk hL rfl (fun w hL => w_as rfl) fun a hk => ?_
  refine d_end (by kernel_rfl) ?_
  refine (x_b (x_t ?_))
  refine wR ?_
  refine q_v hk (w_add rfl rfl (wr64 (by omega) (by omega))) fun a hk => ?_
  refine q_v hk (w_mv rfl) fun a hk => ?_
  refine c_end (x_t ?_)
  have hs := hs.up1
  have hs := hs.drop
  exact ⟨k + 1, ⟨_, (by omega), hk.k rfl (hk.k rfl (hk.k rfl (hk.k rfl (hk.k rfl (hk.k rfl hk.nil))))), hs⟩, by omega⟩
 ·
  refine q_v hk (w_lt rfl rfl (decide_eq_false hc3)) fun a hk => ?_
  refine c_end (x_t (wS ?_))
  refine c_F hk rfl ?_
  refine (wpIn_exit (x_te (x_te (x_be ?_))))
  refine (x_t ?_)
  refine wS (wR ?_)
  refine q_v hk (w_mv rfl) fun a hk => ?_
  refine q_v hk (w_as rfl) fun a hk => ?_
  refine c_end (x_t ?_)
  refine (wpIn_ret ?_)
  refine c_ret1 hk rfl rfl ?_
  have hs := hs.up1
  have hs := hs.drop
  have hs := hs.toR (R' := R) (fun r hr => .of (by simp [hr]))
  have hkn : k = n := by omega
  rw [hkn] at hs ⊢
  exact ⟨_, rfl, hs⟩
end Go.Proofs.YtdnkkbmpefhbjaaGreatDoor
namespace Go.Proofs.YtdnkkbmpefhbjaaGreatDoor
set_option linter.all false
open Go Go.RowKit Alg
def ita {s : Bool} (po pq : Nat → Zp s) (c : Zp s) (k i : Nat) : Nat := if i < k then mq (po i + c * pq i) else mq (po i)
section
variable {s : Bool} {po pq : Nat → Zp s} {c : Zp s} {n k : Nat}
theorem ita_zero : en vq (fun i => mq (po i)) n = en vq (ita po pq c 0) n := en_congr fun i _ => by unfold ita; rw [if_neg (Nat.not_lt_zero i)]
theorem ita_at : ita po pq c k k = mq (po k) := if_neg (Nat.lt_irrefl k)
theorem ita_step : en vq (fun i => if i = k then mq (po k + c * pq k) else ita po pq c k i) n = en vq (ita po pq c (k + 1)) n := en_congr fun i _ => by
  unfold ita
  by_cases h : i = k
  · subst h; rw [if_pos rfl, if_pos (Nat.lt_succ_self _)]
  · rw [if_neg h]
    by_cases l : i < k
    · rw [if_pos l, if_pos (by omega)]
    · rw [if_neg l, if_neg (by omega)]
theorem ita_end : en vq (ita po pq c n) n = en vq (fun i => mq (po i + c * pq i)) n := en_congr fun i hi => by unfold ita; rw [if_pos hi]
end
theorem pairT_next {E : List Ev} {i : Int} {k : Nat} : E ++ upE 0 ((k : Nat) : Int) (pairE true i) ++ [(3, i, ((k : Nat) : Int))] = E ++ upE 0 ((k + 1 : Nat) : Int) (pairE true i) := by
  have e := upE_succ (F := pairE true i) (fr := 0) (x := (k : Int)) (by omega)
  have p : pairE true i (k : Int) = [(3, i, (k : Int))] := by unfold pairE; rw [if_neg (by simp)]
  rw [p] at e
  rw [List.append_assoc, e]
  rfl
theorem pairT_len {i : Int} {n : Nat} : (upE 0 (n : Int) (pairE true i)).length ≤ n := by
  have := upE_len (fr := 0) (to := (n : Int)) (F := pairE true i) (B := 1) (fun k => by unfold pairE; split <;> simp)
  omega
def pairT (n : Nat) (i : Int) : List Ev := upE 0 (n : Int) (pairE true i)
theorem pairTs_len {n u : Nat} : (upE 0 (u : Int) (pairT n)).length ≤ u * n := by
  have := upE_len (fr := 0) (to := (u : Int)) (F := pairT n) (B := n) (fun k => pairT_len)
  simpa using this
theorem pt_row {E : List Ev} {n u : Nat} : E ++ upE 0 (u : Int) (pairT n) ++ upE 0 (n : Int) (pairE true ((u : Nat) : Int)) = E ++ upE 0 ((u + 1 : Nat) : Int) (pairT n) := by
  have e := upE_succ (F := pairT n) (fr := 0) (x := (u : Int)) (by omega)
  rw [List.append_assoc, show upE 0 (n : Int) (pairE true (u : Int)) = pairT n (u : Int) from rfl, e]
  rfl
/-- The polynomial after u points. -/
def itp {s : Bool} (x y : Nat → Zp s) (n : Nat) : Nat → Nat → Zp s
  | 0 => fun _ => 0
  | u + 1 => fun k => itp x y n u k + wgt x n u * y u * Hn (mst x n) (n + 1) (x u) (n + 1 - 1 - k)
theorem itp_zero {s : Bool} {x y : Nat → Zp s} {n m : Nat} : en vq (fun _ => 0) m = en vq (fun j => mq (itp x y n 0 j)) m := en_congr fun i _ => by show 0 = mq (0 : Zp s); rw [mq_zero]
theorem iadd_m {F0 : Nat → Prop} {W : World} {M R : List Res} (s : Bool) (n i0 bf bw by' bo bt wb ob qb yc : Nat) (ya : Option Addr) (pw' py po pq : Nat → Zp s) (t : Option Nat) (evs : List Ev) (r : Res) (w0 : World) (hs : Sat F0 W (r :: (blk ob (en vq (fun i => mq (po i)) n) 56) :: M) R w0) (hF : HasR (rall [blk bf (fieldL s) 120, blk bw [.slice (some ⟨wb, 0, none⟩) n n] 51, lst 4 (.slice (some ⟨wb, 0, none⟩) n n) n (en vq (fun i => mq (pw' i)) n), blk by' [.slice ya n yc] 51, lst 4 (.slice ya n yc) n (en vq (fun i => mq (py i)) n), blk bo [.slice (some ⟨ob, 0, none⟩) n n] 51, blk bt [tval t] 60]) R) (hQ : HasR (lst 4 (.slice (some ⟨qb, 0, none⟩) (n + 1 - 1) (n + 1 - 1)) (n + 1 - 1) (en vq (fun i => mq (pq i)) (n + 1 - 1))) R) (hT : TapeIs t evs r) (hi : i0 < n) (hn : n ≤ 1000) (he : evs.length ≤ 100000000) : Calls Tryz.prog 128 [.int .i64 ((i0 : Nat) : Int), .slice (some ⟨qb, 0, none⟩) (n + 1 - 1) (n + 1 - 1), .pointer (some ⟨bf, 0, none⟩), .pointer (some ⟨bw, 0, none⟩), .pointer (some ⟨by', 0, none⟩), .pointer (some ⟨bo, 0, none⟩), .pointer (some ⟨bt, 0, none⟩)].toArray w0 fun e w => ∃ v r, e = .returned v ∧ TapeIs t (evs ++ upE 0 (n : Int) (pairE true ((i0 : Nat) : Int))) r ∧ Sat F0 W (r :: blk ob (en vq (fun i => mq (po i + (pw' i0 * py i0) * pq i)) n) 56 :: M) R w := by
 refine c_enter (args := [.int .i64 ((i0 : Nat) : Int), .slice (some ⟨qb, 0, none⟩) (n + 1 - 1) (n + 1 - 1), .pointer (some ⟨bf, 0, none⟩), .pointer (some ⟨bw, 0, none⟩), .pointer (some ⟨by', 0, none⟩), .pointer (some ⟨bo, 0, none⟩), .pointer (some ⟨bt, 0, none⟩)]) Tryz.func128 rfl rfl rfl fun a hk => ?_
 refine wS ?_
 have hL := okL.cons ((hF.pi 0 rfl).at_ hs) (okL.cons ((hF.pi 1 rfl).at_ hs) (okL.cons ((hF.pi 2 rfl).at_ hs) (okL.cons ((hF.pi 3 rfl).at_ hs) (okL.cons ((hF.pi 4 rfl).at_ hs) okL.nil))))
 refine d_begin _ 12 (by kernel_rfl) rfl hs hL fun w hs hL => ?_
 refine d_join (n2 := 1) 2047 (fun a w => ∃ (b1_10 : Nat), Kn [] 47 [(9, .pointer (some ⟨b1_10, 0, none⟩)), (20, vec (mq ((pw' i0) * (py i0)))), (19, vec (mq (py i0))), (18, .pointer (some ((adq ya).add (i0 * 4)))), (17, .int .i64 ((i0 : Nat) : Int)), (16, .slice ya n yc), (15, vec (mq (pw' i0))), (14, .pointer (some ((adq (some ⟨wb, 0, none⟩)).add (i0 * 4)))), (13, .int .i64 ((i0 : Nat) : Int)), (12, .slice (some ⟨wb, 0, none⟩) n n), (11, fieldV s), (0, .int .i64 ((i0 : Nat) : Int)), (1, .slice (some ⟨qb, 0, none⟩) (n + 1 - 1) (n + 1 - 1)), (2, .pointer (some ⟨bf, 0, none⟩)), (3, .pointer (some ⟨bw, 0, none⟩)), (4, .pointer (some ⟨by', 0, none⟩)), (5, .pointer (some ⟨bo, 0, none⟩)), (6, .pointer (some ⟨bt, 0, none⟩))] a ∧ Sat F0 W ((blk b1_10 [.int .u64 0, .int .u64 0, .int .u64 0, .int .u64 0] 56) :: r :: (blk ob (en vq (fun i => mq (po i)) n) 56) :: M) R w ∧ okL [blk bf (fieldL s) 120, blk bw [.slice (some ⟨wb, 0, none⟩) n n] 51, lst 4 (.slice (some ⟨wb, 0, none⟩) n n) n (en vq (fun i => mq (pw' i)) n), blk by' [.slice ya n yc] 51, lst 4 (.slice ya n yc) n (en vq (fun i => mq (py i)) n)] w) ?_ ?_
 ·
  intro hJ2047
  refine d_w 0 1 hk hL rfl (fun w hL => w_ldA rfl ty120 (.blk (n := 14) (hL.at 0 rfl) rfl) rfl) fun a hk => ?_
  refine d_w 1 3 hk hL rfl (fun w hL => w_ld1 rfl ty51 (.blk (n := 1) (hL.at 1 rfl) rfl)) fun a hk => ?_
  refine d_w 2 7 hk hL rfl (fun w hL => w_mv rfl) fun a hk => ?_
  refine d_w 3 15 hk hL rfl (fun w hL => w_iaL (k := i0) rfl rfl Tryz.underlying51 ty56 (hL.at 2 rfl) (by omega) (by omega)) fun a hk => ?_
  refine d_w 4 31 hk hL rfl (fun w hL => w_ldv (z := mq (pw' i0)) rfl ty56 (lstq (k := i0) (hL.at 2 rfl) (by omega) (en_chunk vq_len (by omega)))) fun a hk => ?_
  refine d_w 5 63 hk hL rfl (fun w hL => w_ld1 rfl ty51 (.blk (n := 1) (hL.at 3 rfl) rfl)) fun a hk => ?_
  refine d_w 6 127 hk hL rfl (fun w hL => w_mv rfl) fun a hk => ?_
  refine d_w 7 255 hk hL rfl (fun w hL => w_iaL (k := i0) rfl rfl Tryz.underlying51 ty56 (hL.at 4 rfl) (by omega) (by omega)) fun a hk => ?_
  refine d_w 8 511 hk hL rfl (fun w hL => w_ldv (z := mq (py i0)) rfl ty56 (lstq (k := i0) (hL.at 4 rfl) (by omega) (en_chunk vq_len (by omega)))) fun a hk => ?_
  refine d_2 9 10 1023 1535 rfl rfl (by kernel_rfl) (fun K hK => ?_) (fun K hK => ?_)
  ·
   refine q_call (caps := []) hk rfl rfl Tryz.func120 fo120 rfl rfl (zmul_c (x := (pw' i0)) (y := (py i0)) _ rfl rfl) ?_
   rintro _ w ⟨rfl, hb⟩
   have hs := hs.below hb
   refine ⟨_, rfl, fun a hk => ?_⟩
   have hL := okL.cons ((hF.pi 0 rfl).at_ hs) (okL.cons ((hF.pi 1 rfl).at_ hs) (okL.cons ((hF.pi 2 rfl).at_ hs) (okL.cons ((hF.pi 3 rfl).at_ hs) (okL.cons ((hF.pi 4 rfl).at_ hs) okL.nil))))
   refine c_end (x_t (hK _ _ hL ?_))
   clear hK K
   refine d_1 10 2047 rfl (by kernel_rfl) fun K hK => ?_
   refine q_alc (vs := [.int .u64 0, .int .u64 0, .int .u64 0, .int .u64 0]) hk hs zr56 rfl rfl rfl fun b1_10 w a hk hs => ?_
   have hL := okL.cons ((hF.pi 0 rfl).at_ hs) (okL.cons ((hF.pi 1 rfl).at_ hs) (okL.cons ((hF.pi 2 rfl).at_ hs) (okL.cons ((hF.pi 3 rfl).at_ hs) (okL.cons ((hF.pi 4 rfl).at_ hs) okL.nil))))
   refine c_end (x_t (hK _ _ hL ?_))
   clear hK K
   have hL := okL.cons ((hF.pi 0 rfl).at_ hs) (okL.cons ((hF.pi 1 rfl).at_ hs) (okL.cons ((hF.pi 2 rfl).at_ hs) (okL.cons ((hF.pi 3 rfl).at_ hs) (okL.cons ((hF.pi 4 rfl).at_ hs) okL.nil))))
   exact hJ2047 _ _ ⟨_, hk.k rfl (hk.k rfl (hk.k rfl (hk.k rfl (hk.k rfl (hk.k rfl (hk.k rfl (hk.k rfl (hk.k rfl (hk.k rfl (hk.k rfl (hk.k rfl (hk.k rfl (hk.k rfl (hk.k rfl (hk.k rfl (hk.k rfl (hk.k rfl hk.nil))))))))))))))))), hs, hL⟩
  ·
   refine q_alc (vs := [.int .u64 0, .int .u64 0, .int .u64 0, .int .u64 0]) hk hs zr56 rfl rfl rfl fun b1_10 w a hk hs => ?_
   have hL := okL.cons ((hF.pi 0 rfl).at_ hs) (okL.cons ((hF.pi 1 rfl).at_ hs) (okL.cons ((hF.pi 2 rfl).at_ hs) (okL.cons ((hF.pi 3 rfl).at_ hs) (okL.cons ((hF.pi 4 rfl).at_ hs) okL.nil))))
   refine c_end (x_t (hK _ _ hL ?_))
   clear hK K
   refine d_1 9 2047 rfl (by kernel_rfl) fun K hK => ?_
   refine q_call (caps := []) hk rfl rfl Tryz.func120 fo120 rfl rfl (zmul_c (x := (pw' i0)) (y := (py i0)) _ rfl rfl) ?_
   rintro _ w ⟨rfl, hb⟩
   have hs := hs.below hb
   refine ⟨_, rfl, fun a hk => ?_⟩
   have hL := okL.cons ((hF.pi 0 rfl).at_ hs) (okL.cons ((hF.pi 1 rfl).at_ hs) (okL.cons ((hF.pi 2 rfl).at_ hs) (okL.cons ((hF.pi 3 rfl).at_ hs) (okL.cons ((hF.pi 4 rfl).at_ hs) okL.nil))))
   refine c_end (x_t (hK _ _ hL ?_))
   clear hK K
   have hL := okL.cons ((hF.pi 0 rfl).at_ hs) (okL.cons ((hF.pi 1 rfl).at_ hs) (okL.cons ((hF.pi 2 rfl).at_ hs) (okL.cons ((hF.pi 3 rfl).at_ hs) (okL.cons ((hF.pi 4 rfl).at_ hs) okL.nil))))
   exact hJ2047 _ _ ⟨_, hk.k rfl (hk.k rfl (hk.k rfl (hk.k rfl (hk.k rfl (hk.k rfl (hk.k rfl (hk.k rfl (hk.k rfl (hk.k rfl (hk.k rfl (hk.k rfl (hk.k rfl (hk.k rfl (hk.k rfl (hk.k rfl (hk.k rfl (hk.k rfl hk.nil))))))))))))))))), hs, hL⟩
 ·
  rintro a w ⟨b1_10, hk, hs, hL⟩
  refine d_1 11 4095 rfl (by kernel_rfl) fun K hK => ?_
  refine q_sto (o := 0) (cs := [.int .u64 ((dg 0 (mq ((pw' i0) * (py i0))) : Nat) : Int), .int .u64 ((dg 1 (mq ((pw' i0) * (py i0))) : Nat) : Int), .int .u64 ((dg 2 (mq ((pw' i0) * (py i0))) : Nat) : Int), .int .u64 ((dg 3 (mq ((pw' i0) * (py i0))) : Nat) : Int)]) (vs' := [.int .u64 ((dg 0 (mq ((pw' i0) * (py i0))) : Nat) : Int), .int .u64 ((dg 1 (mq ((pw' i0) * (py i0))) : Nat) : Int), .int .u64 ((dg 2 (mq ((pw' i0) * (py i0))) : Nat) : Int), .int .u64 ((dg 3 (mq ((pw' i0) * (py i0))) : Nat) : Int)]) hk hs rfl rfl rfl ty56 rfl rfl rfl rfl rfl rfl fun w hs => ?_
  have hL := okL.cons ((hF.pi 0 rfl).at_ hs) (okL.cons ((hF.pi 1 rfl).at_ hs) (okL.cons ((hF.pi 2 rfl).at_ hs) (okL.cons ((hF.pi 3 rfl).at_ hs) (okL.cons ((hF.pi 4 rfl).at_ hs) okL.nil))))
  refine c_end (x_t (hK _ _ hL ?_))
  clear hK K
  refine d_end (by kernel_rfl) ?_
  refine (x_t ?_)
  refine wS (wR ?_)
  refine q_v hk (w_ld1 rfl ty51 (.blk (n := 1) ((hF.pi 5 rfl).at_ hs) rfl)) fun a hk => ?_
  refine q_v hk (w_len rfl Tryz.underlying51) fun a hk => ?_
  refine q_v hk (w_mv rfl) fun a hk => ?_
  refine c_end (x_t ?_)
  refine wpIn_block ?_
  have hs := hs.up2
  have hs := hs.rw0 (congrArg (fun q => blk ob q 56) (ita_zero (po := po) (pq := pq) (c := (pw' i0 * py i0))))
  refine c_loop (α := Nat) (fun k a w => ∃ (r : Res), k ≤ n ∧ TapeIs t (evs ++ upE 0 ((k : Nat) : Int) (pairE true ((i0 : Nat) : Int))) r ∧ Kn [] 47 [(23, .int .i64 ((k : Nat) : Int)), (22, .int .i64 ((n : Nat) : Int)), (9, .pointer (some ⟨b1_10, 0, none⟩)), (0, .int .i64 ((i0 : Nat) : Int)), (1, .slice (some ⟨qb, 0, none⟩) (n + 1 - 1) (n + 1 - 1)), (2, .pointer (some ⟨bf, 0, none⟩)), (5, .pointer (some ⟨bo, 0, none⟩)), (6, .pointer (some ⟨bt, 0, none⟩))] a ∧ Sat F0 W ((blk ob (en vq (fun i => ita po pq (pw' i0 * py i0) k i) n) 56) :: (blk b1_10 [.int .u64 ((dg 0 (mq ((pw' i0) * (py i0))) : Nat) : Int), .int .u64 ((dg 1 (mq ((pw' i0) * (py i0))) : Nat) : Int), .int .u64 ((dg 2 (mq ((pw' i0) * (py i0))) : Nat) : Int), .int .u64 ((dg 3 (mq ((pw' i0) * (py i0))) : Nat) : Int)] 56) :: r :: M) R w) (fun k => n - k) 0 ?_ ?_
  · exact ⟨_, (by omega), (by rw [upE_nil (by omega), List.append_nil]; exact hT), hk.k rfl (hk.k rfl (hk.k rfl (hk.k rfl (hk.k rfl (hk.k rfl (hk.k rfl (hk.k rfl hk.nil))))))), hs⟩
  rintro k a w ⟨r, hf0, hf1, hk, hs⟩
  have hT := hf1
  have hlk := pairT_len (n := k) (i := ((i0 : Nat) : Int))
  refine wS (wR ?_)
  rcases Classical.em (((k : Nat) : Int) < ((n : Nat) : Int)) with hc1 | hc1
  ·
   refine q_v hk (w_lt rfl rfl (decide_eq_true hc1)) fun a hk => ?_
   refine c_end (x_t (wS ?_))
   refine c_T hk rfl ?_
   refine (wpIn_skip (x_t ?_))
   refine wS ?_
   refine wpIn_block ?_
   refine wS (wR ?_)
   refine q_v hk (w_mv rfl) fun a hk => ?_
   refine q_v hk (w_as rfl) fun a hk => ?_
   refine c_end (x_t (wS (wR ?_)))
   refine q_v hk (w_ld1 rfl ty60 (.blk (n := 1) ((hF.pi 6 rfl).at_ hs) rfl)) fun a hk => ?_
   refine q_v hk (w_mv rfl) fun a hk => ?_
   refine q_v hk (w_mv rfl) fun a hk => ?_
   have hs := hs.up2
   refine q_call (caps := []) hk rfl rfl Tryz.func61 fo61 rfl rfl (note_m t 3 ((i0 : Nat) : Int) ((k : Nat) : Int) (evs ++ upE 0 ((k : Nat) : Int) (pairE true ((i0 : Nat) : Int))) _ _ hT hs (by simp only [List.length_append]; omega)) ?_
   rintro _ w ⟨v2, r3, rfl, ht4, hs⟩
   have hT := ht4
   refine ⟨_, rfl, fun a hk => ?_⟩
   refine c_end (x_t ?_)
   have hL := okL.cons ((hF.pi 5 rfl).at_ hs) (okL.cons ((hF.pi 0 rfl).at_ hs) (okL.cons (hs.mi 2 rfl) (okL.cons (hQ.at_ hs) okL.nil)))
   refine d_begin _ 17 (by kernel_rfl) rfl hs hL fun w hs hL => ?_
   refine d_join (n2 := 3) 16383 (fun a w => Kn [] 47 [(43, vec (mq (((pw' i0) * (py i0)) * (pq k)))), (36, vec (mq (po k))), (35, .pointer (some ((adq (some ⟨ob, 0, none⟩)).add (k * 4)))), (42, vec (mq (pq k))), (41, .pointer (some ((adq (some ⟨qb, 0, none⟩)).add (k * 4)))), (40, .int .i64 ((k : Nat) : Int)), (39, .slice (some ⟨qb, 0, none⟩) (n + 1 - 1) (n + 1 - 1)), (38, vec (mq ((pw' i0) * (py i0)))), (37, fieldV s), (34, .int .i64 ((k : Nat) : Int)), (33, .slice (some ⟨ob, 0, none⟩) n n), (32, fieldV s), (31, .int .i64 ((k : Nat) : Int)), (30, .slice (some ⟨ob, 0, none⟩) n n), (29, v2), (28, .int .i64 ((k : Nat) : Int)), (27, .int .i64 ((i0 : Nat) : Int)), (26, tval t), (10, .int .i64 ((k : Nat) : Int)), (25, .int .i64 ((k : Nat) : Int)), (24, .bool true), (23, .int .i64 ((k : Nat) : Int)), (22, .int .i64 ((n : Nat) : Int)), (9, .pointer (some ⟨b1_10, 0, none⟩)), (0, .int .i64 ((i0 : Nat) : Int)), (1, .slice (some ⟨qb, 0, none⟩) (n + 1 - 1) (n + 1 - 1)), (2, .pointer (some ⟨bf, 0, none⟩)), (5, .pointer (some ⟨bo, 0, none⟩)), (6, .pointer (some ⟨bt, 0, none⟩))] a ∧ Sat F0 W (r3 :: (blk ob (en vq (fun i => ita po pq (pw' i0 * py i0) k i) n) 56) :: (blk b1_10 [.int .u64 ((dg 0 (mq ((pw' i0) * (py i0))) : Nat) : Int), .int .u64 ((dg 1 (mq ((pw' i0) * (py i0))) : Nat) : Int), .int .u64 ((dg 2 (mq ((pw' i0) * (py i0))) : Nat) : Int), .int .u64 ((dg 3 (mq ((pw' i0) * (py i0))) : Nat) : Int)] 56) :: M) R w ∧ okL [blk bo [.slice (some ⟨ob, 0, none⟩) n n] 51, blk bf (fieldL s) 120, blk b1_10 [.int .u64 ((dg 0 (mq ((pw' i0) * (py i0))) : Nat) : Int), .int .u64 ((dg 1 (mq ((pw' i0) * (py i0))) : Nat) : Int), .int .u64 ((dg 2 (mq ((pw' i0) * (py i0))) : Nat) : Int), .int .u64 ((dg 3 (mq ((pw' i0) * (py i0))) : Nat) : Int)] 56, lst 4 (.slice (some ⟨qb, 0, none⟩) (n + 1 - 1) (n + 1 - 1)) (n + 1 - 1) (en vq (fun i => mq (pq i)) (n + 1 - 1))] w) ?_ ?_
   ·
    intro hJ16383
    refine d_join (n2 := 4) 16319 (fun a w => Kn [] 47 [(43, vec (mq (((pw' i0) * (py i0)) * (pq k)))), (35, .pointer (some ((adq (some ⟨ob, 0, none⟩)).add (k * 4)))), (42, vec (mq (pq k))), (41, .pointer (some ((adq (some ⟨qb, 0, none⟩)).add (k * 4)))), (40, .int .i64 ((k : Nat) : Int)), (39, .slice (some ⟨qb, 0, none⟩) (n + 1 - 1) (n + 1 - 1)), (38, vec (mq ((pw' i0) * (py i0)))), (37, fieldV s), (34, .int .i64 ((k : Nat) : Int)), (33, .slice (some ⟨ob, 0, none⟩) n n), (32, fieldV s), (31, .int .i64 ((k : Nat) : Int)), (30, .slice (some ⟨ob, 0, none⟩) n n), (29, v2), (28, .int .i64 ((k : Nat) : Int)), (27, .int .i64 ((i0 : Nat) : Int)), (26, tval t), (10, .int .i64 ((k : Nat) : Int)), (25, .int .i64 ((k : Nat) : Int)), (24, .bool true), (23, .int .i64 ((k : Nat) : Int)), (22, .int .i64 ((n : Nat) : Int)), (9, .pointer (some ⟨b1_10, 0, none⟩)), (0, .int .i64 ((i0 : Nat) : Int)), (1, .slice (some ⟨qb, 0, none⟩) (n + 1 - 1) (n + 1 - 1)), (2, .pointer (some ⟨bf, 0, none⟩)), (5, .pointer (some ⟨bo, 0, none⟩)), (6, .pointer (some ⟨bt, 0, none⟩))] a ∧ Sat F0 W (r3 :: (blk ob (en vq (fun i => ita po pq (pw' i0 * py i0) k i) n) 56) :: (blk b1_10 [.int .u64 ((dg 0 (mq ((pw' i0) * (py i0))) : Nat) : Int), .int .u64 ((dg 1 (mq ((pw' i0) * (py i0))) : Nat) : Int), .int .u64 ((dg 2 (mq ((pw' i0) * (py i0))) : Nat) : Int), .int .u64 ((dg 3 (mq ((pw' i0) * (py i0))) : Nat) : Int)] 56) :: M) R w ∧ okL [blk bo [.slice (some ⟨ob, 0, none⟩) n n] 51, blk bf (fieldL s) 120, blk b1_10 [.int .u64 ((dg 0 (mq ((pw' i0) * (py i0))) : Nat) : Int), .int .u64 ((dg 1 (mq ((pw' i0) * (py i0))) : Nat) : Int), .int .u64 ((dg 2 (mq ((pw' i0) * (py i0))) : Nat) : Int), .int .u64 ((dg 3 (mq ((pw' i0) * (py i0))) : Nat) : Int)] 56, lst 4 (.slice (some ⟨qb, 0, none⟩) (n + 1 - 1) (n + 1 - 1)) (n + 1 - 1) (en vq (fun i => mq (pq i)) (n + 1 - 1))] w) ?_ ?_
    ·
     intro hJ16319
     refine d_w 0 1 hk hL rfl (fun w hL => w_ld1 rfl ty51 (.blk (n := 1) (hL.at 0 rfl) rfl)) fun a hk => ?_
     refine d_w 1 3 hk hL rfl (fun w hL => w_mv rfl) fun a hk => ?_
     refine d_w 2 7 hk hL rfl (fun w hL => w_ldA rfl ty120 (.blk (n := 14) (hL.at 1 rfl) rfl) rfl) fun a hk => ?_
     refine d_w 3 15 hk hL rfl (fun w hL => w_ld1 rfl ty51 (.blk (n := 1) (hL.at 0 rfl) rfl)) fun a hk => ?_
     refine d_w 4 31 hk hL rfl (fun w hL => w_mv rfl) fun a hk => ?_
     refine d_w 7 159 hk hL rfl (fun w hL => w_ldA rfl ty120 (.blk (n := 14) (hL.at 1 rfl) rfl) rfl) fun a hk => ?_
     refine d_w 8 415 hk hL rfl (fun w hL => w_ldv (z := mq ((pw' i0) * (py i0))) rfl ty56 (.blk (n := 4) (hL.at 2 rfl) rfl)) fun a hk => ?_
     refine d_w 9 927 hk hL rfl (fun w hL => w_mv rfl) fun a hk => ?_
     refine d_w 10 1951 hk hL rfl (fun w hL => w_mv rfl) fun a hk => ?_
     refine d_w 11 3999 hk hL rfl (fun w hL => w_iaL (k := k) rfl rfl Tryz.underlying51 ty56 (hL.at 3 rfl) (by omega) (by omega)) fun a hk => ?_
     refine d_w 12 8095 hk hL rfl (fun w hL => w_ldv (z := mq (pq k)) rfl ty56 (lstq (k := k) (hL.at 3 rfl) (by omega) (en_chunk vq_len (by omega)))) fun a hk => ?_
     refine d_2 5 13 8127 16287 rfl rfl (by kernel_rfl) (fun K hK => ?_) (fun K hK => ?_)
     ·
      refine q_v hk (w_iaL (k := k) rfl rfl Tryz.underlying51 ty56 (blk_lst (hs.mi 1 rfl) (en_len vq_len) (Nat.le_refl _)) (by omega) (by omega)) fun a hk => ?_
      have hL := okL.cons ((hF.pi 5 rfl).at_ hs) (okL.cons ((hF.pi 0 rfl).at_ hs) (okL.cons (hs.mi 2 rfl) (okL.cons (hQ.at_ hs) okL.nil)))
      refine c_end (x_t (hK _ _ hL ?_))
      clear hK K
      refine d_2 6 13 8191 16319 rfl rfl (by kernel_rfl) (fun K hK => ?_) (fun K hK => ?_)
      ·
       refine q_v hk (w_ldv (z := mq (po k)) rfl ty56 (vq_eq ita_at (lstq (k := k) (blk_lst (hs.mi 1 rfl) (en_len vq_len) (Nat.le_refl _)) (by omega) (en_chunk vq_len (by omega))))) fun a hk => ?_
       have hL := okL.cons ((hF.pi 5 rfl).at_ hs) (okL.cons ((hF.pi 0 rfl).at_ hs) (okL.cons (hs.mi 2 rfl) (okL.cons (hQ.at_ hs) okL.nil)))
       refine c_end (x_t (hK _ _ hL ?_))
       clear hK K
       refine d_1 13 16383 rfl (by kernel_rfl) fun K hK => ?_
       refine q_call (caps := []) hk rfl rfl Tryz.func120 fo120 rfl rfl (zmul_c (x := ((pw' i0) * (py i0))) (y := (pq k)) _ rfl rfl) ?_
       rintro _ w ⟨rfl, hb⟩
       have hs := hs.below hb
       refine ⟨_, rfl, fun a hk => ?_⟩
       have hL := okL.cons ((hF.pi 5 rfl).at_ hs) (okL.cons ((hF.pi 0 rfl).at_ hs) (okL.cons (hs.mi 2 rfl) (okL.cons (hQ.at_ hs) okL.nil)))
       refine c_end (x_t (hK _ _ hL ?_))
       clear hK K
       have hL := okL.cons ((hF.pi 5 rfl).at_ hs) (okL.cons ((hF.pi 0 rfl).at_ hs) (okL.cons (hs.mi 2 rfl) (okL.cons (hQ.at_ hs) okL.nil)))
       exact hJ16383 _ _ ⟨hk.k rfl (hk.k rfl (hk.k rfl (hk.k rfl (hk.k rfl (hk.k rfl (hk.k rfl (hk.k rfl (hk.k rfl (hk.k rfl (hk.k rfl (hk.k rfl (hk.k rfl (hk.k rfl (hk.k rfl (hk.k rfl (hk.k rfl (hk.k rfl (hk.k rfl (hk.k rfl (hk.k rfl (hk.k rfl (hk.k rfl (hk.k rfl (hk.k rfl (hk.k rfl (hk.k rfl (hk.k rfl (hk.k rfl hk.nil)))))))))))))))))))))))))))), hs, hL⟩
      ·
       refine q_call (caps := []) hk rfl rfl Tryz.func120 fo120 rfl rfl (zmul_c (x := ((pw' i0) * (py i0))) (y := (pq k)) _ rfl rfl) ?_
       rintro _ w ⟨rfl, hb⟩
       have hs := hs.below hb
       refine ⟨_, rfl, fun a hk => ?_⟩
       have hL := okL.cons ((hF.pi 5 rfl).at_ hs) (okL.cons ((hF.pi 0 rfl).at_ hs) (okL.cons (hs.mi 2 rfl) (okL.cons (hQ.at_ hs) okL.nil)))
       refine c_end (x_t (hK _ _ hL ?_))
       clear hK K
       have hL := okL.cons ((hF.pi 5 rfl).at_ hs) (okL.cons ((hF.pi 0 rfl).at_ hs) (okL.cons (hs.mi 2 rfl) (okL.cons (hQ.at_ hs) okL.nil)))
       exact hJ16319 _ _ ⟨hk.k rfl (hk.k rfl (hk.k rfl (hk.k rfl (hk.k rfl (hk.k rfl (hk.k rfl (hk.k rfl (hk.k rfl (hk.k rfl (hk.k rfl (hk.k rfl (hk.k rfl (hk.k rfl (hk.k rfl (hk.k rfl (hk.k rfl (hk.k rfl (hk.k rfl (hk.k rfl (hk.k rfl (hk.k rfl (hk.k rfl (hk.k rfl (hk.k rfl (hk.k rfl (hk.k rfl (hk.k rfl hk.nil))))))))))))))))))))))))))), hs, hL⟩
     ·
      refine q_call (caps := []) hk rfl rfl Tryz.func120 fo120 rfl rfl (zmul_c (x := ((pw' i0) * (py i0))) (y := (pq k)) _ rfl rfl) ?_
      rintro _ w ⟨rfl, hb⟩
      have hs := hs.below hb
      refine ⟨_, rfl, fun a hk => ?_⟩
      have hL := okL.cons ((hF.pi 5 rfl).at_ hs) (okL.cons ((hF.pi 0 rfl).at_ hs) (okL.cons (hs.mi 2 rfl) (okL.cons (hQ.at_ hs) okL.nil)))
      refine c_end (x_t (hK _ _ hL ?_))
      clear hK K
      refine d_1 5 16319 rfl (by kernel_rfl) fun K hK => ?_
      refine q_v hk (w_iaL (k := k) rfl rfl Tryz.underlying51 ty56 (blk_lst (hs.mi 1 rfl) (en_len vq_len) (Nat.le_refl _)) (by omega) (by omega)) fun a hk => ?_
      have hL := okL.cons ((hF.pi 5 rfl).at_ hs) (okL.cons ((hF.pi 0 rfl).at_ hs) (okL.cons (hs.mi 2 rfl) (okL.cons (hQ.at_ hs) okL.nil)))
      refine c_end (x_t (hK _ _ hL ?_))
      clear hK K
      have hL := okL.cons ((hF.pi 5 rfl).at_ hs) (okL.cons ((hF.pi 0 rfl).at_ hs) (okL.cons (hs.mi 2 rfl) (okL.cons (hQ.at_ hs) okL.nil)))
      exact hJ16319 _ _ ⟨hk.k rfl (hk.k rfl (hk.k rfl (hk.k rfl (hk.k rfl (hk.k rfl (hk.k rfl (hk.k rfl (hk.k rfl (hk.k rfl (hk.k rfl (hk.k rfl (hk.k rfl (hk.k rfl (hk.k rfl (hk.k rfl (hk.k rfl (hk.k rfl (hk.k rfl (hk.k rfl (hk.k rfl (hk.k rfl (hk.k rfl (hk.k rfl (hk.k rfl (hk.k rfl (hk.k rfl (hk.k rfl hk.nil))))))))))))))))))))))))))), hs, hL⟩
    ·
     rintro a w ⟨hk, hs, hL⟩
     refine d_1 6 16383 rfl (by kernel_rfl) fun K hK => ?_
     refine q_v hk (w_ldv (z := mq (po k)) rfl ty56 (vq_eq ita_at (lstq (k := k) (blk_lst (hs.mi 1 rfl) (en_len vq_len) (Nat.le_refl _)) (by omega) (en_chunk vq_len (by omega))))) fun a hk => ?_
     have hL := okL.cons ((hF.pi 5 rfl).at_ hs) (okL.cons ((hF.pi 0 rfl).at_ hs) (okL.cons (hs.mi 2 rfl) (okL.cons (hQ.at_ hs) okL.nil)))
     refine c_end (x_t (hK _ _ hL ?_))
     clear hK K
     have hL := okL.cons ((hF.pi 5 rfl).at_ hs) (okL.cons ((hF.pi 0 rfl).at_ hs) (okL.cons (hs.mi 2 rfl) (okL.cons (hQ.at_ hs) okL.nil)))
     exact hJ16383 _ _ ⟨hk.k rfl (hk.k rfl (hk.k rfl (hk.k rfl (hk.k rfl (hk.k rfl (hk.k rfl (hk.k rfl (hk.k rfl (hk.k rfl (hk.k rfl (hk.k rfl (hk.k rfl (hk.k rfl (hk.k rfl (hk.k rfl (hk.k rfl (hk.k rfl (hk.k rfl (hk.k rfl (hk.k rfl (hk.k rfl (hk.k rfl (hk.k rfl (hk.k rfl (hk.k rfl (hk.k rfl (hk.k rfl (hk.k rfl hk.nil)))))))))))))))))))))))))))), hs, hL⟩
   ·
    rintro a w ⟨hk, hs, hL⟩
    refine d_1 14 32767 rfl (by kernel_rfl) fun K hK => ?_
    refine q_call (caps := []) hk rfl rfl Tryz.func121 fo121 rfl rfl (zadd_c (x := (po k)) (y := (((pw' i0) * (py i0)) * (pq k))) _ rfl rfl) ?_
    rintro _ w ⟨rfl, hb⟩
    have hs := hs.below hb
    refine ⟨_, rfl, fun a hk => ?_⟩
    have hL := okL.cons ((hF.pi 5 rfl).at_ hs) (okL.cons ((hF.pi 0 rfl).at_ hs) (okL.cons (hs.mi 2 rfl) (okL.cons (hQ.at_ hs) okL.nil)))
    refine c_end (x_t (hK _ _ hL ?_))
    clear hK K
    refine d_1 15 65535 rfl (by kernel_rfl) fun K hK => ?_
    refine q_v hk (w_iaL (k := k) rfl rfl Tryz.underlying51 ty56 (blk_lst (hs.mi 1 rfl) (en_len vq_len) (Nat.le_refl _)) (by omega) (by omega)) fun a hk => ?_
    have hL := okL.cons ((hF.pi 5 rfl).at_ hs) (okL.cons ((hF.pi 0 rfl).at_ hs) (okL.cons (hs.mi 2 rfl) (okL.cons (hQ.at_ hs) okL.nil)))
    refine c_end (x_t (hK _ _ hL ?_))
    clear hK K
    refine d_1 16 131071 rfl (by kernel_rfl) fun K hK => ?_
    have hs := hs.up1
    refine q_stoE (c := vq) (xx := (mq ((po k) + (((pw' i0) * (py i0)) * (pq k))))) (k := k) hk hs rfl rfl rfl ty56 rfl vq_len rfl (by omega) rfl fun w hs => ?_
    have hL := okL.cons ((hF.pi 5 rfl).at_ hs) (okL.cons ((hF.pi 0 rfl).at_ hs) (okL.cons (hs.mi 2 rfl) (okL.cons (hQ.at_ hs) okL.nil)))
    refine c_end (x_t (hK _ _ hL ?_))
    clear hK K
    refine d_end (by kernel_rfl) ?_
    refine (x_b (x_t ?_))
    refine wR ?_
    refine q_v hk (w_add rfl rfl (wr64 (by omega) (by omega))) fun a hk => ?_
    refine q_v hk (w_mv rfl) fun a hk => ?_
    refine c_end (x_t ?_)
    have hs := hs.rw0 (congrArg (fun q => blk ob q 56) (ita_step (po := po) (pq := pq)))
    rw [pairT_next] at hT
    have hs := hs.up1
    have hs := hs.up2
    have hs := hs.up2
    exact ⟨k + 1, ⟨_, (by omega), hT, hk.k rfl (hk.k rfl (hk.k rfl (hk.k rfl (hk.k rfl (hk.k rfl (hk.k rfl (hk.k rfl hk.nil))))))), hs⟩, by omega⟩
  ·
   refine q_v hk (w_lt rfl rfl (decide_eq_false hc1)) fun a hk => ?_
   refine c_end (x_t (wS ?_))
   refine c_F hk rfl ?_
   refine (wpIn_exit (x_te (x_te (x_be ?_))))
   refine c_end0 hk rfl ?_
   have hs := hs.up1
   have hs := hs.drop
   have hs := hs.up1
   have hkn : k = n := by omega
   rw [hkn] at hs hT
   rw [ita_end] at hs
   exact ⟨_, _, rfl, hT, hs⟩
theorem interp_m {F0 : Nat → Prop} {W : World} {M R : List Res} (s : Bool) (n lc yc : Nat) (la ya : Option Addr) (v : Nat → Nat) (py : Nat → Zp s) (t : Option Nat) (evs : List Ev) (r : Res) (w0 : World) (hs : Sat F0 W (r :: M) ((lst 4 (.slice ya n yc) n (en vq (fun i => mq (py i)) n)) :: R) w0) (hT : TapeIs t evs r) (hL : HasR (lst 1 (.slice la n lc) n (en ic (fun i => ((v i : Nat) : Int)) n)) R) (h0 : 0 < n) (hn : n ≤ 255) (hv : ∀ i, i < n → 1 ≤ v i ∧ v i ≤ 255) (hd : ∀ i k, i < k → k < n → v i ≠ v k) (he : evs.length ≤ 10000000) : Calls Tryz.prog 90 [tval t, fieldV s, .slice la n lc, .slice ya n yc].toArray w0 fun e w => ∃ b r, e = .returned (.tuple #[.slice (some ⟨b, 0, none⟩) n n, .int .i64 0]) ∧ TapeIs t (evs ++ interpE (n : Int)) r ∧ Sat F0 W (r :: blk b (en vq (fun i => mq (itp (pt s v) py n n i)) n) 56 :: M) R w := by
 refine c_enter (args := [tval t, fieldV s, .slice la n lc, .slice ya n yc]) Tryz.func90 rfl rfl rfl fun a hk => ?_
 refine wS (wR ?_)
 refine q_box (vs := [tval t]) hk hs rfl rfl rfl rfl fun b1 w a hk hs => ?_
 refine q_box (vs := fieldL s) hk hs rfl rfl rfl rfl fun b2 w a hk hs => ?_
 refine q_box (vs := [.slice ya n yc]) hk hs rfl rfl rfl rfl fun b3 w a hk hs => ?_
 refine q_v hk (w_as rfl) fun a hk => ?_
 refine q_v hk (w_as rfl) fun a hk => ?_
 refine c_end (x_t (wS (wS (wR ?_))))
 refine q_v hk (w_mv rfl) fun a hk => ?_
 refine q_call (caps := []) hk rfl rfl Tryz.func127 fo127 rfl rfl (lcheck_c n lc la v _ ((hL.cons).at_ hs) (by omega) hv hd) ?_
 rintro _ w ⟨rfl, hb⟩
 have hs := hs.below hb
 refine ⟨_, rfl, fun a hk => ?_⟩
 refine q_v hk (w_as rfl) fun a hk => ?_
 refine c_end (x_t (wS (wR ?_)))
 refine q_v hk (w_mv rfl) fun a hk => ?_
 refine q_v hk (w_ne rfl rfl (decide_eq_false (by decide))) fun a hk => ?_
 refine c_end (x_t ?_)
 refine c_F hk rfl ?_
 refine (wpIn_skip (x_t ?_))
 refine wS (wS (wR ?_))
 refine q_v hk (w_mv rfl) fun a hk => ?_
 refine q_v hk (w_len rfl Tryz.underlying34) fun a hk => ?_
 refine q_v hk (w_ld1 rfl ty51 (.blk (n := 1) (hs.mi 0 rfl) rfl)) fun a hk => ?_
 refine q_v hk (w_len rfl Tryz.underlying51) fun a hk => ?_
 refine q_v hk (w_ne rfl rfl (decide_eq_false (by omega))) fun a hk => ?_
 refine c_end (x_t ?_)
 refine c_F hk rfl ?_
 refine (wpIn_skip (x_t ?_))
 refine wS (wR ?_)
 refine q_v hk (w_ld1 rfl ty60 (.blk (n := 1) (hs.mi 2 rfl) rfl)) fun a hk => ?_
 refine q_v hk (w_ldA rfl ty120 (.blk (n := 14) (hs.mi 1 rfl) rfl) rfl) fun a hk => ?_
 refine q_v hk (w_mv rfl) fun a hk => ?_
 have hs := hs.up3
 refine q_call (caps := []) hk rfl rfl Tryz.func116 fo116 rfl rfl (weights_m0 s n lc la v t evs _ _ hs hT (hL.cons) h0 hn hv hd (by omega)) ?_
 rintro _ w ⟨b4, r5, rfl, ht6, hs⟩
 have hT := ht6
 refine ⟨_, rfl, fun a hk => ?_⟩
 refine q_v hk (w_mv rfl) fun a hk => ?_
 refine q_v hk (w_ext rfl rfl) fun a hk => ?_
 refine q_v hk (w_ext rfl rfl) fun a hk => ?_
 refine q_alc (vs := [.slice none 0 0]) hk hs zr51 rfl rfl rfl fun b7 w a hk hs => ?_
 refine q_sto (o := 0) (cs := [.slice (some ⟨b4, 0, none⟩) n n]) (vs' := [.slice (some ⟨b4, 0, none⟩) n n]) hk hs rfl rfl rfl ty51 rfl rfl rfl rfl rfl rfl fun w hs => ?_
 refine q_v hk (w_as rfl) fun a hk => ?_
 refine c_end (x_t (wS (wR ?_)))
 refine q_v hk (w_ldA rfl ty120 (.blk (n := 14) (hs.mi 4 rfl) rfl) rfl) fun a hk => ?_
 refine q_v hk (w_mv rfl) fun a hk => ?_
 refine q_call (caps := []) hk rfl rfl Tryz.func117 fo117 rfl rfl (points_m s n lc la v _ (hs.hasR (hL.cons)) (by omega) hv) ?_
 rintro _ w ⟨b8, rfl, hs⟩
 have hs := hs.subR (R' := ((lst 4 (.slice ya n yc) n (en vq (fun i => mq (py i)) n)) :: R)) (by simp +contextual)
 refine ⟨_, rfl, fun a hk => ?_⟩
 refine q_v hk (w_as rfl) fun a hk => ?_
 have hs := hs.frz (r := lst 4 (.slice (some ⟨b8, 0, none⟩) n n) n (en vq (fun i => mq (pt s v i)) n)) (blk_lst (hs.mi 0 rfl) (en_len vq_len) (Nat.le_refl _)) (fun _ h => (Option.some.inj h.2).symm)
 refine c_end (x_t (wS (wR ?_)))
 refine q_v hk (w_ldA rfl ty120 (.blk (n := 14) (hs.mi 4 rfl) rfl) rfl) fun a hk => ?_
 refine q_v hk (w_mv rfl) fun a hk => ?_
 refine q_call (caps := []) hk rfl rfl Tryz.func118 fo118 rfl rfl (master_m s n n (some ⟨b8, 0, none⟩) (pt s v) _ (hs.hasR (HasR.nth 0 rfl)) (by omega)) ?_
 rintro _ w ⟨b9, rfl, hs⟩
 have hs := hs.subR (R' := ((lst 4 (.slice (some ⟨b8, 0, none⟩) n n) n (en vq (fun i => mq (pt s v i)) n)) :: (lst 4 (.slice ya n yc) n (en vq (fun i => mq (py i)) n)) :: R)) (by simp +contextual)
 refine ⟨_, rfl, fun a hk => ?_⟩
 refine q_v hk (w_as rfl) fun a hk => ?_
 have hs := hs.frz (r := lst 4 (.slice (some ⟨b9, 0, none⟩) (n + 1) (n + 1)) (n + 1) (en vq (fun i => mq (mst (pt s v) n i)) (n + 1))) (blk_lst (hs.mi 0 rfl) (en_len vq_len) (Nat.le_refl _)) (fun _ h => (Option.some.inj h.2).symm)
 refine c_end (x_t (wS (wR ?_)))
 refine q_v hk (w_mv rfl) fun a hk => ?_
 refine q_v hk (w_len rfl Tryz.underlying51) fun a hk => ?_
 refine q_mks (k := n) (cs := vq 0) hk hs rfl rfl Tryz.underlying51 ty56 zr56 (by kernel_rfl) rfl rfl rfl rfl (by omega) (by omega) rfl rfl fun b10 w a hk hs => ?_
 have hs := hs.rw0 (show _ = blk b10 (en vq (fun _ => 0) n) 56 from rfl)
 refine q_alc (vs := [.slice none 0 0]) hk hs zr51 rfl rfl rfl fun b11 w a hk hs => ?_
 refine q_sto (o := 0) (cs := [.slice (some ⟨b10, 0, none⟩) n n]) (vs' := [.slice (some ⟨b10, 0, none⟩) n n]) hk hs rfl rfl rfl ty51 rfl rfl rfl rfl rfl rfl fun w hs => ?_
 refine c_end (x_t (wS (wR ?_)))
 refine q_v hk (w_mkf (frees := [.tmp 5, .tmp 11, .tmp 7, .tmp 15, .tmp 4]) rfl) fun a hk => ?_
 refine q_v hk (w_as rfl) fun a hk => ?_
 refine c_end (x_t (wS (wS (wR ?_))))
 refine q_v hk (w_mv rfl) fun a hk => ?_
 refine q_v hk (w_len rfl Tryz.underlying51) fun a hk => ?_
 refine q_v hk (w_mv rfl) fun a hk => ?_
 refine c_end (x_t ?_)
 refine wpIn_block ?_
 have hs := hs.up4
 have hs := hs.frz (r := lst 4 (.slice (some ⟨b4, 0, none⟩) n n) n (en vq (fun i => mq (wgt (pt s v) n i)) n)) (blk_lst (hs.mi 0 rfl) (en_len vq_len) (Nat.le_refl _)) (fun _ h => (Option.some.inj h.2).symm)
 have hs := hs.up6
 have hs := hs.frz (r := blk b1 [tval t] 60) (hs.okM _ (.head _)) (fun _ h => h)
 have hs := hs.up5
 have hs := hs.frz (r := blk b2 (fieldL s) 120) (hs.okM _ (.head _)) (fun _ h => h)
 have hs := hs.up4
 have hs := hs.frz (r := blk b3 [.slice ya n yc] 51) (hs.okM _ (.head _)) (fun _ h => h)
 have hs := hs.up2
 have hs := hs.frz (r := blk b7 [.slice (some ⟨b4, 0, none⟩) n n] 51) (hs.okM _ (.head _)) (fun _ h => h)
 have hs := hs.frz (r := blk b11 [.slice (some ⟨b10, 0, none⟩) n n] 51) (hs.okM _ (.head _)) (fun _ h => h)
 have hs := hs.rw0 (congrArg (fun q => blk b10 q 56) (itp_zero (x := pt s v) (y := py) (n := n)))
 refine c_loop (α := Nat) (fun u a w => ∃ (r : Res), u ≤ n ∧ TapeIs t (evs ++ weightsE (n : Int) ++ upE 0 ((u : Nat) : Int) (pairT n)) r ∧ Kn [] 68 [(49, .int .i64 ((u : Nat) : Int)), (48, .int .i64 ((n : Nat) : Int)), (16, .func (.func 128) #[] #[.pointer (some ⟨b2, 0, none⟩), .pointer (some ⟨b7, 0, none⟩), .pointer (some ⟨b3, 0, none⟩), .pointer (some ⟨b11, 0, none⟩), .pointer (some ⟨b1, 0, none⟩)]), (15, .pointer (some ⟨b11, 0, none⟩)), (14, .slice (some ⟨b9, 0, none⟩) (n + 1) (n + 1)), (13, .slice (some ⟨b8, 0, none⟩) n n), (9, .int .i64 0), (8, .slice none 0 0), (5, .pointer (some ⟨b2, 0, none⟩))] a ∧ Sat F0 W ((blk b10 (en vq (fun i => mq (itp (pt s v) py n u i)) n) 56) :: r :: M) ((blk b11 [.slice (some ⟨b10, 0, none⟩) n n] 51) :: (blk b7 [.slice (some ⟨b4, 0, none⟩) n n] 51) :: (blk b3 [.slice ya n yc] 51) :: (blk b2 (fieldL s) 120) :: (blk b1 [tval t] 60) :: (lst 4 (.slice (some ⟨b4, 0, none⟩) n n) n (en vq (fun i => mq (wgt (pt s v) n i)) n)) :: (lst 4 (.slice (some ⟨b9, 0, none⟩) (n + 1) (n + 1)) (n + 1) (en vq (fun i => mq (mst (pt s v) n i)) (n + 1))) :: (lst 4 (.slice (some ⟨b8, 0, none⟩) n n) n (en vq (fun i => mq (pt s v i)) n)) :: (lst 4 (.slice ya n yc) n (en vq (fun i => mq (py i)) n)) :: R) w) (fun u => n - u) 0 ?_ ?_
 · exact ⟨_, (by omega), (by rw [upE_nil (by omega), List.append_nil]; exact hT), hk.k rfl (hk.k rfl (hk.k rfl (hk.k rfl (hk.k rfl (hk.k rfl (hk.k rfl (hk.k rfl (hk.k rfl hk.nil)))))))), hs⟩
 rintro u a w ⟨r, hf0, hf1, hk, hs⟩
 have hT := hf1
 have hlw := weights_len (n := (n : Int)) (by omega)
 have hlu := pairTs_len (n := n) (u := u)
 have hun : u * n ≤ 1000 * 1000 := Nat.mul_le_mul (by omega) (by omega)
 refine wS (wR ?_)
 rcases Classical.em (((u : Nat) : Int) < ((n : Nat) : Int)) with hc12 | hc12
 ·
  refine q_v hk (w_lt rfl rfl (decide_eq_true hc12)) fun a hk => ?_
  refine c_end (x_t (wS ?_))
  refine c_T hk rfl ?_
  refine (wpIn_skip (x_t ?_))
  refine wS ?_
  refine wpIn_block ?_
  refine wS (wR ?_)
  refine q_v hk (w_mv rfl) fun a hk => ?_
  refine q_v hk (w_as rfl) fun a hk => ?_
  refine c_end (x_t (wS ?_))
  have hL := okL.cons (hs.ri 3 rfl) (okL.cons (hs.ri 7 rfl) okL.nil)
  refine d_begin _ 13 (by kernel_rfl) rfl hs hL fun w hs hL => ?_
  refine d_join (n2 := 1) 4095 (fun a w => ∃ (b1_6 : Nat) (b1_10 : Nat), Kn [] 68 [(18, .slice (some ⟨b1_6, 0, none⟩) (n + 1 - 1) (n + 1 - 1)), (19, .pointer (some ⟨b1_10, 0, none⟩)), (61, vec (mq (Hn (mst (pt s v) n) (n + 1) (pt s v u) (n + 1)))), (60, .slice (some ⟨b1_6, 0, none⟩) (n + 1 - 1) (n + 1 - 1)), (52, .tuple #[.slice (some ⟨b1_6, 0, none⟩) (n + 1 - 1) (n + 1 - 1), vec (mq (Hn (mst (pt s v) n) (n + 1) (pt s v u) (n + 1)))]), (59, .tuple #[.slice (some ⟨b1_6, 0, none⟩) (n + 1 - 1) (n + 1 - 1), vec (mq (Hn (mst (pt s v) n) (n + 1) (pt s v u) (n + 1)))]), (58, vec (mq (pt s v u))), (57, .pointer (some ((adq (some ⟨b8, 0, none⟩)).add (u * 4)))), (56, .int .i64 ((u : Nat) : Int)), (55, .slice (some ⟨b8, 0, none⟩) n n), (54, .slice (some ⟨b9, 0, none⟩) (n + 1) (n + 1)), (53, fieldV s), (17, .int .i64 ((u : Nat) : Int)), (51, .int .i64 ((u : Nat) : Int)), (50, .bool true), (49, .int .i64 ((u : Nat) : Int)), (48, .int .i64 ((n : Nat) : Int)), (16, .func (.func 128) #[] #[.pointer (some ⟨b2, 0, none⟩), .pointer (some ⟨b7, 0, none⟩), .pointer (some ⟨b3, 0, none⟩), .pointer (some ⟨b11, 0, none⟩), .pointer (some ⟨b1, 0, none⟩)]), (15, .pointer (some ⟨b11, 0, none⟩)), (14, .slice (some ⟨b9, 0, none⟩) (n + 1) (n + 1)), (13, .slice (some ⟨b8, 0, none⟩) n n), (9, .int .i64 0), (8, .slice none 0 0), (5, .pointer (some ⟨b2, 0, none⟩))] a ∧ Sat F0 W ((blk b1_10 [.int .u64 0, .int .u64 0, .int .u64 0, .int .u64 0] 56) :: (blk b1_6 (en vq (fun i => mq (Hn (mst (pt s v) n) (n + 1) (pt s v u) (n + 1 - 1 - i))) (n + 1 - 1)) 56) :: (blk b10 (en vq (fun i => mq (itp (pt s v) py n u i)) n) 56) :: r :: M) ((blk b11 [.slice (some ⟨b10, 0, none⟩) n n] 51) :: (blk b7 [.slice (some ⟨b4, 0, none⟩) n n] 51) :: (blk b3 [.slice ya n yc] 51) :: (blk b2 (fieldL s) 120) :: (blk b1 [tval t] 60) :: (lst 4 (.slice (some ⟨b4, 0, none⟩) n n) n (en vq (fun i => mq (wgt (pt s v) n i)) n)) :: (lst 4 (.slice (some ⟨b9, 0, none⟩) (n + 1) (n + 1)) (n + 1) (en vq (fun i => mq (mst (pt s v) n i)) (n + 1))) :: (lst 4 (.slice (some ⟨b8, 0, none⟩) n n) n (en vq (fun i => mq (pt s v i)) n)) :: (lst 4 (.slice ya n yc) n (en vq (fun i => mq (py i)) n)) :: R) w ∧ okL [blk b2 (fieldL s) 120, lst 4 (.slice (some ⟨b8, 0, none⟩) n n) n (en vq (fun i => mq (pt s v i)) n)] w) ?_ ?_
  ·
   intro hJ4095
   refine d_w 0 1 hk hL rfl (fun w hL => w_ldA rfl ty120 (.blk (n := 14) (hL.at 0 rfl) rfl) rfl) fun a hk => ?_
   refine d_w 1 3 hk hL rfl (fun w hL => w_mv rfl) fun a hk => ?_
   refine d_w 2 7 hk hL rfl (fun w hL => w_mv rfl) fun a hk => ?_
   refine d_w 3 15 hk hL rfl (fun w hL => w_mv rfl) fun a hk => ?_
   refine d_w 4 31 hk hL rfl (fun w hL => w_iaL (k := u) rfl rfl Tryz.underlying51 ty56 (hL.at 1 rfl) (by omega) (by omega)) fun a hk => ?_
   refine d_w 5 63 hk hL rfl (fun w hL => w_ldv (z := mq (pt s v u)) rfl ty56 (lstq (k := u) (hL.at 1 rfl) (by omega) (en_chunk vq_len (by omega)))) fun a hk => ?_
   refine d_2 6 10 127 1087 rfl rfl (by kernel_rfl) (fun K hK => ?_) (fun K hK => ?_)
   ·
    have hs := hs.none
    refine q_call (caps := []) hk rfl rfl Tryz.func119 fo119 rfl rfl (quot_m s (n + 1) (n + 1) (some ⟨b9, 0, none⟩) (mst (pt s v) n) (pt s v u) none [] _ _ hs rfl (HasR.nth 6 rfl) (by omega) (by omega) (by decide)) ?_
    rintro _ w ⟨b1_6, r1_6b, rfl, ht1_6c, hs⟩
    have hs := hs.drop
    refine ⟨_, rfl, fun a hk => ?_⟩
    have hL := okL.cons (hs.ri 3 rfl) (okL.cons (hs.ri 7 rfl) okL.nil)
    refine c_end (x_t (hK _ _ hL ?_))
    clear hK K
    refine d_w 7 255 hk hL rfl (fun w hL => w_mv rfl) fun a hk => ?_
    refine d_w 8 511 hk hL rfl (fun w hL => w_ext rfl rfl) fun a hk => ?_
    refine d_w 9 1023 hk hL rfl (fun w hL => w_ext rfl rfl) fun a hk => ?_
    refine d_1 10 2047 rfl (by kernel_rfl) fun K hK => ?_
    refine q_alc (vs := [.int .u64 0, .int .u64 0, .int .u64 0, .int .u64 0]) hk hs zr56 rfl rfl rfl fun b1_10 w a hk hs => ?_
    have hL := okL.cons (hs.ri 3 rfl) (okL.cons (hs.ri 7 rfl) okL.nil)
    refine c_end (x_t (hK _ _ hL ?_))
    clear hK K
    refine d_w 11 4095 hk hL rfl (fun w hL => w_as rfl) fun a hk => ?_
    have hL := okL.cons (hs.ri 3 rfl) (okL.cons (hs.ri 7 rfl) okL.nil)
    exact hJ4095 _ _ ⟨_, _, hk.k rfl (hk.k rfl (hk.k rfl (hk.k rfl (hk.k rfl (hk.k rfl (hk.k rfl (hk.k rfl (hk.k rfl (hk.k rfl (hk.k rfl (hk.k rfl (hk.k rfl (hk.k rfl (hk.k rfl (hk.k rfl (hk.k rfl (hk.k rfl (hk.k rfl (hk.k rfl (hk.k rfl (hk.k rfl (hk.k rfl (hk.k rfl hk.nil))))))))))))))))))))))), hs, hL⟩
   ·
    refine q_alc (vs := [.int .u64 0, .int .u64 0, .int .u64 0, .int .u64 0]) hk hs zr56 rfl rfl rfl fun b1_10 w a hk hs => ?_
    have hL := okL.cons (hs.ri 3 rfl) (okL.cons (hs.ri 7 rfl) okL.nil)
    refine c_end (x_t (hK _ _ hL ?_))
    clear hK K
    refine d_1 6 1151 rfl (by kernel_rfl) fun K hK => ?_
    have hs := hs.none
    refine q_call (caps := []) hk rfl rfl Tryz.func119 fo119 rfl rfl (quot_m s (n + 1) (n + 1) (some ⟨b9, 0, none⟩) (mst (pt s v) n) (pt s v u) none [] _ _ hs rfl (HasR.nth 6 rfl) (by omega) (by omega) (by decide)) ?_
    rintro _ w ⟨b1_6, r1_6b, rfl, ht1_6c, hs⟩
    have hs := hs.drop
    refine ⟨_, rfl, fun a hk => ?_⟩
    have hL := okL.cons (hs.ri 3 rfl) (okL.cons (hs.ri 7 rfl) okL.nil)
    refine c_end (x_t (hK _ _ hL ?_))
    clear hK K
    refine d_w 7 1279 hk hL rfl (fun w hL => w_mv rfl) fun a hk => ?_
    refine d_w 8 1535 hk hL rfl (fun w hL => w_ext rfl rfl) fun a hk => ?_
    refine d_w 9 2047 hk hL rfl (fun w hL => w_ext rfl rfl) fun a hk => ?_
    refine d_w 11 4095 hk hL rfl (fun w hL => w_as rfl) fun a hk => ?_
    have hs := hs.up3
    have hs := hs.up3
    have hs := hs.up2
    have hs := hs.up3
    have hL := okL.cons (hs.ri 3 rfl) (okL.cons (hs.ri 7 rfl) okL.nil)
    exact hJ4095 _ _ ⟨_, _, hk.k rfl (hk.k rfl (hk.k rfl (hk.k rfl (hk.k rfl (hk.k rfl (hk.k rfl (hk.k rfl (hk.k rfl (hk.k rfl (hk.k rfl (hk.k rfl (hk.k rfl (hk.k rfl (hk.k rfl (hk.k rfl (hk.k rfl (hk.k rfl (hk.k rfl (hk.k rfl (hk.k rfl (hk.k rfl (hk.k rfl (hk.k rfl hk.nil))))))))))))))))))))))), hs, hL⟩
  ·
   rintro a w ⟨b1_6, b1_10, hk, hs, hL⟩
   refine d_1 12 8191 rfl (by kernel_rfl) fun K hK => ?_
   refine q_sto (o := 0) (cs := [.int .u64 ((dg 0 (mq (Hn (mst (pt s v) n) (n + 1) (pt s v u) (n + 1))) : Nat) : Int), .int .u64 ((dg 1 (mq (Hn (mst (pt s v) n) (n + 1) (pt s v u) (n + 1))) : Nat) : Int), .int .u64 ((dg 2 (mq (Hn (mst (pt s v) n) (n + 1) (pt s v u) (n + 1))) : Nat) : Int), .int .u64 ((dg 3 (mq (Hn (mst (pt s v) n) (n + 1) (pt s v u) (n + 1))) : Nat) : Int)]) (vs' := [.int .u64 ((dg 0 (mq (Hn (mst (pt s v) n) (n + 1) (pt s v u) (n + 1))) : Nat) : Int), .int .u64 ((dg 1 (mq (Hn (mst (pt s v) n) (n + 1) (pt s v u) (n + 1))) : Nat) : Int), .int .u64 ((dg 2 (mq (Hn (mst (pt s v) n) (n + 1) (pt s v u) (n + 1))) : Nat) : Int), .int .u64 ((dg 3 (mq (Hn (mst (pt s v) n) (n + 1) (pt s v u) (n + 1))) : Nat) : Int)]) hk hs rfl rfl rfl ty56 rfl rfl rfl rfl rfl rfl fun w hs => ?_
   have hL := okL.cons (hs.ri 3 rfl) (okL.cons (hs.ri 7 rfl) okL.nil)
   refine c_end (x_t (hK _ _ hL ?_))
   clear hK K
   refine d_end (by kernel_rfl) ?_
   refine (x_t ?_)
   refine wR ?_
   refine q_v hk (w_mv rfl) fun a hk => ?_
   refine q_v hk (w_mv rfl) fun a hk => ?_
   refine q_v hk (w_mv rfl) fun a hk => ?_
   have hs := hs.up1
   have hs := hs.frz (r := lst 4 (.slice (some ⟨b1_6, 0, none⟩) (n + 1 - 1) (n + 1 - 1)) (n + 1 - 1) (en vq (fun i => mq (Hn (mst (pt s v) n) (n + 1) (pt s v u) (n + 1 - 1 - i))) (n + 1 - 1))) (blk_lst (hs.mi 0 rfl) (en_len vq_len) (Nat.le_refl _)) (fun _ h => (Option.some.inj h.2).symm)
   have hs := hs.up1
   have hs := hs.up2
   have hFF : HasR (rall [blk b2 (fieldL s) 120, blk b7 [.slice (some ⟨b4, 0, none⟩) n n] 51, lst 4 (.slice (some ⟨b4, 0, none⟩) n n) n (en vq (fun i => mq (wgt (pt s v) n i)) n), blk b3 [.slice ya n yc] 51, lst 4 (.slice ya n yc) n (en vq (fun i => mq (py i)) n), blk b11 [.slice (some ⟨b10, 0, none⟩) n n] 51, blk b1 [tval t] 60]) ((lst 4 (.slice (some ⟨b1_6, 0, none⟩) (n + 1 - 1) (n + 1 - 1)) (n + 1 - 1) (en vq (fun i => mq (Hn (mst (pt s v) n) (n + 1) (pt s v u) (n + 1 - 1 - i))) (n + 1 - 1))) :: (blk b11 [.slice (some ⟨b10, 0, none⟩) n n] 51) :: (blk b7 [.slice (some ⟨b4, 0, none⟩) n n] 51) :: (blk b3 [.slice ya n yc] 51) :: (blk b2 (fieldL s) 120) :: (blk b1 [tval t] 60) :: (lst 4 (.slice (some ⟨b4, 0, none⟩) n n) n (en vq (fun i => mq (wgt (pt s v) n i)) n)) :: (lst 4 (.slice (some ⟨b9, 0, none⟩) (n + 1) (n + 1)) (n + 1) (en vq (fun i => mq (mst (pt s v) n i)) (n + 1))) :: (lst 4 (.slice (some ⟨b8, 0, none⟩) n n) n (en vq (fun i => mq (pt s v i)) n)) :: (lst 4 (.slice ya n yc) n (en vq (fun i => mq (py i)) n)) :: R) := (.rall fun q hq => by simp only [List.mem_cons, List.not_mem_nil, or_false] at hq; rcases hq with rfl | rfl | rfl | rfl | rfl | rfl | rfl <;> exact HasR.of (by simp))
   refine q_call (caps := [.pointer (some ⟨b2, 0, none⟩), .pointer (some ⟨b7, 0, none⟩), .pointer (some ⟨b3, 0, none⟩), .pointer (some ⟨b11, 0, none⟩), .pointer (some ⟨b1, 0, none⟩)]) hk rfl rfl Tryz.func128 fo128 rfl rfl (iadd_m s n u b2 b7 b3 b11 b1 b4 b10 b1_6 yc ya (wgt (pt s v) n) py (itp (pt s v) py n u) (fun k => Hn (mst (pt s v) n) (n + 1) (pt s v u) (n + 1 - 1 - k)) t (evs ++ weightsE (n : Int) ++ upE 0 ((u : Nat) : Int) (pairT n)) _ _ hs hFF (HasR.nth 0 rfl) hT (by omega) (by omega) (by simp only [List.length_append]; omega)) ?_
   rintro _ w ⟨v13, r14, rfl, hT, hs⟩
   have hs : Sat F0 W (r14 :: (blk b10 (en vq (fun i => mq (itp (pt s v) py n (u + 1) i)) n) 56) :: (blk b1_10 [.int .u64 ((dg 0 (mq (Hn (mst (pt s v) n) (n + 1) (pt s v u) (n + 1))) : Nat) : Int), .int .u64 ((dg 1 (mq (Hn (mst (pt s v) n) (n + 1) (pt s v u) (n + 1))) : Nat) : Int), .int .u64 ((dg 2 (mq (Hn (mst (pt s v) n) (n + 1) (pt s v u) (n + 1))) : Nat) : Int), .int .u64 ((dg 3 (mq (Hn (mst (pt s v) n) (n + 1) (pt s v u) (n + 1))) : Nat) : Int)] 56) :: M) ((lst 4 (.slice (some ⟨b1_6, 0, none⟩) (n + 1 - 1) (n + 1 - 1)) (n + 1 - 1) (en vq (fun i => mq (Hn (mst (pt s v) n) (n + 1) (pt s v u) (n + 1 - 1 - i))) (n + 1 - 1))) :: (blk b11 [.slice (some ⟨b10, 0, none⟩) n n] 51) :: (blk b7 [.slice (some ⟨b4, 0, none⟩) n n] 51) :: (blk b3 [.slice ya n yc] 51) :: (blk b2 (fieldL s) 120) :: (blk b1 [tval t] 60) :: (lst 4 (.slice (some ⟨b4, 0, none⟩) n n) n (en vq (fun i => mq (wgt (pt s v) n i)) n)) :: (lst 4 (.slice (some ⟨b9, 0, none⟩) (n + 1) (n + 1)) (n + 1) (en vq (fun i => mq (mst (pt s v) n i)) (n + 1))) :: (lst 4 (.slice (some ⟨b8, 0, none⟩) n n) n (en vq (fun i => mq (pt s v i)) n)) :: (lst 4 (.slice ya n yc) n (en vq (fun i => mq (py i)) n)) :: R) w := hs
   have hs := hs.subR (R' := ((blk b11 [.slice (some ⟨b10, 0, none⟩) n n] 51) :: (blk b7 [.slice (some ⟨b4, 0, none⟩) n n] 51) :: (blk b3 [.slice ya n yc] 51) :: (blk b2 (fieldL s) 120) :: (blk b1 [tval t] 60) :: (lst 4 (.slice (some ⟨b4, 0, none⟩) n n) n (en vq (fun i => mq (wgt (pt s v) n i)) n)) :: (lst 4 (.slice (some ⟨b9, 0, none⟩) (n + 1) (n + 1)) (n + 1) (en vq (fun i => mq (mst (pt s v) n i)) (n + 1))) :: (lst 4 (.slice (some ⟨b8, 0, none⟩) n n) n (en vq (fun i => mq (pt s v i)) n)) :: (lst 4 (.slice ya n yc) n (en vq (fun i => mq (py i)) n)) :: R)) (by simp +contextual)
   refine ⟨_, rfl, fun a hk => ?_⟩
   refine (c_end (x_b (x_t ?_)))
   refine wR ?_
   refine q_v hk (w_add rfl rfl (wr64 (by omega) (by omega))) fun a hk => ?_
   refine q_v hk (w_mv rfl) fun a hk => ?_
   refine c_end (x_t ?_)
   rw [pt_row] at hT
   have hs := hs.up2
   have hs := hs.drop
   have hs := hs.up1
   exact ⟨u + 1, ⟨_, (by omega), hT, hk.k rfl (hk.k rfl (hk.k rfl (hk.k rfl (hk.k rfl (hk.k rfl (hk.k rfl (hk.k rfl (hk.k rfl hk.nil)))))))), hs⟩, by omega⟩
 ·
  refine q_v hk (w_lt rfl rfl (decide_eq_false hc12)) fun a hk => ?_
  refine c_end (x_t (wS ?_))
  refine c_F hk rfl ?_
  refine (wpIn_exit (x_te (x_te (x_be ?_))))
  refine (x_t ?_)
  refine wS (wR ?_)
  refine q_v hk (w_ld1 rfl ty51 (.blk (n := 1) (hs.ri 0 rfl) rfl)) fun a hk => ?_
  refine q_v hk (w_as rfl) fun a hk => ?_
  refine q_v hk (w_as rfl) fun a hk => ?_
  refine c_end (x_t ?_)
  refine (wpIn_ret ?_)
  refine c_ret2 hk rfl rfl rfl ?_
  have hs := hs.up1
  have hs := hs.toR (R' := R) (fun r hr => .of (by simp [hr]))
  have hun : u = n := by omega
  rw [hun] at hs hT
  exact ⟨_, _, rfl, by unfold interpE; rw [← List.append_assoc]; exact hT, hs⟩
end Go.Proofs.YtdnkkbmpefhbjaaGreatDoor
namespace Go.Proofs.YtdnkkbmpefhbjaaGreatDoor
set_option linter.all false
open Go Go.RowKit Alg
/-- The events of Below. -/
def belF (th : Nat) (i : Int) : List Ev := if i < (th : Int) then [] else [(2, i, 0)]
def belowE (n th : Nat) : List Ev := upE 0 (n : Int) (belF th)
theorem bel_no {E : List Ev} {u th : Nat} (h : ((u : Nat) : Int) < (th : Int)) : E ++ upE 0 ((u : Nat) : Int) (belF th) = E ++ upE 0 ((u + 1 : Nat) : Int) (belF th) := by
  have e := upE_succ (F := belF th) (fr := 0) (x := (u : Int)) (by omega)
  have p : belF th (u : Int) = [] := by unfold belF; rw [if_pos h]
  rw [p, List.append_nil] at e
  rw [e]; rfl
theorem bel_yes {E : List Ev} {u th : Nat} (h : ¬ ((u : Nat) : Int) < (th : Int)) : E ++ upE 0 ((u : Nat) : Int) (belF th) ++ [(2, ((u : Nat) : Int), 0)] = E ++ upE 0 ((u + 1 : Nat) : Int) (belF th) := by
  have e := upE_succ (F := belF th) (fr := 0) (x := (u : Int)) (by omega)
  have p : belF th (u : Int) = [(2, (u : Int), 0)] := by unfold belF; rw [if_neg h]
  rw [p] at e
  rw [List.append_assoc, e]; rfl
theorem bel_len {u th : Nat} : (upE 0 ((u : Nat) : Int) (belF th)).length ≤ u := by
  have := upE_len (fr := 0) (to := (u : Int)) (F := belF th) (B := 1) (fun k => by unfold belF; split <;> simp)
  omega
/-- Are the coefficients from th on zero? -/
def belZ {s : Bool} (c : Nat → Zp s) (n th : Nat) : Bool := (List.range n).all fun i => decide (i < th) || decide (c i = 0)
theorem belZ_succ {s : Bool} (c : Nat → Zp s) (k th : Nat) : belZ c (k + 1) th = (belZ c k th && (decide (k < th) || decide (c k = 0))) := by simp [belZ, List.range_succ]
theorem dgs_zero {x : Nat} (hx : x < R4) : (dg 0 x = 0 ∧ dg 1 x = 0 ∧ dg 2 x = 0 ∧ dg 3 x = 0) ↔ x = 0 := by
  constructor
  · rintro ⟨h0, h1, h2, h3⟩
    have := val4_dg hx
    unfold val4 at this
    rw [h0, h1, h2, h3] at this
    omega
  · rintro rfl; decide
theorem bel_or {s : Bool} {c : Nat → Zp s} {u th o : Nat} (h : o = 0 ↔ belZ c u th = true) (ht : ¬ ((u : Nat) : Int) < (th : Int)) :
    o ||| dg 0 (mq (c u)) ||| dg 1 (mq (c u)) ||| dg 2 (mq (c u)) ||| dg 3 (mq (c u)) = 0 ↔ belZ c (u + 1) th = true := by
  rw [belZ_succ, Bool.and_eq_true, Bool.or_eq_true, decide_eq_true_iff, decide_eq_true_iff, Nat.or_eq_zero_iff, Nat.or_eq_zero_iff, Nat.or_eq_zero_iff, Nat.or_eq_zero_iff, h]
  have hz := dgs_zero (mq_lt4 (c u))
  rw [mq_eq_zero] at hz
  constructor
  · rintro ⟨⟨⟨⟨h1, h2⟩, h3⟩, h4⟩, h5⟩
    exact ⟨h1, .inr (hz.1 ⟨h2, h3, h4, h5⟩)⟩
  · rintro ⟨h1, h2 | h2⟩
    · omega
    · have := hz.2 h2
      exact ⟨⟨⟨⟨h1, this.1⟩, this.2.1⟩, this.2.2.1⟩, this.2.2.2⟩
theorem bel_keep {s : Bool} {c : Nat → Zp s} {u th o : Nat} (h : o = 0 ↔ belZ c u th = true) (ht : ((u : Nat) : Int) < (th : Int)) : o = 0 ↔ belZ c (u + 1) th = true := by
  rw [belZ_succ, h, decide_eq_true (show u < th by omega), Bool.true_or, Bool.and_true]
theorem orl_one (o : Nat) : (orl [o] = 0) ↔ o = 0 := by rw [orl_zero]; simp
theorem interp_len2 {n : Nat} (h : n ≤ 255) : (interpE (n : Int)).length ≤ 140000 := by
  have h1 := weights_len (n := (n : Int)) (by omega)
  have h2 : (upE 0 (n : Int) (pairT n)).length ≤ n * n := pairTs_len
  have h3 : n * n ≤ 255 * 255 := Nat.mul_le_mul h h
  have e : interpE (n : Int) = weightsE (n : Int) ++ upE 0 (n : Int) (pairT n) := rfl
  rw [e, List.length_append]; omega
theorem below_m {F0 : Nat → Prop} {W : World} {M R : List Res} (s : Bool) (n th cc : Nat) (T : Int) (ca : Option Addr) (c : Nat → Zp s) (t : Option Nat) (evs : List Ev) (r : Res) (w0 : World) (hs : Sat F0 W (r :: M) ((lst 4 (.slice ca n cc) n (en vq (fun i => mq (c i)) n)) :: R) w0) (hth : T = ((th : Nat) : Int)) (hT : TapeIs t evs r) (hn : n ≤ 1000) (he : evs.length ≤ 100000000) : Calls Tryz.prog 135 [tval t, .slice ca n cc, .int .i64 T].toArray w0 fun e w => ∃ r, e = .returned (.int .u64 (am (belZ c n th))) ∧ TapeIs t (evs ++ belowE n th) r ∧ Sat F0 W (r :: M) R w := by
 refine c_enter (args := [tval t, .slice ca n cc, .int .i64 T]) Tryz.func135 rfl rfl rfl fun a hk => ?_
 refine wS (wR ?_)
 refine q_v hk (w_as rfl) fun a hk => ?_
 refine c_end (x_t (wS (wR ?_)))
 refine q_v hk (w_as rfl) fun a hk => ?_
 refine c_end (x_t (wS (wS (wR ?_))))
 refine q_v hk (w_mv rfl) fun a hk => ?_
 refine q_v hk (w_len rfl Tryz.underlying51) fun a hk => ?_
 refine q_v hk (w_mv rfl) fun a hk => ?_
 refine c_end (x_t ?_)
 refine wpIn_block ?_
 refine c_loop (α := Nat) (fun u a w => ∃ (r : Res) (o : Nat), u ≤ n ∧ TapeIs t (evs ++ upE 0 ((u : Nat) : Int) (belF th)) r ∧ (o = 0 ↔ belZ c u th = true) ∧ o < Go.Proofs.YtdnkkbmpefhbjaaGreatDoor.W ∧ Kn [] 37 [(13, .int .i64 ((u : Nat) : Int)), (7, .int .u64 ((o : Nat) : Int)), (12, .int .i64 ((n : Nat) : Int)), (6, .int .u64 0), (0, tval t), (1, .slice ca n cc), (2, .int .i64 T)] a ∧ Sat F0 W (r :: M) ((lst 4 (.slice ca n cc) n (en vq (fun i => mq (c i)) n)) :: R) w) (fun u => n - u) 0 ?_ ?_
 · exact ⟨_, _, (by omega), (by rw [upE_nil (by omega), List.append_nil]; exact hT), (by simp [belZ]), (by decide), hk.k rfl (hk.k rfl (hk.k rfl (hk.k rfl (hk.k rfl (hk.k rfl (hk.k rfl hk.nil)))))), hs⟩
 rintro u a w ⟨r, o, hf0, hf1, hf2, hf3, hk, hs⟩
 have hT := hf1
 have hoW := hf3
 have hlk := bel_len (u := u) (th := th)
 refine wS (wR ?_)
 rcases Classical.em (((u : Nat) : Int) < ((n : Nat) : Int)) with hc1 | hc1
 ·
  refine q_v hk (w_lt rfl rfl (decide_eq_true hc1)) fun a hk => ?_
  refine c_end (x_t (wS ?_))
  refine c_T hk rfl ?_
  refine (wpIn_skip (x_t ?_))
  refine wS ?_
  refine wpIn_block ?_
  refine wS (wR ?_)
  refine q_v hk (w_mv rfl) fun a hk => ?_
  refine q_v hk (w_as rfl) fun a hk => ?_
  refine c_end (x_t (wS (wS (wR ?_))))
  refine q_v hk (w_mv rfl) fun a hk => ?_
  refine q_v hk (w_mv rfl) fun a hk => ?_
  rcases Classical.em (((u : Nat) : Int) < T) with hc2 | hc2
  ·
   refine q_v hk (w_lt rfl rfl (decide_eq_true hc2)) fun a hk => ?_
   refine c_end (x_t ?_)
   refine c_T hk rfl ?_
   refine (wpIn_exit (x_te (x_be ?_)))
   refine (x_t ?_)
   refine wR ?_
   refine q_v hk (w_add rfl rfl (wr64 (by omega) (by omega))) fun a hk => ?_
   refine q_v hk (w_mv rfl) fun a hk => ?_
   refine c_end (x_t ?_)
   have hT := hT
   rw [bel_no (show ((u : Nat) : Int) < (th : Int) by omega)] at hT
   have hoW' := hoW
   have hob := bel_keep hf2 (show ((u : Nat) : Int) < (th : Int) by omega)
   exact ⟨u + 1, ⟨_, _, (by omega), hT, hob, hoW', hk.k rfl (hk.k rfl (hk.k rfl (hk.k rfl (hk.k rfl (hk.k rfl (hk.k rfl hk.nil)))))), hs⟩, by omega⟩
  ·
   refine q_v hk (w_lt rfl rfl (decide_eq_false hc2)) fun a hk => ?_
   refine c_end (x_t ?_)
   refine c_F hk rfl ?_
   refine (wpIn_skip (x_t ?_))
   refine wS (wR ?_)
   refine q_v hk (w_mv rfl) fun a hk => ?_
   refine q_v hk (w_mv rfl) fun a hk => ?_
   refine q_call (caps := []) hk rfl rfl Tryz.func61 fo61 rfl rfl (note_m t 2 ((u : Nat) : Int) 0 (evs ++ upE 0 ((u : Nat) : Int) (belF th)) _ _ hT hs (by simp only [List.length_append]; omega)) ?_
   rintro _ w ⟨v3, r4, rfl, ht5, hs⟩
   have hT := ht5
   refine ⟨_, rfl, fun a hk => ?_⟩
   refine c_end (x_t (wS (wR ?_)))
   refine q_v hk (w_mv rfl) fun a hk => ?_
   refine q_v hk (w_mv rfl) fun a hk => ?_
   refine q_v hk (w_iaL (k := u) rfl rfl Tryz.underlying51 ty56 (hs.ri 0 rfl) (by omega) (by omega)) fun a hk => ?_
   refine q_v hk (w_ldv (z := mq (c u)) rfl ty56 (lstq (k := u) (hs.ri 0 rfl) (by omega) (en_chunk vq_len (by omega)))) fun a hk => ?_
   refine q_v hk (w_mv rfl) fun a hk => ?_
   refine c_end (x_t ?_)
   refine wpIn_block ?_
   refine c_rounds 5 ?_
   refine c_rsucc ?_
   refine wS (wR ?_)
   refine q_v hk (w_lt rfl rfl (decide_eq_true (by decide))) fun a hk => ?_
   refine c_end (x_t (wS ?_))
   refine c_T hk rfl ?_
   refine (wpIn_skip (x_t ?_))
   refine wS ?_
   refine wpIn_block ?_
   refine wS (wR ?_)
   refine q_v hk (w_ix (vs := vq (mq (c u))) (k := 0) rfl rfl Tryz.underlying56 ty46 rfl (by decide) rfl) fun a hk => ?_
   refine q_v hk (w_as rfl) fun a hk => ?_
   refine c_end (x_t (wR ?_))
   refine q_v hk (w_mv rfl) fun a hk => ?_
   refine q_v hk (w_mv rfl) fun a hk => ?_
   refine q_v hk (w_bit (op := .or) (by simp) rfl rfl (u64_or_nat _ _ hoW (dg_lt _ _))) fun a hk => ?_
   refine q_v hk (w_as rfl) fun a hk => ?_
   refine (c_end (x_b (x_t ?_)))
   refine wR ?_
   refine q_v hk (w_add (r := 1) rfl rfl (by decide)) fun a hk => ?_
   refine q_v hk (w_mv rfl) fun a hk => ?_
   refine c_end (x_t ?_)
   refine c_rsucc ?_
   refine wS (wR ?_)
   refine q_v hk (w_lt rfl rfl (decide_eq_true (by decide))) fun a hk => ?_
   refine c_end (x_t (wS ?_))
   refine c_T hk rfl ?_
   refine (wpIn_skip (x_t ?_))
   refine wS ?_
   refine wpIn_block ?_
   refine wS (wR ?_)
   refine q_v hk (w_ix (vs := vq (mq (c u))) (k := 1) rfl rfl Tryz.underlying56 ty46 rfl (by decide) rfl) fun a hk => ?_
   refine q_v hk (w_as rfl) fun a hk => ?_
   refine c_end (x_t (wR ?_))
   refine q_v hk (w_mv rfl) fun a hk => ?_
   refine q_v hk (w_mv rfl) fun a hk => ?_
   refine q_v hk (w_bit (op := .or) (by simp) rfl rfl (u64_or_nat _ _ (or_lt_W hoW (dg_lt _ _)) (dg_lt _ _))) fun a hk => ?_
   refine q_v hk (w_as rfl) fun a hk => ?_
   refine (c_end (x_b (x_t ?_)))
   refine wR ?_
   refine q_v hk (w_add (r := 2) rfl rfl (by decide)) fun a hk => ?_
   refine q_v hk (w_mv rfl) fun a hk => ?_
   refine c_end (x_t ?_)
   refine c_rsucc ?_
   refine wS (wR ?_)
   refine q_v hk (w_lt rfl rfl (decide_eq_true (by decide))) fun a hk => ?_
   refine c_end (x_t (wS ?_))
   refine c_T hk rfl ?_
   refine (wpIn_skip (x_t ?_))
   refine wS ?_
   refine wpIn_block ?_
   refine wS (wR ?_)
   refine q_v hk (w_ix (vs := vq (mq (c u))) (k := 2) rfl rfl Tryz.underlying56 ty46 rfl (by decide) rfl) fun a hk => ?_
   refine q_v hk (w_as rfl) fun a hk => ?_
   refine c_end (x_t (wR ?_))
   refine q_v hk (w_mv rfl) fun a hk => ?_
   refine q_v hk (w_mv rfl) fun a hk => ?_
   refine q_v hk (w_bit (op := .or) (by simp) rfl rfl (u64_or_nat _ _ (or_lt_W (or_lt_W hoW (dg_lt _ _)) (dg_lt _ _)) (dg_lt _ _))) fun a hk => ?_
   refine q_v hk (w_as rfl) fun a hk => ?_
   refine (c_end (x_b (x_t ?_)))
   refine wR ?_
   refine q_v hk (w_add (r := 3) rfl rfl (by decide)) fun a hk => ?_
   refine q_v hk (w_mv rfl) fun a hk => ?_
   refine c_end (x_t ?_)
   refine c_rsucc ?_
   refine wS (wR ?_)
   refine q_v hk (w_lt rfl rfl (decide_eq_true (by decide))) fun a hk => ?_
   refine c_end (x_t (wS ?_))
   refine c_T hk rfl ?_
   refine (wpIn_skip (x_t ?_))
   refine wS ?_
   refine wpIn_block ?_
   refine wS (wR ?_)
   refine q_v hk (w_ix (vs := vq (mq (c u))) (k := 3) rfl rfl Tryz.underlying56 ty46 rfl (by decide) rfl) fun a hk => ?_
   refine q_v hk (w_as rfl) fun a hk => ?_
   refine c_end (x_t (wR ?_))
   refine q_v hk (w_mv rfl) fun a hk => ?_
   refine q_v hk (w_mv rfl) fun a hk => ?_
   refine q_v hk (w_bit (op := .or) (by simp) rfl rfl (u64_or_nat _ _ (or_lt_W (or_lt_W (or_lt_W hoW (dg_lt _ _)) (dg_lt _ _)) (dg_lt _ _)) (dg_lt _ _))) fun a hk => ?_
   refine q_v hk (w_as rfl) fun a hk => ?_
   refine (c_end (x_b (x_t ?_)))
   refine wR ?_
   refine q_v hk (w_add (r := 4) rfl rfl (by decide)) fun a hk => ?_
   refine q_v hk (w_mv rfl) fun a hk => ?_
   refine c_end (x_t ?_)
   refine c_rsucc ?_
   refine wS (wR ?_)
   refine q_v hk (w_lt rfl rfl (decide_eq_false (by decide))) fun a hk => ?_
   refine c_end (x_t (wS ?_))
   refine c_F hk rfl ?_
   refine (wpIn_exit (x_te (x_te (x_be ?_))))
   refine (x_b (x_t ?_))
   refine wR ?_
   refine q_v hk (w_add rfl rfl (wr64 (by omega) (by omega))) fun a hk => ?_
   refine q_v hk (w_mv rfl) fun a hk => ?_
   refine c_end (x_t ?_)
   rw [bel_yes (show ¬ ((u : Nat) : Int) < (th : Int) by omega)] at hT
   have hoW' : o ||| dg 0 (mq (c u)) ||| dg 1 (mq (c u)) ||| dg 2 (mq (c u)) ||| dg 3 (mq (c u)) < Go.Proofs.YtdnkkbmpefhbjaaGreatDoor.W := (or_lt_W (or_lt_W (or_lt_W (or_lt_W hoW (dg_lt _ _)) (dg_lt _ _)) (dg_lt _ _)) (dg_lt _ _))
   have hob := bel_or hf2 (show ¬ ((u : Nat) : Int) < (th : Int) by omega)
   exact ⟨u + 1, ⟨_, _, (by omega), hT, hob, hoW', hk.k rfl (hk.k rfl (hk.k rfl (hk.k rfl (hk.k rfl (hk.k rfl (hk.k rfl hk.nil)))))), hs⟩, by omega⟩
 ·
  refine q_v hk (w_lt rfl rfl (decide_eq_false hc1)) fun a hk => ?_
  refine c_end (x_t (wS ?_))
  refine c_F hk rfl ?_
  refine (wpIn_exit (x_te (x_te (x_be ?_))))
  refine (x_t ?_)
  refine wS (wR ?_)
  refine q_v hk (w_mv rfl) fun a hk => ?_
  refine q_bsl (els := [.tmp 34]) (cs := [.int .u64 ((o : Nat) : Int)]) hk hs rfl Tryz.underlying91 ty46 zr46 rfl rfl rfl rfl rfl rfl rfl fun b6 w a hk hs => ?_
  refine q_call (caps := []) hk rfl rfl Tryz.func155 fo155 rfl rfl (maskIsZ_c _ 1 1 [o] _ (blk_lst (hs.mi 0 rfl) rfl (Nat.le_refl _)) (fun x hx => by rcases List.mem_singleton.1 hx with rfl; exact hoW) (by decide)) ?_
  rintro _ w ⟨rfl, hb⟩
  have hs := hs.below hb
  refine ⟨_, rfl, fun a hk => ?_⟩
  refine q_v hk (w_as rfl) fun a hk => ?_
  refine c_end (x_t ?_)
  refine (wpIn_ret ?_)
  refine c_ret1 hk rfl rfl ?_
  have hs := hs.drop
  have hs := hs.toR (R' := R) (fun r hr => .of (by simp [hr]))
  have hun : u = n := by omega
  rw [hun] at hT
  exact ⟨_, by rw [show decide (orl [o] = 0) = belZ c n th from by rw [← hun]; cases hb : belZ c u th with | true => exact decide_eq_true ((orl_one o).2 (hf2.2 hb)) | false => exact decide_eq_false fun h => by have := hf2.1 ((orl_one o).1 h); rw [hb] at this; cases this], hT, hs⟩
theorem fits_m {F0 : Nat → Prop} {W : World} {M R : List Res} (s : Bool) (n th lc yc : Nat) (T : Int) (la ya : Option Addr) (v : Nat → Nat) (py : Nat → Zp s) (t : Option Nat) (evs : List Ev) (r : Res) (w0 : World) (hs : Sat F0 W (r :: M) ((lst 4 (.slice ya n yc) n (en vq (fun i => mq (py i)) n)) :: R) w0) (hth : T = ((th : Nat) : Int)) (hT : TapeIs t evs r) (hL : HasR (lst 1 (.slice la n lc) n (en ic (fun i => ((v i : Nat) : Int)) n)) R) (h0 : 0 < n) (hn : n ≤ 255) (hv : ∀ i, i < n → 1 ≤ v i ∧ v i ≤ 255) (hd : ∀ i k, i < k → k < n → v i ≠ v k) (he : evs.length ≤ 10000000) : Calls Tryz.prog 100 [tval t, fieldV s, .slice la n lc, .slice ya n yc, .int .i64 T].toArray w0 fun e w => ∃ r, e = .returned (.tuple #[.int .u64 (am (belZ (itp (pt s v) py n n) n th)), .int .i64 0]) ∧ TapeIs t (evs ++ (interpE (n : Int) ++ belowE n th)) r ∧ Sat F0 W (r :: M) R w := by
 refine c_enter (args := [tval t, fieldV s, .slice la n lc, .slice ya n yc, .int .i64 T]) Tryz.func100 rfl rfl rfl fun a hk => ?_
 refine wS (wR ?_)
 refine q_box (vs := fieldL s) hk hs rfl rfl rfl rfl fun b1 w a hk hs => ?_
 refine q_v hk (w_as rfl) fun a hk => ?_
 refine q_v hk (w_as rfl) fun a hk => ?_
 refine c_end (x_t (wS (wR ?_)))
 refine q_v hk (w_mv rfl) fun a hk => ?_
 refine q_v hk (w_ldA rfl ty120 (.blk (n := 14) (hs.mi 0 rfl) rfl) rfl) fun a hk => ?_
 refine q_v hk (w_mv rfl) fun a hk => ?_
 refine q_v hk (w_mv rfl) fun a hk => ?_
 have hs := hs.up1
 refine q_call (caps := []) hk rfl rfl Tryz.func90 fo90 rfl rfl (interp_m s n lc yc la ya v py t evs _ _ (hs.hasR (HasR.nth 0 rfl)) hT (hL.cons) h0 hn hv hd (by omega)) ?_
 rintro _ w ⟨b2, r3, rfl, ht4, hs⟩
 have hT := ht4
 have hs := hs.subR (R' := ((lst 4 (.slice ya n yc) n (en vq (fun i => mq (py i)) n)) :: R)) (by simp +contextual)
 refine ⟨_, rfl, fun a hk => ?_⟩
 refine q_v hk (w_mv rfl) fun a hk => ?_
 refine q_v hk (w_ext rfl rfl) fun a hk => ?_
 refine q_v hk (w_ext rfl rfl) fun a hk => ?_
 refine q_v hk (w_as rfl) fun a hk => ?_
 refine q_v hk (w_as rfl) fun a hk => ?_
 refine c_end (x_t (wS (wS (wR ?_))))
 refine q_v hk (w_mv rfl) fun a hk => ?_
 refine q_v hk (w_ne rfl rfl (decide_eq_false (by decide))) fun a hk => ?_
 refine c_end (x_t ?_)
 refine c_F hk rfl ?_
 refine (wpIn_skip (x_t ?_))
 refine wS (wR ?_)
 refine q_v hk (w_mv rfl) fun a hk => ?_
 refine q_v hk (w_mv rfl) fun a hk => ?_
 refine q_v hk (w_mv rfl) fun a hk => ?_
 have hs := hs.up1
 have hs := hs.frz (r := lst 4 (.slice (some ⟨b2, 0, none⟩) n n) n (en vq (fun i => mq (itp (pt s v) py n n i)) n)) (blk_lst (hs.mi 0 rfl) (en_len vq_len) (Nat.le_refl _)) (fun _ h => (Option.some.inj h.2).symm)
 refine q_call (caps := []) hk rfl rfl Tryz.func135 fo135 rfl rfl (below_m s n th n T (some ⟨b2, 0, none⟩) (itp (pt s v) py n n) t (evs ++ interpE (n : Int)) _ _ (hs.hasR (HasR.nth 0 rfl)) hth hT (by omega) (by have := interp_len2 (n := n) (by omega); simp only [List.length_append]; omega)) ?_
 rintro _ w ⟨r5, rfl, ht6, hs⟩
 have hT := ht6
 have hs := hs.subR (R' := ((lst 4 (.slice (some ⟨b2, 0, none⟩) n n) n (en vq (fun i => mq (itp (pt s v) py n n i)) n)) :: (lst 4 (.slice ya n yc) n (en vq (fun i => mq (py i)) n)) :: R)) (by simp +contextual)
 refine ⟨_, rfl, fun a hk => ?_⟩
 refine q_v hk (w_as rfl) fun a hk => ?_
 refine q_v hk (w_as rfl) fun a hk => ?_
 refine c_end (x_t ?_)
 refine (wpIn_ret ?_)
 refine c_ret2 hk rfl rfl rfl ?_
 have hs := hs.up1
 have hs := hs.drop
 have hs := hs.toR (R' := R) (fun r hr => .of (by simp [hr]))
 exact ⟨_, rfl, by rw [← List.append_assoc]; exact hT, hs⟩
end Go.Proofs.YtdnkkbmpefhbjaaGreatDoor
namespace Go.Proofs.YtdnkkbmpefhbjaaGreatDoor
set_option linter.all false
open Go Go.RowKit Alg
structure Good (s : Bool) (S : Nat → Shr) (m : Nat) : Prop where
  m0 : 0 < m
  F : ∀ i, i < m → (S i).F = fid s
  T : ∀ i, i < m → (S i).T = (S 0).T
  Lq : ∀ i, i < m → (S i).L = (S 0).L
  n : ∀ i, i < m → (S i).n = (S 0).n
  idx : ∀ i, i < m → 1 ≤ (S i).I ∧ (S i).I ≤ 255
  app : ∀ i k, i < k → k < m → (S i).I ≠ (S k).I
  X : ∀ i, i < m → ∀ j, j < (S 0).n → (S i).X j < pr s
  t1 : 1 ≤ (S 0).T
  tm : (S 0).T ≤ (m : Int)
  l0 : 0 ≤ (S 0).L
  l1 : (S 0).L ≤ 65535
  cn : (S 0).n = cn (S 0).L
/-- The indices, the threshold as numbers; a column's elements. -/
def vI (S : Nat → Shr) (i : Nat) : Nat := (S i).I.toNat
def thN (S : Nat → Shr) : Nat := (S 0).T.toNat
def clz (s : Bool) (S : Nat → Shr) (ch i : Nat) : Zp s := mz s ((S i).X ch)
section
variable {s : Bool} {S : Nat → Shr} {m : Nat} (g : Good s S m)
include g
theorem Good.v_eq {i : Nat} (hi : i < m) : (S i).I = ((vI S i : Nat) : Int) := by have := g.idx i hi; unfold vI; omega
theorem Good.v_le (i : Nat) (hi : i < m) : 1 ≤ vI S i ∧ vI S i ≤ 255 := by have := g.idx i hi; unfold vI; omega
theorem Good.v_ne (i k : Nat) (hik : i < k) (hk : k < m) : vI S i ≠ vI S k := fun h => g.app i k hik hk (by rw [g.v_eq (Nat.lt_trans hik hk), g.v_eq hk, h])
theorem Good.th : (S 0).T = ((thN S : Nat) : Int) := by have := g.t1; unfold thN; omega
theorem Good.th_le : 1 ≤ thN S ∧ thN S ≤ m := by have := g.t1; have := g.tm; unfold thN; omega
theorem Good.xs_eq : en ic (fun i => (S i).I) m = en ic (fun i => ((vI S i : Nat) : Int)) m := en_congr fun i hi => g.v_eq hi
theorem Good.col_eq {ch : Nat} (hc : ch < (S 0).n) : en vq (fun i => (S i).X ch) m = en vq (fun i => mq (clz s S ch i)) m := en_congr fun i hi => (mz_mq (g.X i hi ch hc)).symm
end
/-- The program's fields, as something that is only read. -/
def laidR : Res where
  foot := (· = 0)
  ok w := Laid w
  loc w w' h k := fun j v hv => by rw [cell?_block (h _ rfl)]; exact k j v hv
  lt w k h hk := by subst hk; exact h.pos
end Go.Proofs.YtdnkkbmpefhbjaaGreatDoor
namespace Go.Proofs.YtdnkkbmpefhbjaaGreatDoor
set_option linter.all false
open Go Go.RowKit Alg
def amc (b : Bool) : List Value := [.int .u64 (am b)]
theorem amc_len (b : Bool) : (amc b).length = 1 := rfl
/-- Do the shares of a chunk fit? -/
def fitB (s : Bool) (S : Nat → Shr) (m ch : Nat) : Bool := belZ (itp (pt s (vI S)) (clz s S ch) m m) m (thN S)
def chunkE (m th : Nat) (ch : Int) : List Ev := [(4, ch, 0)] ++ (interpE (m : Int) ++ belowE m th)
theorem chunk_next {E : List Ev} {m th k : Nat} : E ++ upE 0 ((k : Nat) : Int) (chunkE m th) ++ chunkE m th ((k : Nat) : Int) = E ++ upE 0 ((k + 1 : Nat) : Int) (chunkE m th) := by
  have e := upE_succ (F := chunkE m th) (fr := 0) (x := (k : Int)) (by omega)
  rw [List.append_assoc, e]
  rfl
theorem chunkE_len {m th : Nat} (hm : m ≤ 255) (i : Int) : (chunkE m th i).length ≤ 140000 := by
  have h1 := interp_len (n := (m : Int)) (by omega)
  have h2 := bel_len (u := m) (th := th)
  unfold chunkE belowE
  simp only [List.length_append, List.length_singleton]
  omega
theorem chunks_len {m th k : Nat} (hm : m ≤ 255) : (upE 0 ((k : Nat) : Int) (chunkE m th)).length ≤ k * 140000 := by
  have := upE_len (fr := 0) (to := (k : Int)) (F := chunkE m th) (B := 140000) (fun i => chunkE_len hm i)
  simpa using this
theorem mtest_m {F0 : Nat → Prop} {W : World} {M R : List Res} (s : Bool) (S : Nat → Shr) (m lc xc oc ch k bt bf bx bl b10 : Nat) (la xa oa : Option Addr) (Z : Nat → Bool) (t : Option Nat) (evs : List Ev) (r : Res) (w0 : World) (hs : Sat F0 W (r :: (blk b10 [.slice oa k oc] 91) :: (row 46 1 (.slice oa k oc) k (en amc (fun i => Z i) k)) :: M) R w0) (g : Good s S m) (hm : m ≤ 255) (hc : ch < (S 0).n) (hn9 : (S 0).n ≤ 100000000) (hF : HasR (rall [blk bt [tval t] 60, blk bf (fieldL s) 120, blk bx [.slice xa m xc] 34, lst 1 (.slice xa m xc) m (en ic (fun i => ((vI S i : Nat) : Int)) m), blk bl [.slice la m lc] 22, shareR la m lc S]) R) (hT : TapeIs t evs r) (he : evs.length ≤ 9000000) (hk9 : k ≤ 1000000) : Calls Tryz.prog 99 [.int .i64 ((ch : Nat) : Int), .pointer (some ⟨bt, 0, none⟩), .pointer (some ⟨bf, 0, none⟩), .pointer (some ⟨bx, 0, none⟩), .pointer (some ⟨bl, 0, none⟩), .pointer (some ⟨b10, 0, none⟩)].toArray w0 fun e w => ∃ r oa oc, e = .returned (.int .i64 0) ∧ TapeIs t (evs ++ chunkE m (thN S) ((ch : Nat) : Int)) r ∧ Sat F0 W (r :: blk b10 [.slice oa (k + 1) oc] 91 :: row 46 1 (.slice oa (k + 1) oc) (k + 1) (en amc Z k ++ amc (fitB s S m ch)) :: M) R w := by
 have hm0 := g.m0
 refine c_enter (args := [.int .i64 ((ch : Nat) : Int), .pointer (some ⟨bt, 0, none⟩), .pointer (some ⟨bf, 0, none⟩), .pointer (some ⟨bx, 0, none⟩), .pointer (some ⟨bl, 0, none⟩), .pointer (some ⟨b10, 0, none⟩)]) Tryz.func99 rfl rfl rfl fun a hk => ?_
 refine wS (wR ?_)
 refine q_v hk (w_as rfl) fun a hk => ?_
 refine c_end (x_t (wS (wR ?_)))
 refine q_v hk (w_ld1 rfl ty60 (.blk (n := 1) ((hF.pi 0 rfl).at_ hs) rfl)) fun a hk => ?_
 refine q_v hk (w_mv rfl) fun a hk => ?_
 refine q_call (caps := []) hk rfl rfl Tryz.func61 fo61 rfl rfl (note_m t 4 ((ch : Nat) : Int) 0 evs _ _ hT hs (by omega)) ?_
 rintro _ w ⟨v1, r2, rfl, ht3, hs⟩
 have hT := ht3
 refine ⟨_, rfl, fun a hk => ?_⟩
 refine c_end (x_t (wS ?_))
 have hL := okL.cons ((hF.pi 0 rfl).at_ hs) (okL.cons ((hF.pi 1 rfl).at_ hs) (okL.cons ((hF.pi 2 rfl).at_ hs) (okL.cons ((hF.pi 4 rfl).at_ hs) (okL.cons ((share_lst (hF.pi 5 rfl)).at_ hs) okL.nil))))
 refine d_begin _ 16 (by kernel_rfl) rfl hs hL fun w hs hL => ?_
 refine d_w 0 1 hk hL rfl (fun w hL => w_ld1 rfl ty60 (.blk (n := 1) (hL.at 0 rfl) rfl)) fun a hk => ?_
 refine d_w 1 3 hk hL rfl (fun w hL => w_ldA rfl ty120 (.blk (n := 14) (hL.at 1 rfl) rfl) rfl) fun a hk => ?_
 refine d_w 2 7 hk hL rfl (fun w hL => w_ld1 rfl ty34 (.blk (n := 1) (hL.at 2 rfl) rfl)) fun a hk => ?_
 refine d_w 3 15 hk hL rfl (fun w hL => w_ld1 rfl ty22 (.blk (n := 1) (hL.at 3 rfl) rfl)) fun a hk => ?_
 refine d_w 4 31 hk hL rfl (fun w hL => w_mv rfl) fun a hk => ?_
 refine d_w 6 95 hk hL rfl (fun w hL => w_ld1 rfl ty22 (.blk (n := 1) (hL.at 3 rfl) rfl)) fun a hk => ?_
 refine d_w 7 223 hk hL rfl (fun w hL => w_iaL (k := 0) rfl rfl Tryz.underlying22 ty53 (hL.at 4 rfl) (by omega) (by omega)) fun a hk => ?_
 refine d_w 8 479 hk hL rfl (fun w hL => w_fa rfl fq53_1 ty3) fun a hk => ?_
 refine d_w 9 991 hk hL rfl (fun w hL => w_ld1 rfl ty3 (lstf (k := 0) (o := 1) (m := 1) (hL.at 4 rfl) (by omega) (en_chunk shc_len (by omega)) rfl)) fun a hk => ?_
 refine d_1 5 1023 rfl (by kernel_rfl) fun K hK => ?_
 refine q_call (caps := []) hk rfl rfl Tryz.func101 fo101 rfl rfl (column_c m lc ch la S _ ((hF.pi 5 rfl).at_ hs) (by omega) (fun i hi => by rw [g.n i hi]; exact ⟨hc, hn9⟩)) ?_
 rintro _ w ⟨b1_5, rfl, hS⟩
 have hs := hs.call1 hS
 clear hS
 refine ⟨_, rfl, fun a hk => ?_⟩
 have hL := okL.cons ((hF.pi 0 rfl).at_ hs) (okL.cons ((hF.pi 1 rfl).at_ hs) (okL.cons ((hF.pi 2 rfl).at_ hs) (okL.cons ((hF.pi 4 rfl).at_ hs) (okL.cons ((share_lst (hF.pi 5 rfl)).at_ hs) okL.nil))))
 refine c_end (x_t (hK _ _ hL ?_))
 clear hK K
 refine d_1 10 2047 rfl (by kernel_rfl) fun K hK => ?_
 have hs := hs.rw0 (congrArg (fun q => blk b1_5 q 56) (g.col_eq hc))
 have hs := hs.frz (r := lst 4 (.slice (some ⟨b1_5, 0, none⟩) m m) m (en vq (fun i => mq (clz s S ch i)) m)) (blk_lst (hs.mi 0 rfl) (en_len vq_len) (Nat.le_refl _)) (fun _ h => (Option.some.inj h.2).symm)
 refine q_call (caps := []) hk rfl rfl Tryz.func100 fo100 rfl rfl (fits_m s m (thN S) xc m (S 0).T xa (some ⟨b1_5, 0, none⟩) (vI S) (clz s S ch) t (evs ++ [(4, ((ch : Nat) : Int), 0)]) _ _ (hs.hasR (HasR.nth 0 rfl)) g.th hT ((hF.pi 3 rfl).cons) g.m0 (by omega) g.v_le g.v_ne (by simp only [List.length_append, List.length_singleton]; omega)) ?_
 rintro _ w ⟨r1_10, rfl, ht1_10b, hs⟩
 have hT := ht1_10b
 have hs := hs.subR (R' := ((lst 4 (.slice (some ⟨b1_5, 0, none⟩) m m) m (en vq (fun i => mq (clz s S ch i)) m)) :: R)) (by simp +contextual)
 have hs := hs.subR (R' := R) (by simp +contextual)
 refine ⟨_, rfl, fun a hk => ?_⟩
 have hL := okL.cons ((hF.pi 0 rfl).at_ hs) (okL.cons ((hF.pi 1 rfl).at_ hs) (okL.cons ((hF.pi 2 rfl).at_ hs) (okL.cons ((hF.pi 4 rfl).at_ hs) (okL.cons ((share_lst (hF.pi 5 rfl)).at_ hs) okL.nil))))
 refine c_end (x_t (hK _ _ hL ?_))
 clear hK K
 refine d_w 11 4095 hk hL rfl (fun w hL => w_mv rfl) fun a hk => ?_
 refine d_w 12 8191 hk hL rfl (fun w hL => w_ext rfl rfl) fun a hk => ?_
 refine d_w 13 16383 hk hL rfl (fun w hL => w_ext rfl rfl) fun a hk => ?_
 refine d_w 14 32767 hk hL rfl (fun w hL => w_as rfl) fun a hk => ?_
 refine d_w 15 65535 hk hL rfl (fun w hL => w_as rfl) fun a hk => ?_
 refine d_end (by kernel_rfl) ?_
 refine (x_t ?_)
 refine wS (wR ?_)
 refine q_v hk (w_ld1 rfl ty91 (.blk (n := 1) (hs.mi 1 rfl) rfl)) fun a hk => ?_
 refine q_v hk (w_mv rfl) fun a hk => ?_
 refine q_bsl (els := [.tmp 28]) (cs := [.int .u64 (am (fitB s S m ch))]) hk hs rfl Tryz.underlying91 ty46 zr46 rfl rfl rfl rfl rfl rfl rfl fun b4 w a hk hs => ?_
 have hs := hs.up3
 refine q_app (news := [.int .u64 (am (fitB s S m ch))]) (m := 1) hk hs rfl rfl Tryz.underlying91 ty46 zr46 rfl rfl (.blk (n := 1) (hs.mi 1 rfl) rfl) rfl rfl (by omega) (by omega) rfl rfl fun a5 c6 w a hk hs => ?_
 have hs := hs.up1
 have hs := hs.drop
 have hs := hs.up2
 refine q_sto (o := 0) (cs := [.slice a5 (k + 1) c6]) (vs' := [.slice a5 (k + 1) c6]) hk hs rfl rfl rfl ty91 rfl rfl rfl rfl rfl rfl fun w hs => ?_
 refine c_end (x_t (wS (wR ?_)))
 refine q_v hk (w_mv rfl) fun a hk => ?_
 refine q_v hk (w_as rfl) fun a hk => ?_
 refine c_end (x_t ?_)
 refine (wpIn_ret ?_)
 refine c_ret1 hk rfl rfl ?_
 have hs := hs.up1
 have hs := hs.up1
 have hs := hs.up2
 exact ⟨_, _, _, rfl, by unfold chunkE; rw [← List.append_assoc]; exact hT, hs⟩
theorem masks_m {F0 : Nat → Prop} {W : World} {M R : List Res} (s : Bool) (m lc : Nat) (la : Option Addr) (S : Nat → Shr) (t : Option Nat) (evs : List Ev) (r : Res) (w0 : World) (hs : Sat F0 W (r :: M) R w0) (hS : HasR (shareR la m lc S) R) (hG : HasR laidR R) (HO : ShOk S m) (g : Good s S m) (hz : csErr S m = 0) (hm : m ≤ 255) (hn9 : (S 0).n ≤ 7) (hT : TapeIs t evs r) (he : evs.length ≤ 8000000) : Calls Tryz.prog 55 [tval t, .slice la m lc].toArray w0 fun e w => ∃ r a c, e = .returned (.tuple #[.slice a (S 0).n c, .int .i64 0]) ∧ TapeIs t (evs ++ upE 0 (((S 0).n : Nat) : Int) (chunkE m (thN S))) r ∧ Sat F0 W (r :: row 46 1 (.slice a (S 0).n c) (S 0).n (en amc (fitB s S m) (S 0).n) :: M) R w := by
 have hm0 := g.m0
 refine c_enter (args := [tval t, .slice la m lc]) Tryz.func55 rfl rfl rfl fun a hk => ?_
 refine wS (wR ?_)
 refine q_box (vs := [tval t]) hk hs rfl rfl rfl rfl fun b1 w a hk hs => ?_
 refine q_box (vs := [.slice la m lc]) hk hs rfl rfl rfl rfl fun b2 w a hk hs => ?_
 refine q_v hk (w_as rfl) fun a hk => ?_
 refine q_v hk (w_as rfl) fun a hk => ?_
 refine c_end (x_t (wS (wS (wR ?_))))
 refine q_v hk (w_ld1 rfl ty22 (.blk (n := 1) (hs.mi 0 rfl) rfl)) fun a hk => ?_
 refine q_call (caps := []) hk rfl rfl Tryz.func60 fo60 rfl rfl (ckShares_c m lc la S _ ((hS).at_ hs) HO ((hG).at_ hs)) ?_
 rintro _ w ⟨rfl, hb⟩
 have hs := hs.below hb
 refine ⟨_, rfl, fun a hk => ?_⟩
 refine q_v hk (w_as rfl) fun a hk => ?_
 refine c_end (x_t (wS (wR ?_)))
 refine q_v hk (w_mv rfl) fun a hk => ?_
 refine q_v hk (w_ne rfl rfl (decide_eq_false (by omega))) fun a hk => ?_
 refine c_end (x_t ?_)
 refine c_F hk rfl ?_
 refine (wpIn_skip (x_t ?_))
 refine wS (wR ?_)
 refine q_v hk (w_ld1 rfl ty22 (.blk (n := 1) (hs.mi 0 rfl) rfl)) fun a hk => ?_
 refine q_v hk (w_iaL (k := 0) rfl rfl Tryz.underlying22 ty53 ((share_lst hS).at_ hs) (by omega) (by omega)) fun a hk => ?_
 refine q_v hk (w_fa rfl fq53_0 ty3) fun a hk => ?_
 refine q_v hk (w_ld1 rfl ty3 (ic_eq (g.F 0 g.m0) (lstf (k := 0) (o := 0) (m := 1) ((share_lst hS).at_ hs) (by omega) (en_chunk shc_len (by omega)) rfl))) fun a hk => ?_
 refine q_call (caps := []) hk rfl rfl Tryz.func85 fo85 rfl rfl (get_c s _ ((hG).at_ hs)) ?_
 rintro _ w ⟨rfl, hb⟩
 have hs := hs.below hb
 refine ⟨_, rfl, fun a hk => ?_⟩
 refine q_v hk (w_mv rfl) fun a hk => ?_
 refine q_v hk (w_ext rfl rfl) fun a hk => ?_
 refine q_v hk (w_ext rfl rfl) fun a hk => ?_
 refine q_alc (vs := [.int .i64 0, .int .u64 0, .int .u64 0, .int .u64 0, .int .u64 0, .int .u64 0, .int .u64 0, .int .u64 0, .int .u64 0, .int .u64 0, .int .u64 0, .int .u64 0, .int .u64 0, .int .u64 0]) hk hs zr120 rfl rfl rfl fun b3 w a hk hs => ?_
 refine q_sto (o := 0) (cs := fieldL s) (vs' := fieldL s) hk hs rfl rfl rfl ty120 rfl rfl rfl rfl rfl rfl fun w hs => ?_
 refine q_v hk (w_as rfl) fun a hk => ?_
 refine c_end (x_t (wS (wR ?_)))
 refine q_v hk (w_ld1 rfl ty22 (.blk (n := 1) (hs.mi 1 rfl) rfl)) fun a hk => ?_
 refine q_call (caps := []) hk rfl rfl Tryz.func80 fo80 rfl rfl (indices_c m lc la S _ ((hS).at_ hs) (by omega)) ?_
 rintro _ w ⟨a4, c5, rfl, hS⟩
 have hs := hs.call1 hS
 clear hS
 refine ⟨_, rfl, fun a hk => ?_⟩
 refine q_alc (vs := [.slice none 0 0]) hk hs zr34 rfl rfl rfl fun b6 w a hk hs => ?_
 refine q_sto (o := 0) (cs := [.slice a4 m c5]) (vs' := [.slice a4 m c5]) hk hs rfl rfl rfl ty34 rfl rfl rfl rfl rfl rfl fun w hs => ?_
 refine c_end (x_t (wS (wR ?_)))
 refine q_alc (vs := [.slice none 0 0]) hk hs zr91 rfl rfl rfl fun b7 w a hk hs => ?_
 refine c_end (x_t (wS (wR ?_)))
 refine q_v hk (w_mkf (frees := [.tmp 2, .tmp 7, .tmp 9, .tmp 3, .tmp 10]) rfl) fun a hk => ?_
 refine q_v hk (w_as rfl) fun a hk => ?_
 refine c_end (x_t (wS (wS (wR ?_))))
 refine q_v hk (w_ld1 rfl ty22 (.blk (n := 1) (hs.mi 4 rfl) rfl)) fun a hk => ?_
 refine q_v hk (w_iaL (k := 0) rfl rfl Tryz.underlying22 ty53 ((share_lst hS).at_ hs) (by omega) (by omega)) fun a hk => ?_
 refine q_v hk (w_fa rfl fq53_4 ty51) fun a hk => ?_
 refine q_v hk (w_ld1 rfl ty51 (lstf (k := 0) (o := 4) (m := 1) ((share_lst hS).at_ hs) (by omega) (en_chunk shc_len (by omega)) rfl)) fun a hk => ?_
 refine q_v hk (w_len rfl Tryz.underlying51) fun a hk => ?_
 refine q_v hk (w_mv rfl) fun a hk => ?_
 refine c_end (x_t ?_)
 refine wpIn_block ?_
 have hs := hs.up2
 have hs := hs.rw0 (congrArg (fun q => row 3 1 (.slice a4 m c5) m q) g.xs_eq)
 have hs := hs.frz (r := lst 1 (.slice a4 m c5) m (en ic (fun i => ((vI S i : Nat) : Int)) m)) (row_lst (hs.mi 0 rfl)) (fun _ h => h.2)
 have hs := hs.up4
 have hs := hs.frz (r := blk b1 [tval t] 60) (hs.okM _ (.head _)) (fun _ h => h)
 have hs := hs.up3
 have hs := hs.frz (r := blk b2 [.slice la m lc] 22) (hs.okM _ (.head _)) (fun _ h => h)
 have hs := hs.up2
 have hs := hs.frz (r := blk b3 (fieldL s) 120) (hs.okM _ (.head _)) (fun _ h => h)
 have hs := hs.up1
 have hs := hs.frz (r := blk b6 [.slice a4 m c5] 34) (hs.okM _ (.head _)) (fun _ h => h)
 have hs := hs.row0 46 1
 refine c_loop (α := Nat) (fun k a w => ∃ (r : Res) (ao : Option Addr) (co : Nat), k ≤ (S 0).n ∧ TapeIs t (evs ++ upE 0 ((k : Nat) : Int) (chunkE m (thN S))) r ∧ Kn [] 46 [(35, .int .i64 ((k : Nat) : Int)), (34, .int .i64 (((S 0).n : Nat) : Int)), (11, .func (.func 99) #[] #[.pointer (some ⟨b1, 0, none⟩), .pointer (some ⟨b3, 0, none⟩), .pointer (some ⟨b6, 0, none⟩), .pointer (some ⟨b2, 0, none⟩), .pointer (some ⟨b7, 0, none⟩)]), (10, .pointer (some ⟨b7, 0, none⟩))] a ∧ Sat F0 W ((row 46 1 (.slice ao k co) k (en amc (fun i => fitB s S m i) k)) :: (blk b7 [.slice ao k co] 91) :: r :: M) ((blk b6 [.slice a4 m c5] 34) :: (blk b3 (fieldL s) 120) :: (blk b2 [.slice la m lc] 22) :: (blk b1 [tval t] 60) :: (lst 1 (.slice a4 m c5) m (en ic (fun i => ((vI S i : Nat) : Int)) m)) :: R) w) (fun k => (S 0).n - k) 0 ?_ ?_
 · exact ⟨_, _, _, (by omega), (by rw [upE_nil (by omega), List.append_nil]; exact hT), hk.k rfl (hk.k rfl (hk.k rfl (hk.k rfl hk.nil))), hs⟩
 rintro k a w ⟨r, ao, co, hf0, hf1, hk, hs⟩
 have hT := hf1
 have hlk := chunks_len (m := m) (th := thN S) (k := k) hm
 refine wS (wR ?_)
 rcases Classical.em (((k : Nat) : Int) < (((S 0).n : Nat) : Int)) with hc8 | hc8
 ·
  refine q_v hk (w_lt rfl rfl (decide_eq_true hc8)) fun a hk => ?_
  refine c_end (x_t (wS ?_))
  refine c_T hk rfl ?_
  refine (wpIn_skip (x_t ?_))
  refine wS ?_
  refine wpIn_block ?_
  refine wS (wR ?_)
  refine q_v hk (w_mv rfl) fun a hk => ?_
  refine q_v hk (w_as rfl) fun a hk => ?_
  refine c_end (x_t (wS (wR ?_)))
  refine q_v hk (w_mv rfl) fun a hk => ?_
  refine q_v hk (w_mv rfl) fun a hk => ?_
  have hs := hs.up1
  have hs := hs.up2
  have hFF : HasR (rall [blk b1 [tval t] 60, blk b3 (fieldL s) 120, blk b6 [.slice a4 m c5] 34, lst 1 (.slice a4 m c5) m (en ic (fun i => ((vI S i : Nat) : Int)) m), blk b2 [.slice la m lc] 22, shareR la m lc S]) ((blk b6 [.slice a4 m c5] 34) :: (blk b3 (fieldL s) 120) :: (blk b2 [.slice la m lc] 22) :: (blk b1 [tval t] 60) :: (lst 1 (.slice a4 m c5) m (en ic (fun i => ((vI S i : Nat) : Int)) m)) :: R) := (.rall fun q hq => by simp only [List.mem_cons, List.not_mem_nil, or_false] at hq; rcases hq with rfl | rfl | rfl | rfl | rfl | rfl <;> first | exact (hS.cons.cons.cons.cons.cons) | exact HasR.of (by simp))
  refine q_call (caps := [.pointer (some ⟨b1, 0, none⟩), .pointer (some ⟨b3, 0, none⟩), .pointer (some ⟨b6, 0, none⟩), .pointer (some ⟨b2, 0, none⟩), .pointer (some ⟨b7, 0, none⟩)]) hk rfl rfl Tryz.func99 fo99 rfl rfl (mtest_m s S m lc c5 co k k b1 b3 b6 b2 b7 la a4 ao (fitB s S m) t (evs ++ upE 0 ((k : Nat) : Int) (chunkE m (thN S))) _ _ hs g hm (by omega) (by omega) hFF hT (by simp only [List.length_append]; omega) (by omega)) ?_
  rintro _ w ⟨r9, a10, c11, rfl, hT, hs⟩
  refine ⟨_, rfl, fun a hk => ?_⟩
  refine q_v hk (w_as rfl) fun a hk => ?_
  refine c_end (x_t (wS (wR ?_)))
  refine q_v hk (w_mv rfl) fun a hk => ?_
  refine q_v hk (w_ne rfl rfl (decide_eq_false (by decide))) fun a hk => ?_
  refine c_end (x_t ?_)
  refine c_F hk rfl ?_
  refine (wpIn_skip (x_b (x_t ?_)))
  refine wR ?_
  refine q_v hk (w_add rfl rfl (wr64 (by omega) (by omega))) fun a hk => ?_
  refine q_v hk (w_mv rfl) fun a hk => ?_
  refine c_end (x_t ?_)
  have hs := hs.up2
  have hs := hs.rw0 (congrArg _ en_succ)
  rw [chunk_next] at hT
  have hs := hs.up1
  have hs := hs.up2
  have hs := hs.up2
  exact ⟨k + 1, ⟨_, _, _, (by omega), hT, hk.k rfl (hk.k rfl (hk.k rfl (hk.k rfl hk.nil))), hs⟩, by omega⟩
 ·
  refine q_v hk (w_lt rfl rfl (decide_eq_false hc8)) fun a hk => ?_
  refine c_end (x_t (wS ?_))
  refine c_F hk rfl ?_
  refine (wpIn_exit (x_te (x_te (x_be ?_))))
  refine (x_t ?_)
  refine wS (wR ?_)
  refine q_v hk (w_ld1 rfl ty91 (.blk (n := 1) (hs.mi 1 rfl) rfl)) fun a hk => ?_
  refine q_v hk (w_as rfl) fun a hk => ?_
  refine q_v hk (w_as rfl) fun a hk => ?_
  refine c_end (x_t ?_)
  refine (wpIn_ret ?_)
  refine c_ret2 hk rfl rfl rfl ?_
  have hs := hs.up1
  have hs := hs.drop
  have hs := hs.up1
  have hs := hs.toR (R' := R) (fun r hr => .of (by simp [hr]))
  have hkn : k = (S 0).n := by omega
  rw [hkn] at hs hT ⊢
  exact ⟨_, _, _, rfl, hT, hs⟩
end Go.Proofs.YtdnkkbmpefhbjaaGreatDoor
namespace Go.Proofs.YtdnkkbmpefhbjaaGreatDoor
set_option linter.all false
open Go Go.RowKit Alg
def boc (b : Bool) : List Value := [.bool b]
theorem boc_len (b : Bool) : (boc b).length = 1 := rfl
def allB (f : Nat → Bool) : Nat → Bool
  | 0 => true
  | k + 1 => allB f k && f k
theorem allB_iff (f : Nat → Bool) : ∀ n, allB f n = true ↔ ∀ k, k < n → f k = true
  | 0 => by simp [allB]
  | n + 1 => by
    rw [allB, Bool.and_eq_true, allB_iff f n]
    constructor
    · rintro ⟨h1, h2⟩ k hk
      by_cases h : k = n
      · subst h; exact h2
      · exact h1 k (by omega)
    · intro h
      exact ⟨fun k hk => h k (by omega), h n (by omega)⟩
theorem am_ne (b : Bool) : decide (am b ≠ 0) = b := by cases b <;> rfl
def conB (s : Bool) (S : Nat → Shr) (m : Nat) : Bool := allB (fitB s S m) (S 0).n
def bof (f : Nat → Bool) (k i : Nat) : Bool := if i < k then f i else false
section
variable {f : Nat → Bool} {n k : Nat}
theorem bof_zero : en boc (fun _ => false) n = en boc (bof f 0) n := en_congr fun i _ => by unfold bof; rw [if_neg (Nat.not_lt_zero i)]
theorem bof_step : en boc (fun i => if i = k then f k else bof f k i) n = en boc (bof f (k + 1)) n := en_congr fun i _ => by
  unfold bof
  by_cases h : i = k
  · subst h; rw [if_pos rfl, if_pos (Nat.lt_succ_self _)]
  · rw [if_neg h]
    by_cases l : i < k
    · rw [if_pos l, if_pos (by omega)]
    · rw [if_neg l, if_neg (by omega)]
theorem bof_end : en boc (bof f n) n = en boc f n := en_congr fun i hi => by unfold bof; rw [if_pos hi]
end
theorem cons_m {F0 : Nat → Prop} {W : World} {M R : List Res} (s : Bool) (m lc : Nat) (la : Option Addr) (S : Nat → Shr) (t : Option Nat) (evs : List Ev) (r : Res) (w0 : World) (hs : Sat F0 W (r :: M) R w0) (hS : HasR (shareR la m lc S) R) (hG : HasR laidR R) (HO : ShOk S m) (g : Good s S m) (hz : csErr S m = 0) (hm : m ≤ 255) (hn9 : (S 0).n ≤ 7) (hT : TapeIs t evs r) (he : evs.length ≤ 8000000) : Calls Tryz.prog 17 [tval t, .slice la m lc].toArray w0 fun e w => ∃ r, e = .returned (.tuple #[.bool (conB s S m), .int .i64 0]) ∧ TapeIs t (evs ++ upE 0 (((S 0).n : Nat) : Int) (chunkE m (thN S))) r ∧ Sat F0 W (r :: M) R w := by
 refine c_enter (args := [tval t, .slice la m lc]) Tryz.func17 rfl rfl rfl fun a hk => ?_
 refine wS (wR ?_)
 refine q_v hk (w_as rfl) fun a hk => ?_
 refine q_v hk (w_as rfl) fun a hk => ?_
 refine c_end (x_t (wS (wR ?_)))
 refine q_v hk (w_mv rfl) fun a hk => ?_
 refine q_v hk (w_mv rfl) fun a hk => ?_
 refine q_call (caps := []) hk rfl rfl Tryz.func55 fo55 rfl rfl (masks_m s m lc la S t evs _ _ hs (hS) (hG) HO g hz hm hn9 hT he) ?_
 rintro _ w ⟨r1, a2, c3, rfl, hT, hs⟩
 refine ⟨_, rfl, fun a hk => ?_⟩
 refine q_v hk (w_mv rfl) fun a hk => ?_
 refine q_v hk (w_ext rfl rfl) fun a hk => ?_
 refine q_v hk (w_ext rfl rfl) fun a hk => ?_
 refine q_v hk (w_as rfl) fun a hk => ?_
 refine q_v hk (w_as rfl) fun a hk => ?_
 refine c_end (x_t (wS (wS (wR ?_))))
 refine q_v hk (w_mv rfl) fun a hk => ?_
 refine q_v hk (w_ne rfl rfl (decide_eq_false (by decide))) fun a hk => ?_
 refine c_end (x_t ?_)
 refine c_F hk rfl ?_
 refine (wpIn_skip (x_t ?_))
 refine wS (wR ?_)
 refine q_v hk (w_as rfl) fun a hk => ?_
 refine c_end (x_t (wS (wS (wR ?_))))
 refine q_v hk (w_mv rfl) fun a hk => ?_
 refine q_v hk (w_len rfl Tryz.underlying91) fun a hk => ?_
 refine q_v hk (w_mv rfl) fun a hk => ?_
 refine c_end (x_t ?_)
 refine wpIn_block ?_
 refine c_loop (α := Nat) (fun k a w => k ≤ (S 0).n ∧ Kn [] 32 [(22, .int .i64 ((k : Nat) : Int)), (8, .int .u64 (am (allB (fitB s S m) k))), (21, .int .i64 (((S 0).n : Nat) : Int)), (20, .slice a2 ((S 0).n) c3), (5, .int .i64 0), (4, .bool false)] a ∧ Sat F0 W (r1 :: (row 46 1 (.slice a2 ((S 0).n) c3) ((S 0).n) (en amc (fun i => fitB s S m i) ((S 0).n))) :: M) R w) (fun k => (S 0).n - k) 0 ?_ ?_
 · exact ⟨(by omega), hk.k rfl (hk.k rfl (hk.k rfl (hk.k rfl (hk.k rfl (hk.k rfl hk.nil))))), hs⟩
 rintro k a w ⟨hf0, hk, hs⟩
 refine wS (wR ?_)
 rcases Classical.em (((k : Nat) : Int) < (((S 0).n : Nat) : Int)) with hc4 | hc4
 ·
  refine q_v hk (w_lt rfl rfl (decide_eq_true hc4)) fun a hk => ?_
  refine c_end (x_t (wS ?_))
  refine c_T hk rfl ?_
  refine (wpIn_skip (x_t ?_))
  refine wS ?_
  refine wpIn_block ?_
  refine wS (wR ?_)
  refine q_v hk (w_iaL (k := k) rfl rfl Tryz.underlying91 ty46 (row_lst (hs.mi 1 rfl)) (by omega) (by omega)) fun a hk => ?_
  refine q_v hk (w_ld1 rfl ty46 (lstq (k := k) (row_lst (hs.mi 1 rfl)) (by omega) (en_chunk amc_len (by omega)))) fun a hk => ?_
  refine q_v hk (w_as rfl) fun a hk => ?_
  refine c_end (x_t (wR ?_))
  refine q_v hk (w_mv rfl) fun a hk => ?_
  refine q_v hk (w_mv rfl) fun a hk => ?_
  refine q_v hk (w_andam rfl rfl) fun a hk => ?_
  refine q_v hk (w_as rfl) fun a hk => ?_
  refine (c_end (x_b (x_t ?_)))
  refine wR ?_
  refine q_v hk (w_add rfl rfl (wr64 (by omega) (by omega))) fun a hk => ?_
  refine q_v hk (w_mv rfl) fun a hk => ?_
  refine c_end (x_t ?_)
  exact ⟨k + 1, ⟨(by omega), hk.k rfl (hk.k rfl (hk.k rfl (hk.k rfl (hk.k rfl (hk.k rfl hk.nil))))), hs⟩, by omega⟩
 ·
  refine q_v hk (w_lt rfl rfl (decide_eq_false hc4)) fun a hk => ?_
  refine c_end (x_t (wS ?_))
  refine c_F hk rfl ?_
  refine (wpIn_exit (x_te (x_te (x_be ?_))))
  refine (x_t ?_)
  refine wS (wR ?_)
  refine q_v hk (w_mv rfl) fun a hk => ?_
  refine q_v hk (w_ne rfl rfl (am_ne _)) fun a hk => ?_
  refine q_v hk (w_as rfl) fun a hk => ?_
  refine q_v hk (w_as rfl) fun a hk => ?_
  refine c_end (x_t ?_)
  refine (wpIn_ret ?_)
  refine c_ret2 hk rfl rfl rfl ?_
  have hs := hs.up1
  have hs := hs.drop
  have hkn : k = (S 0).n := by omega
  rw [hkn]
  exact ⟨_, rfl, hT, hs⟩
theorem achunks_m {F0 : Nat → Prop} {W : World} {M R : List Res} (s : Bool) (m lc : Nat) (la : Option Addr) (S : Nat → Shr) (t : Option Nat) (evs : List Ev) (r : Res) (w0 : World) (hs : Sat F0 W (r :: M) R w0) (hS : HasR (shareR la m lc S) R) (hG : HasR laidR R) (HO : ShOk S m) (g : Good s S m) (hz : csErr S m = 0) (hm : m ≤ 255) (hn9 : (S 0).n ≤ 7) (hT : TapeIs t evs r) (he : evs.length ≤ 8000000) : Calls Tryz.prog 20 [tval t, .slice la m lc].toArray w0 fun e w => ∃ r b, e = .returned (.tuple #[.slice (some ⟨b, 0, none⟩) (S 0).n (S 0).n, .int .i64 0]) ∧ TapeIs t (evs ++ upE 0 (((S 0).n : Nat) : Int) (chunkE m (thN S))) r ∧ Sat F0 W (r :: blk b (en boc (fitB s S m) (S 0).n) 4 :: M) R w := by
 refine c_enter (args := [tval t, .slice la m lc]) Tryz.func20 rfl rfl rfl fun a hk => ?_
 refine wS (wR ?_)
 refine q_v hk (w_as rfl) fun a hk => ?_
 refine q_v hk (w_as rfl) fun a hk => ?_
 refine c_end (x_t (wS (wR ?_)))
 refine q_v hk (w_mv rfl) fun a hk => ?_
 refine q_v hk (w_mv rfl) fun a hk => ?_
 refine q_call (caps := []) hk rfl rfl Tryz.func55 fo55 rfl rfl (masks_m s m lc la S t evs _ _ hs (hS) (hG) HO g hz hm hn9 hT he) ?_
 rintro _ w ⟨r1, a2, c3, rfl, hT, hs⟩
 refine ⟨_, rfl, fun a hk => ?_⟩
 refine q_v hk (w_mv rfl) fun a hk => ?_
 refine q_v hk (w_ext rfl rfl) fun a hk => ?_
 refine q_v hk (w_ext rfl rfl) fun a hk => ?_
 refine q_v hk (w_as rfl) fun a hk => ?_
 refine q_v hk (w_as rfl) fun a hk => ?_
 refine c_end (x_t (wS (wS (wR ?_))))
 refine q_v hk (w_mv rfl) fun a hk => ?_
 refine q_v hk (w_ne rfl rfl (decide_eq_false (by decide))) fun a hk => ?_
 refine c_end (x_t ?_)
 refine c_F hk rfl ?_
 refine (wpIn_skip (x_t ?_))
 refine wS (wR ?_)
 refine q_v hk (w_mv rfl) fun a hk => ?_
 refine q_v hk (w_len rfl Tryz.underlying91) fun a hk => ?_
 refine q_mks (k := (S 0).n) (cs := boc false) hk hs rfl rfl Tryz.underlying29 ty4 zr4 (by kernel_rfl) rfl rfl rfl rfl (by omega) (by omega) rfl rfl fun b4 w a hk hs => ?_
 have hs := hs.rw0 (show _ = blk b4 (en boc (fun _ => false) ((S 0).n)) 4 from rfl)
 refine q_v hk (w_as rfl) fun a hk => ?_
 refine c_end (x_t (wS (wS (wR ?_))))
 refine q_v hk (w_mv rfl) fun a hk => ?_
 refine q_v hk (w_len rfl Tryz.underlying91) fun a hk => ?_
 refine q_v hk (w_mv rfl) fun a hk => ?_
 refine c_end (x_t ?_)
 refine wpIn_block ?_
 have hs := hs.rw0 (congrArg (fun q => blk b4 q 4) (bof_zero (f := fitB s S m)))
 refine c_loop (α := Nat) (fun k a w => k ≤ (S 0).n ∧ Kn [] 37 [(25, .int .i64 ((k : Nat) : Int)), (24, .int .i64 (((S 0).n : Nat) : Int)), (23, .slice a2 ((S 0).n) c3), (8, .slice (some ⟨b4, 0, none⟩) ((S 0).n) ((S 0).n)), (5, .int .i64 0), (4, .slice none 0 0)] a ∧ Sat F0 W ((blk b4 (en boc (fun i => bof (fitB s S m) k i) ((S 0).n)) 4) :: r1 :: (row 46 1 (.slice a2 ((S 0).n) c3) ((S 0).n) (en amc (fun i => fitB s S m i) ((S 0).n))) :: M) R w) (fun k => (S 0).n - k) 0 ?_ ?_
 · exact ⟨(by omega), hk.k rfl (hk.k rfl (hk.k rfl (hk.k rfl (hk.k rfl (hk.k rfl hk.nil))))), hs⟩
 rintro k a w ⟨hf0, hk, hs⟩
 refine wS (wR ?_)
 rcases Classical.em (((k : Nat) : Int) < (((S 0).n : Nat) : Int)) with hc5 | hc5
 ·
  refine q_v hk (w_lt rfl rfl (decide_eq_true hc5)) fun a hk => ?_
  refine c_end (x_t (wS ?_))
  refine c_T hk rfl ?_
  refine (wpIn_skip (x_t ?_))
  refine wS ?_
  refine wpIn_block ?_
  refine wS (wR ?_)
  refine q_v hk (w_mv rfl) fun a hk => ?_
  refine q_v hk (w_iaL (k := k) rfl rfl Tryz.underlying91 ty46 (row_lst (hs.mi 2 rfl)) (by omega) (by omega)) fun a hk => ?_
  refine q_v hk (w_ld1 rfl ty46 (lstq (k := k) (row_lst (hs.mi 2 rfl)) (by omega) (en_chunk amc_len (by omega)))) fun a hk => ?_
  refine q_v hk (w_as rfl) fun a hk => ?_
  refine q_v hk (w_as rfl) fun a hk => ?_
  refine c_end (x_t (wR ?_))
  refine q_v hk (w_mv rfl) fun a hk => ?_
  refine q_v hk (w_mv rfl) fun a hk => ?_
  refine q_v hk (w_mv rfl) fun a hk => ?_
  refine q_v hk (w_ne rfl rfl (am_ne _)) fun a hk => ?_
  refine q_v hk (w_iaL (k := k) rfl rfl Tryz.underlying29 ty4 (blk_lst (hs.mi 0 rfl) (en_len boc_len) (Nat.le_refl _)) (by omega) (by omega)) fun a hk => ?_
  refine q_stoE (c := boc) (xx := (fitB s S m k)) (k := k) hk hs rfl rfl rfl ty4 rfl boc_len rfl (by omega) rfl fun w hs => ?_
  refine (c_end (x_b (x_t ?_)))
  refine wR ?_
  refine q_v hk (w_add rfl rfl (wr64 (by omega) (by omega))) fun a hk => ?_
  refine q_v hk (w_mv rfl) fun a hk => ?_
  refine c_end (x_t ?_)
  have hs := hs.rw0 (congrArg (fun q => blk b4 q 4) (bof_step (f := fitB s S m)))
  exact ⟨k + 1, ⟨(by omega), hk.k rfl (hk.k rfl (hk.k rfl (hk.k rfl (hk.k rfl (hk.k rfl hk.nil))))), hs⟩, by omega⟩
 ·
  refine q_v hk (w_lt rfl rfl (decide_eq_false hc5)) fun a hk => ?_
  refine c_end (x_t (wS ?_))
  refine c_F hk rfl ?_
  refine (wpIn_exit (x_te (x_te (x_be ?_))))
  refine (x_t ?_)
  refine wS (wR ?_)
  refine q_v hk (w_mv rfl) fun a hk => ?_
  refine q_v hk (w_as rfl) fun a hk => ?_
  refine q_v hk (w_as rfl) fun a hk => ?_
  refine c_end (x_t ?_)
  refine (wpIn_ret ?_)
  refine c_ret2 hk rfl rfl rfl ?_
  have hs := hs.up2
  have hs := hs.drop
  have hs := hs.up1
  have hkn : k = (S 0).n := by omega
  rw [hkn] at hs
  rw [bof_end] at hs
  exact ⟨_, _, rfl, hT, hs⟩
end Go.Proofs.YtdnkkbmpefhbjaaGreatDoor
namespace Go.Proofs.YtdnkkbmpefhbjaaGreatDoor
set_option linter.all false
open Go Go.RowKit Alg
theorem csE_zero {S : Nat → Shr} : ∀ {m : Nat}, csE S m = 0 ↔ ∀ k, k < m → shE (S k) = 0
  | 0 => ⟨fun _ k h => by omega, fun _ => rfl⟩
  | m + 1 => by
    have ih := csE_zero (S := S) (m := m)
    constructor
    · intro h
      have h' : (if csE S m ≠ 0 then csE S m else shE (S m)) = 0 := h
      by_cases hz : csE S m = 0
      · rw [if_neg (by simp [hz])] at h'
        intro k hk
        by_cases e : k = m
        · rw [e]; exact h'
        · exact ih.1 hz k (by omega)
      · rw [if_pos hz] at h'; exact absurd h' hz
    · intro h
      have hz := ih.2 fun k hk => h k (by omega)
      show (if csE S m ≠ 0 then csE S m else shE (S m)) = 0
      rw [if_neg (by simp [hz])]
      exact h m (by omega)
theorem mixS_false {S : Nat → Shr} {m : Nat} : mixS S m = false ↔ ∀ k, k < m → hdr (S k) = hdr (S 0) := by
  unfold mixS
  rw [List.any_eq_false]
  constructor
  · intro h k hk
    have := h k (List.mem_range.2 hk)
    simpa using this
  · intro h k hk
    simpa using h k (List.mem_range.1 hk)
theorem ksv_nodup {v : Nat → Int} {m : Nat} : (ksv v m).length = m ↔ ∀ i k, i < k → k < m → v i ≠ v k := by
  constructor
  · intro h
    have h1 := (ins_eq ((List.range m).map v) []).1 (by unfold ksv at h; simpa using h)
    have h2 := h1.1
    rw [List.nodup_iff_pairwise_ne, List.pairwise_map, List.pairwise_iff_getElem] at h2
    intro i k hik hk
    have := h2 i k (by simp; omega) (by simpa using hk) hik
    simpa using this
  · exact ksv_full
theorem ksv_le (v : Nat → Int) (m : Nat) : (ksv v m).length ≤ m := by
  have := ins_le ((List.range m).map v) []
  simpa [ksv] using this
/-- Nothing is wrong. -/
theorem csErr_zero {S : Nat → Shr} {m : Nat} : csErr S m = 0 ↔ (∀ k, k < m → shE (S k) = 0) ∧ (∀ k, k < m → hdr (S k) = hdr (S 0)) ∧ (∀ i k, i < k → k < m → (S i).I ≠ (S k).I) ∧ 0 < m ∧ (S 0).T ≤ (m : Int) := by
  unfold csErr
  rw [← csE_zero, ← mixS_false, ← ksv_nodup (v := fun i => (S i).I)]
  have hle := ksv_le (fun i => (S i).I) m
  by_cases h1 : csE S m = 0
  · rw [if_neg (by simp [h1])]
    cases h2 : mixS S m with
    | true => simp
    | false =>
      rw [if_neg (by simp)]
      by_cases h3 : (((ksv (fun i => (S i).I) m).length : Nat) : Int) < ((m : Nat) : Int)
      · rw [if_pos h3]
        constructor
        · intro h; cases h
        · rintro ⟨_, _, h, _⟩; omega
      · rw [if_neg h3]
        by_cases h4 : ((m : Nat) : Int) = 0 ∨ ((m : Nat) : Int) < (S 0).T
        · rw [if_pos h4]
          constructor
          · intro h; cases h
          · rintro ⟨_, _, _, h5, h6⟩; omega
        · rw [if_neg h4]
          constructor
          · intro _; exact ⟨h1, rfl, by omega, by omega, by omega⟩
          · intro _; rfl
  · rw [if_pos h1]
    constructor
    · intro h; exact absurd h h1
    · rintro ⟨h, _⟩; exact absurd h h1
theorem Good.err {s : Bool} {S : Nat → Shr} {m : Nat} (g : Good s S m) (hT : (S 0).T ≤ 255) : csErr S m = 0 := by
  refine csErr_zero.2 ⟨fun k hk => ?_, fun k hk => ?_, g.app, g.m0, g.tm⟩
  · unfold shE shErr
    have ho := fid_or s
    have hcn : (S k).n = Go.Proofs.YtdnkkbmpefhbjaaGreatDoor.cn (S k).L := by rw [g.n k hk, g.Lq k hk]; exact g.cn
    have hx : okB (decide ((S k).F = 2)) (S k).X (S k).n = true := by
      rw [g.F k hk, fid_dec]
      exact okB_of fun i hi => g.X k hk i (by rw [← g.n k hk]; exact hi)
    rw [if_pos (by rw [g.F k hk]; exact ho), if_pos (by rw [g.T k hk]; exact ⟨g.t1, hT⟩), if_pos (g.idx k hk), if_pos (by rw [g.Lq k hk]; exact ⟨g.l0, g.l1⟩), if_pos hcn, if_pos hx]
  · unfold hdr
    rw [g.F k hk, g.T k hk, g.Lq k hk, g.F 0 g.m0]
end Go.Proofs.YtdnkkbmpefhbjaaGreatDoor
namespace Go.Proofs.YtdnkkbmpefhbjaaGreatDoor
set_option linter.all false
open Go Go.RowKit Alg
theorem sla_zero {a : Option Addr} {m s : Nat} : sla a m 0 s = a := by
  unfold sla
  split
  · rfl
  · cases a with
    | none => rfl
    | some q => show some (q.add (0 * s)) = some q; rw [Nat.zero_mul]; rfl
theorem w_slc_eq {P : Program} {G : List (Nat × Value)} {o : Oper} {w : World} {a a' : Option Addr} {n n' c c' : Nat} (h : Wq P G o (.slice a n c) w w) (ha : a = a') (hn : n = n') (hc : c = c') : Wq P G o (.slice a' n' c') w w := by
  subst ha hn hc; exact h
section
variable {la : Option Addr} {m lc th : Nat} {S : Nat → Shr} {R M : List Res} {F0 : Nat → Prop} {W w : World}
theorem share_cap (h : HasR (shareR la m lc S) R) (hs : Sat F0 W M R w) : m ≤ lc := by
  obtain ⟨a, c, he, hc, _⟩ := ((share_lst h).at_ hs).at_
  cases he
  exact hc
theorem lst_take {n c th s : Nat} {xs ys : List Value} {r : Res} (hr : r = lst s (.slice la n c) n xs) (ht : th ≤ n) (hy : ys.length = th * s) (hxy : ∀ (j : Nat) (u : Value), ys[j]? = some u → xs[j]? = some u) : HasR (lst s (.slice la th c) th ys) [r] := by
  subst hr
  refine ⟨fun w hw => ?_, fun k hk => ⟨_, .head _, ?_⟩⟩
  · obtain ⟨a, c', he, hc, h0, h1⟩ := (hw _ (.head _)).at_
    cases he
    exact ⟨hy, la, c, rfl, Nat.le_trans ht hc, fun h => ⟨by have := (h0 h).1; omega, (h0 h).2⟩, fun ad ha hp => ⟨(h1 ad ha (by omega)).1, (h1 ad ha (by omega)).2.1, fun j u hj => (h1 ad ha (by omega)).2.2 j u (hxy j u hj)⟩⟩
  · have h1 := hk.1
    have h2 := hk.2
    exact ⟨by omega, by cases la <;> simpa [Value.ownBlock] using h2⟩
theorem en_take {α : Type} {c : α → List Value} {f : Nat → α} {th m s : Nat} (hl : ∀ x, (c x).length = s) (ht : th ≤ m) : ∀ (j : Nat) (u : Value), (en c f th)[j]? = some u → (en c f m)[j]? = some u := by
  intro j u h
  obtain ⟨d, rfl⟩ : ∃ d, m = th + d := ⟨m - th, by omega⟩
  have e : en c f (th + d) = en c f th ++ en c (fun i => f (th + i)) d := by
    unfold en
    rw [List.range_add, List.flatMap_append, List.flatMap_map]
  rw [e, List.getElem?_append_left (List.getElem?_eq_some_iff.1 h).1]
  exact h
theorem Good.take {s : Bool} (g : Good s S m) : Good s S (thN S) := by
  have ht := g.th_le
  have h2 := g.th
  exact ⟨by omega, fun i hi => g.F i (by omega), fun i hi => g.T i (by omega), fun i hi => g.Lq i (by omega), fun i hi => g.n i (by omega), fun i hi => g.idx i (by omega), fun i k hik hk => g.app i k hik (by omega), fun i hi => g.X i (by omega), g.t1, by omega, g.l0, g.l1, g.cn⟩
end
end Go.Proofs.YtdnkkbmpefhbjaaGreatDoor
namespace Go.Proofs.YtdnkkbmpefhbjaaGreatDoor
set_option linter.all false
open Go Go.RowKit
theorem src_of {P : Program} {w : World} {s n c : Nat} {a : Option Addr} {xs : List Value} {tx e' : TypeId} (h : LstAt w s (.slice a n c) n xs) (h1 : ones xs = true) (hu : P.underlying tx = some (.slice e')) : Src P s tx (.slice a n c) n xs w := by
  obtain ⟨a', c', he, hc, h0, hx⟩ := h.at_
  cases he
  cases a with
  | none =>
    obtain ⟨rfl, rfl⟩ := h0 rfl
    have : xs = [] := List.eq_nil_of_length_eq_zero (by have := h.len; omega)
    subst this
    exact Src.ofNil w hu 0
  | some ad =>
    refine Src.ofSlice w hu ad n c xs h.len (fun j u hj => ?_) (ones_spec h1)
    by_cases hn : 0 < n
    · exact (hx ad rfl hn).2.2 j u hj
    · have h0 : n = 0 := by omega
      have hl := h.len
      rw [h0, Nat.zero_mul] at hl
      have : xs = [] := List.eq_nil_of_length_eq_zero hl
      subst this
      cases hj
section
variable {r : Option Nat} {n N : Nat} {P : Program} {ops : Array Oper} {Q : Exit → Act → World → Prop} {rest : List Oper} {G : List (Nat × Value)} {a : Act} {w w' : World} {v : Value} {Ds : List Nat}
  {d T : Nat} {p : String} {e : Array Edge} {g : Option (Nat × Bool)} {x y : Operand} {t te : TypeId} {F0 : Nat → Prop} {W : World} {M R : List Res} {xs ys : List Value} {ab : Bool} {s nb i j cy : Nat} {z : Value} {ax ay : Option Addr}
theorem w_appF (hs : Sat F0 W M R w) (hX : HasR (lst s (.slice ax i i) i xs) R) (hY : HasR (lst s (.slice ay j cy) j ys) R) (hx : evq G x = some (.slice ax i i)) (hy : evq G y = some (.slice ay j cy))
    (hu : P.underlying t = some (.slice te)) (ht : tq P te = some (ab, s, nb)) (hz : zq P te = some z) (hzs : Nat.beq z.cells.size s = true) (hs0 : Nat.blt 0 s = true) (h1 : ones xs = true) (h2 : ones ys = true) (hb : (i + j) * nb ≤ 140737488355328) (h63 : i + j ≤ 9223372036854775807) :
    ∃ a' c' w', Wq P G ⟨some d, .call ⟨.builtin .append, #[x, y], #[t, t]⟩, T, p, e, g⟩ (.slice a' (i + j) c') w w' ∧ i + j ≤ c' ∧ Sat F0 W M (lst s (.slice a' (i + j) c') (i + j) (xs ++ ys) :: R) w' := by
  obtain ⟨inf, hi, hiz, his, hib⟩ := tz_info ht hz
  have lX := hX.at_ hs
  have lY := hY.at_ hs
  have sX := src_of (P := P) (tx := t) lX h1 hu
  have sY := src_of (P := P) (tx := t) lY h2 hu
  subst his
  by_cases hj : j = 0
  · subst hj
    have hy0 : ys = [] := List.eq_nil_of_length_eq_zero (by have := lY.len; omega)
    subst hy0
    refine ⟨ax, i, w, .of2 hx hy fun ev e1 e2 => ?_, Nat.le_refl _, ?_⟩
    · have hr := run_append_nothing (P := P) w t t T te inf hu hi ax i i (Nat.le_refl _) _ sY
      simp only [execOp, resolve, invoke, builtin, Sem.run_bind, Sem.run_pure, Result.andThen_ok, List.map_toArray, List.map_cons, List.map_nil, e1, e2, hr, Nat.add_zero]
    · rw [List.append_nil, Nat.add_zero]
      exact hs.hasR hX
  · have hsz : z.cells.size = inf.size := Nat.eq_of_beq_eq_true hzs
    have hr := run_append_grow_src (P := P) w t t T te inf z hu hi hiz ax i i xs sX.cellsD _ j ys sY (by omega) (by omega) (growslice_fits (by omega) (by rw [hib]; exact hb))
    have hge := grownCap_ge w (i + j) i te
    have hcm : grownCap w (i + j) i te ≤ maxLen := grownCap_le_maxLen w (i + j) i te (by unfold maxLen; omega)
    have hlen : (xs ++ ys).length = (i + j) * inf.size := by rw [List.length_append, lX.len, lY.len, Nat.add_mul]
    refine ⟨some ⟨w.heap.size, 0, none⟩, grownCap w (i + j) i te, w.drew.alloc (.cells ((xs ++ ys).toArray ++ Builtin.zeroCells z.cells (grownCap w (i + j) i te - (i + j))) te), .of2 hx hy fun ev e1 e2 => ?_, hge, ?_⟩
    · simp only [execOp, resolve, invoke, builtin, Sem.run_bind, Sem.run_pure, Result.andThen_ok, List.map_toArray, List.map_cons, List.map_nil, e1, e2, hr]
    · have hg : w.grownBy (w.drew.alloc (.cells ((xs ++ ys).toArray ++ Builtin.zeroCells z.cells (grownCap w (i + j) i te - (i + j))) te)) none := ⟨rfl, rfl, rfl, by simp, fun k hk _ => Below.heap_alloc w.drew _ k hk⟩
      have ho : (w.drew.alloc (.cells ((xs ++ ys).toArray ++ Builtin.zeroCells z.cells (grownCap w (i + j) i te - (i + j))) te)).ownsRow 0 te inf.size (.slice (some ⟨w.heap.size, 0, none⟩) (i + j) (grownCap w (i + j) i te)) (i + j) (xs ++ ys) := by
        refine ⟨hlen, .inr ⟨w.heap.size, _, _, rfl, Nat.zero_le _, heap_alloc_new w.drew _, hge, hcm, ?_, ?_⟩⟩
        · simp only [Array.size_append, List.size_toArray, size_zeroCells, hsz, hlen, ← Nat.add_mul]
          congr 1
          omega
        · simp only [Array.toList_append]
          rw [← hlen]
          exact List.take_left
      have h3 : Sat F0 W (row te inf.size (.slice (some ⟨w.heap.size, 0, none⟩) (i + j) (grownCap w (i + j) i te)) (i + j) (xs ++ ys) :: M) R _ := hs.new ((Keeps.grown hg).mono fun k hk _ => by cases hk) ho fun k hk => by cases hk; exact Nat.le_refl _
      exact h3.frz (r := lst inf.size (.slice (some ⟨w.heap.size, 0, none⟩) (i + j) (grownCap w (i + j) i te)) (i + j) (xs ++ ys)) (row_lst (h3.mi 0 rfl)) (fun _ h => h.2)
theorem q_appF (hk : Kn Ds N G a) (hs : Sat F0 W M R w) (hX : HasR (lst s (.slice ax i i) i xs) R) (hY : HasR (lst s (.slice ay j cy) j ys) R) (hx : evq G x = some (.slice ax i i)) (hy : evq G y = some (.slice ay j cy))
    (hu : P.underlying t = some (.slice te)) (ht : tq P te = some (ab, s, nb)) (hz : zq P te = some z) (hzs : Nat.beq z.cells.size s = true) (hs0 : Nat.blt 0 s = true) (h1 : ones xs = true) (h2 : ones ys = true) (hb : (i + j) * nb ≤ 140737488355328) (h63 : i + j ≤ 9223372036854775807)
    (hd : Nat.ble (d + 1) N = true) (hg : wq ops G g = some true)
    (h : ∀ a' c' w a, Kn Ds N ((d, .slice a' (i + j) c') :: G) a → i + j ≤ c' → Sat F0 W M (lst s (.slice a' (i + j) c') (i + j) (xs ++ ys) :: R) w → wpListIn (Fr r) n P ops Q rest a w) :
    wpListIn (Fr r) n P ops Q (⟨some d, .call ⟨.builtin .append, #[x, y], #[t, t]⟩, T, p, e, g⟩ :: rest) a w := by
  obtain ⟨a', c', w', hw, hc, hs'⟩ := w_appF (d := d) (T := T) (p := p) (e := e) (g := g) hs hX hY hx hy hu ht hz hzs hs0 h1 h2 hb h63
  exact q_val hk hw hd rfl hg fun a hk => h a' c' w' a hk hc hs'
end
end Go.Proofs.YtdnkkbmpefhbjaaGreatDoor
namespace Go.Proofs.YtdnkkbmpefhbjaaGreatDoor
set_option linter.all false
open Go Go.RowKit Alg
/-- The shares without the i-th. -/
def wo (S : Nat → Shr) (i k : Nat) : Shr := if k < i then S k else S (k + 1)
section
variable {s : Bool} {S : Nat → Shr} {m i k : Nat} {la a : Option Addr} {lc c : Nat} {R : List Res}
theorem wo_some (hi : i < m) (hk : k < m - 1) : ∃ j, j < m ∧ wo S i k = S j := by
  unfold wo
  by_cases h : k < i
  · exact ⟨k, by omega, if_pos h⟩
  · exact ⟨k + 1, by omega, if_neg h⟩
theorem Good.wo (g : Good s S m) (hi : i < m) (ht : (S 0).T < (m : Int)) : Good s (wo S i) (m - 1) := by
  have h1 := g.t1
  have hm : 0 < m - 1 := by omega
  obtain ⟨j0, hj0, e0⟩ := wo_some (S := S) hi hm
  have key : ∀ k, k < m - 1 → ∃ j, j < m ∧ Go.Proofs.YtdnkkbmpefhbjaaGreatDoor.wo S i k = S j := fun k hk => wo_some hi hk
  have hT0 : (Go.Proofs.YtdnkkbmpefhbjaaGreatDoor.wo S i 0).T = (S 0).T := by rw [e0]; exact g.T j0 hj0
  have hL0 : (Go.Proofs.YtdnkkbmpefhbjaaGreatDoor.wo S i 0).L = (S 0).L := by rw [e0]; exact g.Lq j0 hj0
  have hn0 : (Go.Proofs.YtdnkkbmpefhbjaaGreatDoor.wo S i 0).n = (S 0).n := by rw [e0]; exact g.n j0 hj0
  refine ⟨hm, fun k hk => ?_, fun k hk => ?_, fun k hk => ?_, fun k hk => ?_, fun k hk => ?_, fun k k' hkk hk => ?_, fun k hk j hj => ?_, by rw [hT0]; exact h1, by rw [hT0]; omega, by rw [hL0]; exact g.l0, by rw [hL0]; exact g.l1, by rw [hL0, hn0]; exact g.cn⟩
  · obtain ⟨j, hj, e⟩ := key k hk; rw [e]; exact g.F j hj
  · obtain ⟨j, hj, e⟩ := key k hk; rw [e, hT0]; exact g.T j hj
  · obtain ⟨j, hj, e⟩ := key k hk; rw [e, hL0]; exact g.Lq j hj
  · obtain ⟨j, hj, e⟩ := key k hk; rw [e, hn0]; exact g.n j hj
  · obtain ⟨j, hj, e⟩ := key k hk; rw [e]; exact g.idx j hj
  · unfold Go.Proofs.YtdnkkbmpefhbjaaGreatDoor.wo
    by_cases h1 : k < i <;> by_cases h2 : k' < i
    · rw [if_pos h1, if_pos h2]; exact g.app k k' hkk (by omega)
    · rw [if_pos h1, if_neg h2]; exact g.app k (k' + 1) (by omega) (by omega)
    · omega
    · rw [if_neg h1, if_neg h2]; exact g.app (k + 1) (k' + 1) (by omega) (by omega)
  · obtain ⟨j', hj', e⟩ := key k hk; rw [e]; rw [hn0] at hj; exact g.X j' hj' j hj
theorem ShOk.wo (h : ShOk S m) (hi : i < m) : ShOk (wo S i) (m - 1) := by
  refine ⟨by have := h.m_le; omega, fun k hk => ?_, fun k hk => ?_⟩
  · obtain ⟨j, hj, e⟩ := wo_some (S := S) hi hk; rw [e]; exact h.n_le j hj
  · obtain ⟨j, hj, e⟩ := wo_some (S := S) hi hk; rw [e]; exact h.x_lt j hj
theorem wo_en (hi : i < m) : en shc S i ++ en shc (fun j => S (i + 1 + j)) (m - (i + 1)) = en shc (wo S i) (i + (m - (i + 1))) := by
  have e : en shc (wo S i) (i + (m - (i + 1))) = en shc (wo S i) i ++ en shc (fun j => wo S i (i + j)) (m - (i + 1)) := by
    unfold en
    rw [List.range_add, List.flatMap_append, List.flatMap_map]
  rw [e]
  congr 1
  · exact en_congr fun k hk => by unfold wo; rw [if_pos hk]
  · exact en_congr fun k _ => by unfold wo; rw [if_neg (by omega), show i + k + 1 = i + 1 + k by omega]
theorem lst_clip {n s : Nat} {xs : List Value} : HasR (lst s (.slice a n n) n xs) [lst s (.slice a n c) n xs] := by
  refine ⟨fun w hw => ?_, fun k hk => ⟨_, .head _, hk.1, by have h2 := hk.2; cases a <;> simpa [Value.ownBlock] using h2⟩⟩
  obtain ⟨a', c', he, hc, h0, h1⟩ := (hw _ (.head _)).at_
  cases he
  exact ⟨(hw _ (.head _)).len, a, n, rfl, Nat.le_refl _, fun h => ⟨(h0 h).1, (h0 h).1⟩, h1⟩
theorem pre_share (hS : HasR (shareR la m lc S) R) (hi : i < m) : HasR (lst 5 (.slice la i i) i (en shc S i)) R :=
  (lst_clip (c := lc)).trans ((lst_take rfl (Nat.le_of_lt hi) (en_len shc_len) (en_take shc_len (Nat.le_of_lt hi))).trans (share_lst hS))
theorem en_drop {n : Nat} (h : i + 1 ≤ n) : (en shc S n).drop ((i + 1) * 5) = en shc (fun j => S (i + 1 + j)) (n - (i + 1)) := by
  have e : en shc S n = en shc S (i + 1) ++ en shc (fun j => S (i + 1 + j)) (n - (i + 1)) := by
    conv => lhs; rw [show n = i + 1 + (n - (i + 1)) by omega]
    unfold en
    rw [List.range_add, List.flatMap_append, List.flatMap_map]
  rw [e, List.drop_append_of_le_length (by rw [en_len shc_len]; exact Nat.le_refl _), List.drop_eq_nil_of_le (by rw [en_len shc_len]; exact Nat.le_refl _), List.nil_append]
theorem post_share (hS : HasR (shareR la m lc S) R) (hi : i < m) (hc : m ≤ lc) : HasR (lst 5 (.slice (sla la lc (i + 1) 5) (m - (i + 1)) (lc - (i + 1))) (m - (i + 1)) (en shc (fun j => S (i + 1 + j)) (m - (i + 1)))) R := by
  have h0 := share_lst hS
  refine HasR.trans (m := lst 5 (.slice la m lc) m (en shc S m)) ⟨fun w hw => ?_, fun k hk => ⟨_, .head _, ?_⟩⟩ h0
  · have hL : LstAt w 5 (.slice la m lc) m (en shc S m) := hw _ (.head _)
    have h := hL.sub (l := i + 1) (h := m) (m := lc) (by omega) (by omega) (by omega) (by omega)
    have e : ((en shc S m).drop ((i + 1) * 5)).take ((m - (i + 1)) * 5) = en shc (fun j => S (i + 1 + j)) (m - (i + 1)) := by
      rw [en_drop (by omega), List.take_of_length_le (by rw [en_len shc_len]; exact Nat.le_refl _)]
    rw [← e]
    exact h
  · obtain ⟨h1, h2⟩ := hk
    refine ⟨by omega, ?_⟩
    unfold sla at h2
    cases la with
    | none => split at h2 <;> simp [Value.ownBlock] at h2
    | some q =>
      split at h2
      · exact h2
      · simp only [Option.map_some, Value.ownBlock] at h2 ⊢
        rw [← h2]
        unfold Addr.add
        split <;> rfl
/-- What is handed to Consistent. -/
theorem oth_share (h : HasR (lst 5 (.slice a (i + (m - (i + 1))) c) (i + (m - (i + 1))) (en shc S i ++ en shc (fun j => S (i + 1 + j)) (m - (i + 1)))) R) (hS : HasR (shareR la m lc S) R) (hi : i < m) : HasR (shareR a (i + (m - (i + 1))) (i + (m - (i + 1))) (wo S i)) R := by
  refine .rall fun x hx => ?_
  simp only [List.mem_cons, List.not_mem_nil, or_false] at hx
  rcases hx with rfl | rfl
  · rw [← wo_en hi]
    exact lst_clip.trans h
  · refine .rall fun y hy => ?_
    obtain ⟨k, hk, rfl⟩ := List.mem_map.1 hy
    obtain ⟨j, hj, e⟩ := wo_some (S := S) (k := k) hi (by have := List.mem_range.1 hk; omega)
    rw [e]
    exact share_pay hS hj
end
end Go.Proofs.YtdnkkbmpefhbjaaGreatDoor
namespace Go.Proofs.YtdnkkbmpefhbjaaGreatDoor
set_option linter.all false
open Go Go.RowKit
theorem pos_add {b o j : Nat} : (⟨b, o, none⟩ : Addr).add j = ⟨b, o + j, none⟩ := add_pos
/-- A row that a call made. -/
theorem Sat.ofOwn {F0 : Nat → Prop} {W w w' : World} {M R : List Res} {T : TypeId} {sz n : Nat} {v : Value} {xs : List Value} (hs : Sat F0 W M R w) (hb : Below w.heap.size w w') (ho : w'.ownsRow w.heap.size T sz v n xs) : Sat F0 W (row T sz v n xs :: M) R w' :=
  hs.new (.ofBelow hb) ⟨ho.1, ho.2.imp id fun ⟨g, cap, cur, e, hg, r⟩ => ⟨g, cap, cur, e, Nat.zero_le _, r⟩⟩ fun k hk => (ho.lt k hk).1
end Go.Proofs.YtdnkkbmpefhbjaaGreatDoor
namespace Go.Proofs.YtdnkkbmpefhbjaaGreatDoor
set_option linter.all false
open Go Go.RowKit Go.Shelf
end Go.Proofs.YtdnkkbmpefhbjaaGreatDoor
namespace Go.Proofs.YtdnkkbmpefhbjaaGreatDoor
set_option linter.all false
open Go Go.RowKit
open Classical in
/-- What Join says. -/
noncomputable def jErr (n : Nat) (N : Int) (v : Nat → Nat) : Int := if 0 ≤ N ∧ N ≤ 65535 then (if n = cn N then (if okC N.toNat v (List.range n) then 0 else 10) else 8) else 6
def jFlat (N : Nat) (v : Nat → Nat) (l : List Nat) : List Nat := l.flatMap fun i => (List.range (cz N i)).map (byt (v i))
/-- The bytes that Join hands back. -/
noncomputable def jBytes (n : Nat) (N : Int) (v : Nat → Nat) : List Nat := if jErr n N v = 0 then jFlat N.toNat v (List.range n) else []
theorem byC_el (N : Nat) (v : Nat → Nat) (l : List Nat) : byC N v l = el bc (jFlat N v l) := by
  unfold byC jFlat el
  induction l with
  | nil => rfl
  | cons x l ih =>
    rw [List.flatMap_cons, List.flatMap_cons, List.flatMap_append, ih]
    congr 1
    unfold fl bc
    induction (List.range (cz N x)) with
    | nil => rfl
    | cons y m ihm => simp [ihm]
/-- How Join's answer lies. -/
def JQ (W : World) (n : Nat) (N : Int) (v : Nat → Nat) (e : Ending) (w : World) : Prop :=
  ∃ a k c, e = .returned (.tuple #[.slice a k c, .int .i64 (jErr n N v)]) ∧ Sat no W [row 5 1 (.slice a k c) k (el bc (jBytes n N v))] [] w
theorem JQ.bad {W w : World} {n : Nat} {N : Int} {v : Nat → Nat} {q : Int} (hb : Below W.heap.size W w) (h : jErr n N v = q) (hq : q ≠ 0) : JQ W n N v (.returned (.tuple #[.slice none 0 0, .int .i64 q])) w := by
  refine ⟨none, 0, 0, by rw [h], ?_⟩
  have hnil : jBytes n N v = [] := by unfold jBytes; rw [if_neg (by rw [h]; exact hq)]
  rw [hnil]
  exact ((Sat.start W [] (fun _ h => by cases h)).below hb).row0 _ _
open Classical in
theorem JQ.of {W w : World} {N : Nat} {v : Nat → Nat} {r : Value} (hb : Below W.heap.size W w) (hN : N ≤ 65535) (h : JO W.heap.size N v r w) : JQ W (cn N) N v (.returned r) w := by
  have e0 : jErr (cn N) N v = if okC N v (List.range (cn N)) then 0 else 10 := by
    unfold jErr
    rw [if_pos (by omega), if_pos rfl]
    simp
  rcases h with ⟨hok, out, k, rfl, ho⟩ | ⟨hok, rfl⟩
  · rw [if_pos hok] at e0
    obtain ⟨a, c, rfl⟩ := row_slice2 ho
    refine ⟨a, k, c, by rw [e0], ?_⟩
    have hj : jBytes (cn N) N v = jFlat N v (List.range (cn N)) := by unfold jBytes; rw [if_pos e0]; rfl
    rw [hj, ← byC_el]
    exact (Sat.start W [] (fun _ h => by cases h)).ofOwn hb ho
  · rw [if_neg hok] at e0
    exact JQ.bad hb e0 (by decide)
end Go.Proofs.YtdnkkbmpefhbjaaGreatDoor
namespace Go.Proofs.YtdnkkbmpefhbjaaGreatDoor
set_option linter.all false
open Go Go.RowKit Alg
theorem bytesAt_of {w : World} {a : Option Addr} {n c : Nat} {f : Nat → Nat} (h : LstAt w 1 (.slice a n c) n (en bc f n)) (hf : ∀ j, f j < 256) (hn : 0 < n) : ∃ b off, a = some ⟨b, off, none⟩ ∧ n ≤ c ∧ BytesAt w b off n f := by
  have ha := lst_some h hn
  obtain ⟨a', c', he, hc, _, hx⟩ := h.at_
  cases he
  obtain ⟨h1, h2, h3⟩ := hx _ ha hn
  refine ⟨(adq a).block, (adq a).off, ?_, hc, ?_⟩
  · rw [ha, ← h1]; rfl
  · refine ⟨hf, h2, fun j hj => ?_⟩
    have hc := lstq h hj (en_chunk bc_len hj) 0 _ rfl
    have e : adq a = ⟨(adq a).block, (adq a).off, none⟩ := by rw [← h1]
    rw [e, pos_add, pos_add, Nat.mul_one, Nat.add_zero] at hc
    exact hc
theorem sliceAt_en {w : World} {a : Option Addr} {n c : Nat} {f : Nat → Nat} (h : LstAt w 1 (.slice a n c) n (en bc f n)) (hf : ∀ j, f j < 256) : SliceAt w a n f := by
  refine ⟨hf, ?_⟩
  by_cases h0 : n = 0
  · exact .inl h0
  · obtain ⟨b, off, e, _, hB⟩ := bytesAt_of h hf (by omega)
    exact .inr ⟨b, off, e, hB⟩
theorem vcs_en (f : Nat → Nat) (n : Nat) : vcs ((List.range n).map f) = en vq f n := by
  unfold vcs en
  rw [List.flatMap_map]
  rfl
theorem rsplit_e {a : Option Addr} {n c : Nat} {f : Nat → Nat} {w : World} (h : LstAt w 1 (.slice a n c) n (en bc f n)) (hf : ∀ j, f j < 256) (hn : n ≤ 65535) : Calls Tryz.prog 109 #[.slice a n c] w fun e w' => ∃ a' c', e = .returned (.tuple #[.slice a' (cn n) c', .int .i64 0]) ∧ Sat no w [row 47 4 (.slice a' (cn n) c') (cn n) (en vq (cv n f) (cn n))] [] w' := by
  have hc : n ≤ c := by obtain ⟨_, _, he, hc, _⟩ := h.at_; cases he; exact hc
  refine (refSplit_ok a n c f hn hc w (Lib.hid (sliceAt_en h hf))).mono fun e w' hq => ?_
  obtain ⟨⟨v, h1, h2⟩, h3⟩ := hq
  rw [vcs_en] at h2
  have hs := (Sat.start w [] (fun _ h => by cases h)).ofOwn h3 h2
  have hl := (row_lst (hs.okM _ (.head _)))
  obtain ⟨a', c', he, _⟩ := hl.at_
  subst he
  exact ⟨a', c', h1, hs⟩
theorem zv_ex {s : Bool} {n : Nat} (h : n < pr s) : ∃ z : Zp s, zv z = n := ⟨⟨n, h⟩, rfl⟩
/-- Wide's answer is an element. -/
theorem rwide_e {s : Bool} {a : Option Addr} {c : Nat} {f : Nat → Nat} {w : World} (h : LstAt w 1 (.slice a 64 c) 64 (en bc f 64)) (hf : ∀ j, f j < 256) : Calls Tryz.prog 140 #[vec (pr s), .slice a 64 c] w fun e w' => ∃ z : Zp s, e = .returned (.tuple #[vec (zv z), .int .i64 0]) ∧ Below w.heap.size w w' := by
  obtain ⟨b, off, rfl, hc, hB⟩ := bytesAt_of h hf (by omega)
  obtain ⟨z, hz⟩ := zv_ex (wideV_lt s f)
  have h := refWide_c s b off c hc f w hB
  rw [← hz] at h
  exact h.mono fun e w' hq => ⟨z, hq.1, hq.2⟩
theorem lst_drop {a : Option Addr} {n c l : Nat} {f : Nat → Nat} (hl : l ≤ n) (hc : n ≤ c) : HasR (lst 1 (.slice (sla a c l 1) (n - l) (c - l)) (n - l) (en bc (fun j => f (l + j)) (n - l))) [lst 1 (.slice a n c) n (en bc f n)] := by
  refine ⟨fun w hw => ?_, fun k hk => ⟨_, .head _, ?_⟩⟩
  · have hL : LstAt w 1 (.slice a n c) n (en bc f n) := hw _ (.head _)
    have h := hL.sub (l := l) (h := n) (m := c) hl (Nat.le_refl _) hc (Nat.le_refl _)
    have e : ((en bc f n).drop (l * 1)).take ((n - l) * 1) = en bc (fun j => f (l + j)) (n - l) := by
      have e1 : en bc f n = en bc f l ++ en bc (fun j => f (l + j)) (n - l) := by
        conv => lhs; rw [show n = l + (n - l) by omega]
        unfold en
        rw [List.range_add, List.flatMap_append, List.flatMap_map]
      have e2 : (en bc f l).length = l * 1 := en_len bc_len
      rw [e1, List.drop_append_of_le_length (by omega), List.drop_eq_nil_of_le (by omega), List.nil_append, List.take_of_length_le (by rw [en_len bc_len]; exact Nat.le_refl _)]
    rw [← e]
    exact h
  · obtain ⟨h1, h2⟩ := hk
    refine ⟨by omega, ?_⟩
    unfold sla at h2
    cases a with
    | none => split at h2 <;> simp [Value.ownBlock] at h2
    | some q =>
      split at h2
      · exact h2
      · simp only [Option.map_some, Value.ownBlock] at h2 ⊢
        rw [← h2]
        unfold Addr.add
        split <;> rfl
theorem take_m {F0 : Nat → Prop} {W : World} {M R : List Res} (sb rn rc : Nat) (ra : Option Addr) (f : Nat → Nat) (w0 : World) (hs : Sat F0 W ((blk sb [.slice ra rn rc] 154) :: M) R w0) (hR : HasR (lst 1 (.slice ra rn rc) rn (en bc f rn)) R) (hf : ∀ j, f j < 256) (h64 : 64 ≤ rn) (hr9 : rn ≤ 100000000) : Calls Tryz.prog 139 [.pointer (some ⟨sb, 0, none⟩), .int .i64 64].toArray w0 fun e w => ∃ ra2 rc2 f2, e = .returned (.tuple #[.slice ra 64 rc, .int .i64 0]) ∧ HasR (lst 1 (.slice ra2 (rn - 64) rc2) (rn - 64) (en bc f2 (rn - 64))) R ∧ (∀ j, f2 j < 256) ∧ Sat F0 W (blk sb [.slice ra2 (rn - 64) rc2] 154 :: M) R w := by
 have hcap : rn ≤ rc := by have h := hR.at_ hs; obtain ⟨_, _, he, hc, _⟩ := LstAt.at_ h; cases he; exact hc
 refine c_enter (args := [.pointer (some ⟨sb, 0, none⟩), .int .i64 64]) Tryz.func139 rfl rfl rfl fun a hk => ?_
 refine wS (wR ?_)
 refine q_v hk (w_as rfl) fun a hk => ?_
 refine q_v hk (w_as rfl) fun a hk => ?_
 refine c_end (x_t (wS (wS (wR ?_))))
 refine q_v hk (w_mv rfl) fun a hk => ?_
 refine q_v hk (w_lt rfl rfl (decide_eq_false (by decide))) fun a hk => ?_
 refine c_end (x_t ?_)
 refine c_F hk rfl ?_
 refine (wpIn_skip (x_t ?_))
 refine wS (wS (wR ?_))
 refine q_v hk (w_mv rfl) fun a hk => ?_
 refine q_v hk (w_mv rfl) fun a hk => ?_
 refine q_v hk (w_nilC rfl) fun a hk => ?_
 refine q_v hk (w_fa rfl fq154_0 ty42) fun a hk => ?_
 refine q_v hk (w_ld1 rfl ty42 (.blk (n := 1) (hs.mi 0 rfl) rfl)) fun a hk => ?_
 refine q_v hk (w_len rfl Tryz.underlying42) fun a hk => ?_
 refine q_v hk (w_gt rfl rfl (decide_eq_false (by omega))) fun a hk => ?_
 refine c_end (x_t ?_)
 refine c_F hk rfl ?_
 refine (wpIn_skip (x_t ?_))
 refine wS (wR ?_)
 refine q_v hk (w_mv rfl) fun a hk => ?_
 refine q_v hk (w_nilC rfl) fun a hk => ?_
 refine q_v hk (w_fa rfl fq154_0 ty42) fun a hk => ?_
 refine q_v hk (w_ld1 rfl ty42 (.blk (n := 1) (hs.mi 0 rfl) rfl)) fun a hk => ?_
 refine q_v hk (w_mv rfl) fun a hk => ?_
 refine q_v hk (w_slc_eq (w_slc (l := 0) (h := 64) rfl rfl rfl Tryz.underlying42 ty5 rfl rfl (by omega) (by omega) (by omega) (by omega) (by omega)) sla_zero (Nat.sub_zero _) (Nat.sub_zero _)) fun a hk => ?_
 refine q_v hk (w_as rfl) fun a hk => ?_
 refine c_end (x_t (wS (wR ?_)))
 refine q_v hk (w_mv rfl) fun a hk => ?_
 refine q_v hk (w_mv rfl) fun a hk => ?_
 refine q_v hk (w_nilC rfl) fun a hk => ?_
 refine q_v hk (w_fa rfl fq154_0 ty42) fun a hk => ?_
 refine q_v hk (w_ld1 rfl ty42 (.blk (n := 1) (hs.mi 0 rfl) rfl)) fun a hk => ?_
 refine q_v hk (w_mv rfl) fun a hk => ?_
 refine q_v hk (w_slc (l := 64) (h := rn) rfl rfl rfl Tryz.underlying42 ty5 rfl rfl (by omega) (by omega) (by omega) (by omega) (by omega)) fun a hk => ?_
 refine q_v hk (w_nilC rfl) fun a hk => ?_
 refine q_v hk (w_fa rfl fq154_0 ty42) fun a hk => ?_
 refine q_sto (o := 0) (cs := [.slice (sla ra rc 64 1) (rn - 64) (rc - 64)]) (vs' := [.slice (sla ra rc 64 1) (rn - 64) (rc - 64)]) hk hs rfl rfl rfl ty42 rfl rfl rfl rfl rfl rfl fun w hs => ?_
 refine c_end (x_t (wS (wR ?_)))
 refine q_v hk (w_mv rfl) fun a hk => ?_
 refine q_v hk (w_as rfl) fun a hk => ?_
 refine q_v hk (w_as rfl) fun a hk => ?_
 refine c_end (x_t ?_)
 refine (wpIn_ret ?_)
 refine c_ret2 hk rfl rfl rfl ?_
 refine ⟨sla ra rc 64 1, rc - 64, fun j => f (64 + j), rfl, (lst_drop (by omega) hcap).trans hR, fun j => hf _, ?_⟩
 exact hs
end Go.Proofs.YtdnkkbmpefhbjaaGreatDoor
namespace Go.Proofs.YtdnkkbmpefhbjaaGreatDoor
set_option linter.all false
open Go Go.RowKit Alg
def updz {s : Bool} (E : Nat → Zp s) (k : Nat) (z : Zp s) (j : Nat) : Zp s := if j = k then z else E j
theorem updz_row {s : Bool} {E : Nat → Zp s} {k : Nat} {z : Zp s} : en vq (fun j => zv (E j)) k ++ vq (zv z) = en vq (fun j => zv (updz E k z j)) (k + 1) := by
  have e : en vq (fun j => zv (updz E k z j)) k = en vq (fun j => zv (E j)) k := en_congr fun i hi => by unfold updz; rw [if_neg (by omega)]
  have e2 : en vq (fun j => zv (updz E k z j)) (k + 1) = en vq (fun j => zv (updz E k z j)) k ++ vq (zv (updz E k z k)) := en_succ.symm
  rw [e2, e]
  congr 2
  unfold updz
  rw [if_pos rfl]
theorem elements_m {F0 : Nat → Prop} {W : World} {M R : List Res} (s : Bool) (sb rn rc n : Nat) (ra : Option Addr) (f : Nat → Nat) (w0 : World) (hs : Sat F0 W ((blk sb [.slice ra rn rc] 154) :: M) R w0) (hR : HasR (lst 1 (.slice ra rn rc) rn (en bc f rn)) R) (hf : ∀ j, f j < 256) (h64 : 64 * n ≤ rn) (hr9 : rn ≤ 100000000) (hn9 : n ≤ 255) : Calls Tryz.prog 110 [.pointer (some ⟨sb, 0, none⟩), vec (pr s), .int .i64 ((n : Nat) : Int)].toArray w0 fun e w => ∃ a c ra2 rc2 f2, ∃ E : Nat → Zp s, e = .returned (.tuple #[.slice a n c, .int .i64 0]) ∧ HasR (lst 1 (.slice ra2 (rn - 64 * n) rc2) (rn - 64 * n) (en bc f2 (rn - 64 * n))) R ∧ (∀ j, f2 j < 256) ∧ Sat F0 W (row 47 4 (.slice a n c) n (en vq (fun j => zv (E j)) n) :: blk sb [.slice ra2 (rn - 64 * n) rc2] 154 :: M) R w := by
 have hcap : rn ≤ rc := by have h := hR.at_ hs; obtain ⟨_, _, he, hc, _⟩ := LstAt.at_ h; cases he; exact hc
 refine c_enter (args := [.pointer (some ⟨sb, 0, none⟩), vec (pr s), .int .i64 ((n : Nat) : Int)]) Tryz.func110 rfl rfl rfl fun a hk => ?_
 refine wS (wR ?_)
 refine q_box (vs := [.int .u64 ((dg 0 (pr s) : Nat) : Int), .int .u64 ((dg 1 (pr s) : Nat) : Int), .int .u64 ((dg 2 (pr s) : Nat) : Int), .int .u64 ((dg 3 (pr s) : Nat) : Int)]) hk hs rfl rfl rfl rfl fun b1 w a hk hs => ?_
 refine q_v hk (w_as rfl) fun a hk => ?_
 refine q_v hk (w_as rfl) fun a hk => ?_
 refine c_end (x_t (wS (wS (wR ?_))))
 refine q_v hk (w_mv rfl) fun a hk => ?_
 refine q_v hk (w_lt rfl rfl (decide_eq_false (by omega))) fun a hk => ?_
 refine c_end (x_t ?_)
 refine c_F hk rfl ?_
 refine (wpIn_skip (x_t ?_))
 refine wS (wS (wR ?_))
 refine q_v hk (w_mv rfl) fun a hk => ?_
 refine q_v hk (w_mv rfl) fun a hk => ?_
 refine q_v hk (w_nilC rfl) fun a hk => ?_
 refine q_v hk (w_fa rfl fq154_0 ty42) fun a hk => ?_
 refine q_v hk (w_ld1 rfl ty42 (.blk (n := 1) (hs.mi 1 rfl) rfl)) fun a hk => ?_
 refine q_v hk (w_len rfl Tryz.underlying42) fun a hk => ?_
 refine q_v hk (w_quo rfl rfl (by omega) (wdv64 (by omega) (by omega) (by omega))) fun a hk => ?_
 refine q_v hk (w_gt rfl rfl (decide_eq_false (by omega))) fun a hk => ?_
 refine c_end (x_t ?_)
 refine c_F hk rfl ?_
 refine (wpIn_skip (x_t ?_))
 refine wS (wR ?_)
 refine q_v hk (w_as rfl) fun a hk => ?_
 refine c_end (x_t (wS (wS (wR ?_))))
 refine q_v hk (w_as rfl) fun a hk => ?_
 refine c_end (x_t ?_)
 refine wpIn_block ?_
 have hs := hs.row0 47 4
 have hs := hs.rw0 (show _ = row 47 4 (.slice none 0 0) 0 (en vq (fun j => zv ((fun _ => 0 : Nat → Zp s) j)) 0) from rfl)
 refine c_loop (α := Nat) (fun k a w => ∃ (qa : Option Addr) (qn : Nat) (qc : Nat) (qf : Nat → Nat) (E : Nat → Zp s) (ao : Option Addr) (co : Nat), k ≤ n ∧ qn + 64 * k = rn ∧ HasR (lst 1 (.slice qa qn qc) qn (en bc qf qn)) R ∧ (∀ j, qf j < 256) ∧ Kn [] 45 [(9, .int .i64 ((k : Nat) : Int)), (8, .slice ao k co), (7, .int .i64 0), (6, .slice none 0 0), (4, .pointer (some ⟨b1, 0, none⟩)), (0, .pointer (some ⟨sb, 0, none⟩)), (2, .int .i64 ((n : Nat) : Int))] a ∧ Sat F0 W ((row 47 4 (.slice ao k co) k (en vq (fun i => zv (E i)) k)) :: (blk b1 [.int .u64 ((dg 0 (pr s) : Nat) : Int), .int .u64 ((dg 1 (pr s) : Nat) : Int), .int .u64 ((dg 2 (pr s) : Nat) : Int), .int .u64 ((dg 3 (pr s) : Nat) : Int)] 47) :: (blk sb [.slice qa qn qc] 154) :: M) R w) (fun k => n - k) 0 ?_ ?_
 · exact ⟨_, _, _, _, _, _, _, (by omega), (by omega), hR, hf, hk.k rfl (hk.k rfl (hk.k rfl (hk.k rfl (hk.k rfl (hk.k rfl (hk.k rfl hk.nil)))))), hs⟩
 rintro k a w ⟨qa, qn, qc, qf, E, ao, co, hf0, hf1, hf2, hf3, hk, hs⟩
 refine wS (wS (wR ?_))
 refine q_v hk (w_mv rfl) fun a hk => ?_
 refine q_v hk (w_mv rfl) fun a hk => ?_
 rcases Classical.em (((k : Nat) : Int) < ((n : Nat) : Int)) with hc2 | hc2
 ·
  refine q_v hk (w_lt rfl rfl (decide_eq_true hc2)) fun a hk => ?_
  refine c_end (x_t ?_)
  refine c_T hk rfl ?_
  refine (wpIn_skip (x_t ?_))
  refine wS ?_
  refine wpIn_block ?_
  refine wS (wR ?_)
  refine q_v hk (w_mv rfl) fun a hk => ?_
  have hs := hs.up2
  refine q_call (caps := []) hk rfl rfl Tryz.func139 fo139 rfl rfl (take_m sb qn qc qa qf _ hs hf2 hf3 (by omega) (by omega)) ?_
  rintro _ w ⟨a3, c4, qf2, rfl, hR2, hb2, hs⟩
  refine ⟨_, rfl, fun a hk => ?_⟩
  refine q_v hk (w_mv rfl) fun a hk => ?_
  refine q_v hk (w_ext rfl rfl) fun a hk => ?_
  refine q_v hk (w_ext rfl rfl) fun a hk => ?_
  refine q_v hk (w_as rfl) fun a hk => ?_
  refine q_v hk (w_as rfl) fun a hk => ?_
  refine c_end (x_t (wS (wR ?_)))
  refine q_v hk (w_ldv (z := pr s) rfl ty47 (.blk (n := 4) (hs.mi 2 rfl) rfl)) fun a hk => ?_
  refine q_v hk (w_mv rfl) fun a hk => ?_
  refine q_call (caps := []) hk rfl rfl Tryz.func140 fo140 rfl rfl (rwide_e (((lst_take (n := qn) rfl (by omega) (en_len bc_len) (en_take bc_len (by omega))).trans hf2).at_ hs) hf3) ?_
  rintro _ w ⟨z5, rfl, hb⟩
  have hs := hs.below hb
  refine ⟨_, rfl, fun a hk => ?_⟩
  refine q_v hk (w_mv rfl) fun a hk => ?_
  refine q_v hk (w_ext rfl rfl) fun a hk => ?_
  refine q_v hk (w_ext rfl rfl) fun a hk => ?_
  refine q_alc (vs := [.int .u64 0, .int .u64 0, .int .u64 0, .int .u64 0]) hk hs zr47 rfl rfl rfl fun b6 w a hk hs => ?_
  refine q_sto (o := 0) (cs := [.int .u64 ((dg 0 (zv z5) : Nat) : Int), .int .u64 ((dg 1 (zv z5) : Nat) : Int), .int .u64 ((dg 2 (zv z5) : Nat) : Int), .int .u64 ((dg 3 (zv z5) : Nat) : Int)]) (vs' := [.int .u64 ((dg 0 (zv z5) : Nat) : Int), .int .u64 ((dg 1 (zv z5) : Nat) : Int), .int .u64 ((dg 2 (zv z5) : Nat) : Int), .int .u64 ((dg 3 (zv z5) : Nat) : Int)]) hk hs rfl rfl rfl ty47 rfl rfl rfl rfl rfl rfl fun w hs => ?_
  refine q_v hk (w_as rfl) fun a hk => ?_
  refine c_end (x_t (wR ?_))
  refine q_v hk (w_mv rfl) fun a hk => ?_
  refine q_v hk (w_ldv (z := zv z5) rfl ty47 (.blk (n := 4) (hs.mi 0 rfl) rfl)) fun a hk => ?_
  refine q_bsl (els := [.tmp 41]) (cs := [.int .u64 ((dg 0 (zv z5) : Nat) : Int), .int .u64 ((dg 1 (zv z5) : Nat) : Int), .int .u64 ((dg 2 (zv z5) : Nat) : Int), .int .u64 ((dg 3 (zv z5) : Nat) : Int)]) hk hs rfl Tryz.underlying72 ty47 zr47 rfl rfl rfl rfl rfl rfl rfl fun b7 w a hk hs => ?_
  have hs := hs.up3
  refine q_app (news := [.int .u64 ((dg 0 (zv z5) : Nat) : Int), .int .u64 ((dg 1 (zv z5) : Nat) : Int), .int .u64 ((dg 2 (zv z5) : Nat) : Int), .int .u64 ((dg 3 (zv z5) : Nat) : Int)]) (m := 1) hk hs rfl rfl Tryz.underlying72 ty47 zr47 rfl rfl (.blk (n := 4) (hs.mi 1 rfl) rfl) rfl rfl (by omega) (by omega) rfl rfl fun a8 c9 w a hk hs => ?_
  have hs := hs.up1
  have hs := hs.drop
  refine q_v hk (w_as rfl) fun a hk => ?_
  refine (c_end (x_b (x_t ?_)))
  refine wR ?_
  refine q_v hk (w_mv rfl) fun a hk => ?_
  refine q_v hk (w_add rfl rfl (wr64 (by omega) (by omega))) fun a hk => ?_
  refine q_v hk (w_as rfl) fun a hk => ?_
  refine c_end (x_t ?_)
  have hs := hs.rw0 (congrArg (fun q => row 47 4 (.slice a8 (k + 1) c9) (k + 1) q) (updz_row (E := E) (k := k) (z := z5)))
  have hs := hs.up1
  have hs := hs.drop
  have hs := hs.up1
  have hs := hs.up2
  have hs := hs.up2
  exact ⟨k + 1, ⟨_, _, _, _, _, _, _, (by omega), (by omega), hR2, hb2, hk.k rfl (hk.k rfl (hk.k rfl (hk.k rfl (hk.k rfl (hk.k rfl (hk.k rfl hk.nil)))))), hs⟩, by omega⟩
 ·
  refine q_v hk (w_lt rfl rfl (decide_eq_false hc2)) fun a hk => ?_
  refine c_end (x_t ?_)
  refine c_F hk rfl ?_
  refine (wpIn_exit (x_te (x_te (x_be ?_))))
  refine (x_t ?_)
  refine wS (wR ?_)
  refine q_v hk (w_mv rfl) fun a hk => ?_
  refine q_v hk (w_as rfl) fun a hk => ?_
  refine q_v hk (w_as rfl) fun a hk => ?_
  refine c_end (x_t ?_)
  refine (wpIn_ret ?_)
  refine c_ret2 hk rfl rfl rfl ?_
  have hs := hs.up1
  have hs := hs.drop
  obtain rfl : k = n := by omega
  obtain rfl : qn = rn - 64 * k := by omega
  exact ⟨_, _, _, _, _, _, rfl, hf2, hf3, hs⟩
end Go.Proofs.YtdnkkbmpefhbjaaGreatDoor
namespace Go.Proofs.YtdnkkbmpefhbjaaGreatDoor
set_option linter.all false
open Go Go.RowKit Alg
end Go.Proofs.YtdnkkbmpefhbjaaGreatDoor
namespace Go.Proofs.YtdnkkbmpefhbjaaGreatDoor
set_option linter.all false
open Go Go.RowKit Alg
end Go.Proofs.YtdnkkbmpefhbjaaGreatDoor
namespace Go.Proofs.YtdnkkbmpefhbjaaGreatDoor
set_option linter.all false
open Go Go.RowKit Alg
def rEv {s : Bool} (c : Nat → Zp s) (x : Zp s) : Nat → Zp s
  | 0 => 0
  | k + 1 => rEv c x k + c k * pw x k
theorem reval_z (s : Bool) (n cc : Nat) (ca : Option Addr) (c : Nat → Zp s) (x : Zp s) (W : World) (HC : LstAt W 4 (.slice ca n cc) n (en vq (fun i => zv (c i)) n)) (hn : n ≤ 1000) : Calls Tryz.prog 92 [vec (pr s), .slice ca n cc, vec (zv x)].toArray W fun e w => e = .returned (vec (zv (rEv c x n))) ∧ Below W.heap.size W w := by
 refine c_enter (args := [vec (pr s), .slice ca n cc, vec (zv x)]) Tryz.func92 rfl rfl rfl fun a hk => ?_
 have hs := Sat.start W [lst 4 (.slice ca n cc) n (en vq (fun i => zv (c i)) n)] (okr1 HC)
 refine wS (wR ?_)
 refine q_box (vs := [.int .u64 ((dg 0 (pr s) : Nat) : Int), .int .u64 ((dg 1 (pr s) : Nat) : Int), .int .u64 ((dg 2 (pr s) : Nat) : Int), .int .u64 ((dg 3 (pr s) : Nat) : Int)]) hk hs rfl rfl rfl rfl fun b1 w a hk hs => ?_
 refine q_box (vs := [.int .u64 ((dg 0 (zv x) : Nat) : Int), .int .u64 ((dg 1 (zv x) : Nat) : Int), .int .u64 ((dg 2 (zv x) : Nat) : Int), .int .u64 ((dg 3 (zv x) : Nat) : Int)]) hk hs rfl rfl rfl rfl fun b2 w a hk hs => ?_
 refine q_alc (vs := [.int .u64 0, .int .u64 0, .int .u64 0, .int .u64 0]) hk hs zr47 rfl rfl rfl fun b3 w a hk hs => ?_
 refine c_end (x_t (wS (wR ?_)))
 refine q_alc (vs := [.int .u64 0, .int .u64 0, .int .u64 0, .int .u64 0]) hk hs zr47 rfl rfl rfl fun b4 w a hk hs => ?_
 refine c_end (x_t (wS (wR ?_)))
 refine q_call (caps := []) hk rfl rfl Tryz.func67 fo67 rfl rfl (rone_z (s := s) _) ?_
 rintro _ w ⟨rfl, hb⟩
 have hs := hs.below hb
 refine ⟨_, rfl, fun a hk => ?_⟩
 refine q_alc (vs := [.int .u64 0, .int .u64 0, .int .u64 0, .int .u64 0]) hk hs zr47 rfl rfl rfl fun b5 w a hk hs => ?_
 refine q_sto (o := 0) (cs := [.int .u64 ((dg 0 (zv (1 : Zp s)) : Nat) : Int), .int .u64 ((dg 1 (zv (1 : Zp s)) : Nat) : Int), .int .u64 ((dg 2 (zv (1 : Zp s)) : Nat) : Int), .int .u64 ((dg 3 (zv (1 : Zp s)) : Nat) : Int)]) (vs' := [.int .u64 ((dg 0 (zv (1 : Zp s)) : Nat) : Int), .int .u64 ((dg 1 (zv (1 : Zp s)) : Nat) : Int), .int .u64 ((dg 2 (zv (1 : Zp s)) : Nat) : Int), .int .u64 ((dg 3 (zv (1 : Zp s)) : Nat) : Int)]) hk hs rfl rfl rfl ty47 rfl rfl rfl rfl rfl rfl fun w hs => ?_
 refine c_end (x_t (wS (wS (wR ?_))))
 refine q_v hk (w_as rfl) fun a hk => ?_
 refine c_end (x_t ?_)
 refine wpIn_block ?_
 have hs := hs.up1
 have hs := hs.rw0 (show blk b4 [.int .u64 0, .int .u64 0, .int .u64 0, .int .u64 0] 47 = blk b4 [.int .u64 ((dg 0 0 : Nat) : Int), .int .u64 ((dg 1 0 : Nat) : Int), .int .u64 ((dg 2 0 : Nat) : Int), .int .u64 ((dg 3 0 : Nat) : Int)] 47 from rfl)
 have hs := hs.rw0 (show _ = blk b4 (vq (zv (rEv c x 0))) 47 from by show blk b4 (vq 0) 47 = blk b4 (vq (zv 0)) 47; rw [zv_zero])
 have hs := hs.up1
 have hs : Sat _ _ (blk b5 (vq (zv (pw x 0))) 47 :: _) _ _ := hs
 refine c_loop (α := Nat) (fun k a w => k ≤ n ∧ Kn [] 32 [(9, .int .i64 ((k : Nat) : Int)), (8, .pointer (some ⟨b5, 0, none⟩)), (7, .pointer (some ⟨b4, 0, none⟩)), (6, .pointer (some ⟨b3, 0, none⟩)), (5, .pointer (some ⟨b2, 0, none⟩)), (3, .pointer (some ⟨b1, 0, none⟩)), (1, .slice ca n cc)] a ∧ Sat no W [blk b5 [.int .u64 ((dg 0 (zv (pw x k)) : Nat) : Int), .int .u64 ((dg 1 (zv (pw x k)) : Nat) : Int), .int .u64 ((dg 2 (zv (pw x k)) : Nat) : Int), .int .u64 ((dg 3 (zv (pw x k)) : Nat) : Int)] 47, blk b4 [.int .u64 ((dg 0 (zv (rEv c x k)) : Nat) : Int), .int .u64 ((dg 1 (zv (rEv c x k)) : Nat) : Int), .int .u64 ((dg 2 (zv (rEv c x k)) : Nat) : Int), .int .u64 ((dg 3 (zv (rEv c x k)) : Nat) : Int)] 47, blk b3 [.int .u64 0, .int .u64 0, .int .u64 0, .int .u64 0] 47, blk b2 [.int .u64 ((dg 0 (zv x) : Nat) : Int), .int .u64 ((dg 1 (zv x) : Nat) : Int), .int .u64 ((dg 2 (zv x) : Nat) : Int), .int .u64 ((dg 3 (zv x) : Nat) : Int)] 47, blk b1 [.int .u64 ((dg 0 (pr s) : Nat) : Int), .int .u64 ((dg 1 (pr s) : Nat) : Int), .int .u64 ((dg 2 (pr s) : Nat) : Int), .int .u64 ((dg 3 (pr s) : Nat) : Int)] 47] [lst 4 (.slice ca n cc) n (en vq (fun i => zv (c i)) n)] w) (fun k => n - k) 0 ?_ ?_
 · exact ⟨(by omega), hk.k rfl (hk.k rfl (hk.k rfl (hk.k rfl (hk.k rfl (hk.k rfl (hk.k rfl hk.nil)))))), hs⟩
 rintro k a w ⟨hf0, hk, hs⟩
 refine wS (wS (wR ?_))
 refine q_v hk (w_mv rfl) fun a hk => ?_
 refine q_v hk (w_mv rfl) fun a hk => ?_
 refine q_v hk (w_len rfl Tryz.underlying72) fun a hk => ?_
 rcases Classical.em (((k : Nat) : Int) < ((n : Nat) : Int)) with hc6 | hc6
 ·
  refine q_v hk (w_lt rfl rfl (decide_eq_true hc6)) fun a hk => ?_
  refine c_end (x_t ?_)
  refine c_T hk rfl ?_
  refine (wpIn_skip (x_t ?_))
  refine wS ?_
  refine wpIn_block ?_
  refine wS ?_
  have hL := okL.cons (hs.mi 4 rfl) (okL.cons (hs.ri 0 rfl) (okL.cons (hs.mi 0 rfl) okL.nil))
  refine d_begin _ 11 (by kernel_rfl) rfl hs hL fun w hs hL => ?_
  refine d_join (n2 := 2) 511 (fun a w => Kn [] 32 [(25, vec (zv ((c k) * (pw x k)))), (18, vec (zv (rEv c x k))), (24, vec (zv (pw x k))), (23, vec (zv (c k))), (22, .pointer (some ((adq ca).add (k * 4)))), (21, .int .i64 ((k : Nat) : Int)), (20, .slice ca n cc), (19, vec (pr s)), (17, vec (pr s)), (14, .bool true), (13, .int .i64 ((n : Nat) : Int)), (12, .slice ca n cc), (11, .int .i64 ((k : Nat) : Int)), (9, .int .i64 ((k : Nat) : Int)), (8, .pointer (some ⟨b5, 0, none⟩)), (7, .pointer (some ⟨b4, 0, none⟩)), (6, .pointer (some ⟨b3, 0, none⟩)), (5, .pointer (some ⟨b2, 0, none⟩)), (3, .pointer (some ⟨b1, 0, none⟩)), (1, .slice ca n cc)] a ∧ Sat no W [blk b5 [.int .u64 ((dg 0 (zv (pw x k)) : Nat) : Int), .int .u64 ((dg 1 (zv (pw x k)) : Nat) : Int), .int .u64 ((dg 2 (zv (pw x k)) : Nat) : Int), .int .u64 ((dg 3 (zv (pw x k)) : Nat) : Int)] 47, blk b4 [.int .u64 ((dg 0 (zv (rEv c x k)) : Nat) : Int), .int .u64 ((dg 1 (zv (rEv c x k)) : Nat) : Int), .int .u64 ((dg 2 (zv (rEv c x k)) : Nat) : Int), .int .u64 ((dg 3 (zv (rEv c x k)) : Nat) : Int)] 47, blk b3 [.int .u64 0, .int .u64 0, .int .u64 0, .int .u64 0] 47, blk b2 [.int .u64 ((dg 0 (zv x) : Nat) : Int), .int .u64 ((dg 1 (zv x) : Nat) : Int), .int .u64 ((dg 2 (zv x) : Nat) : Int), .int .u64 ((dg 3 (zv x) : Nat) : Int)] 47, blk b1 [.int .u64 ((dg 0 (pr s) : Nat) : Int), .int .u64 ((dg 1 (pr s) : Nat) : Int), .int .u64 ((dg 2 (pr s) : Nat) : Int), .int .u64 ((dg 3 (pr s) : Nat) : Int)] 47] [lst 4 (.slice ca n cc) n (en vq (fun i => zv (c i)) n)] w ∧ okL [blk b1 [.int .u64 ((dg 0 (pr s) : Nat) : Int), .int .u64 ((dg 1 (pr s) : Nat) : Int), .int .u64 ((dg 2 (pr s) : Nat) : Int), .int .u64 ((dg 3 (pr s) : Nat) : Int)] 47, lst 4 (.slice ca n cc) n (en vq (fun i => zv (c i)) n), blk b5 [.int .u64 ((dg 0 (zv (pw x k)) : Nat) : Int), .int .u64 ((dg 1 (zv (pw x k)) : Nat) : Int), .int .u64 ((dg 2 (zv (pw x k)) : Nat) : Int), .int .u64 ((dg 3 (zv (pw x k)) : Nat) : Int)] 47] w) ?_ ?_
  ·
   intro hJ511
   refine d_w 0 1 hk hL rfl (fun w hL => w_ldv (z := pr s) rfl ty47 (.blk (n := 4) (hL.at 0 rfl) rfl)) fun a hk => ?_
   refine d_w 2 5 hk hL rfl (fun w hL => w_ldv (z := pr s) rfl ty47 (.blk (n := 4) (hL.at 0 rfl) rfl)) fun a hk => ?_
   refine d_w 3 13 hk hL rfl (fun w hL => w_mv rfl) fun a hk => ?_
   refine d_w 4 29 hk hL rfl (fun w hL => w_mv rfl) fun a hk => ?_
   refine d_w 5 61 hk hL rfl (fun w hL => w_iaL (k := k) rfl rfl Tryz.underlying72 ty47 (hL.at 1 rfl) (by omega) (by omega)) fun a hk => ?_
   refine d_w 6 125 hk hL rfl (fun w hL => w_ldv (z := zv (c k)) rfl ty47 (lstq (k := k) (hL.at 1 rfl) (by omega) (en_chunk vq_len (by omega)))) fun a hk => ?_
   refine d_w 7 253 hk hL rfl (fun w hL => w_ldv (z := zv (pw x k)) rfl ty47 (.blk (n := 4) (hL.at 2 rfl) rfl)) fun a hk => ?_
   refine d_2 1 8 255 509 rfl rfl (by kernel_rfl) (fun K hK => ?_) (fun K hK => ?_)
   ·
    refine q_v hk (w_ldv (z := zv (rEv c x k)) rfl ty47 (.blk (n := 4) (hs.mi 1 rfl) rfl)) fun a hk => ?_
    have hL := okL.cons (hs.mi 4 rfl) (okL.cons (hs.ri 0 rfl) (okL.cons (hs.mi 0 rfl) okL.nil))
    refine c_end (x_t (hK _ _ hL ?_))
    clear hK K
    refine d_1 8 511 rfl (by kernel_rfl) fun K hK => ?_
    refine q_call (caps := []) hk rfl rfl Tryz.func66 fo66 rfl rfl (rmul_z (x := (c k)) (y := (pw x k)) _ rfl rfl) ?_
    rintro _ w ⟨rfl, hb⟩
    have hs := hs.below hb
    refine ⟨_, rfl, fun a hk => ?_⟩
    have hL := okL.cons (hs.mi 4 rfl) (okL.cons (hs.ri 0 rfl) (okL.cons (hs.mi 0 rfl) okL.nil))
    refine c_end (x_t (hK _ _ hL ?_))
    clear hK K
    have hL := okL.cons (hs.mi 4 rfl) (okL.cons (hs.ri 0 rfl) (okL.cons (hs.mi 0 rfl) okL.nil))
    exact hJ511 _ _ ⟨hk.k rfl (hk.k rfl (hk.k rfl (hk.k rfl (hk.k rfl (hk.k rfl (hk.k rfl (hk.k rfl (hk.k rfl (hk.k rfl (hk.k rfl (hk.k rfl (hk.k rfl (hk.k rfl (hk.k rfl (hk.k rfl (hk.k rfl (hk.k rfl (hk.k rfl (hk.k rfl hk.nil))))))))))))))))))), hs, hL⟩
   ·
    refine q_call (caps := []) hk rfl rfl Tryz.func66 fo66 rfl rfl (rmul_z (x := (c k)) (y := (pw x k)) _ rfl rfl) ?_
    rintro _ w ⟨rfl, hb⟩
    have hs := hs.below hb
    refine ⟨_, rfl, fun a hk => ?_⟩
    have hL := okL.cons (hs.mi 4 rfl) (okL.cons (hs.ri 0 rfl) (okL.cons (hs.mi 0 rfl) okL.nil))
    refine c_end (x_t (hK _ _ hL ?_))
    clear hK K
    refine d_1 1 511 rfl (by kernel_rfl) fun K hK => ?_
    refine q_v hk (w_ldv (z := zv (rEv c x k)) rfl ty47 (.blk (n := 4) (hs.mi 1 rfl) rfl)) fun a hk => ?_
    have hL := okL.cons (hs.mi 4 rfl) (okL.cons (hs.ri 0 rfl) (okL.cons (hs.mi 0 rfl) okL.nil))
    refine c_end (x_t (hK _ _ hL ?_))
    clear hK K
    have hL := okL.cons (hs.mi 4 rfl) (okL.cons (hs.ri 0 rfl) (okL.cons (hs.mi 0 rfl) okL.nil))
    exact hJ511 _ _ ⟨hk.k rfl (hk.k rfl (hk.k rfl (hk.k rfl (hk.k rfl (hk.k rfl (hk.k rfl (hk.k rfl (hk.k rfl (hk.k rfl (hk.k rfl (hk.k rfl (hk.k rfl (hk.k rfl (hk.k rfl (hk.k rfl (hk.k rfl (hk.k rfl (hk.k rfl (hk.k rfl hk.nil))))))))))))))))))), hs, hL⟩
  ·
   rintro a w ⟨hk, hs, hL⟩
   refine d_1 9 1023 rfl (by kernel_rfl) fun K hK => ?_
   refine q_call (caps := []) hk rfl rfl Tryz.func30 fo30 rfl rfl (radd_z (x := (rEv c x k)) (y := ((c k) * (pw x k))) _ rfl rfl) ?_
   rintro _ w ⟨rfl, hb⟩
   have hs := hs.below hb
   refine ⟨_, rfl, fun a hk => ?_⟩
   have hL := okL.cons (hs.mi 4 rfl) (okL.cons (hs.ri 0 rfl) (okL.cons (hs.mi 0 rfl) okL.nil))
   refine c_end (x_t (hK _ _ hL ?_))
   clear hK K
   refine d_1 10 2047 rfl (by kernel_rfl) fun K hK => ?_
   have hs := hs.up1
   refine q_sto (o := 0) (cs := [.int .u64 ((dg 0 (zv ((rEv c x k) + ((c k) * (pw x k)))) : Nat) : Int), .int .u64 ((dg 1 (zv ((rEv c x k) + ((c k) * (pw x k)))) : Nat) : Int), .int .u64 ((dg 2 (zv ((rEv c x k) + ((c k) * (pw x k)))) : Nat) : Int), .int .u64 ((dg 3 (zv ((rEv c x k) + ((c k) * (pw x k)))) : Nat) : Int)]) (vs' := [.int .u64 ((dg 0 (zv ((rEv c x k) + ((c k) * (pw x k)))) : Nat) : Int), .int .u64 ((dg 1 (zv ((rEv c x k) + ((c k) * (pw x k)))) : Nat) : Int), .int .u64 ((dg 2 (zv ((rEv c x k) + ((c k) * (pw x k)))) : Nat) : Int), .int .u64 ((dg 3 (zv ((rEv c x k) + ((c k) * (pw x k)))) : Nat) : Int)]) hk hs rfl rfl rfl ty47 rfl rfl rfl rfl rfl rfl fun w hs => ?_
   have hL := okL.cons (hs.mi 4 rfl) (okL.cons (hs.ri 0 rfl) (okL.cons (hs.mi 1 rfl) okL.nil))
   refine c_end (x_t (hK _ _ hL ?_))
   clear hK K
   refine d_end (by kernel_rfl) ?_
   refine (x_t ?_)
   refine wR ?_
   refine q_v hk (w_ldv (z := pr s) rfl ty47 (.blk (n := 4) (hs.mi 4 rfl) rfl)) fun a hk => ?_
   refine q_v hk (w_ldv (z := zv (pw x k)) rfl ty47 (.blk (n := 4) (hs.mi 1 rfl) rfl)) fun a hk => ?_
   refine q_v hk (w_ldv (z := zv x) rfl ty47 (.blk (n := 4) (hs.mi 3 rfl) rfl)) fun a hk => ?_
   refine q_call (caps := []) hk rfl rfl Tryz.func66 fo66 rfl rfl (rmul_z (x := (pw x k)) (y := x) _ rfl rfl) ?_
   rintro _ w ⟨rfl, hb⟩
   have hs := hs.below hb
   refine ⟨_, rfl, fun a hk => ?_⟩
   have hs := hs.up1
   refine q_sto (o := 0) (cs := [.int .u64 ((dg 0 (zv ((pw x k) * x)) : Nat) : Int), .int .u64 ((dg 1 (zv ((pw x k) * x)) : Nat) : Int), .int .u64 ((dg 2 (zv ((pw x k) * x)) : Nat) : Int), .int .u64 ((dg 3 (zv ((pw x k) * x)) : Nat) : Int)]) (vs' := [.int .u64 ((dg 0 (zv ((pw x k) * x)) : Nat) : Int), .int .u64 ((dg 1 (zv ((pw x k) * x)) : Nat) : Int), .int .u64 ((dg 2 (zv ((pw x k) * x)) : Nat) : Int), .int .u64 ((dg 3 (zv ((pw x k) * x)) : Nat) : Int)]) hk hs rfl rfl rfl ty47 rfl rfl rfl rfl rfl rfl fun w hs => ?_
   refine (c_end (x_b (x_t ?_)))
   refine wR ?_
   refine q_v hk (w_mv rfl) fun a hk => ?_
   refine q_v hk (w_add rfl rfl (wr64 (by omega) (by omega))) fun a hk => ?_
   refine q_v hk (w_as rfl) fun a hk => ?_
   refine c_end (x_t ?_)
   exact ⟨k + 1, ⟨(by omega), hk.k rfl (hk.k rfl (hk.k rfl (hk.k rfl (hk.k rfl (hk.k rfl (hk.k rfl hk.nil)))))), hs⟩, by omega⟩
 ·
  refine q_v hk (w_lt rfl rfl (decide_eq_false hc6)) fun a hk => ?_
  refine c_end (x_t ?_)
  refine c_F hk rfl ?_
  refine (wpIn_exit (x_te (x_te (x_be ?_))))
  refine (x_t ?_)
  refine wS (wR ?_)
  refine q_v hk (w_ldv (z := zv (rEv c x k)) rfl ty47 (.blk (n := 4) (hs.mi 1 rfl) rfl)) fun a hk => ?_
  have hs := hs.up2
  refine q_sto (o := 0) (cs := [.int .u64 ((dg 0 (zv (rEv c x k)) : Nat) : Int), .int .u64 ((dg 1 (zv (rEv c x k)) : Nat) : Int), .int .u64 ((dg 2 (zv (rEv c x k)) : Nat) : Int), .int .u64 ((dg 3 (zv (rEv c x k)) : Nat) : Int)]) (vs' := [.int .u64 ((dg 0 (zv (rEv c x k)) : Nat) : Int), .int .u64 ((dg 1 (zv (rEv c x k)) : Nat) : Int), .int .u64 ((dg 2 (zv (rEv c x k)) : Nat) : Int), .int .u64 ((dg 3 (zv (rEv c x k)) : Nat) : Int)]) hk hs rfl rfl rfl ty47 rfl rfl rfl rfl rfl rfl fun w hs => ?_
  refine c_end (x_t ?_)
  refine (wpIn_ret ?_)
  refine c_retG (vs := [vec (zv (rEv c x k))]) hk rfl ⟨⟨_, rfl, lv_A ty47 (.blk (n := 4) (hs.mi 0 rfl) rfl) rfl⟩, trivial⟩ rfl ?_
  have hkn : k = n := by omega
  exact ⟨by rw [← hkn]; rfl, hs.toBelow⟩
end Go.Proofs.YtdnkkbmpefhbjaaGreatDoor
namespace Go.Proofs.YtdnkkbmpefhbjaaGreatDoor
set_option linter.all false
open Go Go.RowKit Alg
theorem zn_small {s : Bool} {k : Nat} (h : k ≤ 255) : zv (zn s k) = k := by
  show k % pr s = k
  exact Nat.mod_eq_of_lt (Nat.lt_of_le_of_lt h (by cases s <;> decide))
theorem rpoint_c (k : Nat) (W : World) (hk : k ≤ 255) : Calls Tryz.prog 93 [.int .i64 ((k : Nat) : Int)].toArray W fun e w => e = .returned (vec k) ∧ Below W.heap.size W w := by
 refine c_enter (args := [.int .i64 ((k : Nat) : Int)]) Tryz.func93 rfl rfl rfl fun a hk => ?_
 have hs := Sat.start W [] (fun _ h => by cases h)
 refine wS (wR ?_)
 refine q_alc (vs := [.int .u64 0, .int .u64 0, .int .u64 0, .int .u64 0]) hk hs zr47 rfl rfl rfl fun b1 w a hk hs => ?_
 refine c_end (x_t (wS (wR ?_)))
 refine q_v hk (w_mv rfl) fun a hk => ?_
 refine q_v hk (w_conv rfl Tryz.underlying3 Tryz.underlying46 (wru64 (by omega) (by omega))) fun a hk => ?_
 refine q_v hk (w_bldv1 (k := k) rfl (by omega) (by unfold Go.Proofs.YtdnkkbmpefhbjaaGreatDoor.W; omega) Tryz.underlying47 ty46 zr47) fun a hk => ?_
 refine q_sto (o := 0) (cs := [.int .u64 ((dg 0 k : Nat) : Int), .int .u64 ((dg 1 k : Nat) : Int), .int .u64 ((dg 2 k : Nat) : Int), .int .u64 ((dg 3 k : Nat) : Int)]) (vs' := [.int .u64 ((dg 0 k : Nat) : Int), .int .u64 ((dg 1 k : Nat) : Int), .int .u64 ((dg 2 k : Nat) : Int), .int .u64 ((dg 3 k : Nat) : Int)]) hk hs rfl rfl rfl ty47 rfl rfl rfl rfl rfl rfl fun w hs => ?_
 refine c_end (x_t ?_)
 refine (wpIn_ret ?_)
 refine c_retG (vs := [vec k]) hk rfl ⟨⟨_, rfl, lv_A ty47 (.blk (n := 4) (hs.mi 0 rfl) rfl) rfl⟩, trivial⟩ rfl ?_
 exact ⟨rfl, hs.toBelow⟩
theorem rpoint_z (s : Bool) (k : Nat) (w : World) (hk : k ≤ 255) : Calls Tryz.prog 93 #[.int .i64 ((k : Nat) : Int)] w fun e w' => e = .returned (vec (zv (zn s k))) ∧ Below w.heap.size w w' := by
  rw [zn_small hk]
  exact rpoint_c k w hk
end Go.Proofs.YtdnkkbmpefhbjaaGreatDoor
namespace Go.Proofs.YtdnkkbmpefhbjaaGreatDoor
set_option linter.all false
open Go Go.RowKit Alg
def rln (u k : Nat) : Nat := if u < k then k else k + 1
/-- The polynomial of one point, after k factors. -/
def rcf {s : Bool} (x y : Nat → Zp s) (n u : Nat) : Nat → Nat → Zp s
  | 0 => fun _ => zinv (wr x u n) * y u
  | k + 1 => if k = u then rcf x y n u k else mall (rcf x y n u k) (lin (x k)) 2 (rln u k)
/-- Their sum. -/
def rip {s : Bool} (x y : Nat → Zp s) (n : Nat) : Nat → Nat → Zp s
  | 0 => fun _ => 0
  | u + 1 => fun i => rip x y n u i + rcf x y n u n i
end Go.Proofs.YtdnkkbmpefhbjaaGreatDoor
namespace Go.Proofs.YtdnkkbmpefhbjaaGreatDoor
set_option linter.all false
open Go Go.RowKit Alg
end Go.Proofs.YtdnkkbmpefhbjaaGreatDoor
namespace Go.Proofs.YtdnkkbmpefhbjaaGreatDoor
set_option linter.all false
open Go Go.RowKit Alg
theorem rmodulus_z {v : Int} {s : Bool} (h : v = fid s) (w : World) : Calls Tryz.prog 28 #[.int .i64 v] w fun e w' => e = .returned (vec (pr s)) ∧ Below w.heap.size w w' := by subst h; exact refModulus_c s w
theorem allB_F {f : Nat → Bool} {k n : Nat} (h : f k = false) (hk : k < n) : allB f n = false := by
  cases e : allB f n with
  | false => rfl
  | true => rw [(allB_iff f n).1 e k hk] at h; cases h
end Go.Proofs.YtdnkkbmpefhbjaaGreatDoor
namespace Go.Proofs.YtdnkkbmpefhbjaaGreatDoor
set_option linter.all false
open Go Go.RowKit Alg
end Go.Proofs.YtdnkkbmpefhbjaaGreatDoor
namespace Go.Proofs.YtdnkkbmpefhbjaaGreatDoor
set_option linter.all false
open Go Go.RowKit Alg
section
variable {s : Bool}
/-- The sum of the c k * f k below n. -/
def Sg (c f : Nat → Zp s) : Nat → Zp s
  | 0 => 0
  | k + 1 => Sg c f k + c k * f k
theorem Sg_ev (c : Nat → Zp s) (z : Zp s) : ∀ n, rEv c z n = Sg c (pw z) n
  | 0 => rfl
  | n + 1 => by show rEv c z n + _ = Sg c (pw z) n + _; rw [Sg_ev c z n]
theorem Sg_congr {c d f : Nat → Zp s} : ∀ {n : Nat}, (∀ k, k < n → c k = d k) → Sg c f n = Sg d f n
  | 0, _ => rfl
  | n + 1, h => by show Sg c f n + _ = Sg d f n + _; rw [Sg_congr fun k hk => h k (by omega), h n (by omega)]
theorem Sg_zero {c f : Nat → Zp s} : ∀ {n : Nat}, (∀ k, k < n → c k = 0) → Sg c f n = 0
  | 0, _ => rfl
  | n + 1, h => by show Sg c f n + c n * f n = 0; rw [Sg_zero fun k hk => h k (by omega), h n (by omega)]; grind
theorem Sg_add (c d f : Nat → Zp s) (e : Zp s) : ∀ n, Sg (fun k => c k + e * d k) f n = Sg c f n + e * Sg d f n
  | 0 => by show (0 : Zp s) = 0 + e * 0; grind
  | n + 1 => by show Sg _ f n + (c n + e * d n) * f n = Sg c f n + c n * f n + e * (Sg d f n + d n * f n); rw [Sg_add c d f e n]; grind
theorem Sg_upd (g f : Nat → Zp s) (e : Zp s) (i : Nat) : ∀ n, Sg (fun j => if j = i then g j + e else g j) f n = Sg g f n + if i < n then e * f i else 0
  | 0 => by rw [if_neg (Nat.not_lt_zero i)]; show (0 : Zp s) = 0 + 0; grind
  | n + 1 => by
    show Sg _ f n + (if n = i then g n + e else g n) * f n = Sg g f n + g n * f n + _
    rw [Sg_upd g f e i n]
    by_cases h : n = i
    · subst h; rw [if_neg (Nat.lt_irrefl _), if_pos rfl, if_pos (Nat.lt_succ_self _)]; grind
    · rw [if_neg h]
      by_cases l : i < n
      · rw [if_pos l, if_pos (by omega)]; grind
      · rw [if_neg l, if_neg (by omega)]; grind
/-- A product with X - b. -/
theorem Sg_lin (c f : Nat → Zp s) (b : Zp s) (N : Nat) : ∀ n, n + 1 ≤ N → Sg (mall c (lin b) 2 n) f N = Sg c (fun k => f (k + 1) - b * f k) n
  | 0, _ => Sg_zero fun _ _ => rfl
  | n + 1, h => by
    have ih := Sg_lin c f b N n (by omega)
    show Sg (fun j => if j = n + 1 then (if j = n then mall c (lin b) 2 n j + c n * lin b 0 else mall c (lin b) 2 n j) + c n * lin b 1 else (if j = n then mall c (lin b) 2 n j + c n * lin b 0 else mall c (lin b) 2 n j)) f N = Sg c _ n + c n * (f (n + 1) - b * f n)
    rw [Sg_upd (fun j => if j = n then mall c (lin b) 2 n j + c n * lin b 0 else mall c (lin b) 2 n j), Sg_upd (mall c (lin b) 2 n), if_pos (by omega), if_pos (by omega), ih]
    show _ + c n * (0 - b) * f n + c n * 1 * f (n + 1) = _
    grind
theorem Sg_pw (c : Nat → Zp s) (z b : Zp s) : ∀ n, Sg c (fun k => pw z (k + 1) - b * pw z k) n = (z - b) * Sg c (pw z) n
  | 0 => by show (0 : Zp s) = (z - b) * 0; grind
  | n + 1 => by
    show Sg c _ n + c n * (pw z n * z - b * pw z n) = (z - b) * (Sg c (pw z) n + c n * pw z n)
    rw [Sg_pw c z b n]; grind
/-- (z^k - a^k) / (z - a). -/
def psi (a z : Zp s) : Nat → Zp s
  | 0 => 0
  | k + 1 => psi a z k * a + pw z k
theorem Sg_dp (c : Nat → Zp s) (z b : Zp s) : ∀ n, Sg c (fun k => psi z z (k + 1) - b * psi z z k) n = (z - b) * Sg c (psi z z) n + Sg c (pw z) n
  | 0 => by show (0 : Zp s) = (z - b) * 0 + 0; grind
  | n + 1 => by
    show Sg c _ n + c n * (psi z z n * z + pw z n - b * psi z z n) = (z - b) * (Sg c (psi z z) n + c n * psi z z n) + (Sg c (pw z) n + c n * pw z n)
    rw [Sg_dp c z b n]; grind
theorem psi_eq (a z : Zp s) : ∀ k, (z - a) * psi a z k = pw z k - pw a k
  | 0 => by show (z - a) * 0 = 1 - 1; grind
  | k + 1 => by
    have ih := psi_eq a z k
    show (z - a) * (psi a z k * a + pw z k) = pw z k * z - pw a k * a
    grind
theorem Sg_psi (c : Nat → Zp s) (a z : Zp s) : ∀ n, (z - a) * Sg c (psi a z) n = Sg c (pw z) n - Sg c (pw a) n
  | 0 => by show (z - a) * 0 = (0 : Zp s) - 0; grind
  | n + 1 => by
    have ih := Sg_psi c a z n
    have h := psi_eq a z n
    show (z - a) * (Sg c (psi a z) n + c n * psi a z n) = Sg c (pw z) n + c n * pw z n - (Sg c (pw a) n + c n * pw a n)
    grind
/-- Horner's partial values are the coefficients of the quotient. -/
theorem Hn_part (c : Nat → Zp s) (a z : Zp s) (n : Nat) : ∀ j, j ≤ n + 1 → Sg c (psi a z) (n + 1) - Sg c (psi a z) (n + 1 - j) = Sg (fun k => Hn c (n + 1) a (n - k)) (pw z) (n + 1) - Sg (fun k => Hn c (n + 1) a (n - k)) (pw z) (n + 1 - j) + Hn c (n + 1) a j * psi a z (n + 1 - j)
  | 0, _ => by show Sg c _ (n + 1) - Sg c _ (n + 1) = Sg _ _ (n + 1) - Sg _ _ (n + 1) + 0 * _; grind
  | j + 1, h => by
    have ih := Hn_part c a z n j (by omega)
    obtain ⟨m, hm⟩ : ∃ m, n = m + j := ⟨n - j, by omega⟩
    rw [show n + 1 - j = m + 1 by omega] at ih
    rw [show n + 1 - (j + 1) = m by omega]
    have e1 : Sg c (psi a z) (m + 1) = Sg c (psi a z) m + c m * psi a z m := rfl
    have e2 : Sg (fun k => Hn c (n + 1) a (n - k)) (pw z) (m + 1) = Sg (fun k => Hn c (n + 1) a (n - k)) (pw z) m + Hn c (n + 1) a j * pw z m := by
      show _ + Hn c (n + 1) a (n - m) * _ = _
      rw [show n - m = j by omega]
    have e3 : Hn c (n + 1) a (j + 1) = Hn c (n + 1) a j * a + c m := by
      show _ + c (n + 1 - 1 - j) = _
      rw [show n + 1 - 1 - j = m by omega]
    have e4 : psi a z (m + 1) = psi a z m * a + pw z m := rfl
    rw [e1, e2, e4] at ih
    rw [e3]
    generalize Sg c (psi a z) (n + 1) = A1 at *
    generalize Sg c (psi a z) m = A2 at *
    generalize Sg (fun k => Hn c (n + 1) a (n - k)) (pw z) (n + 1) = A3 at *
    generalize Sg (fun k => Hn c (n + 1) a (n - k)) (pw z) m = A4 at *
    grind
theorem Hn_quo (c : Nat → Zp s) (a z : Zp s) (n : Nat) : Sg (fun k => Hn c (n + 1) a (n - k)) (pw z) n = Sg c (psi a z) (n + 1) := by
  have h := Hn_part c a z n (n + 1) (Nat.le_refl _)
  rw [Nat.sub_self] at h
  have e : Sg (fun k => Hn c (n + 1) a (n - k)) (pw z) (n + 1) = Sg (fun k => Hn c (n + 1) a (n - k)) (pw z) n + 0 * pw z n := by
    show _ + Hn c (n + 1) a (n - n) * _ = _
    rw [Nat.sub_self]; rfl
  rw [e] at h
  have h0 : Sg c (psi a z) 0 = 0 := rfl
  have h1 : Sg (fun k => Hn c (n + 1) a (n - k)) (pw z) 0 = 0 := rfl
  have h2 : psi a z 0 = 0 := rfl
  rw [h0, h1, h2] at h
  grind
/-- Horner's last value is the value. -/
theorem Hn_top (c : Nat → Zp s) (z : Zp s) (n : Nat) : ∀ j, j ≤ n → Sg c (pw z) n = Sg c (pw z) (n - j) + Hn c n z j * pw z (n - j)
  | 0, _ => by show _ = _ + 0 * _; grind
  | j + 1, h => by
    have ih := Hn_top c z n j (by omega)
    obtain ⟨m, hm⟩ : ∃ m, n = m + (j + 1) := ⟨n - (j + 1), by omega⟩
    rw [show n - j = m + 1 by omega] at ih
    rw [show n - (j + 1) = m by omega, ih]
    show Sg c (pw z) m + c m * pw z m + Hn c n z j * (pw z m * z) = Sg c (pw z) m + (Hn c n z j * z + c (n - 1 - j)) * pw z m
    rw [show n - 1 - j = m by omega]
    grind
theorem Hn_ev (c : Nat → Zp s) (z : Zp s) (n : Nat) : Hn c n z n = Sg c (pw z) n := by
  have h := Hn_top c z n n (Nat.le_refl _)
  rw [Nat.sub_self] at h
  have e : Sg c (pw z) 0 = 0 := rfl
  have e2 : pw z 0 = 1 := rfl
  rw [e, e2] at h
  grind
/-! The product of the X - x i. -/
def Pd (x : Nat → Zp s) (z : Zp s) : Nat → Zp s
  | 0 => 1
  | k + 1 => (z - x k) * Pd x z k
theorem mst_ev (x : Nat → Zp s) (z : Zp s) : ∀ k, Sg (mst x k) (pw z) (k + 1) = Pd x z k
  | 0 => by show (0 : Zp s) + 1 * 1 = 1; grind
  | k + 1 => by
    show Sg (mall (mst x k) (lin (x k)) 2 (k + 1)) (pw z) (k + 2) = _
    rw [Sg_lin _ _ _ _ _ (Nat.le_refl _), Sg_pw, mst_ev x z k]; rfl
theorem mst_d (x : Nat → Zp s) (z : Zp s) (k : Nat) : Sg (mst x (k + 1)) (psi z z) (k + 2) = (z - x k) * Sg (mst x k) (psi z z) (k + 1) + Pd x z k := by
  show Sg (mall (mst x k) (lin (x k)) 2 (k + 1)) (psi z z) (k + 2) = _
  rw [Sg_lin _ _ _ _ _ (Nat.le_refl _), Sg_dp, mst_ev]
theorem Pd_zero (x : Nat → Zp s) (u : Nat) : ∀ k, u < k → Pd x (x u) k = 0
  | k + 1, h => by
    show (x u - x k) * Pd x (x u) k = 0
    by_cases e : u = k
    · subst e; grind
    · rw [Pd_zero x u k (by omega)]; grind
theorem Pd_wr (x : Nat → Zp s) (u : Nat) : ∀ k, k ≤ u → Pd x (x u) k = wr x u k
  | 0, _ => rfl
  | k + 1, h => by
    show (x u - x k) * Pd x (x u) k = if k = u then _ else wr x u k * (x u - x k)
    rw [if_neg (by omega), Pd_wr x u k (by omega)]; grind
theorem mst_wr (x : Nat → Zp s) (u : Nat) : ∀ k, u < k → Sg (mst x k) (psi (x u) (x u)) (k + 1) = wr x u k
  | k + 1, h => by
    rw [mst_d]
    show _ = if k = u then wr x u k else wr x u k * (x u - x k)
    by_cases e : k = u
    · subst e; rw [if_pos rfl, Pd_wr x k k (Nat.le_refl _)]; grind
    · rw [if_neg e, mst_wr x u k (by omega), Pd_zero x u k (by omega)]; grind
/-! Elements of which the power p - 1 is one. -/
def Fm (d : Zp s) : Prop := pw d (pr s - 1) = 1
theorem pr_ge (s : Bool) : 2 ≤ pr s := by cases s <;> decide
theorem Fm.one : Fm (1 : Zp s) := pw_of_one _
theorem Fm.mul {d e : Zp s} (h : Fm d) (k : Fm e) : Fm (d * e) := by unfold Fm at *; rw [pw_prod, h, k]; grind
theorem Fm.inv {d : Zp s} (h : Fm d) : zinv d * d = 1 := by
  have e : pr s - 1 = pr s - 2 + 1 := by have := pr_ge s; omega
  unfold Fm at h
  rw [e] at h
  exact h
theorem Fm.un {d : Zp s} (h : Fm d) : Un d := ⟨_, h.inv⟩
theorem one_ne (s : Bool) : (1 : Zp s) ≠ 0 := fun h => by have := congrArg Fin.val h; rw [one_val, Fin.val_zero] at this; omega
theorem Fm.ne {d : Zp s} (h : Fm d) : d ≠ 0 := fun e => by have h1 := h.inv; rw [e] at h1; exact one_ne s (by grind)
theorem pw_sq (d : Zp s) (n : Nat) : pw d (2 * n) = pw (d * d) n := by
  rw [← pw_pw]
  congr 1
  show 1 * d * d = d * d
  grind
theorem Fm.neg {d : Zp s} (h : Fm d) : Fm (0 - d) := by
  have e : pr s - 1 = 2 * ((pr s - 1) / 2) := by cases s <;> decide
  unfold Fm at *
  rw [e, pw_sq] at h ⊢
  rw [show (0 - d) * (0 - d) = d * d by grind]
  exact h
theorem wr_Fm {x : Nat → Zp s} {u n : Nat} (h : ∀ k, k < n → k ≠ u → Fm (x u - x k)) : ∀ k, k ≤ n → Fm (wr x u k)
  | 0, _ => Fm.one
  | k + 1, hk => by
    show Fm (if k = u then _ else _)
    by_cases e : k = u
    · rw [if_pos e]; exact wr_Fm h k (by omega)
    · rw [if_neg e]; exact (wr_Fm h k (by omega)).mul (h k (by omega) e)
/-! Batch's inverses. -/
theorem nz_of {d : Zp s} (h : Fm d) : nz d = d := by unfold nz; rw [if_neg h.ne]
theorem Pp_Fm {x : Nat → Zp s} {n : Nat} (h : ∀ k, k < n → Fm (x k)) : ∀ k, k ≤ n → Fm (Pp x k)
  | 0, _ => Fm.one
  | k + 1, hk => by show Fm (Pp x k * nz (x k)); rw [nz_of (h k (by omega))]; exact (Pp_Fm h k (by omega)).mul (h k (by omega))
theorem Iv_Pp {x : Nat → Zp s} {n : Nat} (h : ∀ k, k < n → Fm (x k)) : ∀ j, j ≤ n → Iv x n j * Pp x (n - j) = 1
  | 0, _ => (Pp_Fm h n (Nat.le_refl _)).inv
  | j + 1, hj => by
    have ih := Iv_Pp h j (by omega)
    obtain ⟨m, hm⟩ : ∃ m, n = m + (j + 1) := ⟨n - (j + 1), by omega⟩
    rw [show n - j = m + 1 by omega] at ih
    rw [show n - (j + 1) = m by omega]
    show Iv x n j * nz (x (n - 1 - j)) * Pp x m = 1
    rw [show n - 1 - j = m by omega]
    have e : Pp x (m + 1) = Pp x m * nz (x m) := rfl
    rw [e] at ih
    grind
theorem binv_mul {x : Nat → Zp s} {n i : Nat} (h : ∀ k, k < n → Fm (x k)) (hi : i < n) : binv x n i * x i = 1 := by
  have e := Iv_Pp h (n - 1 - i) (by omega)
  rw [show n - (n - 1 - i) = i + 1 by omega] at e
  have e2 : Pp x (i + 1) = Pp x i * nz (x i) := rfl
  rw [e2, nz_of (h i hi)] at e
  unfold binv
  rw [if_neg (h i hi).ne]
  grind
/-! Interpolation. -/
/-- The first n points lie apart. -/
def Fap (x : Nat → Zp s) (n : Nat) : Prop := ∀ i k, i < n → k < n → i ≠ k → Fm (x i - x k)
theorem Fap.le {x : Nat → Zp s} {n m : Nat} (h : Fap x n) (hm : m ≤ n) : Fap x m := fun i k hi hk => h i k (by omega) (by omega)
variable {x y : Nat → Zp s} {n : Nat}
theorem itp_at (h : Fap x n) {j : Nat} (hj : j < n) : ∀ m, m ≤ n → Sg (itp x y n m) (pw (x j)) n = if j < m then y j else 0
  | 0, _ => by rw [if_neg (Nat.not_lt_zero j)]; exact Sg_zero fun _ _ => rfl
  | u + 1, hu => by
    have ih := itp_at h hj u (by omega)
    have e : Sg (itp x y n (u + 1)) (pw (x j)) n = Sg (itp x y n u) (pw (x j)) n + wgt x n u * y u * Sg (mst x n) (psi (x u) (x j)) (n + 1) := by
      rw [← Hn_quo]
      exact Sg_add _ _ _ _ n
    rw [e, ih]
    by_cases hju : j = u
    · subst hju
      rw [if_neg (Nat.lt_irrefl j), if_pos (Nat.lt_succ_self j), mst_wr x j n hj]
      have hw : wgt x n j * wr x j n = 1 := binv_mul (x := fun i => wr x i n) (fun k hk => wr_Fm (fun k' hk' hne => h k k' hk hk' (Ne.symm hne)) n (Nat.le_refl n)) hj
      grind
    · have h0 : (x j - x u) * Sg (mst x n) (psi (x u) (x j)) (n + 1) = 0 := by
        rw [Sg_psi, mst_ev, mst_ev, Pd_zero x j n hj, Pd_zero x u n (by omega)]; grind
      rw [(h j u hj (by omega) hju).un.zero h0]
      by_cases l : j < u
      · rw [if_pos l, if_pos (by omega)]; grind
      · rw [if_neg l, if_neg (by omega)]; grind
/-- The program's polynomial has the values. -/
theorem itp_val (h : Fap x n) {j : Nat} (hj : j < n) : Sg (itp x y n n) (pw (x j)) n = y j := by rw [itp_at h hj n (Nat.le_refl n), if_pos hj]
/-- The product of the z - x i without the u-th. -/
def Pw (x : Nat → Zp s) (z : Zp s) (u : Nat) : Nat → Zp s
  | 0 => 1
  | k + 1 => if k = u then Pw x z u k else (z - x k) * Pw x z u k
theorem Pw_zero {z : Zp s} {u j : Nat} (hz : z = x j) (hju : j ≠ u) : ∀ k, j < k → Pw x z u k = 0
  | k + 1, hk => by
    show (if k = u then Pw x z u k else (z - x k) * Pw x z u k) = 0
    by_cases e : k = u
    · rw [if_pos e]; exact Pw_zero hz hju k (by omega)
    · rw [if_neg e]
      by_cases e2 : k = j
      · subst e2; grind
      · rw [Pw_zero hz hju k (by omega)]; grind
theorem Pw_wr {u : Nat} : ∀ k, Pw x (x u) u k = wr x u k
  | 0 => rfl
  | k + 1 => by
    show (if k = u then _ else _) = if k = u then _ else _
    rw [Pw_wr k]
    by_cases e : k = u
    · rw [if_pos e, if_pos e]
    · rw [if_neg e, if_neg e]; grind
theorem rcf_ev (z : Zp s) {u : Nat} : ∀ k, Sg (rcf x y n u k) (pw z) (rln u k) = zinv (wr x u n) * y u * Pw x z u k
  | 0 => by
    unfold rln
    rw [if_neg (Nat.not_lt_zero u)]
    show (0 : Zp s) + zinv (wr x u n) * y u * 1 = zinv (wr x u n) * y u * 1
    grind
  | k + 1 => by
    have ih := rcf_ev z (u := u) k
    show Sg (if k = u then _ else _) _ _ = _ * (if k = u then _ else _)
    by_cases e : k = u
    · rw [if_pos e, if_pos e, ← ih]
      congr 1
      unfold rln
      rw [if_pos (by omega), if_neg (by omega)]
    · rw [if_neg e, if_neg e, show rln u (k + 1) = rln u k + 1 from by unfold rln; by_cases l : u < k <;> simp [l, show (u < k + 1) ↔ u < k by omega], Sg_lin _ _ _ _ _ (Nat.le_refl _), Sg_pw, ih]
      grind
theorem rip_at (h : Fap x n) {j : Nat} (hj : j < n) : ∀ m, m ≤ n → Sg (rip x y n m) (pw (x j)) n = if j < m then y j else 0
  | 0, _ => by rw [if_neg (Nat.not_lt_zero j)]; exact Sg_zero fun _ _ => rfl
  | u + 1, hu => by
    have ih := rip_at h hj u (by omega)
    have e : Sg (rip x y n (u + 1)) (pw (x j)) n = Sg (rip x y n u) (pw (x j)) n + 1 * Sg (rcf x y n u n) (pw (x j)) n := by
      rw [← Sg_add]
      exact Sg_congr fun k _ => by show _ + _ = _ + 1 * _; grind
    have e2 := rcf_ev (x := x) (y := y) (n := n) (x j) (u := u) n
    rw [show rln u n = n by unfold rln; rw [if_pos (by omega)]] at e2
    rw [e, ih, e2]
    by_cases hju : j = u
    · subst hju
      rw [if_neg (Nat.lt_irrefl j), if_pos (Nat.lt_succ_self j), Pw_wr]
      have hw := (wr_Fm (x := x) (u := j) (n := n) (fun k hk hne => h j k hj hk (Ne.symm hne)) n (Nat.le_refl n)).inv
      grind
    · rw [Pw_zero rfl hju n hj]
      by_cases l : j < u
      · rw [if_pos l, if_pos (by omega)]; grind
      · rw [if_neg l, if_neg (by omega)]; grind
/-- The reference's polynomial has the values. -/
theorem rip_val (h : Fap x n) {j : Nat} (hj : j < n) : Sg (rip x y n n) (pw (x j)) n = y j := by rw [rip_at h hj n (Nat.le_refl n), if_pos hj]
/-! Uniqueness. -/
def lsf (c : Nat → Zp s) (n : Nat) : List (Zp s) := (List.range n).map c
theorem lsf_ev (c : Nat → Zp s) (z : Zp s) : ∀ n, Alg.ev (lsf c n) z = Sg c (pw z) n
  | 0 => rfl
  | n + 1 => by
    unfold lsf
    rw [List.range_succ, List.map_append, List.map_singleton, ev_app, List.length_map, List.length_range]
    show Alg.ev (lsf c n) z + _ = _
    rw [lsf_ev c z n]; rfl
theorem same_val {c d : Nat → Zp s} (h : Fap x n) (hv : ∀ j, j < n → Sg c (pw (x j)) n = Sg d (pw (x j)) n) {k : Nat} (hk : k < n) : c k = d k := by
  have hA : Ap ((List.range n).map x) := by
    unfold Ap
    rw [List.pairwise_map]
    refine List.Pairwise.imp_of_mem ?_ (List.pairwise_lt_range (n := n))
    intro i j hi hj hij
    exact (h j i (List.mem_range.1 hj) (List.mem_range.1 hi) (by omega)).un
  have e := Alg.same_of ((List.range n).map x) (lsf c n) (lsf d n) hA (by simp [lsf]) (by simp [lsf]) (fun z hz => by
    obtain ⟨j, hj, rfl⟩ := List.mem_map.1 hz
    rw [lsf_ev, lsf_ev]
    exact hv j (List.mem_range.1 hj))
  have e2 := congrArg (fun l => l[k]?) e
  simpa [lsf, hk] using e2
/-- A polynomial with the values is the program's. -/
theorem itp_of {c : Nat → Zp s} (h : Fap x n) (hv : ∀ j, j < n → Sg c (pw (x j)) n = y j) {k : Nat} (hk : k < n) : itp x y n n k = c k := same_val h (fun j hj => by rw [itp_val h hj, hv j hj]) hk
theorem dot_itp : ∀ m, 1 ≤ n → dot (zw x n) y m = itp x y n m 0
  | 0, _ => rfl
  | m + 1, h => by
    show dot (zw x n) y m + wgt x n m * Hn (mst x n) (n + 1) (x m) n * y m = itp x y n m 0 + wgt x n m * y m * Hn (mst x n) (n + 1) (x m) (n + 1 - 1 - 0)
    rw [dot_itp m h]
    show _ = itp x y n m 0 + wgt x n m * y m * Hn (mst x n) (n + 1) (x m) n
    grind
theorem Sg_cut {c f : Nat → Zp s} {th : Nat} : ∀ {n : Nat}, th ≤ n → (∀ k, th ≤ k → k < n → c k = 0) → Sg c f n = Sg c f th
  | 0, h, _ => by rw [Nat.le_zero.1 h]
  | n + 1, h, hz => by
    by_cases e : th = n + 1
    · rw [e]
    · show Sg c f n + c n * f n = _
      rw [Sg_cut (by omega) (fun k h1 h2 => hz k h1 (by omega)), hz n (by omega) (by omega)]
      grind
theorem belZ_iff {c : Nat → Zp s} {th : Nat} : belZ c n th = true ↔ ∀ k, th ≤ k → k < n → c k = 0 := by
  unfold belZ
  simp only [List.all_eq_true, List.mem_range, Bool.or_eq_true, decide_eq_true_eq]
  constructor
  · intro h k h1 h2
    rcases h k h2 with h3 | h3
    · omega
    · exact h3
  · intro h k hk
    by_cases l : k < th
    · exact .inl l
    · exact .inr (h k (by omega) hk)
/-- The values lie on a polynomial with th coefficients. -/
theorem fits_of {c : Nat → Zp s} {th : Nat} (h : Fap x n) (ht : th ≤ n) (hv : ∀ j, j < n → Sg c (pw (x j)) th = y j) : belZ (itp x y n n) n th = true := by
  refine belZ_iff.2 fun k h1 h2 => ?_
  have e := itp_of (y := y) (c := fun k => if k < th then c k else 0) h (fun j hj => by
    rw [← hv j hj, Sg_cut (th := th) ht (fun k h1 _ => if_neg (by omega))]
    exact Sg_congr fun k hk => if_pos hk) h2
  rw [e]
  exact if_neg (by omega)
theorem fits_iff {th : Nat} (h : Fap x n) (ht : th ≤ n) : belZ (itp x y n n) n th = true ↔ ∀ j, j < n → Sg (rip x y th th) (pw (x j)) th = y j := by
  constructor
  · intro hb j hj
    have hz := belZ_iff.1 hb
    have e : ∀ k, k < th → rip x y th th k = itp x y n n k := fun k hk => (same_val (h.le ht) (fun i hi => by
      rw [rip_val (h.le ht) hi, ← itp_val (y := y) h (Nat.lt_of_lt_of_le hi ht), Sg_cut ht hz]) hk)
    rw [Sg_congr e, ← itp_val (y := y) h hj, Sg_cut ht hz]
  · exact fun hv => fits_of h ht hv
end
end Go.Proofs.YtdnkkbmpefhbjaaGreatDoor
namespace Go.Proofs.YtdnkkbmpefhbjaaGreatDoor
set_option linter.all false
open Go Go.RowKit Alg
theorem Good.wo0 {s : Bool} {S : Nat → Shr} {m i : Nat} (g : Good s S m) (hi : i < m) (ht : (S 0).T < (m : Int)) : (Go.Proofs.YtdnkkbmpefhbjaaGreatDoor.wo S i 0).n = (S 0).n ∧ thN (Go.Proofs.YtdnkkbmpefhbjaaGreatDoor.wo S i) = thN S := by
  have h1 := g.t1
  obtain ⟨j, hj, e⟩ := wo_some (S := S) (k := 0) hi (by omega)
  unfold thN
  rw [e]
  exact ⟨g.n j hj, by rw [g.T j hj]⟩
def consE (m th n : Nat) : List Ev := upE 0 ((n : Nat) : Int) (chunkE (m - 1) th)
def susF (m th n : Nat) (i : Int) : List Ev := [(5, i, 0)] ++ consE m th n
def susE (m th n : Nat) : List Ev := upE 0 ((m : Nat) : Int) (susF m th n)
/-- The suspects among the first k. -/
def susL (s : Bool) (S : Nat → Shr) (m : Nat) : Nat → List Int
  | 0 => []
  | k + 1 => if conB s (wo S k) (k + (m - (k + 1))) = true then susL s S m k ++ [(k : Int)] else susL s S m k
theorem sus_next {E : List Ev} {m th n k : Nat} : E ++ upE 0 ((k : Nat) : Int) (susF m th n) ++ [(5, ((k : Nat) : Int), 0)] ++ consE m th n = E ++ upE 0 ((k + 1 : Nat) : Int) (susF m th n) := by
  have e := upE_succ (F := susF m th n) (fr := 0) (x := (k : Int)) (by omega)
  rw [List.append_assoc, List.append_assoc, show [((5 : Int), ((k : Nat) : Int), (0 : Int))] ++ consE m th n = susF m th n (k : Int) from rfl, e]
  rfl
theorem susF_len {m th n : Nat} (hm : m ≤ 8) (hn : n ≤ 7) (i : Int) : (susF m th n i).length ≤ 1000000 := by
  have := chunks_len (m := m - 1) (th := th) (k := n) (by omega)
  unfold susF consE
  simp only [List.length_append, List.length_singleton]
  omega
theorem susK_len {m th n k : Nat} (hm : m ≤ 8) (hn : n ≤ 7) : (upE 0 ((k : Nat) : Int) (susF m th n)).length ≤ k * 1000000 := by
  have := upE_len (fr := 0) (to := (k : Int)) (F := susF m th n) (B := 1000000) (fun i => susF_len hm hn i)
  simpa using this
theorem clip_c (n c : Nat) (la : Option Addr) (W : World) (hc : n ≤ c) : Calls Tryz.prog 62 [.slice la n c].toArray W fun e w => e = .returned (.slice la n n) ∧ Below W.heap.size W w := by
 refine c_enter (args := [.slice la n c]) Tryz.func62 rfl rfl rfl fun a hk => ?_
 have hs := Sat.start W [] (fun _ h => by cases h)
 refine wS (wR ?_)
 refine q_v hk (w_as rfl) fun a hk => ?_
 refine c_end (x_t (wS (wR ?_)))
 refine q_v hk (w_mv rfl) fun a hk => ?_
 refine q_v hk (w_mv rfl) fun a hk => ?_
 refine q_v hk (w_len rfl Tryz.underlying22) fun a hk => ?_
 refine q_v hk (w_mv rfl) fun a hk => ?_
 refine q_v hk (w_len rfl Tryz.underlying22) fun a hk => ?_
 refine q_v hk (w_slc_eq (w_slc3 (l := 0) (h := n) (m := n) rfl rfl rfl rfl Tryz.underlying22 ty53 rfl rfl rfl (by omega) (by omega) (by omega) (by omega) (by omega) (by omega)) sla_zero (Nat.sub_zero _) (Nat.sub_zero _)) fun a hk => ?_
 refine q_v hk (w_as rfl) fun a hk => ?_
 refine c_end (x_t ?_)
 refine (wpIn_ret ?_)
 refine c_ret1 hk rfl rfl ?_
 exact ⟨rfl, hs.toBelow⟩
theorem sus_m {F0 : Nat → Prop} {W : World} {M R : List Res} (s : Bool) (m lc : Nat) (la : Option Addr) (S : Nat → Shr) (t : Option Nat) (evs : List Ev) (r : Res) (w0 : World) (hs : Sat F0 W (r :: M) R w0) (hS : HasR (shareR la m lc S) R) (hG : HasR laidR R) (HO : ShOk S m) (g : Good s S m) (hz : csErr S m = 0) (hm8 : m ≤ 8) (hn9 : (S 0).n ≤ 7) (hf : (S 0).T < ((m : Nat) : Int)) (hT : TapeIs t evs r) (he : evs.length ≤ 1000) : Calls Tryz.prog 23 [tval t, .slice la m lc].toArray w0 fun e w => ∃ r a n c, e = .returned (.tuple #[.slice a n c, .int .i64 0]) ∧ TapeIs t (evs ++ susE m (thN S) (S 0).n) r ∧ Sat F0 W (r :: row 3 1 (.slice a n c) n (el ic (susL s S m m)) :: M) R w := by
 have hm0 := g.m0
 have hcap := share_cap hS hs
 refine c_enter (args := [tval t, .slice la m lc]) Tryz.func23 rfl rfl rfl fun a hk => ?_
 refine wS (wR ?_)
 refine q_v hk (w_as rfl) fun a hk => ?_
 refine q_v hk (w_as rfl) fun a hk => ?_
 refine c_end (x_t (wS (wS (wR ?_))))
 refine q_v hk (w_mv rfl) fun a hk => ?_
 refine q_call (caps := []) hk rfl rfl Tryz.func60 fo60 rfl rfl (ckShares_c m lc la S _ ((hS).at_ hs) HO ((hG).at_ hs)) ?_
 rintro _ w ⟨rfl, hb⟩
 have hs := hs.below hb
 refine ⟨_, rfl, fun a hk => ?_⟩
 refine q_v hk (w_as rfl) fun a hk => ?_
 refine c_end (x_t (wS (wR ?_)))
 refine q_v hk (w_mv rfl) fun a hk => ?_
 refine q_v hk (w_ne rfl rfl (decide_eq_false (by omega))) fun a hk => ?_
 refine c_end (x_t ?_)
 refine c_F hk rfl ?_
 refine (wpIn_skip (x_t ?_))
 refine wS (wS (wR ?_))
 refine q_v hk (w_mv rfl) fun a hk => ?_
 refine q_v hk (w_len rfl Tryz.underlying22) fun a hk => ?_
 refine q_v hk (w_mv rfl) fun a hk => ?_
 refine q_v hk (w_iaL (k := 0) rfl rfl Tryz.underlying22 ty53 ((share_lst hS).at_ hs) (by omega) (by omega)) fun a hk => ?_
 refine q_v hk (w_fa rfl fq53_1 ty3) fun a hk => ?_
 refine q_v hk (w_ld1 rfl ty3 (lstf (k := 0) (o := 1) (m := 1) ((share_lst hS).at_ hs) (by omega) (en_chunk shc_len (by omega)) rfl)) fun a hk => ?_
 refine q_v hk (w_le rfl rfl (decide_eq_false (by omega))) fun a hk => ?_
 refine c_end (x_t ?_)
 refine c_F hk rfl ?_
 refine (wpIn_skip (x_t ?_))
 refine wS (wR ?_)
 refine q_v hk (w_as rfl) fun a hk => ?_
 refine c_end (x_t (wS (wS (wR ?_))))
 refine q_v hk (w_mv rfl) fun a hk => ?_
 refine q_v hk (w_len rfl Tryz.underlying22) fun a hk => ?_
 refine q_v hk (w_mv rfl) fun a hk => ?_
 refine c_end (x_t ?_)
 refine wpIn_block ?_
 have hs := hs.row0 3 1
 have hs := hs.rw0 (show _ = row 3 1 (.slice none 0 0) 0 (el ic (susL s S m 0)) from rfl)
 refine c_loop (α := Nat) (fun k a w => ∃ (r : Res) (ao : Option Addr) (no : Nat) (co : Nat), (k ≤ m ∧ no ≤ k) ∧ TapeIs t (evs ++ upE 0 ((k : Nat) : Int) (susF m (thN S) (S 0).n)) r ∧ Kn [] 55 [(26, .int .i64 ((k : Nat) : Int)), (7, .slice ao no co), (25, .int .i64 ((m : Nat) : Int)), (5, .int .i64 0), (4, .slice none 0 0), (0, tval t), (1, .slice la m lc)] a ∧ Sat F0 W ((row 3 1 (.slice ao no co) no (el ic (susL s S m k))) :: r :: M) R w) (fun k => m - k) 0 ?_ ?_
 · exact ⟨_, _, _, _, ⟨by omega, by omega⟩, (by rw [upE_nil (by omega), List.append_nil]; exact hT), hk.k rfl (hk.k rfl (hk.k rfl (hk.k rfl (hk.k rfl (hk.k rfl (hk.k rfl hk.nil)))))), hs⟩
 rintro k a w ⟨r, ao, no, co, hf0, hf1, hk, hs⟩
 have hT := hf1
 have hlk := susK_len (m := m) (th := (thN S)) (n := (S 0).n) (k := k) hm8 hn9
 refine wS (wR ?_)
 rcases Classical.em (((k : Nat) : Int) < ((m : Nat) : Int)) with hc1 | hc1
 ·
  have hlt : k < m := by omega
  have hw0 := g.wo0 hlt hf
  have g' : Good s (wo S k) (k + (m - (k + 1))) := by rw [show k + (m - (k + 1)) = m - 1 by omega]; exact g.wo hlt hf
  have hO' : ShOk (wo S k) (k + (m - (k + 1))) := by rw [show k + (m - (k + 1)) = m - 1 by omega]; exact HO.wo hlt
  refine q_v hk (w_lt rfl rfl (decide_eq_true hc1)) fun a hk => ?_
  refine c_end (x_t (wS ?_))
  refine c_T hk rfl ?_
  refine (wpIn_skip (x_t ?_))
  refine wS ?_
  refine wpIn_block ?_
  refine wS (wR ?_)
  refine q_v hk (w_mv rfl) fun a hk => ?_
  refine q_v hk (w_as rfl) fun a hk => ?_
  refine c_end (x_t (wS (wR ?_)))
  refine q_v hk (w_mv rfl) fun a hk => ?_
  refine q_v hk (w_mv rfl) fun a hk => ?_
  have hs := hs.up1
  refine q_call (caps := []) hk rfl rfl Tryz.func61 fo61 rfl rfl (note_m t 5 ((k : Nat) : Int) 0 (evs ++ upE 0 ((k : Nat) : Int) (susF m (thN S) (S 0).n)) _ _ hT hs (by simp only [List.length_append]; omega)) ?_
  rintro _ w ⟨v2, r3, rfl, ht4, hs⟩
  have hT := ht4
  refine ⟨_, rfl, fun a hk => ?_⟩
  refine c_end (x_t (wS ?_))
  refine d_begin _ 10 (by kernel_rfl) rfl hs okL.nil fun w hs hL => ?_
  refine d_w 0 1 hk hL rfl (fun w hL => w_mv rfl) fun a hk => ?_
  refine d_w 1 3 hk hL rfl (fun w hL => w_mv rfl) fun a hk => ?_
  refine d_w 2 7 hk hL rfl (fun w hL => w_mv rfl) fun a hk => ?_
  refine d_w 3 15 hk hL rfl (fun w hL => w_slc_eq (w_slc3 (l := 0) (h := k) (m := k) rfl rfl rfl rfl Tryz.underlying22 ty53 rfl rfl rfl (by omega) (by omega) (by omega) (by omega) (by omega) (by omega)) sla_zero (Nat.sub_zero _) (Nat.sub_zero _)) fun a hk => ?_
  refine d_w 4 31 hk hL rfl (fun w hL => w_mv rfl) fun a hk => ?_
  refine d_w 5 63 hk hL rfl (fun w hL => w_mv rfl) fun a hk => ?_
  refine d_w 6 127 hk hL rfl (fun w hL => w_add rfl rfl (wr64 (by omega) (by omega))) fun a hk => ?_
  refine d_w 7 255 hk hL rfl (fun w hL => w_slc (l := ((((k : Nat) : Int) + 1)).toNat) (h := m) rfl rfl rfl Tryz.underlying22 ty53 rfl rfl (by omega) (by omega) (by omega) (by omega) (by omega)) fun a hk => ?_
  refine d_1 8 511 rfl (by kernel_rfl) fun K hK => ?_
  refine q_appF (xs := (en shc S k)) (ys := (en shc (fun j => S (k + 1 + j)) (m - (k + 1)))) hk hs (pre_share (hS) hlt) (post_share (hS) hlt hcap) rfl rfl Tryz.underlying22 ty53 zr53 rfl rfl (en_ones shc_ones) (en_ones shc_ones) (by omega) (by omega) rfl rfl fun a1_8 c1_8b w a hk hcap1_8c hs => ?_
  have hL : okL [] w := okL.nil
  refine c_end (x_t (hK _ _ hL ?_))
  clear hK K
  refine d_w 9 1023 hk hL rfl (fun w hL => w_as rfl) fun a hk => ?_
  refine d_end (by kernel_rfl) ?_
  refine (x_t ?_)
  refine wS (wR ?_)
  refine q_v hk (w_mv rfl) fun a hk => ?_
  refine q_v hk (w_mv rfl) fun a hk => ?_
  refine q_call (caps := []) hk rfl rfl Tryz.func62 fo62 rfl rfl (clip_c (k + (m - (((((k : Nat) : Int) + 1)).toNat))) c1_8b a1_8 _ (by omega)) ?_
  rintro _ w ⟨rfl, hb⟩
  have hs := hs.below hb
  refine ⟨_, rfl, fun a hk => ?_⟩
  refine q_call (caps := []) hk rfl rfl Tryz.func17 fo17 rfl rfl (cons_m s (k + (m - (k + 1))) (k + (m - (k + 1))) a1_8 (wo S k) t ((evs ++ upE 0 ((k : Nat) : Int) (susF m (thN S) (S 0).n)) ++ [(5, ((k : Nat) : Int), 0)]) _ _ hs (oth_share (HasR.nth 0 rfl) (hS.cons) hlt) (hG.cons) hO' g' (g'.err (by have := g'.tm; omega)) (by omega) (by rw [hw0.1]; exact hn9) hT (by simp only [List.length_append, List.length_singleton]; omega)) ?_
  rintro _ w ⟨r5, he, hT, hs⟩
  obtain ⟨cb, hcb⟩ : ∃ cb, conB s (wo S k) (k + (m - (k + 1))) = cb := ⟨_, rfl⟩
  rw [hcb] at he
  subst he
  rw [hw0.1, hw0.2, show (k + (m - (k + 1))) = m - 1 by omega] at hT
  have hT : TapeIs t (((evs ++ upE 0 ((k : Nat) : Int) (susF m (thN S) (S 0).n)) ++ [(5, ((k : Nat) : Int), 0)]) ++ consE m (thN S) (S 0).n) r5 := hT
  have hs := hs.subR (R' := R) (by simp +contextual)
  refine ⟨_, rfl, fun a hk => ?_⟩
  refine q_v hk (w_mv rfl) fun a hk => ?_
  refine q_v hk (w_ext rfl rfl) fun a hk => ?_
  refine q_v hk (w_ext rfl rfl) fun a hk => ?_
  refine q_v hk (w_as rfl) fun a hk => ?_
  refine q_v hk (w_as rfl) fun a hk => ?_
  refine c_end (x_t (wS (wR ?_)))
  refine q_v hk (w_mv rfl) fun a hk => ?_
  refine c_end (x_t ?_)
  rcases cb with _ | _
  ·
   refine c_F hk rfl ?_
   refine (wpIn_skip (x_b (x_t ?_)))
   refine wR ?_
   refine q_v hk (w_add rfl rfl (wr64 (by omega) (by omega))) fun a hk => ?_
   refine q_v hk (w_mv rfl) fun a hk => ?_
   refine c_end (x_t ?_)
   rw [sus_next] at hT
   have hs := hs.up1
   have hs := hs.rw0 (congrArg (fun q => row 3 1 (.slice ao no co) no (el ic q)) (show _ = susL s S m (k + 1) from (if_neg (by rw [hcb]; exact Bool.false_ne_true)).symm))
   exact ⟨k + 1, ⟨_, _, _, _, ⟨by omega, by omega⟩, hT, hk.k rfl (hk.k rfl (hk.k rfl (hk.k rfl (hk.k rfl (hk.k rfl (hk.k rfl hk.nil)))))), hs⟩, by omega⟩
  ·
   refine c_T hk rfl ?_
   refine wR ?_
   refine q_v hk (w_mv rfl) fun a hk => ?_
   refine q_v hk (w_mv rfl) fun a hk => ?_
   refine q_bsl (els := [.tmp 50]) (cs := [.int .i64 ((k : Nat) : Int)]) hk hs rfl Tryz.underlying34 ty3 zr3 rfl rfl rfl rfl rfl rfl rfl fun b6 w a hk hs => ?_
   have hs := hs.up2
   refine q_app (news := [.int .i64 ((k : Nat) : Int)]) (m := 1) hk hs rfl rfl Tryz.underlying34 ty3 zr3 rfl rfl (.blk (n := 1) (hs.mi 1 rfl) rfl) rfl rfl (by omega) (by omega) rfl rfl fun a7 c8 w a hk hs => ?_
   have hs := hs.up1
   have hs := hs.drop
   refine q_v hk (w_as rfl) fun a hk => ?_
   refine (c_end (x_b (x_t ?_)))
   refine wR ?_
   refine q_v hk (w_add rfl rfl (wr64 (by omega) (by omega))) fun a hk => ?_
   refine q_v hk (w_mv rfl) fun a hk => ?_
   refine c_end (x_t ?_)
   rw [sus_next] at hT
   have hs := hs.rw0 (congrArg _ el_snoc)
   have hs := hs.rw0 (congrArg (fun q => row 3 1 (.slice a7 (no + 1) c8) (no + 1) (el ic q)) (show _ = susL s S m (k + 1) from (if_pos hcb).symm))
   exact ⟨k + 1, ⟨_, _, _, _, ⟨by omega, by omega⟩, hT, hk.k rfl (hk.k rfl (hk.k rfl (hk.k rfl (hk.k rfl (hk.k rfl (hk.k rfl hk.nil)))))), hs⟩, by omega⟩
 ·
  refine q_v hk (w_lt rfl rfl (decide_eq_false hc1)) fun a hk => ?_
  refine c_end (x_t (wS ?_))
  refine c_F hk rfl ?_
  refine (wpIn_exit (x_te (x_te (x_be ?_))))
  refine (x_t ?_)
  refine wS (wR ?_)
  refine q_v hk (w_mv rfl) fun a hk => ?_
  refine q_v hk (w_as rfl) fun a hk => ?_
  refine q_v hk (w_as rfl) fun a hk => ?_
  refine c_end (x_t ?_)
  refine (wpIn_ret ?_)
  refine c_ret2 hk rfl rfl rfl ?_
  have hs := hs.up1
  have hkm : k = m := by omega
  rw [hkm] at hs hT
  exact ⟨_, _, _, _, rfl, hT, hs⟩
end Go.Proofs.YtdnkkbmpefhbjaaGreatDoor
namespace Go.Proofs.YtdnkkbmpefhbjaaGreatDoor
set_option linter.all false
open Go Go.RowKit Alg
end Go.Proofs.YtdnkkbmpefhbjaaGreatDoor
namespace Go.Proofs.YtdnkkbmpefhbjaaGreatDoor
set_option linter.all false
open Go Go.RowKit Alg
/-- a ^ (e / 2^(256-j)) modulo p, by squaring. -/
def fpw (p a e : Nat) : Nat → Nat
  | 0 => 1
  | j + 1 => (fpw p a e j) ^ 2 * a ^ (e / 2 ^ (255 - j) % 2) % p
theorem fpw_val {s : Bool} (x : Zp s) (e : Nat) (he : e < R4) : ∀ j, j ≤ 256 → fpw (pr s) x.val e j = (pw x (e / 2 ^ (256 - j))).val
  | 0, _ => by
    rw [show e / 2 ^ (256 - 0) = 0 from Nat.div_eq_of_lt he]
    exact one_val.symm
  | j + 1, hj => by
    have ih := fpw_val x e he j (by omega)
    show (fpw (pr s) x.val e j) ^ 2 * x.val ^ (e / 2 ^ (255 - j) % 2) % pr s = _
    rw [ih, show 256 - (j + 1) = 255 - j by omega]
    have e1 : e / 2 ^ (256 - j) = e / 2 ^ (255 - j) / 2 := by rw [show 256 - j = (255 - j) + 1 by omega, Nat.pow_succ, Nat.div_div_eq_div_mul]
    rw [e1]
    generalize e / 2 ^ (255 - j) = q
    rcases Nat.mod_two_eq_zero_or_one q with h | h
    · obtain ⟨m, rfl⟩ : ∃ m, q = 2 * m := ⟨q / 2, by omega⟩
      rw [h, show 2 * m / 2 = m by omega, Nat.pow_zero, Nat.mul_one, pw_sq, pw_prod, Nat.pow_two]
      exact (Fin.val_mul _ _).symm
    · obtain ⟨m, rfl⟩ : ∃ m, q = 2 * m + 1 := ⟨q / 2, by omega⟩
      rw [h, show (2 * m + 1) / 2 = m by omega, Nat.pow_one, Nat.pow_two]
      have e2 : pw x (2 * m + 1) = pw x m * pw x m * x := by show pw x (2 * m) * x = _; rw [pw_sq, pw_prod]
      rw [e2, Fin.val_mul, Fin.val_mul, Nat.mod_mul_mod]
theorem fm_all : (List.range 254).all (fun d => fpw (pr false) (d + 1) (pr false - 1) 256 == 1 && fpw (pr true) (d + 1) (pr true - 1) 256 == 1) = true := by decide +kernel
theorem pr_1000 (s : Bool) : 1000 < pr s := by cases s <;> decide
theorem fm_small {s : Bool} {d : Nat} (h1 : 1 ≤ d) (h2 : d ≤ 254) : Fm (zn s d) := by
  have h := List.all_eq_true.1 fm_all (d - 1) (List.mem_range.2 (by omega))
  rw [show d - 1 + 1 = d by omega, Bool.and_eq_true, beq_iff_eq, beq_iff_eq] at h
  have hp := pr_1000 s
  have hv : (zn s d).val = d := Nat.mod_eq_of_lt (by omega)
  have hr := pr_lt s
  have e := fpw_val (zn s d) (pr s - 1) (by omega) 256 (Nat.le_refl _)
  rw [hv, Nat.sub_self, Nat.pow_zero, Nat.div_one] at e
  have e1 : fpw (pr s) d (pr s - 1) 256 = 1 := by cases s; exact h.1; exact h.2
  rw [e1] at e
  exact Fin.ext (e.symm.trans one_val.symm)
theorem zn_sub {s : Bool} {a b : Nat} (h : b ≤ a) : zn s a - zn s b = zn s (a - b) := by
  have e : zn s a = zn s (a - b) + zn s b := by
    unfold zn
    apply Fin.ext
    rw [Fin.val_add]
    simp only [Fin.val_ofNat]
    rw [← Nat.add_mod, Nat.sub_add_cancel h]
  rw [e]
  grind
theorem pt_fm {s : Bool} {a b : Nat} (h : a ≠ b) (ha1 : 1 ≤ a) (ha2 : a ≤ 255) (hb1 : 1 ≤ b) (hb2 : b ≤ 255) : Fm (zn s a - zn s b) := by
  by_cases l : b ≤ a
  · rw [zn_sub l]; exact fm_small (by omega) (by omega)
  · rw [show zn s a - zn s b = 0 - (zn s b - zn s a) by grind, zn_sub (by omega)]
    exact (fm_small (by omega) (by omega)).neg
section
variable {s : Bool} {S : Nat → Shr} {m : Nat} (g : Good s S m)
include g
theorem Good.fap : Fap (pt s (vI S)) m := fun i k hi hk h => by
  have a1 := g.v_le i hi
  have a2 := g.v_le k hk
  refine pt_fm ?_ a1.1 a1.2 a2.1 a2.2
  rcases Nat.lt_or_gt_of_ne h with l | l
  · exact g.v_ne i k l hk
  · exact (g.v_ne k i l hi).symm
end
end Go.Proofs.YtdnkkbmpefhbjaaGreatDoor
namespace Go.Proofs.YtdnkkbmpefhbjaaGreatDoor
set_option linter.all false
open Go Go.RowKit Alg
/-- The value of a chunk at zero, and elsewhere. -/
def valZ (s : Bool) (S : Nat → Shr) (m ch : Nat) : Zp s := dot (zw (pt s (vI S)) m) (clz s S ch) m
def atZ (s : Bool) (S : Nat → Shr) (m : Nat) (x : Zp s) (ch : Nat) : Zp s := Hn (itp (pt s (vI S)) (clz s S ch) m m) m x m
end Go.Proofs.YtdnkkbmpefhbjaaGreatDoor
namespace Go.Proofs.YtdnkkbmpefhbjaaGreatDoor
set_option linter.all false
open Go Go.RowKit Alg
end Go.Proofs.YtdnkkbmpefhbjaaGreatDoor
namespace Go.Proofs.YtdnkkbmpefhbjaaGreatDoor
set_option linter.all false
open Go Go.RowKit Alg
end Go.Proofs.YtdnkkbmpefhbjaaGreatDoor
namespace Go.Proofs.YtdnkkbmpefhbjaaGreatDoor
set_option linter.all false
open Go Go.RowKit Alg
end Go.Proofs.YtdnkkbmpefhbjaaGreatDoor
namespace Go.Proofs.YtdnkkbmpefhbjaaGreatDoor
set_option linter.all false
open Go Go.RowKit Alg
end Go.Proofs.YtdnkkbmpefhbjaaGreatDoor
namespace Go.Proofs.YtdnkkbmpefhbjaaGreatDoor
set_option linter.all false
open Go Go.RowKit Alg
def upg {α : Type} (f : Nat → α) (k : Nat) (x : α) (i : Nat) : α := if i = k then x else f i
theorem upg_eq {α : Type} {f : Nat → α} {k : Nat} {x : α} : upg f k x k = x := if_pos rfl
theorem upg_ne {α : Type} {f : Nat → α} {k i : Nat} {x : α} (h : i ≠ k) : upg f k x i = f i := if_neg h
/-- A slice's cell: address, length, capacity. -/
def plx (x : Option Addr × Nat × Nat) : List Value := [.slice x.1 x.2.1 x.2.2]
theorem plx_len (x : Option Addr × Nat × Nat) : (plx x).length = 1 := rfl
/-- The first k rows of n numbers. -/
def rowB (T n : Nat) (pa : Nat → Option Addr) (pc : Nat → Nat) (X : Nat → Nat → Nat) (k : Nat) : Res := bun ((List.range k).map fun i => row T 4 (.slice (pa i) n (pc i)) n (en vq (X i) n))
section
variable {T n k c m : Nat} {a : Option Addr} {pa : Nat → Option Addr} {pc : Nat → Nat} {X : Nat → Nat → Nat} {Y : Nat → Nat} {F0 : Nat → Prop} {W w : World} {M R : List Res}
theorem rowB_none (hs : Sat F0 W M R w) : Sat F0 W (rowB T n pa pc X 0 :: M) R w := Sat.pack (l := []) hs
theorem rowB_add (hs : Sat F0 W (row T 4 (.slice a n c) n (en vq Y n) :: rowB T n pa pc X k :: M) R w) : Sat F0 W (rowB T n (upg pa k a) (upg pc k c) (upg X k Y) (k + 1) :: M) R w := by
  have h := (hs.up1).unpack
  have e : (List.range (k + 1)).map (fun i => row T 4 (.slice (upg pa k a i) n (upg pc k c i)) n (en vq (upg X k Y i) n)) = (List.range k).map (fun i => row T 4 (.slice (pa i) n (pc i)) n (en vq (X i) n)) ++ [row T 4 (.slice a n c) n (en vq Y n)] := by
    rw [List.range_succ, List.map_append]
    congr 1
    · exact List.map_congr_left fun i hi => by have := List.mem_range.1 hi; rw [upg_ne (by omega), upg_ne (by omega), upg_ne (by omega)]
    · simp [upg]
  refine Sat.pack (l := _) ?_
  rw [e, List.append_assoc]
  exact h
theorem plx_row : en plx (fun i => (pa i, n, pc i)) k ++ [.slice a n c] = en plx (fun i => (upg pa k a i, n, upg pc k c i)) (k + 1) := by
  have e : en plx (fun i => (upg pa k a i, n, upg pc k c i)) k = en plx (fun i => (pa i, n, pc i)) k := en_congr fun i hi => by rw [upg_ne (by omega), upg_ne (by omega)]
  have e2 : en plx (fun i => (upg pa k a i, n, upg pc k c i)) (k + 1) = en plx (fun i => (upg pa k a i, n, upg pc k c i)) k ++ plx (upg pa k a k, n, upg pc k c k) := en_succ.symm
  rw [e2, e, upg_eq, upg_eq]
  rfl
theorem rowB_lst (h : (rowB T n pa pc X m).ok w) (hk : k < m) : LstAt w 4 (.slice (pa k) n (pc k)) n (en vq (X k) n) := row_lst (h.1 _ (List.mem_map.2 ⟨k, List.mem_range.2 hk, rfl⟩))
end
theorem rem_step {t q k : Nat} (h : k < q) : t * (q - k) = t * (q - (k + 1)) + t := by
  obtain ⟨d, rfl⟩ : ∃ d, q = k + 1 + d := ⟨q - (k + 1), by omega⟩
  rw [show k + 1 + d - k = d + 1 by omega, show k + 1 + d - (k + 1) = d by omega, Nat.mul_succ]
/-- A chunk in front of other coefficients. -/
def consz {s : Bool} (z : Zp s) (E : Nat → Zp s) (j : Nat) : Zp s := if j = 0 then z else E (j - 1)
theorem cons_row {s : Bool} {z : Zp s} {E : Nat → Zp s} {x m : Nat} (hx : zv z = x) : el vq [x] ++ en vq (fun j => zv (E j)) m = en vq (fun j => zv (consz z E j)) (1 + m) := by
  subst hx
  have e : en vq (fun j => zv (consz z E j)) (1 + m) = en vq (fun j => zv (consz z E j)) 1 ++ en vq (fun j => zv (E j)) m := by
    unfold en
    rw [List.range_add, List.flatMap_append, List.flatMap_map]
    congr 1
    refine congrArg (fun g => List.flatMap g (List.range m)) (funext fun j => ?_)
    show vq (zv (if 1 + j = 0 then z else E (1 + j - 1))) = vq (zv (E j))
    rw [if_neg (by omega), show 1 + j - 1 = j by omega]
  rw [e]
  rfl
theorem cv_zv {s : Bool} {n i : Nat} {f : Nat → Nat} (hf : ∀ j, f j < 256) : zv (zn s (cv n f i)) = cv n f i := by
  show cv n f i % pr s = cv n f i
  refine Nat.mod_eq_of_lt (Nat.lt_of_lt_of_le ?_ (Nat.le_of_lt (pr_big s)))
  refine Nat.lt_of_lt_of_le (le_lt (fun j => hf _) _) (Nat.pow_le_pow_right (by decide) (cz_le n i))
theorem rpay2_c (s : Bool) (q qc n ix : Nat) (qa : Option Addr) (pa : Nat → Option Addr) (pc : Nat → Nat) (F : Nat → Nat → Zp s) (W : World) (HP : LstAt W 1 (.slice qa q qc) q (en plx (fun i => (pa i, n, pc i)) q)) (HB : (rowB 47 n pa pc (fun k j => zv (F k j)) q).ok W) (hix : ix ≤ 255) (hq : q ≤ 100000) (hn : n ≤ 1000) : Calls Tryz.prog 49 [vec (pr s), .slice qa q qc, .int .i64 ((ix : Nat) : Int)].toArray W fun e w => ∃ a c, e = .returned (.slice a q c) ∧ Sat no W [row 56 4 (.slice a q c) q (en vq (fun i => mq (rEv (F i) (zn s ix) n)) q)] [] w := by
 refine c_enter (args := [vec (pr s), .slice qa q qc, .int .i64 ((ix : Nat) : Int)]) Tryz.func49 rfl rfl rfl fun a hk => ?_
 have hs := Sat.start W [lst 1 (.slice qa q qc) q (en plx (fun i => (pa i, n, pc i)) q), rowB 47 n pa pc (fun k j => zv (F k j)) q] (okrc HP (okr1 HB))
 refine wS (wR ?_)
 refine q_box (vs := [.int .u64 ((dg 0 (pr s) : Nat) : Int), .int .u64 ((dg 1 (pr s) : Nat) : Int), .int .u64 ((dg 2 (pr s) : Nat) : Int), .int .u64 ((dg 3 (pr s) : Nat) : Int)]) hk hs rfl rfl rfl rfl fun b1 w a hk hs => ?_
 refine q_v hk (w_as rfl) fun a hk => ?_
 refine c_end (x_t (wS (wR ?_)))
 refine q_v hk (w_as rfl) fun a hk => ?_
 refine c_end (x_t (wS (wS (wR ?_))))
 refine q_v hk (w_as rfl) fun a hk => ?_
 refine c_end (x_t ?_)
 refine wpIn_block ?_
 have hs := hs.row0 56 4
 refine c_loop (α := Nat) (fun k a w => ∃ (ao : Option Addr) (co : Nat), k ≤ q ∧ Kn [] 31 [(8, .int .i64 (k : Int)), (7, .slice ao k co), (6, .slice none 0 0), (3, .pointer (some ⟨b1, 0, none⟩)), (1, .slice qa q qc), (2, .int .i64 ((ix : Nat) : Int))] a ∧ Sat no W [row 56 4 (.slice ao k co) k (en vq (fun i => mq (rEv (F i) (zn s ix) n)) k), blk b1 [.int .u64 ((dg 0 (pr s) : Nat) : Int), .int .u64 ((dg 1 (pr s) : Nat) : Int), .int .u64 ((dg 2 (pr s) : Nat) : Int), .int .u64 ((dg 3 (pr s) : Nat) : Int)] 47] [lst 1 (.slice qa q qc) q (en plx (fun i => (pa i, n, pc i)) q), rowB 47 n pa pc (fun k j => zv (F k j)) q] w) (fun k => q - k) 0 ?_ ?_
 · exact ⟨_, _, (by omega), hk.k rfl (hk.k rfl (hk.k rfl (hk.k rfl (hk.k rfl (hk.k rfl hk.nil))))), hs⟩
 rintro k a w ⟨ao, co, hf0, hk, hs⟩
 refine wS (wS (wR ?_))
 refine q_v hk (w_mv rfl) fun a hk => ?_
 refine q_v hk (w_mv rfl) fun a hk => ?_
 refine q_v hk (w_len rfl Tryz.underlying84) fun a hk => ?_
 rcases Classical.em ((k : Int) < ((q : Nat) : Int)) with hc2 | hc2
 ·
  have hlt : k < q := by omega
  refine q_v hk (w_lt rfl rfl (decide_eq_true hc2)) fun a hk => ?_
  refine c_end (x_t ?_)
  refine c_T hk rfl ?_
  refine (wpIn_skip (x_t ?_))
  refine wS ?_
  refine wpIn_block ?_
  refine wS ?_
  have hL := okL.cons (hs.mi 1 rfl) (okL.cons (hs.ri 0 rfl) okL.nil)
  refine d_begin _ 10 (by kernel_rfl) rfl hs hL fun w hs hL => ?_
  refine d_join (n2 := 1) 511 (fun a w => ∃ (b1_8 : Nat), Kn [] 31 [(9, .pointer (some ⟨b1_8, 0, none⟩)), (23, vec (zv (rEv (F k) (zn s ix) n))), (22, vec (zv (zn s ix))), (21, .int .i64 ((ix : Nat) : Int)), (20, .slice (pa k) n (pc k)), (19, .pointer (some ((adq qa).add (k * 1)))), (18, .int .i64 (k : Int)), (17, .slice qa q qc), (16, vec (pr s)), (13, .bool true), (12, .int .i64 ((q : Nat) : Int)), (11, .slice qa q qc), (10, .int .i64 (k : Int)), (8, .int .i64 (k : Int)), (7, .slice ao k co), (6, .slice none 0 0), (3, .pointer (some ⟨b1, 0, none⟩)), (1, .slice qa q qc), (2, .int .i64 ((ix : Nat) : Int))] a ∧ Sat no W [blk b1_8 [.int .u64 0, .int .u64 0, .int .u64 0, .int .u64 0] 47, row 56 4 (.slice ao k co) k (en vq (fun i => mq (rEv (F i) (zn s ix) n)) k), blk b1 [.int .u64 ((dg 0 (pr s) : Nat) : Int), .int .u64 ((dg 1 (pr s) : Nat) : Int), .int .u64 ((dg 2 (pr s) : Nat) : Int), .int .u64 ((dg 3 (pr s) : Nat) : Int)] 47] [lst 1 (.slice qa q qc) q (en plx (fun i => (pa i, n, pc i)) q), rowB 47 n pa pc (fun k j => zv (F k j)) q] w ∧ okL [blk b1 [.int .u64 ((dg 0 (pr s) : Nat) : Int), .int .u64 ((dg 1 (pr s) : Nat) : Int), .int .u64 ((dg 2 (pr s) : Nat) : Int), .int .u64 ((dg 3 (pr s) : Nat) : Int)] 47, lst 1 (.slice qa q qc) q (en plx (fun i => (pa i, n, pc i)) q)] w) ?_ ?_
  ·
   intro hJ511
   refine d_join (n2 := 2) 383 (fun a w => ∃ (b1_8 : Nat), Kn [] 31 [(9, .pointer (some ⟨b1_8, 0, none⟩)), (22, vec (zv (zn s ix))), (21, .int .i64 ((ix : Nat) : Int)), (20, .slice (pa k) n (pc k)), (19, .pointer (some ((adq qa).add (k * 1)))), (18, .int .i64 (k : Int)), (17, .slice qa q qc), (16, vec (pr s)), (13, .bool true), (12, .int .i64 ((q : Nat) : Int)), (11, .slice qa q qc), (10, .int .i64 (k : Int)), (8, .int .i64 (k : Int)), (7, .slice ao k co), (6, .slice none 0 0), (3, .pointer (some ⟨b1, 0, none⟩)), (1, .slice qa q qc), (2, .int .i64 ((ix : Nat) : Int))] a ∧ Sat no W [blk b1_8 [.int .u64 0, .int .u64 0, .int .u64 0, .int .u64 0] 47, row 56 4 (.slice ao k co) k (en vq (fun i => mq (rEv (F i) (zn s ix) n)) k), blk b1 [.int .u64 ((dg 0 (pr s) : Nat) : Int), .int .u64 ((dg 1 (pr s) : Nat) : Int), .int .u64 ((dg 2 (pr s) : Nat) : Int), .int .u64 ((dg 3 (pr s) : Nat) : Int)] 47] [lst 1 (.slice qa q qc) q (en plx (fun i => (pa i, n, pc i)) q), rowB 47 n pa pc (fun k j => zv (F k j)) q] w ∧ okL [blk b1 [.int .u64 ((dg 0 (pr s) : Nat) : Int), .int .u64 ((dg 1 (pr s) : Nat) : Int), .int .u64 ((dg 2 (pr s) : Nat) : Int), .int .u64 ((dg 3 (pr s) : Nat) : Int)] 47, lst 1 (.slice qa q qc) q (en plx (fun i => (pa i, n, pc i)) q)] w) ?_ ?_
   ·
    intro hJ383
    refine d_w 0 1 hk hL rfl (fun w hL => w_ldv (z := pr s) rfl ty47 (.blk (n := 4) (hL.at 0 rfl) rfl)) fun a hk => ?_
    refine d_w 1 3 hk hL rfl (fun w hL => w_mv rfl) fun a hk => ?_
    refine d_w 2 7 hk hL rfl (fun w hL => w_mv rfl) fun a hk => ?_
    refine d_w 3 15 hk hL rfl (fun w hL => w_iaL (k := k) rfl rfl Tryz.underlying84 ty72 (hL.at 1 rfl) (by omega) (by omega)) fun a hk => ?_
    refine d_w 4 31 hk hL rfl (fun w hL => w_ld1 rfl ty72 (lstq (k := k) (hL.at 1 rfl) (by omega) (en_chunk plx_len (by omega)))) fun a hk => ?_
    refine d_w 5 63 hk hL rfl (fun w hL => w_mv rfl) fun a hk => ?_
    refine d_2 6 8 127 319 rfl rfl (by kernel_rfl) (fun K hK => ?_) (fun K hK => ?_)
    ·
     refine q_call (caps := []) hk rfl rfl Tryz.func93 fo93 rfl rfl (rpoint_z s ix _ hix) ?_
     rintro _ w ⟨rfl, hb⟩
     have hs := hs.below hb
     refine ⟨_, rfl, fun a hk => ?_⟩
     have hL := okL.cons (hs.mi 1 rfl) (okL.cons (hs.ri 0 rfl) okL.nil)
     refine c_end (x_t (hK _ _ hL ?_))
     clear hK K
     refine d_2 7 8 255 383 rfl rfl (by kernel_rfl) (fun K hK => ?_) (fun K hK => ?_)
     ·
      refine q_call (caps := []) hk rfl rfl Tryz.func92 fo92 rfl rfl (reval_z s n (pc k) (pa k) (F k) (zn s ix) _ ((rowB_lst (k := k) (hs.ri 1 rfl) (by omega))) (by omega)) ?_
      rintro _ w ⟨rfl, hb⟩
      have hs := hs.below hb
      refine ⟨_, rfl, fun a hk => ?_⟩
      have hL := okL.cons (hs.mi 1 rfl) (okL.cons (hs.ri 0 rfl) okL.nil)
      refine c_end (x_t (hK _ _ hL ?_))
      clear hK K
      refine d_1 8 511 rfl (by kernel_rfl) fun K hK => ?_
      refine q_alc (vs := [.int .u64 0, .int .u64 0, .int .u64 0, .int .u64 0]) hk hs zr47 rfl rfl rfl fun b1_8 w a hk hs => ?_
      have hL := okL.cons (hs.mi 2 rfl) (okL.cons (hs.ri 0 rfl) okL.nil)
      refine c_end (x_t (hK _ _ hL ?_))
      clear hK K
      have hL := okL.cons (hs.mi 2 rfl) (okL.cons (hs.ri 0 rfl) okL.nil)
      exact hJ511 _ _ ⟨_, hk.k rfl (hk.k rfl (hk.k rfl (hk.k rfl (hk.k rfl (hk.k rfl (hk.k rfl (hk.k rfl (hk.k rfl (hk.k rfl (hk.k rfl (hk.k rfl (hk.k rfl (hk.k rfl (hk.k rfl (hk.k rfl (hk.k rfl (hk.k rfl (hk.k rfl hk.nil)))))))))))))))))), hs, hL⟩
     ·
      refine q_alc (vs := [.int .u64 0, .int .u64 0, .int .u64 0, .int .u64 0]) hk hs zr47 rfl rfl rfl fun b1_8 w a hk hs => ?_
      have hL := okL.cons (hs.mi 2 rfl) (okL.cons (hs.ri 0 rfl) okL.nil)
      refine c_end (x_t (hK _ _ hL ?_))
      clear hK K
      have hL := okL.cons (hs.mi 2 rfl) (okL.cons (hs.ri 0 rfl) okL.nil)
      exact hJ383 _ _ ⟨_, hk.k rfl (hk.k rfl (hk.k rfl (hk.k rfl (hk.k rfl (hk.k rfl (hk.k rfl (hk.k rfl (hk.k rfl (hk.k rfl (hk.k rfl (hk.k rfl (hk.k rfl (hk.k rfl (hk.k rfl (hk.k rfl (hk.k rfl (hk.k rfl hk.nil))))))))))))))))), hs, hL⟩
    ·
     refine q_alc (vs := [.int .u64 0, .int .u64 0, .int .u64 0, .int .u64 0]) hk hs zr47 rfl rfl rfl fun b1_8 w a hk hs => ?_
     have hL := okL.cons (hs.mi 2 rfl) (okL.cons (hs.ri 0 rfl) okL.nil)
     refine c_end (x_t (hK _ _ hL ?_))
     clear hK K
     refine d_1 6 383 rfl (by kernel_rfl) fun K hK => ?_
     refine q_call (caps := []) hk rfl rfl Tryz.func93 fo93 rfl rfl (rpoint_z s ix _ hix) ?_
     rintro _ w ⟨rfl, hb⟩
     have hs := hs.below hb
     refine ⟨_, rfl, fun a hk => ?_⟩
     have hL := okL.cons (hs.mi 2 rfl) (okL.cons (hs.ri 0 rfl) okL.nil)
     refine c_end (x_t (hK _ _ hL ?_))
     clear hK K
     have hL := okL.cons (hs.mi 2 rfl) (okL.cons (hs.ri 0 rfl) okL.nil)
     exact hJ383 _ _ ⟨_, hk.k rfl (hk.k rfl (hk.k rfl (hk.k rfl (hk.k rfl (hk.k rfl (hk.k rfl (hk.k rfl (hk.k rfl (hk.k rfl (hk.k rfl (hk.k rfl (hk.k rfl (hk.k rfl (hk.k rfl (hk.k rfl (hk.k rfl (hk.k rfl hk.nil))))))))))))))))), hs, hL⟩
   ·
    rintro a w ⟨b1_8, hk, hs, hL⟩
    refine d_1 7 511 rfl (by kernel_rfl) fun K hK => ?_
    refine q_call (caps := []) hk rfl rfl Tryz.func92 fo92 rfl rfl (reval_z s n (pc k) (pa k) (F k) (zn s ix) _ ((rowB_lst (k := k) (hs.ri 1 rfl) (by omega))) (by omega)) ?_
    rintro _ w ⟨rfl, hb⟩
    have hs := hs.below hb
    refine ⟨_, rfl, fun a hk => ?_⟩
    have hL := okL.cons (hs.mi 2 rfl) (okL.cons (hs.ri 0 rfl) okL.nil)
    refine c_end (x_t (hK _ _ hL ?_))
    clear hK K
    have hL := okL.cons (hs.mi 2 rfl) (okL.cons (hs.ri 0 rfl) okL.nil)
    exact hJ511 _ _ ⟨_, hk.k rfl (hk.k rfl (hk.k rfl (hk.k rfl (hk.k rfl (hk.k rfl (hk.k rfl (hk.k rfl (hk.k rfl (hk.k rfl (hk.k rfl (hk.k rfl (hk.k rfl (hk.k rfl (hk.k rfl (hk.k rfl (hk.k rfl (hk.k rfl (hk.k rfl hk.nil)))))))))))))))))), hs, hL⟩
  ·
   rintro a w ⟨b1_8, hk, hs, hL⟩
   refine d_1 9 1023 rfl (by kernel_rfl) fun K hK => ?_
   refine q_sto (o := 0) (cs := [.int .u64 ((dg 0 (zv (rEv (F k) (zn s ix) n)) : Nat) : Int), .int .u64 ((dg 1 (zv (rEv (F k) (zn s ix) n)) : Nat) : Int), .int .u64 ((dg 2 (zv (rEv (F k) (zn s ix) n)) : Nat) : Int), .int .u64 ((dg 3 (zv (rEv (F k) (zn s ix) n)) : Nat) : Int)]) (vs' := [.int .u64 ((dg 0 (zv (rEv (F k) (zn s ix) n)) : Nat) : Int), .int .u64 ((dg 1 (zv (rEv (F k) (zn s ix) n)) : Nat) : Int), .int .u64 ((dg 2 (zv (rEv (F k) (zn s ix) n)) : Nat) : Int), .int .u64 ((dg 3 (zv (rEv (F k) (zn s ix) n)) : Nat) : Int)]) hk hs rfl rfl rfl ty47 rfl rfl rfl rfl rfl rfl fun w hs => ?_
   have hL := okL.cons (hs.mi 2 rfl) (okL.cons (hs.ri 0 rfl) okL.nil)
   refine c_end (x_t (hK _ _ hL ?_))
   clear hK K
   refine d_end (by kernel_rfl) ?_
   refine (x_t ?_)
   refine wR ?_
   refine q_v hk (w_mv rfl) fun a hk => ?_
   refine q_v hk (w_ldv (z := pr s) rfl ty47 (.blk (n := 4) (hs.mi 2 rfl) rfl)) fun a hk => ?_
   refine q_v hk (w_ldv (z := zv (rEv (F k) (zn s ix) n)) rfl ty47 (.blk (n := 4) (hs.mi 0 rfl) rfl)) fun a hk => ?_
   refine q_call (caps := []) hk rfl rfl Tryz.func43 fo43 rfl rfl (rform_z (x := rEv (F k) (zn s ix) n) _ rfl) ?_
   rintro _ w ⟨rfl, hb⟩
   have hs := hs.below hb
   refine ⟨_, rfl, fun a hk => ?_⟩
   refine q_bsl (els := [.tmp 27]) (cs := [.int .u64 ((dg 0 (mq (rEv (F k) (zn s ix) n)) : Nat) : Int), .int .u64 ((dg 1 (mq (rEv (F k) (zn s ix) n)) : Nat) : Int), .int .u64 ((dg 2 (mq (rEv (F k) (zn s ix) n)) : Nat) : Int), .int .u64 ((dg 3 (mq (rEv (F k) (zn s ix) n)) : Nat) : Int)]) hk hs rfl Tryz.underlying51 ty56 zr56 rfl rfl rfl rfl rfl rfl rfl fun b3 w a hk hs => ?_
   have hs := hs.up2
   refine q_app (news := [.int .u64 ((dg 0 (mq (rEv (F k) (zn s ix) n)) : Nat) : Int), .int .u64 ((dg 1 (mq (rEv (F k) (zn s ix) n)) : Nat) : Int), .int .u64 ((dg 2 (mq (rEv (F k) (zn s ix) n)) : Nat) : Int), .int .u64 ((dg 3 (mq (rEv (F k) (zn s ix) n)) : Nat) : Int)]) (m := 1) hk hs rfl rfl Tryz.underlying51 ty56 zr56 rfl rfl (.blk (n := 4) (hs.mi 1 rfl) rfl) rfl rfl (by omega) (by omega) rfl rfl fun a4 c5 w a hk hs => ?_
   have hs := hs.up1
   have hs := hs.drop
   refine q_v hk (w_as rfl) fun a hk => ?_
   refine (c_end (x_b (x_t ?_)))
   refine wR ?_
   refine q_v hk (w_mv rfl) fun a hk => ?_
   refine q_v hk (w_add rfl rfl (wr64 (by omega) (by omega))) fun a hk => ?_
   refine q_v hk (w_as rfl) fun a hk => ?_
   refine c_end (x_t ?_)
   have hs := hs.rw0 (congrArg _ en_succ)
   have hs := hs.up1
   have hs := hs.drop
   exact ⟨k + 1, ⟨_, _, (by omega), hk.k rfl (hk.k rfl (hk.k rfl (hk.k rfl (hk.k rfl (hk.k rfl hk.nil))))), hs⟩, by omega⟩
 ·
  refine q_v hk (w_lt rfl rfl (decide_eq_false hc2)) fun a hk => ?_
  refine c_end (x_t ?_)
  refine c_F hk rfl ?_
  refine (wpIn_exit (x_te (x_te (x_be ?_))))
  refine (x_t ?_)
  refine wS (wR ?_)
  refine q_v hk (w_mv rfl) fun a hk => ?_
  refine q_v hk (w_as rfl) fun a hk => ?_
  refine c_end (x_t ?_)
  refine (wpIn_ret ?_)
  refine c_ret1 hk rfl rfl ?_
  have hs := hs.up1
  have hs := hs.drop
  have hkq : k = q := by omega
  rw [hkq] at hs ⊢
  exact ⟨_, _, rfl, hs.fin⟩
end Go.Proofs.YtdnkkbmpefhbjaaGreatDoor
