/- Part 5 of what the proof of JoinValues, JoinCombines, JoinAt needs: joined out of the texts of this seat, only what is used. -/
import Derived.Test.YtdnkkbmpefhbjaaGreatDoorPbD
import Derived.Deep.AppendSrc
import Derived.Deep.Upon
import Derived.Shelf.Bytes.SlEqualAll
namespace Go.Proofs.YtdnkkbmpefhbjaaGreatDoor
set_option linter.all false
open Go Go.RowKit Alg
section
variable {S : Nat → Shr} {m k j : Nat}
theorem csErr_14 (h1 : csE S m = 0) (hk : k < m) (h : hdr (S k) ≠ hdr (S 0)) : csErr S m = 14 := by
  unfold csErr
  rw [if_neg (by simp [h1]), if_pos]
  cases hm : mixS S m with
  | true => rfl
  | false => exact absurd (mixS_false.1 hm k hk) h
theorem csErr_15 (h1 : csE S m = 0) (h2 : ∀ k, k < m → hdr (S k) = hdr (S 0)) (hj : j < k) (hk : k < m) (h : (S k).I = (S j).I) : csErr S m = 15 := by
  unfold csErr
  rw [if_neg (by simp [h1]), if_neg (by rw [mixS_false.2 h2]; exact Bool.false_ne_true), if_pos]
  have hle := ksv_le (fun i => (S i).I) m
  have hne : (ksv (fun i => (S i).I) m).length ≠ m := fun e => (ksv_nodup.1 e) j k hj hk h.symm
  omega
theorem csErr_16 (h1 : csE S m = 0) (h2 : ∀ k, k < m → hdr (S k) = hdr (S 0)) (h3 : ∀ i k, i < k → k < m → (S i).I ≠ (S k).I) (h : ((m : Nat) : Int) = 0 ∨ ((m : Nat) : Int) < (S 0).T) : csErr S m = 16 := by
  unfold csErr
  have hk := ksv_nodup (v := fun i => (S i).I).2 h3
  rw [if_neg (by simp [h1]), if_neg (by rw [mixS_false.2 h2]; exact Bool.false_ne_true), if_neg (by omega), if_pos h]
theorem csErr_0 (h1 : csE S m = 0) (h2 : ∀ k, k < m → hdr (S k) = hdr (S 0)) (h3 : ∀ i k, i < k → k < m → (S i).I ≠ (S k).I) (h : ¬ (((m : Nat) : Int) = 0 ∨ ((m : Nat) : Int) < (S 0).T)) : csErr S m = 0 := by
  unfold csErr
  have hk := ksv_nodup (v := fun i => (S i).I).2 h3
  rw [if_neg (by simp [h1]), if_neg (by rw [mixS_false.2 h2]; exact Bool.false_ne_true), if_neg (by omega), if_neg h]
end
theorem refCkShares_c (m lc : Nat) (la : Option Addr) (S : Nat → Shr) (W : World) (HS : (shareR la m lc S).ok W) (HO : ShOk S m) : Calls Tryz.prog 18 [.slice la m lc].toArray W fun e w => e = .returned (.int .i64 (csErr S m)) ∧ Below W.heap.size W w := by
 have hm6 := HO.m_le
 refine c_enter (args := [.slice la m lc]) Tryz.func18 rfl rfl rfl fun a hk => ?_
 have hs := Sat.start W [shareR la m lc S] (okr1 HS)
 refine wS (wR ?_)
 refine q_v hk (w_as rfl) fun a hk => ?_
 refine c_end (x_t (wS (wS (wR ?_))))
 refine q_v hk (w_as rfl) fun a hk => ?_
 refine c_end (x_t ?_)
 refine wpIn_block ?_
 refine c_loop (α := Nat) (fun i a w => i ≤ m ∧ csE S i = 0 ∧ Kn [] 96 [(3, .int .i64 ((i : Nat) : Int)), (0, .slice la m lc)] a ∧ Sat no W [] [shareR la m lc S] w) (fun i => m - i) 0 ?_ ?_
 · exact ⟨(by omega), rfl, hk.k rfl (hk.k rfl hk.nil), hs⟩
 rintro i a w ⟨hf0, hf1, hk, hs⟩
 refine wS (wS (wR ?_))
 refine q_v hk (w_mv rfl) fun a hk => ?_
 refine q_v hk (w_mv rfl) fun a hk => ?_
 refine q_v hk (w_len rfl Tryz.underlying22) fun a hk => ?_
 rcases Classical.em (((i : Nat) : Int) < ((m : Nat) : Int)) with hc1 | hc1
 ·
  have hlt : i < m := by omega
  refine q_v hk (w_lt rfl rfl (decide_eq_true hc1)) fun a hk => ?_
  refine c_end (x_t ?_)
  refine c_T hk rfl ?_
  refine (wpIn_skip (x_t ?_))
  refine wS ?_
  refine wpIn_block ?_
  refine wS (wR ?_)
  refine q_v hk (w_mv rfl) fun a hk => ?_
  refine q_v hk (w_mv rfl) fun a hk => ?_
  refine q_v hk (w_iaL (k := i) rfl rfl Tryz.underlying22 ty53 ((share_lst (HasR.nth 0 rfl : HasR (shareR la m lc S) _)).at_ hs) (by omega) (by omega)) fun a hk => ?_
  refine q_v hk (w_ldA rfl ty53 (lstq (k := i) ((share_lst (HasR.nth 0 rfl : HasR (shareR la m lc S) _)).at_ hs) (by omega) (en_chunk shc_len (by omega))) rfl) fun a hk => ?_
  refine q_call (caps := []) hk rfl rfl Tryz.func56 fo56 rfl rfl (refCkShare_c _ _ _ _ _ _ _ (S i).X _ ((share_pay (k := i) (HasR.nth 0 rfl : HasR (shareR la m lc S) _) (by omega)).at_ hs) (HO.n_le i hlt) (HO.x_lt i hlt)) ?_
  rintro _ w ⟨rfl, hb⟩
  have hs := hs.below hb
  refine ⟨_, rfl, fun a hk => ?_⟩
  refine q_v hk (w_as rfl) fun a hk => ?_
  refine c_end (x_t (wS (wR ?_)))
  refine q_v hk (w_mv rfl) fun a hk => ?_
  rcases Classical.em ((shE (S i)) ≠ 0) with hc2 | hc2
  ·
   refine q_v hk (w_ne rfl rfl (decide_eq_true hc2)) fun a hk => ?_
   refine c_end (x_t ?_)
   refine c_T hk rfl ?_
   refine wS (wR ?_)
   refine q_v hk (w_mv rfl) fun a hk => ?_
   refine q_v hk (w_as rfl) fun a hk => ?_
   refine c_end (x_t ?_)
   refine (wpIn_ret (x_br (x_tr (x_tr (x_br (x_tr ?_))))))
   refine c_ret1 hk rfl rfl ?_
   exact ⟨by rw [csErr_at hf1 (by assumption) (by omega)]; rfl, hs.toBelow⟩
  ·
   refine q_v hk (w_ne rfl rfl (decide_eq_false hc2)) fun a hk => ?_
   refine c_end (x_t ?_)
   refine c_F hk rfl ?_
   refine (wpIn_skip (x_b (x_t ?_)))
   refine wR ?_
   refine q_v hk (w_mv rfl) fun a hk => ?_
   refine q_v hk (w_add rfl rfl (wr64 (by omega) (by omega))) fun a hk => ?_
   refine q_v hk (w_as rfl) fun a hk => ?_
   refine c_end (x_t ?_)
   exact ⟨i + 1, ⟨(by omega), (csE_next hf1 (by first | assumption | omega)), hk.k rfl (hk.k rfl hk.nil), hs⟩, by omega⟩
 ·
  have hE : csE S m = 0 := by rw [show m = i by omega]; exact hf1
  refine q_v hk (w_lt rfl rfl (decide_eq_false hc1)) fun a hk => ?_
  refine c_end (x_t ?_)
  refine c_F hk rfl ?_
  refine (wpIn_exit (x_te (x_te (x_be ?_))))
  refine (x_t ?_)
  refine wS (wS (wR ?_))
  refine q_v hk (w_as rfl) fun a hk => ?_
  refine c_end (x_t ?_)
  refine wpIn_block ?_
  refine c_loop (α := Nat) (fun k a w => (1 ≤ k ∧ (k ≤ m ∨ k = 1)) ∧ (∀ q, q < k → hdr (S q) = hdr (S 0)) ∧ Kn [] 96 [(5, .int .i64 ((k : Nat) : Int)), (0, .slice la m lc)] a ∧ Sat no W [] [shareR la m lc S] w) (fun k => m - k) 1 ?_ ?_
  · exact ⟨(by omega), (fun q hq => by rw [show q = 0 by omega]), hk.k rfl (hk.k rfl hk.nil), hs⟩
  rintro k a w ⟨hf0, hf1, hk, hs⟩
  have hf2 := hf1
  refine wS (wS (wR ?_))
  refine q_v hk (w_mv rfl) fun a hk => ?_
  refine q_v hk (w_mv rfl) fun a hk => ?_
  refine q_v hk (w_len rfl Tryz.underlying22) fun a hk => ?_
  rcases Classical.em (((k : Nat) : Int) < ((m : Nat) : Int)) with hc3 | hc3
  ·
   have hltk : k < m := by omega
   refine q_v hk (w_lt rfl rfl (decide_eq_true hc3)) fun a hk => ?_
   refine c_end (x_t ?_)
   refine c_T hk rfl ?_
   refine (wpIn_skip (x_t ?_))
   refine wS ?_
   refine wpIn_block ?_
   refine wS ?_
   rcases Classical.em ((S k).F ≠ (S 0).F) with hc4 | hc4
   ·
    have hdf : hdr (S k) ≠ hdr (S 0) := fun e => by unfold hdr at e; simp only [Prod.mk.injEq] at e; first | exact absurd e.1 (by assumption) | exact absurd e.2.1 (by assumption) | exact absurd e.2.2 (by assumption)
    have hL := okL.cons ((share_lst (HasR.nth 0 rfl : HasR (shareR la m lc S) _)).at_ hs) okL.nil
    refine d_begin _ 34 (by kernel_rfl) rfl hs hL fun w hs hL => ?_
    refine d_w 0 1 hk hL rfl (fun w hL => w_mv rfl) fun a hk => ?_
    refine d_w 1 3 hk hL rfl (fun w hL => w_mv rfl) fun a hk => ?_
    refine d_w 2 7 hk hL rfl (fun w hL => w_iaL (k := k) rfl rfl Tryz.underlying22 ty53 (hL.at 0 rfl) (by omega) (by omega)) fun a hk => ?_
    refine d_w 3 15 hk hL rfl (fun w hL => w_fa rfl fq53_0 ty3) fun a hk => ?_
    refine d_w 4 31 hk hL rfl (fun w hL => w_ld1 rfl ty3 (lstf (k := k) (o := 0) (m := 1) (hL.at 0 rfl) (by omega) (en_chunk shc_len (by omega)) rfl)) fun a hk => ?_
    refine d_w 5 63 hk hL rfl (fun w hL => w_mv rfl) fun a hk => ?_
    refine d_w 6 127 hk hL rfl (fun w hL => w_iaL (k := 0) rfl rfl Tryz.underlying22 ty53 (hL.at 0 rfl) (by omega) (by omega)) fun a hk => ?_
    refine d_w 7 255 hk hL rfl (fun w hL => w_fa rfl fq53_0 ty3) fun a hk => ?_
    refine d_w 8 511 hk hL rfl (fun w hL => w_ld1 rfl ty3 (lstf (k := 0) (o := 0) (m := 1) (hL.at 0 rfl) (by omega) (en_chunk shc_len (by omega)) rfl)) fun a hk => ?_
    refine d_w 9 1023 hk hL rfl (fun w hL => w_ne rfl rfl (decide_eq_true hc4)) fun a hk => ?_
    refine d_w 10 2047 hk hL rfl (fun w hL => w_mv rfl) fun a hk => ?_
    refine d_s 11 4095 hk hL rfl (by kernel_rfl) rfl rfl fun a hk => ?_
    refine d_s 12 8191 hk hL rfl (by kernel_rfl) rfl rfl fun a hk => ?_
    refine d_s 13 16383 hk hL rfl (by kernel_rfl) rfl rfl fun a hk => ?_
    refine d_s 14 32767 hk hL rfl (by kernel_rfl) rfl rfl fun a hk => ?_
    refine d_s 15 65535 hk hL rfl (by kernel_rfl) rfl rfl fun a hk => ?_
    refine d_s 16 131071 hk hL rfl (by kernel_rfl) rfl rfl fun a hk => ?_
    refine d_s 17 262143 hk hL rfl (by kernel_rfl) rfl rfl fun a hk => ?_
    refine d_s 18 524287 hk hL rfl (by kernel_rfl) rfl rfl fun a hk => ?_
    refine d_s 19 1048575 hk hL rfl (by kernel_rfl) rfl rfl fun a hk => ?_
    refine d_s 20 2097151 hk hL rfl (by kernel_rfl) rfl rfl fun a hk => ?_
    refine d_w 21 4194303 hk hL rfl (fun w hL => w_pickT rfl rfl) fun a hk => ?_
    refine d_w 22 8388607 hk hL rfl (fun w hL => w_mv rfl) fun a hk => ?_
    refine d_s 23 16777215 hk hL rfl (by kernel_rfl) rfl rfl fun a hk => ?_
    refine d_s 24 33554431 hk hL rfl (by kernel_rfl) rfl rfl fun a hk => ?_
    refine d_s 25 67108863 hk hL rfl (by kernel_rfl) rfl rfl fun a hk => ?_
    refine d_s 26 134217727 hk hL rfl (by kernel_rfl) rfl rfl fun a hk => ?_
    refine d_s 27 268435455 hk hL rfl (by kernel_rfl) rfl rfl fun a hk => ?_
    refine d_s 28 536870911 hk hL rfl (by kernel_rfl) rfl rfl fun a hk => ?_
    refine d_s 29 1073741823 hk hL rfl (by kernel_rfl) rfl rfl fun a hk => ?_
    refine d_s 30 2147483647 hk hL rfl (by kernel_rfl) rfl rfl fun a hk => ?_
    refine d_s 31 4294967295 hk hL rfl (by kernel_rfl) rfl rfl fun a hk => ?_
    refine d_s 32 8589934591 hk hL rfl (by kernel_rfl) rfl rfl fun a hk => ?_
    refine d_w 33 17179869183 hk hL rfl (fun w hL => w_pickT rfl rfl) fun a hk => ?_
    refine d_end (by kernel_rfl) ?_
    refine (x_t ?_)
    refine c_T hk rfl ?_
    refine wS (wR ?_)
    refine q_v hk (w_as rfl) fun a hk => ?_
    refine c_end (x_t ?_)
    refine (wpIn_ret (x_br (x_tr (x_tr (x_br (x_tr ?_))))))
    refine c_ret1 hk rfl rfl ?_
    exact ⟨by rw [csErr_14 hE hltk hdf], hs.toBelow⟩
   ·
    rcases Classical.em ((S k).T ≠ (S 0).T) with hc5 | hc5
    ·
     have hdf : hdr (S k) ≠ hdr (S 0) := fun e => by unfold hdr at e; simp only [Prod.mk.injEq] at e; first | exact absurd e.1 (by assumption) | exact absurd e.2.1 (by assumption) | exact absurd e.2.2 (by assumption)
     have hL := okL.cons ((share_lst (HasR.nth 0 rfl : HasR (shareR la m lc S) _)).at_ hs) okL.nil
     refine d_begin _ 34 (by kernel_rfl) rfl hs hL fun w hs hL => ?_
     refine d_w 0 1 hk hL rfl (fun w hL => w_mv rfl) fun a hk => ?_
     refine d_w 1 3 hk hL rfl (fun w hL => w_mv rfl) fun a hk => ?_
     refine d_w 2 7 hk hL rfl (fun w hL => w_iaL (k := k) rfl rfl Tryz.underlying22 ty53 (hL.at 0 rfl) (by omega) (by omega)) fun a hk => ?_
     refine d_w 3 15 hk hL rfl (fun w hL => w_fa rfl fq53_0 ty3) fun a hk => ?_
     refine d_w 4 31 hk hL rfl (fun w hL => w_ld1 rfl ty3 (lstf (k := k) (o := 0) (m := 1) (hL.at 0 rfl) (by omega) (en_chunk shc_len (by omega)) rfl)) fun a hk => ?_
     refine d_w 5 63 hk hL rfl (fun w hL => w_mv rfl) fun a hk => ?_
     refine d_w 6 127 hk hL rfl (fun w hL => w_iaL (k := 0) rfl rfl Tryz.underlying22 ty53 (hL.at 0 rfl) (by omega) (by omega)) fun a hk => ?_
     refine d_w 7 255 hk hL rfl (fun w hL => w_fa rfl fq53_0 ty3) fun a hk => ?_
     refine d_w 8 511 hk hL rfl (fun w hL => w_ld1 rfl ty3 (lstf (k := 0) (o := 0) (m := 1) (hL.at 0 rfl) (by omega) (en_chunk shc_len (by omega)) rfl)) fun a hk => ?_
     refine d_w 9 1023 hk hL rfl (fun w hL => w_ne rfl rfl (decide_eq_false hc4)) fun a hk => ?_
     refine d_w 10 2047 hk hL rfl (fun w hL => w_mv rfl) fun a hk => ?_
     refine d_w 11 4095 hk hL rfl (fun w hL => w_mv rfl) fun a hk => ?_
     refine d_w 12 8191 hk hL rfl (fun w hL => w_mv rfl) fun a hk => ?_
     refine d_w 13 16383 hk hL rfl (fun w hL => w_iaL (k := k) rfl rfl Tryz.underlying22 ty53 (hL.at 0 rfl) (by omega) (by omega)) fun a hk => ?_
     refine d_w 14 32767 hk hL rfl (fun w hL => w_fa rfl fq53_1 ty3) fun a hk => ?_
     refine d_w 15 65535 hk hL rfl (fun w hL => w_ld1 rfl ty3 (lstf (k := k) (o := 1) (m := 1) (hL.at 0 rfl) (by omega) (en_chunk shc_len (by omega)) rfl)) fun a hk => ?_
     refine d_w 16 131071 hk hL rfl (fun w hL => w_mv rfl) fun a hk => ?_
     refine d_w 17 262143 hk hL rfl (fun w hL => w_iaL (k := 0) rfl rfl Tryz.underlying22 ty53 (hL.at 0 rfl) (by omega) (by omega)) fun a hk => ?_
     refine d_w 18 524287 hk hL rfl (fun w hL => w_fa rfl fq53_1 ty3) fun a hk => ?_
     refine d_w 19 1048575 hk hL rfl (fun w hL => w_ld1 rfl ty3 (lstf (k := 0) (o := 1) (m := 1) (hL.at 0 rfl) (by omega) (en_chunk shc_len (by omega)) rfl)) fun a hk => ?_
     refine d_w 20 2097151 hk hL rfl (fun w hL => w_ne rfl rfl (decide_eq_true hc5)) fun a hk => ?_
     refine d_w 21 4194303 hk hL rfl (fun w hL => w_pickF rfl rfl) fun a hk => ?_
     refine d_w 22 8388607 hk hL rfl (fun w hL => w_mv rfl) fun a hk => ?_
     refine d_s 23 16777215 hk hL rfl (by kernel_rfl) rfl rfl fun a hk => ?_
     refine d_s 24 33554431 hk hL rfl (by kernel_rfl) rfl rfl fun a hk => ?_
     refine d_s 25 67108863 hk hL rfl (by kernel_rfl) rfl rfl fun a hk => ?_
     refine d_s 26 134217727 hk hL rfl (by kernel_rfl) rfl rfl fun a hk => ?_
     refine d_s 27 268435455 hk hL rfl (by kernel_rfl) rfl rfl fun a hk => ?_
     refine d_s 28 536870911 hk hL rfl (by kernel_rfl) rfl rfl fun a hk => ?_
     refine d_s 29 1073741823 hk hL rfl (by kernel_rfl) rfl rfl fun a hk => ?_
     refine d_s 30 2147483647 hk hL rfl (by kernel_rfl) rfl rfl fun a hk => ?_
     refine d_s 31 4294967295 hk hL rfl (by kernel_rfl) rfl rfl fun a hk => ?_
     refine d_s 32 8589934591 hk hL rfl (by kernel_rfl) rfl rfl fun a hk => ?_
     refine d_w 33 17179869183 hk hL rfl (fun w hL => w_pickT rfl rfl) fun a hk => ?_
     refine d_end (by kernel_rfl) ?_
     refine (x_t ?_)
     refine c_T hk rfl ?_
     refine wS (wR ?_)
     refine q_v hk (w_as rfl) fun a hk => ?_
     refine c_end (x_t ?_)
     refine (wpIn_ret (x_br (x_tr (x_tr (x_br (x_tr ?_))))))
     refine c_ret1 hk rfl rfl ?_
     exact ⟨by rw [csErr_14 hE hltk hdf], hs.toBelow⟩
    ·
     rcases Classical.em ((S k).L ≠ (S 0).L) with hc6 | hc6
     ·
      have hdf : hdr (S k) ≠ hdr (S 0) := fun e => by unfold hdr at e; simp only [Prod.mk.injEq] at e; first | exact absurd e.1 (by assumption) | exact absurd e.2.1 (by assumption) | exact absurd e.2.2 (by assumption)
      have hL := okL.cons ((share_lst (HasR.nth 0 rfl : HasR (shareR la m lc S) _)).at_ hs) okL.nil
      refine d_begin _ 34 (by kernel_rfl) rfl hs hL fun w hs hL => ?_
      refine d_w 0 1 hk hL rfl (fun w hL => w_mv rfl) fun a hk => ?_
      refine d_w 1 3 hk hL rfl (fun w hL => w_mv rfl) fun a hk => ?_
      refine d_w 2 7 hk hL rfl (fun w hL => w_iaL (k := k) rfl rfl Tryz.underlying22 ty53 (hL.at 0 rfl) (by omega) (by omega)) fun a hk => ?_
      refine d_w 3 15 hk hL rfl (fun w hL => w_fa rfl fq53_0 ty3) fun a hk => ?_
      refine d_w 4 31 hk hL rfl (fun w hL => w_ld1 rfl ty3 (lstf (k := k) (o := 0) (m := 1) (hL.at 0 rfl) (by omega) (en_chunk shc_len (by omega)) rfl)) fun a hk => ?_
      refine d_w 5 63 hk hL rfl (fun w hL => w_mv rfl) fun a hk => ?_
      refine d_w 6 127 hk hL rfl (fun w hL => w_iaL (k := 0) rfl rfl Tryz.underlying22 ty53 (hL.at 0 rfl) (by omega) (by omega)) fun a hk => ?_
      refine d_w 7 255 hk hL rfl (fun w hL => w_fa rfl fq53_0 ty3) fun a hk => ?_
      refine d_w 8 511 hk hL rfl (fun w hL => w_ld1 rfl ty3 (lstf (k := 0) (o := 0) (m := 1) (hL.at 0 rfl) (by omega) (en_chunk shc_len (by omega)) rfl)) fun a hk => ?_
      refine d_w 9 1023 hk hL rfl (fun w hL => w_ne rfl rfl (decide_eq_false hc4)) fun a hk => ?_
      refine d_w 10 2047 hk hL rfl (fun w hL => w_mv rfl) fun a hk => ?_
      refine d_w 11 4095 hk hL rfl (fun w hL => w_mv rfl) fun a hk => ?_
      refine d_w 12 8191 hk hL rfl (fun w hL => w_mv rfl) fun a hk => ?_
      refine d_w 13 16383 hk hL rfl (fun w hL => w_iaL (k := k) rfl rfl Tryz.underlying22 ty53 (hL.at 0 rfl) (by omega) (by omega)) fun a hk => ?_
      refine d_w 14 32767 hk hL rfl (fun w hL => w_fa rfl fq53_1 ty3) fun a hk => ?_
      refine d_w 15 65535 hk hL rfl (fun w hL => w_ld1 rfl ty3 (lstf (k := k) (o := 1) (m := 1) (hL.at 0 rfl) (by omega) (en_chunk shc_len (by omega)) rfl)) fun a hk => ?_
      refine d_w 16 131071 hk hL rfl (fun w hL => w_mv rfl) fun a hk => ?_
      refine d_w 17 262143 hk hL rfl (fun w hL => w_iaL (k := 0) rfl rfl Tryz.underlying22 ty53 (hL.at 0 rfl) (by omega) (by omega)) fun a hk => ?_
      refine d_w 18 524287 hk hL rfl (fun w hL => w_fa rfl fq53_1 ty3) fun a hk => ?_
      refine d_w 19 1048575 hk hL rfl (fun w hL => w_ld1 rfl ty3 (lstf (k := 0) (o := 1) (m := 1) (hL.at 0 rfl) (by omega) (en_chunk shc_len (by omega)) rfl)) fun a hk => ?_
      refine d_w 20 2097151 hk hL rfl (fun w hL => w_ne rfl rfl (decide_eq_false hc5)) fun a hk => ?_
      refine d_w 21 4194303 hk hL rfl (fun w hL => w_pickF rfl rfl) fun a hk => ?_
      refine d_w 22 8388607 hk hL rfl (fun w hL => w_mv rfl) fun a hk => ?_
      refine d_w 23 16777215 hk hL rfl (fun w hL => w_mv rfl) fun a hk => ?_
      refine d_w 24 33554431 hk hL rfl (fun w hL => w_mv rfl) fun a hk => ?_
      refine d_w 25 67108863 hk hL rfl (fun w hL => w_iaL (k := k) rfl rfl Tryz.underlying22 ty53 (hL.at 0 rfl) (by omega) (by omega)) fun a hk => ?_
      refine d_w 26 134217727 hk hL rfl (fun w hL => w_fa rfl fq53_3 ty3) fun a hk => ?_
      refine d_w 27 268435455 hk hL rfl (fun w hL => w_ld1 rfl ty3 (lstf (k := k) (o := 3) (m := 1) (hL.at 0 rfl) (by omega) (en_chunk shc_len (by omega)) rfl)) fun a hk => ?_
      refine d_w 28 536870911 hk hL rfl (fun w hL => w_mv rfl) fun a hk => ?_
      refine d_w 29 1073741823 hk hL rfl (fun w hL => w_iaL (k := 0) rfl rfl Tryz.underlying22 ty53 (hL.at 0 rfl) (by omega) (by omega)) fun a hk => ?_
      refine d_w 30 2147483647 hk hL rfl (fun w hL => w_fa rfl fq53_3 ty3) fun a hk => ?_
      refine d_w 31 4294967295 hk hL rfl (fun w hL => w_ld1 rfl ty3 (lstf (k := 0) (o := 3) (m := 1) (hL.at 0 rfl) (by omega) (en_chunk shc_len (by omega)) rfl)) fun a hk => ?_
      refine d_w 32 8589934591 hk hL rfl (fun w hL => w_ne rfl rfl (decide_eq_true hc6)) fun a hk => ?_
      refine d_w 33 17179869183 hk hL rfl (fun w hL => w_pickF rfl rfl) fun a hk => ?_
      refine d_end (by kernel_rfl) ?_
      refine (x_t ?_)
      refine c_T hk rfl ?_
      refine wS (wR ?_)
      refine q_v hk (w_as rfl) fun a hk => ?_
      refine c_end (x_t ?_)
      refine (wpIn_ret (x_br (x_tr (x_tr (x_br (x_tr ?_))))))
      refine c_ret1 hk rfl rfl ?_
      exact ⟨by rw [csErr_14 hE hltk hdf], hs.toBelow⟩
     ·
      have hne : ∀ q, q < k + 1 → hdr (S q) = hdr (S 0) := fun q hq => if e : q = k then (by subst e; unfold hdr; simp only [ne_eq, Classical.not_not] at *; simp [*]) else hf2 q (by omega)
      have hL := okL.cons ((share_lst (HasR.nth 0 rfl : HasR (shareR la m lc S) _)).at_ hs) okL.nil
      refine d_begin _ 34 (by kernel_rfl) rfl hs hL fun w hs hL => ?_
      refine d_w 0 1 hk hL rfl (fun w hL => w_mv rfl) fun a hk => ?_
      refine d_w 1 3 hk hL rfl (fun w hL => w_mv rfl) fun a hk => ?_
      refine d_w 2 7 hk hL rfl (fun w hL => w_iaL (k := k) rfl rfl Tryz.underlying22 ty53 (hL.at 0 rfl) (by omega) (by omega)) fun a hk => ?_
      refine d_w 3 15 hk hL rfl (fun w hL => w_fa rfl fq53_0 ty3) fun a hk => ?_
      refine d_w 4 31 hk hL rfl (fun w hL => w_ld1 rfl ty3 (lstf (k := k) (o := 0) (m := 1) (hL.at 0 rfl) (by omega) (en_chunk shc_len (by omega)) rfl)) fun a hk => ?_
      refine d_w 5 63 hk hL rfl (fun w hL => w_mv rfl) fun a hk => ?_
      refine d_w 6 127 hk hL rfl (fun w hL => w_iaL (k := 0) rfl rfl Tryz.underlying22 ty53 (hL.at 0 rfl) (by omega) (by omega)) fun a hk => ?_
      refine d_w 7 255 hk hL rfl (fun w hL => w_fa rfl fq53_0 ty3) fun a hk => ?_
      refine d_w 8 511 hk hL rfl (fun w hL => w_ld1 rfl ty3 (lstf (k := 0) (o := 0) (m := 1) (hL.at 0 rfl) (by omega) (en_chunk shc_len (by omega)) rfl)) fun a hk => ?_
      refine d_w 9 1023 hk hL rfl (fun w hL => w_ne rfl rfl (decide_eq_false hc4)) fun a hk => ?_
      refine d_w 10 2047 hk hL rfl (fun w hL => w_mv rfl) fun a hk => ?_
      refine d_w 11 4095 hk hL rfl (fun w hL => w_mv rfl) fun a hk => ?_
      refine d_w 12 8191 hk hL rfl (fun w hL => w_mv rfl) fun a hk => ?_
      refine d_w 13 16383 hk hL rfl (fun w hL => w_iaL (k := k) rfl rfl Tryz.underlying22 ty53 (hL.at 0 rfl) (by omega) (by omega)) fun a hk => ?_
      refine d_w 14 32767 hk hL rfl (fun w hL => w_fa rfl fq53_1 ty3) fun a hk => ?_
      refine d_w 15 65535 hk hL rfl (fun w hL => w_ld1 rfl ty3 (lstf (k := k) (o := 1) (m := 1) (hL.at 0 rfl) (by omega) (en_chunk shc_len (by omega)) rfl)) fun a hk => ?_
      refine d_w 16 131071 hk hL rfl (fun w hL => w_mv rfl) fun a hk => ?_
      refine d_w 17 262143 hk hL rfl (fun w hL => w_iaL (k := 0) rfl rfl Tryz.underlying22 ty53 (hL.at 0 rfl) (by omega) (by omega)) fun a hk => ?_
      refine d_w 18 524287 hk hL rfl (fun w hL => w_fa rfl fq53_1 ty3) fun a hk => ?_
      refine d_w 19 1048575 hk hL rfl (fun w hL => w_ld1 rfl ty3 (lstf (k := 0) (o := 1) (m := 1) (hL.at 0 rfl) (by omega) (en_chunk shc_len (by omega)) rfl)) fun a hk => ?_
      refine d_w 20 2097151 hk hL rfl (fun w hL => w_ne rfl rfl (decide_eq_false hc5)) fun a hk => ?_
      refine d_w 21 4194303 hk hL rfl (fun w hL => w_pickF rfl rfl) fun a hk => ?_
      refine d_w 22 8388607 hk hL rfl (fun w hL => w_mv rfl) fun a hk => ?_
      refine d_w 23 16777215 hk hL rfl (fun w hL => w_mv rfl) fun a hk => ?_
      refine d_w 24 33554431 hk hL rfl (fun w hL => w_mv rfl) fun a hk => ?_
      refine d_w 25 67108863 hk hL rfl (fun w hL => w_iaL (k := k) rfl rfl Tryz.underlying22 ty53 (hL.at 0 rfl) (by omega) (by omega)) fun a hk => ?_
      refine d_w 26 134217727 hk hL rfl (fun w hL => w_fa rfl fq53_3 ty3) fun a hk => ?_
      refine d_w 27 268435455 hk hL rfl (fun w hL => w_ld1 rfl ty3 (lstf (k := k) (o := 3) (m := 1) (hL.at 0 rfl) (by omega) (en_chunk shc_len (by omega)) rfl)) fun a hk => ?_
      refine d_w 28 536870911 hk hL rfl (fun w hL => w_mv rfl) fun a hk => ?_
      refine d_w 29 1073741823 hk hL rfl (fun w hL => w_iaL (k := 0) rfl rfl Tryz.underlying22 ty53 (hL.at 0 rfl) (by omega) (by omega)) fun a hk => ?_
      refine d_w 30 2147483647 hk hL rfl (fun w hL => w_fa rfl fq53_3 ty3) fun a hk => ?_
      refine d_w 31 4294967295 hk hL rfl (fun w hL => w_ld1 rfl ty3 (lstf (k := 0) (o := 3) (m := 1) (hL.at 0 rfl) (by omega) (en_chunk shc_len (by omega)) rfl)) fun a hk => ?_
      refine d_w 32 8589934591 hk hL rfl (fun w hL => w_ne rfl rfl (decide_eq_false hc6)) fun a hk => ?_
      refine d_w 33 17179869183 hk hL rfl (fun w hL => w_pickF rfl rfl) fun a hk => ?_
      refine d_end (by kernel_rfl) ?_
      refine (x_t ?_)
      refine c_F hk rfl ?_
      refine (wpIn_skip (x_b (x_t ?_)))
      refine wR ?_
      refine q_v hk (w_mv rfl) fun a hk => ?_
      refine q_v hk (w_add rfl rfl (wr64 (by omega) (by omega))) fun a hk => ?_
      refine q_v hk (w_as rfl) fun a hk => ?_
      refine c_end (x_t ?_)
      exact ⟨k + 1, ⟨(by omega), hne, hk.k rfl (hk.k rfl hk.nil), hs⟩, by omega⟩
  ·
   have hH : ∀ q, q < m → hdr (S q) = hdr (S 0) := fun q hq => hf2 q (by omega)
   refine q_v hk (w_lt rfl rfl (decide_eq_false hc3)) fun a hk => ?_
   refine c_end (x_t ?_)
   refine c_F hk rfl ?_
   refine (wpIn_exit (x_te (x_te (x_be ?_))))
   refine (x_t ?_)
   refine wS (wS (wR ?_))
   refine q_v hk (w_as rfl) fun a hk => ?_
   refine c_end (x_t ?_)
   refine wpIn_block ?_
   refine c_loop (α := Nat) (fun u a w => u ≤ m ∧ (∀ q p, q < p → p < u → (S q).I ≠ (S p).I) ∧ Kn [] 96 [(6, .int .i64 ((u : Nat) : Int)), (0, .slice la m lc)] a ∧ Sat no W [] [shareR la m lc S] w) (fun u => m - u) 0 ?_ ?_
   · exact ⟨(by omega), (fun q p _ h => by omega), hk.k rfl (hk.k rfl hk.nil), hs⟩
   rintro u a w ⟨hf0, hf1, hk, hs⟩
   have hfu := hf1
   refine wS (wS (wR ?_))
   refine q_v hk (w_mv rfl) fun a hk => ?_
   refine q_v hk (w_mv rfl) fun a hk => ?_
   refine q_v hk (w_len rfl Tryz.underlying22) fun a hk => ?_
   rcases Classical.em (((u : Nat) : Int) < ((m : Nat) : Int)) with hc7 | hc7
   ·
    have hltu : u < m := by omega
    refine q_v hk (w_lt rfl rfl (decide_eq_true hc7)) fun a hk => ?_
    refine c_end (x_t ?_)
    refine c_T hk rfl ?_
    refine (wpIn_skip (x_t ?_))
    refine wS ?_
    refine wpIn_block ?_
    refine wS (wR ?_)
    refine q_v hk (w_as rfl) fun a hk => ?_
    refine c_end (x_t ?_)
    refine wpIn_block ?_
    refine c_loop (α := Nat) (fun j a w => j ≤ u ∧ (∀ q, q < j → (S u).I ≠ (S q).I) ∧ Kn [] 96 [(7, .int .i64 ((j : Nat) : Int)), (65, .bool true), (64, .int .i64 ((m : Nat) : Int)), (63, .slice la m lc), (62, .int .i64 ((u : Nat) : Int)), (6, .int .i64 ((u : Nat) : Int)), (0, .slice la m lc)] a ∧ Sat no W [] [shareR la m lc S] w) (fun j => u - j) 0 ?_ ?_
    · exact ⟨(by omega), (fun q h => by omega), hk.k rfl (hk.k rfl (hk.k rfl (hk.k rfl (hk.k rfl (hk.k rfl (hk.k rfl hk.nil)))))), hs⟩
    rintro j a w ⟨hf0, hf1, hk, hs⟩
    have hfj := hf1
    refine wS (wS (wR ?_))
    refine q_v hk (w_mv rfl) fun a hk => ?_
    refine q_v hk (w_mv rfl) fun a hk => ?_
    rcases Classical.em (((j : Nat) : Int) < ((u : Nat) : Int)) with hc8 | hc8
    ·
     refine q_v hk (w_lt rfl rfl (decide_eq_true hc8)) fun a hk => ?_
     refine c_end (x_t ?_)
     refine c_T hk rfl ?_
     refine (wpIn_skip (x_t ?_))
     refine wS ?_
     refine wpIn_block ?_
     refine wS ?_
     rcases Classical.em ((S u).I = (S j).I) with hc9 | hc9
     ·
      have hL := okL.cons ((share_lst (HasR.nth 0 rfl : HasR (shareR la m lc S) _)).at_ hs) okL.nil
      refine d_begin _ 11 (by kernel_rfl) rfl hs hL fun w hs hL => ?_
      refine d_w 0 1 hk hL rfl (fun w hL => w_mv rfl) fun a hk => ?_
      refine d_w 1 3 hk hL rfl (fun w hL => w_mv rfl) fun a hk => ?_
      refine d_w 2 7 hk hL rfl (fun w hL => w_iaL (k := u) rfl rfl Tryz.underlying22 ty53 (hL.at 0 rfl) (by omega) (by omega)) fun a hk => ?_
      refine d_w 3 15 hk hL rfl (fun w hL => w_fa rfl fq53_2 ty3) fun a hk => ?_
      refine d_w 4 31 hk hL rfl (fun w hL => w_ld1 rfl ty3 (lstf (k := u) (o := 2) (m := 1) (hL.at 0 rfl) (by omega) (en_chunk shc_len (by omega)) rfl)) fun a hk => ?_
      refine d_w 5 63 hk hL rfl (fun w hL => w_mv rfl) fun a hk => ?_
      refine d_w 6 127 hk hL rfl (fun w hL => w_mv rfl) fun a hk => ?_
      refine d_w 7 255 hk hL rfl (fun w hL => w_iaL (k := j) rfl rfl Tryz.underlying22 ty53 (hL.at 0 rfl) (by omega) (by omega)) fun a hk => ?_
      refine d_w 8 511 hk hL rfl (fun w hL => w_fa rfl fq53_2 ty3) fun a hk => ?_
      refine d_w 9 1023 hk hL rfl (fun w hL => w_ld1 rfl ty3 (lstf (k := j) (o := 2) (m := 1) (hL.at 0 rfl) (by omega) (en_chunk shc_len (by omega)) rfl)) fun a hk => ?_
      refine d_w 10 2047 hk hL rfl (fun w hL => w_eq rfl rfl (decide_eq_true hc9)) fun a hk => ?_
      refine d_end (by kernel_rfl) ?_
      refine (x_t ?_)
      refine c_T hk rfl ?_
      refine wS (wR ?_)
      refine q_v hk (w_as rfl) fun a hk => ?_
      refine c_end (x_t ?_)
      refine (wpIn_ret (x_br (x_tr (x_tr (x_br (x_br (x_tr (x_tr (x_br (x_tr ?_))))))))))
      refine c_ret1 hk rfl rfl ?_
      exact ⟨by rw [csErr_15 (k := u) (j := j) hE hH (by omega) hltu (by assumption)], hs.toBelow⟩
     ·
      have hnj : ∀ q, q < j + 1 → (S u).I ≠ (S q).I := fun q hq => if e : q = j then (by rw [e]; exact hc9) else hfj q (by omega)
      have hL := okL.cons ((share_lst (HasR.nth 0 rfl : HasR (shareR la m lc S) _)).at_ hs) okL.nil
      refine d_begin _ 11 (by kernel_rfl) rfl hs hL fun w hs hL => ?_
      refine d_w 0 1 hk hL rfl (fun w hL => w_mv rfl) fun a hk => ?_
      refine d_w 1 3 hk hL rfl (fun w hL => w_mv rfl) fun a hk => ?_
      refine d_w 2 7 hk hL rfl (fun w hL => w_iaL (k := u) rfl rfl Tryz.underlying22 ty53 (hL.at 0 rfl) (by omega) (by omega)) fun a hk => ?_
      refine d_w 3 15 hk hL rfl (fun w hL => w_fa rfl fq53_2 ty3) fun a hk => ?_
      refine d_w 4 31 hk hL rfl (fun w hL => w_ld1 rfl ty3 (lstf (k := u) (o := 2) (m := 1) (hL.at 0 rfl) (by omega) (en_chunk shc_len (by omega)) rfl)) fun a hk => ?_
      refine d_w 5 63 hk hL rfl (fun w hL => w_mv rfl) fun a hk => ?_
      refine d_w 6 127 hk hL rfl (fun w hL => w_mv rfl) fun a hk => ?_
      refine d_w 7 255 hk hL rfl (fun w hL => w_iaL (k := j) rfl rfl Tryz.underlying22 ty53 (hL.at 0 rfl) (by omega) (by omega)) fun a hk => ?_
      refine d_w 8 511 hk hL rfl (fun w hL => w_fa rfl fq53_2 ty3) fun a hk => ?_
      refine d_w 9 1023 hk hL rfl (fun w hL => w_ld1 rfl ty3 (lstf (k := j) (o := 2) (m := 1) (hL.at 0 rfl) (by omega) (en_chunk shc_len (by omega)) rfl)) fun a hk => ?_
      refine d_w 10 2047 hk hL rfl (fun w hL => w_eq rfl rfl (decide_eq_false hc9)) fun a hk => ?_
      refine d_end (by kernel_rfl) ?_
      refine (x_t ?_)
      refine c_F hk rfl ?_
      refine (wpIn_skip (x_b (x_t ?_)))
      refine wR ?_
      refine q_v hk (w_mv rfl) fun a hk => ?_
      refine q_v hk (w_add rfl rfl (wr64 (by omega) (by omega))) fun a hk => ?_
      refine q_v hk (w_as rfl) fun a hk => ?_
      refine c_end (x_t ?_)
      exact ⟨j + 1, ⟨(by omega), hnj, hk.k rfl (hk.k rfl (hk.k rfl (hk.k rfl (hk.k rfl (hk.k rfl (hk.k rfl hk.nil)))))), hs⟩, by omega⟩
    ·
     have hnu : ∀ q p, q < p → p < u + 1 → (S q).I ≠ (S p).I := fun q p h1 h2 => if e : p = u then (by rw [e]; exact fun h => hfj q (by omega) h.symm) else hfu q p h1 (by omega)
     refine q_v hk (w_lt rfl rfl (decide_eq_false hc8)) fun a hk => ?_
     refine c_end (x_t ?_)
     refine c_F hk rfl ?_
     refine (wpIn_exit (x_te (x_te (x_be ?_))))
     refine (x_b (x_t ?_))
     refine wR ?_
     refine q_v hk (w_mv rfl) fun a hk => ?_
     refine q_v hk (w_add rfl rfl (wr64 (by omega) (by omega))) fun a hk => ?_
     refine q_v hk (w_as rfl) fun a hk => ?_
     refine c_end (x_t ?_)
     exact ⟨u + 1, ⟨(by omega), hnu, hk.k rfl (hk.k rfl hk.nil), hs⟩, by omega⟩
   ·
    have hI : ∀ q p, q < p → p < m → (S q).I ≠ (S p).I := fun q p h1 h2 => hfu q p h1 (by omega)
    refine q_v hk (w_lt rfl rfl (decide_eq_false hc7)) fun a hk => ?_
    refine c_end (x_t ?_)
    refine c_F hk rfl ?_
    refine (wpIn_exit (x_te (x_te (x_be ?_))))
    refine (x_t ?_)
    refine wS (wS (wR ?_))
    refine q_v hk (w_mv rfl) fun a hk => ?_
    refine q_v hk (w_len rfl Tryz.underlying22) fun a hk => ?_
    rcases Classical.em (((m : Nat) : Int) = 0) with hc10 | hc10
    ·
     refine q_v hk (w_eq rfl rfl (decide_eq_true hc10)) fun a hk => ?_
     refine q_v hk (w_mv rfl) fun a hk => ?_
     refine q_skip hk rfl rfl fun a hk => ?_
     refine q_skip hk rfl rfl fun a hk => ?_
     refine q_skip hk rfl rfl fun a hk => ?_
     refine q_skip hk rfl rfl fun a hk => ?_
     refine q_skip hk rfl rfl fun a hk => ?_
     refine q_skip hk rfl rfl fun a hk => ?_
     refine q_skip hk rfl rfl fun a hk => ?_
     refine q_v hk (w_pickT rfl rfl) fun a hk => ?_
     refine c_end (x_t ?_)
     refine c_T hk rfl ?_
     refine wS (wR ?_)
     refine q_v hk (w_as rfl) fun a hk => ?_
     refine c_end (x_t ?_)
     refine (wpIn_ret (x_tr ?_))
     refine c_ret1 hk rfl rfl ?_
     exact ⟨by rw [csErr_16 hE hH hI (by omega)], hs.toBelow⟩
    ·
     refine q_v hk (w_eq rfl rfl (decide_eq_false hc10)) fun a hk => ?_
     refine q_v hk (w_mv rfl) fun a hk => ?_
     refine q_v hk (w_mv rfl) fun a hk => ?_
     refine q_v hk (w_len rfl Tryz.underlying22) fun a hk => ?_
     refine q_v hk (w_mv rfl) fun a hk => ?_
     refine q_v hk (w_iaL (k := 0) rfl rfl Tryz.underlying22 ty53 ((share_lst (HasR.nth 0 rfl : HasR (shareR la m lc S) _)).at_ hs) (by omega) (by omega)) fun a hk => ?_
     refine q_v hk (w_fa rfl fq53_1 ty3) fun a hk => ?_
     refine q_v hk (w_ld1 rfl ty3 (lstf (k := 0) (o := 1) (m := 1) ((share_lst (HasR.nth 0 rfl : HasR (shareR la m lc S) _)).at_ hs) (by omega) (en_chunk shc_len (by omega)) rfl)) fun a hk => ?_
     rcases Classical.em (((m : Nat) : Int) < ((S 0).T)) with hc11 | hc11
     ·
      refine q_v hk (w_lt rfl rfl (decide_eq_true hc11)) fun a hk => ?_
      refine q_v hk (w_pickF rfl rfl) fun a hk => ?_
      refine c_end (x_t ?_)
      refine c_T hk rfl ?_
      refine wS (wR ?_)
      refine q_v hk (w_as rfl) fun a hk => ?_
      refine c_end (x_t ?_)
      refine (wpIn_ret (x_tr ?_))
      refine c_ret1 hk rfl rfl ?_
      exact ⟨by rw [csErr_16 hE hH hI (by omega)], hs.toBelow⟩
     ·
      refine q_v hk (w_lt rfl rfl (decide_eq_false hc11)) fun a hk => ?_
      refine q_v hk (w_pickF rfl rfl) fun a hk => ?_
      refine c_end (x_t ?_)
      refine c_F hk rfl ?_
      refine (wpIn_skip (x_t ?_))
      refine wS (wR ?_)
      refine q_v hk (w_as rfl) fun a hk => ?_
      refine c_end (x_t ?_)
      refine (wpIn_ret ?_)
      refine c_ret1 hk rfl rfl ?_
      exact ⟨by rw [csErr_0 hE hH hI (by omega)], hs.toBelow⟩
end Go.Proofs.YtdnkkbmpefhbjaaGreatDoor
namespace Go.Proofs.YtdnkkbmpefhbjaaGreatDoor
set_option linter.all false
open Go Go.RowKit Alg
theorem refColumn_c (m lc ch : Nat) (la : Option Addr) (S : Nat → Shr) (W : World) (HS : (shareR la m lc S).ok W) (hm : m ≤ 1000000) (hc : ∀ i, i < m → ch < (S i).n ∧ (S i).n ≤ 100000000) : Calls Tryz.prog 57 [.slice la m lc, .int .i64 ((ch : Nat) : Int)].toArray W fun e w => ∃ a c, e = .returned (.slice a m c) ∧ Sat no W [row 47 4 (.slice a m c) m (en vq (fun i => (S i).X ch) m)] [] w := by
 refine c_enter (args := [.slice la m lc, .int .i64 ((ch : Nat) : Int)]) Tryz.func57 rfl rfl rfl fun a hk => ?_
 have hs := Sat.start W [shareR la m lc S] (okr1 HS)
 refine wS (wR ?_)
 refine q_v hk (w_as rfl) fun a hk => ?_
 refine c_end (x_t (wS (wR ?_)))
 refine q_v hk (w_as rfl) fun a hk => ?_
 refine c_end (x_t (wS (wS (wR ?_))))
 refine q_v hk (w_as rfl) fun a hk => ?_
 refine c_end (x_t ?_)
 refine wpIn_block ?_
 have hs := hs.row0 47 4
 refine c_loop (α := Nat) (fun k a w => ∃ (ao : Option Addr) (co : Nat), k ≤ m ∧ Kn [] 40 [(6, .int .i64 (k : Int)), (5, .slice ao k co), (4, .slice none 0 0), (0, .slice la m lc), (1, .int .i64 ((ch : Nat) : Int))] a ∧ Sat no W [row 47 4 (.slice ao k co) k (en vq (fun i => (S i).X ch) k)] [shareR la m lc S] w) (fun k => m - k) 0 ?_ ?_
 · exact ⟨_, _, (by omega), hk.k rfl (hk.k rfl (hk.k rfl (hk.k rfl (hk.k rfl hk.nil)))), hs⟩
 rintro k a w ⟨ao, co, hf0, hk, hs⟩
 refine wS (wS (wR ?_))
 refine q_v hk (w_mv rfl) fun a hk => ?_
 refine q_v hk (w_mv rfl) fun a hk => ?_
 refine q_v hk (w_len rfl Tryz.underlying22) fun a hk => ?_
 rcases Classical.em ((k : Int) < ((m : Nat) : Int)) with hc1 | hc1
 ·
  have hck := hc k (by omega)
  refine q_v hk (w_lt rfl rfl (decide_eq_true hc1)) fun a hk => ?_
  refine c_end (x_t ?_)
  refine c_T hk rfl ?_
  refine (wpIn_skip (x_t ?_))
  refine wS ?_
  refine wpIn_block ?_
  refine wS (wR ?_)
  refine q_v hk (w_bldv0 Tryz.underlying47 ty46 zr47) fun a hk => ?_
  refine q_alc (vs := [.int .u64 0, .int .u64 0, .int .u64 0, .int .u64 0]) hk hs zr47 rfl rfl rfl fun b2 w a hk hs => ?_
  refine q_sto (o := 0) (cs := [.int .u64 ((dg 0 0 : Nat) : Int), .int .u64 ((dg 1 0 : Nat) : Int), .int .u64 ((dg 2 0 : Nat) : Int), .int .u64 ((dg 3 0 : Nat) : Int)]) (vs' := [.int .u64 ((dg 0 0 : Nat) : Int), .int .u64 ((dg 1 0 : Nat) : Int), .int .u64 ((dg 2 0 : Nat) : Int), .int .u64 ((dg 3 0 : Nat) : Int)]) hk hs rfl rfl rfl ty47 rfl rfl rfl rfl rfl rfl fun w hs => ?_
  refine c_end (x_t (wS (wS (wR ?_))))
  refine q_v hk (w_mv rfl) fun a hk => ?_
  refine q_v hk (w_ge rfl rfl (decide_eq_true (by omega))) fun a hk => ?_
  refine q_v hk (w_mv rfl) fun a hk => ?_
  refine q_v hk (w_mv rfl) fun a hk => ?_
  refine q_v hk (w_mv rfl) fun a hk => ?_
  refine q_v hk (w_mv rfl) fun a hk => ?_
  refine q_v hk (w_iaL (k := k) rfl rfl Tryz.underlying22 ty53 ((share_lst (HasR.nth 0 rfl : HasR (shareR la m lc S) _)).at_ hs) (by omega) (by omega)) fun a hk => ?_
  refine q_v hk (w_fa rfl fq53_4 ty51) fun a hk => ?_
  refine q_v hk (w_ld1 rfl ty51 (lstf (k := k) (o := 4) (m := 1) ((share_lst (HasR.nth 0 rfl : HasR (shareR la m lc S) _)).at_ hs) (by omega) (en_chunk shc_len (by omega)) rfl)) fun a hk => ?_
  refine q_v hk (w_len rfl Tryz.underlying51) fun a hk => ?_
  refine q_v hk (w_lt rfl rfl (decide_eq_true (by omega))) fun a hk => ?_
  refine q_v hk (w_pickT rfl rfl) fun a hk => ?_
  refine c_end (x_t ?_)
  refine c_T hk rfl ?_
  refine wR ?_
  refine q_v hk (w_mv rfl) fun a hk => ?_
  refine q_v hk (w_mv rfl) fun a hk => ?_
  refine q_v hk (w_iaL (k := k) rfl rfl Tryz.underlying22 ty53 ((share_lst (HasR.nth 0 rfl : HasR (shareR la m lc S) _)).at_ hs) (by omega) (by omega)) fun a hk => ?_
  refine q_v hk (w_fa rfl fq53_4 ty51) fun a hk => ?_
  refine q_v hk (w_ld1 rfl ty51 (lstf (k := k) (o := 4) (m := 1) ((share_lst (HasR.nth 0 rfl : HasR (shareR la m lc S) _)).at_ hs) (by omega) (en_chunk shc_len (by omega)) rfl)) fun a hk => ?_
  refine q_v hk (w_mv rfl) fun a hk => ?_
  refine q_v hk (w_iaL (k := ch) rfl rfl Tryz.underlying51 ty56 ((share_pay (k := k) (HasR.nth 0 rfl : HasR (shareR la m lc S) _) (by omega)).at_ hs) (by omega) (by omega)) fun a hk => ?_
  refine q_v hk (w_ldv (z := (S k).X ch) rfl ty56 (lstq (k := ch) ((share_pay (k := k) (HasR.nth 0 rfl : HasR (shareR la m lc S) _) (by omega)).at_ hs) (by omega) (en_chunk vq_len (by omega)))) fun a hk => ?_
  refine q_sto (o := 0) (cs := [.int .u64 ((dg 0 ((S k).X ch) : Nat) : Int), .int .u64 ((dg 1 ((S k).X ch) : Nat) : Int), .int .u64 ((dg 2 ((S k).X ch) : Nat) : Int), .int .u64 ((dg 3 ((S k).X ch) : Nat) : Int)]) (vs' := [.int .u64 ((dg 0 ((S k).X ch) : Nat) : Int), .int .u64 ((dg 1 ((S k).X ch) : Nat) : Int), .int .u64 ((dg 2 ((S k).X ch) : Nat) : Int), .int .u64 ((dg 3 ((S k).X ch) : Nat) : Int)]) hk hs rfl rfl rfl ty47 rfl rfl rfl rfl rfl rfl fun w hs => ?_
  refine c_end (x_t (wR ?_))
  refine q_v hk (w_mv rfl) fun a hk => ?_
  refine q_v hk (w_ldv (z := (S k).X ch) rfl ty47 (.blk (n := 4) (hs.mi 0 rfl) rfl)) fun a hk => ?_
  refine q_bsl (els := [.tmp 36]) (cs := [.int .u64 ((dg 0 ((S k).X ch) : Nat) : Int), .int .u64 ((dg 1 ((S k).X ch) : Nat) : Int), .int .u64 ((dg 2 ((S k).X ch) : Nat) : Int), .int .u64 ((dg 3 ((S k).X ch) : Nat) : Int)]) hk hs rfl Tryz.underlying72 ty47 zr47 rfl rfl rfl rfl rfl rfl rfl fun b3 w a hk hs => ?_
  have hs := hs.up2
  refine q_app (news := [.int .u64 ((dg 0 ((S k).X ch) : Nat) : Int), .int .u64 ((dg 1 ((S k).X ch) : Nat) : Int), .int .u64 ((dg 2 ((S k).X ch) : Nat) : Int), .int .u64 ((dg 3 ((S k).X ch) : Nat) : Int)]) (m := 1) hk hs rfl rfl Tryz.underlying72 ty47 zr47 rfl rfl (.blk (n := 4) (hs.mi 1 rfl) rfl) rfl rfl (by omega) (by omega) rfl rfl fun a4 c5 w a hk hs => ?_
  have hs := hs.up1
  have hs := hs.drop
  refine q_v hk (w_as rfl) fun a hk => ?_
  refine (c_end (x_b (x_t ?_)))
  refine wR ?_
  refine q_v hk (w_mv rfl) fun a hk => ?_
  refine q_v hk (w_add rfl rfl (wr64 (by omega) (by omega))) fun a hk => ?_
  refine q_v hk (w_as rfl) fun a hk => ?_
  refine c_end (x_t ?_)
  have hs := hs.rw0 (congrArg _ en_succ)
  have hs := hs.up1
  have hs := hs.drop
  exact ⟨k + 1, ⟨_, _, (by omega), hk.k rfl (hk.k rfl (hk.k rfl (hk.k rfl (hk.k rfl hk.nil)))), hs⟩, by omega⟩
 ·
  refine q_v hk (w_lt rfl rfl (decide_eq_false hc1)) fun a hk => ?_
  refine c_end (x_t ?_)
  refine c_F hk rfl ?_
  refine (wpIn_exit (x_te (x_te (x_be ?_))))
  refine (x_t ?_)
  refine wS (wR ?_)
  refine q_v hk (w_mv rfl) fun a hk => ?_
  refine q_v hk (w_as rfl) fun a hk => ?_
  refine c_end (x_t ?_)
  refine (wpIn_ret ?_)
  refine c_ret1 hk rfl rfl ?_
  have hkm : k = m := by omega
  rw [hkm] at hs ⊢
  exact ⟨_, _, rfl, hs.fin⟩
end Go.Proofs.YtdnkkbmpefhbjaaGreatDoor
namespace Go.Proofs.YtdnkkbmpefhbjaaGreatDoor
set_option linter.all false
open Go Go.RowKit Alg
def allB (f : Nat → Bool) : Nat → Bool
  | 0 => true
  | k + 1 => allB f k && f k
theorem allB_iff (f : Nat → Bool) : ∀ n, allB f n = true ↔ ∀ k, k < n → f k = true
  | 0 => by simp [allB]
  | n + 1 => by
    rw [allB, Bool.and_eq_true, allB_iff f n]
    constructor
    · rintro ⟨h1, h2⟩ k hk
      by_cases h : k = n
      · subst h; exact h2
      · exact h1 k (by omega)
    · intro h
      exact ⟨fun k hk => h k (by omega), h n (by omega)⟩
end Go.Proofs.YtdnkkbmpefhbjaaGreatDoor
namespace Go.Proofs.YtdnkkbmpefhbjaaGreatDoor
set_option linter.all false
open Go Go.RowKit Alg
theorem sla_zero {a : Option Addr} {m s : Nat} : sla a m 0 s = a := by
  unfold sla
  split
  · rfl
  · cases a with
    | none => rfl
    | some q => show some (q.add (0 * s)) = some q; rw [Nat.zero_mul]; rfl
theorem w_slc_eq {P : Program} {G : List (Nat × Value)} {o : Oper} {w : World} {a a' : Option Addr} {n n' c c' : Nat} (h : Wq P G o (.slice a n c) w w) (ha : a = a') (hn : n = n') (hc : c = c') : Wq P G o (.slice a' n' c') w w := by
  subst ha hn hc; exact h
section
variable {la : Option Addr} {m lc th : Nat} {S : Nat → Shr} {R M : List Res} {F0 : Nat → Prop} {W w : World}
theorem share_cap (h : HasR (shareR la m lc S) R) (hs : Sat F0 W M R w) : m ≤ lc := by
  obtain ⟨a, c, he, hc, _⟩ := ((share_lst h).at_ hs).at_
  cases he
  exact hc
theorem lst_take {n c th s : Nat} {xs ys : List Value} {r : Res} (hr : r = lst s (.slice la n c) n xs) (ht : th ≤ n) (hy : ys.length = th * s) (hxy : ∀ (j : Nat) (u : Value), ys[j]? = some u → xs[j]? = some u) : HasR (lst s (.slice la th c) th ys) [r] := by
  subst hr
  refine ⟨fun w hw => ?_, fun k hk => ⟨_, .head _, ?_⟩⟩
  · obtain ⟨a, c', he, hc, h0, h1⟩ := (hw _ (.head _)).at_
    cases he
    exact ⟨hy, la, c, rfl, Nat.le_trans ht hc, fun h => ⟨by have := (h0 h).1; omega, (h0 h).2⟩, fun ad ha hp => ⟨(h1 ad ha (by omega)).1, (h1 ad ha (by omega)).2.1, fun j u hj => (h1 ad ha (by omega)).2.2 j u (hxy j u hj)⟩⟩
  · have h1 := hk.1
    have h2 := hk.2
    exact ⟨by omega, by cases la <;> simpa [Value.ownBlock] using h2⟩
theorem en_take {α : Type} {c : α → List Value} {f : Nat → α} {th m s : Nat} (hl : ∀ x, (c x).length = s) (ht : th ≤ m) : ∀ (j : Nat) (u : Value), (en c f th)[j]? = some u → (en c f m)[j]? = some u := by
  intro j u h
  obtain ⟨d, rfl⟩ : ∃ d, m = th + d := ⟨m - th, by omega⟩
  have e : en c f (th + d) = en c f th ++ en c (fun i => f (th + i)) d := by
    unfold en
    rw [List.range_add, List.flatMap_append, List.flatMap_map]
  rw [e, List.getElem?_append_left (List.getElem?_eq_some_iff.1 h).1]
  exact h
/-- The first th shares. -/
theorem share_take (h : HasR (shareR la m lc S) R) (ht : th ≤ m) : HasR (shareR la th lc S) R := by
  refine .rall fun x hx => ?_
  simp only [List.mem_cons, List.not_mem_nil, or_false] at hx
  rcases hx with rfl | rfl
  · exact (lst_take rfl ht (en_len shc_len) (en_take shc_len ht)).trans (share_lst h)
  · refine .rall fun y hy => ?_
    obtain ⟨k, hk, rfl⟩ := List.mem_map.1 hy
    exact share_pay h (Nat.lt_of_lt_of_le (List.mem_range.1 hk) ht)
theorem Good.take {s : Bool} (g : Good s S m) : Good s S (thN S) := by
  have ht := g.th_le
  have h2 := g.th
  exact ⟨by omega, fun i hi => g.F i (by omega), fun i hi => g.T i (by omega), fun i hi => g.Lq i (by omega), fun i hi => g.n i (by omega), fun i hi => g.idx i (by omega), fun i k hik hk => g.app i k hik (by omega), fun i hi => g.X i (by omega), g.t1, by omega, g.l0, g.l1, g.cn⟩
end
/-- A function of a column. -/
def FunC (x : Nat × List Value) (s : Bool) (S : Nat → Shr) (m : Nat) (t : Option Nat) (G : Nat → Zp s) (es : List Ev) (rx : Res) : Prop :=
  ∃ fn, Tryz.prog.funcs[x.1]? = some fn ∧ (fn.name != "runtime.NumGoroutine" && fn.body.isSome) = true ∧ ∀ (F0 : Nat → Prop) (W : World) (M R : List Res) (w0 : World) (ya : Option Addr) (yc ch : Nat) (evs : List Ev) (r : Res), TapeIs t evs r → HasR rx R →
    HasR (lst 4 (.slice ya m yc) m (en vq (fun i => mq (clz s S ch i)) m)) R → ch < (S 0).n → evs.length ≤ 10000000 → Sat F0 W (r :: M) R w0 →
    Calls Tryz.prog x.1 (.slice ya m yc :: x.2).toArray w0 fun e w => ∃ r, e = .returned (.tuple #[vec (mq (G ch)), .int .i64 0]) ∧ TapeIs t (evs ++ es) r ∧ Sat F0 W (r :: M) R w
theorem each_next {E es : List Ev} {k : Nat} : E ++ eachE ((k : Nat) : Int) es ++ [(4, ((k : Nat) : Int), 0)] ++ es = E ++ eachE ((k + 1 : Nat) : Int) es := by
  have e := upE_succ (F := fun k => [(4, k, 0)] ++ es) (fr := 0) (x := (k : Int)) (by omega)
  rw [List.append_assoc, List.append_assoc, show eachE ((k : Nat) : Int) es = upE 0 (k : Int) (fun k => [(4, k, 0)] ++ es) from rfl, e]
  rfl
theorem eachk_len {es : List Ev} {k : Nat} : (eachE ((k : Nat) : Int) es).length ≤ k * (es.length + 1) := by
  have := upE_len (fr := 0) (to := (k : Int)) (F := fun k => [(4, k, 0)] ++ es) (B := es.length + 1) (fun i => by simp)
  simpa [eachE] using this
theorem used_bad {F0 : Nat → Prop} {W : World} {M R : List Res} (m lc : Nat) (la : Option Addr) (S : Nat → Shr) (w0 : World) (hs : Sat F0 W M R w0) (hS : HasR (shareR la m lc S) R) (hG : HasR laidR R) (HO : ShOk S m) (hz : csErr S m ≠ 0) : Calls Tryz.prog 78 [.slice la m lc].toArray w0 fun e w => e = .returned (.tuple #[fieldZ, .slice none 0 0, .int .i64 (csErr S m)]) ∧ Sat F0 W M R w := by
 refine c_enter (args := [.slice la m lc]) Tryz.func78 rfl rfl rfl fun a hk => ?_
 refine wS (wR ?_)
 refine q_alc (vs := [.int .i64 0, .int .u64 0, .int .u64 0, .int .u64 0, .int .u64 0, .int .u64 0, .int .u64 0, .int .u64 0, .int .u64 0, .int .u64 0, .int .u64 0, .int .u64 0, .int .u64 0, .int .u64 0]) hk hs zr120 rfl rfl rfl fun b1 w a hk hs => ?_
 refine q_v hk (w_as rfl) fun a hk => ?_
 refine q_v hk (w_as rfl) fun a hk => ?_
 refine c_end (x_t (wS (wS (wR ?_))))
 refine q_v hk (w_mv rfl) fun a hk => ?_
 refine q_call (caps := []) hk rfl rfl Tryz.func60 fo60 rfl rfl (ckShares_c m lc la S _ ((hS).at_ hs) HO ((hG).at_ hs)) ?_
 rintro _ w ⟨rfl, hb⟩
 have hs := hs.below hb
 refine ⟨_, rfl, fun a hk => ?_⟩
 refine q_v hk (w_as rfl) fun a hk => ?_
 refine c_end (x_t (wS (wR ?_)))
 refine q_v hk (w_mv rfl) fun a hk => ?_
 refine q_v hk (w_ne rfl rfl (decide_eq_true (by omega))) fun a hk => ?_
 refine c_end (x_t ?_)
 refine c_T hk rfl ?_
 refine wS (wR ?_)
 refine q_v hk (w_bld rfl fl120 zr120 rfl rfl) fun a hk => ?_
 refine q_v hk (w_mv rfl) fun a hk => ?_
 refine q_sto (o := 0) (cs := [.int .i64 0, .int .u64 0, .int .u64 0, .int .u64 0, .int .u64 0, .int .u64 0, .int .u64 0, .int .u64 0, .int .u64 0, .int .u64 0, .int .u64 0, .int .u64 0, .int .u64 0, .int .u64 0]) (vs' := [.int .i64 0, .int .u64 0, .int .u64 0, .int .u64 0, .int .u64 0, .int .u64 0, .int .u64 0, .int .u64 0, .int .u64 0, .int .u64 0, .int .u64 0, .int .u64 0, .int .u64 0, .int .u64 0]) hk hs rfl rfl rfl ty120 rfl rfl rfl rfl rfl rfl fun w hs => ?_
 refine q_v hk (w_as rfl) fun a hk => ?_
 refine q_v hk (w_as rfl) fun a hk => ?_
 refine c_end (x_t ?_)
 refine (wpIn_ret (x_tr ?_))
 refine c_retG (vs := [.agg #[.int .i64 0, .int .u64 0, .int .u64 0, .int .u64 0, .int .u64 0, .int .u64 0, .int .u64 0, .int .u64 0, .int .u64 0, .int .u64 0, .int .u64 0, .int .u64 0, .int .u64 0, .int .u64 0], .slice none 0 0, .int .i64 (csErr S m)]) hk rfl ⟨⟨_, rfl, lv_A ty120 (.blk (n := 14) (hs.mi 0 rfl) rfl) rfl⟩, rfl, rfl, trivial⟩ rfl ?_
 have hs := hs.drop
 exact ⟨rfl, hs⟩
theorem used_m {F0 : Nat → Prop} {W : World} {M R : List Res} (s : Bool) (m lc : Nat) (la : Option Addr) (S : Nat → Shr) (w0 : World) (hs : Sat F0 W M R w0) (hS : HasR (shareR la m lc S) R) (hG : HasR laidR R) (HO : ShOk S m) (g : Good s S m) (hz : csErr S m = 0) (hm : m ≤ 255) : Calls Tryz.prog 78 [.slice la m lc].toArray w0 fun e w => e = .returned (.tuple #[fieldV s, .slice la (thN S) lc, .int .i64 0]) ∧ Sat F0 W M R w := by
 have hm0 := g.m0
 have hcap := share_cap hS hs
 have hth := g.th_le
 refine c_enter (args := [.slice la m lc]) Tryz.func78 rfl rfl rfl fun a hk => ?_
 refine wS (wR ?_)
 refine q_alc (vs := [.int .i64 0, .int .u64 0, .int .u64 0, .int .u64 0, .int .u64 0, .int .u64 0, .int .u64 0, .int .u64 0, .int .u64 0, .int .u64 0, .int .u64 0, .int .u64 0, .int .u64 0, .int .u64 0]) hk hs zr120 rfl rfl rfl fun b1 w a hk hs => ?_
 refine q_v hk (w_as rfl) fun a hk => ?_
 refine q_v hk (w_as rfl) fun a hk => ?_
 refine c_end (x_t (wS (wS (wR ?_))))
 refine q_v hk (w_mv rfl) fun a hk => ?_
 refine q_call (caps := []) hk rfl rfl Tryz.func60 fo60 rfl rfl (ckShares_c m lc la S _ ((hS).at_ hs) HO ((hG).at_ hs)) ?_
 rintro _ w ⟨rfl, hb⟩
 have hs := hs.below hb
 refine ⟨_, rfl, fun a hk => ?_⟩
 refine q_v hk (w_as rfl) fun a hk => ?_
 refine c_end (x_t (wS (wR ?_)))
 refine q_v hk (w_mv rfl) fun a hk => ?_
 refine q_v hk (w_ne rfl rfl (decide_eq_false (by omega))) fun a hk => ?_
 refine c_end (x_t ?_)
 refine c_F hk rfl ?_
 refine (wpIn_skip (x_t ?_))
 refine wS (wR ?_)
 refine q_v hk (w_mv rfl) fun a hk => ?_
 refine q_v hk (w_iaL (k := 0) rfl rfl Tryz.underlying22 ty53 ((share_lst hS).at_ hs) (by omega) (by omega)) fun a hk => ?_
 refine q_v hk (w_fa rfl fq53_0 ty3) fun a hk => ?_
 refine q_v hk (w_ld1 rfl ty3 (ic_eq (g.F 0 g.m0) (lstf (k := 0) (o := 0) (m := 1) ((share_lst hS).at_ hs) (by omega) (en_chunk shc_len (by omega)) rfl))) fun a hk => ?_
 refine q_call (caps := []) hk rfl rfl Tryz.func85 fo85 rfl rfl (get_c s _ ((hG).at_ hs)) ?_
 rintro _ w ⟨rfl, hb⟩
 have hs := hs.below hb
 refine ⟨_, rfl, fun a hk => ?_⟩
 refine q_v hk (w_mv rfl) fun a hk => ?_
 refine q_v hk (w_ext rfl rfl) fun a hk => ?_
 refine q_v hk (w_ext rfl rfl) fun a hk => ?_
 refine q_alc (vs := [.int .i64 0, .int .u64 0, .int .u64 0, .int .u64 0, .int .u64 0, .int .u64 0, .int .u64 0, .int .u64 0, .int .u64 0, .int .u64 0, .int .u64 0, .int .u64 0, .int .u64 0, .int .u64 0]) hk hs zr120 rfl rfl rfl fun b2 w a hk hs => ?_
 refine q_sto (o := 0) (cs := fieldL s) (vs' := fieldL s) hk hs rfl rfl rfl ty120 rfl rfl rfl rfl rfl rfl fun w hs => ?_
 refine q_v hk (w_as rfl) fun a hk => ?_
 refine c_end (x_t (wS ?_))
 have hL := okL.cons (hs.mi 0 rfl) (okL.cons ((share_lst hS).at_ hs) okL.nil)
 refine d_begin _ 11 (by kernel_rfl) rfl hs hL fun w hs hL => ?_
 refine d_w 0 1 hk hL rfl (fun w hL => w_ldA rfl ty120 (.blk (n := 14) (hL.at 0 rfl) rfl) rfl) fun a hk => ?_
 refine d_w 1 3 hk hL rfl (fun w hL => w_mv rfl) fun a hk => ?_
 refine d_w 2 7 hk hL rfl (fun w hL => w_mv rfl) fun a hk => ?_
 refine d_w 3 15 hk hL rfl (fun w hL => w_iaL (k := 0) rfl rfl Tryz.underlying22 ty53 (hL.at 1 rfl) (by omega) (by omega)) fun a hk => ?_
 refine d_w 4 31 hk hL rfl (fun w hL => w_fa rfl fq53_1 ty3) fun a hk => ?_
 refine d_w 5 63 hk hL rfl (fun w hL => w_ld1 rfl ty3 (ic_eq g.th (lstf (k := 0) (o := 1) (m := 1) (hL.at 1 rfl) (by omega) (en_chunk shc_len (by omega)) rfl))) fun a hk => ?_
 refine d_w 6 127 hk hL rfl (fun w hL => w_slc_eq (w_slc (l := 0) (h := thN S) rfl rfl rfl Tryz.underlying22 ty53 rfl rfl (by omega) (by omega) (by omega) (by omega) (by omega)) sla_zero (Nat.sub_zero _) (Nat.sub_zero _)) fun a hk => ?_
 refine d_w 7 255 hk hL rfl (fun w hL => w_mv rfl) fun a hk => ?_
 refine d_1 8 511 rfl (by kernel_rfl) fun K hK => ?_
 have hs := hs.up1
 refine q_sto (o := 0) (cs := fieldL s) (vs' := fieldL s) hk hs rfl rfl rfl ty120 rfl rfl rfl rfl rfl rfl fun w hs => ?_
 have hL := okL.cons (hs.mi 1 rfl) (okL.cons ((share_lst hS).at_ hs) okL.nil)
 refine c_end (x_t (hK _ _ hL ?_))
 clear hK K
 refine d_w 9 1023 hk hL rfl (fun w hL => w_as rfl) fun a hk => ?_
 refine d_w 10 2047 hk hL rfl (fun w hL => w_as rfl) fun a hk => ?_
 refine d_end (by kernel_rfl) ?_
 refine (x_t ?_)
 refine (wpIn_ret ?_)
 refine c_retG (vs := [fieldV s, .slice la (thN S) lc, .int .i64 0]) hk rfl ⟨⟨_, rfl, lv_A ty120 (.blk (n := 14) (hs.mi 0 rfl) rfl) rfl⟩, rfl, rfl, trivial⟩ rfl ?_
 have hs := hs.drop
 have hs := hs.drop
 exact ⟨rfl, hs⟩
theorem each_cm {F0 : Nat → Prop} {W : World} {M R : List Res} (s : Bool) (m lc : Nat) (la : Option Addr) (S : Nat → Shr) (f : Nat × List Value) (G : Nat → Zp s) (es : List Ev) (rx : Res) (t : Option Nat) (evs : List Ev) (r : Res) (w0 : World) (hs : Sat F0 W (r :: M) R w0) (hS : HasR (shareR la m lc S) R) (g : Good s S m) (hm : m ≤ 255) (hn9 : (S 0).n ≤ 4) (hfn : FunC f s S m t G es rx) (hx : HasR rx R) (hes : es.length ≤ 300000) (hT : TapeIs t evs r) (he : evs.length ≤ 1000000) : Calls Tryz.prog 81 [tval t, .slice la m lc, .func (.func f.1) #[] (List.toArray f.2)].toArray w0 fun e w => ∃ r a c, e = .returned (.tuple #[.slice a (S 0).n c, .int .i64 0]) ∧ TapeIs t (evs ++ eachE (((S 0).n : Nat) : Int) es) r ∧ Sat F0 W (r :: row 56 4 (.slice a (S 0).n c) (S 0).n (en vq (fun i => mq (G i)) (S 0).n) :: M) R w := by
 have hm0 := g.m0
 obtain ⟨fn, hfn1, hfn2, hfn3⟩ := hfn
 refine c_enter (args := [tval t, .slice la m lc, .func (.func f.1) #[] (List.toArray f.2)]) Tryz.func81 rfl rfl rfl fun a hk => ?_
 refine wS (wR ?_)
 refine q_v hk (w_as rfl) fun a hk => ?_
 refine q_v hk (w_as rfl) fun a hk => ?_
 refine c_end (x_t (wS (wR ?_)))
 refine q_v hk (w_as rfl) fun a hk => ?_
 refine c_end (x_t (wS (wS (wR ?_))))
 refine q_v hk (w_mv rfl) fun a hk => ?_
 refine q_v hk (w_iaL (k := 0) rfl rfl Tryz.underlying22 ty53 ((share_lst hS).at_ hs) (by omega) (by omega)) fun a hk => ?_
 refine q_v hk (w_fa rfl fq53_4 ty51) fun a hk => ?_
 refine q_v hk (w_ld1 rfl ty51 (lstf (k := 0) (o := 4) (m := 1) ((share_lst hS).at_ hs) (by omega) (en_chunk shc_len (by omega)) rfl)) fun a hk => ?_
 refine q_v hk (w_len rfl Tryz.underlying51) fun a hk => ?_
 refine q_v hk (w_mv rfl) fun a hk => ?_
 refine c_end (x_t ?_)
 refine wpIn_block ?_
 have hs := hs.row0 56 4
 refine c_loop (α := Nat) (fun k a w => ∃ (r : Res) (ao : Option Addr) (co : Nat), k ≤ (S 0).n ∧ TapeIs t (evs ++ eachE ((k : Nat) : Int) es) r ∧ Kn [] 40 [(17, .int .i64 ((k : Nat) : Int)), (8, .slice ao k co), (16, .int .i64 (((S 0).n : Nat) : Int)), (0, tval t), (1, .slice la m lc), (2, .func (.func f.1) #[] (List.toArray f.2))] a ∧ Sat F0 W ((row 56 4 (.slice ao k co) k (en vq (fun i => mq (G i)) k)) :: r :: M) R w) (fun k => (S 0).n - k) 0 ?_ ?_
 · exact ⟨_, _, _, (by omega), (by rw [show eachE ((0 : Nat) : Int) es = [] from upE_nil (by omega), List.append_nil]; exact hT), hk.k rfl (hk.k rfl (hk.k rfl (hk.k rfl (hk.k rfl (hk.k rfl hk.nil))))), hs⟩
 rintro k a w ⟨r, ao, co, hf0, hf1, hk, hs⟩
 have hT := hf1
 have hlk := eachk_len (es := es) (k := k)
 have hkk : k * (es.length + 1) ≤ 4 * 300001 := Nat.mul_le_mul (by omega) (by omega)
 refine wS (wR ?_)
 rcases Classical.em (((k : Nat) : Int) < (((S 0).n : Nat) : Int)) with hc1 | hc1
 ·
  refine q_v hk (w_lt rfl rfl (decide_eq_true hc1)) fun a hk => ?_
  refine c_end (x_t (wS ?_))
  refine c_T hk rfl ?_
  refine (wpIn_skip (x_t ?_))
  refine wS ?_
  refine wpIn_block ?_
  refine wS (wR ?_)
  refine q_v hk (w_mv rfl) fun a hk => ?_
  refine q_v hk (w_as rfl) fun a hk => ?_
  refine c_end (x_t (wS (wR ?_)))
  refine q_v hk (w_mv rfl) fun a hk => ?_
  refine q_v hk (w_mv rfl) fun a hk => ?_
  have hs := hs.up1
  refine q_call (caps := []) hk rfl rfl Tryz.func61 fo61 rfl rfl (note_m t 4 ((k : Nat) : Int) 0 (evs ++ eachE ((k : Nat) : Int) es) _ _ hT hs (by simp only [List.length_append]; omega)) ?_
  rintro _ w ⟨v2, r3, rfl, ht4, hs⟩
  have hT := ht4
  refine ⟨_, rfl, fun a hk => ?_⟩
  refine c_end (x_t (wS (wR ?_)))
  refine q_v hk (w_mv rfl) fun a hk => ?_
  refine q_v hk (w_mv rfl) fun a hk => ?_
  refine q_v hk (w_mv rfl) fun a hk => ?_
  refine q_call (caps := []) hk rfl rfl Tryz.func101 fo101 rfl rfl (column_c m lc k la S _ ((hS).at_ hs) (by omega) (fun i hi => by rw [g.n i hi]; exact ⟨by omega, by omega⟩)) ?_
  rintro _ w ⟨b5, rfl, hS⟩
  have hs := hs.call1 hS
  clear hS
  refine ⟨_, rfl, fun a hk => ?_⟩
  have hs := hs.rw0 (congrArg (fun q => blk b5 q 56) (g.col_eq (by omega)))
  have hs := hs.frz (r := lst 4 (.slice (some ⟨b5, 0, none⟩) m m) m (en vq (fun i => mq (clz s S k i)) m)) (blk_lst (hs.mi 0 rfl) (en_len vq_len) (Nat.le_refl _)) (fun _ h => (Option.some.inj h.2).symm)
  refine q_call (caps := f.2) hk rfl rfl hfn1 hfn2 rfl rfl (hfn3 _ _ _ _ _ _ _ k ((evs ++ eachE ((k : Nat) : Int) es) ++ [(4, ((k : Nat) : Int), 0)]) _ hT (hx.cons) (HasR.nth 0 rfl) (by omega) (by simp only [List.length_append, List.length_singleton]; omega) hs) ?_
  rintro _ w ⟨r6, rfl, hT, hs⟩
  have hs := hs.subR (R' := R) (by simp +contextual)
  refine ⟨_, rfl, fun a hk => ?_⟩
  refine q_v hk (w_mv rfl) fun a hk => ?_
  refine q_v hk (w_ext rfl rfl) fun a hk => ?_
  refine q_v hk (w_ext rfl rfl) fun a hk => ?_
  refine q_alc (vs := [.int .u64 0, .int .u64 0, .int .u64 0, .int .u64 0]) hk hs zr56 rfl rfl rfl fun b7 w a hk hs => ?_
  refine q_sto (o := 0) (cs := [.int .u64 ((dg 0 (mq (G k)) : Nat) : Int), .int .u64 ((dg 1 (mq (G k)) : Nat) : Int), .int .u64 ((dg 2 (mq (G k)) : Nat) : Int), .int .u64 ((dg 3 (mq (G k)) : Nat) : Int)]) (vs' := [.int .u64 ((dg 0 (mq (G k)) : Nat) : Int), .int .u64 ((dg 1 (mq (G k)) : Nat) : Int), .int .u64 ((dg 2 (mq (G k)) : Nat) : Int), .int .u64 ((dg 3 (mq (G k)) : Nat) : Int)]) hk hs rfl rfl rfl ty56 rfl rfl rfl rfl rfl rfl fun w hs => ?_
  refine q_v hk (w_as rfl) fun a hk => ?_
  refine c_end (x_t (wS (wS (wR ?_))))
  refine q_v hk (w_mv rfl) fun a hk => ?_
  refine q_v hk (w_ne rfl rfl (decide_eq_false (by decide))) fun a hk => ?_
  refine c_end (x_t ?_)
  refine c_F hk rfl ?_
  refine (wpIn_skip (x_t ?_))
  refine wR ?_
  refine q_v hk (w_mv rfl) fun a hk => ?_
  refine q_v hk (w_ldv (z := mq (G k)) rfl ty56 (.blk (n := 4) (hs.mi 0 rfl) rfl)) fun a hk => ?_
  refine q_bsl (els := [.tmp 35]) (cs := [.int .u64 ((dg 0 (mq (G k)) : Nat) : Int), .int .u64 ((dg 1 (mq (G k)) : Nat) : Int), .int .u64 ((dg 2 (mq (G k)) : Nat) : Int), .int .u64 ((dg 3 (mq (G k)) : Nat) : Int)]) hk hs rfl Tryz.underlying51 ty56 zr56 rfl rfl rfl rfl rfl rfl rfl fun b8 w a hk hs => ?_
  have hs := hs.up3
  refine q_app (news := [.int .u64 ((dg 0 (mq (G k)) : Nat) : Int), .int .u64 ((dg 1 (mq (G k)) : Nat) : Int), .int .u64 ((dg 2 (mq (G k)) : Nat) : Int), .int .u64 ((dg 3 (mq (G k)) : Nat) : Int)]) (m := 1) hk hs rfl rfl Tryz.underlying51 ty56 zr56 rfl rfl (.blk (n := 4) (hs.mi 1 rfl) rfl) rfl rfl (by omega) (by omega) rfl rfl fun a9 c10 w a hk hs => ?_
  have hs := hs.up1
  have hs := hs.drop
  refine q_v hk (w_as rfl) fun a hk => ?_
  refine (c_end (x_b (x_t ?_)))
  refine wR ?_
  refine q_v hk (w_add rfl rfl (wr64 (by omega) (by omega))) fun a hk => ?_
  refine q_v hk (w_mv rfl) fun a hk => ?_
  refine c_end (x_t ?_)
  have hs := hs.rw0 (congrArg _ en_succ)
  rw [each_next] at hT
  have hs := hs.up1
  have hs := hs.drop
  exact ⟨k + 1, ⟨_, _, _, (by omega), hT, hk.k rfl (hk.k rfl (hk.k rfl (hk.k rfl (hk.k rfl (hk.k rfl hk.nil))))), hs⟩, by omega⟩
 ·
  refine q_v hk (w_lt rfl rfl (decide_eq_false hc1)) fun a hk => ?_
  refine c_end (x_t (wS ?_))
  refine c_F hk rfl ?_
  refine (wpIn_exit (x_te (x_te (x_be ?_))))
  refine (x_t ?_)
  refine wS (wR ?_)
  refine q_v hk (w_mv rfl) fun a hk => ?_
  refine q_v hk (w_as rfl) fun a hk => ?_
  refine q_v hk (w_as rfl) fun a hk => ?_
  refine c_end (x_t ?_)
  refine (wpIn_ret ?_)
  refine c_ret2 hk rfl rfl rfl ?_
  have hs := hs.up1
  have hkn : k = (S 0).n := by omega
  rw [hkn] at hs hT ⊢
  exact ⟨_, _, _, rfl, hT, hs⟩
end Go.Proofs.YtdnkkbmpefhbjaaGreatDoor
namespace Go.Proofs.YtdnkkbmpefhbjaaGreatDoor
set_option linter.all false
open Go Go.RowKit Alg
end Go.Proofs.YtdnkkbmpefhbjaaGreatDoor
namespace Go.Proofs.YtdnkkbmpefhbjaaGreatDoor
set_option linter.all false
open Go Go.RowKit Alg
theorem valm_z (s : Bool) {x : Nat} (hx : x < pr s) : valm s x = zv (mz s x) := by
  conv => lhs; rw [← mz_mq (s := s) hx]
  exact valm_RR s (mz s x).isLt
theorem rvalue_z (s : Bool) {x : Nat} (hx : x < pr s) (W : World) : Calls Tryz.prog 58 #[vec (pr s), vec x] W fun e w => e = .returned (vec (zv (mz s x))) ∧ Below W.heap.size W w := by
  rw [← valm_z s hx]
  exact refValue_c s x W hx
theorem rmodulus_z {v : Int} {s : Bool} (h : v = fid s) (w : World) : Calls Tryz.prog 28 #[.int .i64 v] w fun e w' => e = .returned (vec (pr s)) ∧ Below w.heap.size w w' := by subst h; exact refModulus_c s w
theorem allB_F {f : Nat → Bool} {k n : Nat} (h : f k = false) (hk : k < n) : allB f n = false := by
  cases e : allB f n with
  | false => rfl
  | true => rw [(allB_iff f n).1 e k hk] at h; cases h
end Go.Proofs.YtdnkkbmpefhbjaaGreatDoor
namespace Go.Proofs.YtdnkkbmpefhbjaaGreatDoor
set_option linter.all false
open Go Go.RowKit
end Go.Proofs.YtdnkkbmpefhbjaaGreatDoor
namespace Go.Proofs.YtdnkkbmpefhbjaaGreatDoor
set_option linter.all false
open Go Go.RowKit Alg
end Go.Proofs.YtdnkkbmpefhbjaaGreatDoor
namespace Go.Proofs.YtdnkkbmpefhbjaaGreatDoor
set_option linter.all false
open Go Go.RowKit Alg
end Go.Proofs.YtdnkkbmpefhbjaaGreatDoor
namespace Go.Proofs.YtdnkkbmpefhbjaaGreatDoor
set_option linter.all false
open Go Go.RowKit Alg
end Go.Proofs.YtdnkkbmpefhbjaaGreatDoor
namespace Go.Proofs.YtdnkkbmpefhbjaaGreatDoor
set_option linter.all false
open Go Go.RowKit Alg
/-- a ^ (e / 2^(256-j)) modulo p, by squaring. -/
def fpw (p a e : Nat) : Nat → Nat
  | 0 => 1
  | j + 1 => (fpw p a e j) ^ 2 * a ^ (e / 2 ^ (255 - j) % 2) % p
theorem fpw_val {s : Bool} (x : Zp s) (e : Nat) (he : e < R4) : ∀ j, j ≤ 256 → fpw (pr s) x.val e j = (pw x (e / 2 ^ (256 - j))).val
  | 0, _ => by
    rw [show e / 2 ^ (256 - 0) = 0 from Nat.div_eq_of_lt he]
    exact one_val.symm
  | j + 1, hj => by
    have ih := fpw_val x e he j (by omega)
    show (fpw (pr s) x.val e j) ^ 2 * x.val ^ (e / 2 ^ (255 - j) % 2) % pr s = _
    rw [ih, show 256 - (j + 1) = 255 - j by omega]
    have e1 : e / 2 ^ (256 - j) = e / 2 ^ (255 - j) / 2 := by rw [show 256 - j = (255 - j) + 1 by omega, Nat.pow_succ, Nat.div_div_eq_div_mul]
    rw [e1]
    generalize e / 2 ^ (255 - j) = q
    rcases Nat.mod_two_eq_zero_or_one q with h | h
    · obtain ⟨m, rfl⟩ : ∃ m, q = 2 * m := ⟨q / 2, by omega⟩
      rw [h, show 2 * m / 2 = m by omega, Nat.pow_zero, Nat.mul_one, pw_sq, pw_prod, Nat.pow_two]
      exact (Fin.val_mul _ _).symm
    · obtain ⟨m, rfl⟩ : ∃ m, q = 2 * m + 1 := ⟨q / 2, by omega⟩
      rw [h, show (2 * m + 1) / 2 = m by omega, Nat.pow_one, Nat.pow_two]
      have e2 : pw x (2 * m + 1) = pw x m * pw x m * x := by show pw x (2 * m) * x = _; rw [pw_sq, pw_prod]
      rw [e2, Fin.val_mul, Fin.val_mul, Nat.mod_mul_mod]
theorem fm_all : (List.range 254).all (fun d => fpw (pr false) (d + 1) (pr false - 1) 256 == 1 && fpw (pr true) (d + 1) (pr true - 1) 256 == 1) = true := by decide +kernel
theorem pr_1000 (s : Bool) : 1000 < pr s := by cases s <;> decide
theorem fm_small {s : Bool} {d : Nat} (h1 : 1 ≤ d) (h2 : d ≤ 254) : Fm (zn s d) := by
  have h := List.all_eq_true.1 fm_all (d - 1) (List.mem_range.2 (by omega))
  rw [show d - 1 + 1 = d by omega, Bool.and_eq_true, beq_iff_eq, beq_iff_eq] at h
  have hp := pr_1000 s
  have hv : (zn s d).val = d := Nat.mod_eq_of_lt (by omega)
  have hr := pr_lt s
  have e := fpw_val (zn s d) (pr s - 1) (by omega) 256 (Nat.le_refl _)
  rw [hv, Nat.sub_self, Nat.pow_zero, Nat.div_one] at e
  have e1 : fpw (pr s) d (pr s - 1) 256 = 1 := by cases s; exact h.1; exact h.2
  rw [e1] at e
  exact Fin.ext (e.symm.trans one_val.symm)
theorem zn_sub {s : Bool} {a b : Nat} (h : b ≤ a) : zn s a - zn s b = zn s (a - b) := by
  have e : zn s a = zn s (a - b) + zn s b := by
    unfold zn
    apply Fin.ext
    rw [Fin.val_add]
    simp only [Fin.val_ofNat]
    rw [← Nat.add_mod, Nat.sub_add_cancel h]
  rw [e]
  grind
theorem pt_fm {s : Bool} {a b : Nat} (h : a ≠ b) (ha1 : 1 ≤ a) (ha2 : a ≤ 255) (hb1 : 1 ≤ b) (hb2 : b ≤ 255) : Fm (zn s a - zn s b) := by
  by_cases l : b ≤ a
  · rw [zn_sub l]; exact fm_small (by omega) (by omega)
  · rw [show zn s a - zn s b = 0 - (zn s b - zn s a) by grind, zn_sub (by omega)]
    exact (fm_small (by omega) (by omega)).neg
section
variable {s : Bool} {S : Nat → Shr} {m : Nat} (g : Good s S m)
include g
theorem Good.fap : Fap (pt s (vI S)) m := fun i k hi hk h => by
  have a1 := g.v_le i hi
  have a2 := g.v_le k hk
  refine pt_fm ?_ a1.1 a1.2 a2.1 a2.2
  rcases Nat.lt_or_gt_of_ne h with l | l
  · exact g.v_ne i k l hk
  · exact (g.v_ne k i l hi).symm
end
end Go.Proofs.YtdnkkbmpefhbjaaGreatDoor
namespace Go.Proofs.YtdnkkbmpefhbjaaGreatDoor
set_option linter.all false
open Go Go.RowKit Alg
/-- What Large says. -/
def lrg (S : Nat → Shr) (m : Nat) : Int := if 12 < m then 1 else if allB (fun q => decide ((S q).n ≤ 4)) m = true then 0 else 1
theorem lrg_le {S : Nat → Shr} {m : Nat} (h : ¬ 0 < lrg S m) : m ≤ 12 ∧ ∀ k, k < m → (S k).n ≤ 4 := by
  unfold lrg at h
  by_cases h1 : 12 < m
  · rw [if_pos h1] at h; exact absurd (by decide) h
  · rw [if_neg h1] at h
    by_cases h2 : allB (fun q => decide ((S q).n ≤ 4)) m = true
    · exact ⟨by omega, fun k hk => of_decide_eq_true ((allB_iff _ m).1 h2 k hk)⟩
    · rw [if_neg h2] at h; exact absurd (by decide) h
theorem shErr_rng (F T I L : Int) (n : Nat) (X : Nat → Nat) : 0 ≤ shErr F T I L n X ∧ shErr F T I L n X ≤ 100 := by
  unfold shErr
  repeat' split
  all_goals omega
theorem csE_rng (S : Nat → Shr) : ∀ m, 0 ≤ csE S m ∧ csE S m ≤ 100
  | 0 => by show (0 : Int) ≤ 0 ∧ (0 : Int) ≤ 100; omega
  | m + 1 => by
    show 0 ≤ (if csE S m ≠ 0 then csE S m else shE (S m)) ∧ (if csE S m ≠ 0 then csE S m else shE (S m)) ≤ 100
    split
    · exact csE_rng S m
    · exact shErr_rng _ _ _ _ _ _
theorem csErr_rng (S : Nat → Shr) (m : Nat) : 0 ≤ csErr S m ∧ csErr S m ≤ 100 := by
  unfold csErr
  have := csE_rng S m
  repeat' split
  all_goals omega
theorem shok_of {S : Nat → Shr} {m : Nat} (h : m ≤ 12 ∧ ∀ k, k < m → (S k).n ≤ 4) (hx : ∀ k, k < m → ∀ i, i < (S k).n → (S k).X i < R4) : ShOk S m := ⟨by omega, fun k hk => by have := h.2 k hk; omega, hx⟩
section
variable {la : Option Addr} {m lc : Nat} {S : Nat → Shr} {w : World}
theorem sat_in (HS : (shareR la m lc S).ok w) (HL : Laid w) : Sat no w [] [shareR la m lc S, laidR] w := Sat.start w _ (fun r hr => by
  simp only [List.mem_cons, List.not_mem_nil, or_false] at hr
  rcases hr with rfl | rfl
  · exact HS
  · exact HL)
theorem hr0 : HasR (shareR la m lc S) [shareR la m lc S, laidR] := .head
theorem hr1 : HasR laidR [shareR la m lc S, laidR] := HasR.nth 1 rfl
theorem sat_out {M : List Res} {w' : World} (hs : Sat no w (nores :: M) [shareR la m lc S, laidR] w') : Sat no w M [] w' := hs.drop.fin
variable (HS : (shareR la m lc S).ok w) (HL : Laid w) (HO : ShOk S m)
include HS HL HO
variable {s : Bool} (g : Good s S m) (hz : csErr S m = 0) (hm : m ≤ 255) (hn9 : (S 0).n ≤ 4)
include g hz hm hn9
end
theorem large_c (m lc : Nat) (la : Option Addr) (S : Nat → Shr) (W : World) (HS : (shareR la m lc S).ok W) : Calls Tryz.prog 15 [.slice la m lc].toArray W fun e w => e = .returned (.int .i64 (lrg S m)) ∧ Below W.heap.size W w := by
 refine c_enter (args := [.slice la m lc]) Tryz.func15 rfl rfl rfl fun a hk => ?_
 have hs := Sat.start W [shareR la m lc S] (okr1 HS)
 refine wS (wR ?_)
 refine q_v hk (w_as rfl) fun a hk => ?_
 refine c_end (x_t (wS (wS (wR ?_))))
 refine q_v hk (w_mv rfl) fun a hk => ?_
 refine q_v hk (w_len rfl Tryz.underlying22) fun a hk => ?_
 rcases Classical.em (12 < ((m : Nat) : Int)) with hc1 | hc1
 ·
  refine q_v hk (w_gt rfl rfl (decide_eq_true hc1)) fun a hk => ?_
  refine c_end (x_t ?_)
  refine c_T hk rfl ?_
  refine wS (wR ?_)
  refine q_v hk (w_as rfl) fun a hk => ?_
  refine c_end (x_t ?_)
  refine (wpIn_ret (x_tr ?_))
  refine c_ret1 hk rfl rfl ?_
  first | exact ⟨by unfold lrg; rw [if_pos (by omega)], hs.toBelow⟩ | exact ⟨by unfold lrg; rw [if_neg (by omega), if_neg (by rw [allB_F (f := fun q => decide ((S q).n ≤ 4)) (k := k) (decide_eq_false (by omega)) (by omega)]; exact Bool.false_ne_true)], hs.toBelow⟩
 ·
  refine q_v hk (w_gt rfl rfl (decide_eq_false hc1)) fun a hk => ?_
  refine c_end (x_t ?_)
  refine c_F hk rfl ?_
  refine (wpIn_skip (x_t ?_))
  refine wS (wS (wR ?_))
  refine q_v hk (w_mv rfl) fun a hk => ?_
  refine q_v hk (w_len rfl Tryz.underlying22) fun a hk => ?_
  refine q_v hk (w_mv rfl) fun a hk => ?_
  refine c_end (x_t ?_)
  refine wpIn_block ?_
  refine c_loop (α := Nat) (fun k a w => k ≤ m ∧ allB (fun q => decide ((S q).n ≤ 4)) k = true ∧ Kn [] 19 [(10, .int .i64 ((k : Nat) : Int)), (9, .int .i64 ((m : Nat) : Int)), (8, .slice la m lc)] a ∧ Sat no W [] [shareR la m lc S] w) (fun k => m - k) 0 ?_ ?_
  · exact ⟨(by omega), rfl, hk.k rfl (hk.k rfl (hk.k rfl hk.nil)), hs⟩
  rintro k a w ⟨hf0, hf1, hk, hs⟩
  refine wS (wR ?_)
  rcases Classical.em (((k : Nat) : Int) < ((m : Nat) : Int)) with hc2 | hc2
  ·
   refine q_v hk (w_lt rfl rfl (decide_eq_true hc2)) fun a hk => ?_
   refine c_end (x_t (wS ?_))
   refine c_T hk rfl ?_
   refine (wpIn_skip (x_t ?_))
   refine wS ?_
   refine wpIn_block ?_
   refine wS (wR ?_)
   refine q_v hk (w_iaL (k := k) rfl rfl Tryz.underlying22 ty53 ((share_lst (HasR.nth 0 rfl : HasR (shareR la m lc S) _)).at_ hs) (by omega) (by omega)) fun a hk => ?_
   refine q_v hk (w_ldA rfl ty53 (lstq (k := k) ((share_lst (HasR.nth 0 rfl : HasR (shareR la m lc S) _)).at_ hs) (by omega) (en_chunk shc_len (by omega))) rfl) fun a hk => ?_
   refine q_alc (vs := [.int .i64 0, .int .i64 0, .int .i64 0, .int .i64 0, .slice none 0 0]) hk hs zr53 rfl rfl rfl fun b3 w a hk hs => ?_
   refine q_sto (o := 0) (cs := [.int .i64 ((S k).F), .int .i64 ((S k).T), .int .i64 ((S k).I), .int .i64 ((S k).L), .slice ((S k).a) ((S k).n) ((S k).c)]) (vs' := [.int .i64 ((S k).F), .int .i64 ((S k).T), .int .i64 ((S k).I), .int .i64 ((S k).L), .slice ((S k).a) ((S k).n) ((S k).c)]) hk hs rfl rfl rfl ty53 rfl rfl rfl rfl rfl rfl fun w hs => ?_
   refine c_end (x_t (wS (wR ?_)))
   refine q_v hk (w_fa rfl fq53_4 ty51) fun a hk => ?_
   refine q_v hk (w_ld1 rfl ty51 (.blk (n := 1) (hs.mi 0 rfl) rfl)) fun a hk => ?_
   refine q_v hk (w_len rfl Tryz.underlying51) fun a hk => ?_
   rcases Classical.em (4 < (((S k).n : Nat) : Int)) with hc4 | hc4
   ·
    refine q_v hk (w_gt rfl rfl (decide_eq_true hc4)) fun a hk => ?_
    refine c_end (x_t ?_)
    refine c_T hk rfl ?_
    refine wS (wR ?_)
    refine q_v hk (w_as rfl) fun a hk => ?_
    refine c_end (x_t ?_)
    refine (wpIn_ret (x_br (x_tr (x_tr (x_br (x_tr ?_))))))
    refine c_ret1 hk rfl rfl ?_
    first | exact ⟨by unfold lrg; rw [if_pos (by omega)], hs.toBelow⟩ | exact ⟨by unfold lrg; rw [if_neg (by omega), if_neg (by rw [allB_F (f := fun q => decide ((S q).n ≤ 4)) (k := k) (decide_eq_false (by omega)) (by omega)]; exact Bool.false_ne_true)], hs.toBelow⟩
   ·
    have hnx : allB (fun q => decide ((S q).n ≤ 4)) (k + 1) = true := by simp only [allB, hf1, decide_eq_true_eq, Bool.true_and]; omega
    refine q_v hk (w_gt rfl rfl (decide_eq_false hc4)) fun a hk => ?_
    refine c_end (x_t ?_)
    refine c_F hk rfl ?_
    refine (wpIn_skip (x_b (x_t ?_)))
    refine wR ?_
    refine q_v hk (w_add rfl rfl (wr64 (by omega) (by omega))) fun a hk => ?_
    refine q_v hk (w_mv rfl) fun a hk => ?_
    refine c_end (x_t ?_)
    have hs := hs.drop
    exact ⟨k + 1, ⟨(by omega), hnx, hk.k rfl (hk.k rfl (hk.k rfl hk.nil)), hs⟩, by omega⟩
  ·
   refine q_v hk (w_lt rfl rfl (decide_eq_false hc2)) fun a hk => ?_
   refine c_end (x_t (wS ?_))
   refine c_F hk rfl ?_
   refine (wpIn_exit (x_te (x_te (x_be ?_))))
   refine (x_t ?_)
   refine wS (wR ?_)
   refine q_v hk (w_as rfl) fun a hk => ?_
   refine c_end (x_t ?_)
   refine (wpIn_ret ?_)
   refine c_ret1 hk rfl rfl ?_
   exact ⟨by unfold lrg; rw [if_neg (by omega), if_pos (by rw [show m = k by omega]; exact hf1)], hs.toBelow⟩
end Go.Proofs.YtdnkkbmpefhbjaaGreatDoor
namespace Go.Proofs.YtdnkkbmpefhbjaaGreatDoor
set_option linter.all false
open Go Go.RowKit Alg
theorem zn_lit {v : Nat} (hv : v < 1000) : zv (zn false v) = v := Nat.mod_eq_of_lt (Nat.lt_trans hv (pr_1000 false))
theorem rform_s (v : Nat) (hv : v < 1000) (w : World) : Calls Tryz.prog 43 #[vec (pr false), vec v] w fun e w' => e = .returned (vec (mq (zn false v))) ∧ Below w.heap.size w w' := by
  exact rform_z w (zn_lit hv).symm
def pk3 {α : Type} (y0 y1 y2 : α) (i : Nat) : α := if i = 0 then y0 else if i = 1 then y1 else y2
/-- Three shares of the examples. -/
def sh3 (y0 y1 y2 a0 a1 a2 : Nat) (i : Nat) : Shr := ⟨1, 2, (i : Int) + 1, 1, 1, fun _ => mq (zn false (pk3 y0 y1 y2 i)), some ⟨pk3 a0 a1 a2 i, 0, none⟩, 1⟩
section
variable {y0 y1 y2 a0 a1 a2 : Nat}
theorem sh3_clz (ch i : Nat) : clz false (sh3 y0 y1 y2 a0 a1 a2) ch i = zn false (pk3 y0 y1 y2 i) := mz_of _
theorem sh3_pt (i : Nat) : pt false (vI (sh3 y0 y1 y2 a0 a1 a2)) i = zn false (i + 1) := rfl
/-- The polynomial 5 + 3 X. -/
def p53 (k : Nat) : Zp false := if k = 0 then zn false 5 else zn false 3
theorem p53_0 : Sg p53 (pw (zn false 1)) 2 = zn false 8 := by decide +kernel
theorem p53_1 : Sg p53 (pw (zn false 2)) 2 = zn false 11 := by decide +kernel
theorem p53_2 : Sg p53 (pw (zn false 3)) 2 = zn false 14 := by decide +kernel
end
end Go.Proofs.YtdnkkbmpefhbjaaGreatDoor
namespace Go.Proofs.YtdnkkbmpefhbjaaGreatDoor
set_option linter.all false
open Go Go.RowKit Alg
/-- A slice's cell: the block, the length. -/
def plc (x : Nat × Nat) : List Value := [.slice (some ⟨x.1, 0, none⟩) x.2 x.2]
theorem plc_len (x : Nat × Nat) : (plc x).length = 1 := rfl
/-- The first k polynomials with n coefficients. -/
def polB {s : Bool} (T n : Nat) (ob : Nat → Nat) (F : Nat → Nat → Zp s) (k : Nat) : Res := bun ((List.range k).map fun i => blk (ob i) (en vq (fun j => zv (F i j)) n) T)
def upd (ob : Nat → Nat) (k o i : Nat) : Nat := if i = k then o else ob i
section
variable {s : Bool} {T n k o m : Nat} {ob : Nat → Nat} {F : Nat → Nat → Zp s} {F0 : Nat → Prop} {W w : World} {M R : List Res}
theorem pol_none (hs : Sat F0 W M R w) : Sat F0 W (polB T n ob F 0 :: M) R w := Sat.pack (l := []) hs
theorem pol_add (hs : Sat F0 W (blk o (en vq (fun j => zv (F k j)) n) T :: polB T n ob F k :: M) R w) : Sat F0 W (polB T n (upd ob k o) F (k + 1) :: M) R w := by
  have h := (hs.up1).unpack
  have e : (List.range (k + 1)).map (fun i => blk (upd ob k o i) (en vq (fun j => zv (F i j)) n) T) = (List.range k).map (fun i => blk (ob i) (en vq (fun j => zv (F i j)) n) T) ++ [blk o (en vq (fun j => zv (F k j)) n) T] := by
    rw [List.range_succ, List.map_append]
    congr 1
    · exact List.map_congr_left fun i hi => by unfold upd; rw [if_neg (by have := List.mem_range.1 hi; omega)]
    · simp [upd]
  refine Sat.pack (l := _) ?_
  rw [e, List.append_assoc]
  exact h
theorem pol_row : en plc (fun i => (ob i, n)) k ++ [.slice (some ⟨o, 0, none⟩) n n] = en plc (fun i => (upd ob k o i, n)) (k + 1) := by
  have e : en plc (fun i => (upd ob k o i, n)) k = en plc (fun i => (ob i, n)) k := en_congr fun i hi => by show (upd ob k o i, n) = _; unfold upd; rw [if_neg (by omega)]
  have e2 : en plc (fun i => (upd ob k o i, n)) (k + 1) = en plc (fun i => (upd ob k o i, n)) k ++ plc (upd ob k o k, n) := en_succ.symm
  rw [e2, e]
  congr 1
  show _ = [Value.slice (some ⟨upd ob k o k, 0, none⟩) n n]
  unfold upd
  rw [if_pos rfl]
theorem pol_lst (h : (polB T n ob F m).ok w) (hk : k < m) : LstAt w 4 (.slice (some ⟨ob k, 0, none⟩) n n) n (en vq (fun j => zv (F k j)) n) :=
  blk_lst (h.1 _ (List.mem_map.2 ⟨k, List.mem_range.2 hk, rfl⟩)) (en_len vq_len) (Nat.le_refl _)
end
theorem share_okc {la : Option Addr} {m lc : Nat} {S : Nat → Shr} {W : World} (h : (shareR la m lc S).ok W) : m ≤ lc := by
  have h1 : LstAt W 5 (.slice la m lc) m (en shc S m) := h _ (.head _)
  obtain ⟨_, _, he, hc, _⟩ := h1.at_
  cases he
  exact hc
/-- The polynomial of a chunk. -/
def polF (s : Bool) (S : Nat → Shr) (th k : Nat) : Nat → Zp s := rip (pt s (vI S)) (clz s S k) th th
theorem rpoly_c (s : Bool) (m lc : Nat) (la : Option Addr) (S : Nat → Shr) (W : World) (HS : (shareR la m lc S).ok W) (g : Good s S m) (hm : m ≤ 255) (hn9 : (S 0).n ≤ 4) : Calls Tryz.prog 50 [.slice la m lc].toArray W fun e w => ∃ ob a c, e = .returned (.slice a (S 0).n c) ∧ Sat no W [row 72 1 (.slice a (S 0).n c) (S 0).n (en plc (fun i => (ob i, (thN S))) (S 0).n), polB 47 (thN S) ob (polF s S (thN S)) ((S 0).n)] [] w := by
 have hth := g.th_le
 have hm0 := g.m0
 have hcap := share_okc HS
 refine c_enter (args := [.slice la m lc]) Tryz.func50 rfl rfl rfl fun a hk => ?_
 have hs := Sat.start W [shareR la m lc S] (okr1 HS)
 refine wS (wR ?_)
 refine q_v hk (w_as rfl) fun a hk => ?_
 refine c_end (x_t (wS (wR ?_)))
 refine q_v hk (w_mv rfl) fun a hk => ?_
 refine q_v hk (w_iaL (k := 0) rfl rfl Tryz.underlying22 ty53 ((share_lst (HasR.nth 0 rfl : HasR (shareR la m lc S) _)).at_ hs) (by omega) (by omega)) fun a hk => ?_
 refine q_v hk (w_fa rfl fq53_0 ty3) fun a hk => ?_
 refine q_v hk (w_ld1 rfl ty3 (lstf (k := 0) (o := 0) (m := 1) ((share_lst (HasR.nth 0 rfl : HasR (shareR la m lc S) _)).at_ hs) (by omega) (en_chunk shc_len (by omega)) rfl)) fun a hk => ?_
 refine q_call (caps := []) hk rfl rfl Tryz.func28 fo28 rfl rfl (rmodulus_z (g.F 0 g.m0) _) ?_
 rintro _ w ⟨rfl, hb⟩
 have hs := hs.below hb
 refine ⟨_, rfl, fun a hk => ?_⟩
 refine q_alc (vs := [.int .u64 0, .int .u64 0, .int .u64 0, .int .u64 0]) hk hs zr47 rfl rfl rfl fun b1 w a hk hs => ?_
 refine q_sto (o := 0) (cs := [.int .u64 ((dg 0 (pr s) : Nat) : Int), .int .u64 ((dg 1 (pr s) : Nat) : Int), .int .u64 ((dg 2 (pr s) : Nat) : Int), .int .u64 ((dg 3 (pr s) : Nat) : Int)]) (vs' := [.int .u64 ((dg 0 (pr s) : Nat) : Int), .int .u64 ((dg 1 (pr s) : Nat) : Int), .int .u64 ((dg 2 (pr s) : Nat) : Int), .int .u64 ((dg 3 (pr s) : Nat) : Int)]) hk hs rfl rfl rfl ty47 rfl rfl rfl rfl rfl rfl fun w hs => ?_
 refine c_end (x_t (wS (wR ?_)))
 refine q_v hk (w_mv rfl) fun a hk => ?_
 refine q_v hk (w_iaL (k := 0) rfl rfl Tryz.underlying22 ty53 ((share_lst (HasR.nth 0 rfl : HasR (shareR la m lc S) _)).at_ hs) (by omega) (by omega)) fun a hk => ?_
 refine q_v hk (w_fa rfl fq53_1 ty3) fun a hk => ?_
 refine q_v hk (w_ld1 rfl ty3 (ic_eq g.th (lstf (k := 0) (o := 1) (m := 1) ((share_lst (HasR.nth 0 rfl : HasR (shareR la m lc S) _)).at_ hs) (by omega) (en_chunk shc_len (by omega)) rfl))) fun a hk => ?_
 refine q_v hk (w_as rfl) fun a hk => ?_
 refine c_end (x_t (wS (wR ?_)))
 refine q_v hk (w_as rfl) fun a hk => ?_
 refine c_end (x_t (wS (wS (wR ?_))))
 refine q_v hk (w_as rfl) fun a hk => ?_
 refine c_end (x_t ?_)
 refine wpIn_block ?_
 have hs := hs.row0 3 1
 refine c_loop (α := Nat) (fun u a w => ∃ (avi : Option Addr) (cvi : Nat), u ≤ (thN S) ∧ Kn [] 70 [(6, .int .i64 (u : Int)), (5, .slice avi u cvi), (4, .int .i64 ((thN S : Nat) : Int)), (3, .pointer (some ⟨b1, 0, none⟩)), (2, .slice none 0 0), (0, .slice la m lc)] a ∧ Sat no W [row 3 1 (.slice avi u cvi) u (en ic (fun i => ((vI S i : Nat) : Int)) u), blk b1 [.int .u64 ((dg 0 (pr s) : Nat) : Int), .int .u64 ((dg 1 (pr s) : Nat) : Int), .int .u64 ((dg 2 (pr s) : Nat) : Int), .int .u64 ((dg 3 (pr s) : Nat) : Int)] 47] [shareR la m lc S] w) (fun u => (thN S) - u) 0 ?_ ?_
 · exact ⟨_, _, (by omega), hk.k rfl (hk.k rfl (hk.k rfl (hk.k rfl (hk.k rfl (hk.k rfl hk.nil))))), hs⟩
 rintro u a w ⟨avi, cvi, hf0, hk, hs⟩
 refine wS (wS (wR ?_))
 refine q_v hk (w_mv rfl) fun a hk => ?_
 refine q_v hk (w_mv rfl) fun a hk => ?_
 rcases Classical.em ((u : Int) < ((thN S : Nat) : Int)) with hc2 | hc2
 ·
  have hu : u < m := by omega
  refine q_v hk (w_lt rfl rfl (decide_eq_true hc2)) fun a hk => ?_
  refine c_end (x_t ?_)
  refine c_T hk rfl ?_
  refine (wpIn_skip (x_t ?_))
  refine wS ?_
  refine wpIn_block ?_
  refine wR ?_
  refine q_v hk (w_mv rfl) fun a hk => ?_
  refine q_v hk (w_mv rfl) fun a hk => ?_
  refine q_v hk (w_mv rfl) fun a hk => ?_
  refine q_v hk (w_iaL (k := u) rfl rfl Tryz.underlying22 ty53 ((share_lst (HasR.nth 0 rfl : HasR (shareR la m lc S) _)).at_ hs) (by omega) (by omega)) fun a hk => ?_
  refine q_v hk (w_fa rfl fq53_2 ty3) fun a hk => ?_
  refine q_v hk (w_ld1 rfl ty3 (ic_eq (g.v_eq hu) (lstf (k := u) (o := 2) (m := 1) ((share_lst (HasR.nth 0 rfl : HasR (shareR la m lc S) _)).at_ hs) (by omega) (en_chunk shc_len (by omega)) rfl))) fun a hk => ?_
  refine q_bsl (els := [.tmp 31]) (cs := [.int .i64 ((vI S u : Nat) : Int)]) hk hs rfl Tryz.underlying34 ty3 zr3 rfl rfl rfl rfl rfl rfl rfl fun b3 w a hk hs => ?_
  have hs := hs.up1
  refine q_app (news := [.int .i64 ((vI S u : Nat) : Int)]) (m := 1) hk hs rfl rfl Tryz.underlying34 ty3 zr3 rfl rfl (.blk (n := 1) (hs.mi 1 rfl) rfl) rfl rfl (by omega) (by omega) rfl rfl fun a4 c5 w a hk hs => ?_
  have hs := hs.up1
  have hs := hs.drop
  refine q_v hk (w_as rfl) fun a hk => ?_
  refine (c_end (x_b (x_t ?_)))
  refine wR ?_
  refine q_v hk (w_mv rfl) fun a hk => ?_
  refine q_v hk (w_add rfl rfl (wr64 (by omega) (by omega))) fun a hk => ?_
  refine q_v hk (w_as rfl) fun a hk => ?_
  refine c_end (x_t ?_)
  have hs := hs.rw0 (congrArg _ en_succ)
  exact ⟨u + 1, ⟨_, _, (by omega), hk.k rfl (hk.k rfl (hk.k rfl (hk.k rfl (hk.k rfl (hk.k rfl hk.nil))))), hs⟩, by omega⟩
 ·
  obtain rfl : (thN S) = u := by omega
  refine q_v hk (w_lt rfl rfl (decide_eq_false hc2)) fun a hk => ?_
  refine c_end (x_t ?_)
  refine c_F hk rfl ?_
  refine (wpIn_exit (x_te (x_te (x_be ?_))))
  refine (x_t ?_)
  refine wS (wR ?_)
  refine q_v hk (w_as rfl) fun a hk => ?_
  refine c_end (x_t (wS (wS (wR ?_))))
  refine q_v hk (w_as rfl) fun a hk => ?_
  refine c_end (x_t ?_)
  refine wpIn_block ?_
  have hs := pol_none (T := 47) (n := (thN S)) (ob := fun _ => 0) (F := polF s S (thN S)) hs
  have hs := hs.row0 72 1
  refine c_loop (α := Nat) (fun k a w => ∃ (ob : Nat → Nat) (ap : Option Addr) (cp : Nat), k ≤ (S 0).n ∧ Kn [] 70 [(8, .int .i64 ((k : Nat) : Int)), (7, .slice ap k cp), (5, .slice avi (thN S) cvi), (4, .int .i64 ((thN S : Nat) : Int)), (3, .pointer (some ⟨b1, 0, none⟩)), (2, .slice none 0 0), (0, .slice la m lc)] a ∧ Sat no W [row 72 1 (.slice ap k cp) k (en plc (fun i => (ob i, (thN S))) k), polB 47 (thN S) ob (polF s S (thN S)) k, row 3 1 (.slice avi (thN S) cvi) (thN S) (en ic (fun i => ((vI S i : Nat) : Int)) (thN S)), blk b1 [.int .u64 ((dg 0 (pr s) : Nat) : Int), .int .u64 ((dg 1 (pr s) : Nat) : Int), .int .u64 ((dg 2 (pr s) : Nat) : Int), .int .u64 ((dg 3 (pr s) : Nat) : Int)] 47] [shareR la m lc S] w) (fun k => (S 0).n - k) 0 ?_ ?_
  · exact ⟨_, _, _, (by omega), hk.k rfl (hk.k rfl (hk.k rfl (hk.k rfl (hk.k rfl (hk.k rfl (hk.k rfl hk.nil)))))), hs⟩
  rintro k a w ⟨ob, ap, cp, hf0, hk, hs⟩
  refine wS (wS (wR ?_))
  refine q_v hk (w_mv rfl) fun a hk => ?_
  refine q_v hk (w_mv rfl) fun a hk => ?_
  refine q_v hk (w_iaL (k := 0) rfl rfl Tryz.underlying22 ty53 ((share_lst (HasR.nth 0 rfl : HasR (shareR la m lc S) _)).at_ hs) (by omega) (by omega)) fun a hk => ?_
  refine q_v hk (w_fa rfl fq53_4 ty51) fun a hk => ?_
  refine q_v hk (w_ld1 rfl ty51 (lstf (k := 0) (o := 4) (m := 1) ((share_lst (HasR.nth 0 rfl : HasR (shareR la m lc S) _)).at_ hs) (by omega) (en_chunk shc_len (by omega)) rfl)) fun a hk => ?_
  refine q_v hk (w_len rfl Tryz.underlying51) fun a hk => ?_
  rcases Classical.em (((k : Nat) : Int) < (((S 0).n : Nat) : Int)) with hc6 | hc6
  ·
   have hlt : k < (S 0).n := by omega
   refine q_v hk (w_lt rfl rfl (decide_eq_true hc6)) fun a hk => ?_
   refine c_end (x_t ?_)
   refine c_T hk rfl ?_
   refine (wpIn_skip (x_t ?_))
   refine wS ?_
   refine wpIn_block ?_
   refine wS (wR ?_)
   refine q_v hk (w_mv rfl) fun a hk => ?_
   refine q_v hk (w_mv rfl) fun a hk => ?_
   refine q_v hk (w_slc_eq (w_slc (l := 0) (h := thN S) rfl rfl rfl Tryz.underlying22 ty53 rfl rfl (by omega) (by omega) (by omega) (by omega) (by omega)) sla_zero (Nat.sub_zero _) (Nat.sub_zero _)) fun a hk => ?_
   refine q_v hk (w_mv rfl) fun a hk => ?_
   refine q_call (caps := []) hk rfl rfl Tryz.func57 fo57 rfl rfl (refColumn_c (thN S) lc k la S _ ((share_take (HasR.nth 0 rfl : HasR (shareR la m lc S) _) hth.2).at_ hs) (by omega) (fun i hi => by have := g.n i (by omega); omega)) ?_
   rintro _ w ⟨a7, c8, rfl, hS⟩
   have hs := hs.call1 hS
   clear hS
   refine ⟨_, rfl, fun a hk => ?_⟩
   refine q_v hk (w_as rfl) fun a hk => ?_
   refine c_end (x_t (wS (wR ?_)))
   refine q_v hk (w_as rfl) fun a hk => ?_
   refine c_end (x_t (wS (wS (wR ?_))))
   refine q_v hk (w_as rfl) fun a hk => ?_
   refine c_end (x_t ?_)
   refine wpIn_block ?_
   have hs := hs.row0 47 4
   refine c_loop (α := Nat) (fun j a w => ∃ (ay : Option Addr) (cy : Nat), j ≤ (thN S) ∧ Kn [] 70 [(11, .int .i64 (j : Int)), (10, .slice ay j cy), (9, .slice a7 (thN S) c8), (47, .slice a7 (thN S) c8), (46, .int .i64 ((k : Nat) : Int)), (45, .slice la (thN S) lc), (44, .int .i64 ((thN S : Nat) : Int)), (43, .slice la m lc), (40, .bool true), (39, .int .i64 (((S 0).n : Nat) : Int)), (38, .slice ((S 0).a) ((S 0).n) ((S 0).c)), (35, .slice la m lc), (34, .int .i64 ((k : Nat) : Int)), (8, .int .i64 ((k : Nat) : Int)), (7, .slice ap k cp), (5, .slice avi (thN S) cvi), (4, .int .i64 ((thN S : Nat) : Int)), (3, .pointer (some ⟨b1, 0, none⟩)), (2, .slice none 0 0), (0, .slice la m lc)] a ∧ Sat no W [row 47 4 (.slice ay j cy) j (en vq (fun i => zv (clz s S k i)) j), row 47 4 (.slice a7 (thN S) c8) (thN S) (en vq (fun i => (S i).X k) (thN S)), row 72 1 (.slice ap k cp) k (en plc (fun i => (ob i, (thN S))) k), polB 47 (thN S) ob (polF s S (thN S)) k, row 3 1 (.slice avi (thN S) cvi) (thN S) (en ic (fun i => ((vI S i : Nat) : Int)) (thN S)), blk b1 [.int .u64 ((dg 0 (pr s) : Nat) : Int), .int .u64 ((dg 1 (pr s) : Nat) : Int), .int .u64 ((dg 2 (pr s) : Nat) : Int), .int .u64 ((dg 3 (pr s) : Nat) : Int)] 47] [shareR la m lc S] w) (fun j => (thN S) - j) 0 ?_ ?_
   · exact ⟨_, _, (by omega), hk.k rfl (hk.k rfl (hk.k rfl (hk.k rfl (hk.k rfl (hk.k rfl (hk.k rfl (hk.k rfl (hk.k rfl (hk.k rfl (hk.k rfl (hk.k rfl (hk.k rfl (hk.k rfl (hk.k rfl (hk.k rfl (hk.k rfl (hk.k rfl (hk.k rfl (hk.k rfl hk.nil))))))))))))))))))), hs⟩
   rintro j a w ⟨ay, cy, hf0, hk, hs⟩
   refine wS (wS (wR ?_))
   refine q_v hk (w_mv rfl) fun a hk => ?_
   refine q_v hk (w_mv rfl) fun a hk => ?_
   rcases Classical.em ((j : Int) < ((thN S : Nat) : Int)) with hc9 | hc9
   ·
    have hj : j < m := by omega
    refine q_v hk (w_lt rfl rfl (decide_eq_true hc9)) fun a hk => ?_
    refine c_end (x_t ?_)
    refine c_T hk rfl ?_
    refine (wpIn_skip (x_t ?_))
    refine wS ?_
    refine wpIn_block ?_
    have hL := okL.cons (hs.mi 5 rfl) (okL.cons (hs.mi 1 rfl) okL.nil)
    refine d_begin _ 10 (by kernel_rfl) rfl hs hL fun w hs hL => ?_
    refine d_w 0 1 hk hL rfl (fun w hL => w_mv rfl) fun a hk => ?_
    refine d_w 1 3 hk hL rfl (fun w hL => w_ldv (z := pr s) rfl ty47 (.blk (n := 4) (hL.at 0 rfl) rfl)) fun a hk => ?_
    refine d_w 2 7 hk hL rfl (fun w hL => w_mv rfl) fun a hk => ?_
    refine d_w 3 15 hk hL rfl (fun w hL => w_mv rfl) fun a hk => ?_
    refine d_w 4 31 hk hL rfl (fun w hL => w_iaL (k := j) rfl rfl Tryz.underlying72 ty47 (row_lst (hL.at 1 rfl)) (by omega) (by omega)) fun a hk => ?_
    refine d_w 5 63 hk hL rfl (fun w hL => w_ldv (z := (S j).X k) rfl ty47 (lstq (k := j) (row_lst (hL.at 1 rfl)) (by omega) (en_chunk vq_len (by omega)))) fun a hk => ?_
    refine d_1 6 127 rfl (by kernel_rfl) fun K hK => ?_
    refine q_call (caps := []) hk rfl rfl Tryz.func58 fo58 rfl rfl (rvalue_z s (g.X j hj k hlt) _) ?_
    rintro _ w ⟨rfl, hb⟩
    have hs := hs.below hb
    refine ⟨_, rfl, fun a hk => ?_⟩
    have hL := okL.cons (hs.mi 5 rfl) (okL.cons (hs.mi 1 rfl) okL.nil)
    refine c_end (x_t (hK _ _ hL ?_))
    clear hK K
    refine d_1 7 255 rfl (by kernel_rfl) fun K hK => ?_
    refine q_bsl (els := [.tmp 59]) (cs := [.int .u64 ((dg 0 (zv (clz s S k j)) : Nat) : Int), .int .u64 ((dg 1 (zv (clz s S k j)) : Nat) : Int), .int .u64 ((dg 2 (zv (clz s S k j)) : Nat) : Int), .int .u64 ((dg 3 (zv (clz s S k j)) : Nat) : Int)]) hk hs rfl Tryz.underlying72 ty47 zr47 rfl rfl rfl rfl rfl rfl rfl fun b1_7 w a hk hs => ?_
    have hL := okL.cons (hs.mi 6 rfl) (okL.cons (hs.mi 2 rfl) okL.nil)
    refine c_end (x_t (hK _ _ hL ?_))
    clear hK K
    refine d_1 8 511 rfl (by kernel_rfl) fun K hK => ?_
    have hs := hs.up1
    refine q_app (news := [.int .u64 ((dg 0 (zv (clz s S k j)) : Nat) : Int), .int .u64 ((dg 1 (zv (clz s S k j)) : Nat) : Int), .int .u64 ((dg 2 (zv (clz s S k j)) : Nat) : Int), .int .u64 ((dg 3 (zv (clz s S k j)) : Nat) : Int)]) (m := 1) hk hs rfl rfl Tryz.underlying72 ty47 zr47 rfl rfl (.blk (n := 4) (hs.mi 1 rfl) rfl) rfl rfl (by omega) (by omega) rfl rfl fun a1_8 c1_8b w a hk hs => ?_
    have hs := hs.up1
    have hs := hs.drop
    have hL := okL.cons (hs.mi 5 rfl) (okL.cons (hs.mi 1 rfl) okL.nil)
    refine c_end (x_t (hK _ _ hL ?_))
    clear hK K
    refine d_w 9 1023 hk hL rfl (fun w hL => w_as rfl) fun a hk => ?_
    refine d_end (by kernel_rfl) ?_
    refine (x_b (x_t ?_))
    refine wR ?_
    refine q_v hk (w_mv rfl) fun a hk => ?_
    refine q_v hk (w_add rfl rfl (wr64 (by omega) (by omega))) fun a hk => ?_
    refine q_v hk (w_as rfl) fun a hk => ?_
    refine c_end (x_t ?_)
    have hs := hs.rw0 (congrArg _ en_succ)
    exact ⟨j + 1, ⟨_, _, (by omega), hk.k rfl (hk.k rfl (hk.k rfl (hk.k rfl (hk.k rfl (hk.k rfl (hk.k rfl (hk.k rfl (hk.k rfl (hk.k rfl (hk.k rfl (hk.k rfl (hk.k rfl (hk.k rfl (hk.k rfl (hk.k rfl (hk.k rfl (hk.k rfl (hk.k rfl (hk.k rfl hk.nil))))))))))))))))))), hs⟩, by omega⟩
   ·
    obtain rfl : (thN S) = j := by omega
    refine q_v hk (w_lt rfl rfl (decide_eq_false hc9)) fun a hk => ?_
    refine c_end (x_t ?_)
    refine c_F hk rfl ?_
    refine (wpIn_exit (x_te (x_te (x_be ?_))))
    refine (x_t ?_)
    refine wR ?_
    refine q_v hk (w_mv rfl) fun a hk => ?_
    refine q_v hk (w_ldv (z := pr s) rfl ty47 (.blk (n := 4) (hs.mi 5 rfl) rfl)) fun a hk => ?_
    refine q_v hk (w_mv rfl) fun a hk => ?_
    refine q_v hk (w_mv rfl) fun a hk => ?_
    refine q_call (caps := []) hk rfl rfl Tryz.func94 fo94 rfl rfl (rinterp_z s (thN S) cvi cy avi ay (vI S) (clz s S k) _ (row_lst (hs.mi 4 rfl)) (row_lst (hs.mi 0 rfl)) (by omega) (fun i hi => by have := g.v_le i (by omega); omega)) ?_
    rintro _ w ⟨b10, rfl, hS⟩
    have hs := hs.call1 hS
    clear hS
    refine ⟨_, rfl, fun a hk => ?_⟩
    refine q_bsl (els := [.tmp 66]) (cs := [.slice (some ⟨b10, 0, none⟩) (thN S) (thN S)]) hk hs rfl Tryz.underlying84 ty72 zr72 rfl rfl rfl rfl rfl rfl rfl fun b11 w a hk hs => ?_
    have hs := hs.up4
    refine q_app (news := [.slice (some ⟨b10, 0, none⟩) (thN S) (thN S)]) (m := 1) hk hs rfl rfl Tryz.underlying84 ty72 zr72 rfl rfl (.blk (n := 1) (hs.mi 1 rfl) rfl) rfl rfl (by omega) (by omega) rfl rfl fun a12 c13 w a hk hs => ?_
    have hs := hs.up1
    have hs := hs.drop
    refine q_v hk (w_as rfl) fun a hk => ?_
    refine (c_end (x_b (x_t ?_)))
    refine wR ?_
    refine q_v hk (w_mv rfl) fun a hk => ?_
    refine q_v hk (w_add rfl rfl (wr64 (by omega) (by omega))) fun a hk => ?_
    refine q_v hk (w_as rfl) fun a hk => ?_
    refine c_end (x_t ?_)
    have hs := hs.rw0 (congrArg (fun q => row 72 1 (.slice a12 (k + 1) c13) (k + 1) q) (pol_row (n := (thN S)) (ob := ob) (k := k) (o := b10)))
    have hs := hs.up4
    have hs := hs.up2
    have hs := pol_add (F := polF s S (thN S)) (k := k) (o := b10) (ob := ob) (n := (thN S)) (T := 47) hs
    have hs := hs.up2
    have hs := hs.drop
    have hs := hs.up2
    have hs := hs.drop
    have hs := hs.up3
    have hs := hs.up3
    have hs := hs.up2
    have hs := hs.up3
    exact ⟨k + 1, ⟨_, _, _, (by omega), hk.k rfl (hk.k rfl (hk.k rfl (hk.k rfl (hk.k rfl (hk.k rfl (hk.k rfl hk.nil)))))), hs⟩, by omega⟩
  ·
   refine q_v hk (w_lt rfl rfl (decide_eq_false hc6)) fun a hk => ?_
   refine c_end (x_t ?_)
   refine c_F hk rfl ?_
   refine (wpIn_exit (x_te (x_te (x_be ?_))))
   refine (x_t ?_)
   refine wS (wR ?_)
   refine q_v hk (w_mv rfl) fun a hk => ?_
   refine q_v hk (w_as rfl) fun a hk => ?_
   refine c_end (x_t ?_)
   refine (wpIn_ret ?_)
   refine c_ret1 hk rfl rfl ?_
   have hs := hs.up2
   have hs := hs.drop
   have hs := hs.up2
   have hs := hs.drop
   have hkm : k = (S 0).n := by omega
   rw [hkm] at hs ⊢
   exact ⟨_, _, _, rfl, hs.fin⟩
end Go.Proofs.YtdnkkbmpefhbjaaGreatDoor
namespace Go.Proofs.YtdnkkbmpefhbjaaGreatDoor
set_option linter.all false
open Go Go.RowKit Alg
/-- The value of a chunk at zero, and elsewhere. -/
def valZ (s : Bool) (S : Nat → Shr) (m ch : Nat) : Zp s := dot (zw (pt s (vI S)) m) (clz s S ch) m
def atZ (s : Bool) (S : Nat → Shr) (m : Nat) (x : Zp s) (ch : Nat) : Zp s := Hn (itp (pt s (vI S)) (clz s S ch) m m) m x m
theorem coef_len3 {m : Nat} : (upE 0 (m : Int) coefE).length ≤ m := by rw [coefU_len]; exact Nat.le_refl m
theorem vals_f (s : Bool) (S : Nat → Shr) (m zc bt bf bz : Nat) (za : Option Addr) (t : Option Nat) (hm : m ≤ 255) : FunC (82, [.pointer (some ⟨bt, 0, none⟩), .pointer (some ⟨bf, 0, none⟩), .pointer (some ⟨bz, 0, none⟩)]) s S m t (valZ s S m) (upE 0 (m : Int) coefE) (rall [blk bt [tval t] 60, blk bf (fieldL s) 120, blk bz [.slice za m zc] 51, lst 4 (.slice za m zc) m (en vq (fun i => mq ((zw (pt s (vI S)) m) i)) m)]) := by
 refine ⟨_, Tryz.func82, fo82, fun F0 W M R w0 ya yc ch evs r hT hx hC hch he hs => ?_⟩
 refine c_enter (args := [.slice ya m yc, .pointer (some ⟨bt, 0, none⟩), .pointer (some ⟨bf, 0, none⟩), .pointer (some ⟨bz, 0, none⟩)]) Tryz.func82 rfl rfl rfl fun a hk => ?_
 refine wS (wR ?_)
 refine q_alc (vs := [.int .u64 0, .int .u64 0, .int .u64 0, .int .u64 0]) hk hs zr56 rfl rfl rfl fun b1 w a hk hs => ?_
 refine q_v hk (w_as rfl) fun a hk => ?_
 refine c_end (x_t (wS (wR ?_)))
 refine q_v hk (w_ld1 rfl ty60 (.blk (n := 1) ((hx.pi 0 rfl).at_ hs) rfl)) fun a hk => ?_
 refine q_v hk (w_ldA rfl ty120 (.blk (n := 14) ((hx.pi 1 rfl).at_ hs) rfl) rfl) fun a hk => ?_
 refine q_v hk (w_ld1 rfl ty51 (.blk (n := 1) ((hx.pi 2 rfl).at_ hs) rfl)) fun a hk => ?_
 refine q_v hk (w_mv rfl) fun a hk => ?_
 have hs := hs.up1
 refine q_call (caps := []) hk rfl rfl Tryz.func83 fo83 rfl rfl (dot_m s m zc yc za ya (zw (pt s (vI S)) m) (clz s S ch) t evs _ _ ((hs.hasR (hC)).hasR ((hx.pi 3 rfl)).cons) hT (by omega) (by omega)) ?_
 rintro _ w ⟨r2, rfl, ht3, hs⟩
 have hT := ht3
 have hs := hs.subR (R' := R) (by simp +contextual)
 refine ⟨_, rfl, fun a hk => ?_⟩
 refine q_v hk (w_ext rfl rfl) fun a hk => ?_
 refine q_v hk (w_ext rfl rfl) fun a hk => ?_
 have hs := hs.up1
 refine q_sto (o := 0) (cs := [.int .u64 ((dg 0 (mq (valZ s S m ch)) : Nat) : Int), .int .u64 ((dg 1 (mq (valZ s S m ch)) : Nat) : Int), .int .u64 ((dg 2 (mq (valZ s S m ch)) : Nat) : Int), .int .u64 ((dg 3 (mq (valZ s S m ch)) : Nat) : Int)]) (vs' := [.int .u64 ((dg 0 (mq (valZ s S m ch)) : Nat) : Int), .int .u64 ((dg 1 (mq (valZ s S m ch)) : Nat) : Int), .int .u64 ((dg 2 (mq (valZ s S m ch)) : Nat) : Int), .int .u64 ((dg 3 (mq (valZ s S m ch)) : Nat) : Int)]) hk hs rfl rfl rfl ty56 rfl rfl rfl rfl rfl rfl fun w hs => ?_
 refine q_v hk (w_as rfl) fun a hk => ?_
 refine c_end (x_t ?_)
 refine (wpIn_ret ?_)
 refine c_retG (vs := [vec (mq (valZ s S m ch)), .int .i64 0]) hk rfl ⟨⟨_, rfl, lv_A ty56 (.blk (n := 4) (hs.mi 0 rfl) rfl) rfl⟩, rfl, trivial⟩ rfl ?_
 have hs := hs.drop
 exact ⟨_, rfl, hT, hs⟩
theorem at_f (s : Bool) (S : Nat → Shr) (m xc bt bf bx bp : Nat) (xa : Option Addr) (x : Zp s) (t : Option Nat) (hm : m ≤ 255) (g : Good s S m) : FunC (89, [.pointer (some ⟨bt, 0, none⟩), .pointer (some ⟨bf, 0, none⟩), .pointer (some ⟨bx, 0, none⟩), .pointer (some ⟨bp, 0, none⟩)]) s S m t (atZ s S m x) (interpE (m : Int) ++ downE (m : Int) coefE) (rall [blk bt [tval t] 60, blk bf (fieldL s) 120, blk bx [.slice xa m xc] 34, lst 1 (.slice xa m xc) m (en ic (fun i => ((vI S i : Nat) : Int)) m), blk bp (vq (mq x)) 56]) := by
 refine ⟨_, Tryz.func89, fo89, fun F0 W M R w0 ya yc ch evs r hT hx hC hch he hs => ?_⟩
 have hm0 := g.m0
 refine c_enter (args := [.slice ya m yc, .pointer (some ⟨bt, 0, none⟩), .pointer (some ⟨bf, 0, none⟩), .pointer (some ⟨bx, 0, none⟩), .pointer (some ⟨bp, 0, none⟩)]) Tryz.func89 rfl rfl rfl fun a hk => ?_
 refine wS (wR ?_)
 refine q_alc (vs := [.int .u64 0, .int .u64 0, .int .u64 0, .int .u64 0]) hk hs zr56 rfl rfl rfl fun b1 w a hk hs => ?_
 refine q_v hk (w_as rfl) fun a hk => ?_
 refine c_end (x_t (wS (wR ?_)))
 refine q_v hk (w_ld1 rfl ty60 (.blk (n := 1) ((hx.pi 0 rfl).at_ hs) rfl)) fun a hk => ?_
 refine q_v hk (w_ldA rfl ty120 (.blk (n := 14) ((hx.pi 1 rfl).at_ hs) rfl) rfl) fun a hk => ?_
 refine q_v hk (w_ld1 rfl ty34 (.blk (n := 1) ((hx.pi 2 rfl).at_ hs) rfl)) fun a hk => ?_
 refine q_v hk (w_mv rfl) fun a hk => ?_
 have hs := hs.up1
 refine q_call (caps := []) hk rfl rfl Tryz.func90 fo90 rfl rfl (interp_m s m xc yc xa ya (vI S) (clz s S ch) t evs _ _ (hs.hasR (hC)) hT ((hx.pi 3 rfl)) g.m0 (by omega) g.v_le g.v_ne (by omega)) ?_
 rintro _ w ⟨b2, r3, rfl, ht4, hs⟩
 have hT := ht4
 have hs := hs.subR (R' := R) (by simp +contextual)
 refine ⟨_, rfl, fun a hk => ?_⟩
 refine q_v hk (w_mv rfl) fun a hk => ?_
 refine q_v hk (w_ext rfl rfl) fun a hk => ?_
 refine q_v hk (w_ext rfl rfl) fun a hk => ?_
 refine q_v hk (w_as rfl) fun a hk => ?_
 refine q_v hk (w_as rfl) fun a hk => ?_
 refine c_end (x_t (wS (wR ?_)))
 refine q_v hk (w_ld1 rfl ty60 (.blk (n := 1) ((hx.pi 0 rfl).at_ hs) rfl)) fun a hk => ?_
 refine q_v hk (w_ldA rfl ty120 (.blk (n := 14) ((hx.pi 1 rfl).at_ hs) rfl) rfl) fun a hk => ?_
 refine q_v hk (w_mv rfl) fun a hk => ?_
 refine q_v hk (w_ldv (z := mq x) rfl ty56 (.blk (n := 4) ((hx.pi 4 rfl).at_ hs) rfl)) fun a hk => ?_
 have hs := hs.up1
 have hs := hs.frz (r := lst 4 (.slice (some ⟨b2, 0, none⟩) m m) m (en vq (fun i => mq ((itp (pt s (vI S)) (clz s S ch) m m) i)) m)) (blk_lst (hs.mi 0 rfl) (en_len vq_len) (Nat.le_refl _)) (fun _ h => (Option.some.inj h.2).symm)
 refine q_call (caps := []) hk rfl rfl Tryz.func91 fo91 rfl rfl (peval_m s m m (some ⟨b2, 0, none⟩) (itp (pt s (vI S)) (clz s S ch) m m) x t (evs ++ interpE (m : Int)) _ _ hs hT (HasR.nth 0 rfl) g.m0 (by omega) (by have := interp_len2 (n := m) (by omega); simp only [List.length_append]; omega)) ?_
 rintro _ w ⟨r5, rfl, ht6, hs⟩
 have hT := ht6
 refine ⟨_, rfl, fun a hk => ?_⟩
 refine q_v hk (w_mv rfl) fun a hk => ?_
 have hs := hs.up1
 refine q_sto (o := 0) (cs := [.int .u64 ((dg 0 (mq (atZ s S m x ch)) : Nat) : Int), .int .u64 ((dg 1 (mq (atZ s S m x ch)) : Nat) : Int), .int .u64 ((dg 2 (mq (atZ s S m x ch)) : Nat) : Int), .int .u64 ((dg 3 (mq (atZ s S m x ch)) : Nat) : Int)]) (vs' := [.int .u64 ((dg 0 (mq (atZ s S m x ch)) : Nat) : Int), .int .u64 ((dg 1 (mq (atZ s S m x ch)) : Nat) : Int), .int .u64 ((dg 2 (mq (atZ s S m x ch)) : Nat) : Int), .int .u64 ((dg 3 (mq (atZ s S m x ch)) : Nat) : Int)]) hk hs rfl rfl rfl ty56 rfl rfl rfl rfl rfl rfl fun w hs => ?_
 refine q_v hk (w_as rfl) fun a hk => ?_
 refine c_end (x_t ?_)
 refine (wpIn_ret ?_)
 refine c_retG (vs := [vec (mq (atZ s S m x ch)), .int .i64 0]) hk rfl ⟨⟨_, rfl, lv_A ty56 (.blk (n := 4) (hs.mi 0 rfl) rfl) rfl⟩, rfl, trivial⟩ rfl ?_
 have hs := hs.drop
 have hs := hs.toR (R' := R) (fun r hr => .of (by simp [hr]))
 exact ⟨_, rfl, by rw [← List.append_assoc]; exact hT, hs⟩
end Go.Proofs.YtdnkkbmpefhbjaaGreatDoor
namespace Go.Proofs.YtdnkkbmpefhbjaaGreatDoor
set_option linter.all false
open Go Go.RowKit Alg
def valsE (th n : Nat) : List Ev := weightsE (th : Int) ++ upE 0 (th : Int) coefE ++ eachE (n : Int) (upE 0 (th : Int) coefE)
def atE (th n : Nat) : List Ev := eachE (n : Int) (interpE (th : Int) ++ downE (th : Int) coefE)
theorem values_bad {F0 : Nat → Prop} {W : World} {M R : List Res} (m lc : Nat) (la : Option Addr) (S : Nat → Shr) (t : Option Nat) (w0 : World) (hs : Sat F0 W M R w0) (hS : HasR (shareR la m lc S) R) (hG : HasR laidR R) (HO : ShOk S m) (hz : csErr S m ≠ 0) : Calls Tryz.prog 41 [tval t, .slice la m lc].toArray w0 fun e w => e = .returned (.tuple #[.slice none 0 0, .int .i64 (csErr S m)]) ∧ Sat F0 W M R w := by
 refine c_enter (args := [tval t, .slice la m lc]) Tryz.func41 rfl rfl rfl fun a hk => ?_
 refine wS (wR ?_)
 refine q_box (vs := [tval t]) hk hs rfl rfl rfl rfl fun b1 w a hk hs => ?_
 refine q_v hk (w_as rfl) fun a hk => ?_
 refine q_v hk (w_as rfl) fun a hk => ?_
 refine c_end (x_t (wS (wR ?_)))
 refine q_v hk (w_mv rfl) fun a hk => ?_
 refine q_call (caps := []) hk rfl rfl Tryz.func78 fo78 rfl rfl (used_bad m lc la S _ hs (hS) (hG) HO hz) ?_
 rintro _ w ⟨rfl, hs⟩
 refine ⟨_, rfl, fun a hk => ?_⟩
 refine q_v hk (w_mv rfl) fun a hk => ?_
 refine q_v hk (w_ext rfl rfl) fun a hk => ?_
 refine q_v hk (w_ext rfl rfl) fun a hk => ?_
 refine q_v hk (w_ext rfl rfl) fun a hk => ?_
 refine q_alc (vs := [.int .i64 0, .int .u64 0, .int .u64 0, .int .u64 0, .int .u64 0, .int .u64 0, .int .u64 0, .int .u64 0, .int .u64 0, .int .u64 0, .int .u64 0, .int .u64 0, .int .u64 0, .int .u64 0]) hk hs zr120 rfl rfl rfl fun b2 w a hk hs => ?_
 refine q_sto (o := 0) (cs := [.int .i64 0, .int .u64 0, .int .u64 0, .int .u64 0, .int .u64 0, .int .u64 0, .int .u64 0, .int .u64 0, .int .u64 0, .int .u64 0, .int .u64 0, .int .u64 0, .int .u64 0, .int .u64 0]) (vs' := [.int .i64 0, .int .u64 0, .int .u64 0, .int .u64 0, .int .u64 0, .int .u64 0, .int .u64 0, .int .u64 0, .int .u64 0, .int .u64 0, .int .u64 0, .int .u64 0, .int .u64 0, .int .u64 0]) hk hs rfl rfl rfl ty120 rfl rfl rfl rfl rfl rfl fun w hs => ?_
 refine q_v hk (w_as rfl) fun a hk => ?_
 refine q_v hk (w_as rfl) fun a hk => ?_
 refine c_end (x_t (wS (wS (wR ?_))))
 refine q_v hk (w_mv rfl) fun a hk => ?_
 refine q_v hk (w_ne rfl rfl (decide_eq_true (by omega))) fun a hk => ?_
 refine c_end (x_t ?_)
 refine c_T hk rfl ?_
 refine wS (wR ?_)
 refine q_v hk (w_mv rfl) fun a hk => ?_
 refine q_v hk (w_as rfl) fun a hk => ?_
 refine q_v hk (w_as rfl) fun a hk => ?_
 refine c_end (x_t ?_)
 refine (wpIn_ret (x_tr ?_))
 refine c_ret2 hk rfl rfl rfl ?_
 have hs := hs.drop
 have hs := hs.drop
 exact ⟨rfl, hs⟩
theorem values_m {F0 : Nat → Prop} {W : World} {M R : List Res} (s : Bool) (m lc : Nat) (la : Option Addr) (S : Nat → Shr) (t : Option Nat) (evs : List Ev) (r : Res) (w0 : World) (hs : Sat F0 W (r :: M) R w0) (hS : HasR (shareR la m lc S) R) (hG : HasR laidR R) (HO : ShOk S m) (g : Good s S m) (hz : csErr S m = 0) (hm : m ≤ 255) (hn9 : (S 0).n ≤ 4) (hT : TapeIs t evs r) (he : evs.length ≤ 10000) : Calls Tryz.prog 41 [tval t, .slice la m lc].toArray w0 fun e w => ∃ r a c, e = .returned (.tuple #[.slice a (S 0).n c, .int .i64 0]) ∧ TapeIs t (evs ++ valsE (thN S) (S 0).n) r ∧ Sat F0 W (r :: row 56 4 (.slice a (S 0).n c) (S 0).n (en vq (fun i => mq (valZ s S (thN S) i)) (S 0).n) :: M) R w := by
 have hm0 := g.m0
 have hth := g.th_le
 have hS2 := share_take hS hth.2
 have g2 := g.take
 refine c_enter (args := [tval t, .slice la m lc]) Tryz.func41 rfl rfl rfl fun a hk => ?_
 refine wS (wR ?_)
 refine q_box (vs := [tval t]) hk hs rfl rfl rfl rfl fun b1 w a hk hs => ?_
 refine q_v hk (w_as rfl) fun a hk => ?_
 refine q_v hk (w_as rfl) fun a hk => ?_
 refine c_end (x_t (wS (wR ?_)))
 refine q_v hk (w_mv rfl) fun a hk => ?_
 refine q_call (caps := []) hk rfl rfl Tryz.func78 fo78 rfl rfl (used_m s m lc la S _ hs (hS) (hG) HO g hz hm) ?_
 rintro _ w ⟨rfl, hs⟩
 refine ⟨_, rfl, fun a hk => ?_⟩
 refine q_v hk (w_mv rfl) fun a hk => ?_
 refine q_v hk (w_ext rfl rfl) fun a hk => ?_
 refine q_v hk (w_ext rfl rfl) fun a hk => ?_
 refine q_v hk (w_ext rfl rfl) fun a hk => ?_
 refine q_alc (vs := [.int .i64 0, .int .u64 0, .int .u64 0, .int .u64 0, .int .u64 0, .int .u64 0, .int .u64 0, .int .u64 0, .int .u64 0, .int .u64 0, .int .u64 0, .int .u64 0, .int .u64 0, .int .u64 0]) hk hs zr120 rfl rfl rfl fun b2 w a hk hs => ?_
 refine q_sto (o := 0) (cs := fieldL s) (vs' := fieldL s) hk hs rfl rfl rfl ty120 rfl rfl rfl rfl rfl rfl fun w hs => ?_
 refine q_v hk (w_as rfl) fun a hk => ?_
 refine q_v hk (w_as rfl) fun a hk => ?_
 refine c_end (x_t (wS (wS (wR ?_))))
 refine q_v hk (w_mv rfl) fun a hk => ?_
 refine q_v hk (w_ne rfl rfl (decide_eq_false (by decide))) fun a hk => ?_
 refine c_end (x_t ?_)
 refine c_F hk rfl ?_
 refine (wpIn_skip (x_t ?_))
 refine wS ?_
 have hL := okL.cons (hs.mi 1 rfl) (okL.cons (hs.mi 0 rfl) okL.nil)
 refine d_begin _ 11 (by kernel_rfl) rfl hs hL fun w hs hL => ?_
 refine d_join (n2 := 2) 511 (fun a w => ∃ (b1_8 : Nat) (b1_4 : Nat) (a1_3 : Option Addr) (c1_3b : Nat) (r1_4b : Res), TapeIs t (evs ++ (weightsE ((thN S) : Int) ++ upE 0 ((thN S) : Int) coefE)) r1_4b ∧ Kn [] 35 [(8, .pointer (some ⟨b1_8, 0, none⟩)), (25, .int .i64 0), (24, .slice (some ⟨b1_4, 0, none⟩) (thN S) (thN S)), (18, .tuple #[.slice (some ⟨b1_4, 0, none⟩) (thN S) (thN S), .int .i64 0]), (23, .tuple #[.slice (some ⟨b1_4, 0, none⟩) (thN S) (thN S), .int .i64 0]), (22, .slice a1_3 (thN S) c1_3b), (21, .slice la (thN S) lc), (20, fieldV s), (19, tval t), (16, .bool false), (15, .int .i64 0), (7, .int .i64 0), (1, .slice la (thN S) lc), (6, .pointer (some ⟨b2, 0, none⟩)), (14, .int .i64 0), (13, .slice la (thN S) lc), (12, fieldV s), (9, .tuple #[fieldV s, .slice la (thN S) lc, .int .i64 0]), (11, .tuple #[fieldV s, .slice la (thN S) lc, .int .i64 0]), (10, .slice la m lc), (5, .int .i64 0), (4, .slice none 0 0), (2, .pointer (some ⟨b1, 0, none⟩)), (0, tval t)] a ∧ Sat F0 W ((blk b1_8 [.slice none 0 0] 51) :: r1_4b :: (blk b1_4 (en vq (fun i => mq (zw (pt s (vI S)) (thN S) i)) (thN S)) 56) :: (blk b2 (fieldL s) 120) :: (blk b1 [tval t] 60) :: M) ((lst 1 (.slice a1_3 (thN S) c1_3b) (thN S) (en ic (fun i => ((vI S i : Nat) : Int)) (thN S))) :: R) w ∧ okL [blk b1 [tval t] 60, blk b2 (fieldL s) 120] w) ?_ ?_
 ·
  intro hJ511
  refine d_join (n2 := 6) 271 (fun a w => ∃ (b1_8 : Nat) (a1_3 : Option Addr) (c1_3b : Nat), Kn [] 35 [(8, .pointer (some ⟨b1_8, 0, none⟩)), (22, .slice a1_3 (thN S) c1_3b), (21, .slice la (thN S) lc), (20, fieldV s), (19, tval t), (16, .bool false), (15, .int .i64 0), (7, .int .i64 0), (1, .slice la (thN S) lc), (6, .pointer (some ⟨b2, 0, none⟩)), (14, .int .i64 0), (13, .slice la (thN S) lc), (12, fieldV s), (9, .tuple #[fieldV s, .slice la (thN S) lc, .int .i64 0]), (11, .tuple #[fieldV s, .slice la (thN S) lc, .int .i64 0]), (10, .slice la m lc), (5, .int .i64 0), (4, .slice none 0 0), (2, .pointer (some ⟨b1, 0, none⟩)), (0, tval t)] a ∧ Sat F0 W ((blk b1_8 [.slice none 0 0] 51) :: (row 3 1 (.slice a1_3 (thN S) c1_3b) (thN S) (en ic (fun i => (S i).I) (thN S))) :: (blk b2 (fieldL s) 120) :: (blk b1 [tval t] 60) :: r :: M) R w ∧ okL [blk b1 [tval t] 60, blk b2 (fieldL s) 120] w) ?_ ?_
  ·
   intro hJ271
   refine d_w 0 1 hk hL rfl (fun w hL => w_ld1 rfl ty60 (.blk (n := 1) (hL.at 0 rfl) rfl)) fun a hk => ?_
   refine d_w 1 3 hk hL rfl (fun w hL => w_ldA rfl ty120 (.blk (n := 14) (hL.at 1 rfl) rfl) rfl) fun a hk => ?_
   refine d_w 2 7 hk hL rfl (fun w hL => w_mv rfl) fun a hk => ?_
   refine d_2 3 8 15 263 rfl rfl (by kernel_rfl) (fun K hK => ?_) (fun K hK => ?_)
   ·
    refine q_call (caps := []) hk rfl rfl Tryz.func80 fo80 rfl rfl (indices_c (thN S) lc la S _ ((hS2).at_ hs) (by omega)) ?_
    rintro _ w ⟨a1_3, c1_3b, rfl, hS⟩
    have hs := hs.call1 hS
    clear hS
    refine ⟨_, rfl, fun a hk => ?_⟩
    have hL := okL.cons (hs.mi 2 rfl) (okL.cons (hs.mi 1 rfl) okL.nil)
    refine c_end (x_t (hK _ _ hL ?_))
    clear hK K
    refine d_2 4 8 31 271 rfl rfl (by kernel_rfl) (fun K hK => ?_) (fun K hK => ?_)
    ·
     have hs := hs.rw0 (congrArg (fun q => row 3 1 (.slice a1_3 (thN S) c1_3b) (thN S) q) g2.xs_eq)
     have hs := hs.frz (r := lst 1 (.slice a1_3 (thN S) c1_3b) (thN S) (en ic (fun i => ((vI S i : Nat) : Int)) (thN S))) (row_lst (hs.mi 0 rfl)) (fun _ h => h.2)
     have hs := hs.up2
     refine q_call (caps := []) hk rfl rfl Tryz.func79 fo79 rfl rfl (zero_m s (thN S) c1_3b a1_3 (vI S) t evs _ _ hs hT (HasR.nth 0 rfl) g2.m0 (by omega) g2.v_le g2.v_ne (by omega)) ?_
     rintro _ w ⟨b1_4, r1_4b, rfl, ht1_4c, hs⟩
     rw [List.append_assoc] at ht1_4c
     have hT := ht1_4c
     refine ⟨_, rfl, fun a hk => ?_⟩
     have hL := okL.cons (hs.mi 3 rfl) (okL.cons (hs.mi 2 rfl) okL.nil)
     refine c_end (x_t (hK _ _ hL ?_))
     clear hK K
     refine d_w 5 63 hk hL rfl (fun w hL => w_mv rfl) fun a hk => ?_
     refine d_w 6 127 hk hL rfl (fun w hL => w_ext rfl rfl) fun a hk => ?_
     refine d_w 7 255 hk hL rfl (fun w hL => w_ext rfl rfl) fun a hk => ?_
     refine d_1 8 511 rfl (by kernel_rfl) fun K hK => ?_
     refine q_alc (vs := [.slice none 0 0]) hk hs zr51 rfl rfl rfl fun b1_8 w a hk hs => ?_
     have hL := okL.cons (hs.mi 4 rfl) (okL.cons (hs.mi 3 rfl) okL.nil)
     refine c_end (x_t (hK _ _ hL ?_))
     clear hK K
     have hL := okL.cons (hs.mi 4 rfl) (okL.cons (hs.mi 3 rfl) okL.nil)
     exact hJ511 _ _ ⟨_, _, _, _, _, hT, hk.k rfl (hk.k rfl (hk.k rfl (hk.k rfl (hk.k rfl (hk.k rfl (hk.k rfl (hk.k rfl (hk.k rfl (hk.k rfl (hk.k rfl (hk.k rfl (hk.k rfl (hk.k rfl (hk.k rfl (hk.k rfl (hk.k rfl (hk.k rfl (hk.k rfl (hk.k rfl (hk.k rfl (hk.k rfl (hk.k rfl (hk.k rfl hk.nil))))))))))))))))))))))), hs, hL⟩
    ·
     refine q_alc (vs := [.slice none 0 0]) hk hs zr51 rfl rfl rfl fun b1_8 w a hk hs => ?_
     have hL := okL.cons (hs.mi 3 rfl) (okL.cons (hs.mi 2 rfl) okL.nil)
     refine c_end (x_t (hK _ _ hL ?_))
     clear hK K
     have hL := okL.cons (hs.mi 3 rfl) (okL.cons (hs.mi 2 rfl) okL.nil)
     exact hJ271 _ _ ⟨_, _, _, hk.k rfl (hk.k rfl (hk.k rfl (hk.k rfl (hk.k rfl (hk.k rfl (hk.k rfl (hk.k rfl (hk.k rfl (hk.k rfl (hk.k rfl (hk.k rfl (hk.k rfl (hk.k rfl (hk.k rfl (hk.k rfl (hk.k rfl (hk.k rfl (hk.k rfl (hk.k rfl hk.nil))))))))))))))))))), hs, hL⟩
   ·
    refine q_alc (vs := [.slice none 0 0]) hk hs zr51 rfl rfl rfl fun b1_8 w a hk hs => ?_
    have hL := okL.cons (hs.mi 2 rfl) (okL.cons (hs.mi 1 rfl) okL.nil)
    refine c_end (x_t (hK _ _ hL ?_))
    clear hK K
    refine d_1 3 271 rfl (by kernel_rfl) fun K hK => ?_
    refine q_call (caps := []) hk rfl rfl Tryz.func80 fo80 rfl rfl (indices_c (thN S) lc la S _ ((hS2).at_ hs) (by omega)) ?_
    rintro _ w ⟨a1_3, c1_3b, rfl, hS⟩
    have hs := hs.call1 hS
    clear hS
    refine ⟨_, rfl, fun a hk => ?_⟩
    have hL := okL.cons (hs.mi 3 rfl) (okL.cons (hs.mi 2 rfl) okL.nil)
    refine c_end (x_t (hK _ _ hL ?_))
    clear hK K
    have hs := hs.up4
    have hs := hs.up4
    have hs := hs.up4
    have hs := hs.up3
    have hs := hs.up4
    have hL := okL.cons (hs.mi 3 rfl) (okL.cons (hs.mi 2 rfl) okL.nil)
    exact hJ271 _ _ ⟨_, _, _, hk.k rfl (hk.k rfl (hk.k rfl (hk.k rfl (hk.k rfl (hk.k rfl (hk.k rfl (hk.k rfl (hk.k rfl (hk.k rfl (hk.k rfl (hk.k rfl (hk.k rfl (hk.k rfl (hk.k rfl (hk.k rfl (hk.k rfl (hk.k rfl (hk.k rfl (hk.k rfl hk.nil))))))))))))))))))), hs, hL⟩
  ·
   rintro a w ⟨b1_8, a1_3, c1_3b, hk, hs, hL⟩
   refine d_1 4 287 rfl (by kernel_rfl) fun K hK => ?_
   have hs := hs.up1
   have hs := hs.rw0 (congrArg (fun q => row 3 1 (.slice a1_3 (thN S) c1_3b) (thN S) q) g2.xs_eq)
   have hs := hs.frz (r := lst 1 (.slice a1_3 (thN S) c1_3b) (thN S) (en ic (fun i => ((vI S i : Nat) : Int)) (thN S))) (row_lst (hs.mi 0 rfl)) (fun _ h => h.2)
   have hs := hs.up3
   refine q_call (caps := []) hk rfl rfl Tryz.func79 fo79 rfl rfl (zero_m s (thN S) c1_3b a1_3 (vI S) t evs _ _ hs hT (HasR.nth 0 rfl) g2.m0 (by omega) g2.v_le g2.v_ne (by omega)) ?_
   rintro _ w ⟨b1_4, r1_4b, rfl, ht1_4c, hs⟩
   rw [List.append_assoc] at ht1_4c
   have hT := ht1_4c
   refine ⟨_, rfl, fun a hk => ?_⟩
   have hL := okL.cons (hs.mi 4 rfl) (okL.cons (hs.mi 3 rfl) okL.nil)
   refine c_end (x_t (hK _ _ hL ?_))
   clear hK K
   refine d_w 5 319 hk hL rfl (fun w hL => w_mv rfl) fun a hk => ?_
   refine d_w 6 383 hk hL rfl (fun w hL => w_ext rfl rfl) fun a hk => ?_
   refine d_w 7 511 hk hL rfl (fun w hL => w_ext rfl rfl) fun a hk => ?_
   have hs := hs.up4
   have hs := hs.up4
   have hs := hs.up3
   have hs := hs.up3
   have hs := hs.up4
   have hL := okL.cons (hs.mi 4 rfl) (okL.cons (hs.mi 3 rfl) okL.nil)
   exact hJ511 _ _ ⟨_, _, _, _, _, hT, hk.k rfl (hk.k rfl (hk.k rfl (hk.k rfl (hk.k rfl (hk.k rfl (hk.k rfl (hk.k rfl (hk.k rfl (hk.k rfl (hk.k rfl (hk.k rfl (hk.k rfl (hk.k rfl (hk.k rfl (hk.k rfl (hk.k rfl (hk.k rfl (hk.k rfl (hk.k rfl (hk.k rfl (hk.k rfl (hk.k rfl (hk.k rfl hk.nil))))))))))))))))))))))), hs, hL⟩
 ·
  rintro a w ⟨b1_8, b1_4, a1_3, c1_3b, r1_4b, hT, hk, hs, hL⟩
  refine d_1 9 1023 rfl (by kernel_rfl) fun K hK => ?_
  refine q_sto (o := 0) (cs := [.slice (some ⟨b1_4, 0, none⟩) (thN S) (thN S)]) (vs' := [.slice (some ⟨b1_4, 0, none⟩) (thN S) (thN S)]) hk hs rfl rfl rfl ty51 rfl rfl rfl rfl rfl rfl fun w hs => ?_
  have hL := okL.cons (hs.mi 4 rfl) (okL.cons (hs.mi 3 rfl) okL.nil)
  refine c_end (x_t (hK _ _ hL ?_))
  clear hK K
  refine d_w 10 2047 hk hL rfl (fun w hL => w_as rfl) fun a hk => ?_
  refine d_end (by kernel_rfl) ?_
  refine (x_t ?_)
  refine wS (wS (wR ?_))
  refine q_v hk (w_mv rfl) fun a hk => ?_
  refine q_v hk (w_ne rfl rfl (decide_eq_false (by decide))) fun a hk => ?_
  refine c_end (x_t ?_)
  refine c_F hk rfl ?_
  refine (wpIn_skip (x_t ?_))
  refine wS (wR ?_)
  refine q_v hk (w_ld1 rfl ty60 (.blk (n := 1) (hs.mi 4 rfl) rfl)) fun a hk => ?_
  refine q_v hk (w_mv rfl) fun a hk => ?_
  refine q_v hk (w_mkf (frees := [.tmp 2, .tmp 6, .tmp 8]) rfl) fun a hk => ?_
  have hs := hs.up2
  have hs := hs.frz (r := lst 4 (.slice (some ⟨b1_4, 0, none⟩) (thN S) (thN S)) (thN S) (en vq (fun i => mq (zw (pt s (vI S)) (thN S) i)) (thN S))) (blk_lst (hs.mi 0 rfl) (en_len vq_len) (Nat.le_refl _)) (fun _ h => (Option.some.inj h.2).symm)
  have hs := hs.up3
  have hs := hs.frz (r := blk b1 [tval t] 60) (hs.okM _ (.head _)) (fun _ h => h)
  have hs := hs.up2
  have hs := hs.frz (r := blk b2 (fieldL s) 120) (hs.okM _ (.head _)) (fun _ h => h)
  have hs := hs.frz (r := blk b1_8 [.slice (some ⟨b1_4, 0, none⟩) (thN S) (thN S)] 51) (hs.okM _ (.head _)) (fun _ h => h)
  refine q_call (caps := []) hk rfl rfl Tryz.func81 fo81 rfl rfl (each_cm s (thN S) lc la S (82, [.pointer (some ⟨b1, 0, none⟩), .pointer (some ⟨b2, 0, none⟩), .pointer (some ⟨b1_8, 0, none⟩)]) (valZ s S (thN S)) (upE 0 ((thN S) : Int) coefE) (rall [blk b1 [tval t] 60, blk b2 (fieldL s) 120, blk b1_8 [.slice (some ⟨b1_4, 0, none⟩) (thN S) (thN S)] 51, lst 4 (.slice (some ⟨b1_4, 0, none⟩) (thN S) (thN S)) (thN S) (en vq (fun i => mq (zw (pt s (vI S)) (thN S) i)) (thN S))]) t (evs ++ (weightsE ((thN S) : Int) ++ upE 0 ((thN S) : Int) coefE)) _ _ hs (hS2.cons.cons.cons.cons.cons) g2 (by omega) hn9 (vals_f s S (thN S) (thN S) b1 b2 b1_8 (some ⟨b1_4, 0, none⟩) t (by omega)) (.rall fun q hq => by simp only [List.mem_cons, List.not_mem_nil, or_false] at hq; rcases hq with rfl | rfl | rfl | rfl <;> exact HasR.of (by simp)) (by have h2 := coef_len3 (m := (thN S)); omega) hT (by have h1 := weights_len (n := ((thN S) : Int)) (by omega); have h2 := coef_len3 (m := (thN S)); simp only [List.length_append]; omega)) ?_
  rintro _ w ⟨r3, a4, c5, rfl, hT, hs⟩
  refine ⟨_, rfl, fun a hk => ?_⟩
  refine q_v hk (w_ext rfl rfl) fun a hk => ?_
  refine q_v hk (w_ext rfl rfl) fun a hk => ?_
  refine q_v hk (w_as rfl) fun a hk => ?_
  refine q_v hk (w_as rfl) fun a hk => ?_
  refine c_end (x_t ?_)
  refine (wpIn_ret ?_)
  refine c_ret2 hk rfl rfl rfl ?_
  have hs := hs.toR (R' := R) (fun r hr => .of (by simp [hr]))
  exact ⟨_, _, _, rfl, by unfold valsE; rw [← List.append_assoc]; exact hT, hs⟩
end Go.Proofs.YtdnkkbmpefhbjaaGreatDoor
namespace Go.Proofs.YtdnkkbmpefhbjaaGreatDoor
set_option linter.all false
open Go Go.RowKit Alg
abbrev shareZ : Value := .agg #[.int .i64 0, .int .i64 0, .int .i64 0, .int .i64 0, .slice none 0 0]
theorem at_bad {F0 : Nat → Prop} {W : World} {M R : List Res} (m lc : Nat) (la : Option Addr) (S : Nat → Shr) (t : Option Nat) (ix : Int) (w0 : World) (hs : Sat F0 W M R w0) (hS : HasR (shareR la m lc S) R) (hG : HasR laidR R) (HO : ShOk S m) (hz : csErr S m ≠ 0) : Calls Tryz.prog 47 [tval t, .slice la m lc, .int .i64 ix].toArray w0 fun e w => e = .returned (.tuple #[shareZ, .int .i64 (csErr S m)]) ∧ Sat F0 W M R w := by
 refine c_enter (args := [tval t, .slice la m lc, .int .i64 ix]) Tryz.func47 rfl rfl rfl fun a hk => ?_
 refine wS (wR ?_)
 refine q_box (vs := [tval t]) hk hs rfl rfl rfl rfl fun b1 w a hk hs => ?_
 refine q_alc (vs := [.int .i64 0, .int .i64 0, .int .i64 0, .int .i64 0, .slice none 0 0]) hk hs zr53 rfl rfl rfl fun b2 w a hk hs => ?_
 refine q_v hk (w_as rfl) fun a hk => ?_
 refine c_end (x_t (wS (wR ?_)))
 refine q_v hk (w_mv rfl) fun a hk => ?_
 refine q_call (caps := []) hk rfl rfl Tryz.func78 fo78 rfl rfl (used_bad m lc la S _ hs (hS) (hG) HO hz) ?_
 rintro _ w ⟨rfl, hs⟩
 refine ⟨_, rfl, fun a hk => ?_⟩
 refine q_v hk (w_mv rfl) fun a hk => ?_
 refine q_v hk (w_ext rfl rfl) fun a hk => ?_
 refine q_v hk (w_ext rfl rfl) fun a hk => ?_
 refine q_v hk (w_ext rfl rfl) fun a hk => ?_
 refine q_alc (vs := [.int .i64 0, .int .u64 0, .int .u64 0, .int .u64 0, .int .u64 0, .int .u64 0, .int .u64 0, .int .u64 0, .int .u64 0, .int .u64 0, .int .u64 0, .int .u64 0, .int .u64 0, .int .u64 0]) hk hs zr120 rfl rfl rfl fun b3 w a hk hs => ?_
 refine q_sto (o := 0) (cs := [.int .i64 0, .int .u64 0, .int .u64 0, .int .u64 0, .int .u64 0, .int .u64 0, .int .u64 0, .int .u64 0, .int .u64 0, .int .u64 0, .int .u64 0, .int .u64 0, .int .u64 0, .int .u64 0]) (vs' := [.int .i64 0, .int .u64 0, .int .u64 0, .int .u64 0, .int .u64 0, .int .u64 0, .int .u64 0, .int .u64 0, .int .u64 0, .int .u64 0, .int .u64 0, .int .u64 0, .int .u64 0, .int .u64 0]) hk hs rfl rfl rfl ty120 rfl rfl rfl rfl rfl rfl fun w hs => ?_
 refine q_v hk (w_as rfl) fun a hk => ?_
 refine q_v hk (w_as rfl) fun a hk => ?_
 refine c_end (x_t (wS ?_))
 refine wpIn_block ?_
 refine wS (wR ?_)
 refine q_v hk (w_mv rfl) fun a hk => ?_
 refine q_v hk (w_ne rfl rfl (decide_eq_true (by omega))) fun a hk => ?_
 refine q_v hk (w_as rfl) fun a hk => ?_
 refine c_end (x_t ?_)
 refine c_T hk rfl ?_
 refine wS (wR ?_)
 refine q_v hk (w_bld rfl fl53 zr53 rfl rfl) fun a hk => ?_
 refine q_v hk (w_mv rfl) fun a hk => ?_
 have hs := hs.up1
 refine q_sto (o := 0) (cs := [.int .i64 0, .int .i64 0, .int .i64 0, .int .i64 0, .slice none 0 0]) (vs' := [.int .i64 0, .int .i64 0, .int .i64 0, .int .i64 0, .slice none 0 0]) hk hs rfl rfl rfl ty53 rfl rfl rfl rfl rfl rfl fun w hs => ?_
 refine q_v hk (w_as rfl) fun a hk => ?_
 refine c_end (x_t ?_)
 refine (wpIn_ret (x_br (x_tr ?_)))
 refine c_retG (vs := [.agg #[.int .i64 0, .int .i64 0, .int .i64 0, .int .i64 0, .slice none 0 0], .int .i64 (csErr S m)]) hk rfl ⟨⟨_, rfl, lv_A ty53 (.blk (n := 5) (hs.mi 0 rfl) rfl) rfl⟩, rfl, trivial⟩ rfl ?_
 have hs := hs.drop
 have hs := hs.drop
 have hs := hs.drop
 exact ⟨rfl, hs⟩
theorem at_ix {F0 : Nat → Prop} {W : World} {M R : List Res} (s : Bool) (m lc : Nat) (la : Option Addr) (S : Nat → Shr) (t : Option Nat) (ix : Int) (w0 : World) (hs : Sat F0 W M R w0) (hS : HasR (shareR la m lc S) R) (hG : HasR laidR R) (HO : ShOk S m) (g : Good s S m) (hz : csErr S m = 0) (hm : m ≤ 255) (hix : ¬ (1 ≤ ix ∧ ix ≤ 255)) : Calls Tryz.prog 47 [tval t, .slice la m lc, .int .i64 ix].toArray w0 fun e w => e = .returned (.tuple #[shareZ, .int .i64 12]) ∧ Sat F0 W M R w := by
 have hth := g.th_le
 have hS2 := share_take hS hth.2
 refine c_enter (args := [tval t, .slice la m lc, .int .i64 ix]) Tryz.func47 rfl rfl rfl fun a hk => ?_
 refine wS (wR ?_)
 refine q_box (vs := [tval t]) hk hs rfl rfl rfl rfl fun b1 w a hk hs => ?_
 refine q_alc (vs := [.int .i64 0, .int .i64 0, .int .i64 0, .int .i64 0, .slice none 0 0]) hk hs zr53 rfl rfl rfl fun b2 w a hk hs => ?_
 refine q_v hk (w_as rfl) fun a hk => ?_
 refine c_end (x_t (wS (wR ?_)))
 refine q_v hk (w_mv rfl) fun a hk => ?_
 refine q_call (caps := []) hk rfl rfl Tryz.func78 fo78 rfl rfl (used_m s m lc la S _ hs (hS) (hG) HO g hz hm) ?_
 rintro _ w ⟨rfl, hs⟩
 refine ⟨_, rfl, fun a hk => ?_⟩
 refine q_v hk (w_mv rfl) fun a hk => ?_
 refine q_v hk (w_ext rfl rfl) fun a hk => ?_
 refine q_v hk (w_ext rfl rfl) fun a hk => ?_
 refine q_v hk (w_ext rfl rfl) fun a hk => ?_
 refine q_alc (vs := [.int .i64 0, .int .u64 0, .int .u64 0, .int .u64 0, .int .u64 0, .int .u64 0, .int .u64 0, .int .u64 0, .int .u64 0, .int .u64 0, .int .u64 0, .int .u64 0, .int .u64 0, .int .u64 0]) hk hs zr120 rfl rfl rfl fun b3 w a hk hs => ?_
 refine q_sto (o := 0) (cs := fieldL s) (vs' := fieldL s) hk hs rfl rfl rfl ty120 rfl rfl rfl rfl rfl rfl fun w hs => ?_
 refine q_v hk (w_as rfl) fun a hk => ?_
 refine q_v hk (w_as rfl) fun a hk => ?_
 refine c_end (x_t (wS ?_))
 refine wpIn_block ?_
 refine wS (wR ?_)
 refine q_v hk (w_mv rfl) fun a hk => ?_
 refine q_v hk (w_ne rfl rfl (decide_eq_false (by decide))) fun a hk => ?_
 refine q_v hk (w_as rfl) fun a hk => ?_
 refine c_end (x_t ?_)
 refine c_F hk rfl ?_
 refine wS ?_
 rcases Classical.em (ix < 1) with hc4 | hc4
 ·
  refine wR ?_
  refine q_v hk (w_mv rfl) fun a hk => ?_
  refine q_v hk (w_lt rfl rfl (decide_eq_true hc4)) fun a hk => ?_
  refine q_v hk (w_mv rfl) fun a hk => ?_
  refine q_skip hk rfl rfl fun a hk => ?_
  refine q_skip hk rfl rfl fun a hk => ?_
  refine q_v hk (w_pickT rfl rfl) fun a hk => ?_
  refine q_v hk (w_as rfl) fun a hk => ?_
  refine c_end (x_t ?_)
  refine c_T hk rfl ?_
  refine wS (wR ?_)
  refine q_v hk (w_bld rfl fl53 zr53 rfl rfl) fun a hk => ?_
  have hs := hs.up1
  refine q_sto (o := 0) (cs := [.int .i64 0, .int .i64 0, .int .i64 0, .int .i64 0, .slice none 0 0]) (vs' := [.int .i64 0, .int .i64 0, .int .i64 0, .int .i64 0, .slice none 0 0]) hk hs rfl rfl rfl ty53 rfl rfl rfl rfl rfl rfl fun w hs => ?_
  refine q_v hk (w_as rfl) fun a hk => ?_
  refine c_end (x_t ?_)
  refine (wpIn_ret (x_br (x_tr ?_)))
  refine c_retG (vs := [.agg #[.int .i64 0, .int .i64 0, .int .i64 0, .int .i64 0, .slice none 0 0], .int .i64 12]) hk rfl ⟨⟨_, rfl, lv_A ty53 (.blk (n := 5) (hs.mi 0 rfl) rfl) rfl⟩, rfl, trivial⟩ rfl ?_
  have hs := hs.drop
  have hs := hs.drop
  have hs := hs.drop
  exact ⟨rfl, hs⟩
 ·
  refine wR ?_
  refine q_v hk (w_mv rfl) fun a hk => ?_
  refine q_v hk (w_lt rfl rfl (decide_eq_false hc4)) fun a hk => ?_
  refine q_v hk (w_mv rfl) fun a hk => ?_
  refine q_v hk (w_mv rfl) fun a hk => ?_
  refine q_v hk (w_gt rfl rfl (decide_eq_true (by omega))) fun a hk => ?_
  refine q_v hk (w_pickF rfl rfl) fun a hk => ?_
  refine q_v hk (w_as rfl) fun a hk => ?_
  refine c_end (x_t ?_)
  refine c_T hk rfl ?_
  refine wS (wR ?_)
  refine q_v hk (w_bld rfl fl53 zr53 rfl rfl) fun a hk => ?_
  have hs := hs.up1
  refine q_sto (o := 0) (cs := [.int .i64 0, .int .i64 0, .int .i64 0, .int .i64 0, .slice none 0 0]) (vs' := [.int .i64 0, .int .i64 0, .int .i64 0, .int .i64 0, .slice none 0 0]) hk hs rfl rfl rfl ty53 rfl rfl rfl rfl rfl rfl fun w hs => ?_
  refine q_v hk (w_as rfl) fun a hk => ?_
  refine c_end (x_t ?_)
  refine (wpIn_ret (x_br (x_tr ?_)))
  refine c_retG (vs := [.agg #[.int .i64 0, .int .i64 0, .int .i64 0, .int .i64 0, .slice none 0 0], .int .i64 12]) hk rfl ⟨⟨_, rfl, lv_A ty53 (.blk (n := 5) (hs.mi 0 rfl) rfl) rfl⟩, rfl, trivial⟩ rfl ?_
  have hs := hs.drop
  have hs := hs.drop
  have hs := hs.drop
  exact ⟨rfl, hs⟩
theorem at_m {F0 : Nat → Prop} {W : World} {M R : List Res} (s : Bool) (m lc : Nat) (la : Option Addr) (S : Nat → Shr) (t : Option Nat) (evs : List Ev) (r : Res) (ix : Nat) (w0 : World) (hs : Sat F0 W (r :: M) R w0) (hS : HasR (shareR la m lc S) R) (hG : HasR laidR R) (HO : ShOk S m) (g : Good s S m) (hz : csErr S m = 0) (hm : m ≤ 255) (hn9 : (S 0).n ≤ 4) (hT : TapeIs t evs r) (he : evs.length ≤ 10000) (hi1 : 1 ≤ ix) (hi2 : ix ≤ 255) : Calls Tryz.prog 47 [tval t, .slice la m lc, .int .i64 ((ix : Nat) : Int)].toArray w0 fun e w => ∃ r a c, e = .returned (.tuple #[.agg #[.int .i64 (S 0).F, .int .i64 (S 0).T, .int .i64 ((ix : Nat) : Int), .int .i64 (S 0).L, .slice a (S 0).n c], .int .i64 0]) ∧ TapeIs t (evs ++ atE (thN S) (S 0).n) r ∧ Sat F0 W (r :: row 56 4 (.slice a (S 0).n c) (S 0).n (en vq (fun i => mq ((atZ s S (thN S) (zn s ix)) i)) (S 0).n) :: M) R w := by
 have hm0 := g.m0
 have hth := g.th_le
 have hS2 := share_take hS hth.2
 have g2 := g.take
 refine c_enter (args := [tval t, .slice la m lc, .int .i64 ((ix : Nat) : Int)]) Tryz.func47 rfl rfl rfl fun a hk => ?_
 refine wS (wR ?_)
 refine q_box (vs := [tval t]) hk hs rfl rfl rfl rfl fun b1 w a hk hs => ?_
 refine q_alc (vs := [.int .i64 0, .int .i64 0, .int .i64 0, .int .i64 0, .slice none 0 0]) hk hs zr53 rfl rfl rfl fun b2 w a hk hs => ?_
 refine q_v hk (w_as rfl) fun a hk => ?_
 refine c_end (x_t (wS (wR ?_)))
 refine q_v hk (w_mv rfl) fun a hk => ?_
 refine q_call (caps := []) hk rfl rfl Tryz.func78 fo78 rfl rfl (used_m s m lc la S _ hs (hS) (hG) HO g hz hm) ?_
 rintro _ w ⟨rfl, hs⟩
 refine ⟨_, rfl, fun a hk => ?_⟩
 refine q_v hk (w_mv rfl) fun a hk => ?_
 refine q_v hk (w_ext rfl rfl) fun a hk => ?_
 refine q_v hk (w_ext rfl rfl) fun a hk => ?_
 refine q_v hk (w_ext rfl rfl) fun a hk => ?_
 refine q_alc (vs := [.int .i64 0, .int .u64 0, .int .u64 0, .int .u64 0, .int .u64 0, .int .u64 0, .int .u64 0, .int .u64 0, .int .u64 0, .int .u64 0, .int .u64 0, .int .u64 0, .int .u64 0, .int .u64 0]) hk hs zr120 rfl rfl rfl fun b3 w a hk hs => ?_
 refine q_sto (o := 0) (cs := fieldL s) (vs' := fieldL s) hk hs rfl rfl rfl ty120 rfl rfl rfl rfl rfl rfl fun w hs => ?_
 refine q_v hk (w_as rfl) fun a hk => ?_
 refine q_v hk (w_as rfl) fun a hk => ?_
 refine c_end (x_t (wS ?_))
 refine wpIn_block ?_
 refine wS (wR ?_)
 refine q_v hk (w_mv rfl) fun a hk => ?_
 refine q_v hk (w_ne rfl rfl (decide_eq_false (by decide))) fun a hk => ?_
 refine q_v hk (w_as rfl) fun a hk => ?_
 refine c_end (x_t ?_)
 refine c_F hk rfl ?_
 refine wS (wR ?_)
 refine q_v hk (w_mv rfl) fun a hk => ?_
 refine q_v hk (w_lt rfl rfl (decide_eq_false (by omega))) fun a hk => ?_
 refine q_v hk (w_mv rfl) fun a hk => ?_
 refine q_v hk (w_mv rfl) fun a hk => ?_
 refine q_v hk (w_gt rfl rfl (decide_eq_false (by omega))) fun a hk => ?_
 refine q_v hk (w_pickF rfl rfl) fun a hk => ?_
 refine q_v hk (w_as rfl) fun a hk => ?_
 refine c_end (x_t ?_)
 refine c_F hk rfl ?_
 refine (wpIn_skip (x_b (x_t ?_)))
 refine wS (wR ?_)
 refine q_v hk (w_mv rfl) fun a hk => ?_
 refine q_call (caps := []) hk rfl rfl Tryz.func80 fo80 rfl rfl (indices_c (thN S) lc la S _ ((hS2).at_ hs) (by omega)) ?_
 rintro _ w ⟨a4, c5, rfl, hS⟩
 have hs := hs.call1 hS
 clear hS
 refine ⟨_, rfl, fun a hk => ?_⟩
 refine q_alc (vs := [.slice none 0 0]) hk hs zr34 rfl rfl rfl fun b6 w a hk hs => ?_
 refine q_sto (o := 0) (cs := [.slice a4 (thN S) c5]) (vs' := [.slice a4 (thN S) c5]) hk hs rfl rfl rfl ty34 rfl rfl rfl rfl rfl rfl fun w hs => ?_
 refine c_end (x_t (wS (wR ?_)))
 refine q_v hk (w_ldA rfl ty120 (.blk (n := 14) (hs.mi 2 rfl) rfl) rfl) fun a hk => ?_
 refine q_v hk (w_mv rfl) fun a hk => ?_
 refine q_v hk (w_conv rfl Tryz.underlying3 Tryz.underlying46 (wru64 (by omega) (by omega))) fun a hk => ?_
 refine q_v hk (w_bldv1 (k := ix) rfl (by omega) (by unfold Go.Proofs.YtdnkkbmpefhbjaaGreatDoor.W; omega) Tryz.underlying47 ty46 zr47) fun a hk => ?_
 refine q_call (caps := []) hk rfl rfl Tryz.func88 fo88 rfl rfl (zto_c (s := s) _ ix (lt255 hi2)) ?_
 rintro _ w ⟨rfl, hb⟩
 have hs := hs.below hb
 refine ⟨_, rfl, fun a hk => ?_⟩
 refine q_alc (vs := [.int .u64 0, .int .u64 0, .int .u64 0, .int .u64 0]) hk hs zr56 rfl rfl rfl fun b7 w a hk hs => ?_
 refine q_sto (o := 0) (cs := [.int .u64 ((dg 0 (mq (zn s ix)) : Nat) : Int), .int .u64 ((dg 1 (mq (zn s ix)) : Nat) : Int), .int .u64 ((dg 2 (mq (zn s ix)) : Nat) : Int), .int .u64 ((dg 3 (mq (zn s ix)) : Nat) : Int)]) (vs' := [.int .u64 ((dg 0 (mq (zn s ix)) : Nat) : Int), .int .u64 ((dg 1 (mq (zn s ix)) : Nat) : Int), .int .u64 ((dg 2 (mq (zn s ix)) : Nat) : Int), .int .u64 ((dg 3 (mq (zn s ix)) : Nat) : Int)]) hk hs rfl rfl rfl ty56 rfl rfl rfl rfl rfl rfl fun w hs => ?_
 refine c_end (x_t (wS (wR ?_)))
 refine q_v hk (w_ld1 rfl ty60 (.blk (n := 1) (hs.mi 5 rfl) rfl)) fun a hk => ?_
 refine q_v hk (w_mv rfl) fun a hk => ?_
 refine q_v hk (w_mkf (frees := [.tmp 3, .tmp 8, .tmp 10, .tmp 11]) rfl) fun a hk => ?_
 have hs := hs.up2
 have hs := hs.rw0 (congrArg (fun q => row 3 1 (.slice a4 (thN S) c5) (thN S) q) g2.xs_eq)
 have hs := hs.frz (r := lst 1 (.slice a4 (thN S) c5) (thN S) (en ic (fun i => ((vI S i : Nat) : Int)) (thN S))) (row_lst (hs.mi 0 rfl)) (fun _ h => h.2)
 have hs := hs.up4
 have hs := hs.frz (r := blk b1 [tval t] 60) (hs.okM _ (.head _)) (fun _ h => h)
 have hs := hs.up2
 have hs := hs.frz (r := blk b3 (fieldL s) 120) (hs.okM _ (.head _)) (fun _ h => h)
 have hs := hs.up1
 have hs := hs.frz (r := blk b6 [.slice a4 (thN S) c5] 34) (hs.okM _ (.head _)) (fun _ h => h)
 have hs := hs.frz (r := blk b7 [.int .u64 ((dg 0 (mq (zn s ix)) : Nat) : Int), .int .u64 ((dg 1 (mq (zn s ix)) : Nat) : Int), .int .u64 ((dg 2 (mq (zn s ix)) : Nat) : Int), .int .u64 ((dg 3 (mq (zn s ix)) : Nat) : Int)] 56) (hs.okM _ (.head _)) (fun _ h => h)
 have hs := hs.up1
 refine q_call (caps := []) hk rfl rfl Tryz.func81 fo81 rfl rfl (each_cm s (thN S) lc la S (89, [.pointer (some ⟨b1, 0, none⟩), .pointer (some ⟨b3, 0, none⟩), .pointer (some ⟨b6, 0, none⟩), .pointer (some ⟨b7, 0, none⟩)]) (atZ s S (thN S) (zn s ix)) (interpE ((thN S) : Int) ++ downE ((thN S) : Int) coefE) (rall [blk b1 [tval t] 60, blk b3 (fieldL s) 120, blk b6 [.slice a4 (thN S) c5] 34, lst 1 (.slice a4 (thN S) c5) (thN S) (en ic (fun i => ((vI S i : Nat) : Int)) (thN S)), blk b7 (vq (mq (zn s ix))) 56]) t evs _ _ hs (hS2.cons.cons.cons.cons.cons) g2 (by omega) hn9 (at_f s S (thN S) c5 b1 b3 b6 b7 a4 (zn s ix) t (by omega) g2) (.rall fun q hq => by simp only [List.mem_cons, List.not_mem_nil, or_false] at hq; rcases hq with rfl | rfl | rfl | rfl | rfl; exact HasR.nth 3 rfl; exact HasR.nth 2 rfl; exact HasR.nth 1 rfl; exact HasR.nth 4 rfl; exact HasR.nth 0 rfl) (by have h1 := interp_len2 (n := (thN S)) (by omega); have h2 := coefD_len (thN S); simp only [List.length_append]; omega) hT (by omega)) ?_
 rintro _ w ⟨r8, a9, c10, rfl, hT, hs⟩
 refine ⟨_, rfl, fun a hk => ?_⟩
 refine q_v hk (w_mv rfl) fun a hk => ?_
 refine q_v hk (w_ext rfl rfl) fun a hk => ?_
 refine q_v hk (w_ext rfl rfl) fun a hk => ?_
 refine q_v hk (w_as rfl) fun a hk => ?_
 refine q_v hk (w_as rfl) fun a hk => ?_
 refine c_end (x_t (wS (wS (wR ?_))))
 refine q_v hk (w_mv rfl) fun a hk => ?_
 refine q_v hk (w_ne rfl rfl (decide_eq_false (by decide))) fun a hk => ?_
 refine c_end (x_t ?_)
 refine c_F hk rfl ?_
 refine (wpIn_skip (x_t ?_))
 refine wS (wR ?_)
 refine q_v hk (w_mv rfl) fun a hk => ?_
 refine q_v hk (w_iaL (k := 0) rfl rfl Tryz.underlying22 ty53 ((share_lst hS2.cons.cons.cons.cons.cons).at_ hs) (by omega) (by omega)) fun a hk => ?_
 refine q_v hk (w_ldA rfl ty53 (lstq (k := 0) ((share_lst hS2.cons.cons.cons.cons.cons).at_ hs) (by omega) (en_chunk shc_len (by omega))) rfl) fun a hk => ?_
 refine q_alc (vs := [.int .i64 0, .int .i64 0, .int .i64 0, .int .i64 0, .slice none 0 0]) hk hs zr53 rfl rfl rfl fun b11 w a hk hs => ?_
 refine q_sto (o := 0) (cs := [.int .i64 ((S 0).F), .int .i64 ((S 0).T), .int .i64 ((S 0).I), .int .i64 ((S 0).L), .slice ((S 0).a) ((S 0).n) ((S 0).c)]) (vs' := [.int .i64 ((S 0).F), .int .i64 ((S 0).T), .int .i64 ((S 0).I), .int .i64 ((S 0).L), .slice ((S 0).a) ((S 0).n) ((S 0).c)]) hk hs rfl rfl rfl ty53 rfl rfl rfl rfl rfl rfl fun w hs => ?_
 refine c_end (x_t (wS (wR ?_)))
 refine q_v hk (w_mv rfl) fun a hk => ?_
 refine q_v hk (w_mv rfl) fun a hk => ?_
 refine q_v hk (w_fa rfl fq53_2 ty3) fun a hk => ?_
 refine q_sto (o := 2) (cs := [.int .i64 ((ix : Nat) : Int)]) (vs' := [.int .i64 ((S 0).F), .int .i64 ((S 0).T), .int .i64 ((ix : Nat) : Int), .int .i64 ((S 0).L), .slice ((S 0).a) ((S 0).n) ((S 0).c)]) hk hs rfl rfl rfl ty3 rfl rfl rfl rfl rfl rfl fun w hs => ?_
 refine q_v hk (w_fa rfl fq53_4 ty51) fun a hk => ?_
 refine q_sto (o := 4) (cs := [.slice a9 ((S 0).n) c10]) (vs' := [.int .i64 ((S 0).F), .int .i64 ((S 0).T), .int .i64 ((ix : Nat) : Int), .int .i64 ((S 0).L), .slice a9 ((S 0).n) c10]) hk hs rfl rfl rfl ty51 rfl rfl rfl rfl rfl rfl fun w hs => ?_
 refine c_end (x_t (wS (wR ?_)))
 refine q_v hk (w_ldA rfl ty53 (.blk (n := 5) (hs.mi 0 rfl) rfl) rfl) fun a hk => ?_
 have hs := hs.up3
 refine q_sto (o := 0) (cs := [.int .i64 ((S 0).F), .int .i64 ((S 0).T), .int .i64 ((ix : Nat) : Int), .int .i64 ((S 0).L), .slice a9 ((S 0).n) c10]) (vs' := [.int .i64 ((S 0).F), .int .i64 ((S 0).T), .int .i64 ((ix : Nat) : Int), .int .i64 ((S 0).L), .slice a9 ((S 0).n) c10]) hk hs rfl rfl rfl ty53 rfl rfl rfl rfl rfl rfl fun w hs => ?_
 refine q_v hk (w_as rfl) fun a hk => ?_
 refine c_end (x_t ?_)
 refine (wpIn_ret ?_)
 refine c_retG (vs := [.agg #[.int .i64 ((S 0).F), .int .i64 ((S 0).T), .int .i64 ((ix : Nat) : Int), .int .i64 ((S 0).L), .slice a9 ((S 0).n) c10], .int .i64 0]) hk rfl ⟨⟨_, rfl, lv_A ty53 (.blk (n := 5) (hs.mi 0 rfl) rfl) rfl⟩, rfl, trivial⟩ rfl ?_
 have hs := hs.drop
 have hs := hs.drop
 have hs := hs.toR (R' := R) (fun r hr => .of (by simp [hr]))
 exact ⟨_, _, _, rfl, hT, hs⟩
end Go.Proofs.YtdnkkbmpefhbjaaGreatDoor
namespace Go.Proofs.YtdnkkbmpefhbjaaGreatDoor
set_option linter.all false
open Go Go.RowKit Go.Shelf
attribute [local go_sem] Oper.semAt_some
/-- A slice of n vectors. -/
structure VecsAt (w : World) (a : Option Addr) (n : Nat) (X : Nat → Nat) : Prop where
  at_ : n = 0 ∨ ∃ b off, a = some ⟨b, off, none⟩ ∧ b < w.heap.size ∧ ∀ i, i < n → ∀ j, j < 4 → w.cell? ⟨b, off + i * 4 + j, none⟩ = some (.int .u64 ((dg j (X i) : Nat) : Int))
theorem VecsAt.below {w w' : World} {a : Option Addr} {n : Nat} {X : Nat → Nat} (h : VecsAt w a n X) (hb : Below w.heap.size w w') : VecsAt w' a n X :=
  ⟨h.at_.imp id fun ⟨b, off, e, hl, hc⟩ => ⟨b, off, e, Nat.lt_of_lt_of_le hl hb.size, fun i hi j hj => (hb.cell (p := ⟨b, off + i * 4 + j, none⟩) hl).trans (hc i hi j hj)⟩⟩
theorem load_elem {W : World} {b p x : Nat} (h : ∀ j, j < 4 → W.cell? ⟨b, p + j, none⟩ = some (.int .u64 ((dg j x : Nat) : Int))) : (Instr.loadAt 56 (.pointer (some ⟨b, p, none⟩))).run Tryz.prog W = .ok (vec x) W := by
  have := run_loadVar_at (P := Tryz.prog) W ⟨b, p, none⟩ 56 (vc x) _ (fun j v hj => by
    have e : (⟨b, p, none⟩ : Addr).add j = ⟨b, p + j, none⟩ := by unfold Addr.add; split <;> simp_all
    rw [e]
    have hj4 : j < 4 := (List.getElem?_eq_some_iff.1 hj).1
    rw [h j hj4, ← hj]
    have h4 : j = 0 ∨ j = 1 ∨ j = 2 ∨ j = 3 := by omega
    rcases h4 with rfl | rfl | rfl | rfl <;> rfl) Tryz.underlying56 rfl (by kernel_rfl)
  simp only [Instr.loadAt, Instr.sureAddr, Sem.run_bind, Sem.run_pure, Result.andThen_ok, this]
  rfl
theorem unpack_ok (s : Bool) (v m : Nat) (hm : m ≤ 31) (hv : v < pr s) (hz : Zf v m) (w : World) :
    Calls Tryz.prog 125 #[fieldV s, vec (RR s v), .int .i64 (m : Int)] w fun e w' => (∃ r, e = .returned r ∧ ∃ g, r = .tuple #[.slice (some ⟨g, 0, none⟩) m m, .int .i64 0] ∧ w.heap.size ≤ g ∧ BytesAt w' g 0 m (byt v)) ∧ Below w.heap.size w w' := by
  refine (unpack_walk s (RR s v) v m hm w (Lib.hid (encode_c s v hv))).mono ?_
  rintro e w' ⟨⟨_, g, rfl, hg, hB⟩ | ⟨hn, _⟩, hb⟩
  · exact ⟨⟨_, rfl, g, rfl, hg, hB⟩, hb⟩
  · exact absurd hz hn
theorem unpack_bad (s : Bool) (v m : Nat) (hm : m ≤ 31) (hv : v < pr s) (hz : ¬ Zf v m) (w : World) :
    Calls Tryz.prog 125 #[fieldV s, vec (RR s v), .int .i64 (m : Int)] w fun e w' => e = .returned (.tuple #[.slice none 0 0, .int .i64 10]) ∧ Below w.heap.size w w' := by
  refine (unpack_walk s (RR s v) v m hm w (Lib.hid (encode_c s v hv))).mono ?_
  rintro e w' ⟨⟨h, _⟩ | ⟨_, rfl⟩, hb⟩
  · exact absurd h hz
  · exact ⟨rfl, hb⟩
/-- The chunks of pre are all well padded; their bytes. -/
def okC (N : Nat) (v : Nat → Nat) (l : List Nat) : Prop := ∀ i ∈ l, Zf (v i) (cz N i)
def byC (N : Nat) (v : Nat → Nat) (l : List Nat) : List Value := l.flatMap fun i => fl (byt (v i)) (cz N i)
theorem byC_snoc (N : Nat) (v : Nat → Nat) (l : List Nat) (i : Nat) : byC N v (l ++ [i]) = byC N v l ++ fl (byt (v i)) (cz N i) := by simp [byC]
theorem okC_snoc {N : Nat} {v : Nat → Nat} {l : List Nat} {i : Nat} : okC N v (l ++ [i]) ↔ okC N v l ∧ Zf (v i) (cz N i) := by
  unfold okC
  constructor
  · exact fun h => ⟨fun j hj => h j (List.mem_append_left _ hj), h i (by simp)⟩
  · rintro ⟨h1, h2⟩ j hj
    rw [List.mem_append, List.mem_singleton] at hj
    rcases hj with hj | rfl
    · exact h1 j hj
    · exact h2
/-- What holds between two rounds: all is well so far and the bytes have come, or something is wrong. -/
def JI (N : Nat) (v : Nat → Nat) (l : List Nat) (xs : List Value) (q : Int) : Prop := (okC N v l ∧ xs = byC N v l ∧ q = 0) ∨ (¬ okC N v l ∧ q = 10)
/-- What Join hands back. -/
def JO (base N : Nat) (v : Nat → Nat) (r : Value) (w : World) : Prop :=
  (okC N v (List.range (cn N)) ∧ ∃ out k, r = .tuple #[out, .int .i64 0] ∧ w.ownsRow base 5 1 out k (byC N v (List.range (cn N)))) ∨ (¬ okC N v (List.range (cn N)) ∧ r = .tuple #[.slice none 0 0, .int .i64 10])
set_option maxRecDepth 100000 in
set_option maxHeartbeats 4000000 in
theorem join_walk (s : Bool) (a : Option Addr) (N c : Nat) (v : Nat → Nat) (hN : N ≤ 65535) (w : World) (HX : Hid (VecsAt w a (cn N) (fun i => RR s (v i)))) (Hv : Hid (∀ i, i < cn N → v i < pr s)) :
    Calls Tryz.prog 86 #[fieldV s, .slice a (cn N) c, .int .i64 (N : Int)] w fun e w' => (∃ r, e = .returned r ∧ JO w.heap.size N v r w') ∧ Below w.heap.size w w' := by
  have hd : decide (0 ≤ (N : Int) ∧ (N : Int) ≤ 65535) = true := by simp; omega
  have Hd := Lib.hid hd
  clear hd
  have hcn : cn (N : Int) ≤ 2115 := by unfold cn; split <;> omega
  obtain ⟨i0, hi, hz0, hz1, hz2⟩ := info_parts infoByte
  have Hi := Lib.hid hi
  have Hz0 := Lib.hid hz0
  have Hz1 := Lib.hid hz1
  have Hz2 := Lib.hid hz2
  clear hi hz0 hz1 hz2
  refine (callsIn_wide (n := 6)).1 ?_
  refine callsIn_of_wp_marks Tryz.func86 rfl trivial ?_ rfl
  simp only [Tryz.ntmps86, List.size_toArray, List.length_cons, List.length_nil, Nat.reduceAdd, Nat.reduceSub, Array.replicate_succ, Array.replicate_zero, List.push_toArray, List.append_toArray, List.nil_append, List.cons_append]
  gi_wp2
  refine ⟨trivial, ?_⟩
  try (refine ⟨(fun h => by cases h), ?_⟩)
  refine CallsIn.mono (callsIn_wide.2 (valid_c _ _)) ?_
  rintro _ _ ⟨rfl, rfl⟩
  rw [Hd.out]
  gi_wp2
  refine wpIn_wide.2 (wp_np ?_)
  refine region_mix 5 [false, false, false, false, false] (fun w' => w' = World.drew _) (by kernel_rfl) (by kernel_rfl) (by intro _ _ d _ _ h; cases d <;> exact h) rfl ?_
  simp only [List.take_succ_cons, List.take_zero, List.drop_succ_cons, List.drop_zero]
  with_reducible refine mix_v ?_ ?_ ?_
  · rfl
  · rfl
  apply Exists.intro
  refine ⟨fun w' hC => ?_, ?_⟩
  · subst hC
    go_simp
    rfl
  try simp only [Act.put, sA, sB, sC, sD]
  with_reducible refine mix_v ?_ ?_ ?_
  · rfl
  · rfl
  apply Exists.intro
  refine ⟨fun w' hC => ?_, ?_⟩
  · subst hC
    go_simp
    rfl
  try simp only [Act.put, sA, sB, sC, sD]
  with_reducible refine mix_v ?_ ?_ ?_
  · rfl
  · rfl
  apply Exists.intro
  refine ⟨fun w' hC => ?_, ?_⟩
  · subst hC
    go_simp
    rfl
  try simp only [Act.put, sA, sB, sC, sD]
  with_reducible refine mix_c ?_ ?_ ?_
  · rfl
  · rfl
  apply Exists.intro
  apply Exists.intro
  apply Exists.intro
  refine ⟨fun w' hC => ?_, fun w' hC => ?_, ?_⟩
  · subst hC
    go_simp
    exact ⟨rfl, rfl⟩
  · subst hC
    exact same_of (count_c _ _)
  try simp only [Act.put, sA, sB, sC, sD]
  with_reducible refine mix_v ?_ ?_ ?_
  · rfl
  · rfl
  apply Exists.intro
  refine ⟨fun w' hC => ?_, ?_⟩
  · subst hC
    go_simp
    rfl
  try simp only [Act.put, sA, sB, sC, sD]
  refine mix_nil ?_
  rintro _ rfl
  go_wp2_with fail
  refine np_normal ?_
  gi_wp2
  refine ⟨trivial, ?_⟩
  try (refine ⟨(fun h => by cases h), ?_⟩)
  refine CallsIn.mono (callsIn_wide.2 (bounds_c _ _)) ?_
  rintro _ _ ⟨rfl, rfl⟩
  gi_wp2
  obtain ⟨b0, e0⟩ : ∃ b, b = w.heap.size := ⟨_, rfl⟩
  obtain ⟨b1, e1⟩ : ∃ b, b = b0 + 1 := ⟨_, rfl⟩
  obtain ⟨b2, e2⟩ : ∃ b, b = b1 + 1 := ⟨_, rfl⟩
  obtain ⟨b3, e3⟩ : ∃ b, b = b2 + 1 := ⟨_, rfl⟩
  obtain ⟨b4, e4⟩ : ∃ b, b = b3 + 1 := ⟨_, rfl⟩
  rw [← e0, ← e1, ← e2, ← e3, ← e4]
  refine wpi_name ?_
  intro W0 hW
  have hk0 : Blk W0 b0 (fieldA s) 120 ∧ Blk W0 b1 #[.slice a (cn (N : Int)) c] 51 ∧ Blk W0 b2 #[.slice none 0 0] 42 ∧ Blk W0 b3 #[.int .i64 0] 25 ∧ Blk W0 b4 #[.int .i64 (N : Int)] 3 ∧ W0.heap.size = b4 + 1 ∧ Below w.heap.size w W0 := by
    rw [hW]
    refine ⟨(((((Blk.new (by first | exact e0 | (simp only [World.size_alloc]; omega))).alloc _).alloc _).alloc _).alloc _), ((((Blk.new (by first | exact e0 | (simp only [World.size_alloc]; omega))).alloc _).alloc _).alloc _), (((Blk.new (by first | exact e0 | (simp only [World.size_alloc]; omega))).alloc _).alloc _), ((Blk.new (by first | exact e0 | (simp only [World.size_alloc]; omega))).alloc _), (Blk.new (by first | exact e0 | (simp only [World.size_alloc]; omega))), by simp only [World.size_drew, World.size_alloc]; omega, ?_⟩
    have := e0
    exact (by repeat first | with_reducible exact Below.refl _ _ | with_reducible refine Below.drew ?_ | with_reducible refine below_dN ?_ | with_reducible refine Below.alloc ?_ (by first | omega | (simp; done) | (simp; omega)) _ | with_reducible refine Below.setCell ?_ (by first | omega | (simp; done) | (simp; omega)) _ | with_reducible refine Below.trans ?_ (Below.mono (by assumption) (by first | omega | (simp; done) | (simp; omega))))
  obtain ⟨k0, k1, k2, k3, k4, hsz, hBW⟩ := hk0
  rw [← e0] at hBW
  have HW := Lib.hid (And.intro hsz (And.intro e0 (And.intro e1 (And.intro e2 (And.intro e3 e4)))))
  have lb01 : b0 < b1 := by omega
  have lb12 : b1 < b2 := by omega
  have lb23 : b2 < b3 := by omega
  have lb34 : b3 < b4 := by omega
  have lW : b4 < W0.heap.size := by omega
  have hw0 : w.heap.size ≤ b0 := by omega
  have hb0 : b0 ≤ w.heap.size := by omega
  clear hW hsz e0 e1 e2 e3 e4
  refine wpIn_rangeFunc_ownG rfl (by decide) (gf := 153) (lb := #[.pointer (some ⟨b4, 0, none⟩)]) rfl trivial (enters_of Tryz.func153 (by kernel_rfl) rfl)
    (bounds_stops 5 (by decide) N b4 hN W0 k4.lt (k4.cell rfl)) KB_t (KB_b (by omega)) (Below.refl _ _) (fun _ => rfl)
    (fun pre W => (Blk W b0 (fieldA s) 120 ∧ Blk W b1 #[.slice a (cn (N : Int)) c] 51 ∧ Blk W b4 #[.int .i64 (N : Int)] 3 ∧
      (∃ out k xs q, Blk W b2 #[out] 42 ∧ Blk W b3 #[.int .i64 q] 25 ∧ W.ownsRow b0 5 1 out k xs ∧ k ≤ 31 * pre.length ∧ JI N v (pre.map fun i => i.val) xs q)) ∧ Below b0 w W)
    (fun _ _ _ => False)
    (OwnFrom.and (fun pre A B row hs hg hr => ⟨hs.1.kept hg (fun r e => (hr r e).2), hs.2.1.kept hg (fun r e => (hr r e).2), hs.2.2.1.kept hg (fun r e => (hr r e).2), by
      obtain ⟨out, k, xs, q, h1, h2, h3, h4⟩ := hs.2.2.2
      exact ⟨out, k, xs, q, h1.kept hg (fun r e => (hr r e).2), h2.kept hg (fun r e => (hr r e).2), row_kept h3 hg (fun r e => (hr r e).2), h4⟩⟩) (ownFrom_below (by omega) (by omega)))
    (fun _ _ _ _ _ hs _ _ => hs)
    ⟨⟨k0, k1, k4, _, 0, [], 0, k2, k3, World.ownsRow_nil _ _ _ _, by omega, .inl ⟨(fun _ h => by cases h), rfl, rfl⟩⟩, hBW⟩
    (fun x => { tmps := #[fieldV s, .slice a (cn (N : Int)) c, .int .i64 (N : Int), .pointer (some ⟨b0, 0, none⟩), .pointer (some ⟨b1, 0, none⟩), undef, .slice none 0 0, .int .i64 0, .pointer (some ⟨b2, 0, none⟩), .pointer (some ⟨b3, 0, none⟩), .int .i64 ((x.val : Nat) : Int), .int .i64 ((cz N x.val : Nat) : Int), undef, undef, .bool false, .int .i64 (N : Int), .bool true, .bool false, .bool false, .slice a (cn (N : Int)) c, .int .i64 ((cn (N : Int) : Nat) : Int), .int .i64 (N : Int), .int .i64 ((cn (N : Int) : Nat) : Int), .bool false, .int .i64 (N : Int), .func (.func 153) #[] #[.pointer (some ⟨b4, 0, none⟩)], .int .i64 ((x.val : Nat) : Int), .int .i64 ((cz N x.val : Nat) : Int), undef, undef, undef, undef, undef, undef, undef, undef, undef, undef, undef, undef, undef, undef, undef, undef, undef, undef, undef, undef], defers := [] }) ?assign ?body ?done ?stop
  case assign =>
    intro l x W K hK
    gi_wp2
    exact hK
  case body =>
    rintro l pre x W ⟨⟨j0, j1, j4, out, k, xs, q, j2, j3, ho, hk, hJ⟩, hB⟩ hpre
    have hxn := x.isLt
    have hpre2 : pre.length < 2115 := by omega
    clear hpre
    obtain ⟨be, off, rfl, hbe, hcell⟩ := HX.out.at_.resolve_left (by omega)
    obtain ⟨m, em⟩ : ∃ m, m = cz N x.val := ⟨_, rfl⟩
    have hm31 : m ≤ 31 := by rw [em]; unfold cz; omega
    obtain ⟨i, ei⟩ : ∃ i, i = x.val := ⟨_, rfl⟩
    have hi2 : i < cn (N : Int) := by omega
    have hi3 : (i : Int) < ((cn (N : Int) : Nat) : Int) := by omega
    obtain ⟨y, ey⟩ : ∃ y, y = v i := ⟨_, rfl⟩
    have hy : y < pr s := by rw [ey]; exact Hv.out i hi2
    have hcx : ∀ j, j < 4 → W.cell? ⟨be, off + i * 4 + j, none⟩ = some (.int .u64 ((dg j (RR s y) : Nat) : Int)) := fun j hj => (hB.cell (p := ⟨be, off + i * 4 + j, none⟩) (by show be < b0; omega)).trans (by rw [ey]; exact hcell i hi2 j hj)
    have Hcx := Lib.hid hcx
    rw [← em, ← ei]
    have HI := Lib.hid (And.intro em (And.intro ei ey))
    have c1 := j1.cell (j := 0) rfl
    have lw0 := j0.lt
    have lw1 := j1.lt
    have lw2 := j2.lt
    have lw3 := j3.lt
    have lw4 := j4.lt
    have lwe : be < W.heap.size := by have := hB.size; omega
    have HJ := Lib.hid (And.intro j0 (And.intro j1 (And.intro j4 (And.intro j2 (And.intro j3 (And.intro ho (And.intro hk (And.intro hJ hB))))))))
    clear em ei ey hcx hcell j0 j1 j2 j3 j4 ho hk hJ hB hxn
    by_cases hz : Zf y m
    · have Hz := Lib.hid hz
      clear hz
      gi_wp2
      refine heldr_begin 12 [b0, b1, be] (by kernel_rfl) rfl (by intro _ _ d _ _ h; cases d <;> exact h) ?_
      intro hQ hK
      with_reducible apply heldr_v (n := 11) 0
      · rfl
      · kernel_rfl
      · kernel_rfl
      · kernel_rfl
      · exact hQ
      · with_reducible exact hK
      · rfl
      apply Exists.intro
      refine ⟨fun w' hC => ?_, ?_⟩
      · have k0_ := hC (b0) (by simp only [List.mem_cons, true_or, or_true])
        have k1_ := hC (b1) (by simp only [List.mem_cons, true_or, or_true])
        have k2_ := hC (be) (by simp only [List.mem_cons, true_or, or_true])
        clear hC
        have hl := load_field s (W := w') (b := b0) (fun j v hj => (k0_ j).trans (HJ.out.1.cell hj))
        exact exec_load rfl rfl hl
      try simp only [Act.put, sA, sB, sC, sD]
      with_reducible apply heldr_v (n := 10) 1
      · rfl
      · kernel_rfl
      · kernel_rfl
      · kernel_rfl
      · exact hQ
      · with_reducible exact hK
      · rfl
      apply Exists.intro
      refine ⟨fun w' hC => ?_, ?_⟩
      · have k0_ := hC (b0) (by simp only [List.mem_cons, true_or, or_true])
        have k1_ := hC (b1) (by simp only [List.mem_cons, true_or, or_true])
        have k2_ := hC (be) (by simp only [List.mem_cons, true_or, or_true])
        clear hC
        go_simp
        rfl
      try simp only [Act.put, sA, sB, sC, sD]
      with_reducible apply heldr_v (n := 9) 2
      · rfl
      · kernel_rfl
      · kernel_rfl
      · kernel_rfl
      · exact hQ
      · with_reducible exact hK
      · rfl
      apply Exists.intro
      refine ⟨fun w' hC => ?_, ?_⟩
      · have k0_ := hC (b0) (by simp only [List.mem_cons, true_or, or_true])
        have k1_ := hC (b1) (by simp only [List.mem_cons, true_or, or_true])
        have k2_ := hC (be) (by simp only [List.mem_cons, true_or, or_true])
        clear hC
        go_simp
        rfl
      try simp only [Act.put, sA, sB, sC, sD]
      with_reducible apply heldr_v (n := 8) 3
      · rfl
      · kernel_rfl
      · kernel_rfl
      · kernel_rfl
      · exact hQ
      · with_reducible exact hK
      · rfl
      apply Exists.intro
      refine ⟨fun w' hC => ?_, ?_⟩
      · have k0_ := hC (b0) (by simp only [List.mem_cons, true_or, or_true])
        have k1_ := hC (b1) (by simp only [List.mem_cons, true_or, or_true])
        have k2_ := hC (be) (by simp only [List.mem_cons, true_or, or_true])
        clear hC
        go_simp
        rfl
      try simp only [Act.put, sA, sB, sC, sD]
      with_reducible apply heldr_v (n := 7) 4
      · rfl
      · kernel_rfl
      · kernel_rfl
      · kernel_rfl
      · exact hQ
      · with_reducible exact hK
      · rfl
      apply Exists.intro
      refine ⟨fun w' hC => ?_, ?_⟩
      · have k0_ := hC (b0) (by simp only [List.mem_cons, true_or, or_true])
        have k1_ := hC (b1) (by simp only [List.mem_cons, true_or, or_true])
        have k2_ := hC (be) (by simp only [List.mem_cons, true_or, or_true])
        clear hC
        have hl := load_elem (W := w') (b := be) (p := off + i * 4) (x := RR s y) (fun j hj => (k2_ (off + i * 4 + j)).trans (Hcx.out j hj))
        exact exec_load rfl rfl hl
      try simp only [Act.put, sA, sB, sC, sD]
      with_reducible apply heldr_v (n := 6) 5
      · rfl
      · kernel_rfl
      · kernel_rfl
      · kernel_rfl
      · exact hQ
      · with_reducible exact hK
      · rfl
      apply Exists.intro
      refine ⟨fun w' hC => ?_, ?_⟩
      · have k0_ := hC (b0) (by simp only [List.mem_cons, true_or, or_true])
        have k1_ := hC (b1) (by simp only [List.mem_cons, true_or, or_true])
        have k2_ := hC (be) (by simp only [List.mem_cons, true_or, or_true])
        clear hC
        go_simp
        rfl
      try simp only [Act.put, sA, sB, sC, sD]
      with_reducible apply heldr_callx (n := 5) 6
      · rfl
      · kernel_rfl
      · rfl
      · with_reducible exact hK
      apply Exists.intro
      apply Exists.intro
      apply Exists.intro
      refine ⟨?_, ?_, ?_, ?_⟩
      · go_simp
        exact ⟨rfl, rfl⟩
      · exact unpack_ok s y m hm31 hy Hz.out _
      · intro b hb
        simp only [List.mem_cons, List.not_mem_nil, or_false] at hb
        rcases hb with rfl | rfl | rfl <;> first | omega | (simp; done) | (simp; omega)
      rintro r6 v6 ⟨g6, rfl, hg6, hB6⟩ h6 hK
      obtain ⟨c6, f6, s6⟩ := bfacts h6
      try simp only [World.size_alloc, World.size_setCell, size_drew, size_drewN] at s6
      try simp only [Act.put, sA, sB, sC, sD]
      with_reducible apply heldr_v (n := 4) 7
      · rfl
      · kernel_rfl
      · kernel_rfl
      · kernel_rfl
      · exact hQ
      · with_reducible exact hK
      · rfl
      apply Exists.intro
      refine ⟨fun w' hC => ?_, ?_⟩
      · have k0_ := hC (b0) (by simp only [List.mem_cons, true_or, or_true])
        have k1_ := hC (b1) (by simp only [List.mem_cons, true_or, or_true])
        have k2_ := hC (be) (by simp only [List.mem_cons, true_or, or_true])
        clear hC
        go_simp
        rfl
      try simp only [Act.put, sA, sB, sC, sD]
      with_reducible apply heldr_v (n := 3) 8
      · rfl
      · kernel_rfl
      · kernel_rfl
      · kernel_rfl
      · exact hQ
      · with_reducible exact hK
      · rfl
      apply Exists.intro
      refine ⟨fun w' hC => ?_, ?_⟩
      · have k0_ := hC (b0) (by simp only [List.mem_cons, true_or, or_true])
        have k1_ := hC (b1) (by simp only [List.mem_cons, true_or, or_true])
        have k2_ := hC (be) (by simp only [List.mem_cons, true_or, or_true])
        clear hC
        go_simp
        rfl
      try simp only [Act.put, sA, sB, sC, sD]
      with_reducible apply heldr_v (n := 2) 9
      · rfl
      · kernel_rfl
      · kernel_rfl
      · kernel_rfl
      · exact hQ
      · with_reducible exact hK
      · rfl
      apply Exists.intro
      refine ⟨fun w' hC => ?_, ?_⟩
      · have k0_ := hC (b0) (by simp only [List.mem_cons, true_or, or_true])
        have k1_ := hC (b1) (by simp only [List.mem_cons, true_or, or_true])
        have k2_ := hC (be) (by simp only [List.mem_cons, true_or, or_true])
        clear hC
        go_simp
        rfl
      try simp only [Act.put, sA, sB, sC, sD]
      with_reducible apply heldr_v (n := 1) 10
      · rfl
      · kernel_rfl
      · kernel_rfl
      · kernel_rfl
      · exact hQ
      · with_reducible exact hK
      · rfl
      apply Exists.intro
      refine ⟨fun w' hC => ?_, ?_⟩
      · have k0_ := hC (b0) (by simp only [List.mem_cons, true_or, or_true])
        have k1_ := hC (b1) (by simp only [List.mem_cons, true_or, or_true])
        have k2_ := hC (be) (by simp only [List.mem_cons, true_or, or_true])
        clear hC
        go_simp
        rfl
      try simp only [Act.put, sA, sB, sC, sD]
      with_reducible apply heldr_v (n := 0) 11
      · rfl
      · kernel_rfl
      · kernel_rfl
      · kernel_rfl
      · exact hQ
      · with_reducible exact hK
      · rfl
      apply Exists.intro
      refine ⟨fun w' hC => ?_, ?_⟩
      · have k0_ := hC (b0) (by simp only [List.mem_cons, true_or, or_true])
        have k1_ := hC (b1) (by simp only [List.mem_cons, true_or, or_true])
        have k2_ := hC (be) (by simp only [List.mem_cons, true_or, or_true])
        clear hC
        go_simp
        rfl
      try simp only [Act.put, sA, sB, sC, sD]
      refine heldr_end (by kernel_rfl) ?_
      clear hK hQ
      have hB8 : Below W.heap.size W v6 := (by repeat first | with_reducible exact Below.refl _ _ | with_reducible refine Below.drew ?_ | with_reducible refine below_dN ?_ | with_reducible refine Below.alloc ?_ (by first | omega | (simp; done) | (simp; omega)) _ | with_reducible refine Below.setCell ?_ (by first | omega | (simp; done) | (simp; omega)) _ | with_reducible refine Below.trans ?_ (Below.mono (by assumption) (by first | omega | (simp; done) | (simp; omega))))
      obtain ⟨j0, j1, j4, j2, j3, ho, hk, hJ, hB⟩ := HJ.out
      obtain ⟨ao, co, rfl⟩ := row_slice2 ho
      have y2 := (j2.below hB8 lw2).cell (j := 0) rfl
      have Ho8 := Lib.hid (row_below ho hB8)
      have HB8 := Lib.hid hB8
      have HB6 := Lib.hid hB6
      have hk2 : k ≤ 65565 := by omega
      have hs8 := hB8.size
      clear hB8 hB6 j0 j1 j2 j3 j4 ho hB hJ c1 c6 f6 h6
      gi_wp2_with (gi_at_builtin; refine wpListIn_append_own _ rfl (.tmp 41) (.tmp 42) 42 rfl b0 5 i0 _ 1 1 Tryz.underlying42 Hi.out Hz0.out Hz1.out Hz2.out rfl (by decide) (.slice ao k co) k xs rfl Ho8.out ⟨g6, 0, none⟩ m m (fl (byt y) m) rfl (by rw [fl_length, Nat.mul_one]) (bytes_src HB6.out) (fl_one1 _ _) (by unfold maxLen; omega) (by omega) (by omega) ?_; intro v' w9 own9 grow9 _; obtain ⟨a9, c9, rfl⟩ := row_slice2 own9; obtain ⟨j0, j1, j4, j2, j3, ho, hk', hJ, hB⟩ := HJ.out; have HWr := Lib.hid (((Wrote.refl W b2 (Value.slice ao k co).ownBlock).step HB8.out).grown grow9); have Own9 := Lib.hid own9; have Hne := Lib.hid (row_ne ho j2 rfl); have b8 := j2.below HB8.out lw2; have b9 := b8.same (grow9.block b2 b8.lt (fun e => Hne.out e.symm)); have B9 := Lib.hid b9; have y9 := b9.cell (j := 0) rfl; have z9 := b9.fz 0; clear own9 grow9 b8 b9 j0 j1 j2 j3 j4 ho hk' hJ hB y2)
      obtain ⟨j0, j1, j4, j2, j3, ho, hk', hJ, hB⟩ := HJ.out
      have hW2 := HWr.out.set 0 (.slice a9 (k + m) c9)
      have own := row_other (p := b2) (j := 0) (u := .slice a9 (k + m) c9) Own9.out (row_ne Own9.out B9.out rfl)
      refine ⟨hW2.keeps j2 (row_cells ho), hW2.block b4 lw4 (by omega) (fun e => row_ne ho j4 rfl e.symm), ⟨j0.same (hW2.block b0 lw0 (by omega) (fun e => row_ne ho j0 rfl e.symm)), j1.same (hW2.block b1 lw1 (by omega) (fun e => row_ne ho j1 rfl e.symm)),
        j4.same (hW2.block b4 lw4 (by omega) (fun e => row_ne ho j4 rfl e.symm)), _, k + m, _, q, B9.out.set, j3.same (hW2.block b3 lw3 (by omega) (fun e => row_ne ho j3 rfl e.symm)), own, by rw [List.length_append]; simp only [List.length_cons, List.length_nil]; omega, ?_⟩, ?_⟩
      · rw [List.map_append, List.map_cons, List.map_nil]
        have hz : Zf (v x.val) (cz N x.val) := by rw [← HI.out.1, ← HI.out.2.1, ← HI.out.2.2]; exact Hz.out
        rcases hJ with ⟨h1, h2, h3⟩ | ⟨h1, h2⟩
        · refine .inl ⟨okC_snoc.2 ⟨h1, hz⟩, ?_, h3⟩
          rw [byC_snoc, ← h2, ← HI.out.1, ← HI.out.2.1, ← HI.out.2.2]
        · exact .inr ⟨fun h => h1 (okC_snoc.1 h).1, h2⟩
      · exact hB.trans (hW2.below (by omega) (by omega) (fun k hk => (ho.lt k hk).1))
    · have Hz := Lib.hid hz
      clear hz
      gi_wp2
      refine heldr_begin 12 [b0, b1, be] (by kernel_rfl) rfl (by intro _ _ d _ _ h; cases d <;> exact h) ?_
      intro hQ hK
      with_reducible apply heldr_v (n := 11) 0
      · rfl
      · kernel_rfl
      · kernel_rfl
      · kernel_rfl
      · exact hQ
      · with_reducible exact hK
      · rfl
      apply Exists.intro
      refine ⟨fun w' hC => ?_, ?_⟩
      · have k0_ := hC (b0) (by simp only [List.mem_cons, true_or, or_true])
        have k1_ := hC (b1) (by simp only [List.mem_cons, true_or, or_true])
        have k2_ := hC (be) (by simp only [List.mem_cons, true_or, or_true])
        clear hC
        have hl := load_field s (W := w') (b := b0) (fun j v hj => (k0_ j).trans (HJ.out.1.cell hj))
        exact exec_load rfl rfl hl
      try simp only [Act.put, sA, sB, sC, sD]
      with_reducible apply heldr_v (n := 10) 1
      · rfl
      · kernel_rfl
      · kernel_rfl
      · kernel_rfl
      · exact hQ
      · with_reducible exact hK
      · rfl
      apply Exists.intro
      refine ⟨fun w' hC => ?_, ?_⟩
      · have k0_ := hC (b0) (by simp only [List.mem_cons, true_or, or_true])
        have k1_ := hC (b1) (by simp only [List.mem_cons, true_or, or_true])
        have k2_ := hC (be) (by simp only [List.mem_cons, true_or, or_true])
        clear hC
        go_simp
        rfl
      try simp only [Act.put, sA, sB, sC, sD]
      with_reducible apply heldr_v (n := 9) 2
      · rfl
      · kernel_rfl
      · kernel_rfl
      · kernel_rfl
      · exact hQ
      · with_reducible exact hK
      · rfl
      apply Exists.intro
      refine ⟨fun w' hC => ?_, ?_⟩
      · have k0_ := hC (b0) (by simp only [List.mem_cons, true_or, or_true])
        have k1_ := hC (b1) (by simp only [List.mem_cons, true_or, or_true])
        have k2_ := hC (be) (by simp only [List.mem_cons, true_or, or_true])
        clear hC
        go_simp
        rfl
      try simp only [Act.put, sA, sB, sC, sD]
      with_reducible apply heldr_v (n := 8) 3
      · rfl
      · kernel_rfl
      · kernel_rfl
      · kernel_rfl
      · exact hQ
      · with_reducible exact hK
      · rfl
      apply Exists.intro
      refine ⟨fun w' hC => ?_, ?_⟩
      · have k0_ := hC (b0) (by simp only [List.mem_cons, true_or, or_true])
        have k1_ := hC (b1) (by simp only [List.mem_cons, true_or, or_true])
        have k2_ := hC (be) (by simp only [List.mem_cons, true_or, or_true])
        clear hC
        go_simp
        rfl
      try simp only [Act.put, sA, sB, sC, sD]
      with_reducible apply heldr_v (n := 7) 4
      · rfl
      · kernel_rfl
      · kernel_rfl
      · kernel_rfl
      · exact hQ
      · with_reducible exact hK
      · rfl
      apply Exists.intro
      refine ⟨fun w' hC => ?_, ?_⟩
      · have k0_ := hC (b0) (by simp only [List.mem_cons, true_or, or_true])
        have k1_ := hC (b1) (by simp only [List.mem_cons, true_or, or_true])
        have k2_ := hC (be) (by simp only [List.mem_cons, true_or, or_true])
        clear hC
        have hl := load_elem (W := w') (b := be) (p := off + i * 4) (x := RR s y) (fun j hj => (k2_ (off + i * 4 + j)).trans (Hcx.out j hj))
        exact exec_load rfl rfl hl
      try simp only [Act.put, sA, sB, sC, sD]
      with_reducible apply heldr_v (n := 6) 5
      · rfl
      · kernel_rfl
      · kernel_rfl
      · kernel_rfl
      · exact hQ
      · with_reducible exact hK
      · rfl
      apply Exists.intro
      refine ⟨fun w' hC => ?_, ?_⟩
      · have k0_ := hC (b0) (by simp only [List.mem_cons, true_or, or_true])
        have k1_ := hC (b1) (by simp only [List.mem_cons, true_or, or_true])
        have k2_ := hC (be) (by simp only [List.mem_cons, true_or, or_true])
        clear hC
        go_simp
        rfl
      try simp only [Act.put, sA, sB, sC, sD]
      with_reducible apply heldr_call (n := 5) 6
      · rfl
      · kernel_rfl
      · rfl
      · with_reducible exact hK
      apply Exists.intro
      apply Exists.intro
      apply Exists.intro
      refine ⟨?_, ?_, ?_, ?_⟩
      · go_simp
        exact ⟨rfl, rfl⟩
      · exact unpack_bad s y m hm31 hy Hz.out _
      · intro b hb
        simp only [List.mem_cons, List.not_mem_nil, or_false] at hb
        rcases hb with rfl | rfl | rfl <;> first | omega | (simp; done) | (simp; omega)
      intro v6 h6 hK
      obtain ⟨c6, f6, s6⟩ := bfacts h6
      try simp only [World.size_alloc, World.size_setCell, size_drew, size_drewN] at s6
      try simp only [Act.put, sA, sB, sC, sD]
      with_reducible apply heldr_v (n := 4) 7
      · rfl
      · kernel_rfl
      · kernel_rfl
      · kernel_rfl
      · exact hQ
      · with_reducible exact hK
      · rfl
      apply Exists.intro
      refine ⟨fun w' hC => ?_, ?_⟩
      · have k0_ := hC (b0) (by simp only [List.mem_cons, true_or, or_true])
        have k1_ := hC (b1) (by simp only [List.mem_cons, true_or, or_true])
        have k2_ := hC (be) (by simp only [List.mem_cons, true_or, or_true])
        clear hC
        go_simp
        rfl
      try simp only [Act.put, sA, sB, sC, sD]
      with_reducible apply heldr_v (n := 3) 8
      · rfl
      · kernel_rfl
      · kernel_rfl
      · kernel_rfl
      · exact hQ
      · with_reducible exact hK
      · rfl
      apply Exists.intro
      refine ⟨fun w' hC => ?_, ?_⟩
      · have k0_ := hC (b0) (by simp only [List.mem_cons, true_or, or_true])
        have k1_ := hC (b1) (by simp only [List.mem_cons, true_or, or_true])
        have k2_ := hC (be) (by simp only [List.mem_cons, true_or, or_true])
        clear hC
        go_simp
        rfl
      try simp only [Act.put, sA, sB, sC, sD]
      with_reducible apply heldr_v (n := 2) 9
      · rfl
      · kernel_rfl
      · kernel_rfl
      · kernel_rfl
      · exact hQ
      · with_reducible exact hK
      · rfl
      apply Exists.intro
      refine ⟨fun w' hC => ?_, ?_⟩
      · have k0_ := hC (b0) (by simp only [List.mem_cons, true_or, or_true])
        have k1_ := hC (b1) (by simp only [List.mem_cons, true_or, or_true])
        have k2_ := hC (be) (by simp only [List.mem_cons, true_or, or_true])
        clear hC
        go_simp
        rfl
      try simp only [Act.put, sA, sB, sC, sD]
      with_reducible apply heldr_v (n := 1) 10
      · rfl
      · kernel_rfl
      · kernel_rfl
      · kernel_rfl
      · exact hQ
      · with_reducible exact hK
      · rfl
      apply Exists.intro
      refine ⟨fun w' hC => ?_, ?_⟩
      · have k0_ := hC (b0) (by simp only [List.mem_cons, true_or, or_true])
        have k1_ := hC (b1) (by simp only [List.mem_cons, true_or, or_true])
        have k2_ := hC (be) (by simp only [List.mem_cons, true_or, or_true])
        clear hC
        go_simp
        rfl
      try simp only [Act.put, sA, sB, sC, sD]
      with_reducible apply heldr_v (n := 0) 11
      · rfl
      · kernel_rfl
      · kernel_rfl
      · kernel_rfl
      · exact hQ
      · with_reducible exact hK
      · rfl
      apply Exists.intro
      refine ⟨fun w' hC => ?_, ?_⟩
      · have k0_ := hC (b0) (by simp only [List.mem_cons, true_or, or_true])
        have k1_ := hC (b1) (by simp only [List.mem_cons, true_or, or_true])
        have k2_ := hC (be) (by simp only [List.mem_cons, true_or, or_true])
        clear hC
        go_simp
        rfl
      try simp only [Act.put, sA, sB, sC, sD]
      refine heldr_end (by kernel_rfl) ?_
      clear hK hQ
      have hB8 : Below W.heap.size W v6 := (by repeat first | with_reducible exact Below.refl _ _ | with_reducible refine Below.drew ?_ | with_reducible refine below_dN ?_ | with_reducible refine Below.alloc ?_ (by first | omega | (simp; done) | (simp; omega)) _ | with_reducible refine Below.setCell ?_ (by first | omega | (simp; done) | (simp; omega)) _ | with_reducible refine Below.trans ?_ (Below.mono (by assumption) (by first | omega | (simp; done) | (simp; omega))))
      obtain ⟨j0, j1, j4, j2, j3, ho, hk, hJ, hB⟩ := HJ.out
      obtain ⟨ao, co, rfl⟩ := row_slice2 ho
      have y2 := (j2.below hB8 lw2).cell (j := 0) rfl
      have z2 := (j2.below hB8 lw2).fz 0
      have y3 := (j3.below hB8 lw3).cell (j := 0) rfl
      have z3 := (j3.below hB8 lw3).fz 0
      have Ho8 := Lib.hid (row_other (p := b3) (j := 0) (u := .int .i64 10) (row_below ho hB8) (row_ne ho j3 rfl))
      have HB8 := Lib.hid hB8
      have hs8 := hB8.size
      clear hB8 j0 j1 j2 j3 j4 ho hk hB hJ c1 c6 f6 h6
      gi_wp2_with (gi_at_builtin; refine wpListIn_append_none _ rfl (.tmp 41) (.tmp 42) 42 rfl b0 5 i0 1 Tryz.underlying42 Hi.out (.slice ao k co) k xs rfl Ho8.out rfl ?_)
      obtain ⟨j0, j1, j4, j2, j3, ho, hk, hJ, hB⟩ := HJ.out
      have hW2 := (((Wrote.refl W b2 (some b3)).step HB8.out).setr 0 (.int .i64 10)).set 0 (.slice ao k co)
      have p2 := (j2.below HB8.out lw2).other (p := b3) (j := 0) (u := .int .i64 10) (by omega)
      have p3 := ((j3.below HB8.out lw3).set (u := .int .i64 10)).other (p := b2) (j := 0) (u := .slice ao k co) (by omega)
      have own := row_other (p := b2) (j := 0) (u := .slice ao k co) Ho8.out (row_ne Ho8.out p2 rfl)
      refine ⟨hW2.keeps j2 (fun k e => by cases e; exact ⟨_, j3, rfl⟩), hW2.block b4 lw4 (by omega) (fun e => by cases e; omega), ⟨j0.same (hW2.block b0 lw0 (by omega) (fun e => by cases e; omega)), j1.same (hW2.block b1 lw1 (by omega) (fun e => by cases e; omega)),
        j4.same (hW2.block b4 lw4 (by omega) (fun e => by cases e; omega)), _, k, xs, 10, p2.set, p3, own, by rw [List.length_append]; simp only [List.length_cons, List.length_nil]; omega, ?_⟩, ?_⟩
      · rw [List.map_append, List.map_cons, List.map_nil]
        refine .inr ⟨fun h => Hz.out ?_, rfl⟩
        have := (okC_snoc.1 h).2
        rwa [← HI.out.1, ← HI.out.2.1, ← HI.out.2.2] at this
      · exact hB.trans (hW2.below (by omega) (by omega) (fun k e => by cases e; omega))
  case done =>
    rintro D ys W hD rfl ⟨⟨j0, j1, j4, out, k, xs, q, j2, j3, ho, hk, hJ⟩, hB⟩ hK
    obtain ⟨ao, co, rfl⟩ := row_slice2 ho
    have y2 := j2.cell (j := 0) rfl
    have y3 := j3.cell (j := 0) rfl
    have lW4 := j4.lt
    have HJ := Lib.hid (And.intro ho (And.intro hB hJ))
    have HK := Lib.hid hK
    clear j0 j1 j2 j3 j4 ho hB hK hk
    rcases hJ with ⟨h1, h2, rfl⟩ | ⟨h1, rfl⟩
    · have H1 := Lib.hid (And.intro h1 h2)
      clear h1 h2
      gi_wp2
      obtain ⟨ho, hB, _⟩ := HJ.out
      refine ⟨by simp, .inl ⟨_, _, rfl, run_takeDeferred HK.out, ?_⟩⟩
      have hr : ∀ r, some D = some r → ∃ o : Obj, W.heap[r]? = some o ∧ o.isCells = false := fun r e => by cases e; exact ⟨_, HK.out, rfl⟩
      have hg := grownBy_putObj' W D (.deferred none)
      have o1 := row_kept ho hg hr
      have em : (upF (cn (N : Int)) (cn (N : Int))).map (fun i => i.val) = List.range (cn (N : Int)) := (upF_map (cn (N : Int)) fun i => i).trans (List.map_id' _)
      refine ⟨.tuple #[.slice ao k co, .int .i64 0], ?_, ⟨_, rfl, .inl ⟨?_, _, k, rfl, ?_⟩⟩, ?_⟩
      · simp only [results, Tryz.results86]
        go_simp
      · have := H1.out.1
        rw [em] at this
        exact this
      · have h2 := H1.out.2
        rw [em] at h2
        rw [← h2, show w.heap.size = b0 by omega]
        exact o1
      · rw [show w.heap.size = b0 by omega]
        exact hB.grown hg (by show b0 ≤ W.heap.size; omega) (fun k e => by cases e; omega)
    · have H1 := Lib.hid h1
      clear h1
      gi_wp2
      refine wpIn_wide.2 (wp_np ?_)
      refine region_mix 2 [false, false] (fun w' => w' = World.drew _) (by kernel_rfl) (by kernel_rfl) (by intro _ _ d _ _ h; cases d <;> exact h) rfl ?_
      simp only [List.take_succ_cons, List.take_zero, List.drop_succ_cons, List.drop_zero]
      with_reducible refine mix_v ?_ ?_ ?_
      · rfl
      · rfl
      apply Exists.intro
      refine ⟨fun w' hC => ?_, ?_⟩
      · subst hC
        go_simp
        rfl
      try simp only [Act.put, sA, sB, sC, sD]
      with_reducible refine mix_v ?_ ?_ ?_
      · rfl
      · rfl
      apply Exists.intro
      refine ⟨fun w' hC => ?_, ?_⟩
      · subst hC
        go_simp
        rfl
      try simp only [Act.put, sA, sB, sC, sD]
      refine mix_nil ?_
      rintro _ rfl
      go_wp2_with fail
      refine np_normal ?_
      gi_wp2
      obtain ⟨ho, hB, _⟩ := HJ.out
      refine ⟨by simp, .inl ⟨_, _, rfl, run_takeDeferred HK.out, ?_⟩⟩
      have hr : ∀ r, some D = some r → ∃ o : Obj, W.heap[r]? = some o ∧ o.isCells = false := fun r e => by cases e; exact ⟨_, HK.out, rfl⟩
      have hg := grownBy_putObj' W.drew D (.deferred none)
      have em : (upF (cn (N : Int)) (cn (N : Int))).map (fun i => i.val) = List.range (cn (N : Int)) := (upF_map (cn (N : Int)) fun i => i).trans (List.map_id' _)
      refine ⟨.tuple #[.slice none 0 0, .int .i64 10], ?_, ⟨_, rfl, .inr ⟨?_, rfl⟩⟩, ?_⟩
      · simp only [results, Tryz.results86]
        go_simp
      · have := H1.out
        rw [em] at this
        exact this
      · rw [show w.heap.size = b0 by omega]
        exact (Below.trans (c := W.drew) hB ⟨rfl, rfl, rfl, Nat.le_refl _, fun _ _ => rfl⟩).grown hg (by show b0 ≤ W.heap.size; omega) (fun k e => by cases e; omega)
  case stop =>
    rintro D cc pre W _ _ h _
    exact h.elim
/-- Too long, or another count of chunks than the length says. -/
theorem join_big (s : Bool) (a : Option Addr) (n c : Nat) (N : Int) (hN : ¬ (0 ≤ N ∧ N ≤ 65535)) (w : World) :
    Calls Tryz.prog 86 #[fieldV s, .slice a n c, .int .i64 N] w fun e w' => e = .returned (.tuple #[.slice none 0 0, .int .i64 6]) ∧ Below w.heap.size w w' := by
  have hd : decide (0 ≤ N ∧ N ≤ 65535) = false := by simpa using hN
  have Hd := Lib.hid hd
  clear hd hN
  go_enter Tryz.func86, Tryz.ntmps86
  go_wp2_with fail
  refine Calls.mono (valid_c _ _) ?_
  rintro _ _ ⟨rfl, rfl⟩
  rw [Hd.out]
  go_wp2_with fail
  exact bodyPost_ret (v := .tuple #[.slice none 0 0, .int .i64 6]) (by simp only [results, Tryz.results86]; go_simp) rfl ⟨rfl, (by repeat first | with_reducible exact Below.refl _ _ | with_reducible refine Below.drew ?_ | with_reducible refine below_dN ?_ | with_reducible refine Below.alloc ?_ (by first | omega | (simp; done) | (simp; omega)) _ | with_reducible refine Below.setCell ?_ (by first | omega | (simp; done) | (simp; omega)) _ | with_reducible refine Below.trans ?_ (Below.mono (by assumption) (by first | omega | (simp; done) | (simp; omega))))⟩
theorem join_ne (s : Bool) (a : Option Addr) (n c : Nat) (N : Nat) (hN : N ≤ 65535) (hne : n ≠ cn N) (w : World) :
    Calls Tryz.prog 86 #[fieldV s, .slice a n c, .int .i64 (N : Int)] w fun e w' => e = .returned (.tuple #[.slice none 0 0, .int .i64 8]) ∧ Below w.heap.size w w' := by
  have hd : decide (0 ≤ (N : Int) ∧ (N : Int) ≤ 65535) = true := by simp; omega
  have Hd := Lib.hid hd
  have hne2 : (n : Int) ≠ ((cn (N : Int) : Nat) : Int) := by omega
  clear hd
  go_enter Tryz.func86, Tryz.ntmps86
  go_wp2_with fail
  refine Calls.mono (valid_c _ _) ?_
  rintro _ _ ⟨rfl, rfl⟩
  rw [Hd.out]
  go_wp2_with fail
  refine region_mix 5 [false, false, false, false, false] (fun w' => w' = World.drew _) (by kernel_rfl) (by kernel_rfl) (by intro _ _ d _ _ h; cases d <;> exact h) rfl ?_
  simp only [List.take_succ_cons, List.take_zero, List.drop_succ_cons, List.drop_zero]
  with_reducible refine mix_v ?_ ?_ ?_
  · rfl
  · rfl
  apply Exists.intro
  refine ⟨fun w' hC => ?_, ?_⟩
  · subst hC
    go_simp
    rfl
  try simp only [Act.put, sA, sB, sC, sD]
  with_reducible refine mix_v ?_ ?_ ?_
  · rfl
  · rfl
  apply Exists.intro
  refine ⟨fun w' hC => ?_, ?_⟩
  · subst hC
    go_simp
    rfl
  try simp only [Act.put, sA, sB, sC, sD]
  with_reducible refine mix_v ?_ ?_ ?_
  · rfl
  · rfl
  apply Exists.intro
  refine ⟨fun w' hC => ?_, ?_⟩
  · subst hC
    go_simp
    rfl
  try simp only [Act.put, sA, sB, sC, sD]
  with_reducible refine mix_c ?_ ?_ ?_
  · rfl
  · rfl
  apply Exists.intro
  apply Exists.intro
  apply Exists.intro
  refine ⟨fun w' hC => ?_, fun w' hC => ?_, ?_⟩
  · subst hC
    go_simp
    exact ⟨rfl, rfl⟩
  · subst hC
    exact same_of (count_c _ _)
  try simp only [Act.put, sA, sB, sC, sD]
  with_reducible refine mix_v ?_ ?_ ?_
  · rfl
  · rfl
  apply Exists.intro
  refine ⟨fun w' hC => ?_, ?_⟩
  · subst hC
    go_simp
    rfl
  try simp only [Act.put, sA, sB, sC, sD]
  refine mix_nil ?_
  rintro _ rfl
  go_wp2_with fail
  exact bodyPost_ret (v := .tuple #[.slice none 0 0, .int .i64 8]) (by simp only [results, Tryz.results86]; go_simp) rfl ⟨rfl, (by repeat first | with_reducible exact Below.refl _ _ | with_reducible refine Below.drew ?_ | with_reducible refine below_dN ?_ | with_reducible refine Below.alloc ?_ (by first | omega | (simp; done) | (simp; omega)) _ | with_reducible refine Below.setCell ?_ (by first | omega | (simp; done) | (simp; omega)) _ | with_reducible refine Below.trans ?_ (Below.mono (by assumption) (by first | omega | (simp; done) | (simp; omega))))⟩
end Go.Proofs.YtdnkkbmpefhbjaaGreatDoor
namespace Go.Proofs.YtdnkkbmpefhbjaaGreatDoor
set_option linter.all false
open Go Go.RowKit Go.Shelf
end Go.Proofs.YtdnkkbmpefhbjaaGreatDoor
namespace Go.Proofs.YtdnkkbmpefhbjaaGreatDoor
set_option linter.all false
open Go Go.RowKit Go.Shelf
end Go.Proofs.YtdnkkbmpefhbjaaGreatDoor
namespace Go.Proofs.YtdnkkbmpefhbjaaGreatDoor
set_option linter.all false
open Go Go.RowKit Go.Shelf
theorem refUnpack_ok (v m : Nat) (hm : m ≤ 31) (hz : Zf v m) (w : World) :
    Calls Tryz.prog 126 #[vec v, .int .i64 (m : Int)] w fun e w' => (∃ r, e = .returned r ∧ ∃ g d, r = .tuple #[.slice (some ⟨g, 0, none⟩) m d, .int .i64 0] ∧ w.heap.size ≤ g ∧ BytesAt w' g 0 m (byt v)) ∧ Below w.heap.size w w' := by
  refine (refUnpack_walk v m hm w).mono ?_
  rintro e w' ⟨h | h, hb⟩
  · obtain ⟨_, g, c, rfl, hg, hB⟩ := h
    exact ⟨⟨_, rfl, g, c, rfl, hg, hB⟩, hb⟩
  · exact absurd hz h.1
theorem refUnpack_bad (v m : Nat) (hm : m ≤ 31) (hz : ¬ Zf v m) (w : World) :
    Calls Tryz.prog 126 #[vec v, .int .i64 (m : Int)] w fun e w' => e = .returned (.tuple #[.slice none 0 0, .int .i64 10]) ∧ Below w.heap.size w w' := by
  refine (refUnpack_walk v m hm w).mono ?_
  rintro e w' ⟨h | h, hb⟩
  · exact absurd h.1 hz
  · exact ⟨h.2, hb⟩
set_option maxRecDepth 100000 in
set_option maxHeartbeats 8000000 in
theorem refJoin_walk (a : Option Addr) (N c : Nat) (v : Nat → Nat) (hN : N ≤ 65535) (w : World) (HV : Hid (VecsAt w a (cn N) v)) :
    Calls Tryz.prog 87 #[.slice a (cn N) c, .int .i64 (N : Int)] w fun e w' => (∃ r, e = .returned r ∧ JO w.heap.size N v r w') ∧ Below w.heap.size w w' := by
  have hN2 : (N : Int) ≤ 65535 := by omega
  have hcn : cn (N : Int) ≤ 2115 := by unfold cn; split <;> omega
  obtain ⟨i0, hi, hz0, hz1, hz2⟩ := info_parts infoByte
  have Hi := Lib.hid hi
  have Hz0 := Lib.hid hz0
  have Hz1 := Lib.hid hz1
  have Hz2 := Lib.hid hz2
  clear hi hz0 hz1 hz2
  go_enter Tryz.func87, Tryz.ntmps87
  go_wp2_with fail
  refine Calls.mono (refCount_c _ (by omega) _) ?_
  rintro _ _ ⟨rfl, rfl⟩
  go_wp2_with fail
  go_loopw [6, 7] (fun r i wr => ∃ k q : Nat, k ≤ cn N ∧ i = .int .i64 (k : Int) ∧ q ≤ 31 * k ∧ wr.ownsRow w.heap.size 5 1 r q (byC N v (List.range k)) ∧ okC N v (List.range k) ∧ Below w.heap.size w wr) (fun _ i _ => cn N - (intOf i).toNat)
  case atStart => exact ⟨0, 0, Nat.zero_le _, rfl, Nat.zero_le _, World.ownsRow_nil _ _ _ _, (fun _ h => by cases h), Below.refl _ _⟩
  case round =>
    obtain ⟨k, q, hk, rfl, hq, hown, hok, hbel⟩ := hrel
    have Hown := Lib.hid hown
    have Hbel := Lib.hid hbel
    have Hok := Lib.hid hok
    clear hown hok
    by_cases hlt : k < cn N
    · have h31 := cn_lo hN hlt
      obtain ⟨b, off, rfl, hbb, hcc⟩ := HV.out.at_.resolve_left (by omega)
      obtain ⟨m, em⟩ : ∃ m, m = cz N k := ⟨_, rfl⟩
      obtain ⟨y, ey⟩ : ∃ y, y = v k := ⟨_, rfl⟩
      have hm31 : m ≤ 31 := by rw [em]; unfold cz; omega
      have hkn : (k : Int) < ((cn (N : Int) : Nat) : Int) := by omega
      have hmin : min (31 : Int) ((N : Int) - 31 * (k : Int)) = (m : Int) := by rw [em]; unfold cz; omega
      have hk2 : (k : Int) ≤ 2115 := by omega
      have hl : ∀ j, j < 4 → wr.cell? ⟨b, off + k * 4 + j, none⟩ = some (.int .u64 ((dg j y : Nat) : Int)) := fun j hj => (hbel.cell (p := ⟨b, off + k * 4 + j, none⟩) hbb).trans (by rw [ey]; exact hcc k hlt j hj)
      have x0 : wr.cell? ⟨b, off + k * 4, none⟩ = some (.int .u64 ((dg 0 y : Nat) : Int)) := hl 0 (by decide)
      have x1 := hl 1 (by decide)
      have x2 := hl 2 (by decide)
      have x3 := hl 3 (by decide)
      clear hl
      have HI := Lib.hid (And.intro em ey)
      clear hcc em ey hbel
      by_cases hz : Zf y m
      · have Hz := Lib.hid hz
        clear hz
        go_wp2_with fail
        refine Calls.mono (refUnpack_ok y m hm31 Hz.out _) ?_
        rintro _ w1 ⟨⟨_, rfl, g, d, rfl, hg, hB⟩, h1⟩
        obtain ⟨c1, f1, s1⟩ := bfacts h1
        try simp only [World.size_alloc, World.size_setCell, size_drew, size_drewN] at s1
        have HB := Lib.hid hB
        clear hB x0 x1 x2 x3
        go_wp2_with (at_builtin; refine wpList_append_own _ rfl (.tmp 43) (.tmp 44) 42 rfl w.heap.size 5 i0 (.int .u8 0) 1 1 Tryz.underlying42 Hi.out Hz0.out Hz1.out Hz2.out rfl (by decide) _ _ _ rfl (row_below Hown.out h1) ⟨g, 0, none⟩ m d (fl (byt y) m) rfl (by rw [fl_len, Nat.mul_one]) (bytes_src HB.out) (fl_one1 _ _) (by unfold maxLen; omega) (by omega) (by have := Hbel.out.size; omega) ?_; intro r' w2 hown' hgrow' _)
        have R1 := Lib.hid hown'
        have R2 := Lib.hid (Hbel.out.trans ((Below.mono h1 Hbel.out.size).grown hgrow' (by have := Hbel.out.size; omega) (fun j hj => (Hown.out.lt j hj).1)))
        clear hown' hgrow'
        go_wp2_with fail
        go_roundw
        case rel =>
          refine ⟨k + 1, q + m, by omega, by go_num, by omega, ?_, ?_, R2.out⟩
          · rw [List.range_succ, byC_snoc, ← HI.out.1, ← HI.out.2]
            exact R1.out
          · rw [List.range_succ]
            exact okC_snoc.2 ⟨Hok.out, by rw [← HI.out.1, ← HI.out.2]; exact Hz.out⟩
        case measure => simp [intOf]; omega
      · have Hz := Lib.hid hz
        clear hz
        go_wp2_with fail
        refine Calls.mono (refUnpack_bad y m hm31 Hz.out _) ?_
        rintro _ w1 ⟨rfl, h1⟩
        obtain ⟨c1, f1, s1⟩ := bfacts h1
        try simp only [World.size_alloc, World.size_setCell, size_drew, size_drewN] at s1
        go_wp2_with fail
        exact bodyPost_ret (v := .tuple #[.slice none 0 0, .int .i64 10]) (by simp only [results, Tryz.results87]; go_simp) rfl ⟨⟨_, rfl, .inr ⟨fun h => Hz.out (by rw [HI.out.1, HI.out.2]; exact h k (List.mem_range.2 hlt)), rfl⟩⟩, Hbel.out.trans (Below.mono h1 Hbel.out.size)⟩
    · obtain rfl : k = cn N := by omega
      obtain ⟨ao, co, rfl⟩ := row_slice2 Hown.out
      go_wp2_with fail
      exact bodyPost_ret (v := .tuple #[.slice ao q co, .int .i64 0]) (by simp only [results, Tryz.results87]; go_simp) rfl ⟨⟨_, rfl, .inl ⟨Hok.out, _, q, rfl, Hown.out⟩⟩, Hbel.out⟩
end Go.Proofs.YtdnkkbmpefhbjaaGreatDoor
namespace Go.Proofs.YtdnkkbmpefhbjaaGreatDoor
set_option linter.all false
open Go Go.RowKit
theorem pos_add {b o j : Nat} : (⟨b, o, none⟩ : Addr).add j = ⟨b, o + j, none⟩ := add_pos
theorem vq_get {x j : Nat} (hj : j < 4) : (vq x)[j]? = some (.int .u64 ((dg j x : Nat) : Int)) := by
  have h : j = 0 ∨ j = 1 ∨ j = 2 ∨ j = 3 := by omega
  rcases h with rfl | rfl | rfl | rfl <;> rfl
theorem vecs_of {w : World} {a : Option Addr} {n c : Nat} {X : Nat → Nat} (h : LstAt w 4 (.slice a n c) n (en vq X n)) : VecsAt w a n X := by
  refine ⟨?_⟩
  by_cases h0 : n = 0
  · exact .inl h0
  have ha := lst_some h (by omega)
  obtain ⟨a', c', he, _, _, hx⟩ := h.at_
  cases he
  obtain ⟨h1, h2, _⟩ := hx _ ha (by omega)
  refine .inr ⟨(adq a).block, (adq a).off, ?_, h2, fun i hi j hj => ?_⟩
  · rw [ha, ← h1]
    rfl
  · have := lstq h hi (en_chunk vq_len hi) j _ (vq_get hj)
    have e : adq a = ⟨(adq a).block, (adq a).off, none⟩ := by rw [← h1]
    rw [e, pos_add, pos_add] at this
    exact this
/-- A row that a call made. -/
theorem Sat.ofOwn {F0 : Nat → Prop} {W w w' : World} {M R : List Res} {T : TypeId} {sz n : Nat} {v : Value} {xs : List Value} (hs : Sat F0 W M R w) (hb : Below w.heap.size w w') (ho : w'.ownsRow w.heap.size T sz v n xs) : Sat F0 W (row T sz v n xs :: M) R w' :=
  hs.new (.ofBelow hb) ⟨ho.1, ho.2.imp id fun ⟨g, cap, cur, e, hg, r⟩ => ⟨g, cap, cur, e, Nat.zero_le _, r⟩⟩ fun k hk => (ho.lt k hk).1
end Go.Proofs.YtdnkkbmpefhbjaaGreatDoor
namespace Go.Proofs.YtdnkkbmpefhbjaaGreatDoor
set_option linter.all false
open Go Go.RowKit
open Classical in
/-- What Join says. -/
noncomputable def jErr (n : Nat) (N : Int) (v : Nat → Nat) : Int := if 0 ≤ N ∧ N ≤ 65535 then (if n = cn N then (if okC N.toNat v (List.range n) then 0 else 10) else 8) else 6
def jFlat (N : Nat) (v : Nat → Nat) (l : List Nat) : List Nat := l.flatMap fun i => (List.range (cz N i)).map (byt (v i))
/-- The bytes that Join hands back. -/
noncomputable def jBytes (n : Nat) (N : Int) (v : Nat → Nat) : List Nat := if jErr n N v = 0 then jFlat N.toNat v (List.range n) else []
theorem byC_el (N : Nat) (v : Nat → Nat) (l : List Nat) : byC N v l = el bc (jFlat N v l) := by
  unfold byC jFlat el
  induction l with
  | nil => rfl
  | cons x l ih =>
    rw [List.flatMap_cons, List.flatMap_cons, List.flatMap_append, ih]
    congr 1
    unfold fl bc
    induction (List.range (cz N x)) with
    | nil => rfl
    | cons y m ihm => simp [ihm]
/-- How Join's answer lies. -/
def JQ (W : World) (n : Nat) (N : Int) (v : Nat → Nat) (e : Ending) (w : World) : Prop :=
  ∃ a k c, e = .returned (.tuple #[.slice a k c, .int .i64 (jErr n N v)]) ∧ Sat no W [row 5 1 (.slice a k c) k (el bc (jBytes n N v))] [] w
theorem JQ.bad {W w : World} {n : Nat} {N : Int} {v : Nat → Nat} {q : Int} (hb : Below W.heap.size W w) (h : jErr n N v = q) (hq : q ≠ 0) : JQ W n N v (.returned (.tuple #[.slice none 0 0, .int .i64 q])) w := by
  refine ⟨none, 0, 0, by rw [h], ?_⟩
  have hnil : jBytes n N v = [] := by unfold jBytes; rw [if_neg (by rw [h]; exact hq)]
  rw [hnil]
  exact ((Sat.start W [] (fun _ h => by cases h)).below hb).row0 _ _
open Classical in
theorem JQ.of {W w : World} {N : Nat} {v : Nat → Nat} {r : Value} (hb : Below W.heap.size W w) (hN : N ≤ 65535) (h : JO W.heap.size N v r w) : JQ W (cn N) N v (.returned r) w := by
  have e0 : jErr (cn N) N v = if okC N v (List.range (cn N)) then 0 else 10 := by
    unfold jErr
    rw [if_pos (by omega), if_pos rfl]
    simp
  rcases h with ⟨hok, out, k, rfl, ho⟩ | ⟨hok, rfl⟩
  · rw [if_pos hok] at e0
    obtain ⟨a, c, rfl⟩ := row_slice2 ho
    refine ⟨a, k, c, by rw [e0], ?_⟩
    have hj : jBytes (cn N) N v = jFlat N v (List.range (cn N)) := by unfold jBytes; rw [if_pos e0]; rfl
    rw [hj, ← byC_el]
    exact (Sat.start W [] (fun _ h => by cases h)).ofOwn hb ho
  · rw [if_neg hok] at e0
    exact JQ.bad hb e0 (by decide)
theorem joinQ (s : Bool) (la : Option Addr) (n lc : Nat) (N : Int) (v : Nat → Nat) (W : World) (HX : LstAt W 4 (.slice la n lc) n (en vq (fun i => RR s (v i)) n)) (Hv : ∀ i, i < n → v i < pr s) :
    Calls Tryz.prog 86 #[fieldV s, .slice la n lc, .int .i64 N] W (JQ W n N v) := by
  by_cases h1 : 0 ≤ N ∧ N ≤ 65535
  · obtain ⟨M, rfl⟩ : ∃ M : Nat, N = M := ⟨N.toNat, by omega⟩
    by_cases h2 : n = cn M
    · subst h2
      refine (join_walk s la M lc v (by omega) W (Lib.hid (vecs_of HX)) (Lib.hid Hv)).mono ?_
      rintro e w ⟨⟨r, rfl, h⟩, hb⟩
      exact .of hb (by omega) h
    · refine (join_ne s la n lc M (by omega) h2 W).mono ?_
      rintro e w ⟨rfl, hb⟩
      exact .bad hb (by unfold jErr; rw [if_pos h1, if_neg h2]) (by decide)
  · refine (join_big s la n lc N h1 W).mono ?_
    rintro e w ⟨rfl, hb⟩
    exact .bad hb (by unfold jErr; rw [if_neg h1]) (by decide)
theorem refJoin_lo (la : Option Addr) (n lc : Nat) (N : Int) (W : World) (hN : N < 0) : Calls Tryz.prog 87 [.slice la n lc, .int .i64 N].toArray W fun e w => e = .returned (.tuple #[.slice none 0 0, .int .i64 6]) ∧ Below W.heap.size W w := by
 refine c_enter (args := [.slice la n lc, .int .i64 N]) Tryz.func87 rfl rfl rfl fun a hk => ?_
 have hs := Sat.start W [] (fun _ h => by cases h)
 refine wS (wR ?_)
 refine q_v hk (w_as rfl) fun a hk => ?_
 refine q_v hk (w_as rfl) fun a hk => ?_
 refine c_end (x_t (wS (wR ?_)))
 refine q_v hk (w_as rfl) fun a hk => ?_
 refine c_end (x_t (wS (wS (wR ?_))))
 refine q_v hk (w_mv rfl) fun a hk => ?_
 refine q_v hk (w_lt rfl rfl (decide_eq_true (by omega))) fun a hk => ?_
 refine q_v hk (w_mv rfl) fun a hk => ?_
 refine q_skip hk rfl rfl fun a hk => ?_
 refine q_skip hk rfl rfl fun a hk => ?_
 refine q_v hk (w_pickT rfl rfl) fun a hk => ?_
 refine c_end (x_t ?_)
 refine c_T hk rfl ?_
 refine wS (wR ?_)
 refine q_v hk (w_as rfl) fun a hk => ?_
 refine q_v hk (w_as rfl) fun a hk => ?_
 refine c_end (x_t ?_)
 refine (wpIn_ret (x_tr ?_))
 refine c_ret2 hk rfl rfl rfl ?_
 exact ⟨rfl, hs.toBelow⟩
theorem refJoin_big (la : Option Addr) (n lc : Nat) (N : Int) (W : World) (hN : 65535 < N) : Calls Tryz.prog 87 [.slice la n lc, .int .i64 N].toArray W fun e w => e = .returned (.tuple #[.slice none 0 0, .int .i64 6]) ∧ Below W.heap.size W w := by
 refine c_enter (args := [.slice la n lc, .int .i64 N]) Tryz.func87 rfl rfl rfl fun a hk => ?_
 have hs := Sat.start W [] (fun _ h => by cases h)
 refine wS (wR ?_)
 refine q_v hk (w_as rfl) fun a hk => ?_
 refine q_v hk (w_as rfl) fun a hk => ?_
 refine c_end (x_t (wS (wR ?_)))
 refine q_v hk (w_as rfl) fun a hk => ?_
 refine c_end (x_t (wS (wS (wR ?_))))
 refine q_v hk (w_mv rfl) fun a hk => ?_
 refine q_v hk (w_lt rfl rfl (decide_eq_false (by omega))) fun a hk => ?_
 refine q_v hk (w_mv rfl) fun a hk => ?_
 refine q_v hk (w_mv rfl) fun a hk => ?_
 refine q_v hk (w_gt rfl rfl (decide_eq_true (by omega))) fun a hk => ?_
 refine q_v hk (w_pickF rfl rfl) fun a hk => ?_
 refine c_end (x_t ?_)
 refine c_T hk rfl ?_
 refine wS (wR ?_)
 refine q_v hk (w_as rfl) fun a hk => ?_
 refine q_v hk (w_as rfl) fun a hk => ?_
 refine c_end (x_t ?_)
 refine (wpIn_ret (x_tr ?_))
 refine c_ret2 hk rfl rfl rfl ?_
 exact ⟨rfl, hs.toBelow⟩
theorem refJoin_ne (la : Option Addr) (n lc : Nat) (N : Int) (W : World) (h0 : 0 ≤ N) (hN : N ≤ 65535) (hne : n ≠ cn N) : Calls Tryz.prog 87 [.slice la n lc, .int .i64 N].toArray W fun e w => e = .returned (.tuple #[.slice none 0 0, .int .i64 8]) ∧ Below W.heap.size W w := by
 refine c_enter (args := [.slice la n lc, .int .i64 N]) Tryz.func87 rfl rfl rfl fun a hk => ?_
 have hs := Sat.start W [] (fun _ h => by cases h)
 refine wS (wR ?_)
 refine q_v hk (w_as rfl) fun a hk => ?_
 refine q_v hk (w_as rfl) fun a hk => ?_
 refine c_end (x_t (wS (wR ?_)))
 refine q_v hk (w_as rfl) fun a hk => ?_
 refine c_end (x_t (wS (wS (wR ?_))))
 refine q_v hk (w_mv rfl) fun a hk => ?_
 refine q_v hk (w_lt rfl rfl (decide_eq_false (by omega))) fun a hk => ?_
 refine q_v hk (w_mv rfl) fun a hk => ?_
 refine q_v hk (w_mv rfl) fun a hk => ?_
 refine q_v hk (w_gt rfl rfl (decide_eq_false (by omega))) fun a hk => ?_
 refine q_v hk (w_pickF rfl rfl) fun a hk => ?_
 refine c_end (x_t ?_)
 refine c_F hk rfl ?_
 refine (wpIn_skip (x_t ?_))
 refine wS (wS (wR ?_))
 refine q_v hk (w_mv rfl) fun a hk => ?_
 refine q_v hk (w_len rfl Tryz.underlying72) fun a hk => ?_
 refine q_v hk (w_mv rfl) fun a hk => ?_
 refine q_call (caps := []) hk rfl rfl Tryz.func103 fo103 rfl rfl (refCount_c N (by omega) _) ?_
 rintro _ _ ⟨rfl, rfl⟩
 refine ⟨_, rfl, fun a hk => ?_⟩
 refine q_v hk (w_ne rfl rfl (decide_eq_true (by omega))) fun a hk => ?_
 refine c_end (x_t ?_)
 refine c_T hk rfl ?_
 refine wS (wR ?_)
 refine q_v hk (w_as rfl) fun a hk => ?_
 refine q_v hk (w_as rfl) fun a hk => ?_
 refine c_end (x_t ?_)
 refine (wpIn_ret (x_tr ?_))
 refine c_ret2 hk rfl rfl rfl ?_
 exact ⟨rfl, hs.toBelow⟩
theorem refJoinQ (la : Option Addr) (n lc : Nat) (N : Int) (v : Nat → Nat) (W : World) (HV : LstAt W 4 (.slice la n lc) n (en vq v n)) :
    Calls Tryz.prog 87 #[.slice la n lc, .int .i64 N] W (JQ W n N v) := by
  by_cases h1 : 0 ≤ N ∧ N ≤ 65535
  · obtain ⟨M, rfl⟩ : ∃ M : Nat, N = M := ⟨N.toNat, by omega⟩
    by_cases h2 : n = cn M
    · subst h2
      refine (refJoin_walk la M lc v (by omega) W (Lib.hid (vecs_of HV))).mono ?_
      rintro e w ⟨⟨r, rfl, h⟩, hb⟩
      exact .of hb (by omega) h
    · refine (refJoin_ne la n lc M W h1.1 h1.2 h2).mono ?_
      rintro e w ⟨rfl, hb⟩
      exact .bad hb (by unfold jErr; rw [if_pos h1, if_neg h2]) (by decide)
  · have h3 : N < 0 ∨ 65535 < N := by omega
    rcases h3 with h3 | h3
    · refine (refJoin_lo la n lc N W h3).mono ?_
      rintro e w ⟨rfl, hb⟩
      exact .bad hb (by unfold jErr; rw [if_neg h1]) (by decide)
    · refine (refJoin_big la n lc N W h3).mono ?_
      rintro e w ⟨rfl, hb⟩
      exact .bad hb (by unfold jErr; rw [if_neg h1]) (by decide)
theorem bytesIn_of {w : World} {a : Option Addr} {n c : Nat} {l : List Nat} (h : LstAt w 1 (.slice a n c) n (el bc l)) : Lib.BytesIn w a n (l.map fun x : Nat => (x : Int)) := by
  intro hn
  have ha := lst_some h hn
  obtain ⟨a', c', he, _, _, hx⟩ := h.at_
  cases he
  obtain ⟨h1, h2, h3⟩ := hx _ ha hn
  refine ⟨(adq a).block, (adq a).off, by rw [ha, ← h1]; rfl, fun i hi => ?_⟩
  have hl : l.length = n := by have := h.len; rw [el_len bc_len] at this; omega
  have := h3 i (.int .u8 ((l.map fun x : Nat => (x : Int)).getD i 0)) (by
    have hh := el_chunk (c := bc) bc_len (l := l) (k := i) (by omega) 0
    rw [Nat.mul_one] at hh
    have h4 := congrArg (fun q => q[0]?) hh
    simp only [List.getElem?_take, List.getElem?_drop] at h4
    simp only [bc, Nat.add_zero, show (0 < 1) = True by simp, if_true] at h4
    rw [h4]
    simp [List.getD, hl, hi])
  have e : adq a = ⟨(adq a).block, (adq a).off, none⟩ := by rw [← h1]
  rw [e, add_pos] at this
  exact this
theorem bytesEqQ (w : World) (a b : Option Addr) (n c m d : Nat) (l l' : List Nat) (h1 : LstAt w 1 (.slice a n c) n (el bc l)) (h2 : LstAt w 1 (.slice b m d) m (el bc l')) (h : l = l') :
    Calls Tryz.prog 46 #[.slice a n c, .slice b m d] w fun e w' => e = .returned (.bool true) ∧ w = w' := by
  subst h
  have e1 := h1.len
  have e2 := h2.len
  rw [el_len bc_len] at e1 e2
  refine (Tryz.bytes_Equal_all a b n c m d _ _ w (by simp; omega) (by simp; omega) (bytesIn_of h1) (bytesIn_of h2)).mono ?_
  rintro e w' ⟨rfl, rfl⟩
  exact ⟨by simp, rfl⟩
end Go.Proofs.YtdnkkbmpefhbjaaGreatDoor
namespace Go.Proofs.YtdnkkbmpefhbjaaGreatDoor
set_option linter.all false
open Go Go.RowKit Alg
def valN (s : Bool) (S : Nat → Shr) (m i : Nat) : Nat := (valZ s S m i).val
theorem combine_bad {F0 : Nat → Prop} {W : World} {M R : List Res} (m lc : Nat) (la : Option Addr) (S : Nat → Shr) (t : Option Nat) (w0 : World) (hs : Sat F0 W M R w0) (hS : HasR (shareR la m lc S) R) (hG : HasR laidR R) (HO : ShOk S m) (hz : csErr S m ≠ 0) : Calls Tryz.prog 44 [tval t, .slice la m lc].toArray w0 fun e w => e = .returned (.tuple #[.slice none 0 0, .int .i64 (csErr S m)]) ∧ Sat F0 W M R w := by
 refine c_enter (args := [tval t, .slice la m lc]) Tryz.func44 rfl rfl rfl fun a hk => ?_
 refine wS (wR ?_)
 refine q_v hk (w_as rfl) fun a hk => ?_
 refine q_v hk (w_as rfl) fun a hk => ?_
 refine c_end (x_t (wS (wR ?_)))
 refine q_v hk (w_mv rfl) fun a hk => ?_
 refine q_v hk (w_mv rfl) fun a hk => ?_
 refine q_call (caps := []) hk rfl rfl Tryz.func41 fo41 rfl rfl (values_bad m lc la S t _ hs (hS) (hG) HO hz) ?_
 rintro _ w ⟨rfl, hs⟩
 refine ⟨_, rfl, fun a hk => ?_⟩
 refine q_v hk (w_mv rfl) fun a hk => ?_
 refine q_v hk (w_ext rfl rfl) fun a hk => ?_
 refine q_v hk (w_ext rfl rfl) fun a hk => ?_
 refine q_v hk (w_as rfl) fun a hk => ?_
 refine q_v hk (w_as rfl) fun a hk => ?_
 refine c_end (x_t (wS (wS (wR ?_))))
 refine q_v hk (w_mv rfl) fun a hk => ?_
 refine q_v hk (w_ne rfl rfl (decide_eq_true (by omega))) fun a hk => ?_
 refine c_end (x_t ?_)
 refine c_T hk rfl ?_
 refine wS (wR ?_)
 refine q_v hk (w_mv rfl) fun a hk => ?_
 refine q_v hk (w_as rfl) fun a hk => ?_
 refine q_v hk (w_as rfl) fun a hk => ?_
 refine c_end (x_t ?_)
 refine (wpIn_ret (x_tr ?_))
 refine c_ret2 hk rfl rfl rfl ?_
 exact ⟨rfl, hs⟩
theorem combine_m {F0 : Nat → Prop} {W : World} {M R : List Res} (s : Bool) (m lc : Nat) (la : Option Addr) (S : Nat → Shr) (t : Option Nat) (evs : List Ev) (r : Res) (w0 : World) (hs : Sat F0 W (r :: M) R w0) (hS : HasR (shareR la m lc S) R) (hG : HasR laidR R) (HO : ShOk S m) (g : Good s S m) (hz : csErr S m = 0) (hm : m ≤ 255) (hn9 : (S 0).n ≤ 4) (hT : TapeIs t evs r) (he : evs.length ≤ 10000) : Calls Tryz.prog 44 [tval t, .slice la m lc].toArray w0 fun e w => ∃ r a k c, e = .returned (.tuple #[.slice a k c, .int .i64 (jErr (S 0).n (S 0).L (valN s S (thN S)))]) ∧ TapeIs t (evs ++ valsE (thN S) (S 0).n) r ∧ Sat F0 W (r :: row 5 1 (.slice a k c) k (el bc (jBytes (S 0).n (S 0).L (valN s S (thN S)))) :: M) R w := by
 have hm0 := g.m0
 refine c_enter (args := [tval t, .slice la m lc]) Tryz.func44 rfl rfl rfl fun a hk => ?_
 refine wS (wR ?_)
 refine q_v hk (w_as rfl) fun a hk => ?_
 refine q_v hk (w_as rfl) fun a hk => ?_
 refine c_end (x_t (wS (wR ?_)))
 refine q_v hk (w_mv rfl) fun a hk => ?_
 refine q_v hk (w_mv rfl) fun a hk => ?_
 refine q_call (caps := []) hk rfl rfl Tryz.func41 fo41 rfl rfl (values_m s m lc la S t evs _ _ hs (hS) (hG) HO g hz hm hn9 hT he) ?_
 rintro _ w ⟨r1, a2, c3, rfl, hT, hs⟩
 refine ⟨_, rfl, fun a hk => ?_⟩
 refine q_v hk (w_mv rfl) fun a hk => ?_
 refine q_v hk (w_ext rfl rfl) fun a hk => ?_
 refine q_v hk (w_ext rfl rfl) fun a hk => ?_
 refine q_v hk (w_as rfl) fun a hk => ?_
 refine q_v hk (w_as rfl) fun a hk => ?_
 refine c_end (x_t (wS (wS (wR ?_))))
 refine q_v hk (w_mv rfl) fun a hk => ?_
 refine q_v hk (w_ne rfl rfl (decide_eq_false (by decide))) fun a hk => ?_
 refine c_end (x_t ?_)
 refine c_F hk rfl ?_
 refine (wpIn_skip (x_t ?_))
 refine wS (wR ?_)
 refine q_v hk (w_mv rfl) fun a hk => ?_
 refine q_v hk (w_iaL (k := 0) rfl rfl Tryz.underlying22 ty53 ((share_lst hS).at_ hs) (by omega) (by omega)) fun a hk => ?_
 refine q_v hk (w_fa rfl fq53_0 ty3) fun a hk => ?_
 refine q_v hk (w_ld1 rfl ty3 (ic_eq (g.F 0 g.m0) (lstf (k := 0) (o := 0) (m := 1) ((share_lst hS).at_ hs) (by omega) (en_chunk shc_len (by omega)) rfl))) fun a hk => ?_
 refine q_call (caps := []) hk rfl rfl Tryz.func85 fo85 rfl rfl (get_c s _ ((hG).at_ hs)) ?_
 rintro _ w ⟨rfl, hb⟩
 have hs := hs.below hb
 refine ⟨_, rfl, fun a hk => ?_⟩
 refine q_v hk (w_mv rfl) fun a hk => ?_
 refine q_v hk (w_ext rfl rfl) fun a hk => ?_
 refine q_v hk (w_ext rfl rfl) fun a hk => ?_
 refine q_alc (vs := [.int .i64 0, .int .u64 0, .int .u64 0, .int .u64 0, .int .u64 0, .int .u64 0, .int .u64 0, .int .u64 0, .int .u64 0, .int .u64 0, .int .u64 0, .int .u64 0, .int .u64 0, .int .u64 0]) hk hs zr120 rfl rfl rfl fun b4 w a hk hs => ?_
 refine q_sto (o := 0) (cs := fieldL s) (vs' := fieldL s) hk hs rfl rfl rfl ty120 rfl rfl rfl rfl rfl rfl fun w hs => ?_
 refine q_v hk (w_as rfl) fun a hk => ?_
 refine c_end (x_t (wS ?_))
 have hL := okL.cons (hs.mi 0 rfl) (okL.cons ((share_lst hS).at_ hs) okL.nil)
 refine d_begin _ 11 (by kernel_rfl) rfl hs hL fun w hs hL => ?_
 refine d_w 0 1 hk hL rfl (fun w hL => w_ldA rfl ty120 (.blk (n := 14) (hL.at 0 rfl) rfl) rfl) fun a hk => ?_
 refine d_w 1 3 hk hL rfl (fun w hL => w_mv rfl) fun a hk => ?_
 refine d_w 2 7 hk hL rfl (fun w hL => w_mv rfl) fun a hk => ?_
 refine d_w 3 15 hk hL rfl (fun w hL => w_iaL (k := 0) rfl rfl Tryz.underlying22 ty53 (hL.at 1 rfl) (by omega) (by omega)) fun a hk => ?_
 refine d_w 4 31 hk hL rfl (fun w hL => w_fa rfl fq53_3 ty3) fun a hk => ?_
 refine d_w 5 63 hk hL rfl (fun w hL => w_ld1 rfl ty3 (lstf (k := 0) (o := 3) (m := 1) (hL.at 1 rfl) (by omega) (en_chunk shc_len (by omega)) rfl)) fun a hk => ?_
 refine d_1 6 127 rfl (by kernel_rfl) fun K hK => ?_
 refine q_call (caps := []) hk rfl rfl Tryz.func86 fo86 rfl rfl (joinQ s _ (S 0).n _ (S 0).L (valN s S (thN S)) _ (row_lst (hs.mi 2 rfl)) (fun i _ => (valZ s S (thN S) i).isLt)) ?_
 rintro _ w ⟨a1_6, k1_6b, c1_6c, rfl, hS⟩
 have hs := hs.call1 hS
 clear hS
 refine ⟨_, rfl, fun a hk => ?_⟩
 have hL := okL.cons (hs.mi 1 rfl) (okL.cons ((share_lst hS).at_ hs) okL.nil)
 refine c_end (x_t (hK _ _ hL ?_))
 clear hK K
 refine d_w 7 255 hk hL rfl (fun w hL => w_ext rfl rfl) fun a hk => ?_
 refine d_w 8 511 hk hL rfl (fun w hL => w_ext rfl rfl) fun a hk => ?_
 refine d_w 9 1023 hk hL rfl (fun w hL => w_as rfl) fun a hk => ?_
 refine d_w 10 2047 hk hL rfl (fun w hL => w_as rfl) fun a hk => ?_
 refine d_end (by kernel_rfl) ?_
 refine (x_t ?_)
 refine (wpIn_ret ?_)
 refine c_ret2 hk rfl rfl rfl ?_
 have hs := hs.up1
 have hs := hs.drop
 have hs := hs.up2
 have hs := hs.drop
 have hs := hs.up1
 exact ⟨_, _, _, _, rfl, hT, hs⟩
end Go.Proofs.YtdnkkbmpefhbjaaGreatDoor
namespace Go.Proofs.YtdnkkbmpefhbjaaGreatDoor
set_option linter.all false
open Go Go.RowKit Alg
theorem Good.pol_val {s : Bool} {S : Nat → Shr} {m : Nat} (g : Good s S m) (k : Nat) : zv (polF s S (thN S) k 0) = valN s S (thN S) k := by
  have ht := g.th_le
  unfold polF valN valZ zv
  rw [dot_itp _ ht.1, itp_rip (g.fap.le ht.2) (by omega)]
theorem rvalues_bad (m lc : Nat) (la : Option Addr) (S : Nat → Shr) (W : World) (HS : (shareR la m lc S).ok W) (HO : ShOk S m) (hz : csErr S m ≠ 0) : Calls Tryz.prog 42 [.slice la m lc].toArray W fun e w => e = .returned (.tuple #[.slice none 0 0, .int .i64 (csErr S m)]) ∧ Below W.heap.size W w := by
 refine c_enter (args := [.slice la m lc]) Tryz.func42 rfl rfl rfl fun a hk => ?_
 have hs := Sat.start W [shareR la m lc S] (okr1 HS)
 refine wS (wR ?_)
 refine q_v hk (w_as rfl) fun a hk => ?_
 refine q_v hk (w_as rfl) fun a hk => ?_
 refine c_end (x_t (wS (wR ?_)))
 refine q_v hk (w_mv rfl) fun a hk => ?_
 refine q_call (caps := []) hk rfl rfl Tryz.func18 fo18 rfl rfl (refCkShares_c m lc la S _ ((HasR.nth 0 rfl : HasR (shareR la m lc S) _).at_ hs) HO) ?_
 rintro _ w ⟨rfl, hb⟩
 have hs := hs.below hb
 refine ⟨_, rfl, fun a hk => ?_⟩
 refine q_v hk (w_as rfl) fun a hk => ?_
 refine c_end (x_t (wS (wS (wR ?_))))
 refine q_v hk (w_mv rfl) fun a hk => ?_
 refine q_v hk (w_ne rfl rfl (decide_eq_true (by omega))) fun a hk => ?_
 refine c_end (x_t ?_)
 refine c_T hk rfl ?_
 refine wS (wR ?_)
 refine q_v hk (w_mv rfl) fun a hk => ?_
 refine q_v hk (w_as rfl) fun a hk => ?_
 refine q_v hk (w_as rfl) fun a hk => ?_
 refine c_end (x_t ?_)
 refine (wpIn_ret (x_tr ?_))
 refine c_ret2 hk rfl rfl rfl ?_
 exact ⟨rfl, hs.toBelow⟩
theorem rvalues_c (s : Bool) (m lc : Nat) (la : Option Addr) (S : Nat → Shr) (W : World) (HS : (shareR la m lc S).ok W) (HO : ShOk S m) (g : Good s S m) (hz : csErr S m = 0) (hm : m ≤ 255) (hn9 : (S 0).n ≤ 4) : Calls Tryz.prog 42 [.slice la m lc].toArray W fun e w => ∃ a c, e = .returned (.tuple #[.slice a (S 0).n c, .int .i64 0]) ∧ Sat no W [row 47 4 (.slice a (S 0).n c) (S 0).n (en vq (fun i => valN s S (thN S) i) (S 0).n)] [] w := by
 have hth := g.th_le
 refine c_enter (args := [.slice la m lc]) Tryz.func42 rfl rfl rfl fun a hk => ?_
 have hs := Sat.start W [shareR la m lc S] (okr1 HS)
 refine wS (wR ?_)
 refine q_v hk (w_as rfl) fun a hk => ?_
 refine q_v hk (w_as rfl) fun a hk => ?_
 refine c_end (x_t (wS (wR ?_)))
 refine q_v hk (w_mv rfl) fun a hk => ?_
 refine q_call (caps := []) hk rfl rfl Tryz.func18 fo18 rfl rfl (refCkShares_c m lc la S _ ((HasR.nth 0 rfl : HasR (shareR la m lc S) _).at_ hs) HO) ?_
 rintro _ w ⟨rfl, hb⟩
 have hs := hs.below hb
 refine ⟨_, rfl, fun a hk => ?_⟩
 refine q_v hk (w_as rfl) fun a hk => ?_
 refine c_end (x_t (wS (wS (wR ?_))))
 refine q_v hk (w_mv rfl) fun a hk => ?_
 refine q_v hk (w_ne rfl rfl (decide_eq_false (fun h => h hz))) fun a hk => ?_
 refine c_end (x_t ?_)
 refine c_F hk rfl ?_
 refine (wpIn_skip (x_t ?_))
 refine wS (wR ?_)
 refine q_v hk (w_as rfl) fun a hk => ?_
 refine c_end (x_t (wS (wR ?_)))
 refine q_v hk (w_mv rfl) fun a hk => ?_
 refine q_call (caps := []) hk rfl rfl Tryz.func50 fo50 rfl rfl (rpoly_c s m lc la S _ ((HasR.nth 0 rfl : HasR (shareR la m lc S) _).at_ hs) g hm hn9) ?_
 rintro _ w ⟨ob1, a2, c3, rfl, hS⟩
 have hs := hs.call2 hS
 clear hS
 refine ⟨_, rfl, fun a hk => ?_⟩
 refine q_v hk (w_as rfl) fun a hk => ?_
 refine c_end (x_t (wS (wS (wR ?_))))
 refine q_v hk (w_as rfl) fun a hk => ?_
 refine c_end (x_t ?_)
 refine wpIn_block ?_
 have hs := hs.row0 47 4
 refine c_loop (α := Nat) (fun k a w => ∃ (ao : Option Addr) (co : Nat), k ≤ (S 0).n ∧ Kn [] 31 [(7, .int .i64 (k : Int)), (5, .slice ao k co), (6, .slice a2 ((S 0).n) c3), (3, .int .i64 0), (2, .slice none 0 0)] a ∧ Sat no W [row 47 4 (.slice ao k co) k (en vq (fun i => zv (polF s S (thN S) i 0)) k), row 72 1 (.slice a2 ((S 0).n) c3) ((S 0).n) (en plc (fun i => (ob1 i, (thN S))) ((S 0).n)), polB 47 (thN S) ob1 (polF s S (thN S)) (S 0).n] [shareR la m lc S] w) (fun k => (S 0).n - k) 0 ?_ ?_
 · exact ⟨_, _, (by omega), hk.k rfl (hk.k rfl (hk.k rfl (hk.k rfl (hk.k rfl hk.nil)))), hs⟩
 rintro k a w ⟨ao, co, hf0, hk, hs⟩
 refine wS (wS (wR ?_))
 refine q_v hk (w_mv rfl) fun a hk => ?_
 refine q_v hk (w_mv rfl) fun a hk => ?_
 refine q_v hk (w_len rfl Tryz.underlying84) fun a hk => ?_
 rcases Classical.em ((k : Int) < (((S 0).n : Nat) : Int)) with hc4 | hc4
 ·
  have hlt : k < (S 0).n := by omega
  refine q_v hk (w_lt rfl rfl (decide_eq_true hc4)) fun a hk => ?_
  refine c_end (x_t ?_)
  refine c_T hk rfl ?_
  refine (wpIn_skip (x_t ?_))
  refine wS ?_
  refine wpIn_block ?_
  refine wR ?_
  refine q_v hk (w_mv rfl) fun a hk => ?_
  refine q_v hk (w_mv rfl) fun a hk => ?_
  refine q_v hk (w_mv rfl) fun a hk => ?_
  refine q_v hk (w_iaL (k := k) rfl rfl Tryz.underlying84 ty72 (row_lst (hs.mi 1 rfl)) (by omega) (by omega)) fun a hk => ?_
  refine q_v hk (w_ld1 rfl ty72 (lstq (k := k) (row_lst (hs.mi 1 rfl)) (by omega) (en_chunk plc_len (by omega)))) fun a hk => ?_
  refine q_v hk (w_iaL (k := 0) rfl rfl Tryz.underlying72 ty47 ((pol_lst (k := k) (hs.mi 2 rfl) (by omega))) (by omega) (by omega)) fun a hk => ?_
  refine q_v hk (w_ldv (z := zv (polF s S (thN S) k 0)) rfl ty47 (lstq (k := 0) ((pol_lst (k := k) (hs.mi 2 rfl) (by omega))) (by omega) (en_chunk vq_len (by omega)))) fun a hk => ?_
  refine q_bsl (els := [.tmp 27]) (cs := [.int .u64 ((dg 0 (zv (polF s S (thN S) k 0)) : Nat) : Int), .int .u64 ((dg 1 (zv (polF s S (thN S) k 0)) : Nat) : Int), .int .u64 ((dg 2 (zv (polF s S (thN S) k 0)) : Nat) : Int), .int .u64 ((dg 3 (zv (polF s S (thN S) k 0)) : Nat) : Int)]) hk hs rfl Tryz.underlying72 ty47 zr47 rfl rfl rfl rfl rfl rfl rfl fun b5 w a hk hs => ?_
  have hs := hs.up1
  refine q_app (news := [.int .u64 ((dg 0 (zv (polF s S (thN S) k 0)) : Nat) : Int), .int .u64 ((dg 1 (zv (polF s S (thN S) k 0)) : Nat) : Int), .int .u64 ((dg 2 (zv (polF s S (thN S) k 0)) : Nat) : Int), .int .u64 ((dg 3 (zv (polF s S (thN S) k 0)) : Nat) : Int)]) (m := 1) hk hs rfl rfl Tryz.underlying72 ty47 zr47 rfl rfl (.blk (n := 4) (hs.mi 1 rfl) rfl) rfl rfl (by omega) (by omega) rfl rfl fun a6 c7 w a hk hs => ?_
  have hs := hs.up1
  have hs := hs.drop
  refine q_v hk (w_as rfl) fun a hk => ?_
  refine (c_end (x_b (x_t ?_)))
  refine wR ?_
  refine q_v hk (w_mv rfl) fun a hk => ?_
  refine q_v hk (w_add rfl rfl (wr64 (by omega) (by omega))) fun a hk => ?_
  refine q_v hk (w_as rfl) fun a hk => ?_
  refine c_end (x_t ?_)
  have hs := hs.rw0 (congrArg _ en_succ)
  exact ⟨k + 1, ⟨_, _, (by omega), hk.k rfl (hk.k rfl (hk.k rfl (hk.k rfl (hk.k rfl hk.nil)))), hs⟩, by omega⟩
 ·
  refine q_v hk (w_lt rfl rfl (decide_eq_false hc4)) fun a hk => ?_
  refine c_end (x_t ?_)
  refine c_F hk rfl ?_
  refine (wpIn_exit (x_te (x_te (x_be ?_))))
  refine (x_t ?_)
  refine wS (wR ?_)
  refine q_v hk (w_mv rfl) fun a hk => ?_
  refine q_v hk (w_as rfl) fun a hk => ?_
  refine q_v hk (w_as rfl) fun a hk => ?_
  refine c_end (x_t ?_)
  refine (wpIn_ret ?_)
  refine c_ret2 hk rfl rfl rfl ?_
  have hs := hs.up1
  have hs := hs.drop
  have hs := hs.up1
  have hs := hs.drop
  have hkn : k = (S 0).n := by omega
  rw [hkn] at hs ⊢
  rw [show en vq (fun i => zv (polF s S (thN S) i 0)) (S 0).n = en vq (fun i => valN s S (thN S) i) (S 0).n from en_congr fun i _ => g.pol_val i] at hs
  exact ⟨_, _, rfl, hs.fin⟩
theorem rcomb_bad (m lc : Nat) (la : Option Addr) (S : Nat → Shr) (W : World) (HS : (shareR la m lc S).ok W) (HO : ShOk S m) (hz : csErr S m ≠ 0) : Calls Tryz.prog 45 [.slice la m lc].toArray W fun e w => e = .returned (.tuple #[.slice none 0 0, .int .i64 (csErr S m)]) ∧ Below W.heap.size W w := by
 refine c_enter (args := [.slice la m lc]) Tryz.func45 rfl rfl rfl fun a hk => ?_
 have hs := Sat.start W [shareR la m lc S] (okr1 HS)
 refine wS (wR ?_)
 refine q_v hk (w_as rfl) fun a hk => ?_
 refine q_v hk (w_as rfl) fun a hk => ?_
 refine c_end (x_t (wS (wR ?_)))
 refine q_v hk (w_mv rfl) fun a hk => ?_
 refine q_call (caps := []) hk rfl rfl Tryz.func42 fo42 rfl rfl (rvalues_bad m lc la S _ ((HasR.nth 0 rfl : HasR (shareR la m lc S) _).at_ hs) HO hz) ?_
 rintro _ w ⟨rfl, hb⟩
 have hs := hs.below hb
 refine ⟨_, rfl, fun a hk => ?_⟩
 refine q_v hk (w_mv rfl) fun a hk => ?_
 refine q_v hk (w_ext rfl rfl) fun a hk => ?_
 refine q_v hk (w_ext rfl rfl) fun a hk => ?_
 refine q_v hk (w_as rfl) fun a hk => ?_
 refine q_v hk (w_as rfl) fun a hk => ?_
 refine c_end (x_t (wS (wS (wR ?_))))
 refine q_v hk (w_mv rfl) fun a hk => ?_
 refine q_v hk (w_ne rfl rfl (decide_eq_true (by omega))) fun a hk => ?_
 refine c_end (x_t ?_)
 refine c_T hk rfl ?_
 refine wS (wR ?_)
 refine q_v hk (w_mv rfl) fun a hk => ?_
 refine q_v hk (w_as rfl) fun a hk => ?_
 refine q_v hk (w_as rfl) fun a hk => ?_
 refine c_end (x_t ?_)
 refine (wpIn_ret (x_tr ?_))
 refine c_ret2 hk rfl rfl rfl ?_
 exact ⟨rfl, hs.toBelow⟩
theorem rcomb_c (s : Bool) (m lc : Nat) (la : Option Addr) (S : Nat → Shr) (W : World) (HS : (shareR la m lc S).ok W) (HO : ShOk S m) (g : Good s S m) (hz : csErr S m = 0) (hm : m ≤ 255) (hn9 : (S 0).n ≤ 4) : Calls Tryz.prog 45 [.slice la m lc].toArray W fun e w => ∃ a k c, e = .returned (.tuple #[.slice a k c, .int .i64 (jErr (S 0).n (S 0).L (valN s S (thN S)))]) ∧ Sat no W [row 5 1 (.slice a k c) k (el bc (jBytes (S 0).n (S 0).L (valN s S (thN S))))] [] w := by
 have hm0 := g.m0
 refine c_enter (args := [.slice la m lc]) Tryz.func45 rfl rfl rfl fun a hk => ?_
 have hs := Sat.start W [shareR la m lc S] (okr1 HS)
 refine wS (wR ?_)
 refine q_v hk (w_as rfl) fun a hk => ?_
 refine q_v hk (w_as rfl) fun a hk => ?_
 refine c_end (x_t (wS (wR ?_)))
 refine q_v hk (w_mv rfl) fun a hk => ?_
 refine q_call (caps := []) hk rfl rfl Tryz.func42 fo42 rfl rfl (rvalues_c s m lc la S _ ((HasR.nth 0 rfl : HasR (shareR la m lc S) _).at_ hs) HO g hz hm hn9) ?_
 rintro _ w ⟨a1, c2, rfl, hS⟩
 have hs := hs.call1 hS
 clear hS
 refine ⟨_, rfl, fun a hk => ?_⟩
 refine q_v hk (w_mv rfl) fun a hk => ?_
 refine q_v hk (w_ext rfl rfl) fun a hk => ?_
 refine q_v hk (w_ext rfl rfl) fun a hk => ?_
 refine q_v hk (w_as rfl) fun a hk => ?_
 refine q_v hk (w_as rfl) fun a hk => ?_
 refine c_end (x_t (wS (wS (wR ?_))))
 refine q_v hk (w_mv rfl) fun a hk => ?_
 refine q_v hk (w_ne rfl rfl (decide_eq_false (by decide))) fun a hk => ?_
 refine c_end (x_t ?_)
 refine c_F hk rfl ?_
 refine (wpIn_skip (x_t ?_))
 refine wS (wR ?_)
 refine q_v hk (w_mv rfl) fun a hk => ?_
 refine q_v hk (w_mv rfl) fun a hk => ?_
 refine q_v hk (w_iaL (k := 0) rfl rfl Tryz.underlying22 ty53 ((share_lst (HasR.nth 0 rfl : HasR (shareR la m lc S) _)).at_ hs) (by omega) (by omega)) fun a hk => ?_
 refine q_v hk (w_fa rfl fq53_3 ty3) fun a hk => ?_
 refine q_v hk (w_ld1 rfl ty3 (lstf (k := 0) (o := 3) (m := 1) ((share_lst (HasR.nth 0 rfl : HasR (shareR la m lc S) _)).at_ hs) (by omega) (en_chunk shc_len (by omega)) rfl)) fun a hk => ?_
 refine q_call (caps := []) hk rfl rfl Tryz.func87 fo87 rfl rfl (refJoinQ a1 ((S 0).n) c2 (S 0).L (valN s S (thN S)) _ (row_lst (hs.mi 0 rfl))) ?_
 rintro _ w ⟨a3, k4, c5, rfl, hS⟩
 have hs := hs.call1 hS
 clear hS
 refine ⟨_, rfl, fun a hk => ?_⟩
 refine q_v hk (w_ext rfl rfl) fun a hk => ?_
 refine q_v hk (w_ext rfl rfl) fun a hk => ?_
 refine q_v hk (w_as rfl) fun a hk => ?_
 refine q_v hk (w_as rfl) fun a hk => ?_
 refine c_end (x_t ?_)
 refine (wpIn_ret ?_)
 refine c_ret2 hk rfl rfl rfl ?_
 have hs := hs.up1
 have hs := hs.drop
 exact ⟨_, _, _, rfl, hs.fin⟩
theorem rpay_c (s : Bool) (q pc n ix : Nat) (pa : Option Addr) (ob : Nat → Nat) (F : Nat → Nat → Zp s) (W : World) (HP : LstAt W 1 (.slice pa q pc) q (en plc (fun i => (ob i, n)) q)) (HB : (polB 47 n ob F q).ok W) (hix : ix ≤ 255) (hq : q ≤ 100000) (hn : n ≤ 1000) : Calls Tryz.prog 49 [vec (pr s), .slice pa q pc, .int .i64 ((ix : Nat) : Int)].toArray W fun e w => ∃ a c, e = .returned (.slice a q c) ∧ Sat no W [row 56 4 (.slice a q c) q (en vq (fun i => mq (rEv (F i) (zn s ix) n)) q)] [] w := by
 refine c_enter (args := [vec (pr s), .slice pa q pc, .int .i64 ((ix : Nat) : Int)]) Tryz.func49 rfl rfl rfl fun a hk => ?_
 have hs := Sat.start W [lst 1 (.slice pa q pc) q (en plc (fun i => (ob i, n)) q), polB 47 n ob F q] (okrc HP (okr1 HB))
 refine wS (wR ?_)
 refine q_box (vs := [.int .u64 ((dg 0 (pr s) : Nat) : Int), .int .u64 ((dg 1 (pr s) : Nat) : Int), .int .u64 ((dg 2 (pr s) : Nat) : Int), .int .u64 ((dg 3 (pr s) : Nat) : Int)]) hk hs rfl rfl rfl rfl fun b1 w a hk hs => ?_
 refine q_v hk (w_as rfl) fun a hk => ?_
 refine c_end (x_t (wS (wR ?_)))
 refine q_v hk (w_as rfl) fun a hk => ?_
 refine c_end (x_t (wS (wS (wR ?_))))
 refine q_v hk (w_as rfl) fun a hk => ?_
 refine c_end (x_t ?_)
 refine wpIn_block ?_
 have hs := hs.row0 56 4
 refine c_loop (α := Nat) (fun k a w => ∃ (ao : Option Addr) (co : Nat), k ≤ q ∧ Kn [] 31 [(8, .int .i64 (k : Int)), (7, .slice ao k co), (6, .slice none 0 0), (3, .pointer (some ⟨b1, 0, none⟩)), (1, .slice pa q pc), (2, .int .i64 ((ix : Nat) : Int))] a ∧ Sat no W [row 56 4 (.slice ao k co) k (en vq (fun i => mq (rEv (F i) (zn s ix) n)) k), blk b1 [.int .u64 ((dg 0 (pr s) : Nat) : Int), .int .u64 ((dg 1 (pr s) : Nat) : Int), .int .u64 ((dg 2 (pr s) : Nat) : Int), .int .u64 ((dg 3 (pr s) : Nat) : Int)] 47] [lst 1 (.slice pa q pc) q (en plc (fun i => (ob i, n)) q), polB 47 n ob F q] w) (fun k => q - k) 0 ?_ ?_
 · exact ⟨_, _, (by omega), hk.k rfl (hk.k rfl (hk.k rfl (hk.k rfl (hk.k rfl (hk.k rfl hk.nil))))), hs⟩
 rintro k a w ⟨ao, co, hf0, hk, hs⟩
 refine wS (wS (wR ?_))
 refine q_v hk (w_mv rfl) fun a hk => ?_
 refine q_v hk (w_mv rfl) fun a hk => ?_
 refine q_v hk (w_len rfl Tryz.underlying84) fun a hk => ?_
 rcases Classical.em ((k : Int) < ((q : Nat) : Int)) with hc2 | hc2
 ·
  have hlt : k < q := by omega
  refine q_v hk (w_lt rfl rfl (decide_eq_true hc2)) fun a hk => ?_
  refine c_end (x_t ?_)
  refine c_T hk rfl ?_
  refine (wpIn_skip (x_t ?_))
  refine wS ?_
  refine wpIn_block ?_
  refine wS ?_
  have hL := okL.cons (hs.mi 1 rfl) (okL.cons (hs.ri 0 rfl) okL.nil)
  refine d_begin _ 10 (by kernel_rfl) rfl hs hL fun w hs hL => ?_
  refine d_join (n2 := 1) 511 (fun a w => ∃ (b1_8 : Nat), Kn [] 31 [(9, .pointer (some ⟨b1_8, 0, none⟩)), (23, vec (zv (rEv (F k) (zn s ix) n))), (22, vec (zv (zn s ix))), (21, .int .i64 ((ix : Nat) : Int)), (20, .slice (some ⟨ob k, 0, none⟩) n n), (19, .pointer (some ((adq pa).add (k * 1)))), (18, .int .i64 (k : Int)), (17, .slice pa q pc), (16, vec (pr s)), (13, .bool true), (12, .int .i64 ((q : Nat) : Int)), (11, .slice pa q pc), (10, .int .i64 (k : Int)), (8, .int .i64 (k : Int)), (7, .slice ao k co), (6, .slice none 0 0), (3, .pointer (some ⟨b1, 0, none⟩)), (1, .slice pa q pc), (2, .int .i64 ((ix : Nat) : Int))] a ∧ Sat no W [blk b1_8 [.int .u64 0, .int .u64 0, .int .u64 0, .int .u64 0] 47, row 56 4 (.slice ao k co) k (en vq (fun i => mq (rEv (F i) (zn s ix) n)) k), blk b1 [.int .u64 ((dg 0 (pr s) : Nat) : Int), .int .u64 ((dg 1 (pr s) : Nat) : Int), .int .u64 ((dg 2 (pr s) : Nat) : Int), .int .u64 ((dg 3 (pr s) : Nat) : Int)] 47] [lst 1 (.slice pa q pc) q (en plc (fun i => (ob i, n)) q), polB 47 n ob F q] w ∧ okL [blk b1 [.int .u64 ((dg 0 (pr s) : Nat) : Int), .int .u64 ((dg 1 (pr s) : Nat) : Int), .int .u64 ((dg 2 (pr s) : Nat) : Int), .int .u64 ((dg 3 (pr s) : Nat) : Int)] 47, lst 1 (.slice pa q pc) q (en plc (fun i => (ob i, n)) q)] w) ?_ ?_
  ·
   intro hJ511
   refine d_join (n2 := 2) 383 (fun a w => ∃ (b1_8 : Nat), Kn [] 31 [(9, .pointer (some ⟨b1_8, 0, none⟩)), (22, vec (zv (zn s ix))), (21, .int .i64 ((ix : Nat) : Int)), (20, .slice (some ⟨ob k, 0, none⟩) n n), (19, .pointer (some ((adq pa).add (k * 1)))), (18, .int .i64 (k : Int)), (17, .slice pa q pc), (16, vec (pr s)), (13, .bool true), (12, .int .i64 ((q : Nat) : Int)), (11, .slice pa q pc), (10, .int .i64 (k : Int)), (8, .int .i64 (k : Int)), (7, .slice ao k co), (6, .slice none 0 0), (3, .pointer (some ⟨b1, 0, none⟩)), (1, .slice pa q pc), (2, .int .i64 ((ix : Nat) : Int))] a ∧ Sat no W [blk b1_8 [.int .u64 0, .int .u64 0, .int .u64 0, .int .u64 0] 47, row 56 4 (.slice ao k co) k (en vq (fun i => mq (rEv (F i) (zn s ix) n)) k), blk b1 [.int .u64 ((dg 0 (pr s) : Nat) : Int), .int .u64 ((dg 1 (pr s) : Nat) : Int), .int .u64 ((dg 2 (pr s) : Nat) : Int), .int .u64 ((dg 3 (pr s) : Nat) : Int)] 47] [lst 1 (.slice pa q pc) q (en plc (fun i => (ob i, n)) q), polB 47 n ob F q] w ∧ okL [blk b1 [.int .u64 ((dg 0 (pr s) : Nat) : Int), .int .u64 ((dg 1 (pr s) : Nat) : Int), .int .u64 ((dg 2 (pr s) : Nat) : Int), .int .u64 ((dg 3 (pr s) : Nat) : Int)] 47, lst 1 (.slice pa q pc) q (en plc (fun i => (ob i, n)) q)] w) ?_ ?_
   ·
    intro hJ383
    refine d_w 0 1 hk hL rfl (fun w hL => w_ldv (z := pr s) rfl ty47 (.blk (n := 4) (hL.at 0 rfl) rfl)) fun a hk => ?_
    refine d_w 1 3 hk hL rfl (fun w hL => w_mv rfl) fun a hk => ?_
    refine d_w 2 7 hk hL rfl (fun w hL => w_mv rfl) fun a hk => ?_
    refine d_w 3 15 hk hL rfl (fun w hL => w_iaL (k := k) rfl rfl Tryz.underlying84 ty72 (hL.at 1 rfl) (by omega) (by omega)) fun a hk => ?_
    refine d_w 4 31 hk hL rfl (fun w hL => w_ld1 rfl ty72 (lstq (k := k) (hL.at 1 rfl) (by omega) (en_chunk plc_len (by omega)))) fun a hk => ?_
    refine d_w 5 63 hk hL rfl (fun w hL => w_mv rfl) fun a hk => ?_
    refine d_2 6 8 127 319 rfl rfl (by kernel_rfl) (fun K hK => ?_) (fun K hK => ?_)
    ·
     refine q_call (caps := []) hk rfl rfl Tryz.func93 fo93 rfl rfl (rpoint_z s ix _ hix) ?_
     rintro _ w ⟨rfl, hb⟩
     have hs := hs.below hb
     refine ⟨_, rfl, fun a hk => ?_⟩
     have hL := okL.cons (hs.mi 1 rfl) (okL.cons (hs.ri 0 rfl) okL.nil)
     refine c_end (x_t (hK _ _ hL ?_))
     clear hK K
     refine d_2 7 8 255 383 rfl rfl (by kernel_rfl) (fun K hK => ?_) (fun K hK => ?_)
     ·
      refine q_call (caps := []) hk rfl rfl Tryz.func92 fo92 rfl rfl (reval_z s n n _ (F k) (zn s ix) _ ((pol_lst (k := k) (hs.ri 1 rfl) (by omega))) (by omega)) ?_
      rintro _ w ⟨rfl, hb⟩
      have hs := hs.below hb
      refine ⟨_, rfl, fun a hk => ?_⟩
      have hL := okL.cons (hs.mi 1 rfl) (okL.cons (hs.ri 0 rfl) okL.nil)
      refine c_end (x_t (hK _ _ hL ?_))
      clear hK K
      refine d_1 8 511 rfl (by kernel_rfl) fun K hK => ?_
      refine q_alc (vs := [.int .u64 0, .int .u64 0, .int .u64 0, .int .u64 0]) hk hs zr47 rfl rfl rfl fun b1_8 w a hk hs => ?_
      have hL := okL.cons (hs.mi 2 rfl) (okL.cons (hs.ri 0 rfl) okL.nil)
      refine c_end (x_t (hK _ _ hL ?_))
      clear hK K
      have hL := okL.cons (hs.mi 2 rfl) (okL.cons (hs.ri 0 rfl) okL.nil)
      exact hJ511 _ _ ⟨_, hk.k rfl (hk.k rfl (hk.k rfl (hk.k rfl (hk.k rfl (hk.k rfl (hk.k rfl (hk.k rfl (hk.k rfl (hk.k rfl (hk.k rfl (hk.k rfl (hk.k rfl (hk.k rfl (hk.k rfl (hk.k rfl (hk.k rfl (hk.k rfl (hk.k rfl hk.nil)))))))))))))))))), hs, hL⟩
     ·
      refine q_alc (vs := [.int .u64 0, .int .u64 0, .int .u64 0, .int .u64 0]) hk hs zr47 rfl rfl rfl fun b1_8 w a hk hs => ?_
      have hL := okL.cons (hs.mi 2 rfl) (okL.cons (hs.ri 0 rfl) okL.nil)
      refine c_end (x_t (hK _ _ hL ?_))
      clear hK K
      have hL := okL.cons (hs.mi 2 rfl) (okL.cons (hs.ri 0 rfl) okL.nil)
      exact hJ383 _ _ ⟨_, hk.k rfl (hk.k rfl (hk.k rfl (hk.k rfl (hk.k rfl (hk.k rfl (hk.k rfl (hk.k rfl (hk.k rfl (hk.k rfl (hk.k rfl (hk.k rfl (hk.k rfl (hk.k rfl (hk.k rfl (hk.k rfl (hk.k rfl (hk.k rfl hk.nil))))))))))))))))), hs, hL⟩
    ·
     refine q_alc (vs := [.int .u64 0, .int .u64 0, .int .u64 0, .int .u64 0]) hk hs zr47 rfl rfl rfl fun b1_8 w a hk hs => ?_
     have hL := okL.cons (hs.mi 2 rfl) (okL.cons (hs.ri 0 rfl) okL.nil)
     refine c_end (x_t (hK _ _ hL ?_))
     clear hK K
     refine d_1 6 383 rfl (by kernel_rfl) fun K hK => ?_
     refine q_call (caps := []) hk rfl rfl Tryz.func93 fo93 rfl rfl (rpoint_z s ix _ hix) ?_
     rintro _ w ⟨rfl, hb⟩
     have hs := hs.below hb
     refine ⟨_, rfl, fun a hk => ?_⟩
     have hL := okL.cons (hs.mi 2 rfl) (okL.cons (hs.ri 0 rfl) okL.nil)
     refine c_end (x_t (hK _ _ hL ?_))
     clear hK K
     have hL := okL.cons (hs.mi 2 rfl) (okL.cons (hs.ri 0 rfl) okL.nil)
     exact hJ383 _ _ ⟨_, hk.k rfl (hk.k rfl (hk.k rfl (hk.k rfl (hk.k rfl (hk.k rfl (hk.k rfl (hk.k rfl (hk.k rfl (hk.k rfl (hk.k rfl (hk.k rfl (hk.k rfl (hk.k rfl (hk.k rfl (hk.k rfl (hk.k rfl (hk.k rfl hk.nil))))))))))))))))), hs, hL⟩
   ·
    rintro a w ⟨b1_8, hk, hs, hL⟩
    refine d_1 7 511 rfl (by kernel_rfl) fun K hK => ?_
    refine q_call (caps := []) hk rfl rfl Tryz.func92 fo92 rfl rfl (reval_z s n n _ (F k) (zn s ix) _ ((pol_lst (k := k) (hs.ri 1 rfl) (by omega))) (by omega)) ?_
    rintro _ w ⟨rfl, hb⟩
    have hs := hs.below hb
    refine ⟨_, rfl, fun a hk => ?_⟩
    have hL := okL.cons (hs.mi 2 rfl) (okL.cons (hs.ri 0 rfl) okL.nil)
    refine c_end (x_t (hK _ _ hL ?_))
    clear hK K
    have hL := okL.cons (hs.mi 2 rfl) (okL.cons (hs.ri 0 rfl) okL.nil)
    exact hJ511 _ _ ⟨_, hk.k rfl (hk.k rfl (hk.k rfl (hk.k rfl (hk.k rfl (hk.k rfl (hk.k rfl (hk.k rfl (hk.k rfl (hk.k rfl (hk.k rfl (hk.k rfl (hk.k rfl (hk.k rfl (hk.k rfl (hk.k rfl (hk.k rfl (hk.k rfl (hk.k rfl hk.nil)))))))))))))))))), hs, hL⟩
  ·
   rintro a w ⟨b1_8, hk, hs, hL⟩
   refine d_1 9 1023 rfl (by kernel_rfl) fun K hK => ?_
   refine q_sto (o := 0) (cs := [.int .u64 ((dg 0 (zv (rEv (F k) (zn s ix) n)) : Nat) : Int), .int .u64 ((dg 1 (zv (rEv (F k) (zn s ix) n)) : Nat) : Int), .int .u64 ((dg 2 (zv (rEv (F k) (zn s ix) n)) : Nat) : Int), .int .u64 ((dg 3 (zv (rEv (F k) (zn s ix) n)) : Nat) : Int)]) (vs' := [.int .u64 ((dg 0 (zv (rEv (F k) (zn s ix) n)) : Nat) : Int), .int .u64 ((dg 1 (zv (rEv (F k) (zn s ix) n)) : Nat) : Int), .int .u64 ((dg 2 (zv (rEv (F k) (zn s ix) n)) : Nat) : Int), .int .u64 ((dg 3 (zv (rEv (F k) (zn s ix) n)) : Nat) : Int)]) hk hs rfl rfl rfl ty47 rfl rfl rfl rfl rfl rfl fun w hs => ?_
   have hL := okL.cons (hs.mi 2 rfl) (okL.cons (hs.ri 0 rfl) okL.nil)
   refine c_end (x_t (hK _ _ hL ?_))
   clear hK K
   refine d_end (by kernel_rfl) ?_
   refine (x_t ?_)
   refine wR ?_
   refine q_v hk (w_mv rfl) fun a hk => ?_
   refine q_v hk (w_ldv (z := pr s) rfl ty47 (.blk (n := 4) (hs.mi 2 rfl) rfl)) fun a hk => ?_
   refine q_v hk (w_ldv (z := zv (rEv (F k) (zn s ix) n)) rfl ty47 (.blk (n := 4) (hs.mi 0 rfl) rfl)) fun a hk => ?_
   refine q_call (caps := []) hk rfl rfl Tryz.func43 fo43 rfl rfl (rform_z (x := rEv (F k) (zn s ix) n) _ rfl) ?_
   rintro _ w ⟨rfl, hb⟩
   have hs := hs.below hb
   refine ⟨_, rfl, fun a hk => ?_⟩
   refine q_bsl (els := [.tmp 27]) (cs := [.int .u64 ((dg 0 (mq (rEv (F k) (zn s ix) n)) : Nat) : Int), .int .u64 ((dg 1 (mq (rEv (F k) (zn s ix) n)) : Nat) : Int), .int .u64 ((dg 2 (mq (rEv (F k) (zn s ix) n)) : Nat) : Int), .int .u64 ((dg 3 (mq (rEv (F k) (zn s ix) n)) : Nat) : Int)]) hk hs rfl Tryz.underlying51 ty56 zr56 rfl rfl rfl rfl rfl rfl rfl fun b3 w a hk hs => ?_
   have hs := hs.up2
   refine q_app (news := [.int .u64 ((dg 0 (mq (rEv (F k) (zn s ix) n)) : Nat) : Int), .int .u64 ((dg 1 (mq (rEv (F k) (zn s ix) n)) : Nat) : Int), .int .u64 ((dg 2 (mq (rEv (F k) (zn s ix) n)) : Nat) : Int), .int .u64 ((dg 3 (mq (rEv (F k) (zn s ix) n)) : Nat) : Int)]) (m := 1) hk hs rfl rfl Tryz.underlying51 ty56 zr56 rfl rfl (.blk (n := 4) (hs.mi 1 rfl) rfl) rfl rfl (by omega) (by omega) rfl rfl fun a4 c5 w a hk hs => ?_
   have hs := hs.up1
   have hs := hs.drop
   refine q_v hk (w_as rfl) fun a hk => ?_
   refine (c_end (x_b (x_t ?_)))
   refine wR ?_
   refine q_v hk (w_mv rfl) fun a hk => ?_
   refine q_v hk (w_add rfl rfl (wr64 (by omega) (by omega))) fun a hk => ?_
   refine q_v hk (w_as rfl) fun a hk => ?_
   refine c_end (x_t ?_)
   have hs := hs.rw0 (congrArg _ en_succ)
   have hs := hs.up1
   have hs := hs.drop
   exact ⟨k + 1, ⟨_, _, (by omega), hk.k rfl (hk.k rfl (hk.k rfl (hk.k rfl (hk.k rfl (hk.k rfl hk.nil))))), hs⟩, by omega⟩
 ·
  refine q_v hk (w_lt rfl rfl (decide_eq_false hc2)) fun a hk => ?_
  refine c_end (x_t ?_)
  refine c_F hk rfl ?_
  refine (wpIn_exit (x_te (x_te (x_be ?_))))
  refine (x_t ?_)
  refine wS (wR ?_)
  refine q_v hk (w_mv rfl) fun a hk => ?_
  refine q_v hk (w_as rfl) fun a hk => ?_
  refine c_end (x_t ?_)
  refine (wpIn_ret ?_)
  refine c_ret1 hk rfl rfl ?_
  have hs := hs.up1
  have hs := hs.drop
  have hkq : k = q := by omega
  rw [hkq] at hs ⊢
  exact ⟨_, _, rfl, hs.fin⟩
end Go.Proofs.YtdnkkbmpefhbjaaGreatDoor
namespace Go.Proofs.YtdnkkbmpefhbjaaGreatDoor
set_option linter.all false
open Go Go.RowKit Alg
theorem same16_c (m lc yc : Nat) (la ya : Option Addr) (S S2 : Nat → Shr) (W : World) (HS : (shareR la m lc S).ok W) (HY : (shareR ya m yc S2).ok W) (hm : m ≤ 1000) (hn : ∀ k, k < m → (S k).n ≤ 1000) (hh : ∀ k, k < m → (S k).F = (S2 k).F ∧ (S k).T = (S2 k).T ∧ (S k).I = (S2 k).I ∧ (S k).L = (S2 k).L ∧ (S k).n = (S2 k).n) (hx : ∀ k, k < m → ∀ i, i < (S k).n → (S k).X i = (S2 k).X i) (hb : ∀ k, k < m → ∀ i, i < (S k).n → (S k).X i < R4) : Calls Tryz.prog 48 [.slice la m lc, .slice ya m yc].toArray W fun e w => e = .returned (.bool true) ∧ Below W.heap.size W w := by
 refine c_enter (args := [.slice la m lc, .slice ya m yc]) Tryz.func48 rfl rfl rfl fun a hk => ?_
 have hs := Sat.start W [shareR la m lc S, shareR ya m yc S2] (okrc HS (okr1 HY))
 refine wS (wR ?_)
 refine q_v hk (w_as rfl) fun a hk => ?_
 refine c_end (x_t (wS (wS (wR ?_))))
 refine q_v hk (w_mv rfl) fun a hk => ?_
 refine q_v hk (w_len rfl Tryz.underlying22) fun a hk => ?_
 refine q_v hk (w_mv rfl) fun a hk => ?_
 refine q_v hk (w_len rfl Tryz.underlying22) fun a hk => ?_
 refine q_v hk (w_ne rfl rfl (decide_eq_false (by omega))) fun a hk => ?_
 refine c_end (x_t ?_)
 refine c_F hk rfl ?_
 refine (wpIn_skip (x_t ?_))
 refine wS (wS (wR ?_))
 refine q_v hk (w_as rfl) fun a hk => ?_
 refine c_end (x_t ?_)
 refine wpIn_block ?_
 refine c_loop (α := Nat) (fun k a w => k ≤ m ∧ Kn [] 81 [(5, .int .i64 ((k : Nat) : Int)), (0, .slice la m lc), (1, .slice ya m yc)] a ∧ Sat no W [] [shareR la m lc S, shareR ya m yc S2] w) (fun k => m - k) 0 ?_ ?_
 · exact ⟨(by omega), hk.k rfl (hk.k rfl (hk.k rfl hk.nil)), hs⟩
 rintro k a w ⟨hf0, hk, hs⟩
 refine wS (wS (wR ?_))
 refine q_v hk (w_mv rfl) fun a hk => ?_
 refine q_v hk (w_mv rfl) fun a hk => ?_
 refine q_v hk (w_len rfl Tryz.underlying22) fun a hk => ?_
 rcases Classical.em (((k : Nat) : Int) < ((m : Nat) : Int)) with hc1 | hc1
 ·
  have hlt : k < m := by omega
  have hnk := hn k hlt
  obtain ⟨h1, h2, h3, h4, h5⟩ := hh k hlt
  refine q_v hk (w_lt rfl rfl (decide_eq_true hc1)) fun a hk => ?_
  refine c_end (x_t ?_)
  refine c_T hk rfl ?_
  refine (wpIn_skip (x_t ?_))
  refine wS ?_
  refine wpIn_block ?_
  refine wS (wR ?_)
  refine q_v hk (w_mv rfl) fun a hk => ?_
  refine q_v hk (w_mv rfl) fun a hk => ?_
  refine q_v hk (w_iaL (k := k) rfl rfl Tryz.underlying22 ty53 ((share_lst (HasR.nth 0 rfl : HasR (shareR la m lc S) _)).at_ hs) (by omega) (by omega)) fun a hk => ?_
  refine q_v hk (w_ldA rfl ty53 (lstq (k := k) ((share_lst (HasR.nth 0 rfl : HasR (shareR la m lc S) _)).at_ hs) (by omega) (en_chunk shc_len (by omega))) rfl) fun a hk => ?_
  refine q_alc (vs := [.int .i64 0, .int .i64 0, .int .i64 0, .int .i64 0, .slice none 0 0]) hk hs zr53 rfl rfl rfl fun b2 w a hk hs => ?_
  refine q_sto (o := 0) (cs := [.int .i64 ((S k).F), .int .i64 ((S k).T), .int .i64 ((S k).I), .int .i64 ((S k).L), .slice ((S k).a) ((S k).n) ((S k).c)]) (vs' := [.int .i64 ((S k).F), .int .i64 ((S k).T), .int .i64 ((S k).I), .int .i64 ((S k).L), .slice ((S k).a) ((S k).n) ((S k).c)]) hk hs rfl rfl rfl ty53 rfl rfl rfl rfl rfl rfl fun w hs => ?_
  refine c_end (x_t (wS (wR ?_)))
  refine q_v hk (w_mv rfl) fun a hk => ?_
  refine q_v hk (w_mv rfl) fun a hk => ?_
  refine q_v hk (w_iaL (k := k) rfl rfl Tryz.underlying22 ty53 ((share_lst (HasR.nth 1 rfl : HasR (shareR ya m yc S2) _)).at_ hs) (by omega) (by omega)) fun a hk => ?_
  refine q_v hk (w_ldA rfl ty53 (lstq (k := k) ((share_lst (HasR.nth 1 rfl : HasR (shareR ya m yc S2) _)).at_ hs) (by omega) (en_chunk shc_len (by omega))) rfl) fun a hk => ?_
  refine q_alc (vs := [.int .i64 0, .int .i64 0, .int .i64 0, .int .i64 0, .slice none 0 0]) hk hs zr53 rfl rfl rfl fun b3 w a hk hs => ?_
  refine q_sto (o := 0) (cs := [.int .i64 ((S2 k).F), .int .i64 ((S2 k).T), .int .i64 ((S2 k).I), .int .i64 ((S2 k).L), .slice ((S2 k).a) ((S2 k).n) ((S2 k).c)]) (vs' := [.int .i64 ((S2 k).F), .int .i64 ((S2 k).T), .int .i64 ((S2 k).I), .int .i64 ((S2 k).L), .slice ((S2 k).a) ((S2 k).n) ((S2 k).c)]) hk hs rfl rfl rfl ty53 rfl rfl rfl rfl rfl rfl fun w hs => ?_
  refine c_end (x_t (wS (wS (wR ?_))))
  refine q_v hk (w_fa rfl fq53_0 ty3) fun a hk => ?_
  refine q_v hk (w_ld1 rfl ty3 (.blk (n := 1) (hs.mi 1 rfl) rfl)) fun a hk => ?_
  refine q_v hk (w_fa rfl fq53_0 ty3) fun a hk => ?_
  refine q_v hk (w_ld1 rfl ty3 (.blk (n := 1) (hs.mi 0 rfl) rfl)) fun a hk => ?_
  refine q_v hk (w_ne rfl rfl (decide_eq_false (fun h => h h1))) fun a hk => ?_
  refine q_v hk (w_mv rfl) fun a hk => ?_
  refine q_v hk (w_fa rfl fq53_1 ty3) fun a hk => ?_
  refine q_v hk (w_ld1 rfl ty3 (.blk (n := 1) (hs.mi 1 rfl) rfl)) fun a hk => ?_
  refine q_v hk (w_fa rfl fq53_1 ty3) fun a hk => ?_
  refine q_v hk (w_ld1 rfl ty3 (.blk (n := 1) (hs.mi 0 rfl) rfl)) fun a hk => ?_
  refine q_v hk (w_ne rfl rfl (decide_eq_false (fun h => h h2))) fun a hk => ?_
  refine q_v hk (w_pickF rfl rfl) fun a hk => ?_
  refine q_v hk (w_mv rfl) fun a hk => ?_
  refine q_v hk (w_fa rfl fq53_2 ty3) fun a hk => ?_
  refine q_v hk (w_ld1 rfl ty3 (.blk (n := 1) (hs.mi 1 rfl) rfl)) fun a hk => ?_
  refine q_v hk (w_fa rfl fq53_2 ty3) fun a hk => ?_
  refine q_v hk (w_ld1 rfl ty3 (.blk (n := 1) (hs.mi 0 rfl) rfl)) fun a hk => ?_
  refine q_v hk (w_ne rfl rfl (decide_eq_false (fun h => h h3))) fun a hk => ?_
  refine q_v hk (w_pickF rfl rfl) fun a hk => ?_
  refine q_v hk (w_mv rfl) fun a hk => ?_
  refine q_v hk (w_fa rfl fq53_3 ty3) fun a hk => ?_
  refine q_v hk (w_ld1 rfl ty3 (.blk (n := 1) (hs.mi 1 rfl) rfl)) fun a hk => ?_
  refine q_v hk (w_fa rfl fq53_3 ty3) fun a hk => ?_
  refine q_v hk (w_ld1 rfl ty3 (.blk (n := 1) (hs.mi 0 rfl) rfl)) fun a hk => ?_
  refine q_v hk (w_ne rfl rfl (decide_eq_false (fun h => h h4))) fun a hk => ?_
  refine q_v hk (w_pickF rfl rfl) fun a hk => ?_
  refine q_v hk (w_mv rfl) fun a hk => ?_
  refine q_v hk (w_fa rfl fq53_4 ty51) fun a hk => ?_
  refine q_v hk (w_ld1 rfl ty51 (.blk (n := 1) (hs.mi 1 rfl) rfl)) fun a hk => ?_
  refine q_v hk (w_len rfl Tryz.underlying51) fun a hk => ?_
  refine q_v hk (w_fa rfl fq53_4 ty51) fun a hk => ?_
  refine q_v hk (w_ld1 rfl ty51 (.blk (n := 1) (hs.mi 0 rfl) rfl)) fun a hk => ?_
  refine q_v hk (w_len rfl Tryz.underlying51) fun a hk => ?_
  refine q_v hk (w_ne rfl rfl (decide_eq_false (fun h => h (by rw [h5])))) fun a hk => ?_
  refine q_v hk (w_pickF rfl rfl) fun a hk => ?_
  refine c_end (x_t ?_)
  refine c_F hk rfl ?_
  refine (wpIn_skip (x_t ?_))
  refine wS (wR ?_)
  refine q_v hk (w_as rfl) fun a hk => ?_
  refine c_end (x_t ?_)
  refine wpIn_block ?_
  refine c_loop (α := Nat) (fun u a w => u ≤ (S k).n ∧ Kn [] 81 [(8, .int .i64 ((u : Nat) : Int)), (62, .bool false), (61, .bool false), (60, .int .i64 (((S2 k).n : Nat) : Int)), (59, .slice ((S2 k).a) ((S2 k).n) ((S2 k).c)), (58, .pointer (some ⟨b3, 4, none⟩)), (57, .int .i64 (((S k).n : Nat) : Int)), (56, .slice ((S k).a) ((S k).n) ((S k).c)), (55, .pointer (some ⟨b2, 4, none⟩)), (54, .bool false), (53, .bool false), (52, .bool false), (51, .int .i64 ((S2 k).L)), (50, .pointer (some ⟨b3, 3, none⟩)), (49, .int .i64 ((S k).L)), (48, .pointer (some ⟨b2, 3, none⟩)), (47, .bool false), (46, .bool false), (45, .bool false), (44, .int .i64 ((S2 k).I)), (43, .pointer (some ⟨b3, 2, none⟩)), (42, .int .i64 ((S k).I)), (41, .pointer (some ⟨b2, 2, none⟩)), (40, .bool false), (39, .bool false), (38, .bool false), (37, .int .i64 ((S2 k).T)), (36, .pointer (some ⟨b3, 1, none⟩)), (35, .int .i64 ((S k).T)), (34, .pointer (some ⟨b2, 1, none⟩)), (33, .bool false), (32, .bool false), (31, .int .i64 ((S2 k).F)), (30, .pointer (some ⟨b3, 0, none⟩)), (29, .int .i64 ((S k).F)), (28, .pointer (some ⟨b2, 0, none⟩)), (7, .pointer (some ⟨b3, 0, none⟩)), (27, .agg #[.int .i64 ((S2 k).F), .int .i64 ((S2 k).T), .int .i64 ((S2 k).I), .int .i64 ((S2 k).L), .slice ((S2 k).a) ((S2 k).n) ((S2 k).c)]), (25, .int .i64 ((k : Nat) : Int)), (24, .slice ya m yc), (6, .pointer (some ⟨b2, 0, none⟩)), (23, .agg #[.int .i64 ((S k).F), .int .i64 ((S k).T), .int .i64 ((S k).I), .int .i64 ((S k).L), .slice ((S k).a) ((S k).n) ((S k).c)]), (21, .int .i64 ((k : Nat) : Int)), (20, .slice la m lc), (17, .bool true), (16, .int .i64 ((m : Nat) : Int)), (15, .slice la m lc), (14, .int .i64 ((k : Nat) : Int)), (5, .int .i64 ((k : Nat) : Int)), (0, .slice la m lc), (1, .slice ya m yc)] a ∧ Sat no W [blk b3 [.int .i64 ((S2 k).F), .int .i64 ((S2 k).T), .int .i64 ((S2 k).I), .int .i64 ((S2 k).L), .slice ((S2 k).a) ((S2 k).n) ((S2 k).c)] 53, blk b2 [.int .i64 ((S k).F), .int .i64 ((S k).T), .int .i64 ((S k).I), .int .i64 ((S k).L), .slice ((S k).a) ((S k).n) ((S k).c)] 53] [shareR la m lc S, shareR ya m yc S2] w) (fun u => (S k).n - u) 0 ?_ ?_
  · exact ⟨(by omega), hk.k rfl (hk.k rfl (hk.k rfl (hk.k rfl (hk.k rfl (hk.k rfl (hk.k rfl (hk.k rfl (hk.k rfl (hk.k rfl (hk.k rfl (hk.k rfl (hk.k rfl (hk.k rfl (hk.k rfl (hk.k rfl (hk.k rfl (hk.k rfl (hk.k rfl (hk.k rfl (hk.k rfl (hk.k rfl (hk.k rfl (hk.k rfl (hk.k rfl (hk.k rfl (hk.k rfl (hk.k rfl (hk.k rfl (hk.k rfl (hk.k rfl (hk.k rfl (hk.k rfl (hk.k rfl (hk.k rfl (hk.k rfl (hk.k rfl (hk.k rfl (hk.k rfl (hk.k rfl (hk.k rfl (hk.k rfl (hk.k rfl (hk.k rfl (hk.k rfl (hk.k rfl (hk.k rfl (hk.k rfl (hk.k rfl (hk.k rfl (hk.k rfl hk.nil)))))))))))))))))))))))))))))))))))))))))))))))))), hs⟩
  rintro u a w ⟨hf0, hk, hs⟩
  refine wS (wS (wR ?_))
  refine q_v hk (w_mv rfl) fun a hk => ?_
  refine q_v hk (w_fa rfl fq53_4 ty51) fun a hk => ?_
  refine q_v hk (w_ld1 rfl ty51 (.blk (n := 1) (hs.mi 1 rfl) rfl)) fun a hk => ?_
  refine q_v hk (w_len rfl Tryz.underlying51) fun a hk => ?_
  rcases Classical.em (((u : Nat) : Int) < (((S k).n : Nat) : Int)) with hc4 | hc4
  ·
   have hul : u < (S k).n := by omega
   refine q_v hk (w_lt rfl rfl (decide_eq_true hc4)) fun a hk => ?_
   refine c_end (x_t ?_)
   refine c_T hk rfl ?_
   refine (wpIn_skip (x_t ?_))
   refine wS ?_
   refine wpIn_block ?_
   refine wS ?_
   have hL := okL.cons (hs.mi 1 rfl) (okL.cons (hs.mi 0 rfl) okL.nil)
   refine d_begin _ 11 (by kernel_rfl) rfl hs hL fun w hs hL => ?_
   refine d_join (n2 := 0) 2047 (fun a w => Kn [] 81 [(80, .bool false), (79, vec ((S2 k).X u)), (78, .pointer (some ((adq ((S2 k).a)).add (u * 4)))), (74, vec ((S k).X u)), (73, .pointer (some ((adq ((S k).a)).add (u * 4)))), (77, .int .i64 ((u : Nat) : Int)), (76, .slice ((S2 k).a) ((S2 k).n) ((S2 k).c)), (75, .pointer (some ⟨b3, 4, none⟩)), (72, .int .i64 ((u : Nat) : Int)), (71, .slice ((S k).a) ((S k).n) ((S k).c)), (70, .pointer (some ⟨b2, 4, none⟩)), (67, .bool true), (66, .int .i64 (((S k).n : Nat) : Int)), (65, .slice ((S k).a) ((S k).n) ((S k).c)), (64, .pointer (some ⟨b2, 4, none⟩)), (63, .int .i64 ((u : Nat) : Int)), (8, .int .i64 ((u : Nat) : Int)), (62, .bool false), (61, .bool false), (60, .int .i64 (((S2 k).n : Nat) : Int)), (59, .slice ((S2 k).a) ((S2 k).n) ((S2 k).c)), (58, .pointer (some ⟨b3, 4, none⟩)), (57, .int .i64 (((S k).n : Nat) : Int)), (56, .slice ((S k).a) ((S k).n) ((S k).c)), (55, .pointer (some ⟨b2, 4, none⟩)), (54, .bool false), (53, .bool false), (52, .bool false), (51, .int .i64 ((S2 k).L)), (50, .pointer (some ⟨b3, 3, none⟩)), (49, .int .i64 ((S k).L)), (48, .pointer (some ⟨b2, 3, none⟩)), (47, .bool false), (46, .bool false), (45, .bool false), (44, .int .i64 ((S2 k).I)), (43, .pointer (some ⟨b3, 2, none⟩)), (42, .int .i64 ((S k).I)), (41, .pointer (some ⟨b2, 2, none⟩)), (40, .bool false), (39, .bool false), (38, .bool false), (37, .int .i64 ((S2 k).T)), (36, .pointer (some ⟨b3, 1, none⟩)), (35, .int .i64 ((S k).T)), (34, .pointer (some ⟨b2, 1, none⟩)), (33, .bool false), (32, .bool false), (31, .int .i64 ((S2 k).F)), (30, .pointer (some ⟨b3, 0, none⟩)), (29, .int .i64 ((S k).F)), (28, .pointer (some ⟨b2, 0, none⟩)), (7, .pointer (some ⟨b3, 0, none⟩)), (27, .agg #[.int .i64 ((S2 k).F), .int .i64 ((S2 k).T), .int .i64 ((S2 k).I), .int .i64 ((S2 k).L), .slice ((S2 k).a) ((S2 k).n) ((S2 k).c)]), (25, .int .i64 ((k : Nat) : Int)), (24, .slice ya m yc), (6, .pointer (some ⟨b2, 0, none⟩)), (23, .agg #[.int .i64 ((S k).F), .int .i64 ((S k).T), .int .i64 ((S k).I), .int .i64 ((S k).L), .slice ((S k).a) ((S k).n) ((S k).c)]), (21, .int .i64 ((k : Nat) : Int)), (20, .slice la m lc), (17, .bool true), (16, .int .i64 ((m : Nat) : Int)), (15, .slice la m lc), (14, .int .i64 ((k : Nat) : Int)), (5, .int .i64 ((k : Nat) : Int)), (0, .slice la m lc), (1, .slice ya m yc)] a ∧ Sat no W [blk b3 [.int .i64 ((S2 k).F), .int .i64 ((S2 k).T), .int .i64 ((S2 k).I), .int .i64 ((S2 k).L), .slice ((S2 k).a) ((S2 k).n) ((S2 k).c)] 53, blk b2 [.int .i64 ((S k).F), .int .i64 ((S k).T), .int .i64 ((S k).I), .int .i64 ((S k).L), .slice ((S k).a) ((S k).n) ((S k).c)] 53] [shareR la m lc S, shareR ya m yc S2] w ∧ okL [blk b2 [.int .i64 ((S k).F), .int .i64 ((S k).T), .int .i64 ((S k).I), .int .i64 ((S k).L), .slice ((S k).a) ((S k).n) ((S k).c)] 53, blk b3 [.int .i64 ((S2 k).F), .int .i64 ((S2 k).T), .int .i64 ((S2 k).I), .int .i64 ((S2 k).L), .slice ((S2 k).a) ((S2 k).n) ((S2 k).c)] 53] w) ?_ ?_
   ·
    intro hJ2047
    refine d_join (n2 := 2) 511 (fun a w => Kn [] 81 [(78, .pointer (some ((adq ((S2 k).a)).add (u * 4)))), (74, vec ((S k).X u)), (73, .pointer (some ((adq ((S k).a)).add (u * 4)))), (77, .int .i64 ((u : Nat) : Int)), (76, .slice ((S2 k).a) ((S2 k).n) ((S2 k).c)), (75, .pointer (some ⟨b3, 4, none⟩)), (72, .int .i64 ((u : Nat) : Int)), (71, .slice ((S k).a) ((S k).n) ((S k).c)), (70, .pointer (some ⟨b2, 4, none⟩)), (67, .bool true), (66, .int .i64 (((S k).n : Nat) : Int)), (65, .slice ((S k).a) ((S k).n) ((S k).c)), (64, .pointer (some ⟨b2, 4, none⟩)), (63, .int .i64 ((u : Nat) : Int)), (8, .int .i64 ((u : Nat) : Int)), (62, .bool false), (61, .bool false), (60, .int .i64 (((S2 k).n : Nat) : Int)), (59, .slice ((S2 k).a) ((S2 k).n) ((S2 k).c)), (58, .pointer (some ⟨b3, 4, none⟩)), (57, .int .i64 (((S k).n : Nat) : Int)), (56, .slice ((S k).a) ((S k).n) ((S k).c)), (55, .pointer (some ⟨b2, 4, none⟩)), (54, .bool false), (53, .bool false), (52, .bool false), (51, .int .i64 ((S2 k).L)), (50, .pointer (some ⟨b3, 3, none⟩)), (49, .int .i64 ((S k).L)), (48, .pointer (some ⟨b2, 3, none⟩)), (47, .bool false), (46, .bool false), (45, .bool false), (44, .int .i64 ((S2 k).I)), (43, .pointer (some ⟨b3, 2, none⟩)), (42, .int .i64 ((S k).I)), (41, .pointer (some ⟨b2, 2, none⟩)), (40, .bool false), (39, .bool false), (38, .bool false), (37, .int .i64 ((S2 k).T)), (36, .pointer (some ⟨b3, 1, none⟩)), (35, .int .i64 ((S k).T)), (34, .pointer (some ⟨b2, 1, none⟩)), (33, .bool false), (32, .bool false), (31, .int .i64 ((S2 k).F)), (30, .pointer (some ⟨b3, 0, none⟩)), (29, .int .i64 ((S k).F)), (28, .pointer (some ⟨b2, 0, none⟩)), (7, .pointer (some ⟨b3, 0, none⟩)), (27, .agg #[.int .i64 ((S2 k).F), .int .i64 ((S2 k).T), .int .i64 ((S2 k).I), .int .i64 ((S2 k).L), .slice ((S2 k).a) ((S2 k).n) ((S2 k).c)]), (25, .int .i64 ((k : Nat) : Int)), (24, .slice ya m yc), (6, .pointer (some ⟨b2, 0, none⟩)), (23, .agg #[.int .i64 ((S k).F), .int .i64 ((S k).T), .int .i64 ((S k).I), .int .i64 ((S k).L), .slice ((S k).a) ((S k).n) ((S k).c)]), (21, .int .i64 ((k : Nat) : Int)), (20, .slice la m lc), (17, .bool true), (16, .int .i64 ((m : Nat) : Int)), (15, .slice la m lc), (14, .int .i64 ((k : Nat) : Int)), (5, .int .i64 ((k : Nat) : Int)), (0, .slice la m lc), (1, .slice ya m yc)] a ∧ Sat no W [blk b3 [.int .i64 ((S2 k).F), .int .i64 ((S2 k).T), .int .i64 ((S2 k).I), .int .i64 ((S2 k).L), .slice ((S2 k).a) ((S2 k).n) ((S2 k).c)] 53, blk b2 [.int .i64 ((S k).F), .int .i64 ((S k).T), .int .i64 ((S k).I), .int .i64 ((S k).L), .slice ((S k).a) ((S k).n) ((S k).c)] 53] [shareR la m lc S, shareR ya m yc S2] w ∧ okL [blk b2 [.int .i64 ((S k).F), .int .i64 ((S k).T), .int .i64 ((S k).I), .int .i64 ((S k).L), .slice ((S k).a) ((S k).n) ((S k).c)] 53, blk b3 [.int .i64 ((S2 k).F), .int .i64 ((S2 k).T), .int .i64 ((S2 k).I), .int .i64 ((S2 k).L), .slice ((S2 k).a) ((S2 k).n) ((S2 k).c)] 53] w) ?_ ?_
    ·
     intro hJ511
     refine d_join (n2 := 2) 1007 (fun a w => Kn [] 81 [(79, vec ((S2 k).X u)), (78, .pointer (some ((adq ((S2 k).a)).add (u * 4)))), (73, .pointer (some ((adq ((S k).a)).add (u * 4)))), (77, .int .i64 ((u : Nat) : Int)), (76, .slice ((S2 k).a) ((S2 k).n) ((S2 k).c)), (75, .pointer (some ⟨b3, 4, none⟩)), (72, .int .i64 ((u : Nat) : Int)), (71, .slice ((S k).a) ((S k).n) ((S k).c)), (70, .pointer (some ⟨b2, 4, none⟩)), (67, .bool true), (66, .int .i64 (((S k).n : Nat) : Int)), (65, .slice ((S k).a) ((S k).n) ((S k).c)), (64, .pointer (some ⟨b2, 4, none⟩)), (63, .int .i64 ((u : Nat) : Int)), (8, .int .i64 ((u : Nat) : Int)), (62, .bool false), (61, .bool false), (60, .int .i64 (((S2 k).n : Nat) : Int)), (59, .slice ((S2 k).a) ((S2 k).n) ((S2 k).c)), (58, .pointer (some ⟨b3, 4, none⟩)), (57, .int .i64 (((S k).n : Nat) : Int)), (56, .slice ((S k).a) ((S k).n) ((S k).c)), (55, .pointer (some ⟨b2, 4, none⟩)), (54, .bool false), (53, .bool false), (52, .bool false), (51, .int .i64 ((S2 k).L)), (50, .pointer (some ⟨b3, 3, none⟩)), (49, .int .i64 ((S k).L)), (48, .pointer (some ⟨b2, 3, none⟩)), (47, .bool false), (46, .bool false), (45, .bool false), (44, .int .i64 ((S2 k).I)), (43, .pointer (some ⟨b3, 2, none⟩)), (42, .int .i64 ((S k).I)), (41, .pointer (some ⟨b2, 2, none⟩)), (40, .bool false), (39, .bool false), (38, .bool false), (37, .int .i64 ((S2 k).T)), (36, .pointer (some ⟨b3, 1, none⟩)), (35, .int .i64 ((S k).T)), (34, .pointer (some ⟨b2, 1, none⟩)), (33, .bool false), (32, .bool false), (31, .int .i64 ((S2 k).F)), (30, .pointer (some ⟨b3, 0, none⟩)), (29, .int .i64 ((S k).F)), (28, .pointer (some ⟨b2, 0, none⟩)), (7, .pointer (some ⟨b3, 0, none⟩)), (27, .agg #[.int .i64 ((S2 k).F), .int .i64 ((S2 k).T), .int .i64 ((S2 k).I), .int .i64 ((S2 k).L), .slice ((S2 k).a) ((S2 k).n) ((S2 k).c)]), (25, .int .i64 ((k : Nat) : Int)), (24, .slice ya m yc), (6, .pointer (some ⟨b2, 0, none⟩)), (23, .agg #[.int .i64 ((S k).F), .int .i64 ((S k).T), .int .i64 ((S k).I), .int .i64 ((S k).L), .slice ((S k).a) ((S k).n) ((S k).c)]), (21, .int .i64 ((k : Nat) : Int)), (20, .slice la m lc), (17, .bool true), (16, .int .i64 ((m : Nat) : Int)), (15, .slice la m lc), (14, .int .i64 ((k : Nat) : Int)), (5, .int .i64 ((k : Nat) : Int)), (0, .slice la m lc), (1, .slice ya m yc)] a ∧ Sat no W [blk b3 [.int .i64 ((S2 k).F), .int .i64 ((S2 k).T), .int .i64 ((S2 k).I), .int .i64 ((S2 k).L), .slice ((S2 k).a) ((S2 k).n) ((S2 k).c)] 53, blk b2 [.int .i64 ((S k).F), .int .i64 ((S k).T), .int .i64 ((S k).I), .int .i64 ((S k).L), .slice ((S k).a) ((S k).n) ((S k).c)] 53] [shareR la m lc S, shareR ya m yc S2] w ∧ okL [blk b2 [.int .i64 ((S k).F), .int .i64 ((S k).T), .int .i64 ((S k).I), .int .i64 ((S k).L), .slice ((S k).a) ((S k).n) ((S k).c)] 53, blk b3 [.int .i64 ((S2 k).F), .int .i64 ((S2 k).T), .int .i64 ((S2 k).I), .int .i64 ((S2 k).L), .slice ((S2 k).a) ((S2 k).n) ((S2 k).c)] 53] w) ?_ ?_
     ·
      intro hJ1007
      refine d_join (n2 := 3) 495 (fun a w => Kn [] 81 [(78, .pointer (some ((adq ((S2 k).a)).add (u * 4)))), (73, .pointer (some ((adq ((S k).a)).add (u * 4)))), (77, .int .i64 ((u : Nat) : Int)), (76, .slice ((S2 k).a) ((S2 k).n) ((S2 k).c)), (75, .pointer (some ⟨b3, 4, none⟩)), (72, .int .i64 ((u : Nat) : Int)), (71, .slice ((S k).a) ((S k).n) ((S k).c)), (70, .pointer (some ⟨b2, 4, none⟩)), (67, .bool true), (66, .int .i64 (((S k).n : Nat) : Int)), (65, .slice ((S k).a) ((S k).n) ((S k).c)), (64, .pointer (some ⟨b2, 4, none⟩)), (63, .int .i64 ((u : Nat) : Int)), (8, .int .i64 ((u : Nat) : Int)), (62, .bool false), (61, .bool false), (60, .int .i64 (((S2 k).n : Nat) : Int)), (59, .slice ((S2 k).a) ((S2 k).n) ((S2 k).c)), (58, .pointer (some ⟨b3, 4, none⟩)), (57, .int .i64 (((S k).n : Nat) : Int)), (56, .slice ((S k).a) ((S k).n) ((S k).c)), (55, .pointer (some ⟨b2, 4, none⟩)), (54, .bool false), (53, .bool false), (52, .bool false), (51, .int .i64 ((S2 k).L)), (50, .pointer (some ⟨b3, 3, none⟩)), (49, .int .i64 ((S k).L)), (48, .pointer (some ⟨b2, 3, none⟩)), (47, .bool false), (46, .bool false), (45, .bool false), (44, .int .i64 ((S2 k).I)), (43, .pointer (some ⟨b3, 2, none⟩)), (42, .int .i64 ((S k).I)), (41, .pointer (some ⟨b2, 2, none⟩)), (40, .bool false), (39, .bool false), (38, .bool false), (37, .int .i64 ((S2 k).T)), (36, .pointer (some ⟨b3, 1, none⟩)), (35, .int .i64 ((S k).T)), (34, .pointer (some ⟨b2, 1, none⟩)), (33, .bool false), (32, .bool false), (31, .int .i64 ((S2 k).F)), (30, .pointer (some ⟨b3, 0, none⟩)), (29, .int .i64 ((S k).F)), (28, .pointer (some ⟨b2, 0, none⟩)), (7, .pointer (some ⟨b3, 0, none⟩)), (27, .agg #[.int .i64 ((S2 k).F), .int .i64 ((S2 k).T), .int .i64 ((S2 k).I), .int .i64 ((S2 k).L), .slice ((S2 k).a) ((S2 k).n) ((S2 k).c)]), (25, .int .i64 ((k : Nat) : Int)), (24, .slice ya m yc), (6, .pointer (some ⟨b2, 0, none⟩)), (23, .agg #[.int .i64 ((S k).F), .int .i64 ((S k).T), .int .i64 ((S k).I), .int .i64 ((S k).L), .slice ((S k).a) ((S k).n) ((S k).c)]), (21, .int .i64 ((k : Nat) : Int)), (20, .slice la m lc), (17, .bool true), (16, .int .i64 ((m : Nat) : Int)), (15, .slice la m lc), (14, .int .i64 ((k : Nat) : Int)), (5, .int .i64 ((k : Nat) : Int)), (0, .slice la m lc), (1, .slice ya m yc)] a ∧ Sat no W [blk b3 [.int .i64 ((S2 k).F), .int .i64 ((S2 k).T), .int .i64 ((S2 k).I), .int .i64 ((S2 k).L), .slice ((S2 k).a) ((S2 k).n) ((S2 k).c)] 53, blk b2 [.int .i64 ((S k).F), .int .i64 ((S k).T), .int .i64 ((S k).I), .int .i64 ((S k).L), .slice ((S k).a) ((S k).n) ((S k).c)] 53] [shareR la m lc S, shareR ya m yc S2] w ∧ okL [blk b2 [.int .i64 ((S k).F), .int .i64 ((S k).T), .int .i64 ((S k).I), .int .i64 ((S k).L), .slice ((S k).a) ((S k).n) ((S k).c)] 53, blk b3 [.int .i64 ((S2 k).F), .int .i64 ((S2 k).T), .int .i64 ((S2 k).I), .int .i64 ((S2 k).L), .slice ((S2 k).a) ((S2 k).n) ((S2 k).c)] 53] w) ?_ ?_
      ·
       intro hJ495
       refine d_w 0 1 hk hL rfl (fun w hL => w_fa rfl fq53_4 ty51) fun a hk => ?_
       refine d_w 1 3 hk hL rfl (fun w hL => w_ld1 rfl ty51 (.blk (n := 1) (hL.at 0 rfl) rfl)) fun a hk => ?_
       refine d_w 2 7 hk hL rfl (fun w hL => w_mv rfl) fun a hk => ?_
       refine d_w 5 39 hk hL rfl (fun w hL => w_fa rfl fq53_4 ty51) fun a hk => ?_
       refine d_w 6 103 hk hL rfl (fun w hL => w_ld1 rfl ty51 (.blk (n := 1) (hL.at 1 rfl) rfl)) fun a hk => ?_
       refine d_w 7 231 hk hL rfl (fun w hL => w_mv rfl) fun a hk => ?_
       refine d_2 3 8 239 487 rfl rfl (by kernel_rfl) (fun K hK => ?_) (fun K hK => ?_)
       ·
        refine q_v hk (w_iaL (k := u) rfl rfl Tryz.underlying51 ty56 ((share_pay (k := k) (HasR.nth 0 rfl : HasR (shareR la m lc S) _) (by omega)).at_ hs) (by omega) (by omega)) fun a hk => ?_
        have hL := okL.cons (hs.mi 1 rfl) (okL.cons (hs.mi 0 rfl) okL.nil)
        refine c_end (x_t (hK _ _ hL ?_))
        clear hK K
        refine d_2 4 8 255 495 rfl rfl (by kernel_rfl) (fun K hK => ?_) (fun K hK => ?_)
        ·
         refine q_v hk (w_ldv (z := (S k).X u) rfl ty56 (lstq (k := u) ((share_pay (k := k) (HasR.nth 0 rfl : HasR (shareR la m lc S) _) (by omega)).at_ hs) (by omega) (en_chunk vq_len (by omega)))) fun a hk => ?_
         have hL := okL.cons (hs.mi 1 rfl) (okL.cons (hs.mi 0 rfl) okL.nil)
         refine c_end (x_t (hK _ _ hL ?_))
         clear hK K
         refine d_1 8 511 rfl (by kernel_rfl) fun K hK => ?_
         refine q_v hk (w_iaL (k := u) rfl rfl Tryz.underlying51 ty56 ((share_pay (k := k) (HasR.nth 1 rfl : HasR (shareR ya m yc S2) _) (by omega)).at_ hs) (by omega) (by omega)) fun a hk => ?_
         have hL := okL.cons (hs.mi 1 rfl) (okL.cons (hs.mi 0 rfl) okL.nil)
         refine c_end (x_t (hK _ _ hL ?_))
         clear hK K
         have hL := okL.cons (hs.mi 1 rfl) (okL.cons (hs.mi 0 rfl) okL.nil)
         exact hJ511 _ _ ⟨hk.k rfl (hk.k rfl (hk.k rfl (hk.k rfl (hk.k rfl (hk.k rfl (hk.k rfl (hk.k rfl (hk.k rfl (hk.k rfl (hk.k rfl (hk.k rfl (hk.k rfl (hk.k rfl (hk.k rfl (hk.k rfl (hk.k rfl (hk.k rfl (hk.k rfl (hk.k rfl (hk.k rfl (hk.k rfl (hk.k rfl (hk.k rfl (hk.k rfl (hk.k rfl (hk.k rfl (hk.k rfl (hk.k rfl (hk.k rfl (hk.k rfl (hk.k rfl (hk.k rfl (hk.k rfl (hk.k rfl (hk.k rfl (hk.k rfl (hk.k rfl (hk.k rfl (hk.k rfl (hk.k rfl (hk.k rfl (hk.k rfl (hk.k rfl (hk.k rfl (hk.k rfl (hk.k rfl (hk.k rfl (hk.k rfl (hk.k rfl (hk.k rfl (hk.k rfl (hk.k rfl (hk.k rfl (hk.k rfl (hk.k rfl (hk.k rfl (hk.k rfl (hk.k rfl (hk.k rfl (hk.k rfl (hk.k rfl (hk.k rfl (hk.k rfl (hk.k rfl hk.nil)))))))))))))))))))))))))))))))))))))))))))))))))))))))))))))))), hs, hL⟩
        ·
         refine q_v hk (w_iaL (k := u) rfl rfl Tryz.underlying51 ty56 ((share_pay (k := k) (HasR.nth 1 rfl : HasR (shareR ya m yc S2) _) (by omega)).at_ hs) (by omega) (by omega)) fun a hk => ?_
         have hL := okL.cons (hs.mi 1 rfl) (okL.cons (hs.mi 0 rfl) okL.nil)
         refine c_end (x_t (hK _ _ hL ?_))
         clear hK K
         have hL := okL.cons (hs.mi 1 rfl) (okL.cons (hs.mi 0 rfl) okL.nil)
         exact hJ495 _ _ ⟨hk.k rfl (hk.k rfl (hk.k rfl (hk.k rfl (hk.k rfl (hk.k rfl (hk.k rfl (hk.k rfl (hk.k rfl (hk.k rfl (hk.k rfl (hk.k rfl (hk.k rfl (hk.k rfl (hk.k rfl (hk.k rfl (hk.k rfl (hk.k rfl (hk.k rfl (hk.k rfl (hk.k rfl (hk.k rfl (hk.k rfl (hk.k rfl (hk.k rfl (hk.k rfl (hk.k rfl (hk.k rfl (hk.k rfl (hk.k rfl (hk.k rfl (hk.k rfl (hk.k rfl (hk.k rfl (hk.k rfl (hk.k rfl (hk.k rfl (hk.k rfl (hk.k rfl (hk.k rfl (hk.k rfl (hk.k rfl (hk.k rfl (hk.k rfl (hk.k rfl (hk.k rfl (hk.k rfl (hk.k rfl (hk.k rfl (hk.k rfl (hk.k rfl (hk.k rfl (hk.k rfl (hk.k rfl (hk.k rfl (hk.k rfl (hk.k rfl (hk.k rfl (hk.k rfl (hk.k rfl (hk.k rfl (hk.k rfl (hk.k rfl (hk.k rfl hk.nil))))))))))))))))))))))))))))))))))))))))))))))))))))))))))))))), hs, hL⟩
       ·
        refine q_v hk (w_iaL (k := u) rfl rfl Tryz.underlying51 ty56 ((share_pay (k := k) (HasR.nth 1 rfl : HasR (shareR ya m yc S2) _) (by omega)).at_ hs) (by omega) (by omega)) fun a hk => ?_
        have hL := okL.cons (hs.mi 1 rfl) (okL.cons (hs.mi 0 rfl) okL.nil)
        refine c_end (x_t (hK _ _ hL ?_))
        clear hK K
        refine d_2 3 9 495 999 rfl rfl (by kernel_rfl) (fun K hK => ?_) (fun K hK => ?_)
        ·
         refine q_v hk (w_iaL (k := u) rfl rfl Tryz.underlying51 ty56 ((share_pay (k := k) (HasR.nth 0 rfl : HasR (shareR la m lc S) _) (by omega)).at_ hs) (by omega) (by omega)) fun a hk => ?_
         have hL := okL.cons (hs.mi 1 rfl) (okL.cons (hs.mi 0 rfl) okL.nil)
         refine c_end (x_t (hK _ _ hL ?_))
         clear hK K
         have hL := okL.cons (hs.mi 1 rfl) (okL.cons (hs.mi 0 rfl) okL.nil)
         exact hJ495 _ _ ⟨hk.k rfl (hk.k rfl (hk.k rfl (hk.k rfl (hk.k rfl (hk.k rfl (hk.k rfl (hk.k rfl (hk.k rfl (hk.k rfl (hk.k rfl (hk.k rfl (hk.k rfl (hk.k rfl (hk.k rfl (hk.k rfl (hk.k rfl (hk.k rfl (hk.k rfl (hk.k rfl (hk.k rfl (hk.k rfl (hk.k rfl (hk.k rfl (hk.k rfl (hk.k rfl (hk.k rfl (hk.k rfl (hk.k rfl (hk.k rfl (hk.k rfl (hk.k rfl (hk.k rfl (hk.k rfl (hk.k rfl (hk.k rfl (hk.k rfl (hk.k rfl (hk.k rfl (hk.k rfl (hk.k rfl (hk.k rfl (hk.k rfl (hk.k rfl (hk.k rfl (hk.k rfl (hk.k rfl (hk.k rfl (hk.k rfl (hk.k rfl (hk.k rfl (hk.k rfl (hk.k rfl (hk.k rfl (hk.k rfl (hk.k rfl (hk.k rfl (hk.k rfl (hk.k rfl (hk.k rfl (hk.k rfl (hk.k rfl (hk.k rfl (hk.k rfl hk.nil))))))))))))))))))))))))))))))))))))))))))))))))))))))))))))))), hs, hL⟩
        ·
         refine q_v hk (w_ldv (z := (S2 k).X u) rfl ty56 (lstq (k := u) ((share_pay (k := k) (HasR.nth 1 rfl : HasR (shareR ya m yc S2) _) (by omega)).at_ hs) (by omega) (en_chunk vq_len (by omega)))) fun a hk => ?_
         have hL := okL.cons (hs.mi 1 rfl) (okL.cons (hs.mi 0 rfl) okL.nil)
         refine c_end (x_t (hK _ _ hL ?_))
         clear hK K
         refine d_1 3 1007 rfl (by kernel_rfl) fun K hK => ?_
         refine q_v hk (w_iaL (k := u) rfl rfl Tryz.underlying51 ty56 ((share_pay (k := k) (HasR.nth 0 rfl : HasR (shareR la m lc S) _) (by omega)).at_ hs) (by omega) (by omega)) fun a hk => ?_
         have hL := okL.cons (hs.mi 1 rfl) (okL.cons (hs.mi 0 rfl) okL.nil)
         refine c_end (x_t (hK _ _ hL ?_))
         clear hK K
         have hL := okL.cons (hs.mi 1 rfl) (okL.cons (hs.mi 0 rfl) okL.nil)
         exact hJ1007 _ _ ⟨hk.k rfl (hk.k rfl (hk.k rfl (hk.k rfl (hk.k rfl (hk.k rfl (hk.k rfl (hk.k rfl (hk.k rfl (hk.k rfl (hk.k rfl (hk.k rfl (hk.k rfl (hk.k rfl (hk.k rfl (hk.k rfl (hk.k rfl (hk.k rfl (hk.k rfl (hk.k rfl (hk.k rfl (hk.k rfl (hk.k rfl (hk.k rfl (hk.k rfl (hk.k rfl (hk.k rfl (hk.k rfl (hk.k rfl (hk.k rfl (hk.k rfl (hk.k rfl (hk.k rfl (hk.k rfl (hk.k rfl (hk.k rfl (hk.k rfl (hk.k rfl (hk.k rfl (hk.k rfl (hk.k rfl (hk.k rfl (hk.k rfl (hk.k rfl (hk.k rfl (hk.k rfl (hk.k rfl (hk.k rfl (hk.k rfl (hk.k rfl (hk.k rfl (hk.k rfl (hk.k rfl (hk.k rfl (hk.k rfl (hk.k rfl (hk.k rfl (hk.k rfl (hk.k rfl (hk.k rfl (hk.k rfl (hk.k rfl (hk.k rfl (hk.k rfl (hk.k rfl hk.nil)))))))))))))))))))))))))))))))))))))))))))))))))))))))))))))))), hs, hL⟩
      ·
       rintro a w ⟨hk, hs, hL⟩
       refine d_2 4 9 511 1007 rfl rfl (by kernel_rfl) (fun K hK => ?_) (fun K hK => ?_)
       ·
        refine q_v hk (w_ldv (z := (S k).X u) rfl ty56 (lstq (k := u) ((share_pay (k := k) (HasR.nth 0 rfl : HasR (shareR la m lc S) _) (by omega)).at_ hs) (by omega) (en_chunk vq_len (by omega)))) fun a hk => ?_
        have hL := okL.cons (hs.mi 1 rfl) (okL.cons (hs.mi 0 rfl) okL.nil)
        refine c_end (x_t (hK _ _ hL ?_))
        clear hK K
        have hL := okL.cons (hs.mi 1 rfl) (okL.cons (hs.mi 0 rfl) okL.nil)
        exact hJ511 _ _ ⟨hk.k rfl (hk.k rfl (hk.k rfl (hk.k rfl (hk.k rfl (hk.k rfl (hk.k rfl (hk.k rfl (hk.k rfl (hk.k rfl (hk.k rfl (hk.k rfl (hk.k rfl (hk.k rfl (hk.k rfl (hk.k rfl (hk.k rfl (hk.k rfl (hk.k rfl (hk.k rfl (hk.k rfl (hk.k rfl (hk.k rfl (hk.k rfl (hk.k rfl (hk.k rfl (hk.k rfl (hk.k rfl (hk.k rfl (hk.k rfl (hk.k rfl (hk.k rfl (hk.k rfl (hk.k rfl (hk.k rfl (hk.k rfl (hk.k rfl (hk.k rfl (hk.k rfl (hk.k rfl (hk.k rfl (hk.k rfl (hk.k rfl (hk.k rfl (hk.k rfl (hk.k rfl (hk.k rfl (hk.k rfl (hk.k rfl (hk.k rfl (hk.k rfl (hk.k rfl (hk.k rfl (hk.k rfl (hk.k rfl (hk.k rfl (hk.k rfl (hk.k rfl (hk.k rfl (hk.k rfl (hk.k rfl (hk.k rfl (hk.k rfl (hk.k rfl (hk.k rfl hk.nil)))))))))))))))))))))))))))))))))))))))))))))))))))))))))))))))), hs, hL⟩
       ·
        refine q_v hk (w_ldv (z := (S2 k).X u) rfl ty56 (lstq (k := u) ((share_pay (k := k) (HasR.nth 1 rfl : HasR (shareR ya m yc S2) _) (by omega)).at_ hs) (by omega) (en_chunk vq_len (by omega)))) fun a hk => ?_
        have hL := okL.cons (hs.mi 1 rfl) (okL.cons (hs.mi 0 rfl) okL.nil)
        refine c_end (x_t (hK _ _ hL ?_))
        clear hK K
        have hL := okL.cons (hs.mi 1 rfl) (okL.cons (hs.mi 0 rfl) okL.nil)
        exact hJ1007 _ _ ⟨hk.k rfl (hk.k rfl (hk.k rfl (hk.k rfl (hk.k rfl (hk.k rfl (hk.k rfl (hk.k rfl (hk.k rfl (hk.k rfl (hk.k rfl (hk.k rfl (hk.k rfl (hk.k rfl (hk.k rfl (hk.k rfl (hk.k rfl (hk.k rfl (hk.k rfl (hk.k rfl (hk.k rfl (hk.k rfl (hk.k rfl (hk.k rfl (hk.k rfl (hk.k rfl (hk.k rfl (hk.k rfl (hk.k rfl (hk.k rfl (hk.k rfl (hk.k rfl (hk.k rfl (hk.k rfl (hk.k rfl (hk.k rfl (hk.k rfl (hk.k rfl (hk.k rfl (hk.k rfl (hk.k rfl (hk.k rfl (hk.k rfl (hk.k rfl (hk.k rfl (hk.k rfl (hk.k rfl (hk.k rfl (hk.k rfl (hk.k rfl (hk.k rfl (hk.k rfl (hk.k rfl (hk.k rfl (hk.k rfl (hk.k rfl (hk.k rfl (hk.k rfl (hk.k rfl (hk.k rfl (hk.k rfl (hk.k rfl (hk.k rfl (hk.k rfl (hk.k rfl hk.nil)))))))))))))))))))))))))))))))))))))))))))))))))))))))))))))))), hs, hL⟩
     ·
      rintro a w ⟨hk, hs, hL⟩
      refine d_1 4 1023 rfl (by kernel_rfl) fun K hK => ?_
      refine q_v hk (w_ldv (z := (S k).X u) rfl ty56 (lstq (k := u) ((share_pay (k := k) (HasR.nth 0 rfl : HasR (shareR la m lc S) _) (by omega)).at_ hs) (by omega) (en_chunk vq_len (by omega)))) fun a hk => ?_
      have hL := okL.cons (hs.mi 1 rfl) (okL.cons (hs.mi 0 rfl) okL.nil)
      refine c_end (x_t (hK _ _ hL ?_))
      clear hK K
      refine d_w 10 2047 hk hL rfl (fun w hL => w_vne rfl rfl (hb k hlt u hul) (by rw [← hx k hlt u hul]; exact hb k hlt u hul) Tryz.underlying56 Tryz.underlying46 ty46 eg56 (decide_eq_false (fun h => h (hx k hlt u hul)))) fun a hk => ?_
      have hL := okL.cons (hs.mi 1 rfl) (okL.cons (hs.mi 0 rfl) okL.nil)
      exact hJ2047 _ _ ⟨hk.k rfl (hk.k rfl (hk.k rfl (hk.k rfl (hk.k rfl (hk.k rfl (hk.k rfl (hk.k rfl (hk.k rfl (hk.k rfl (hk.k rfl (hk.k rfl (hk.k rfl (hk.k rfl (hk.k rfl (hk.k rfl (hk.k rfl (hk.k rfl (hk.k rfl (hk.k rfl (hk.k rfl (hk.k rfl (hk.k rfl (hk.k rfl (hk.k rfl (hk.k rfl (hk.k rfl (hk.k rfl (hk.k rfl (hk.k rfl (hk.k rfl (hk.k rfl (hk.k rfl (hk.k rfl (hk.k rfl (hk.k rfl (hk.k rfl (hk.k rfl (hk.k rfl (hk.k rfl (hk.k rfl (hk.k rfl (hk.k rfl (hk.k rfl (hk.k rfl (hk.k rfl (hk.k rfl (hk.k rfl (hk.k rfl (hk.k rfl (hk.k rfl (hk.k rfl (hk.k rfl (hk.k rfl (hk.k rfl (hk.k rfl (hk.k rfl (hk.k rfl (hk.k rfl (hk.k rfl (hk.k rfl (hk.k rfl (hk.k rfl (hk.k rfl (hk.k rfl (hk.k rfl (hk.k rfl hk.nil)))))))))))))))))))))))))))))))))))))))))))))))))))))))))))))))))), hs, hL⟩
    ·
     rintro a w ⟨hk, hs, hL⟩
     refine d_1 9 1023 rfl (by kernel_rfl) fun K hK => ?_
     refine q_v hk (w_ldv (z := (S2 k).X u) rfl ty56 (lstq (k := u) ((share_pay (k := k) (HasR.nth 1 rfl : HasR (shareR ya m yc S2) _) (by omega)).at_ hs) (by omega) (en_chunk vq_len (by omega)))) fun a hk => ?_
     have hL := okL.cons (hs.mi 1 rfl) (okL.cons (hs.mi 0 rfl) okL.nil)
     refine c_end (x_t (hK _ _ hL ?_))
     clear hK K
     refine d_w 10 2047 hk hL rfl (fun w hL => w_vne rfl rfl (hb k hlt u hul) (by rw [← hx k hlt u hul]; exact hb k hlt u hul) Tryz.underlying56 Tryz.underlying46 ty46 eg56 (decide_eq_false (fun h => h (hx k hlt u hul)))) fun a hk => ?_
     have hL := okL.cons (hs.mi 1 rfl) (okL.cons (hs.mi 0 rfl) okL.nil)
     exact hJ2047 _ _ ⟨hk.k rfl (hk.k rfl (hk.k rfl (hk.k rfl (hk.k rfl (hk.k rfl (hk.k rfl (hk.k rfl (hk.k rfl (hk.k rfl (hk.k rfl (hk.k rfl (hk.k rfl (hk.k rfl (hk.k rfl (hk.k rfl (hk.k rfl (hk.k rfl (hk.k rfl (hk.k rfl (hk.k rfl (hk.k rfl (hk.k rfl (hk.k rfl (hk.k rfl (hk.k rfl (hk.k rfl (hk.k rfl (hk.k rfl (hk.k rfl (hk.k rfl (hk.k rfl (hk.k rfl (hk.k rfl (hk.k rfl (hk.k rfl (hk.k rfl (hk.k rfl (hk.k rfl (hk.k rfl (hk.k rfl (hk.k rfl (hk.k rfl (hk.k rfl (hk.k rfl (hk.k rfl (hk.k rfl (hk.k rfl (hk.k rfl (hk.k rfl (hk.k rfl (hk.k rfl (hk.k rfl (hk.k rfl (hk.k rfl (hk.k rfl (hk.k rfl (hk.k rfl (hk.k rfl (hk.k rfl (hk.k rfl (hk.k rfl (hk.k rfl (hk.k rfl (hk.k rfl (hk.k rfl (hk.k rfl hk.nil)))))))))))))))))))))))))))))))))))))))))))))))))))))))))))))))))), hs, hL⟩
   ·
    rintro a w ⟨hk, hs, hL⟩
    refine d_end (by kernel_rfl) ?_
    refine (x_t ?_)
    refine c_F hk rfl ?_
    refine (wpIn_skip (x_b (x_t ?_)))
    refine wR ?_
    refine q_v hk (w_mv rfl) fun a hk => ?_
    refine q_v hk (w_add rfl rfl (wr64 (by omega) (by omega))) fun a hk => ?_
    refine q_v hk (w_as rfl) fun a hk => ?_
    refine c_end (x_t ?_)
    exact ⟨u + 1, ⟨(by omega), hk.k rfl (hk.k rfl (hk.k rfl (hk.k rfl (hk.k rfl (hk.k rfl (hk.k rfl (hk.k rfl (hk.k rfl (hk.k rfl (hk.k rfl (hk.k rfl (hk.k rfl (hk.k rfl (hk.k rfl (hk.k rfl (hk.k rfl (hk.k rfl (hk.k rfl (hk.k rfl (hk.k rfl (hk.k rfl (hk.k rfl (hk.k rfl (hk.k rfl (hk.k rfl (hk.k rfl (hk.k rfl (hk.k rfl (hk.k rfl (hk.k rfl (hk.k rfl (hk.k rfl (hk.k rfl (hk.k rfl (hk.k rfl (hk.k rfl (hk.k rfl (hk.k rfl (hk.k rfl (hk.k rfl (hk.k rfl (hk.k rfl (hk.k rfl (hk.k rfl (hk.k rfl (hk.k rfl (hk.k rfl (hk.k rfl (hk.k rfl (hk.k rfl hk.nil)))))))))))))))))))))))))))))))))))))))))))))))))), hs⟩, by omega⟩
  ·
   refine q_v hk (w_lt rfl rfl (decide_eq_false hc4)) fun a hk => ?_
   refine c_end (x_t ?_)
   refine c_F hk rfl ?_
   refine (wpIn_exit (x_te (x_te (x_be ?_))))
   refine (x_b (x_t ?_))
   refine wR ?_
   refine q_v hk (w_mv rfl) fun a hk => ?_
   refine q_v hk (w_add rfl rfl (wr64 (by omega) (by omega))) fun a hk => ?_
   refine q_v hk (w_as rfl) fun a hk => ?_
   refine c_end (x_t ?_)
   have hs := hs.drop
   have hs := hs.drop
   exact ⟨k + 1, ⟨(by omega), hk.k rfl (hk.k rfl (hk.k rfl hk.nil)), hs⟩, by omega⟩
 ·
  refine q_v hk (w_lt rfl rfl (decide_eq_false hc1)) fun a hk => ?_
  refine c_end (x_t ?_)
  refine c_F hk rfl ?_
  refine (wpIn_exit (x_te (x_te (x_be ?_))))
  refine (x_t ?_)
  refine wS (wR ?_)
  refine q_v hk (w_as rfl) fun a hk => ?_
  refine c_end (x_t ?_)
  refine (wpIn_ret ?_)
  refine c_ret1 hk rfl rfl ?_
  exact ⟨rfl, hs.toBelow⟩
end Go.Proofs.YtdnkkbmpefhbjaaGreatDoor
namespace Go.Proofs.YtdnkkbmpefhbjaaGreatDoor
set_option linter.all false
open Go Go.RowKit Alg
theorem jErr_rng (n : Nat) (N : Int) (v : Nat → Nat) : 0 ≤ jErr n N v ∧ jErr n N v ≤ 100 := by
  unfold jErr
  repeat' split
  all_goals omega
section
variable {la : Option Addr} {m lc : Nat} {S : Nat → Shr} {w : World} (HS : (shareR la m lc S).ok w) (HL : Laid w) (HO : ShOk S m)
include HS HL HO
theorem valN_bad (hz : csErr S m ≠ 0) : Calls Tryz.prog 41 #[.pointer none, .slice la m lc] w fun e w' => e = .returned (.tuple #[.slice none 0 0, .int .i64 (csErr S m)]) ∧ Below w.heap.size w w' :=
  (values_bad m lc la S none w (sat_in HS HL) hr0 hr1 HO hz).mono fun _ _ h => ⟨h.1, h.2.fin.toBelow⟩
theorem comN_bad (hz : csErr S m ≠ 0) : Calls Tryz.prog 44 #[.pointer none, .slice la m lc] w fun e w' => e = .returned (.tuple #[.slice none 0 0, .int .i64 (csErr S m)]) ∧ Below w.heap.size w w' :=
  (combine_bad m lc la S none w (sat_in HS HL) hr0 hr1 HO hz).mono fun _ _ h => ⟨h.1, h.2.fin.toBelow⟩
theorem atN_bad (ix : Int) (hz : csErr S m ≠ 0) : Calls Tryz.prog 47 #[.pointer none, .slice la m lc, .int .i64 ix] w fun e w' => e = .returned (.tuple #[shareZ, .int .i64 (csErr S m)]) ∧ Below w.heap.size w w' :=
  (at_bad m lc la S none ix w (sat_in HS HL) hr0 hr1 HO hz).mono fun _ _ h => ⟨h.1, h.2.fin.toBelow⟩
variable {s : Bool} (g : Good s S m) (hz : csErr S m = 0) (hm : m ≤ 255)
include g hz hm
theorem atN_ix (ix : Int) (hix : ¬ (1 ≤ ix ∧ ix ≤ 255)) : Calls Tryz.prog 47 #[.pointer none, .slice la m lc, .int .i64 ix] w fun e w' => e = .returned (.tuple #[shareZ, .int .i64 12]) ∧ Below w.heap.size w w' :=
  (at_ix s m lc la S none ix w (sat_in HS HL) hr0 hr1 HO g hz hm hix).mono fun _ _ h => ⟨h.1, h.2.fin.toBelow⟩
variable (hn9 : (S 0).n ≤ 4)
include hn9
theorem valuesN : Calls Tryz.prog 41 #[.pointer none, .slice la m lc] w fun e w' => ∃ a c, e = .returned (.tuple #[.slice a (S 0).n c, .int .i64 0]) ∧ Sat no w [row 56 4 (.slice a (S 0).n c) (S 0).n (en vq (fun i => mq (valZ s S (thN S) i)) (S 0).n)] [] w' :=
  (values_m s m lc la S none [] nores w (sat_in HS HL).none hr0 hr1 HO g hz hm hn9 rfl (by decide)).mono fun _ _ h => by
    obtain ⟨r, a, c, h1, h2, h3⟩ := h
    obtain rfl := h2
    exact ⟨a, c, h1, sat_out h3⟩
theorem combN : Calls Tryz.prog 44 #[.pointer none, .slice la m lc] w fun e w' => ∃ a k c, e = .returned (.tuple #[.slice a k c, .int .i64 (jErr (S 0).n (S 0).L (valN s S (thN S)))]) ∧ Sat no w [row 5 1 (.slice a k c) k (el bc (jBytes (S 0).n (S 0).L (valN s S (thN S))))] [] w' :=
  (combine_m s m lc la S none [] nores w (sat_in HS HL).none hr0 hr1 HO g hz hm hn9 rfl (by decide)).mono fun _ _ h => by
    obtain ⟨r, a, k, c, h1, h2, h3⟩ := h
    obtain rfl := h2
    exact ⟨a, k, c, h1, sat_out h3⟩
theorem atN (ix : Nat) (hi1 : 1 ≤ ix) (hi2 : ix ≤ 255) : Calls Tryz.prog 47 #[.pointer none, .slice la m lc, .int .i64 ((ix : Nat) : Int)] w fun e w' => ∃ a c, e = .returned (.tuple #[.agg #[.int .i64 (S 0).F, .int .i64 (S 0).T, .int .i64 ((ix : Nat) : Int), .int .i64 (S 0).L, .slice a (S 0).n c], .int .i64 0]) ∧ Sat no w [row 56 4 (.slice a (S 0).n c) (S 0).n (en vq (fun i => mq (atZ s S (thN S) (zn s ix) i)) (S 0).n)] [] w' :=
  (at_m s m lc la S none [] nores ix w (sat_in HS HL).none hr0 hr1 HO g hz hm hn9 rfl (by decide) hi1 hi2).mono fun _ _ h => by
    obtain ⟨r, a, c, h1, h2, h3⟩ := h
    obtain rfl := h2
    exact ⟨a, c, h1, sat_out h3⟩
end
theorem Good.at_eq {s : Bool} {S : Nat → Shr} {m : Nat} (g : Good s S m) (x : Zp s) (k : Nat) : atZ s S (thN S) x k = rEv (polF s S (thN S) k) x (thN S) := by
  have ht := g.th_le
  unfold atZ polF
  rw [Hn_ev, Sg_ev]
  exact Sg_congr fun i hi => itp_rip (g.fap.le ht.2) hi
/-! A share whose cells lie in a block of their own. -/
theorem one_share {x : Shr} {b T : Nat} {w : World} (h : (blk b (shc x) T).ok w) (hp : (payR x).ok w) : (shareR (some ⟨b, 0, none⟩) 1 1 (fun _ => x)).ok w := by
  intro y hy
  simp only [List.mem_cons, List.not_mem_nil, or_false] at hy
  rcases hy with rfl | rfl
  · have e : en shc (fun _ : Nat => x) 1 = shc x := by simp [en]
    show LstAt w 5 _ 1 (en shc (fun _ : Nat => x) 1)
    rw [e]
    exact blk_lst h (shc_len x) (Nat.le_refl _)
  · intro y hy
    obtain ⟨k, hk, rfl⟩ := List.mem_map.1 hy
    exact hp
/-! The examples. -/
section
variable {y0 y1 y2 a0 a1 a2 : Nat}
theorem sh2_good : Good false (sh3 y0 y1 y2 a0 a1 a2) 2 where
  m0 := by decide
  F _ _ := rfl
  T _ _ := rfl
  Lq _ _ := rfl
  n _ _ := rfl
  idx i hi := by show 1 ≤ (i : Int) + 1 ∧ (i : Int) + 1 ≤ 255; omega
  app i k h _ := by show (i : Int) + 1 ≠ (k : Int) + 1; omega
  X _ _ _ _ := mq_lt _
  t1 := by show (1 : Int) ≤ 2; decide
  tm := by show (2 : Int) ≤ 2; decide
  l0 := by show (0 : Int) ≤ 1; decide
  l1 := by show (1 : Int) ≤ 65535; decide
  cn := by show 1 = cn 1; decide
theorem sh2_err : csErr (sh3 y0 y1 y2 a0 a1 a2) 2 = 0 := sh2_good.err (by show (2 : Int) ≤ 255; decide)
theorem sh2_ok : ShOk (sh3 y0 y1 y2 a0 a1 a2) 2 := ⟨by decide, fun _ _ => by show (1 : Nat) ≤ 100000000; decide, fun _ _ _ _ => mq_lt4 _⟩
theorem sh2_itp {k : Nat} (hk : k < 2) : itp (pt false (vI (sh3 8 11 y2 a0 a1 a2))) (clz false (sh3 8 11 y2 a0 a1 a2) 0) 2 2 k = p53 k := itp_of sh2_good.fap (fun j hj => by
  rw [sh3_clz, sh3_pt]
  match j, hj with
  | 0, _ => exact p53_0
  | 1, _ => exact p53_1) hk
theorem sh2_val : valZ false (sh3 8 11 y2 a0 a1 a2) 2 0 = zn false 5 := by
  unfold valZ
  rw [dot_itp 2 (by decide), sh2_itp (by decide)]
  rfl
theorem sh2_at : atZ false (sh3 8 11 y2 a0 a1 a2) 2 (zn false 3) 0 = zn false 14 := by
  unfold atZ
  rw [Hn_ev, Sg_congr (d := p53) (fun k hk => sh2_itp hk)]
  exact p53_2
theorem valN_zv {s : Bool} {S : Nat → Shr} {m i : Nat} : valN s S m i = zv (valZ s S m i) := rfl
theorem zn_lit5 : zv (zn false 5) = 5 := zn_lit (by decide)
theorem sh2_vN : valN false (sh3 8 11 y2 a0 a1 a2) 2 0 = 5 := by
  rw [valN_zv, sh2_val]
  exact zn_lit5
theorem jErr_5 {v : Nat → Nat} (h : v 0 = 5) : jErr 1 1 v = 0 := by
  have ok : okC (Int.toNat 1) v (List.range 1) := fun i hi => by
    obtain rfl : i = 0 := by have := List.mem_range.1 hi; omega
    rw [h]
    exact fun j h1 _ => by unfold byt; rw [Nat.div_eq_of_lt (Nat.lt_of_lt_of_le (by decide : 5 < 256 ^ 1) (Nat.pow_le_pow_right (by decide) h1))]
  unfold jErr
  rw [if_pos (by decide), if_pos (by decide), if_pos ok]
theorem jBytes_5 {v : Nat → Nat} (h : v 0 = 5) : jBytes 1 1 v = [5] := by
  unfold jBytes
  rw [if_pos (jErr_5 h)]
  show (List.range 1).flatMap (fun i => (List.range (cz 1 i)).map (byt (v i))) = [5]
  show (List.range (cz 1 0)).map (byt (v 0)) ++ [] = [5]
  rw [h]
  decide
end
end Go.Proofs.YtdnkkbmpefhbjaaGreatDoor
namespace Go.Proofs.YtdnkkbmpefhbjaaGreatDoor
set_option linter.all false
open Go Go.RowKit Alg
theorem sh2_cells {y0 y1 y2 a0 a1 a2 : Nat} : en shc (sh3 y0 y1 y2 a0 a1 a2) 2 = [.int .i64 1, .int .i64 2, .int .i64 1, .int .i64 1, .slice (some ⟨a0, 0, none⟩) 1 1, .int .i64 1, .int .i64 2, .int .i64 2, .int .i64 1, .slice (some ⟨a1, 0, none⟩) 1 1] := rfl
section
variable {b a0 a1 a2 y2 TB TP : Nat} {w : World}
theorem sh2_in {y0 y1 : Nat} (h : (blk b [.int .i64 1, .int .i64 2, .int .i64 1, .int .i64 1, .slice (some ⟨a0, 0, none⟩) 1 1, .int .i64 1, .int .i64 2, .int .i64 2, .int .i64 1, .slice (some ⟨a1, 0, none⟩) 1 1] TB).ok w)
    (h0 : (blk a0 (vq (mq (zn false y0))) TP).ok w) (h1 : (blk a1 (vq (mq (zn false y1))) TP).ok w) : (shareR (some ⟨b, 0, none⟩) 2 2 (sh3 y0 y1 0 a0 a1 0)).ok w := by
  intro x hx
  simp only [List.mem_cons, List.not_mem_nil, or_false] at hx
  rcases hx with rfl | rfl
  · exact blk_lst (by rw [sh2_cells]; exact h) (en_len shc_len) (Nat.le_refl _)
  · intro y hy
    obtain ⟨k, hk, rfl⟩ := List.mem_map.1 hy
    have hk' := List.mem_range.1 hk
    match k, hk' with
    | 0, _ => exact blk_lst h0 rfl (Nat.le_refl _)
    | 1, _ => exact blk_lst h1 rfl (Nat.le_refl _)
variable (HS : (shareR (some ⟨b, 0, none⟩) 2 2 (sh3 8 11 0 a0 a1 0)).ok w) (HL : Laid w)
include HS HL
theorem alVal : Calls Tryz.prog 41 #[.pointer none, .slice (some ⟨b, 0, none⟩) 2 2] w fun e w' => ∃ a c, e = .returned (.tuple #[.slice a 1 c, .int .i64 0]) ∧ Sat no w [row 56 4 (.slice a 1 c) 1 (en vq (fun _ => mq (zn false 5)) 1)] [] w' := by
  have h := valuesN HS HL sh2_ok sh2_good sh2_err (by decide) (by show (1 : Nat) ≤ 4; decide)
  have e : en vq (fun i => mq (valZ false (sh3 8 11 0 a0 a1 0) 2 i)) 1 = en vq (fun _ => mq (zn false 5)) 1 := en_congr fun i hi => by rw [Nat.lt_one_iff.1 hi, sh2_val]
  refine h.mono fun _ _ h => ?_
  obtain ⟨a, c, h1, h2⟩ := h
  refine ⟨a, c, h1, ?_⟩
  rw [← e]
  exact h2
theorem alCom : Calls Tryz.prog 44 #[.pointer none, .slice (some ⟨b, 0, none⟩) 2 2] w fun e w' => ∃ a k c, e = .returned (.tuple #[.slice a k c, .int .i64 0]) ∧ Sat no w [row 5 1 (.slice a k c) k (el bc [5])] [] w' := by
  have h := combN HS HL sh2_ok sh2_good sh2_err (by decide) (by show (1 : Nat) ≤ 4; decide)
  refine h.mono fun _ _ h => ?_
  obtain ⟨a, k, c, h1, h2⟩ := h
  have e1 : jErr 1 1 (valN false (sh3 8 11 0 a0 a1 0) 2) = 0 := jErr_5 sh2_vN
  have e2 : jBytes 1 1 (valN false (sh3 8 11 0 a0 a1 0) 2) = [5] := jBytes_5 sh2_vN
  have h1' : _ = Ending.returned (.tuple #[.slice a k c, .int .i64 (jErr 1 1 (valN false (sh3 8 11 0 a0 a1 0) 2))]) := h1
  have h2' : Sat no w [row 5 1 (.slice a k c) k (el bc (jBytes 1 1 (valN false (sh3 8 11 0 a0 a1 0) 2)))] [] _ := h2
  rw [e1] at h1'
  rw [e2] at h2'
  exact ⟨a, k, c, h1', h2'⟩
theorem alAt : Calls Tryz.prog 47 #[.pointer none, .slice (some ⟨b, 0, none⟩) 2 2, .int .i64 3] w fun e w' => ∃ a c, e = .returned (.tuple #[.agg #[.int .i64 1, .int .i64 2, .int .i64 3, .int .i64 1, .slice a 1 c], .int .i64 0]) ∧ Sat no w [row 56 4 (.slice a 1 c) 1 (en vq (fun _ => mq (zn false 14)) 1)] [] w' := by
  have h := atN HS HL sh2_ok sh2_good sh2_err (by decide) (by show (1 : Nat) ≤ 4; decide) 3 (by decide) (by decide)
  have e : en vq (fun i => mq (atZ false (sh3 8 11 0 a0 a1 0) 2 (zn false 3) i)) 1 = en vq (fun _ => mq (zn false 14)) 1 := en_congr fun i hi => by rw [Nat.lt_one_iff.1 hi, sh2_at]
  refine h.mono fun _ _ h => ?_
  obtain ⟨a, c, h1, h2⟩ := h
  refine ⟨a, c, h1, ?_⟩
  rw [← e]
  exact h2
end
theorem litE {w : World} {b x T : Nat} (h : (blk b (vq x) T).ok w) : LstAt w 4 (.slice (some ⟨b, 0, none⟩) 1 1) 1 (en vq (fun _ => x) 1) := by
  have e : en vq (fun _ : Nat => x) 1 = vq x := by simp [en]
  rw [e]
  exact blk_lst h (vq_len x) (Nat.le_refl _)
theorem lit5 {w : World} {a : Option Addr} {c : Nat} (h : LstAt w 1 (.slice a 1 c) 1 [.int .u8 5]) : LstAt w 1 (.slice a 1 c) 1 (el bc [5]) := h
theorem alive17_s (v pb : Nat) (W : World) (HP : (blk pb (vq (pr false)) 47).ok W) (hv : v < 1000) : Calls Tryz.prog 76 [.int .u64 ((v : Nat) : Int), .pointer (some ⟨pb, 0, none⟩)].toArray W fun e w => ∃ b, e = .returned (.slice (some ⟨b, 0, none⟩) 1 1) ∧ Sat no W [blk b (vq (mq (zn false v))) 56] [] w := by
 refine c_enter (args := [.int .u64 ((v : Nat) : Int), .pointer (some ⟨pb, 0, none⟩)]) Tryz.func76 rfl rfl rfl fun a hk => ?_
 have hs := Sat.start W [blk pb [.int .u64 ((dg 0 (pr false) : Nat) : Int), .int .u64 ((dg 1 (pr false) : Nat) : Int), .int .u64 ((dg 2 (pr false) : Nat) : Int), .int .u64 ((dg 3 (pr false) : Nat) : Int)] 47] (okr1 HP)
 refine wS (wR ?_)
 refine q_v hk (w_as rfl) fun a hk => ?_
 refine c_end (x_t (wS (wR ?_)))
 refine q_v hk (w_ldv (z := pr false) rfl ty47 (.blk (n := 4) (hs.ri 0 rfl) rfl)) fun a hk => ?_
 refine q_v hk (w_mv rfl) fun a hk => ?_
 refine q_v hk (w_bldv1 (k := v) rfl (by omega) (by unfold Go.Proofs.YtdnkkbmpefhbjaaGreatDoor.W; omega) Tryz.underlying47 ty46 zr47) fun a hk => ?_
 refine q_call (caps := []) hk rfl rfl Tryz.func43 fo43 rfl rfl (rform_s v hv _) ?_
 rintro _ w ⟨rfl, hb⟩
 have hs := hs.below hb
 refine ⟨_, rfl, fun a hk => ?_⟩
 refine q_bsl (els := [.tmp 7]) (cs := [.int .u64 ((dg 0 (mq (zn false v)) : Nat) : Int), .int .u64 ((dg 1 (mq (zn false v)) : Nat) : Int), .int .u64 ((dg 2 (mq (zn false v)) : Nat) : Int), .int .u64 ((dg 3 (mq (zn false v)) : Nat) : Int)]) hk hs rfl Tryz.underlying51 ty56 zr56 rfl rfl rfl rfl rfl rfl rfl fun b1 w a hk hs => ?_
 refine q_v hk (w_as rfl) fun a hk => ?_
 refine c_end (x_t ?_)
 refine (wpIn_ret ?_)
 refine c_ret1 hk rfl rfl ?_
 exact ⟨_, rfl, hs.fin⟩
theorem eqE_c (n lc yc : Nat) (la ya : Option Addr) (f : Nat → Nat) (W : World) (HX : LstAt W 4 (.slice la n lc) n (en vq f n)) (HY : LstAt W 4 (.slice ya n yc) n (en vq f n)) (hn : n ≤ 1000000) (hf : ∀ i, i < n → f i < R4) : Calls Tryz.prog 77 [.slice la n lc, .slice ya n yc].toArray W fun e w => e = .returned (.bool true) ∧ Below W.heap.size W w := by
 refine c_enter (args := [.slice la n lc, .slice ya n yc]) Tryz.func77 rfl rfl rfl fun a hk => ?_
 have hs := Sat.start W [lst 4 (.slice la n lc) n (en vq (fun i => f i) n), lst 4 (.slice ya n yc) n (en vq (fun i => f i) n)] (okrc HX (okr1 HY))
 refine wS (wR ?_)
 refine q_v hk (w_as rfl) fun a hk => ?_
 refine c_end (x_t (wS (wS (wR ?_))))
 refine q_v hk (w_mv rfl) fun a hk => ?_
 refine q_v hk (w_len rfl Tryz.underlying51) fun a hk => ?_
 refine q_v hk (w_mv rfl) fun a hk => ?_
 refine q_v hk (w_len rfl Tryz.underlying51) fun a hk => ?_
 refine q_v hk (w_ne rfl rfl (decide_eq_false (by omega))) fun a hk => ?_
 refine c_end (x_t ?_)
 refine c_F hk rfl ?_
 refine (wpIn_skip (x_t ?_))
 refine wS (wS (wR ?_))
 refine q_v hk (w_mv rfl) fun a hk => ?_
 refine q_v hk (w_len rfl Tryz.underlying51) fun a hk => ?_
 refine q_v hk (w_mv rfl) fun a hk => ?_
 refine c_end (x_t ?_)
 refine wpIn_block ?_
 refine c_loop (α := Nat) (fun k a w => k ≤ n ∧ Kn [] 26 [(13, .int .i64 ((k : Nat) : Int)), (12, .int .i64 ((n : Nat) : Int)), (0, .slice la n lc), (1, .slice ya n yc)] a ∧ Sat no W [] [lst 4 (.slice la n lc) n (en vq (fun i => f i) n), lst 4 (.slice ya n yc) n (en vq (fun i => f i) n)] w) (fun k => n - k) 0 ?_ ?_
 · exact ⟨(by omega), hk.k rfl (hk.k rfl (hk.k rfl (hk.k rfl hk.nil))), hs⟩
 rintro k a w ⟨hf0, hk, hs⟩
 refine wS (wR ?_)
 rcases Classical.em (((k : Nat) : Int) < ((n : Nat) : Int)) with hc1 | hc1
 ·
  have hlt : k < n := by omega
  refine q_v hk (w_lt rfl rfl (decide_eq_true hc1)) fun a hk => ?_
  refine c_end (x_t (wS ?_))
  refine c_T hk rfl ?_
  refine (wpIn_skip (x_t ?_))
  refine wS ?_
  refine wpIn_block ?_
  refine wS (wR ?_)
  refine q_v hk (w_mv rfl) fun a hk => ?_
  refine q_v hk (w_as rfl) fun a hk => ?_
  refine c_end (x_t (wS ?_))
  have hL := okL.cons (hs.ri 0 rfl) (okL.cons (hs.ri 1 rfl) okL.nil)
  refine d_begin _ 9 (by kernel_rfl) rfl hs hL fun w hs hL => ?_
  refine d_w 0 1 hk hL rfl (fun w hL => w_mv rfl) fun a hk => ?_
  refine d_w 1 3 hk hL rfl (fun w hL => w_mv rfl) fun a hk => ?_
  refine d_w 2 7 hk hL rfl (fun w hL => w_iaL (k := k) rfl rfl Tryz.underlying51 ty56 (hL.at 0 rfl) (by omega) (by omega)) fun a hk => ?_
  refine d_w 3 15 hk hL rfl (fun w hL => w_ldv (z := f k) rfl ty56 (lstq (k := k) (hL.at 0 rfl) (by omega) (en_chunk vq_len (by omega)))) fun a hk => ?_
  refine d_w 4 31 hk hL rfl (fun w hL => w_mv rfl) fun a hk => ?_
  refine d_w 5 63 hk hL rfl (fun w hL => w_mv rfl) fun a hk => ?_
  refine d_w 6 127 hk hL rfl (fun w hL => w_iaL (k := k) rfl rfl Tryz.underlying51 ty56 (hL.at 1 rfl) (by omega) (by omega)) fun a hk => ?_
  refine d_w 7 255 hk hL rfl (fun w hL => w_ldv (z := f k) rfl ty56 (lstq (k := k) (hL.at 1 rfl) (by omega) (en_chunk vq_len (by omega)))) fun a hk => ?_
  refine d_w 8 511 hk hL rfl (fun w hL => w_vne rfl rfl (hf k hlt) (hf k hlt) Tryz.underlying56 Tryz.underlying46 ty46 eg56 (decide_eq_false (fun h => h rfl))) fun a hk => ?_
  refine d_end (by kernel_rfl) ?_
  refine (x_t ?_)
  refine c_F hk rfl ?_
  refine (wpIn_skip (x_b (x_t ?_)))
  refine wR ?_
  refine q_v hk (w_add rfl rfl (wr64 (by omega) (by omega))) fun a hk => ?_
  refine q_v hk (w_mv rfl) fun a hk => ?_
  refine c_end (x_t ?_)
  exact ⟨k + 1, ⟨(by omega), hk.k rfl (hk.k rfl (hk.k rfl (hk.k rfl hk.nil))), hs⟩, by omega⟩
 ·
  refine q_v hk (w_lt rfl rfl (decide_eq_false hc1)) fun a hk => ?_
  refine c_end (x_t (wS ?_))
  refine c_F hk rfl ?_
  refine (wpIn_exit (x_te (x_te (x_be ?_))))
  refine (x_t ?_)
  refine wS (wR ?_)
  refine q_v hk (w_as rfl) fun a hk => ?_
  refine c_end (x_t ?_)
  refine (wpIn_ret ?_)
  refine c_ret1 hk rfl rfl ?_
  exact ⟨rfl, hs.toBelow⟩
theorem alive17_c  (W : World) (HL : Laid W) : Calls Tryz.prog 40 [].toArray W fun e w => e = .returned (.bool true) ∧ Below W.heap.size W w := by
 refine c_enter (args := []) Tryz.func40 rfl rfl rfl fun a hk => ?_
 have hs := Sat.start W [] (fun _ h => by cases h)
 refine wS (wR ?_)
 refine q_v hk (w_as rfl) fun a hk => ?_
 refine c_end (x_t (wS (wR ?_)))
 refine q_call (caps := []) hk rfl rfl Tryz.func28 fo28 rfl rfl (rmodulus_z (s := false) rfl _) ?_
 rintro _ w ⟨rfl, hb⟩
 have hs := hs.below hb
 refine ⟨_, rfl, fun a hk => ?_⟩
 refine q_alc (vs := [.int .u64 0, .int .u64 0, .int .u64 0, .int .u64 0]) hk hs zr47 rfl rfl rfl fun b1 w a hk hs => ?_
 refine q_sto (o := 0) (cs := [.int .u64 ((dg 0 (pr false) : Nat) : Int), .int .u64 ((dg 1 (pr false) : Nat) : Int), .int .u64 ((dg 2 (pr false) : Nat) : Int), .int .u64 ((dg 3 (pr false) : Nat) : Int)]) (vs' := [.int .u64 ((dg 0 (pr false) : Nat) : Int), .int .u64 ((dg 1 (pr false) : Nat) : Int), .int .u64 ((dg 2 (pr false) : Nat) : Int), .int .u64 ((dg 3 (pr false) : Nat) : Int)]) hk hs rfl rfl rfl ty47 rfl rfl rfl rfl rfl rfl fun w hs => ?_
 refine c_end (x_t (wS (wR ?_)))
 refine q_v hk (w_mkf (frees := [.tmp 1]) rfl) fun a hk => ?_
 refine q_v hk (w_as rfl) fun a hk => ?_
 refine c_end (x_t (wS (wR ?_)))
 refine q_v hk (w_mv rfl) fun a hk => ?_
 refine q_call (caps := [.pointer (some ⟨b1, 0, none⟩)]) hk rfl rfl Tryz.func76 fo76 rfl rfl (alive17_s 8 b1 _ (hs.mi 0 rfl) (by decide)) ?_
 rintro _ w ⟨b2, rfl, hS⟩
 have hs := hs.call1 hS
 clear hS
 refine ⟨_, rfl, fun a hk => ?_⟩
 refine q_v hk (w_bld rfl fl53 zr53 rfl rfl) fun a hk => ?_
 refine q_v hk (w_mv rfl) fun a hk => ?_
 refine q_call (caps := [.pointer (some ⟨b1, 0, none⟩)]) hk rfl rfl Tryz.func76 fo76 rfl rfl (alive17_s 11 b1 _ (hs.mi 1 rfl) (by decide)) ?_
 rintro _ w ⟨b3, rfl, hS⟩
 have hs := hs.call1 hS
 clear hS
 refine ⟨_, rfl, fun a hk => ?_⟩
 refine q_v hk (w_bld rfl fl53 zr53 rfl rfl) fun a hk => ?_
 refine q_bsl (els := [.tmp 14, .tmp 17]) (cs := [.int .i64 1, .int .i64 2, .int .i64 1, .int .i64 1, .slice (some ⟨b2, 0, none⟩) 1 1, .int .i64 1, .int .i64 2, .int .i64 2, .int .i64 1, .slice (some ⟨b3, 0, none⟩) 1 1]) hk hs rfl Tryz.underlying22 ty53 zr53 rfl rfl rfl rfl rfl rfl rfl fun b4 w a hk hs => ?_
 refine q_v hk (w_as rfl) fun a hk => ?_
 refine c_end (x_t (wS (wR ?_)))
 refine q_v hk (w_mv rfl) fun a hk => ?_
 refine q_call (caps := []) hk rfl rfl Tryz.func41 fo41 rfl rfl (alVal (sh2_in (y0 := 8) (y1 := 11) (hs.mi 0 rfl) (hs.mi 2 rfl) (hs.mi 1 rfl)) (HL.step hs.toBelow)) ?_
 rintro _ w ⟨a5, c6, rfl, hS⟩
 have hs := hs.call1 hS
 clear hS
 refine ⟨_, rfl, fun a hk => ?_⟩
 refine q_v hk (w_mv rfl) fun a hk => ?_
 refine q_v hk (w_ext rfl rfl) fun a hk => ?_
 refine q_v hk (w_ext rfl rfl) fun a hk => ?_
 refine q_v hk (w_as rfl) fun a hk => ?_
 refine q_v hk (w_as rfl) fun a hk => ?_
 refine c_end (x_t (wS (wR ?_)))
 refine q_v hk (w_mv rfl) fun a hk => ?_
 refine q_call (caps := []) hk rfl rfl Tryz.func44 fo44 rfl rfl (alCom (sh2_in (y0 := 8) (y1 := 11) (hs.mi 1 rfl) (hs.mi 3 rfl) (hs.mi 2 rfl)) (HL.step hs.toBelow)) ?_
 rintro _ w ⟨a7, k8, c9, rfl, hS⟩
 have hs := hs.call1 hS
 clear hS
 refine ⟨_, rfl, fun a hk => ?_⟩
 refine q_v hk (w_mv rfl) fun a hk => ?_
 refine q_v hk (w_ext rfl rfl) fun a hk => ?_
 refine q_v hk (w_ext rfl rfl) fun a hk => ?_
 refine q_v hk (w_as rfl) fun a hk => ?_
 refine q_v hk (w_as rfl) fun a hk => ?_
 refine c_end (x_t (wS (wR ?_)))
 refine q_v hk (w_mv rfl) fun a hk => ?_
 refine q_call (caps := []) hk rfl rfl Tryz.func47 fo47 rfl rfl (alAt (sh2_in (y0 := 8) (y1 := 11) (hs.mi 2 rfl) (hs.mi 4 rfl) (hs.mi 3 rfl)) (HL.step hs.toBelow)) ?_
 rintro _ w ⟨a10, c11, rfl, hS⟩
 have hs := hs.call1 hS
 clear hS
 refine ⟨_, rfl, fun a hk => ?_⟩
 refine q_v hk (w_mv rfl) fun a hk => ?_
 refine q_v hk (w_ext rfl rfl) fun a hk => ?_
 refine q_v hk (w_ext rfl rfl) fun a hk => ?_
 refine q_alc (vs := [.int .i64 0, .int .i64 0, .int .i64 0, .int .i64 0, .slice none 0 0]) hk hs zr53 rfl rfl rfl fun b12 w a hk hs => ?_
 refine q_sto (o := 0) (cs := [.int .i64 1, .int .i64 2, .int .i64 3, .int .i64 1, .slice a10 1 c11]) (vs' := [.int .i64 1, .int .i64 2, .int .i64 3, .int .i64 1, .slice a10 1 c11]) hk hs rfl rfl rfl ty53 rfl rfl rfl rfl rfl rfl fun w hs => ?_
 refine q_v hk (w_as rfl) fun a hk => ?_
 refine c_end (x_t (wS ?_))
 have hL := okL.cons (hs.mi 0 rfl) okL.nil
 refine d_begin _ 34 (by kernel_rfl) rfl hs hL fun w hs hL => ?_
 refine d_w 0 1 hk hL rfl (fun w hL => w_mv rfl) fun a hk => ?_
 refine d_w 1 3 hk hL rfl (fun w hL => w_eq rfl rfl (decide_eq_true (by decide))) fun a hk => ?_
 refine d_w 2 7 hk hL rfl (fun w hL => w_mv rfl) fun a hk => ?_
 refine d_w 3 15 hk hL rfl (fun w hL => w_mv rfl) fun a hk => ?_
 refine d_w 4 31 hk hL rfl (fun w hL => w_mv rfl) fun a hk => ?_
 refine d_1 5 63 rfl (by kernel_rfl) fun K hK => ?_
 refine q_call (caps := [.pointer (some ⟨b1, 0, none⟩)]) hk rfl rfl Tryz.func76 fo76 rfl rfl (alive17_s 5 b1 _ (hs.mi 7 rfl) (by decide)) ?_
 rintro _ w ⟨b1_5, rfl, hS⟩
 have hs := hs.call1 hS
 clear hS
 refine ⟨_, rfl, fun a hk => ?_⟩
 have hL := okL.cons (hs.mi 1 rfl) okL.nil
 refine c_end (x_t (hK _ _ hL ?_))
 clear hK K
 refine d_1 6 127 rfl (by kernel_rfl) fun K hK => ?_
 refine q_call (caps := []) hk rfl rfl Tryz.func77 fo77 rfl rfl (eqE_c 1 c6 1 a5 (some ⟨b1_5, 0, none⟩) (fun _ => mq (zn false 5)) _ (row_lst (hs.mi 4 rfl)) (litE (hs.mi 0 rfl)) (by decide) (fun _ _ => mq_lt4 _)) ?_
 rintro _ w ⟨rfl, hb⟩
 have hs := hs.below hb
 refine ⟨_, rfl, fun a hk => ?_⟩
 have hL := okL.cons (hs.mi 1 rfl) okL.nil
 refine c_end (x_t (hK _ _ hL ?_))
 clear hK K
 refine d_w 7 255 hk hL rfl (fun w hL => w_pickT rfl rfl) fun a hk => ?_
 refine d_w 8 511 hk hL rfl (fun w hL => w_mv rfl) fun a hk => ?_
 refine d_w 9 1023 hk hL rfl (fun w hL => w_mv rfl) fun a hk => ?_
 refine d_w 10 2047 hk hL rfl (fun w hL => w_eq rfl rfl (decide_eq_true (by decide))) fun a hk => ?_
 refine d_w 11 4095 hk hL rfl (fun w hL => w_pickT rfl rfl) fun a hk => ?_
 refine d_w 12 8191 hk hL rfl (fun w hL => w_mv rfl) fun a hk => ?_
 refine d_w 13 16383 hk hL rfl (fun w hL => w_mv rfl) fun a hk => ?_
 refine d_1 14 32767 rfl (by kernel_rfl) fun K hK => ?_
 refine q_bsl (els := [.const (.int .u8 5)]) (cs := [.int .u8 5]) hk hs rfl Tryz.underlying42 ty5 zr5 rfl rfl rfl rfl rfl rfl rfl fun b1_14 w a hk hs => ?_
 have hL := okL.cons (hs.mi 2 rfl) okL.nil
 refine c_end (x_t (hK _ _ hL ?_))
 clear hK K
 refine d_1 15 65535 rfl (by kernel_rfl) fun K hK => ?_
 refine q_call (caps := []) hk rfl rfl Tryz.func46 fo46 rfl rfl (bytesEqQ _ a7 (some ⟨b1_14, 0, none⟩) k8 c9 1 1 [5] [5] (row_lst (hs.mi 4 rfl)) (lit5 (blk_lst (hs.mi 0 rfl) rfl (Nat.le_refl _))) rfl) ?_
 rintro _ _ ⟨rfl, rfl⟩
 refine ⟨_, rfl, fun a hk => ?_⟩
 have hL := okL.cons (hs.mi 2 rfl) okL.nil
 refine c_end (x_t (hK _ _ hL ?_))
 clear hK K
 refine d_w 16 131071 hk hL rfl (fun w hL => w_pickT rfl rfl) fun a hk => ?_
 refine d_w 17 262143 hk hL rfl (fun w hL => w_mv rfl) fun a hk => ?_
 refine d_w 18 524287 hk hL rfl (fun w hL => w_mv rfl) fun a hk => ?_
 refine d_w 19 1048575 hk hL rfl (fun w hL => w_eq rfl rfl (decide_eq_true (by decide))) fun a hk => ?_
 refine d_w 20 2097151 hk hL rfl (fun w hL => w_pickT rfl rfl) fun a hk => ?_
 refine d_w 21 4194303 hk hL rfl (fun w hL => w_mv rfl) fun a hk => ?_
 refine d_w 22 8388607 hk hL rfl (fun w hL => w_fa rfl fq53_2 ty3) fun a hk => ?_
 refine d_w 23 16777215 hk hL rfl (fun w hL => w_ld1 rfl ty3 (.blk (n := 1) (hL.at 0 rfl) rfl)) fun a hk => ?_
 refine d_w 24 33554431 hk hL rfl (fun w hL => w_eq rfl rfl (decide_eq_true (by decide))) fun a hk => ?_
 refine d_w 25 67108863 hk hL rfl (fun w hL => w_pickT rfl rfl) fun a hk => ?_
 refine d_w 26 134217727 hk hL rfl (fun w hL => w_mv rfl) fun a hk => ?_
 refine d_w 27 268435455 hk hL rfl (fun w hL => w_fa rfl fq53_4 ty51) fun a hk => ?_
 refine d_w 28 536870911 hk hL rfl (fun w hL => w_ld1 rfl ty51 (.blk (n := 1) (hL.at 0 rfl) rfl)) fun a hk => ?_
 refine d_w 29 1073741823 hk hL rfl (fun w hL => w_mv rfl) fun a hk => ?_
 refine d_1 30 2147483647 rfl (by kernel_rfl) fun K hK => ?_
 refine q_call (caps := [.pointer (some ⟨b1, 0, none⟩)]) hk rfl rfl Tryz.func76 fo76 rfl rfl (alive17_s 14 b1 _ (hs.mi 9 rfl) (by decide)) ?_
 rintro _ w ⟨b1_30, rfl, hS⟩
 have hs := hs.call1 hS
 clear hS
 refine ⟨_, rfl, fun a hk => ?_⟩
 have hL := okL.cons (hs.mi 3 rfl) okL.nil
 refine c_end (x_t (hK _ _ hL ?_))
 clear hK K
 refine d_1 31 4294967295 rfl (by kernel_rfl) fun K hK => ?_
 refine q_call (caps := []) hk rfl rfl Tryz.func77 fo77 rfl rfl (eqE_c 1 c11 1 a10 (some ⟨b1_30, 0, none⟩) (fun _ => mq (zn false 14)) _ (row_lst (hs.mi 4 rfl)) (litE (hs.mi 0 rfl)) (by decide) (fun _ _ => mq_lt4 _)) ?_
 rintro _ w ⟨rfl, hb⟩
 have hs := hs.below hb
 refine ⟨_, rfl, fun a hk => ?_⟩
 have hL := okL.cons (hs.mi 3 rfl) okL.nil
 refine c_end (x_t (hK _ _ hL ?_))
 clear hK K
 refine d_w 32 8589934591 hk hL rfl (fun w hL => w_pickT rfl rfl) fun a hk => ?_
 refine d_w 33 17179869183 hk hL rfl (fun w hL => w_as rfl) fun a hk => ?_
 refine d_end (by kernel_rfl) ?_
 refine (x_t ?_)
 refine (wpIn_ret ?_)
 refine c_ret1 hk rfl rfl ?_
 exact ⟨rfl, hs.toBelow⟩
end Go.Proofs.YtdnkkbmpefhbjaaGreatDoor
namespace Go.Proofs.YtdnkkbmpefhbjaaGreatDoor
set_option linter.all false
open Go Go.RowKit Alg
theorem lstNil {α : Type} {w : World} {s : Nat} {c : α → List Value} {f : Nat → α} : LstAt w s (.slice none 0 0) 0 (en c f 0) := ⟨by simp [en], none, 0, rfl, Nat.le_refl _, fun _ => ⟨rfl, rfl⟩, fun ad h => by cases h⟩
end Go.Proofs.YtdnkkbmpefhbjaaGreatDoor
