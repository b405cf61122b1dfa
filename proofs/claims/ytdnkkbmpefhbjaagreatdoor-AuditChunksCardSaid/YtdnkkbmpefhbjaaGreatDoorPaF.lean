/- Part 6 of what the proof of AuditConsistent, AuditChunks, AuditSuspects needs: joined out of the texts of this seat, only what is used. -/
import Derived.Test.YtdnkkbmpefhbjaaGreatDoorPaE
import Derived.Test.YtdnkkbmpefhbjaaGreatDoorRows
import Derived.WalkKit
import Derived.ProofKit
import Derived.LaidMore
import Derived.OpenShut
import Derived.ShutString
import Derived.ChangeOld
import Derived.Below
namespace Go.Proofs.YtdnkkbmpefhbjaaGreatDoor
set_option linter.all false
open Go Go.RowKit Alg
section
variable {P : Program} {G : List (Nat × Value)} {w : World} {d : Option Nat} {T : Nat} {p : String} {e : Array Edge} {g : Option (Nat × Bool)} {x y : Operand} {tx ty : TypeId} {a b t : Bool}
theorem w_bne (hx : evq G x = some (.bool a)) (hy : evq G y = some (.bool b)) (ht : P.underlying tx = some .bool) (hr : (a != b) = t) : Wq P G ⟨d, .binOp .neq tx x y ty, T, p, e, g⟩ (.bool t) w w := .of2 hx hy fun ev h1 h2 => by
  have hr' : (!(a == b)) = t := hr
  simp [execOp, h1, h2, binOp, eqGuard, run_equal_bool w tx a b ht, hr', Sem.run_pure, go_sem]
theorem w_beq (hx : evq G x = some (.bool a)) (hy : evq G y = some (.bool b)) (ht : P.underlying tx = some .bool) (hr : (a == b) = t) : Wq P G ⟨d, .binOp .eql tx x y ty, T, p, e, g⟩ (.bool t) w w := .of2 hx hy fun ev h1 h2 => by
  simp [execOp, h1, h2, binOp, eqGuard, run_equal_bool w tx a b ht, hr, Sem.run_pure, go_sem]
end
/-- What Large says. -/
def lrg (S : Nat → Shr) (m : Nat) : Int := if 12 < m then 1 else if allB (fun q => decide ((S q).n ≤ 4)) m = true then 0 else 1
theorem lrg_le {S : Nat → Shr} {m : Nat} (h : ¬ 0 < lrg S m) : m ≤ 12 ∧ ∀ k, k < m → (S k).n ≤ 4 := by
  unfold lrg at h
  by_cases h1 : 12 < m
  · rw [if_pos h1] at h; exact absurd (by decide) h
  · rw [if_neg h1] at h
    by_cases h2 : allB (fun q => decide ((S q).n ≤ 4)) m = true
    · exact ⟨by omega, fun k hk => of_decide_eq_true ((allB_iff _ m).1 h2 k hk)⟩
    · rw [if_neg h2] at h; exact absurd (by decide) h
theorem shErr_rng (F T I L : Int) (n : Nat) (X : Nat → Nat) : 0 ≤ shErr F T I L n X ∧ shErr F T I L n X ≤ 100 := by
  unfold shErr
  repeat' split
  all_goals omega
theorem csE_rng (S : Nat → Shr) : ∀ m, 0 ≤ csE S m ∧ csE S m ≤ 100
  | 0 => by show (0 : Int) ≤ 0 ∧ (0 : Int) ≤ 100; omega
  | m + 1 => by
    show 0 ≤ (if csE S m ≠ 0 then csE S m else shE (S m)) ∧ (if csE S m ≠ 0 then csE S m else shE (S m)) ≤ 100
    split
    · exact csE_rng S m
    · exact shErr_rng _ _ _ _ _ _
theorem csErr_rng (S : Nat → Shr) (m : Nat) : 0 ≤ csErr S m ∧ csErr S m ≤ 100 := by
  unfold csErr
  have := csE_rng S m
  repeat' split
  all_goals omega
theorem shok_of {S : Nat → Shr} {m : Nat} (h : m ≤ 12 ∧ ∀ k, k < m → (S k).n ≤ 4) (hx : ∀ k, k < m → ∀ i, i < (S k).n → (S k).X i < R4) : ShOk S m := ⟨by omega, fun k hk => by have := h.2 k hk; omega, hx⟩
section
variable {la : Option Addr} {m lc : Nat} {S : Nat → Shr} {w : World}
theorem sat_in (HS : (shareR la m lc S).ok w) (HL : Laid w) : Sat no w [] [shareR la m lc S, laidR] w := Sat.start w _ (fun r hr => by
  simp only [List.mem_cons, List.not_mem_nil, or_false] at hr
  rcases hr with rfl | rfl
  · exact HS
  · exact HL)
theorem hr0 : HasR (shareR la m lc S) [shareR la m lc S, laidR] := .head
theorem hr1 : HasR laidR [shareR la m lc S, laidR] := HasR.nth 1 rfl
theorem sat_out {M : List Res} {w' : World} (hs : Sat no w (nores :: M) [shareR la m lc S, laidR] w') : Sat no w M [] w' := hs.drop.fin
variable (HS : (shareR la m lc S).ok w) (HL : Laid w) (HO : ShOk S m)
include HS HL HO
theorem consN_bad (hz : csErr S m ≠ 0) : Calls Tryz.prog 17 #[.pointer none, .slice la m lc] w fun e w' => e = .returned (.tuple #[.bool false, .int .i64 (csErr S m)]) ∧ Below w.heap.size w w' :=
  (cons_bad m lc la S none w (sat_in HS HL) hr0 hr1 HO hz).mono fun _ _ h => ⟨h.1, h.2.fin.toBelow⟩
theorem achN_bad (hz : csErr S m ≠ 0) : Calls Tryz.prog 20 #[.pointer none, .slice la m lc] w fun e w' => e = .returned (.tuple #[.slice none 0 0, .int .i64 (csErr S m)]) ∧ Below w.heap.size w w' :=
  (achunks_bad m lc la S none w (sat_in HS HL) hr0 hr1 HO hz).mono fun _ _ h => ⟨h.1, h.2.fin.toBelow⟩
theorem susN_bad (hz : csErr S m ≠ 0) : Calls Tryz.prog 23 #[.pointer none, .slice la m lc] w fun e w' => e = .returned (.tuple #[.slice none 0 0, .int .i64 (csErr S m)]) ∧ Below w.heap.size w w' :=
  (sus_bad m lc la S none w (sat_in HS HL) hr0 hr1 HO hz).mono fun _ _ h => ⟨h.1, h.2.fin.toBelow⟩
variable {s : Bool} (g : Good s S m) (hz : csErr S m = 0) (hm : m ≤ 255) (hn9 : (S 0).n ≤ 4)
include g hz hm hn9
theorem consN : Calls Tryz.prog 17 #[.pointer none, .slice la m lc] w fun e w' => e = .returned (.tuple #[.bool (conB s S m), .int .i64 0]) ∧ Below w.heap.size w w' :=
  (cons_m s m lc la S none [] nores w (sat_in HS HL).none hr0 hr1 HO g hz hm hn9 rfl (by decide)).mono fun _ _ h => by
    obtain ⟨r, h1, h2, h3⟩ := h
    obtain rfl := h2
    exact ⟨h1, (sat_out h3).toBelow⟩
theorem achN : Calls Tryz.prog 20 #[.pointer none, .slice la m lc] w fun e w' => ∃ b, e = .returned (.tuple #[.slice (some ⟨b, 0, none⟩) (S 0).n (S 0).n, .int .i64 0]) ∧ Sat no w [blk b (en boc (fitB s S m) (S 0).n) 4] [] w' :=
  (achunks_m s m lc la S none [] nores w (sat_in HS HL).none hr0 hr1 HO g hz hm hn9 rfl (by decide)).mono fun _ _ h => by
    obtain ⟨r, b, h1, h2, h3⟩ := h
    obtain rfl := h2
    exact ⟨b, h1, sat_out h3⟩
end
section
variable {la : Option Addr} {m lc : Nat} {S : Nat → Shr} {w : World} (HS : (shareR la m lc S).ok w) (HL : Laid w) (HO : ShOk S m) {s : Bool} (g : Good s S m) (hz : csErr S m = 0) (hm : m ≤ 8) (hn9 : (S 0).n ≤ 4)
include HS HL HO g hz hm hn9
theorem susN_few (hf : ((m : Nat) : Int) ≤ (S 0).T) : Calls Tryz.prog 23 #[.pointer none, .slice la m lc] w fun e w' => e = .returned (.tuple #[.slice none 0 0, .int .i64 16]) ∧ Below w.heap.size w w' :=
  (sus_few m lc la S none w (sat_in HS HL) hr0 hr1 HO hz g.m0 (by omega) hf).mono fun _ _ h => ⟨h.1, h.2.fin.toBelow⟩
theorem susN (hf : (S 0).T < ((m : Nat) : Int)) : Calls Tryz.prog 23 #[.pointer none, .slice la m lc] w fun e w' => ∃ a n c, e = .returned (.tuple #[.slice a n c, .int .i64 0]) ∧ Sat no w [row 3 1 (.slice a n c) n (el ic (susL s S m m))] [] w' :=
  (sus_m s m lc la S none [] nores w (sat_in HS HL).none hr0 hr1 HO g hz hm hn9 hf rfl (by decide)).mono fun _ _ h => by
    obtain ⟨r, a, n, c, h1, h2, h3⟩ := h
    obtain rfl := h2
    exact ⟨a, n, c, h1, sat_out h3⟩
end
theorem large_c (m lc : Nat) (la : Option Addr) (S : Nat → Shr) (W : World) (HS : (shareR la m lc S).ok W) : Calls Tryz.prog 15 [.slice la m lc].toArray W fun e w => e = .returned (.int .i64 (lrg S m)) ∧ Below W.heap.size W w := by
  refine c_enter (args := [.slice la m lc]) Tryz.func15 rfl rfl rfl fun a hk => ?_
  have hs := Sat.start W [shareR la m lc S] (okr1 HS)
  refine wpIn_seq ?_
  refine wpIn_region_lit ?_
  refine q_val hk (w_as rfl) rfl rfl rfl fun a hk => ?_
  refine (c_end (x_t ?_))
  refine wpIn_seq ?_
  refine wpIn_seq ?_
  refine wpIn_region_lit ?_
  refine q_val hk (w_mv rfl) rfl rfl rfl fun a hk => ?_
  refine q_val hk (w_len rfl Tryz.underlying22) rfl rfl rfl fun a hk => ?_
  rcases Classical.em (12 < ((m : Nat) : Int)) with hc1 | hc1
  · skip
    refine q_val hk (w_gt rfl rfl (decide_eq_true hc1)) rfl rfl rfl fun a hk => ?_
    refine (c_end (x_t ?_))
    refine c_T hk rfl ?_
    refine wpIn_seq ?_
    refine wpIn_region_lit ?_
    refine q_val hk (w_as rfl) rfl rfl rfl fun a hk => ?_
    refine (c_end (x_t ?_))
    refine (wpIn_ret (x_tr ?_))
    refine c_ret1 hk rfl rfl ?_
    first | exact ⟨by unfold lrg; rw [if_pos (by omega)], hs.toBelow⟩ | exact ⟨by unfold lrg; rw [if_neg (by omega), if_neg (by rw [allB_F (f := fun q => decide ((S q).n ≤ 4)) (k := k) (decide_eq_false (by omega)) (by omega)]; exact Bool.false_ne_true)], hs.toBelow⟩
  · skip
    refine q_val hk (w_gt rfl rfl (decide_eq_false hc1)) rfl rfl rfl fun a hk => ?_
    refine (c_end (x_t ?_))
    refine c_F hk rfl ?_
    refine (wpIn_skip (x_t ?_))
    refine wpIn_seq ?_
    refine wpIn_seq ?_
    refine wpIn_region_lit ?_
    refine q_val hk (w_mv rfl) rfl rfl rfl fun a hk => ?_
    refine q_val hk (w_len rfl Tryz.underlying22) rfl rfl rfl fun a hk => ?_
    refine q_val hk (w_mv rfl) rfl rfl rfl fun a hk => ?_
    refine (c_end (x_t ?_))
    refine wpIn_block ?_
    refine c_loop (α := Nat) (fun k a w => k ≤ m ∧ allB (fun q => decide ((S q).n ≤ 4)) k = true ∧ Kn [] 19 [(10, .int .i64 ((k : Nat) : Int)), (9, .int .i64 ((m : Nat) : Int)), (8, .slice la m lc)] a ∧ Sat no W [] [shareR la m lc S] w) (fun k => m - k) 0 ?_ ?_
    · exact ⟨(by omega), rfl, hk.k rfl (hk.k rfl (hk.k rfl hk.nil)), hs⟩
    rintro k a w ⟨hf0, hf1, hk, hs⟩
    refine wpIn_seq ?_
    refine wpIn_region_lit ?_
    rcases Classical.em (((k : Nat) : Int) < ((m : Nat) : Int)) with hc2 | hc2
    · skip
      refine q_val hk (w_lt rfl rfl (decide_eq_true hc2)) rfl rfl rfl fun a hk => ?_
      refine (c_end (x_t ?_))
      refine wpIn_seq ?_
      refine c_T hk rfl ?_
      refine (wpIn_skip (x_t ?_))
      refine wpIn_seq ?_
      refine wpIn_block ?_
      refine wpIn_seq ?_
      refine wpIn_region_lit ?_
      refine q_val hk (w_iaL (k := k) rfl rfl Tryz.underlying22 ty53 ((share_lst (HasR.nth 0 rfl : HasR (shareR la m lc S) _)).at_ hs) (by omega) (by omega)) rfl rfl rfl fun a hk => ?_
      refine q_val hk (w_ldA rfl ty53 (lstq (k := k) ((share_lst (HasR.nth 0 rfl : HasR (shareR la m lc S) _)).at_ hs) (by omega) (en_chunk shc_len (by omega))) rfl) rfl rfl rfl fun a hk => ?_
      refine q_alc (vs := [.int .i64 0, .int .i64 0, .int .i64 0, .int .i64 0, .slice none 0 0]) hk hs zr53 rfl rfl rfl fun b3 w a hk hs => ?_
      refine q_sto (o := 0) (cs := [.int .i64 ((S k).F), .int .i64 ((S k).T), .int .i64 ((S k).I), .int .i64 ((S k).L), .slice ((S k).a) ((S k).n) ((S k).c)]) (vs' := [.int .i64 ((S k).F), .int .i64 ((S k).T), .int .i64 ((S k).I), .int .i64 ((S k).L), .slice ((S k).a) ((S k).n) ((S k).c)]) hk hs rfl rfl rfl ty53 rfl rfl rfl rfl rfl rfl fun w hs => ?_
      refine (c_end (x_t ?_))
      refine wpIn_seq ?_
      refine wpIn_region_lit ?_
      refine q_val hk (w_fa rfl fq53_4 ty51) rfl rfl rfl fun a hk => ?_
      refine q_val hk (w_ld1 rfl ty51 (.blk (n := 1) (hs.mi 0 rfl) rfl)) rfl rfl rfl fun a hk => ?_
      refine q_val hk (w_len rfl Tryz.underlying51) rfl rfl rfl fun a hk => ?_
      rcases Classical.em (4 < (((S k).n : Nat) : Int)) with hc4 | hc4
      · skip
        refine q_val hk (w_gt rfl rfl (decide_eq_true hc4)) rfl rfl rfl fun a hk => ?_
        refine (c_end (x_t ?_))
        refine c_T hk rfl ?_
        refine wpIn_seq ?_
        refine wpIn_region_lit ?_
        refine q_val hk (w_as rfl) rfl rfl rfl fun a hk => ?_
        refine (c_end (x_t ?_))
        refine (wpIn_ret (x_br (x_tr (x_tr (x_br (x_tr ?_))))))
        refine c_ret1 hk rfl rfl ?_
        first | exact ⟨by unfold lrg; rw [if_pos (by omega)], hs.toBelow⟩ | exact ⟨by unfold lrg; rw [if_neg (by omega), if_neg (by rw [allB_F (f := fun q => decide ((S q).n ≤ 4)) (k := k) (decide_eq_false (by omega)) (by omega)]; exact Bool.false_ne_true)], hs.toBelow⟩
      · skip
        have hnx : allB (fun q => decide ((S q).n ≤ 4)) (k + 1) = true := by simp only [allB, hf1, decide_eq_true_eq, Bool.true_and]; omega
        refine q_val hk (w_gt rfl rfl (decide_eq_false hc4)) rfl rfl rfl fun a hk => ?_
        refine (c_end (x_t ?_))
        refine c_F hk rfl ?_
        refine (wpIn_skip (x_b (x_t ?_)))
        refine wpIn_region_lit ?_
        refine q_val hk (w_add rfl rfl (wr64 (by omega) (by omega))) rfl rfl rfl fun a hk => ?_
        refine q_val hk (w_mv rfl) rfl rfl rfl fun a hk => ?_
        refine (c_end (x_t ?_))
        have hs := hs.drop
        exact ⟨k + 1, ⟨(by omega), hnx, hk.k rfl (hk.k rfl (hk.k rfl hk.nil)), hs⟩, by omega⟩
    · skip
      refine q_val hk (w_lt rfl rfl (decide_eq_false hc2)) rfl rfl rfl fun a hk => ?_
      refine (c_end (x_t ?_))
      refine wpIn_seq ?_
      refine c_F hk rfl ?_
      refine (wpIn_exit (x_te (x_te (x_be ?_))))
      refine (x_t ?_)
      refine wpIn_seq ?_
      refine wpIn_region_lit ?_
      refine q_val hk (w_as rfl) rfl rfl rfl fun a hk => ?_
      refine (c_end (x_t ?_))
      refine (wpIn_ret ?_)
      refine c_ret1 hk rfl rfl ?_
      exact ⟨by unfold lrg; rw [if_neg (by omega), if_pos (by rw [show m = k by omega]; exact hf1)], hs.toBelow⟩
theorem eqB_c (n lc yc : Nat) (la ya : Option Addr) (f : Nat → Bool) (W : World) (HX : LstAt W 1 (.slice la n lc) n (en boc f n)) (HY : LstAt W 1 (.slice ya n yc) n (en boc f n)) (hn : n ≤ 1000000) : Calls Tryz.prog 21 [.slice la n lc, .slice ya n yc].toArray W fun e w => e = .returned (.bool true) ∧ Below W.heap.size W w := by
  refine c_enter (args := [.slice la n lc, .slice ya n yc]) Tryz.func21 rfl rfl rfl fun a hk => ?_
  have hs := Sat.start W [lst 1 (.slice la n lc) n (en boc (fun i => f i) n), lst 1 (.slice ya n yc) n (en boc (fun i => f i) n)] (okrc HX (okr1 HY))
  refine wpIn_seq ?_
  refine wpIn_region_lit ?_
  refine q_val hk (w_as rfl) rfl rfl rfl fun a hk => ?_
  refine (c_end (x_t ?_))
  refine wpIn_seq ?_
  refine wpIn_seq ?_
  refine wpIn_region_lit ?_
  refine q_val hk (w_mv rfl) rfl rfl rfl fun a hk => ?_
  refine q_val hk (w_len rfl Tryz.underlying29) rfl rfl rfl fun a hk => ?_
  refine q_val hk (w_mv rfl) rfl rfl rfl fun a hk => ?_
  refine q_val hk (w_len rfl Tryz.underlying29) rfl rfl rfl fun a hk => ?_
  refine q_val hk (w_ne rfl rfl (decide_eq_false (by omega))) rfl rfl rfl fun a hk => ?_
  refine (c_end (x_t ?_))
  refine c_F hk rfl ?_
  refine (wpIn_skip (x_t ?_))
  refine wpIn_seq ?_
  refine wpIn_seq ?_
  refine wpIn_region_lit ?_
  refine q_val hk (w_mv rfl) rfl rfl rfl fun a hk => ?_
  refine q_val hk (w_len rfl Tryz.underlying29) rfl rfl rfl fun a hk => ?_
  refine q_val hk (w_mv rfl) rfl rfl rfl fun a hk => ?_
  refine (c_end (x_t ?_))
  refine wpIn_block ?_
  refine c_loop (α := Nat) (fun k a w => k ≤ n ∧ Kn [] 26 [(13, .int .i64 ((k : Nat) : Int)), (12, .int .i64 ((n : Nat) : Int)), (0, .slice la n lc), (1, .slice ya n yc)] a ∧ Sat no W [] [lst 1 (.slice la n lc) n (en boc (fun i => f i) n), lst 1 (.slice ya n yc) n (en boc (fun i => f i) n)] w) (fun k => n - k) 0 ?_ ?_
  · exact ⟨(by omega), hk.k rfl (hk.k rfl (hk.k rfl (hk.k rfl hk.nil))), hs⟩
  rintro k a w ⟨hf0, hk, hs⟩
  refine wpIn_seq ?_
  refine wpIn_region_lit ?_
  rcases Classical.em (((k : Nat) : Int) < ((n : Nat) : Int)) with hc1 | hc1
  · skip
    refine q_val hk (w_lt rfl rfl (decide_eq_true hc1)) rfl rfl rfl fun a hk => ?_
    refine (c_end (x_t ?_))
    refine wpIn_seq ?_
    refine c_T hk rfl ?_
    refine (wpIn_skip (x_t ?_))
    refine wpIn_seq ?_
    refine wpIn_block ?_
    refine wpIn_seq ?_
    refine wpIn_region_lit ?_
    refine q_val hk (w_mv rfl) rfl rfl rfl fun a hk => ?_
    refine q_val hk (w_as rfl) rfl rfl rfl fun a hk => ?_
    refine (c_end (x_t ?_))
    refine wpIn_seq ?_
    have hL := okL.cons (hs.ri 0 rfl) (okL.cons (hs.ri 1 rfl) okL.nil)
    refine d_begin _ 9 (by kernel_rfl) rfl hs hL fun w hs hL => ?_
    refine d_v 0 1 hk hL rfl (by kernel_rfl) rfl rfl (fun w hL => w_mv rfl) fun a hk => ?_
    refine d_v 1 3 hk hL rfl (by kernel_rfl) rfl rfl (fun w hL => w_mv rfl) fun a hk => ?_
    refine d_v 2 7 hk hL rfl (by kernel_rfl) rfl rfl (fun w hL => w_iaL (k := k) rfl rfl Tryz.underlying29 ty4 (hL.at 0 rfl) (by omega) (by omega)) fun a hk => ?_
    refine d_v 3 15 hk hL rfl (by kernel_rfl) rfl rfl (fun w hL => w_ld1 rfl ty4 (lstq (k := k) (hL.at 0 rfl) (by omega) (en_chunk boc_len (by omega)))) fun a hk => ?_
    refine d_v 4 31 hk hL rfl (by kernel_rfl) rfl rfl (fun w hL => w_mv rfl) fun a hk => ?_
    refine d_v 5 63 hk hL rfl (by kernel_rfl) rfl rfl (fun w hL => w_mv rfl) fun a hk => ?_
    refine d_v 6 127 hk hL rfl (by kernel_rfl) rfl rfl (fun w hL => w_iaL (k := k) rfl rfl Tryz.underlying29 ty4 (hL.at 1 rfl) (by omega) (by omega)) fun a hk => ?_
    refine d_v 7 255 hk hL rfl (by kernel_rfl) rfl rfl (fun w hL => w_ld1 rfl ty4 (lstq (k := k) (hL.at 1 rfl) (by omega) (en_chunk boc_len (by omega)))) fun a hk => ?_
    refine d_v 8 511 hk hL rfl (by kernel_rfl) rfl rfl (fun w hL => w_bne (t := false) rfl rfl Tryz.underlying4 (by simp)) fun a hk => ?_
    refine d_end (by kernel_rfl) ?_
    refine (x_t ?_)
    refine c_F hk rfl ?_
    refine (wpIn_skip (x_b (x_t ?_)))
    refine wpIn_region_lit ?_
    refine q_val hk (w_add rfl rfl (wr64 (by omega) (by omega))) rfl rfl rfl fun a hk => ?_
    refine q_val hk (w_mv rfl) rfl rfl rfl fun a hk => ?_
    refine (c_end (x_t ?_))
    exact ⟨k + 1, ⟨(by omega), hk.k rfl (hk.k rfl (hk.k rfl (hk.k rfl hk.nil))), hs⟩, by omega⟩
  · skip
    refine q_val hk (w_lt rfl rfl (decide_eq_false hc1)) rfl rfl rfl fun a hk => ?_
    refine (c_end (x_t ?_))
    refine wpIn_seq ?_
    refine c_F hk rfl ?_
    refine (wpIn_exit (x_te (x_te (x_be ?_))))
    refine (x_t ?_)
    refine wpIn_seq ?_
    refine wpIn_region_lit ?_
    refine q_val hk (w_as rfl) rfl rfl rfl fun a hk => ?_
    refine (c_end (x_t ?_))
    refine (wpIn_ret ?_)
    refine c_ret1 hk rfl rfl ?_
    exact ⟨rfl, hs.toBelow⟩
theorem eqI_c (n lc yc : Nat) (la ya : Option Addr) (f : Nat → Int) (W : World) (HX : LstAt W 1 (.slice la n lc) n (en ic f n)) (HY : LstAt W 1 (.slice ya n yc) n (en ic f n)) (hn : n ≤ 1000000) : Calls Tryz.prog 25 [.slice la n lc, .slice ya n yc].toArray W fun e w => e = .returned (.bool true) ∧ Below W.heap.size W w := by
  refine c_enter (args := [.slice la n lc, .slice ya n yc]) Tryz.func25 rfl rfl rfl fun a hk => ?_
  have hs := Sat.start W [lst 1 (.slice la n lc) n (en ic (fun i => f i) n), lst 1 (.slice ya n yc) n (en ic (fun i => f i) n)] (okrc HX (okr1 HY))
  refine wpIn_seq ?_
  refine wpIn_region_lit ?_
  refine q_val hk (w_as rfl) rfl rfl rfl fun a hk => ?_
  refine (c_end (x_t ?_))
  refine wpIn_seq ?_
  refine wpIn_seq ?_
  refine wpIn_region_lit ?_
  refine q_val hk (w_mv rfl) rfl rfl rfl fun a hk => ?_
  refine q_val hk (w_len rfl Tryz.underlying34) rfl rfl rfl fun a hk => ?_
  refine q_val hk (w_mv rfl) rfl rfl rfl fun a hk => ?_
  refine q_val hk (w_len rfl Tryz.underlying34) rfl rfl rfl fun a hk => ?_
  refine q_val hk (w_ne rfl rfl (decide_eq_false (by omega))) rfl rfl rfl fun a hk => ?_
  refine (c_end (x_t ?_))
  refine c_F hk rfl ?_
  refine (wpIn_skip (x_t ?_))
  refine wpIn_seq ?_
  refine wpIn_seq ?_
  refine wpIn_region_lit ?_
  refine q_val hk (w_mv rfl) rfl rfl rfl fun a hk => ?_
  refine q_val hk (w_len rfl Tryz.underlying34) rfl rfl rfl fun a hk => ?_
  refine q_val hk (w_mv rfl) rfl rfl rfl fun a hk => ?_
  refine (c_end (x_t ?_))
  refine wpIn_block ?_
  refine c_loop (α := Nat) (fun k a w => k ≤ n ∧ Kn [] 26 [(13, .int .i64 ((k : Nat) : Int)), (12, .int .i64 ((n : Nat) : Int)), (0, .slice la n lc), (1, .slice ya n yc)] a ∧ Sat no W [] [lst 1 (.slice la n lc) n (en ic (fun i => f i) n), lst 1 (.slice ya n yc) n (en ic (fun i => f i) n)] w) (fun k => n - k) 0 ?_ ?_
  · exact ⟨(by omega), hk.k rfl (hk.k rfl (hk.k rfl (hk.k rfl hk.nil))), hs⟩
  rintro k a w ⟨hf0, hk, hs⟩
  refine wpIn_seq ?_
  refine wpIn_region_lit ?_
  rcases Classical.em (((k : Nat) : Int) < ((n : Nat) : Int)) with hc1 | hc1
  · skip
    refine q_val hk (w_lt rfl rfl (decide_eq_true hc1)) rfl rfl rfl fun a hk => ?_
    refine (c_end (x_t ?_))
    refine wpIn_seq ?_
    refine c_T hk rfl ?_
    refine (wpIn_skip (x_t ?_))
    refine wpIn_seq ?_
    refine wpIn_block ?_
    refine wpIn_seq ?_
    refine wpIn_region_lit ?_
    refine q_val hk (w_mv rfl) rfl rfl rfl fun a hk => ?_
    refine q_val hk (w_as rfl) rfl rfl rfl fun a hk => ?_
    refine (c_end (x_t ?_))
    refine wpIn_seq ?_
    have hL := okL.cons (hs.ri 0 rfl) (okL.cons (hs.ri 1 rfl) okL.nil)
    refine d_begin _ 9 (by kernel_rfl) rfl hs hL fun w hs hL => ?_
    refine d_v 0 1 hk hL rfl (by kernel_rfl) rfl rfl (fun w hL => w_mv rfl) fun a hk => ?_
    refine d_v 1 3 hk hL rfl (by kernel_rfl) rfl rfl (fun w hL => w_mv rfl) fun a hk => ?_
    refine d_v 2 7 hk hL rfl (by kernel_rfl) rfl rfl (fun w hL => w_iaL (k := k) rfl rfl Tryz.underlying34 ty3 (hL.at 0 rfl) (by omega) (by omega)) fun a hk => ?_
    refine d_v 3 15 hk hL rfl (by kernel_rfl) rfl rfl (fun w hL => w_ld1 rfl ty3 (lstq (k := k) (hL.at 0 rfl) (by omega) (en_chunk ic_len (by omega)))) fun a hk => ?_
    refine d_v 4 31 hk hL rfl (by kernel_rfl) rfl rfl (fun w hL => w_mv rfl) fun a hk => ?_
    refine d_v 5 63 hk hL rfl (by kernel_rfl) rfl rfl (fun w hL => w_mv rfl) fun a hk => ?_
    refine d_v 6 127 hk hL rfl (by kernel_rfl) rfl rfl (fun w hL => w_iaL (k := k) rfl rfl Tryz.underlying34 ty3 (hL.at 1 rfl) (by omega) (by omega)) fun a hk => ?_
    refine d_v 7 255 hk hL rfl (by kernel_rfl) rfl rfl (fun w hL => w_ld1 rfl ty3 (lstq (k := k) (hL.at 1 rfl) (by omega) (en_chunk ic_len (by omega)))) fun a hk => ?_
    refine d_v 8 511 hk hL rfl (by kernel_rfl) rfl rfl (fun w hL => w_ne (t := false) rfl rfl (by simp)) fun a hk => ?_
    refine d_end (by kernel_rfl) ?_
    refine (x_t ?_)
    refine c_F hk rfl ?_
    refine (wpIn_skip (x_b (x_t ?_)))
    refine wpIn_region_lit ?_
    refine q_val hk (w_add rfl rfl (wr64 (by omega) (by omega))) rfl rfl rfl fun a hk => ?_
    refine q_val hk (w_mv rfl) rfl rfl rfl fun a hk => ?_
    refine (c_end (x_t ?_))
    exact ⟨k + 1, ⟨(by omega), hk.k rfl (hk.k rfl (hk.k rfl (hk.k rfl hk.nil))), hs⟩, by omega⟩
  · skip
    refine q_val hk (w_lt rfl rfl (decide_eq_false hc1)) rfl rfl rfl fun a hk => ?_
    refine (c_end (x_t ?_))
    refine wpIn_seq ?_
    refine c_F hk rfl ?_
    refine (wpIn_exit (x_te (x_te (x_be ?_))))
    refine (x_t ?_)
    refine wpIn_seq ?_
    refine wpIn_region_lit ?_
    refine q_val hk (w_as rfl) rfl rfl rfl fun a hk => ?_
    refine (c_end (x_t ?_))
    refine (wpIn_ret ?_)
    refine c_ret1 hk rfl rfl ?_
    exact ⟨rfl, hs.toBelow⟩
end Go.Proofs.YtdnkkbmpefhbjaaGreatDoor
namespace Go.Proofs.YtdnkkbmpefhbjaaGreatDoor
set_option linter.all false
open Go Go.RowKit Alg
theorem zn_lit {v : Nat} (hv : v < 1000) : zv (zn false v) = v := Nat.mod_eq_of_lt (Nat.lt_trans hv (pr_big false))
theorem rform_s (v : Nat) (hv : v < 1000) (w : World) : Calls Tryz.prog 43 #[vec (pr false), vec v] w fun e w' => e = .returned (vec (mq (zn false v))) ∧ Below w.heap.size w w' := by
  exact rform_z w (zn_lit hv).symm
def pk3 {α : Type} (y0 y1 y2 : α) (i : Nat) : α := if i = 0 then y0 else if i = 1 then y1 else y2
/-- Three shares of the examples. -/
def sh3 (y0 y1 y2 a0 a1 a2 : Nat) (i : Nat) : Shr := ⟨1, 2, (i : Int) + 1, 1, 1, fun _ => mq (zn false (pk3 y0 y1 y2 i)), some ⟨pk3 a0 a1 a2 i, 0, none⟩, 1⟩
section
variable {y0 y1 y2 a0 a1 a2 : Nat}
theorem sh3_good : Good false (sh3 y0 y1 y2 a0 a1 a2) 3 where
  m0 := by decide
  F _ _ := rfl
  T _ _ := rfl
  Lq _ _ := rfl
  n _ _ := rfl
  idx i hi := by show 1 ≤ (i : Int) + 1 ∧ (i : Int) + 1 ≤ 255; omega
  app i k h _ := by show (i : Int) + 1 ≠ (k : Int) + 1; omega
  X _ _ _ _ := mq_lt _
  t1 := by show (1 : Int) ≤ 2; decide
  tm := by show (2 : Int) ≤ 3; decide
  l0 := by show (0 : Int) ≤ 1; decide
  l1 := by show (1 : Int) ≤ 65535; decide
  cn := by show 1 = cn 1; decide
theorem sh3_err : csErr (sh3 y0 y1 y2 a0 a1 a2) 3 = 0 := sh3_good.err (by show (2 : Int) ≤ 255; decide)
theorem sh3_ok : ShOk (sh3 y0 y1 y2 a0 a1 a2) 3 := ⟨by decide, fun _ _ => by show (1 : Nat) ≤ 100000000; decide, fun _ _ _ _ => mq_lt4 _⟩
theorem sh3_clz (ch i : Nat) : clz false (sh3 y0 y1 y2 a0 a1 a2) ch i = zn false (pk3 y0 y1 y2 i) := mz_of _
theorem sh3_pt (i : Nat) : pt false (vI (sh3 y0 y1 y2 a0 a1 a2)) i = zn false (i + 1) := rfl
/-- The polynomial 5 + 3 X. -/
def p53 (k : Nat) : Zp false := if k = 0 then zn false 5 else zn false 3
theorem p53_0 : Sg p53 (pw (zn false 1)) 2 = zn false 8 := by decide +kernel
theorem p53_1 : Sg p53 (pw (zn false 2)) 2 = zn false 11 := by decide +kernel
theorem p53_2 : Sg p53 (pw (zn false 3)) 2 = zn false 14 := by decide +kernel
theorem n14_15 : zn false 14 ≠ zn false 15 := by decide +kernel
theorem aliveA : conB false (sh3 8 11 14 a0 a1 a2) 3 = true := by
  refine (allB_iff _ _).2 fun k hk => ?_
  refine fits_of (c := p53) (th := 2) sh3_good.fap (by decide) fun j hj => ?_
  rw [sh3_clz, sh3_pt]
  match j, hj with
  | 0, _ => exact p53_0
  | 1, _ => exact p53_1
  | 2, _ => exact p53_2
theorem aliveB' : fitB false (sh3 8 11 15 a0 a1 a2) 3 0 = false := by
  cases h : fitB false (sh3 8 11 15 a0 a1 a2) 3 0 with
  | false => rfl
  | true =>
    exfalso
    have g := sh3_good (y0 := 8) (y1 := 11) (y2 := 15) (a0 := a0) (a1 := a1) (a2 := a2)
    have h2 := (fits_iff (th := 2) g.fap (by decide)).1 h
    have ha : Fap (pt false (vI (sh3 8 11 15 a0 a1 a2))) 2 := g.fap.le (by decide)
    have e : ∀ k, k < 2 → rip (pt false (vI (sh3 8 11 15 a0 a1 a2))) (clz false (sh3 8 11 15 a0 a1 a2) 0) 2 2 k = p53 k := fun k hk => same_val ha (fun j hj => by
      rw [rip_val ha hj, sh3_clz, sh3_pt]
      match j, hj with
      | 0, _ => exact p53_0.symm
      | 1, _ => exact p53_1.symm) hk
    have h3 := h2 2 (by decide)
    have h4 : Sg (rip (pt false (vI (sh3 8 11 15 a0 a1 a2))) (clz false (sh3 8 11 15 a0 a1 a2) 0) 2 2) (pw (pt false (vI (sh3 8 11 15 a0 a1 a2)) 2)) 2 = clz false (sh3 8 11 15 a0 a1 a2) 0 2 := h3
    rw [Sg_congr e, sh3_clz, sh3_pt] at h4
    exact n14_15 (p53_2.symm.trans h4)
theorem aliveB : conB false (sh3 8 11 15 a0 a1 a2) 3 = false := by
  refine Bool.eq_false_iff.2 fun h => ?_
  have h0 := (allB_iff _ _).1 h 0 (by show (0 : Nat) < 1; decide)
  rw [aliveB'] at h0
  cases h0
theorem conB_few {s : Bool} {S : Nat → Shr} {m : Nat} (h : m ≤ thN S) : conB s S m = true := (allB_iff _ _).2 fun k _ => belZ_iff.2 fun j h1 h2 => by omega
theorem susL_all {s : Bool} {S : Nat → Shr} {m : Nat} : ∀ k, (∀ j, j < k → conB s (wo S j) (j + (m - (j + 1))) = true) → susL s S m k = (List.range k).map fun i => ((i : Nat) : Int)
  | 0, _ => rfl
  | k + 1, h => by
    show (if _ then susL s S m k ++ [(k : Int)] else _) = _
    rw [if_pos (h k (Nat.lt_succ_self k)), susL_all k fun j hj => h j (by omega), List.range_succ, List.map_append]
    rfl
theorem aliveS : susL false (sh3 8 11 15 a0 a1 a2) 3 3 = (List.range 3).map fun i => ((i : Nat) : Int) := by
  have h : ∀ k, k < 3 → conB false (wo (sh3 8 11 15 a0 a1 a2) k) (k + (3 - (k + 1))) = true := fun k hk => conB_few (by
    have e : thN (wo (sh3 8 11 15 a0 a1 a2) k) = 2 := by unfold thN wo; split <;> rfl
    rw [e]; omega)
  exact susL_all 3 fun k hk => h k (by omega)
theorem sh3_shareR {b TB TP : Nat} {w : World} (h : (blk b (en shc (sh3 y0 y1 y2 a0 a1 a2) 3) TB).ok w) (h0 : (blk a0 (vq (mq (zn false y0))) TP).ok w) (h1 : (blk a1 (vq (mq (zn false y1))) TP).ok w) (h2 : (blk a2 (vq (mq (zn false y2))) TP).ok w) : (shareR (some ⟨b, 0, none⟩) 3 3 (sh3 y0 y1 y2 a0 a1 a2)).ok w := by
  intro x hx
  simp only [List.mem_cons, List.not_mem_nil, or_false] at hx
  rcases hx with rfl | rfl
  · exact blk_lst h (en_len shc_len) (Nat.le_refl _)
  · intro y hy
    obtain ⟨k, hk, rfl⟩ := List.mem_map.1 hy
    have hk' := List.mem_range.1 hk
    match k, hk' with
    | 0, _ => exact blk_lst h0 rfl (Nat.le_refl _)
    | 1, _ => exact blk_lst h1 rfl (Nat.le_refl _)
    | 2, _ => exact blk_lst h2 rfl (Nat.le_refl _)
end
theorem sh3_cells {y0 y1 y2 a0 a1 a2 : Nat} : en shc (sh3 y0 y1 y2 a0 a1 a2) 3 = [.int .i64 1, .int .i64 2, .int .i64 1, .int .i64 1, .slice (some ⟨a0, 0, none⟩) 1 1, .int .i64 1, .int .i64 2, .int .i64 2, .int .i64 1, .slice (some ⟨a1, 0, none⟩) 1 1, .int .i64 1, .int .i64 2, .int .i64 3, .int .i64 1, .slice (some ⟨a2, 0, none⟩) 1 1] := rfl
section
variable {b a0 a1 a2 y0 y1 y2 TB TP : Nat} {w : World}
theorem sh3_in (h : (blk b [.int .i64 1, .int .i64 2, .int .i64 1, .int .i64 1, .slice (some ⟨a0, 0, none⟩) 1 1, .int .i64 1, .int .i64 2, .int .i64 2, .int .i64 1, .slice (some ⟨a1, 0, none⟩) 1 1, .int .i64 1, .int .i64 2, .int .i64 3, .int .i64 1, .slice (some ⟨a2, 0, none⟩) 1 1] TB).ok w)
    (h0 : (blk a0 (vq (mq (zn false y0))) TP).ok w) (h1 : (blk a1 (vq (mq (zn false y1))) TP).ok w) (h2 : (blk a2 (vq (mq (zn false y2))) TP).ok w) : (shareR (some ⟨b, 0, none⟩) 3 3 (sh3 y0 y1 y2 a0 a1 a2)).ok w := sh3_shareR (TB := TB) (by rw [sh3_cells]; exact h) h0 h1 h2
theorem alA (HS : (shareR (some ⟨b, 0, none⟩) 3 3 (sh3 8 11 14 a0 a1 a2)).ok w) (HL : Laid w) : Calls Tryz.prog 17 #[.pointer none, .slice (some ⟨b, 0, none⟩) 3 3] w fun e w' => e = .returned (.tuple #[.bool true, .int .i64 0]) ∧ Below w.heap.size w w' := by
  have h := consN HS HL sh3_ok sh3_good sh3_err (by decide) (by show (1 : Nat) ≤ 4; decide)
  rw [aliveA] at h
  exact h
theorem alB (HS : (shareR (some ⟨b, 0, none⟩) 3 3 (sh3 8 11 15 a0 a1 a2)).ok w) (HL : Laid w) : Calls Tryz.prog 17 #[.pointer none, .slice (some ⟨b, 0, none⟩) 3 3] w fun e w' => e = .returned (.tuple #[.bool false, .int .i64 0]) ∧ Below w.heap.size w w' := by
  have h := consN HS HL sh3_ok sh3_good sh3_err (by decide) (by show (1 : Nat) ≤ 4; decide)
  rw [aliveB] at h
  exact h
theorem alC (HS : (shareR (some ⟨b, 0, none⟩) 3 3 (sh3 8 11 15 a0 a1 a2)).ok w) (HL : Laid w) : Calls Tryz.prog 20 #[.pointer none, .slice (some ⟨b, 0, none⟩) 3 3] w fun e w' => ∃ b, e = .returned (.tuple #[.slice (some ⟨b, 0, none⟩) 1 1, .int .i64 0]) ∧ Sat no w [blk b (en boc (fun _ => false) 1) 4] [] w' := by
  have h := achN HS HL sh3_ok sh3_good sh3_err (by decide) (by show (1 : Nat) ≤ 4; decide)
  have e : en boc (fitB false (sh3 8 11 15 a0 a1 a2) 3) 1 = en boc (fun _ => false) 1 := en_congr fun i hi => by rw [Nat.lt_one_iff.1 hi, aliveB']
  refine h.mono fun _ _ h => ?_
  obtain ⟨b', h1, h2⟩ := h
  refine ⟨b', h1, ?_⟩
  rw [← e]
  exact h2
theorem alS (HS : (shareR (some ⟨b, 0, none⟩) 3 3 (sh3 8 11 15 a0 a1 a2)).ok w) (HL : Laid w) : Calls Tryz.prog 23 #[.pointer none, .slice (some ⟨b, 0, none⟩) 3 3] w fun e w' => ∃ a c, e = .returned (.tuple #[.slice a 3 c, .int .i64 0]) ∧ Sat no w [row 3 1 (.slice a 3 c) 3 (en ic (fun i => ((i : Nat) : Int)) 3)] [] w' := by
  have h := susN HS HL sh3_ok sh3_good sh3_err (by decide) (by show (1 : Nat) ≤ 4; decide) (by show (2 : Int) < 3; decide)
  refine h.mono fun _ _ h => ?_
  obtain ⟨a, n, c, h1, h2⟩ := h
  rw [aliveS, ← en_el] at h2
  have hl := (row_lst (h2.okM _ (.head _))).len
  rw [en_len ic_len] at hl
  obtain rfl : n = 3 := by omega
  exact ⟨a, c, h1, h2⟩
theorem lit3 {a : Option Addr} {c : Nat} (h : LstAt w 1 (.slice a 3 c) 3 [.int .i64 0, .int .i64 1, .int .i64 2]) : LstAt w 1 (.slice a 3 c) 3 (en ic (fun i => ((i : Nat) : Int)) 3) := h
theorem lit1 {a : Option Addr} {c : Nat} (h : LstAt w 1 (.slice a 1 c) 1 [.bool false]) : LstAt w 1 (.slice a 1 c) 1 (en boc (fun _ => false) 1) := h
end
theorem alive18_s (x : Int) (v pb : Nat) (W : World) (HP : (blk pb (vq (pr false)) 47).ok W) (hv : v < 1000) : Calls Tryz.prog 54 [.int .i64 x, .int .u64 ((v : Nat) : Int), .pointer (some ⟨pb, 0, none⟩)].toArray W fun e w => ∃ b, e = .returned (.agg #[.int .i64 1, .int .i64 2, .int .i64 x, .int .i64 1, .slice (some ⟨b, 0, none⟩) 1 1]) ∧ Sat no W [blk b (vq (mq (zn false v))) 56] [] w := by
  refine c_enter (args := [.int .i64 x, .int .u64 ((v : Nat) : Int), .pointer (some ⟨pb, 0, none⟩)]) Tryz.func54 rfl rfl rfl fun a hk => ?_
  have hs := Sat.start W [blk pb [.int .u64 ((dg 0 (pr false) : Nat) : Int), .int .u64 ((dg 1 (pr false) : Nat) : Int), .int .u64 ((dg 2 (pr false) : Nat) : Int), .int .u64 ((dg 3 (pr false) : Nat) : Int)] 47] (okr1 HP)
  refine wpIn_seq ?_
  refine wpIn_region_lit ?_
  refine q_alc (vs := [.int .i64 0, .int .i64 0, .int .i64 0, .int .i64 0, .slice none 0 0]) hk hs zr53 rfl rfl rfl fun b1 w a hk hs => ?_
  refine (c_end (x_t ?_))
  refine wpIn_seq ?_
  refine wpIn_region_lit ?_
  refine q_val hk (w_mv rfl) rfl rfl rfl fun a hk => ?_
  refine q_val hk (w_ldv (z := pr false) rfl ty47 (.blk (n := 4) (hs.ri 0 rfl) rfl)) rfl rfl rfl fun a hk => ?_
  refine q_val hk (w_mv rfl) rfl rfl rfl fun a hk => ?_
  refine q_val hk (w_bldv1 (k := v) rfl (by omega) (by unfold Go.Proofs.YtdnkkbmpefhbjaaGreatDoor.W; omega) Tryz.underlying47 ty46 zr47) rfl rfl rfl fun a hk => ?_
  refine q_call (caps := []) hk rfl rfl Tryz.func43 fo43 rfl rfl (rform_s v hv _) ?_
  rintro _ w ⟨rfl, hb⟩
  have hs := hs.below hb
  refine ⟨_, rfl, fun a hk => ?_⟩
  refine q_bsl (els := [.tmp 10]) (cs := [.int .u64 ((dg 0 (mq (zn false v)) : Nat) : Int), .int .u64 ((dg 1 (mq (zn false v)) : Nat) : Int), .int .u64 ((dg 2 (mq (zn false v)) : Nat) : Int), .int .u64 ((dg 3 (mq (zn false v)) : Nat) : Int)]) hk hs rfl Tryz.underlying51 ty56 zr56 rfl rfl rfl rfl rfl rfl rfl fun b2 w a hk hs => ?_
  refine q_val hk (w_bld rfl fl53 zr53 rfl rfl) rfl rfl rfl fun a hk => ?_
  have hs := hs.up1
  refine q_sto (o := 0) (cs := [.int .i64 1, .int .i64 2, .int .i64 x, .int .i64 1, .slice (some ⟨b2, 0, none⟩) 1 1]) (vs' := [.int .i64 1, .int .i64 2, .int .i64 x, .int .i64 1, .slice (some ⟨b2, 0, none⟩) 1 1]) hk hs rfl rfl rfl ty53 rfl rfl rfl rfl rfl rfl fun w hs => ?_
  refine (c_end (x_t ?_))
  refine (wpIn_ret ?_)
  refine c_retG (vs := [.agg #[.int .i64 1, .int .i64 2, .int .i64 x, .int .i64 1, .slice (some ⟨b2, 0, none⟩) 1 1]]) hk rfl ⟨⟨_, rfl, lv_A ty53 (.blk (n := 5) (hs.mi 0 rfl) rfl) rfl⟩, trivial⟩ rfl ?_
  have hs := hs.drop
  exact ⟨_, rfl, hs.fin⟩
theorem alive18_c  (W : World) (HL : Laid W) : Calls Tryz.prog 16 [].toArray W fun e w => e = .returned (.bool true) ∧ Below W.heap.size W w := by
  refine c_enter (args := []) Tryz.func16 rfl rfl rfl fun a hk => ?_
  have hs := Sat.start W [] (fun _ h => by cases h)
  refine wpIn_seq ?_
  refine wpIn_region_lit ?_
  refine q_val hk (w_as rfl) rfl rfl rfl fun a hk => ?_
  refine (c_end (x_t ?_))
  refine wpIn_seq ?_
  refine wpIn_region_lit ?_
  refine q_call (caps := []) hk rfl rfl Tryz.func28 fo28 rfl rfl (rmodulus_z (s := false) rfl _) ?_
  rintro _ w ⟨rfl, hb⟩
  have hs := hs.below hb
  refine ⟨_, rfl, fun a hk => ?_⟩
  refine q_alc (vs := [.int .u64 0, .int .u64 0, .int .u64 0, .int .u64 0]) hk hs zr47 rfl rfl rfl fun b1 w a hk hs => ?_
  refine q_sto (o := 0) (cs := [.int .u64 ((dg 0 (pr false) : Nat) : Int), .int .u64 ((dg 1 (pr false) : Nat) : Int), .int .u64 ((dg 2 (pr false) : Nat) : Int), .int .u64 ((dg 3 (pr false) : Nat) : Int)]) (vs' := [.int .u64 ((dg 0 (pr false) : Nat) : Int), .int .u64 ((dg 1 (pr false) : Nat) : Int), .int .u64 ((dg 2 (pr false) : Nat) : Int), .int .u64 ((dg 3 (pr false) : Nat) : Int)]) hk hs rfl rfl rfl ty47 rfl rfl rfl rfl rfl rfl fun w hs => ?_
  refine (c_end (x_t ?_))
  refine wpIn_seq ?_
  refine wpIn_region_lit ?_
  refine q_val hk (w_mkf (frees := [.tmp 1]) rfl) rfl rfl rfl fun a hk => ?_
  refine q_val hk (w_as rfl) rfl rfl rfl fun a hk => ?_
  refine (c_end (x_t ?_))
  refine wpIn_seq ?_
  refine wpIn_region_lit ?_
  refine q_val hk (w_mv rfl) rfl rfl rfl fun a hk => ?_
  refine q_call (caps := [.pointer (some ⟨b1, 0, none⟩)]) hk rfl rfl Tryz.func54 fo54 rfl rfl (alive18_s 1 8 b1 _ (hs.mi 0 rfl) (by decide)) ?_
  rintro _ w ⟨b2, rfl, hS⟩
  have hs := hs.call1 hS
  clear hS
  refine ⟨_, rfl, fun a hk => ?_⟩
  refine q_val hk (w_mv rfl) rfl rfl rfl fun a hk => ?_
  refine q_call (caps := [.pointer (some ⟨b1, 0, none⟩)]) hk rfl rfl Tryz.func54 fo54 rfl rfl (alive18_s 2 11 b1 _ (hs.mi 1 rfl) (by decide)) ?_
  rintro _ w ⟨b3, rfl, hS⟩
  have hs := hs.call1 hS
  clear hS
  refine ⟨_, rfl, fun a hk => ?_⟩
  refine q_val hk (w_mv rfl) rfl rfl rfl fun a hk => ?_
  refine q_call (caps := [.pointer (some ⟨b1, 0, none⟩)]) hk rfl rfl Tryz.func54 fo54 rfl rfl (alive18_s 3 14 b1 _ (hs.mi 2 rfl) (by decide)) ?_
  rintro _ w ⟨b4, rfl, hS⟩
  have hs := hs.call1 hS
  clear hS
  refine ⟨_, rfl, fun a hk => ?_⟩
  refine q_bsl (els := [.tmp 16, .tmp 18, .tmp 20]) (cs := [.int .i64 1, .int .i64 2, .int .i64 1, .int .i64 1, .slice (some ⟨b2, 0, none⟩) 1 1, .int .i64 1, .int .i64 2, .int .i64 2, .int .i64 1, .slice (some ⟨b3, 0, none⟩) 1 1, .int .i64 1, .int .i64 2, .int .i64 3, .int .i64 1, .slice (some ⟨b4, 0, none⟩) 1 1]) hk hs rfl Tryz.underlying22 ty53 zr53 rfl rfl rfl rfl rfl rfl rfl fun b5 w a hk hs => ?_
  refine q_call (caps := []) hk rfl rfl Tryz.func17 fo17 rfl rfl (alA (sh3_in (y0 := 8) (y1 := 11) (y2 := 14) (hs.mi 0 rfl) (hs.mi 3 rfl) (hs.mi 2 rfl) (hs.mi 1 rfl)) (HL.step hs.toBelow)) ?_
  rintro _ w ⟨rfl, hb⟩
  have hs := hs.below hb
  refine ⟨_, rfl, fun a hk => ?_⟩
  refine q_val hk (w_mv rfl) rfl rfl rfl fun a hk => ?_
  refine q_val hk (w_ext rfl rfl) rfl rfl rfl fun a hk => ?_
  refine q_val hk (w_ext rfl rfl) rfl rfl rfl fun a hk => ?_
  refine q_val hk (w_as rfl) rfl rfl rfl fun a hk => ?_
  refine q_val hk (w_as rfl) rfl rfl rfl fun a hk => ?_
  refine (c_end (x_t ?_))
  refine wpIn_seq ?_
  refine wpIn_region_lit ?_
  refine q_val hk (w_mv rfl) rfl rfl rfl fun a hk => ?_
  refine q_call (caps := [.pointer (some ⟨b1, 0, none⟩)]) hk rfl rfl Tryz.func54 fo54 rfl rfl (alive18_s 1 8 b1 _ (hs.mi 4 rfl) (by decide)) ?_
  rintro _ w ⟨b6, rfl, hS⟩
  have hs := hs.call1 hS
  clear hS
  refine ⟨_, rfl, fun a hk => ?_⟩
  refine q_val hk (w_mv rfl) rfl rfl rfl fun a hk => ?_
  refine q_call (caps := [.pointer (some ⟨b1, 0, none⟩)]) hk rfl rfl Tryz.func54 fo54 rfl rfl (alive18_s 2 11 b1 _ (hs.mi 5 rfl) (by decide)) ?_
  rintro _ w ⟨b7, rfl, hS⟩
  have hs := hs.call1 hS
  clear hS
  refine ⟨_, rfl, fun a hk => ?_⟩
  refine q_val hk (w_mv rfl) rfl rfl rfl fun a hk => ?_
  refine q_call (caps := [.pointer (some ⟨b1, 0, none⟩)]) hk rfl rfl Tryz.func54 fo54 rfl rfl (alive18_s 3 15 b1 _ (hs.mi 6 rfl) (by decide)) ?_
  rintro _ w ⟨b8, rfl, hS⟩
  have hs := hs.call1 hS
  clear hS
  refine ⟨_, rfl, fun a hk => ?_⟩
  refine q_bsl (els := [.tmp 26, .tmp 28, .tmp 30]) (cs := [.int .i64 1, .int .i64 2, .int .i64 1, .int .i64 1, .slice (some ⟨b6, 0, none⟩) 1 1, .int .i64 1, .int .i64 2, .int .i64 2, .int .i64 1, .slice (some ⟨b7, 0, none⟩) 1 1, .int .i64 1, .int .i64 2, .int .i64 3, .int .i64 1, .slice (some ⟨b8, 0, none⟩) 1 1]) hk hs rfl Tryz.underlying22 ty53 zr53 rfl rfl rfl rfl rfl rfl rfl fun b9 w a hk hs => ?_
  refine q_val hk (w_as rfl) rfl rfl rfl fun a hk => ?_
  refine (c_end (x_t ?_))
  refine wpIn_seq ?_
  refine wpIn_region_lit ?_
  refine q_val hk (w_mv rfl) rfl rfl rfl fun a hk => ?_
  refine q_call (caps := []) hk rfl rfl Tryz.func17 fo17 rfl rfl (alB (sh3_in (y0 := 8) (y1 := 11) (y2 := 15) (hs.mi 0 rfl) (hs.mi 3 rfl) (hs.mi 2 rfl) (hs.mi 1 rfl)) (HL.step hs.toBelow)) ?_
  rintro _ w ⟨rfl, hb⟩
  have hs := hs.below hb
  refine ⟨_, rfl, fun a hk => ?_⟩
  refine q_val hk (w_mv rfl) rfl rfl rfl fun a hk => ?_
  refine q_val hk (w_ext rfl rfl) rfl rfl rfl fun a hk => ?_
  refine q_val hk (w_ext rfl rfl) rfl rfl rfl fun a hk => ?_
  refine q_val hk (w_as rfl) rfl rfl rfl fun a hk => ?_
  refine q_val hk (w_as rfl) rfl rfl rfl fun a hk => ?_
  refine (c_end (x_t ?_))
  refine wpIn_seq ?_
  refine wpIn_region_lit ?_
  refine q_val hk (w_mv rfl) rfl rfl rfl fun a hk => ?_
  refine q_call (caps := []) hk rfl rfl Tryz.func23 fo23 rfl rfl (alS (sh3_in (y0 := 8) (y1 := 11) (y2 := 15) (hs.mi 0 rfl) (hs.mi 3 rfl) (hs.mi 2 rfl) (hs.mi 1 rfl)) (HL.step hs.toBelow)) ?_
  rintro _ w ⟨a10, c11, rfl, hS⟩
  have hs := hs.call1 hS
  clear hS
  refine ⟨_, rfl, fun a hk => ?_⟩
  refine q_val hk (w_mv rfl) rfl rfl rfl fun a hk => ?_
  refine q_val hk (w_ext rfl rfl) rfl rfl rfl fun a hk => ?_
  refine q_val hk (w_ext rfl rfl) rfl rfl rfl fun a hk => ?_
  refine q_val hk (w_as rfl) rfl rfl rfl fun a hk => ?_
  refine q_val hk (w_as rfl) rfl rfl rfl fun a hk => ?_
  refine (c_end (x_t ?_))
  refine wpIn_seq ?_
  refine wpIn_region_lit ?_
  refine q_val hk (w_mv rfl) rfl rfl rfl fun a hk => ?_
  refine q_call (caps := []) hk rfl rfl Tryz.func20 fo20 rfl rfl (alC (sh3_in (y0 := 8) (y1 := 11) (y2 := 15) (hs.mi 1 rfl) (hs.mi 4 rfl) (hs.mi 3 rfl) (hs.mi 2 rfl)) (HL.step hs.toBelow)) ?_
  rintro _ w ⟨b12, rfl, hS⟩
  have hs := hs.call1 hS
  clear hS
  refine ⟨_, rfl, fun a hk => ?_⟩
  refine q_val hk (w_mv rfl) rfl rfl rfl fun a hk => ?_
  refine q_val hk (w_ext rfl rfl) rfl rfl rfl fun a hk => ?_
  refine q_val hk (w_ext rfl rfl) rfl rfl rfl fun a hk => ?_
  refine q_val hk (w_as rfl) rfl rfl rfl fun a hk => ?_
  refine q_val hk (w_as rfl) rfl rfl rfl fun a hk => ?_
  refine (c_end (x_t ?_))
  refine wpIn_seq ?_
  refine wpIn_region_lit ?_
  refine q_val hk (w_mv rfl) rfl rfl rfl fun a hk => ?_
  refine q_val hk (w_mv rfl) rfl rfl rfl fun a hk => ?_
  refine q_val hk (w_mv rfl) rfl rfl rfl fun a hk => ?_
  refine q_val hk (w_eq rfl rfl (decide_eq_true (by decide))) rfl rfl rfl fun a hk => ?_
  refine q_val hk (w_pickT rfl rfl) rfl rfl rfl fun a hk => ?_
  refine q_val hk (w_mv rfl) rfl rfl rfl fun a hk => ?_
  refine q_val hk (w_mv rfl) rfl rfl rfl fun a hk => ?_
  refine q_val hk (w_not rfl) rfl rfl rfl fun a hk => ?_
  refine q_val hk (w_pickT rfl rfl) rfl rfl rfl fun a hk => ?_
  refine q_val hk (w_mv rfl) rfl rfl rfl fun a hk => ?_
  refine q_val hk (w_mv rfl) rfl rfl rfl fun a hk => ?_
  refine q_val hk (w_eq rfl rfl (decide_eq_true (by decide))) rfl rfl rfl fun a hk => ?_
  refine q_val hk (w_pickT rfl rfl) rfl rfl rfl fun a hk => ?_
  refine q_val hk (w_mv rfl) rfl rfl rfl fun a hk => ?_
  refine q_val hk (w_mv rfl) rfl rfl rfl fun a hk => ?_
  refine q_val hk (w_eq rfl rfl (decide_eq_true (by decide))) rfl rfl rfl fun a hk => ?_
  refine q_val hk (w_pickT rfl rfl) rfl rfl rfl fun a hk => ?_
  refine q_val hk (w_mv rfl) rfl rfl rfl fun a hk => ?_
  refine q_val hk (w_mv rfl) rfl rfl rfl fun a hk => ?_
  refine q_bsl (els := [.const (.int .i64 0), .const (.int .i64 1), .const (.int .i64 2)]) (cs := [.int .i64 0, .int .i64 1, .int .i64 2]) hk hs rfl Tryz.underlying34 ty3 zr3 rfl rfl rfl rfl rfl rfl rfl fun b13 w a hk hs => ?_
  refine q_call (caps := []) hk rfl rfl Tryz.func25 fo25 rfl rfl (eqI_c 3 c11 3 a10 (some ⟨b13, 0, none⟩) (fun i => ((i : Nat) : Int)) _ (row_lst (hs.mi 2 rfl)) (lit3 (blk_lst (hs.mi 0 rfl) rfl (Nat.le_refl _))) (by decide)) ?_
  rintro _ w ⟨rfl, hb⟩
  have hs := hs.below hb
  refine ⟨_, rfl, fun a hk => ?_⟩
  refine q_val hk (w_pickT rfl rfl) rfl rfl rfl fun a hk => ?_
  refine q_val hk (w_mv rfl) rfl rfl rfl fun a hk => ?_
  refine q_val hk (w_mv rfl) rfl rfl rfl fun a hk => ?_
  refine q_val hk (w_eq rfl rfl (decide_eq_true (by decide))) rfl rfl rfl fun a hk => ?_
  refine q_val hk (w_pickT rfl rfl) rfl rfl rfl fun a hk => ?_
  refine q_val hk (w_mv rfl) rfl rfl rfl fun a hk => ?_
  refine q_val hk (w_mv rfl) rfl rfl rfl fun a hk => ?_
  refine q_bsl (els := [.const (.bool false)]) (cs := [.bool false]) hk hs rfl Tryz.underlying29 ty4 zr4 rfl rfl rfl rfl rfl rfl rfl fun b14 w a hk hs => ?_
  refine q_call (caps := []) hk rfl rfl Tryz.func21 fo21 rfl rfl (eqB_c 1 1 1 (some ⟨b12, 0, none⟩) (some ⟨b14, 0, none⟩) (fun _ => false) _ (blk_lst (hs.mi 2 rfl) (en_len boc_len) (Nat.le_refl _)) (lit1 (blk_lst (hs.mi 0 rfl) rfl (Nat.le_refl _))) (by decide)) ?_
  rintro _ w ⟨rfl, hb⟩
  have hs := hs.below hb
  refine ⟨_, rfl, fun a hk => ?_⟩
  refine q_val hk (w_pickT rfl rfl) rfl rfl rfl fun a hk => ?_
  refine q_val hk (w_as rfl) rfl rfl rfl fun a hk => ?_
  refine (c_end (x_t ?_))
  refine (wpIn_ret ?_)
  refine c_ret1 hk rfl rfl ?_
  exact ⟨rfl, hs.toBelow⟩
end Go.Proofs.YtdnkkbmpefhbjaaGreatDoor
namespace Go.Proofs.YtdnkkbmpefhbjaaGreatDoor
set_option linter.all false
open Go Go.RowKit Alg
section
variable {la : Option Addr} {m lc : Nat} {S : Nat → Shr} {w : World} (HS : (shareR la m lc S).ok w) {s : Bool} (g : Good s S m) (hm : m ≤ 255) (hn9 : (S 0).n ≤ 4)
include HS g hm hn9
theorem rconE : Calls Tryz.prog 19 #[.slice la m lc] w fun e w' => e = .returned (.bool (conB s S m)) ∧ Below w.heap.size w w' := by
  have h := rcons_c s m lc la S w HS g hm hn9
  rw [← g.con_eq] at h
  exact h
theorem rchE : Calls Tryz.prog 22 #[.slice la m lc] w fun e w' => ∃ a c, e = .returned (.slice a (S 0).n c) ∧ Sat no w [row 4 1 (.slice a (S 0).n c) (S 0).n (en boc (fitB s S m) (S 0).n)] [] w' := by
  have h := rchunks_c s m lc la S w HS g hm hn9
  have e : en boc (fitS s S m) (S 0).n = en boc (fitB s S m) (S 0).n := en_congr fun i _ => by rw [g.fit_eq]
  rw [e] at h
  exact h
theorem rsusE (HO : ShOk S m) (hz : csErr S m = 0) (hf : (S 0).T < ((m : Nat) : Int)) : Calls Tryz.prog 24 #[.slice la m lc] w fun e w' => ∃ a c, e = .returned (.tuple #[.slice a (susL s S m m).length c, .int .i64 0]) ∧ Sat no w [row 3 1 (.slice a (susL s S m m).length c) (susL s S m m).length (el ic (susL s S m m))] [] w' := by
  have h := rsus_c s m lc la S w HS HO g hz hm hn9 hf
  rw [← goodSus_eq g hf m (Nat.le_refl m)] at h
  refine h.mono fun _ _ h => ?_
  obtain ⟨a, n, c, h1, h2⟩ := h
  have hl := (row_lst (h2.okM _ (.head _))).len
  rw [el_len ic_len] at hl
  obtain rfl : n = (susL s S m m).length := by omega
  exact ⟨a, c, h1, h2⟩
end
theorem susN' {la : Option Addr} {m lc : Nat} {S : Nat → Shr} {w : World} (HS : (shareR la m lc S).ok w) (HL : Laid w) (HO : ShOk S m) {s : Bool} (g : Good s S m) (hz : csErr S m = 0) (hm : m ≤ 8) (hn9 : (S 0).n ≤ 4) (hf : (S 0).T < ((m : Nat) : Int)) : Calls Tryz.prog 23 #[.pointer none, .slice la m lc] w fun e w' => ∃ a c, e = .returned (.tuple #[.slice a (susL s S m m).length c, .int .i64 0]) ∧ Sat no w [row 3 1 (.slice a (susL s S m m).length c) (susL s S m m).length (el ic (susL s S m m))] [] w' := by
  refine (susN HS HL HO g hz hm hn9 hf).mono fun _ _ h => ?_
  obtain ⟨a, n, c, h1, h2⟩ := h
  have hl := (row_lst (h2.okM _ (.head _))).len
  rw [el_len ic_len] at hl
  obtain rfl : n = (susL s S m m).length := by omega
  exact ⟨a, c, h1, h2⟩
theorem eqIL_c {n lc yc : Nat} {la ya : Option Addr} {l : List Int} {W : World} (hn : l.length = n) (HX : LstAt W 1 (.slice la n lc) n (el ic l)) (HY : LstAt W 1 (.slice ya n yc) n (el ic l)) (h9 : n ≤ 1000000) : Calls Tryz.prog 25 #[.slice la n lc, .slice ya n yc] W fun e w => e = .returned (.bool true) ∧ Below W.heap.size W w := by
  have e : el ic l = en ic (fun i => l.getD i 0) n := by
    subst hn
    rw [en_el]
    congr 1
    apply List.ext_getElem
    · simp
    · intro i h1 h2; simp at h2 ⊢; rw [List.getElem?_eq_getElem h1]; rfl
  rw [e] at HX HY
  exact eqI_c n lc yc la ya _ W HX HY h9
theorem lstNil {α : Type} {w : World} {s : Nat} {c : α → List Value} {f : Nat → α} : LstAt w s (.slice none 0 0) 0 (en c f 0) := ⟨by simp [en], none, 0, rfl, Nat.le_refl _, fun _ => ⟨rfl, rfl⟩, fun ad h => by cases h⟩
theorem susL_len {s : Bool} {S : Nat → Shr} {m : Nat} : ∀ k, (susL s S m k).length ≤ k
  | 0 => Nat.le_refl _
  | k + 1 => by
    have := susL_len (s := s) (S := S) (m := m) k
    show (if _ then _ else _ : List Int).length ≤ _
    split
    · rw [List.length_append, List.length_singleton]; omega
    · omega
theorem lawCon_big (m lc : Nat) (la : Option Addr) (S : Nat → Shr) (W : World) (HS : (shareR la m lc S).ok W) (HL : Laid W) (hg : 0 < lrg S m) : Calls Tryz.prog 3 [.slice la m lc].toArray W fun e w => e = .returned (.bool true) ∧ Below W.heap.size W w := by
  refine c_enter (args := [.slice la m lc]) Tryz.func3 rfl rfl rfl fun a hk => ?_
  have hs := Sat.start W [shareR la m lc S] (okr1 HS)
  refine wpIn_seq ?_
  refine wpIn_region_lit ?_
  refine q_val hk (w_as rfl) rfl rfl rfl fun a hk => ?_
  refine (c_end (x_t ?_))
  refine wpIn_seq ?_
  refine wpIn_seq ?_
  refine wpIn_region_lit ?_
  refine q_val hk (w_mv rfl) rfl rfl rfl fun a hk => ?_
  refine q_call (caps := []) hk rfl rfl Tryz.func15 fo15 rfl rfl (large_c m lc la S _ ((HasR.nth 0 rfl : HasR (shareR la m lc S) _).at_ hs)) ?_
  rintro _ w ⟨rfl, hb⟩
  have hs := hs.below hb
  refine ⟨_, rfl, fun a hk => ?_⟩
  refine q_val hk (w_gt rfl rfl (decide_eq_true hg)) rfl rfl rfl fun a hk => ?_
  refine (c_end (x_t ?_))
  refine c_T hk rfl ?_
  refine wpIn_seq ?_
  refine wpIn_region_lit ?_
  refine q_call (caps := []) hk rfl rfl Tryz.func16 fo16 rfl rfl (alive18_c _ (HL.step hs.toBelow)) ?_
  rintro _ w ⟨rfl, hb⟩
  have hs := hs.below hb
  refine ⟨_, rfl, fun a hk => ?_⟩
  refine q_val hk (w_as rfl) rfl rfl rfl fun a hk => ?_
  refine (c_end (x_t ?_))
  refine (wpIn_ret (x_tr ?_))
  refine c_ret1 hk rfl rfl ?_
  exact ⟨rfl, hs.toBelow⟩
theorem lawCon_bad (m lc : Nat) (la : Option Addr) (S : Nat → Shr) (W : World) (HS : (shareR la m lc S).ok W) (HL : Laid W) (hg : ¬ 0 < lrg S m) (HO : ShOk S m) (hm : m ≤ 12) (hz : csErr S m ≠ 0) : Calls Tryz.prog 3 [.slice la m lc].toArray W fun e w => e = .returned (.bool true) ∧ Below W.heap.size W w := by
  have hrg := csErr_rng S m
  refine c_enter (args := [.slice la m lc]) Tryz.func3 rfl rfl rfl fun a hk => ?_
  have hs := Sat.start W [shareR la m lc S] (okr1 HS)
  refine wpIn_seq ?_
  refine wpIn_region_lit ?_
  refine q_val hk (w_as rfl) rfl rfl rfl fun a hk => ?_
  refine (c_end (x_t ?_))
  refine wpIn_seq ?_
  refine wpIn_seq ?_
  refine wpIn_region_lit ?_
  refine q_val hk (w_mv rfl) rfl rfl rfl fun a hk => ?_
  refine q_call (caps := []) hk rfl rfl Tryz.func15 fo15 rfl rfl (large_c m lc la S _ ((HasR.nth 0 rfl : HasR (shareR la m lc S) _).at_ hs)) ?_
  rintro _ w ⟨rfl, hb⟩
  have hs := hs.below hb
  refine ⟨_, rfl, fun a hk => ?_⟩
  refine q_val hk (w_gt rfl rfl (decide_eq_false hg)) rfl rfl rfl fun a hk => ?_
  refine (c_end (x_t ?_))
  refine c_F hk rfl ?_
  refine (wpIn_skip (x_t ?_))
  refine wpIn_seq ?_
  refine wpIn_region_lit ?_
  refine q_val hk (w_mv rfl) rfl rfl rfl fun a hk => ?_
  refine q_call (caps := []) hk rfl rfl Tryz.func17 fo17 rfl rfl (consN_bad ((HasR.nth 0 rfl : HasR (shareR la m lc S) _).at_ hs) (HL.step hs.toBelow) HO hz) ?_
  rintro _ w ⟨rfl, hb⟩
  have hs := hs.below hb
  refine ⟨_, rfl, fun a hk => ?_⟩
  refine q_val hk (w_mv rfl) rfl rfl rfl fun a hk => ?_
  refine q_val hk (w_ext rfl rfl) rfl rfl rfl fun a hk => ?_
  refine q_val hk (w_ext rfl rfl) rfl rfl rfl fun a hk => ?_
  refine q_val hk (w_as rfl) rfl rfl rfl fun a hk => ?_
  refine q_val hk (w_as rfl) rfl rfl rfl fun a hk => ?_
  refine (c_end (x_t ?_))
  refine wpIn_seq ?_
  refine wpIn_seq ?_
  refine wpIn_region_lit ?_
  refine q_val hk (w_mv rfl) rfl rfl rfl fun a hk => ?_
  refine q_call (caps := []) hk rfl rfl Tryz.func18 fo18 rfl rfl (refCkShares_c m lc la S _ ((HasR.nth 0 rfl : HasR (shareR la m lc S) _).at_ hs) HO) ?_
  rintro _ w ⟨rfl, hb⟩
  have hs := hs.below hb
  refine ⟨_, rfl, fun a hk => ?_⟩
  refine q_val hk (w_as rfl) rfl rfl rfl fun a hk => ?_
  refine (c_end (x_t ?_))
  refine wpIn_seq ?_
  refine wpIn_region_lit ?_
  refine q_val hk (w_mv rfl) rfl rfl rfl fun a hk => ?_
  refine q_val hk (w_ne rfl rfl (decide_eq_true hz)) rfl rfl rfl fun a hk => ?_
  refine (c_end (x_t ?_))
  refine c_T hk rfl ?_
  refine wpIn_seq ?_
  refine wpIn_region_lit ?_
  refine q_call (caps := []) hk rfl rfl Tryz.func16 fo16 rfl rfl (alive18_c _ (HL.step hs.toBelow)) ?_
  rintro _ w ⟨rfl, hb⟩
  have hs := hs.below hb
  refine ⟨_, rfl, fun a hk => ?_⟩
  refine q_val hk (w_mv rfl) rfl rfl rfl fun a hk => ?_
  refine q_val hk (w_mv rfl) rfl rfl rfl fun a hk => ?_
  refine q_val hk (w_not rfl) rfl rfl rfl fun a hk => ?_
  refine q_val hk (w_pickT rfl rfl) rfl rfl rfl fun a hk => ?_
  refine q_val hk (w_mv rfl) rfl rfl rfl fun a hk => ?_
  refine q_val hk (w_mv rfl) rfl rfl rfl fun a hk => ?_
  refine q_val hk (w_mv rfl) rfl rfl rfl fun a hk => ?_
  refine q_val hk (w_eq rfl rfl (decide_eq_true rfl)) rfl rfl rfl fun a hk => ?_
  refine q_val hk (w_pickT rfl rfl) rfl rfl rfl fun a hk => ?_
  refine q_val hk (w_as rfl) rfl rfl rfl fun a hk => ?_
  refine (c_end (x_t ?_))
  refine (wpIn_ret (x_tr ?_))
  refine c_ret1 hk rfl rfl ?_
  exact ⟨rfl, hs.toBelow⟩
theorem lawCon_good (s : Bool) (m lc : Nat) (la : Option Addr) (S : Nat → Shr) (W : World) (HS : (shareR la m lc S).ok W) (HL : Laid W) (hg : ¬ 0 < lrg S m) (HO : ShOk S m) (hm : m ≤ 12) (g : Good s S m) (hz : csErr S m = 0) (hn9 : (S 0).n ≤ 4) : Calls Tryz.prog 3 [.slice la m lc].toArray W fun e w => e = .returned (.bool true) ∧ Below W.heap.size W w := by
  refine c_enter (args := [.slice la m lc]) Tryz.func3 rfl rfl rfl fun a hk => ?_
  have hs := Sat.start W [shareR la m lc S] (okr1 HS)
  refine wpIn_seq ?_
  refine wpIn_region_lit ?_
  refine q_val hk (w_as rfl) rfl rfl rfl fun a hk => ?_
  refine (c_end (x_t ?_))
  refine wpIn_seq ?_
  refine wpIn_seq ?_
  refine wpIn_region_lit ?_
  refine q_val hk (w_mv rfl) rfl rfl rfl fun a hk => ?_
  refine q_call (caps := []) hk rfl rfl Tryz.func15 fo15 rfl rfl (large_c m lc la S _ ((HasR.nth 0 rfl : HasR (shareR la m lc S) _).at_ hs)) ?_
  rintro _ w ⟨rfl, hb⟩
  have hs := hs.below hb
  refine ⟨_, rfl, fun a hk => ?_⟩
  refine q_val hk (w_gt rfl rfl (decide_eq_false hg)) rfl rfl rfl fun a hk => ?_
  refine (c_end (x_t ?_))
  refine c_F hk rfl ?_
  refine (wpIn_skip (x_t ?_))
  refine wpIn_seq ?_
  refine wpIn_region_lit ?_
  refine q_val hk (w_mv rfl) rfl rfl rfl fun a hk => ?_
  refine q_call (caps := []) hk rfl rfl Tryz.func17 fo17 rfl rfl (consN ((HasR.nth 0 rfl : HasR (shareR la m lc S) _).at_ hs) (HL.step hs.toBelow) HO g hz (by omega) hn9) ?_
  rintro _ w ⟨rfl, hb⟩
  have hs := hs.below hb
  refine ⟨_, rfl, fun a hk => ?_⟩
  refine q_val hk (w_mv rfl) rfl rfl rfl fun a hk => ?_
  refine q_val hk (w_ext rfl rfl) rfl rfl rfl fun a hk => ?_
  refine q_val hk (w_ext rfl rfl) rfl rfl rfl fun a hk => ?_
  refine q_val hk (w_as rfl) rfl rfl rfl fun a hk => ?_
  refine q_val hk (w_as rfl) rfl rfl rfl fun a hk => ?_
  refine (c_end (x_t ?_))
  refine wpIn_seq ?_
  refine wpIn_seq ?_
  refine wpIn_region_lit ?_
  refine q_val hk (w_mv rfl) rfl rfl rfl fun a hk => ?_
  refine q_call (caps := []) hk rfl rfl Tryz.func18 fo18 rfl rfl (refCkShares_c m lc la S _ ((HasR.nth 0 rfl : HasR (shareR la m lc S) _).at_ hs) HO) ?_
  rintro _ w ⟨rfl, hb⟩
  have hs := hs.below hb
  refine ⟨_, rfl, fun a hk => ?_⟩
  refine q_val hk (w_as rfl) rfl rfl rfl fun a hk => ?_
  refine (c_end (x_t ?_))
  refine wpIn_seq ?_
  refine wpIn_region_lit ?_
  refine q_val hk (w_mv rfl) rfl rfl rfl fun a hk => ?_
  refine q_val hk (w_ne rfl rfl (decide_eq_false (fun h => h hz))) rfl rfl rfl fun a hk => ?_
  refine (c_end (x_t ?_))
  refine c_F hk rfl ?_
  refine (wpIn_skip (x_t ?_))
  refine wpIn_seq ?_
  refine wpIn_region_lit ?_
  refine q_call (caps := []) hk rfl rfl Tryz.func16 fo16 rfl rfl (alive18_c _ (HL.step hs.toBelow)) ?_
  rintro _ w ⟨rfl, hb⟩
  have hs := hs.below hb
  refine ⟨_, rfl, fun a hk => ?_⟩
  refine q_val hk (w_mv rfl) rfl rfl rfl fun a hk => ?_
  refine q_val hk (w_mv rfl) rfl rfl rfl fun a hk => ?_
  refine q_val hk (w_eq rfl rfl (decide_eq_true (by decide))) rfl rfl rfl fun a hk => ?_
  refine q_val hk (w_pickT rfl rfl) rfl rfl rfl fun a hk => ?_
  refine q_val hk (w_mv rfl) rfl rfl rfl fun a hk => ?_
  refine q_val hk (w_mv rfl) rfl rfl rfl fun a hk => ?_
  refine q_val hk (w_mv rfl) rfl rfl rfl fun a hk => ?_
  refine q_call (caps := []) hk rfl rfl Tryz.func19 fo19 rfl rfl (rconE ((HasR.nth 0 rfl : HasR (shareR la m lc S) _).at_ hs) g (by omega) hn9) ?_
  rintro _ w ⟨rfl, hb⟩
  have hs := hs.below hb
  refine ⟨_, rfl, fun a hk => ?_⟩
  refine q_val hk (w_beq (t := true) rfl rfl Tryz.underlying4 (by simp)) rfl rfl rfl fun a hk => ?_
  refine q_val hk (w_pickT rfl rfl) rfl rfl rfl fun a hk => ?_
  refine q_val hk (w_as rfl) rfl rfl rfl fun a hk => ?_
  refine (c_end (x_t ?_))
  refine (wpIn_ret ?_)
  refine c_ret1 hk rfl rfl ?_
  exact ⟨rfl, hs.toBelow⟩
theorem lawChu_big (m lc : Nat) (la : Option Addr) (S : Nat → Shr) (W : World) (HS : (shareR la m lc S).ok W) (HL : Laid W) (hg : 0 < lrg S m) : Calls Tryz.prog 4 [.slice la m lc].toArray W fun e w => e = .returned (.bool true) ∧ Below W.heap.size W w := by
  refine c_enter (args := [.slice la m lc]) Tryz.func4 rfl rfl rfl fun a hk => ?_
  have hs := Sat.start W [shareR la m lc S] (okr1 HS)
  refine wpIn_seq ?_
  refine wpIn_region_lit ?_
  refine q_val hk (w_as rfl) rfl rfl rfl fun a hk => ?_
  refine (c_end (x_t ?_))
  refine wpIn_seq ?_
  refine wpIn_seq ?_
  refine wpIn_region_lit ?_
  refine q_val hk (w_mv rfl) rfl rfl rfl fun a hk => ?_
  refine q_call (caps := []) hk rfl rfl Tryz.func15 fo15 rfl rfl (large_c m lc la S _ ((HasR.nth 0 rfl : HasR (shareR la m lc S) _).at_ hs)) ?_
  rintro _ w ⟨rfl, hb⟩
  have hs := hs.below hb
  refine ⟨_, rfl, fun a hk => ?_⟩
  refine q_val hk (w_gt rfl rfl (decide_eq_true hg)) rfl rfl rfl fun a hk => ?_
  refine (c_end (x_t ?_))
  refine c_T hk rfl ?_
  refine wpIn_seq ?_
  refine wpIn_region_lit ?_
  refine q_call (caps := []) hk rfl rfl Tryz.func16 fo16 rfl rfl (alive18_c _ (HL.step hs.toBelow)) ?_
  rintro _ w ⟨rfl, hb⟩
  have hs := hs.below hb
  refine ⟨_, rfl, fun a hk => ?_⟩
  refine q_val hk (w_as rfl) rfl rfl rfl fun a hk => ?_
  refine (c_end (x_t ?_))
  refine (wpIn_ret (x_tr ?_))
  refine c_ret1 hk rfl rfl ?_
  exact ⟨rfl, hs.toBelow⟩
theorem lawChu_bad (m lc : Nat) (la : Option Addr) (S : Nat → Shr) (W : World) (HS : (shareR la m lc S).ok W) (HL : Laid W) (hg : ¬ 0 < lrg S m) (HO : ShOk S m) (hm : m ≤ 12) (hz : csErr S m ≠ 0) : Calls Tryz.prog 4 [.slice la m lc].toArray W fun e w => e = .returned (.bool true) ∧ Below W.heap.size W w := by
  have hrg := csErr_rng S m
  refine c_enter (args := [.slice la m lc]) Tryz.func4 rfl rfl rfl fun a hk => ?_
  have hs := Sat.start W [shareR la m lc S] (okr1 HS)
  refine wpIn_seq ?_
  refine wpIn_region_lit ?_
  refine q_val hk (w_as rfl) rfl rfl rfl fun a hk => ?_
  refine (c_end (x_t ?_))
  refine wpIn_seq ?_
  refine wpIn_seq ?_
  refine wpIn_region_lit ?_
  refine q_val hk (w_mv rfl) rfl rfl rfl fun a hk => ?_
  refine q_call (caps := []) hk rfl rfl Tryz.func15 fo15 rfl rfl (large_c m lc la S _ ((HasR.nth 0 rfl : HasR (shareR la m lc S) _).at_ hs)) ?_
  rintro _ w ⟨rfl, hb⟩
  have hs := hs.below hb
  refine ⟨_, rfl, fun a hk => ?_⟩
  refine q_val hk (w_gt rfl rfl (decide_eq_false hg)) rfl rfl rfl fun a hk => ?_
  refine (c_end (x_t ?_))
  refine c_F hk rfl ?_
  refine (wpIn_skip (x_t ?_))
  refine wpIn_seq ?_
  refine wpIn_region_lit ?_
  refine q_val hk (w_mv rfl) rfl rfl rfl fun a hk => ?_
  refine q_call (caps := []) hk rfl rfl Tryz.func20 fo20 rfl rfl (achN_bad ((HasR.nth 0 rfl : HasR (shareR la m lc S) _).at_ hs) (HL.step hs.toBelow) HO hz) ?_
  rintro _ w ⟨rfl, hb⟩
  have hs := hs.below hb
  refine ⟨_, rfl, fun a hk => ?_⟩
  refine q_val hk (w_mv rfl) rfl rfl rfl fun a hk => ?_
  refine q_val hk (w_ext rfl rfl) rfl rfl rfl fun a hk => ?_
  refine q_val hk (w_ext rfl rfl) rfl rfl rfl fun a hk => ?_
  refine q_val hk (w_as rfl) rfl rfl rfl fun a hk => ?_
  refine q_val hk (w_as rfl) rfl rfl rfl fun a hk => ?_
  refine (c_end (x_t ?_))
  refine wpIn_seq ?_
  refine wpIn_seq ?_
  refine wpIn_region_lit ?_
  refine q_val hk (w_mv rfl) rfl rfl rfl fun a hk => ?_
  refine q_call (caps := []) hk rfl rfl Tryz.func18 fo18 rfl rfl (refCkShares_c m lc la S _ ((HasR.nth 0 rfl : HasR (shareR la m lc S) _).at_ hs) HO) ?_
  rintro _ w ⟨rfl, hb⟩
  have hs := hs.below hb
  refine ⟨_, rfl, fun a hk => ?_⟩
  refine q_val hk (w_as rfl) rfl rfl rfl fun a hk => ?_
  refine (c_end (x_t ?_))
  refine wpIn_seq ?_
  refine wpIn_region_lit ?_
  refine q_val hk (w_mv rfl) rfl rfl rfl fun a hk => ?_
  refine q_val hk (w_ne rfl rfl (decide_eq_true hz)) rfl rfl rfl fun a hk => ?_
  refine (c_end (x_t ?_))
  refine c_T hk rfl ?_
  refine wpIn_seq ?_
  refine wpIn_region_lit ?_
  refine q_call (caps := []) hk rfl rfl Tryz.func16 fo16 rfl rfl (alive18_c _ (HL.step hs.toBelow)) ?_
  rintro _ w ⟨rfl, hb⟩
  have hs := hs.below hb
  refine ⟨_, rfl, fun a hk => ?_⟩
  refine q_val hk (w_mv rfl) rfl rfl rfl fun a hk => ?_
  refine q_val hk (w_mv rfl) rfl rfl rfl fun a hk => ?_
  refine q_val hk (w_len rfl Tryz.underlying29) rfl rfl rfl fun a hk => ?_
  refine q_val hk (w_eq rfl rfl (decide_eq_true (by decide))) rfl rfl rfl fun a hk => ?_
  refine q_val hk (w_pickT rfl rfl) rfl rfl rfl fun a hk => ?_
  refine q_val hk (w_mv rfl) rfl rfl rfl fun a hk => ?_
  refine q_val hk (w_mv rfl) rfl rfl rfl fun a hk => ?_
  refine q_val hk (w_mv rfl) rfl rfl rfl fun a hk => ?_
  refine q_val hk (w_eq rfl rfl (decide_eq_true rfl)) rfl rfl rfl fun a hk => ?_
  refine q_val hk (w_pickT rfl rfl) rfl rfl rfl fun a hk => ?_
  refine q_val hk (w_as rfl) rfl rfl rfl fun a hk => ?_
  refine (c_end (x_t ?_))
  refine (wpIn_ret (x_tr ?_))
  refine c_ret1 hk rfl rfl ?_
  exact ⟨rfl, hs.toBelow⟩
theorem lawChu_good (s : Bool) (m lc : Nat) (la : Option Addr) (S : Nat → Shr) (W : World) (HS : (shareR la m lc S).ok W) (HL : Laid W) (hg : ¬ 0 < lrg S m) (HO : ShOk S m) (hm : m ≤ 12) (g : Good s S m) (hz : csErr S m = 0) (hn9 : (S 0).n ≤ 4) : Calls Tryz.prog 4 [.slice la m lc].toArray W fun e w => e = .returned (.bool true) ∧ Below W.heap.size W w := by
  refine c_enter (args := [.slice la m lc]) Tryz.func4 rfl rfl rfl fun a hk => ?_
  have hs := Sat.start W [shareR la m lc S] (okr1 HS)
  refine wpIn_seq ?_
  refine wpIn_region_lit ?_
  refine q_val hk (w_as rfl) rfl rfl rfl fun a hk => ?_
  refine (c_end (x_t ?_))
  refine wpIn_seq ?_
  refine wpIn_seq ?_
  refine wpIn_region_lit ?_
  refine q_val hk (w_mv rfl) rfl rfl rfl fun a hk => ?_
  refine q_call (caps := []) hk rfl rfl Tryz.func15 fo15 rfl rfl (large_c m lc la S _ ((HasR.nth 0 rfl : HasR (shareR la m lc S) _).at_ hs)) ?_
  rintro _ w ⟨rfl, hb⟩
  have hs := hs.below hb
  refine ⟨_, rfl, fun a hk => ?_⟩
  refine q_val hk (w_gt rfl rfl (decide_eq_false hg)) rfl rfl rfl fun a hk => ?_
  refine (c_end (x_t ?_))
  refine c_F hk rfl ?_
  refine (wpIn_skip (x_t ?_))
  refine wpIn_seq ?_
  refine wpIn_region_lit ?_
  refine q_val hk (w_mv rfl) rfl rfl rfl fun a hk => ?_
  refine q_call (caps := []) hk rfl rfl Tryz.func20 fo20 rfl rfl (achN ((HasR.nth 0 rfl : HasR (shareR la m lc S) _).at_ hs) (HL.step hs.toBelow) HO g hz (by omega) hn9) ?_
  rintro _ w ⟨b1, rfl, hS⟩
  have hs := hs.call1 hS
  clear hS
  refine ⟨_, rfl, fun a hk => ?_⟩
  refine q_val hk (w_mv rfl) rfl rfl rfl fun a hk => ?_
  refine q_val hk (w_ext rfl rfl) rfl rfl rfl fun a hk => ?_
  refine q_val hk (w_ext rfl rfl) rfl rfl rfl fun a hk => ?_
  refine q_val hk (w_as rfl) rfl rfl rfl fun a hk => ?_
  refine q_val hk (w_as rfl) rfl rfl rfl fun a hk => ?_
  refine (c_end (x_t ?_))
  refine wpIn_seq ?_
  refine wpIn_seq ?_
  refine wpIn_region_lit ?_
  refine q_val hk (w_mv rfl) rfl rfl rfl fun a hk => ?_
  refine q_call (caps := []) hk rfl rfl Tryz.func18 fo18 rfl rfl (refCkShares_c m lc la S _ ((HasR.nth 0 rfl : HasR (shareR la m lc S) _).at_ hs) HO) ?_
  rintro _ w ⟨rfl, hb⟩
  have hs := hs.below hb
  refine ⟨_, rfl, fun a hk => ?_⟩
  refine q_val hk (w_as rfl) rfl rfl rfl fun a hk => ?_
  refine (c_end (x_t ?_))
  refine wpIn_seq ?_
  refine wpIn_region_lit ?_
  refine q_val hk (w_mv rfl) rfl rfl rfl fun a hk => ?_
  refine q_val hk (w_ne rfl rfl (decide_eq_false (fun h => h hz))) rfl rfl rfl fun a hk => ?_
  refine (c_end (x_t ?_))
  refine c_F hk rfl ?_
  refine (wpIn_skip (x_t ?_))
  refine wpIn_seq ?_
  refine wpIn_region_lit ?_
  refine q_call (caps := []) hk rfl rfl Tryz.func16 fo16 rfl rfl (alive18_c _ (HL.step hs.toBelow)) ?_
  rintro _ w ⟨rfl, hb⟩
  have hs := hs.below hb
  refine ⟨_, rfl, fun a hk => ?_⟩
  refine q_val hk (w_mv rfl) rfl rfl rfl fun a hk => ?_
  refine q_val hk (w_mv rfl) rfl rfl rfl fun a hk => ?_
  refine q_val hk (w_eq rfl rfl (decide_eq_true (by decide))) rfl rfl rfl fun a hk => ?_
  refine q_val hk (w_pickT rfl rfl) rfl rfl rfl fun a hk => ?_
  refine q_val hk (w_mv rfl) rfl rfl rfl fun a hk => ?_
  refine q_val hk (w_mv rfl) rfl rfl rfl fun a hk => ?_
  refine q_val hk (w_mv rfl) rfl rfl rfl fun a hk => ?_
  refine q_call (caps := []) hk rfl rfl Tryz.func22 fo22 rfl rfl (rchE ((HasR.nth 0 rfl : HasR (shareR la m lc S) _).at_ hs) g (by omega) hn9) ?_
  rintro _ w ⟨a2, c3, rfl, hS⟩
  have hs := hs.call1 hS
  clear hS
  refine ⟨_, rfl, fun a hk => ?_⟩
  refine q_call (caps := []) hk rfl rfl Tryz.func21 fo21 rfl rfl (eqB_c (S 0).n ((S 0).n) c3 (some ⟨b1, 0, none⟩) a2 (fitB s S m) _ (blk_lst (hs.mi 1 rfl) (en_len boc_len) (Nat.le_refl _)) (row_lst (hs.mi 0 rfl)) (by omega)) ?_
  rintro _ w ⟨rfl, hb⟩
  have hs := hs.below hb
  refine ⟨_, rfl, fun a hk => ?_⟩
  refine q_val hk (w_pickT rfl rfl) rfl rfl rfl fun a hk => ?_
  refine q_val hk (w_as rfl) rfl rfl rfl fun a hk => ?_
  refine (c_end (x_t ?_))
  refine (wpIn_ret ?_)
  refine c_ret1 hk rfl rfl ?_
  exact ⟨rfl, hs.toBelow⟩
theorem lawSus_big (m lc : Nat) (la : Option Addr) (S : Nat → Shr) (W : World) (HS : (shareR la m lc S).ok W) (HL : Laid W) (hg : 0 < lrg S m) : Calls Tryz.prog 5 [.slice la m lc].toArray W fun e w => e = .returned (.bool true) ∧ Below W.heap.size W w := by
  refine c_enter (args := [.slice la m lc]) Tryz.func5 rfl rfl rfl fun a hk => ?_
  have hs := Sat.start W [shareR la m lc S] (okr1 HS)
  refine wpIn_seq ?_
  refine wpIn_region_lit ?_
  refine q_val hk (w_as rfl) rfl rfl rfl fun a hk => ?_
  refine (c_end (x_t ?_))
  refine wpIn_seq ?_
  refine wpIn_seq ?_
  refine wpIn_region_lit ?_
  refine q_val hk (w_mv rfl) rfl rfl rfl fun a hk => ?_
  refine q_call (caps := []) hk rfl rfl Tryz.func15 fo15 rfl rfl (large_c m lc la S _ ((HasR.nth 0 rfl : HasR (shareR la m lc S) _).at_ hs)) ?_
  rintro _ w ⟨rfl, hb⟩
  have hs := hs.below hb
  refine ⟨_, rfl, fun a hk => ?_⟩
  refine q_val hk (w_gt rfl rfl (decide_eq_true hg)) rfl rfl rfl fun a hk => ?_
  refine q_val hk (w_mv rfl) rfl rfl rfl fun a hk => ?_
  refine q_skip hk rfl rfl fun a hk => ?_
  refine q_skip hk rfl rfl fun a hk => ?_
  refine q_skip hk rfl rfl fun a hk => ?_
  refine q_val hk (w_pickT rfl rfl) rfl rfl rfl fun a hk => ?_
  refine (c_end (x_t ?_))
  refine c_T hk rfl ?_
  refine wpIn_seq ?_
  refine wpIn_region_lit ?_
  refine q_call (caps := []) hk rfl rfl Tryz.func16 fo16 rfl rfl (alive18_c _ (HL.step hs.toBelow)) ?_
  rintro _ w ⟨rfl, hb⟩
  have hs := hs.below hb
  refine ⟨_, rfl, fun a hk => ?_⟩
  refine q_val hk (w_as rfl) rfl rfl rfl fun a hk => ?_
  refine (c_end (x_t ?_))
  refine (wpIn_ret (x_tr ?_))
  refine c_ret1 hk rfl rfl ?_
  exact ⟨rfl, hs.toBelow⟩
theorem lawSus_big7 (m lc : Nat) (la : Option Addr) (S : Nat → Shr) (W : World) (HS : (shareR la m lc S).ok W) (HL : Laid W) (hg : ¬ 0 < lrg S m) (h7 : 7 < m) (hm : m ≤ 12) : Calls Tryz.prog 5 [.slice la m lc].toArray W fun e w => e = .returned (.bool true) ∧ Below W.heap.size W w := by
  refine c_enter (args := [.slice la m lc]) Tryz.func5 rfl rfl rfl fun a hk => ?_
  have hs := Sat.start W [shareR la m lc S] (okr1 HS)
  refine wpIn_seq ?_
  refine wpIn_region_lit ?_
  refine q_val hk (w_as rfl) rfl rfl rfl fun a hk => ?_
  refine (c_end (x_t ?_))
  refine wpIn_seq ?_
  refine wpIn_seq ?_
  refine wpIn_region_lit ?_
  refine q_val hk (w_mv rfl) rfl rfl rfl fun a hk => ?_
  refine q_call (caps := []) hk rfl rfl Tryz.func15 fo15 rfl rfl (large_c m lc la S _ ((HasR.nth 0 rfl : HasR (shareR la m lc S) _).at_ hs)) ?_
  rintro _ w ⟨rfl, hb⟩
  have hs := hs.below hb
  refine ⟨_, rfl, fun a hk => ?_⟩
  refine q_val hk (w_gt rfl rfl (decide_eq_false hg)) rfl rfl rfl fun a hk => ?_
  refine q_val hk (w_mv rfl) rfl rfl rfl fun a hk => ?_
  refine q_val hk (w_mv rfl) rfl rfl rfl fun a hk => ?_
  refine q_val hk (w_len rfl Tryz.underlying22) rfl rfl rfl fun a hk => ?_
  refine q_val hk (w_gt rfl rfl (decide_eq_true (by omega))) rfl rfl rfl fun a hk => ?_
  refine q_val hk (w_pickF rfl rfl) rfl rfl rfl fun a hk => ?_
  refine (c_end (x_t ?_))
  refine c_T hk rfl ?_
  refine wpIn_seq ?_
  refine wpIn_region_lit ?_
  refine q_call (caps := []) hk rfl rfl Tryz.func16 fo16 rfl rfl (alive18_c _ (HL.step hs.toBelow)) ?_
  rintro _ w ⟨rfl, hb⟩
  have hs := hs.below hb
  refine ⟨_, rfl, fun a hk => ?_⟩
  refine q_val hk (w_as rfl) rfl rfl rfl fun a hk => ?_
  refine (c_end (x_t ?_))
  refine (wpIn_ret (x_tr ?_))
  refine c_ret1 hk rfl rfl ?_
  exact ⟨rfl, hs.toBelow⟩
theorem lawSus_bad (m lc : Nat) (la : Option Addr) (S : Nat → Shr) (W : World) (HS : (shareR la m lc S).ok W) (HL : Laid W) (hg : ¬ 0 < lrg S m) (HO : ShOk S m) (hm : m ≤ 12) (hz : csErr S m ≠ 0) (hm8 : m ≤ 8) (hm7 : m ≤ 7) : Calls Tryz.prog 5 [.slice la m lc].toArray W fun e w => e = .returned (.bool true) ∧ Below W.heap.size W w := by
  have hrg := csErr_rng S m
  refine c_enter (args := [.slice la m lc]) Tryz.func5 rfl rfl rfl fun a hk => ?_
  have hs := Sat.start W [shareR la m lc S] (okr1 HS)
  refine wpIn_seq ?_
  refine wpIn_region_lit ?_
  refine q_val hk (w_as rfl) rfl rfl rfl fun a hk => ?_
  refine (c_end (x_t ?_))
  refine wpIn_seq ?_
  refine wpIn_seq ?_
  refine wpIn_region_lit ?_
  refine q_val hk (w_mv rfl) rfl rfl rfl fun a hk => ?_
  refine q_call (caps := []) hk rfl rfl Tryz.func15 fo15 rfl rfl (large_c m lc la S _ ((HasR.nth 0 rfl : HasR (shareR la m lc S) _).at_ hs)) ?_
  rintro _ w ⟨rfl, hb⟩
  have hs := hs.below hb
  refine ⟨_, rfl, fun a hk => ?_⟩
  refine q_val hk (w_gt rfl rfl (decide_eq_false hg)) rfl rfl rfl fun a hk => ?_
  refine q_val hk (w_mv rfl) rfl rfl rfl fun a hk => ?_
  refine q_val hk (w_mv rfl) rfl rfl rfl fun a hk => ?_
  refine q_val hk (w_len rfl Tryz.underlying22) rfl rfl rfl fun a hk => ?_
  refine q_val hk (w_gt rfl rfl (decide_eq_false (by omega))) rfl rfl rfl fun a hk => ?_
  refine q_val hk (w_pickF rfl rfl) rfl rfl rfl fun a hk => ?_
  refine (c_end (x_t ?_))
  refine c_F hk rfl ?_
  refine (wpIn_skip (x_t ?_))
  refine wpIn_seq ?_
  refine wpIn_region_lit ?_
  refine q_val hk (w_mv rfl) rfl rfl rfl fun a hk => ?_
  refine q_call (caps := []) hk rfl rfl Tryz.func23 fo23 rfl rfl (susN_bad ((HasR.nth 0 rfl : HasR (shareR la m lc S) _).at_ hs) (HL.step hs.toBelow) HO hz) ?_
  rintro _ w ⟨rfl, hb⟩
  have hs := hs.below hb
  refine ⟨_, rfl, fun a hk => ?_⟩
  refine q_val hk (w_mv rfl) rfl rfl rfl fun a hk => ?_
  refine q_val hk (w_ext rfl rfl) rfl rfl rfl fun a hk => ?_
  refine q_val hk (w_ext rfl rfl) rfl rfl rfl fun a hk => ?_
  refine q_val hk (w_as rfl) rfl rfl rfl fun a hk => ?_
  refine q_val hk (w_as rfl) rfl rfl rfl fun a hk => ?_
  refine (c_end (x_t ?_))
  refine wpIn_seq ?_
  refine wpIn_region_lit ?_
  refine q_val hk (w_mv rfl) rfl rfl rfl fun a hk => ?_
  refine q_call (caps := []) hk rfl rfl Tryz.func24 fo24 rfl rfl (rsus_bad m lc la S _ ((HasR.nth 0 rfl : HasR (shareR la m lc S) _).at_ hs) HO hz) ?_
  rintro _ w ⟨rfl, hb⟩
  have hs := hs.below hb
  refine ⟨_, rfl, fun a hk => ?_⟩
  refine q_val hk (w_mv rfl) rfl rfl rfl fun a hk => ?_
  refine q_val hk (w_ext rfl rfl) rfl rfl rfl fun a hk => ?_
  refine q_val hk (w_ext rfl rfl) rfl rfl rfl fun a hk => ?_
  refine q_val hk (w_as rfl) rfl rfl rfl fun a hk => ?_
  refine q_val hk (w_as rfl) rfl rfl rfl fun a hk => ?_
  refine (c_end (x_t ?_))
  refine wpIn_seq ?_
  refine wpIn_region_lit ?_
  refine q_call (caps := []) hk rfl rfl Tryz.func16 fo16 rfl rfl (alive18_c _ (HL.step hs.toBelow)) ?_
  rintro _ w ⟨rfl, hb⟩
  have hs := hs.below hb
  refine ⟨_, rfl, fun a hk => ?_⟩
  refine q_val hk (w_mv rfl) rfl rfl rfl fun a hk => ?_
  refine q_val hk (w_mv rfl) rfl rfl rfl fun a hk => ?_
  refine q_val hk (w_mv rfl) rfl rfl rfl fun a hk => ?_
  refine q_call (caps := []) hk rfl rfl Tryz.func25 fo25 rfl rfl (eqI_c 0 0 0 none none (fun _ => 0) _ lstNil lstNil (by omega)) ?_
  rintro _ w ⟨rfl, hb⟩
  have hs := hs.below hb
  refine ⟨_, rfl, fun a hk => ?_⟩
  refine q_val hk (w_pickT rfl rfl) rfl rfl rfl fun a hk => ?_
  refine q_val hk (w_mv rfl) rfl rfl rfl fun a hk => ?_
  refine q_val hk (w_mv rfl) rfl rfl rfl fun a hk => ?_
  refine q_val hk (w_mv rfl) rfl rfl rfl fun a hk => ?_
  refine q_val hk (w_eq rfl rfl (decide_eq_true rfl)) rfl rfl rfl fun a hk => ?_
  refine q_val hk (w_pickT rfl rfl) rfl rfl rfl fun a hk => ?_
  refine q_val hk (w_as rfl) rfl rfl rfl fun a hk => ?_
  refine (c_end (x_t ?_))
  refine (wpIn_ret ?_)
  refine c_ret1 hk rfl rfl ?_
  exact ⟨rfl, hs.toBelow⟩
theorem lawSus_few (s : Bool) (m lc : Nat) (la : Option Addr) (S : Nat → Shr) (W : World) (HS : (shareR la m lc S).ok W) (HL : Laid W) (hg : ¬ 0 < lrg S m) (HO : ShOk S m) (hm : m ≤ 12) (g : Good s S m) (hz : csErr S m = 0) (hn9 : (S 0).n ≤ 4) (hm8 : m ≤ 8) (hm7 : m ≤ 7) (hf : ((m : Nat) : Int) ≤ (S 0).T) : Calls Tryz.prog 5 [.slice la m lc].toArray W fun e w => e = .returned (.bool true) ∧ Below W.heap.size W w := by
  refine c_enter (args := [.slice la m lc]) Tryz.func5 rfl rfl rfl fun a hk => ?_
  have hs := Sat.start W [shareR la m lc S] (okr1 HS)
  refine wpIn_seq ?_
  refine wpIn_region_lit ?_
  refine q_val hk (w_as rfl) rfl rfl rfl fun a hk => ?_
  refine (c_end (x_t ?_))
  refine wpIn_seq ?_
  refine wpIn_seq ?_
  refine wpIn_region_lit ?_
  refine q_val hk (w_mv rfl) rfl rfl rfl fun a hk => ?_
  refine q_call (caps := []) hk rfl rfl Tryz.func15 fo15 rfl rfl (large_c m lc la S _ ((HasR.nth 0 rfl : HasR (shareR la m lc S) _).at_ hs)) ?_
  rintro _ w ⟨rfl, hb⟩
  have hs := hs.below hb
  refine ⟨_, rfl, fun a hk => ?_⟩
  refine q_val hk (w_gt rfl rfl (decide_eq_false hg)) rfl rfl rfl fun a hk => ?_
  refine q_val hk (w_mv rfl) rfl rfl rfl fun a hk => ?_
  refine q_val hk (w_mv rfl) rfl rfl rfl fun a hk => ?_
  refine q_val hk (w_len rfl Tryz.underlying22) rfl rfl rfl fun a hk => ?_
  refine q_val hk (w_gt rfl rfl (decide_eq_false (by omega))) rfl rfl rfl fun a hk => ?_
  refine q_val hk (w_pickF rfl rfl) rfl rfl rfl fun a hk => ?_
  refine (c_end (x_t ?_))
  refine c_F hk rfl ?_
  refine (wpIn_skip (x_t ?_))
  refine wpIn_seq ?_
  refine wpIn_region_lit ?_
  refine q_val hk (w_mv rfl) rfl rfl rfl fun a hk => ?_
  refine q_call (caps := []) hk rfl rfl Tryz.func23 fo23 rfl rfl (susN_few ((HasR.nth 0 rfl : HasR (shareR la m lc S) _).at_ hs) (HL.step hs.toBelow) HO g hz hm8 hn9 hf) ?_
  rintro _ w ⟨rfl, hb⟩
  have hs := hs.below hb
  refine ⟨_, rfl, fun a hk => ?_⟩
  refine q_val hk (w_mv rfl) rfl rfl rfl fun a hk => ?_
  refine q_val hk (w_ext rfl rfl) rfl rfl rfl fun a hk => ?_
  refine q_val hk (w_ext rfl rfl) rfl rfl rfl fun a hk => ?_
  refine q_val hk (w_as rfl) rfl rfl rfl fun a hk => ?_
  refine q_val hk (w_as rfl) rfl rfl rfl fun a hk => ?_
  refine (c_end (x_t ?_))
  refine wpIn_seq ?_
  refine wpIn_region_lit ?_
  refine q_val hk (w_mv rfl) rfl rfl rfl fun a hk => ?_
  refine q_call (caps := []) hk rfl rfl Tryz.func24 fo24 rfl rfl (rsus_few m lc la S _ ((HasR.nth 0 rfl : HasR (shareR la m lc S) _).at_ hs) HO hz g.m0 (by omega) hf) ?_
  rintro _ w ⟨rfl, hb⟩
  have hs := hs.below hb
  refine ⟨_, rfl, fun a hk => ?_⟩
  refine q_val hk (w_mv rfl) rfl rfl rfl fun a hk => ?_
  refine q_val hk (w_ext rfl rfl) rfl rfl rfl fun a hk => ?_
  refine q_val hk (w_ext rfl rfl) rfl rfl rfl fun a hk => ?_
  refine q_val hk (w_as rfl) rfl rfl rfl fun a hk => ?_
  refine q_val hk (w_as rfl) rfl rfl rfl fun a hk => ?_
  refine (c_end (x_t ?_))
  refine wpIn_seq ?_
  refine wpIn_region_lit ?_
  refine q_call (caps := []) hk rfl rfl Tryz.func16 fo16 rfl rfl (alive18_c _ (HL.step hs.toBelow)) ?_
  rintro _ w ⟨rfl, hb⟩
  have hs := hs.below hb
  refine ⟨_, rfl, fun a hk => ?_⟩
  refine q_val hk (w_mv rfl) rfl rfl rfl fun a hk => ?_
  refine q_val hk (w_mv rfl) rfl rfl rfl fun a hk => ?_
  refine q_val hk (w_mv rfl) rfl rfl rfl fun a hk => ?_
  refine q_call (caps := []) hk rfl rfl Tryz.func25 fo25 rfl rfl (eqI_c 0 0 0 none none (fun _ => 0) _ lstNil lstNil (by omega)) ?_
  rintro _ w ⟨rfl, hb⟩
  have hs := hs.below hb
  refine ⟨_, rfl, fun a hk => ?_⟩
  refine q_val hk (w_pickT rfl rfl) rfl rfl rfl fun a hk => ?_
  refine q_val hk (w_mv rfl) rfl rfl rfl fun a hk => ?_
  refine q_val hk (w_mv rfl) rfl rfl rfl fun a hk => ?_
  refine q_val hk (w_mv rfl) rfl rfl rfl fun a hk => ?_
  refine q_val hk (w_eq rfl rfl (decide_eq_true (by decide))) rfl rfl rfl fun a hk => ?_
  refine q_val hk (w_pickT rfl rfl) rfl rfl rfl fun a hk => ?_
  refine q_val hk (w_as rfl) rfl rfl rfl fun a hk => ?_
  refine (c_end (x_t ?_))
  refine (wpIn_ret ?_)
  refine c_ret1 hk rfl rfl ?_
  exact ⟨rfl, hs.toBelow⟩
theorem lawSus_good (s : Bool) (m lc : Nat) (la : Option Addr) (S : Nat → Shr) (W : World) (HS : (shareR la m lc S).ok W) (HL : Laid W) (hg : ¬ 0 < lrg S m) (HO : ShOk S m) (hm : m ≤ 12) (g : Good s S m) (hz : csErr S m = 0) (hn9 : (S 0).n ≤ 4) (hm8 : m ≤ 8) (hm7 : m ≤ 7) (hf : (S 0).T < ((m : Nat) : Int)) : Calls Tryz.prog 5 [.slice la m lc].toArray W fun e w => e = .returned (.bool true) ∧ Below W.heap.size W w := by
  refine c_enter (args := [.slice la m lc]) Tryz.func5 rfl rfl rfl fun a hk => ?_
  have hs := Sat.start W [shareR la m lc S] (okr1 HS)
  refine wpIn_seq ?_
  refine wpIn_region_lit ?_
  refine q_val hk (w_as rfl) rfl rfl rfl fun a hk => ?_
  refine (c_end (x_t ?_))
  refine wpIn_seq ?_
  refine wpIn_seq ?_
  refine wpIn_region_lit ?_
  refine q_val hk (w_mv rfl) rfl rfl rfl fun a hk => ?_
  refine q_call (caps := []) hk rfl rfl Tryz.func15 fo15 rfl rfl (large_c m lc la S _ ((HasR.nth 0 rfl : HasR (shareR la m lc S) _).at_ hs)) ?_
  rintro _ w ⟨rfl, hb⟩
  have hs := hs.below hb
  refine ⟨_, rfl, fun a hk => ?_⟩
  refine q_val hk (w_gt rfl rfl (decide_eq_false hg)) rfl rfl rfl fun a hk => ?_
  refine q_val hk (w_mv rfl) rfl rfl rfl fun a hk => ?_
  refine q_val hk (w_mv rfl) rfl rfl rfl fun a hk => ?_
  refine q_val hk (w_len rfl Tryz.underlying22) rfl rfl rfl fun a hk => ?_
  refine q_val hk (w_gt rfl rfl (decide_eq_false (by omega))) rfl rfl rfl fun a hk => ?_
  refine q_val hk (w_pickF rfl rfl) rfl rfl rfl fun a hk => ?_
  refine (c_end (x_t ?_))
  refine c_F hk rfl ?_
  refine (wpIn_skip (x_t ?_))
  refine wpIn_seq ?_
  refine wpIn_region_lit ?_
  refine q_val hk (w_mv rfl) rfl rfl rfl fun a hk => ?_
  refine q_call (caps := []) hk rfl rfl Tryz.func23 fo23 rfl rfl (susN' ((HasR.nth 0 rfl : HasR (shareR la m lc S) _).at_ hs) (HL.step hs.toBelow) HO g hz (by omega) hn9 hf) ?_
  rintro _ w ⟨a1, c2, rfl, hS⟩
  have hs := hs.call1 hS
  clear hS
  refine ⟨_, rfl, fun a hk => ?_⟩
  refine q_val hk (w_mv rfl) rfl rfl rfl fun a hk => ?_
  refine q_val hk (w_ext rfl rfl) rfl rfl rfl fun a hk => ?_
  refine q_val hk (w_ext rfl rfl) rfl rfl rfl fun a hk => ?_
  refine q_val hk (w_as rfl) rfl rfl rfl fun a hk => ?_
  refine q_val hk (w_as rfl) rfl rfl rfl fun a hk => ?_
  refine (c_end (x_t ?_))
  refine wpIn_seq ?_
  refine wpIn_region_lit ?_
  refine q_val hk (w_mv rfl) rfl rfl rfl fun a hk => ?_
  refine q_call (caps := []) hk rfl rfl Tryz.func24 fo24 rfl rfl (rsusE ((HasR.nth 0 rfl : HasR (shareR la m lc S) _).at_ hs) g (by omega) hn9 HO hz hf) ?_
  rintro _ w ⟨a3, c4, rfl, hS⟩
  have hs := hs.call1 hS
  clear hS
  refine ⟨_, rfl, fun a hk => ?_⟩
  refine q_val hk (w_mv rfl) rfl rfl rfl fun a hk => ?_
  refine q_val hk (w_ext rfl rfl) rfl rfl rfl fun a hk => ?_
  refine q_val hk (w_ext rfl rfl) rfl rfl rfl fun a hk => ?_
  refine q_val hk (w_as rfl) rfl rfl rfl fun a hk => ?_
  refine q_val hk (w_as rfl) rfl rfl rfl fun a hk => ?_
  refine (c_end (x_t ?_))
  refine wpIn_seq ?_
  refine wpIn_region_lit ?_
  refine q_call (caps := []) hk rfl rfl Tryz.func16 fo16 rfl rfl (alive18_c _ (HL.step hs.toBelow)) ?_
  rintro _ w ⟨rfl, hb⟩
  have hs := hs.below hb
  refine ⟨_, rfl, fun a hk => ?_⟩
  refine q_val hk (w_mv rfl) rfl rfl rfl fun a hk => ?_
  refine q_val hk (w_mv rfl) rfl rfl rfl fun a hk => ?_
  refine q_val hk (w_mv rfl) rfl rfl rfl fun a hk => ?_
  refine q_call (caps := []) hk rfl rfl Tryz.func25 fo25 rfl rfl (eqIL_c (l := susL s S m m) rfl (row_lst (hs.mi 1 rfl)) (row_lst (hs.mi 0 rfl)) (by have := susL_len (s := s) (S := S) (m := m) m; omega)) ?_
  rintro _ w ⟨rfl, hb⟩
  have hs := hs.below hb
  refine ⟨_, rfl, fun a hk => ?_⟩
  refine q_val hk (w_pickT rfl rfl) rfl rfl rfl fun a hk => ?_
  refine q_val hk (w_mv rfl) rfl rfl rfl fun a hk => ?_
  refine q_val hk (w_mv rfl) rfl rfl rfl fun a hk => ?_
  refine q_val hk (w_mv rfl) rfl rfl rfl fun a hk => ?_
  refine q_val hk (w_eq rfl rfl (decide_eq_true (by decide))) rfl rfl rfl fun a hk => ?_
  refine q_val hk (w_pickT rfl rfl) rfl rfl rfl fun a hk => ?_
  refine q_val hk (w_as rfl) rfl rfl rfl fun a hk => ?_
  refine (c_end (x_t ?_))
  refine (wpIn_ret ?_)
  refine c_ret1 hk rfl rfl ?_
  exact ⟨rfl, hs.toBelow⟩
section
variable (W : World) (la : Option Addr) (m lc : Nat) (S : Nat → Shr) (hx : ∀ k, k < m → ∀ i, i < (S k).n → (S k).X i < R4) (HS : (shareR la m lc S).ok W) (HL : Laid W)
include hx HS HL
theorem lawCon_c : Calls Tryz.prog 3 #[.slice la m lc] W fun e w => e = .returned (.bool true) ∧ Below W.heap.size W w := by
  by_cases hg : 0 < lrg S m
  · exact lawCon_big m lc la S W HS HL hg
  · have h := lrg_le hg
    by_cases hz : csErr S m = 0
    · obtain ⟨s, g⟩ := good_of hz
      exact lawCon_good s m lc la S W HS HL hg (shok_of h hx) h.1 g hz (h.2 0 g.m0)
    · exact lawCon_bad m lc la S W HS HL hg (shok_of h hx) h.1 hz
theorem lawChu_c : Calls Tryz.prog 4 #[.slice la m lc] W fun e w => e = .returned (.bool true) ∧ Below W.heap.size W w := by
  by_cases hg : 0 < lrg S m
  · exact lawChu_big m lc la S W HS HL hg
  · have h := lrg_le hg
    by_cases hz : csErr S m = 0
    · obtain ⟨s, g⟩ := good_of hz
      exact lawChu_good s m lc la S W HS HL hg (shok_of h hx) h.1 g hz (h.2 0 g.m0)
    · exact lawChu_bad m lc la S W HS HL hg (shok_of h hx) h.1 hz
theorem lawSus_c : Calls Tryz.prog 5 #[.slice la m lc] W fun e w => e = .returned (.bool true) ∧ Below W.heap.size W w := by
  by_cases hg : 0 < lrg S m
  · exact lawSus_big m lc la S W HS HL hg
  · have h := lrg_le hg
    by_cases h7 : 7 < m
    · exact lawSus_big7 m lc la S W HS HL hg h7 h.1
    · by_cases hz : csErr S m = 0
      · obtain ⟨s, g⟩ := good_of hz
        by_cases hf : (S 0).T < ((m : Nat) : Int)
        · exact lawSus_good s m lc la S W HS HL hg (shok_of h hx) h.1 g hz (h.2 0 g.m0) (by omega) (by omega) hf
        · exact lawSus_few s m lc la S W HS HL hg (shok_of h hx) h.1 g hz (h.2 0 g.m0) (by omega) (by omega) (by omega)
      · exact lawSus_bad m lc la S W HS HL hg (shok_of h hx) h.1 hz (by omega) (by omega)
end
end Go.Proofs.YtdnkkbmpefhbjaaGreatDoor
namespace Go.Proofs.YtdnkkbmpefhbjaaGreatDoor
set_option linter.all false
open Go Go.ChangeShapes Go.WideShapes Go.ChangeAt Go.WideMaps Go.WideElems Go.RowKit
theorem own : ownKnob Tryz.prog.godebug = none := by kernel_rfl
theorem laidOut : laidOutB Tryz.prog = true := by kernel_rfl
theorem gFields : Tryz.prog.globalNamed "sharecore/field.fields" = some 0 := by kernel_rfl
theorem tFields : (Tryz.prog.globals[0]?).map (·.type) = some 168 := by kernel_rfl
theorem cells64 : Tryz.prog.cellsOf 46 = 1 := by kernel_rfl
theorem cellsInt : Tryz.prog.cellsOf 3 = 1 := by kernel_rfl
theorem cellsVec : Tryz.prog.cellsOf 47 = 4 := by kernel_rfl
theorem cellsElem : Tryz.prog.cellsOf 56 = 4 := by kernel_rfl
theorem cellsField : Tryz.prog.cellsOf 120 = 14 := by kernel_rfl
theorem cellsFields : Tryz.prog.cellsOf 168 = 28 := by kernel_rfl
section
variable {H : Type} {enc : TypeId × Value → H} {w : World} {base : Nat} {spare : Nat → Bool} {held : Bool} {n : Nat} {cs : List Value} {ps : List MemPlace}
set_option maxRecDepth 100000 in
theorem four_of {T : TypeId} {d : DataW H} (hT : Tryz.prog.underlying T = some (.array 4 46)) (hc : Tryz.prog.cellsOf T = 4) (h : DataW.trod enc Tryz.prog w base spare held n T cs = some (d, ps)) :
    ∃ a0 a1 a2 a3 : Int, cs = [.int .u64 a0, .int .u64 a1, .int .u64 a2, .int .u64 a3] ∧ d = .agg [.lit (.int .u64 a0), .lit (.int .u64 a1), .lit (.int .u64 a2), .lit (.int .u64 a3)] ∧
      (Lit.int .u64 a0).wf = true ∧ (Lit.int .u64 a1).wf = true ∧ (Lit.int .u64 a2).wf = true ∧ (Lit.int .u64 a3).wf = true := by
  obtain ⟨xs, m, rfl, hx, hlen, hn, hel⟩ := DataW.trod_array hT h
  rw [hc] at hlen
  match cs, hlen with
  | [c0, c1, c2, c3], _ =>
    match xs, hn with
    | [x0, x1, x2, x3], _ =>
      have e0 := hel 0 (by omega)
      have e1 := hel 1 (by omega)
      have e2 := hel 2 (by omega)
      have e3 := hel 3 (by omega)
      rw [cells64] at e0 e1 e2 e3
      simp only [Nat.mul_one, List.drop_zero, List.drop_succ_cons, List.take_succ_cons, List.take_zero, List.getElem?_cons_zero, List.getElem?_cons_succ] at e0 e1 e2 e3
      obtain ⟨k0, f0, g0, w0⟩ := DataW.trod_int Tryz.underlying46 e0
      obtain ⟨k1, f1, g1, w1⟩ := DataW.trod_int Tryz.underlying46 e1
      obtain ⟨k2, f2, g2, w2⟩ := DataW.trod_int Tryz.underlying46 e2
      obtain ⟨k3, f3, g3, w3⟩ := DataW.trod_int Tryz.underlying46 e3
      subst g0 g1 g2 g3
      simp only [List.cons.injEq, and_true] at f0 f1 f2 f3
      subst f0 f1 f2 f3
      simp only [Prod.mk.injEq] at hx
      exact ⟨k0, k1, k2, k3, rfl, hx.1, w0, w1, w2, w3⟩
set_option maxRecDepth 100000 in
theorem field_of {i i' p0 p1 p2 p3 v o0 o1 o2 o3 s0 s1 s2 s3 : Int} (h : DataW.trod enc Tryz.prog w base spare held n 120 cs = some (.agg [.lit (.int .i64 i), .agg [.lit (.int .u64 p0), .lit (.int .u64 p1), .lit (.int .u64 p2), .lit (.int .u64 p3)], .lit (.int .u64 v), .agg [.lit (.int .u64 o0), .lit (.int .u64 o1), .lit (.int .u64 o2), .lit (.int .u64 o3)], .agg [.lit (.int .u64 s0), .lit (.int .u64 s1), .lit (.int .u64 s2), .lit (.int .u64 s3)]], ps)) (_hi : i' = i) :
    cs = [.int .i64 i, .int .u64 p0, .int .u64 p1, .int .u64 p2, .int .u64 p3, .int .u64 v, .int .u64 o0, .int .u64 o1, .int .u64 o2, .int .u64 o3, .int .u64 s0, .int .u64 s1, .int .u64 s2, .int .u64 s3] := by
  obtain ⟨xs, m, rfl, hx, hlen, hn, hel⟩ := DataW.trod_struct Tryz.underlying120 h
  rw [cellsField] at hlen
  match cs, hlen with
  | [c0, c1, c2, c3, c4, c5, c6, c7, c8, c9, c10, c11, c12, c13], _ =>
    match xs, hn with
    | [x0, x1, x2, x3, x4], _ =>
      have e0 := hel 0 { name := "ID", type := 3, offset := 0, embedded := false, tag := "", pkgPath := "", byteOffset := 0 } rfl
      have e1 := hel 1 { name := "Modulus", type := 47, offset := 1, embedded := false, tag := "", pkgPath := "", byteOffset := 8 } rfl
      have e2 := hel 2 { name := "Inverse", type := 46, offset := 5, embedded := false, tag := "", pkgPath := "", byteOffset := 40 } rfl
      have e3 := hel 3 { name := "One", type := 56, offset := 6, embedded := false, tag := "", pkgPath := "", byteOffset := 48 } rfl
      have e4 := hel 4 { name := "Square", type := 47, offset := 10, embedded := false, tag := "", pkgPath := "", byteOffset := 80 } rfl
      simp only [cells64, cellsInt, cellsVec, cellsElem, List.drop_zero, List.drop_succ_cons, List.take_succ_cons, List.take_zero, List.getElem?_cons_zero, List.getElem?_cons_succ] at e0 e1 e2 e3 e4
      obtain ⟨k0, f0, g0, _⟩ := DataW.trod_int Tryz.underlying3 e0
      obtain ⟨k2, f2, g2, _⟩ := DataW.trod_int Tryz.underlying46 e2
      obtain ⟨x1, r1⟩ := x1
      obtain ⟨x3, r3⟩ := x3
      obtain ⟨x4, r4⟩ := x4
      obtain ⟨a0, a1, a2, a3, f1, g1, _⟩ := four_of Tryz.underlying47 cellsVec e1
      obtain ⟨b0, b1, b2, b3, f3, g3, _⟩ := four_of Tryz.underlying56 cellsElem e3
      obtain ⟨d0, d1, d2, d3, f4, g4, _⟩ := four_of Tryz.underlying47 cellsVec e4
      subst g0 g1 g2 g3 g4
      simp only [List.cons.injEq, and_true] at f0 f2
      simp only [List.cons.injEq, and_true] at f1
      simp only [List.cons.injEq, and_true] at f3
      simp only [List.cons.injEq, and_true] at f4
      simp only [Prod.mk.injEq, List.map_cons, List.map_nil, DataW.agg.injEq, List.cons.injEq, DataW.lit.injEq, Lit.int.injEq, true_and, and_true] at hx
      obtain ⟨⟨rfl, ⟨rfl, rfl, rfl, rfl⟩, rfl, ⟨rfl, rfl, rfl, rfl⟩, rfl, rfl, rfl, rfl⟩, _⟩ := hx
      obtain ⟨rfl, rfl, rfl, rfl⟩ := f1
      obtain ⟨rfl, rfl, rfl, rfl⟩ := f3
      obtain ⟨rfl, rfl, rfl, rfl⟩ := f4
      subst f0 f2
      rfl
end
theorem of_laid {W : World} (h : laidMetH Tryz.prog [("sharecore/field.fields", Rows.laid_sharecore_field_fields)] W) : Laid W := by
  rw [MakeChecks.laidMetH_plain _ _ _ (by kernel_rfl)] at h
  obtain ⟨ps, ⟨g0, t0, cs0, f0, p0, q0, hg0, ht0, hv0, hd0, _, _⟩, _, _⟩ := h
  obtain rfl := Option.some.inj (gFields.symm.trans hg0)
  obtain rfl := Option.some.inj (tFields.symm.trans ht0)
  have key : cs0.toList = fieldCells.toList := by
    obtain ⟨xs, m, rfl, hx, hlen, hn, hel⟩ := DataW.trod_array Tryz.underlying168 hd0
    rw [cellsFields] at hlen
    match xs, hn with
    | [x0, x1], _ =>
      have e0 := hel 0 (by omega)
      have e1 := hel 1 (by omega)
      simp only [cellsField, Nat.zero_mul, Nat.one_mul, List.drop_zero, List.getElem?_cons_zero, List.getElem?_cons_succ] at e0 e1
      obtain ⟨x0, r0⟩ := x0
      obtain ⟨x1, r1⟩ := x1
      unfold Rows.laid_sharecore_field_fields at hx
      simp only [Prod.mk.injEq, List.map_cons, List.map_nil, DataW.agg.injEq, List.cons.injEq, and_true] at hx
      obtain ⟨⟨rfl, rfl⟩, _⟩ := hx
      have k0 := field_of e0 rfl
      have k1 := field_of e1 rfl
      rw [List.take_of_length_le (by rw [List.length_drop, hlen]; omega)] at k1
      rw [← List.take_append_drop 14 cs0.toList, k0, k1]
      rfl
  have key' : cs0 = fieldCells := by rw [← Array.toArray_toList (xs := cs0), key]
  intro j v hv
  rw [World.var?_cell hg0 hv0 j, key']
  exact hv
theorem wf64 {a : Int} (h : (Lit.int .u64 a).wf = true) : ∃ n : Nat, a = (n : Int) ∧ n < W := by
  have := bounds_u64 h
  exact ⟨a.toNat, by omega, by unfold W; omega⟩
theorem lt_of {H : Type} {enc : TypeId × Value → H} {w : World} {spare : Nat → Bool} {held : Bool} {T : TypeId} {v : Value} {d : DataW H} {p : List MemPlace} (h : DataW.Trod enc Tryz.prog w 0 spare held T v d p) : ∀ x ∈ p, x.block < w.heap.size := by
  obtain ⟨m, hm⟩ := h
  exact DataW.trod_lt m _ _ _ hm
end Go.Proofs.YtdnkkbmpefhbjaaGreatDoor
namespace Go.Proofs.YtdnkkbmpefhbjaaGreatDoor
set_option linter.all false
open Go Go.ChangeShapes Go.WideShapes Go.ChangeAt Go.WideMaps Go.WideElems Go.RowKit
theorem cellsShare : Tryz.prog.cellsOf 53 = 5 := by kernel_rfl
theorem cellsEls : Tryz.prog.cellsOf 51 = 1 := by kernel_rfl
section
variable {H : Type} {enc : TypeId × Value → H} {w : World} {held : Bool} {P : Program}
theorem cells_at {b : Nat} {q : Addr} {n : Nat} {cs : List Value} (h : w.cells? b q n = some cs) : cs.length = n ∧ ∀ j u, cs[j]? = some u → w.cell? (q.add j) = some u := by
  obtain ⟨_, h1, h2⟩ := World.cells?_some h
  refine ⟨h1, fun j u hj => ?_⟩
  rw [h2 j (by have := (List.getElem?_eq_some_iff.1 hj).1; omega), hj]
/-- A slice whose elements are each read as the cells of something. -/
theorem open_lst {α : Type} {c : α → List Value} {sz : Nat} {φ : α → Prop} {T te : TypeId} (hT : P.underlying T = some (.slice te)) (hc : P.cellsOf te = sz) (hs : 0 < sz) (hlen : ∀ x, (c x).length = sz) (d0 : α)
    (hel : ∀ fuel cs d p, DataW.trod enc P w 0 (fun _ => true) held fuel te cs = some (d, p) → ∃ x, φ x ∧ cs = c x) {a : Option Addr} {n cap : Nat} {d : DataW H} {p : List MemPlace}
    (h : DataW.Trod enc P w 0 (fun _ => true) held T (.slice a n cap) d p) : ∃ f : Nat → α, (∀ i, i < n → φ (f i)) ∧ LstAt w sz (.slice a n cap) n (en c f n) := by
  subst hc
  obtain ⟨fuel, hf⟩ := h
  rcases DataW.trod_slice hT hf with ⟨e, _⟩ | ⟨ad, len, cap', elems, rest, m, _, e, _, _, hl, _, hel1, hel2, _⟩
  · have e' : ([Value.slice a n cap] : List Value) = [.slice none 0 0] := e
    simp only [List.cons.injEq, Value.slice.injEq, and_true] at e'
    obtain ⟨rfl, rfl, rfl⟩ := e'
    exact ⟨fun _ => d0, fun i hi => (by omega), ⟨by simp [en], none, 0, rfl, Nat.le_refl _, fun _ => ⟨rfl, rfl⟩, fun ad h => by cases h⟩⟩
  · have e' : ([Value.slice a n cap] : List Value) = [.slice (some ad) len cap'] := e
    simp only [List.cons.injEq, Value.slice.injEq, and_true] at e'
    obtain ⟨rfl, rfl, rfl⟩ := e'
    have key : ∀ i, ∃ x, i < n → φ x ∧ ∀ j u, (c x)[j]? = some u → w.cell? ((ad.add (i * P.cellsOf te)).add j) = some u := by
      intro i
      by_cases hi : i < n
      · have h1 := hel2 i hi
        cases hcs : w.cells? 0 (ad.add (i * P.cellsOf te)) (P.cellsOf te) with
        | none =>
          rw [hcs, Option.bind_none, List.getElem?_eq_getElem (by omega)] at h1
          cases h1
        | some cs =>
          rw [hcs, Option.bind_some, List.getElem?_eq_getElem (by omega)] at h1
          obtain ⟨x, hx, rfl⟩ := hel _ _ _ _ h1
          exact ⟨x, fun _ => ⟨hx, (cells_at hcs).2⟩⟩
      · exact ⟨d0, fun h => absurd h hi⟩
    refine ⟨fun i => Classical.choose (key i), fun i hi => (Classical.choose_spec (key i) hi).1, ?_⟩
    have hcell : ∀ i, i < n → ∀ j u, (c (Classical.choose (key i)))[j]? = some u → w.cell? ((ad.add (i * P.cellsOf te)).add j) = some u := fun i hi => (Classical.choose_spec (key i) hi).2
    generalize hF : (fun i => Classical.choose (key i)) = f
    have hcell' : ∀ i, i < n → ∀ j u, (c (f i))[j]? = some u → w.cell? ((ad.add (i * P.cellsOf te)).add j) = some u := by subst hF; exact hcell
    clear hcell
    refine ⟨en_len hlen, some ad, cap, rfl, hl, (fun h => by cases h), fun q hq hn => ?_⟩
    cases hq
    have h0 : w.cell? ad = some ((c (f 0))[0]'(by rw [hlen]; exact hs)) := by
      have := hcell' 0 hn 0 _ (List.getElem?_eq_getElem (by rw [hlen]; exact hs))
      rw [Nat.zero_mul] at this
      exact this
    have hspot : ad.spot = none := by simpa using World.cell?_spot h0
    refine ⟨hspot, World.block_lt_of_cell? w _ h0, fun j u hj => ?_⟩
    have hjl := (List.getElem?_eq_some_iff.1 hj).1
    rw [en_len hlen] at hjl
    have hi : j / P.cellsOf te < n := (Nat.div_lt_iff_lt_mul hs).2 hjl
    have hch := en_chunk (c := c) (f := f) hlen hi
    have h2 := congrArg (fun l => l[j % P.cellsOf te]?) hch
    simp only [List.getElem?_take, List.getElem?_drop] at h2
    rw [if_pos (Nat.mod_lt _ hs), show j / P.cellsOf te * P.cellsOf te + j % P.cellsOf te = j by rw [Nat.mul_comm]; exact Nat.div_add_mod j _, hj] at h2
    have := hcell' _ hi _ u h2.symm
    rw [add_add hspot, show j / P.cellsOf te * P.cellsOf te + j % P.cellsOf te = j by rw [Nat.mul_comm]; exact Nat.div_add_mod j _] at this
    exact this
/-- A slice of elements. -/
theorem open_els {a : Option Addr} {n cap : Nat} {d : DataW H} {p : List MemPlace} (h : DataW.Trod enc Tryz.prog w 0 (fun _ => true) held 51 (.slice a n cap) d p) :
    ∃ f : Nat → Nat, (∀ i, i < n → f i < R4) ∧ LstAt w 4 (.slice a n cap) n (en vq f n) :=
  open_lst (φ := fun x => x < R4) Tryz.underlying51 cellsElem (by decide) vq_len 0 (fun fuel cs d p hf => by
    obtain ⟨a0, a1, a2, a3, e, _, w0, w1, w2, w3⟩ := four_of Tryz.underlying56 cellsElem hf
    obtain ⟨n0, rfl, l0⟩ := wf64 w0
    obtain ⟨n1, rfl, l1⟩ := wf64 w1
    obtain ⟨n2, rfl, l2⟩ := wf64 w2
    obtain ⟨n3, rfl, l3⟩ := wf64 w3
    refine ⟨val4 n0 n1 n2 n3, val4_lt l0 l1 l2 l3, ?_⟩
    rw [e]
    have := vec_val4 l0 l1 l2 l3
    unfold vec at this
    have := congrArg (fun v => match v with | Value.agg xs => xs.toList | _ => []) this
    simpa [vq] using this.symm) h
set_option maxRecDepth 100000 in
theorem shr_of {fuel : Nat} {cs : List Value} {d : DataW H} {p : List MemPlace} (hf : DataW.trod enc Tryz.prog w 0 (fun _ => true) held fuel 53 cs = some (d, p)) :
    ∃ x : Shr, ((∀ i, i < x.n → x.X i < R4) ∧ (payR x).ok w) ∧ cs = shc x := by
  obtain ⟨xs, m, rfl, hx, hlen, hn, hel⟩ := DataW.trod_struct Tryz.underlying53 hf
  rw [cellsShare] at hlen
  match cs, hlen with
  | [c0, c1, c2, c3, c4], _ =>
    match xs, hn with
    | [x0, x1, x2, x3, x4], _ =>
      have e0 := hel 0 { name := "Field", type := 3, offset := 0, embedded := false, tag := "", pkgPath := "", byteOffset := 0 } rfl
      have e1 := hel 1 { name := "Threshold", type := 3, offset := 1, embedded := false, tag := "", pkgPath := "", byteOffset := 8 } rfl
      have e2 := hel 2 { name := "Index", type := 3, offset := 2, embedded := false, tag := "", pkgPath := "", byteOffset := 16 } rfl
      have e3 := hel 3 { name := "Length", type := 3, offset := 3, embedded := false, tag := "", pkgPath := "", byteOffset := 24 } rfl
      have e4 := hel 4 { name := "Payload", type := 51, offset := 4, embedded := false, tag := "", pkgPath := "", byteOffset := 32 } rfl
      simp only [cellsInt, cellsEls, List.drop_zero, List.drop_succ_cons, List.take_succ_cons, List.take_zero, List.getElem?_cons_zero, List.getElem?_cons_succ] at e0 e1 e2 e3 e4
      obtain ⟨x4, r4⟩ := x4
      obtain ⟨F, f0, _, _⟩ := DataW.trod_int Tryz.underlying3 e0
      obtain ⟨T, f1, _, _⟩ := DataW.trod_int Tryz.underlying3 e1
      obtain ⟨I, f2, _, _⟩ := DataW.trod_int Tryz.underlying3 e2
      obtain ⟨L, f3, _, _⟩ := DataW.trod_int Tryz.underlying3 e3
      simp only [List.cons.injEq, and_true] at f0 f1 f2 f3
      subst f0 f1 f2 f3
      have hsl : ∃ a n c, c4 = .slice a n c := by
        rcases DataW.trod_slice Tryz.underlying51 e4 with ⟨e, _⟩ | ⟨ad, len, cap', elems, rest, m, _, e, _⟩
        · simp only [List.cons.injEq, and_true] at e; exact ⟨_, _, _, e⟩
        · simp only [List.cons.injEq, and_true] at e; exact ⟨_, _, _, e⟩
      obtain ⟨a, n, c, rfl⟩ := hsl
      obtain ⟨X, h4, hL⟩ := open_els (a := a) (n := n) (cap := c) ⟨_, e4⟩
      exact ⟨⟨F, T, I, L, n, X, a, c⟩, ⟨h4, hL⟩, rfl⟩
def shz : Shr := ⟨0, 0, 0, 0, 0, fun _ => 0, none, 0⟩
/-- Shares that came in. -/
theorem open_shares {a : Option Addr} {n cap : Nat} {d : DataW H} {p : List MemPlace} (h : DataW.Trod enc Tryz.prog w 0 (fun _ => true) held 22 (.slice a n cap) d p) :
    ∃ S : Nat → Shr, (∀ k, k < n → ∀ i, i < (S k).n → (S k).X i < R4) ∧ (shareR a n cap S).ok w := by
  obtain ⟨f, h1, h2⟩ := open_lst (c := shc) Tryz.underlying22 cellsShare (by decide) shc_len shz (fun fuel cs d p hf => shr_of hf) h
  refine ⟨f, fun k hk => (h1 k hk).1, fun x hx => ?_⟩
  simp only [List.mem_cons, List.not_mem_nil, or_false] at hx
  rcases hx with rfl | rfl
  · exact h2
  · intro y hy
    obtain ⟨k, hk, rfl⟩ := List.mem_map.1 hy
    exact (h1 k (List.mem_range.1 hk)).2
end
end Go.Proofs.YtdnkkbmpefhbjaaGreatDoor
