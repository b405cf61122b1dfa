/- The reference's comparison of lists of events. -/
import Derived.Test.YtpggmebgndkpjaaDoorTapeW
namespace Go.Proofs.YtpggmebgndkpjaaDoor
set_option linter.all false
open Go Go.RowKit
theorem refFirst_c (la ma : Option Addr) (n lc nm mc : Nat) (l m : List Ev) (W : World) (H1 : LstAt W 3 (.slice la n lc) n (el ec l)) (H2 : LstAt W 3 (.slice ma nm mc) nm (el ec m)) (hn : n ≤ 1000000000000) (hnm : nm ≤ 1000000000000) : Calls Tryd.prog 28 [.slice la n lc, .slice ma nm mc].toArray W fun e w => e = .returned (.int .i64 (firstE l m)) ∧ Below W.heap.size W w := by
  have e1 : n = l.length := by have h := H1.len; rw [el_len ec_len] at h; omega
  have e2 : nm = m.length := by have h := H2.len; rw [el_len ec_len] at h; omega
  refine c_enter (args := [.slice la n lc, .slice ma nm mc]) Tryd.func28 rfl rfl rfl fun a hk => ?_
  have hs := Sat.start W [lst 3 (.slice la n lc) n (el ec l), lst 3 (.slice ma nm mc) nm (el ec m)] (okrc H1 (okr1 H2))
  refine wpIn_seq ?_
  refine wpIn_region_lit ?_
  refine q_val hk (w_as rfl) rfl rfl rfl fun a hk => ?_
  refine (c_end (x_t ?_))
  refine wpIn_seq ?_
  refine wpIn_region_lit ?_
  refine q_val hk (w_as rfl) rfl rfl rfl fun a hk => ?_
  refine (c_end (x_t ?_))
  refine wpIn_seq ?_
  refine wpIn_block ?_
  refine c_loop (α := Nat) (fun k a w => (k ≤ n ∧ k ≤ nm) ∧ l.take k = m.take k ∧ Kn [] 39 [(5, .int .i64 (k : Int)), (0, .slice la n lc), (1, .slice ma nm mc)] a ∧ Sat no W [] [lst 3 (.slice la n lc) n (el ec l), lst 3 (.slice ma nm mc) nm (el ec m)] w) (fun k => n - k) 0 ?_ ?_
  · exact ⟨⟨by omega, by omega⟩, (by simp), hk.k rfl (hk.k rfl (hk.k rfl hk.nil)), hs⟩
  rintro k a w ⟨hf0, hf1, hk, hs⟩
  have hkn := hf0
  refine wpIn_seq ?_
  refine wpIn_seq ?_
  refine wpIn_region_lit ?_
  refine q_val hk (w_mv rfl) rfl rfl rfl fun a hk => ?_
  refine q_val hk (w_mv rfl) rfl rfl rfl fun a hk => ?_
  refine q_val hk (w_len rfl Tryd.underlying26) rfl rfl rfl fun a hk => ?_
  rcases Classical.em ((k : Int) < ((n : Nat) : Int)) with hc1 | hc1
  · skip
    refine q_val hk (w_lt rfl rfl (decide_eq_true hc1)) rfl rfl rfl fun a hk => ?_
    refine q_val hk (w_mv rfl) rfl rfl rfl fun a hk => ?_
    refine q_val hk (w_mv rfl) rfl rfl rfl fun a hk => ?_
    refine q_val hk (w_mv rfl) rfl rfl rfl fun a hk => ?_
    refine q_val hk (w_len rfl Tryd.underlying26) rfl rfl rfl fun a hk => ?_
    rcases Classical.em ((k : Int) < ((nm : Nat) : Int)) with hc2 | hc2
    · skip
      refine q_val hk (w_lt rfl rfl (decide_eq_true hc2)) rfl rfl rfl fun a hk => ?_
      refine q_val hk (w_pickT rfl rfl) rfl rfl rfl fun a hk => ?_
      refine (c_end (x_t ?_))
      refine c_T hk rfl ?_
      refine (wpIn_skip (x_t ?_))
      refine wpIn_block ?_
      refine wpIn_seq ?_
      refine wpIn_seq ?_
      rcases Classical.em (l.getD k evz ≠ m.getD k evz) with hc3 | hc3
      · skip
        have hne : l.getD k evz ≠ m.getD k evz := hc3
        have hL := okL.cons (hs.ri 0 rfl) (okL.cons (hs.ri 1 rfl) okL.nil)
        refine d_begin _ 9 (by kernel_rfl) rfl hs hL fun w hs hL => ?_
        refine d_v 0 1 hk hL rfl (by kernel_rfl) rfl rfl (fun w hL => w_mv rfl) fun a hk => ?_
        refine d_v 1 3 hk hL rfl (by kernel_rfl) rfl rfl (fun w hL => w_mv rfl) fun a hk => ?_
        refine d_v 2 7 hk hL rfl (by kernel_rfl) rfl rfl (fun w hL => w_iaL (k := k) rfl rfl Tryd.underlying26 ty36 (hL.at 0 rfl) (by omega) (by omega)) fun a hk => ?_
        refine d_v 3 15 hk hL rfl (by kernel_rfl) rfl rfl (fun w hL => w_ldA rfl ty36 (lstq (k := k) (hL.at 0 rfl) (by omega) (el_chunk ec_len (by omega) (0, 0, 0))) rfl) fun a hk => ?_
        refine d_v 4 31 hk hL rfl (by kernel_rfl) rfl rfl (fun w hL => w_mv rfl) fun a hk => ?_
        refine d_v 5 63 hk hL rfl (by kernel_rfl) rfl rfl (fun w hL => w_mv rfl) fun a hk => ?_
        refine d_v 6 127 hk hL rfl (by kernel_rfl) rfl rfl (fun w hL => w_iaL (k := k) rfl rfl Tryd.underlying26 ty36 (hL.at 1 rfl) (by omega) (by omega)) fun a hk => ?_
        refine d_v 7 255 hk hL rfl (by kernel_rfl) rfl rfl (fun w hL => w_ldA rfl ty36 (lstq (k := k) (hL.at 1 rfl) (by omega) (el_chunk ec_len (by omega) (0, 0, 0))) rfl) fun a hk => ?_
        refine d_v 8 511 hk hL rfl (by kernel_rfl) rfl rfl (fun w hL => w_ene (nb := 8) rfl rfl (by kernel_rfl) (by kernel_rfl) Tryd.underlying3 ty3 (by kernel_rfl) (decide_eq_true hc3)) fun a hk => ?_
        refine d_end (by kernel_rfl) ?_
        refine (x_t ?_)
        refine c_T hk rfl ?_
        refine wpIn_seq ?_
        refine wpIn_region_lit ?_
        refine q_val hk (w_mv rfl) rfl rfl rfl fun a hk => ?_
        refine q_val hk (w_as rfl) rfl rfl rfl fun a hk => ?_
        refine (c_end (x_t ?_))
        refine (wpIn_ret (x_tr (x_br (x_tr (x_br (x_tr ?_))))))
        refine c_ret1 hk rfl rfl ?_
        have hz : firstE l m = ((k : Nat) : Int) := firstE_ne (by omega) (by omega) hf1 (fun e => hne (by rw [e])) (.inr (.inr (by rw [getD_some (l := l) (d := evz) (by omega), getD_some (l := m) (d := evz) (by omega)]; exact fun e => hne (Option.some.inj e))))
        exact ⟨by rw [hz], hs.toBelow⟩
      · skip
        have hn1 : l.take (k + 1) = m.take (k + 1) := take_next (getD_some (d := evz) (by omega)) (by rw [getD_some (l := m) (d := evz) (by omega)]; exact congrArg some (Classical.not_not.1 hc3).symm) hf1
        have hL := okL.cons (hs.ri 0 rfl) (okL.cons (hs.ri 1 rfl) okL.nil)
        refine d_begin _ 9 (by kernel_rfl) rfl hs hL fun w hs hL => ?_
        refine d_v 0 1 hk hL rfl (by kernel_rfl) rfl rfl (fun w hL => w_mv rfl) fun a hk => ?_
        refine d_v 1 3 hk hL rfl (by kernel_rfl) rfl rfl (fun w hL => w_mv rfl) fun a hk => ?_
        refine d_v 2 7 hk hL rfl (by kernel_rfl) rfl rfl (fun w hL => w_iaL (k := k) rfl rfl Tryd.underlying26 ty36 (hL.at 0 rfl) (by omega) (by omega)) fun a hk => ?_
        refine d_v 3 15 hk hL rfl (by kernel_rfl) rfl rfl (fun w hL => w_ldA rfl ty36 (lstq (k := k) (hL.at 0 rfl) (by omega) (el_chunk ec_len (by omega) (0, 0, 0))) rfl) fun a hk => ?_
        refine d_v 4 31 hk hL rfl (by kernel_rfl) rfl rfl (fun w hL => w_mv rfl) fun a hk => ?_
        refine d_v 5 63 hk hL rfl (by kernel_rfl) rfl rfl (fun w hL => w_mv rfl) fun a hk => ?_
        refine d_v 6 127 hk hL rfl (by kernel_rfl) rfl rfl (fun w hL => w_iaL (k := k) rfl rfl Tryd.underlying26 ty36 (hL.at 1 rfl) (by omega) (by omega)) fun a hk => ?_
        refine d_v 7 255 hk hL rfl (by kernel_rfl) rfl rfl (fun w hL => w_ldA rfl ty36 (lstq (k := k) (hL.at 1 rfl) (by omega) (el_chunk ec_len (by omega) (0, 0, 0))) rfl) fun a hk => ?_
        refine d_v 8 511 hk hL rfl (by kernel_rfl) rfl rfl (fun w hL => w_ene (nb := 8) rfl rfl (by kernel_rfl) (by kernel_rfl) Tryd.underlying3 ty3 (by kernel_rfl) (decide_eq_false hc3)) fun a hk => ?_
        refine d_end (by kernel_rfl) ?_
        refine (x_t ?_)
        refine c_F hk rfl ?_
        refine (wpIn_skip (x_t ?_))
        refine wpIn_region_lit ?_
        refine q_val hk (w_mv rfl) rfl rfl rfl fun a hk => ?_
        refine q_val hk (w_add rfl rfl (wr64 (by omega) (by omega))) rfl rfl rfl fun a hk => ?_
        refine q_val hk (w_as rfl) rfl rfl rfl fun a hk => ?_
        refine (c_end (x_b (x_t ?_)))
        exact ⟨k + 1, ⟨⟨by omega, by omega⟩, hn1, hk.k rfl (hk.k rfl (hk.k rfl hk.nil)), hs⟩, by omega⟩
    · skip
      refine q_val hk (w_lt rfl rfl (decide_eq_false hc2)) rfl rfl rfl fun a hk => ?_
      refine q_val hk (w_pickT rfl rfl) rfl rfl rfl fun a hk => ?_
      refine (c_end (x_t ?_))
      refine c_F hk rfl ?_
      refine (wpIn_exit (x_te (x_te (x_be ?_))))
      refine (x_t ?_)
      refine wpIn_seq ?_
      refine wpIn_seq ?_
      refine wpIn_region_lit ?_
      refine q_val hk (w_mv rfl) rfl rfl rfl fun a hk => ?_
      refine q_val hk (w_mv rfl) rfl rfl rfl fun a hk => ?_
      refine q_val hk (w_len rfl Tryd.underlying26) rfl rfl rfl fun a hk => ?_
      rcases Classical.em ((k : Int) = ((n : Nat) : Int)) with hc4 | hc4
      · skip
        refine q_val hk (w_eq rfl rfl (decide_eq_true hc4)) rfl rfl rfl fun a hk => ?_
        refine q_val hk (w_mv rfl) rfl rfl rfl fun a hk => ?_
        refine q_val hk (w_mv rfl) rfl rfl rfl fun a hk => ?_
        refine q_val hk (w_mv rfl) rfl rfl rfl fun a hk => ?_
        refine q_val hk (w_len rfl Tryd.underlying26) rfl rfl rfl fun a hk => ?_
        rcases Classical.em ((k : Int) = ((nm : Nat) : Int)) with hc5 | hc5
        · skip
          refine q_val hk (w_eq rfl rfl (decide_eq_true hc5)) rfl rfl rfl fun a hk => ?_
          refine q_val hk (w_pickT rfl rfl) rfl rfl rfl fun a hk => ?_
          refine (c_end (x_t ?_))
          refine c_T hk rfl ?_
          refine wpIn_seq ?_
          refine wpIn_region_lit ?_
          refine q_val hk (w_as rfl) rfl rfl rfl fun a hk => ?_
          refine (c_end (x_t ?_))
          refine (wpIn_ret (x_tr ?_))
          refine c_ret1 hk rfl rfl ?_
          have e : l = m := by have h := hf1; rw [List.take_of_length_le (by omega), List.take_of_length_le (by omega)] at h; exact h
          exact ⟨by rw [e, firstE_eq], hs.toBelow⟩
        · skip
          refine q_val hk (w_eq rfl rfl (decide_eq_false hc5)) rfl rfl rfl fun a hk => ?_
          refine q_val hk (w_pickT rfl rfl) rfl rfl rfl fun a hk => ?_
          refine (c_end (x_t ?_))
          refine c_F hk rfl ?_
          refine (wpIn_skip (x_t ?_))
          refine wpIn_seq ?_
          refine wpIn_region_lit ?_
          refine q_val hk (w_mv rfl) rfl rfl rfl fun a hk => ?_
          refine q_val hk (w_as rfl) rfl rfl rfl fun a hk => ?_
          refine (c_end (x_t ?_))
          refine (wpIn_ret ?_)
          refine c_ret1 hk rfl rfl ?_
          have hz : firstE l m = ((k : Nat) : Int) := firstE_ne (by omega) (by omega) hf1 (fun e => by have := congrArg List.length e; omega) (by omega)
          exact ⟨by rw [hz], hs.toBelow⟩
      · skip
        refine q_val hk (w_eq rfl rfl (decide_eq_false hc4)) rfl rfl rfl fun a hk => ?_
        refine q_val hk (w_mv rfl) rfl rfl rfl fun a hk => ?_
        refine q_skip hk rfl rfl fun a hk => ?_
        refine q_skip hk rfl rfl fun a hk => ?_
        refine q_skip hk rfl rfl fun a hk => ?_
        refine q_skip hk rfl rfl fun a hk => ?_
        refine q_val hk (w_pickF rfl rfl) rfl rfl rfl fun a hk => ?_
        refine (c_end (x_t ?_))
        refine c_F hk rfl ?_
        refine (wpIn_skip (x_t ?_))
        refine wpIn_seq ?_
        refine wpIn_region_lit ?_
        refine q_val hk (w_mv rfl) rfl rfl rfl fun a hk => ?_
        refine q_val hk (w_as rfl) rfl rfl rfl fun a hk => ?_
        refine (c_end (x_t ?_))
        refine (wpIn_ret ?_)
        refine c_ret1 hk rfl rfl ?_
        have hz : firstE l m = ((k : Nat) : Int) := firstE_ne (by omega) (by omega) hf1 (fun e => by have := congrArg List.length e; omega) (by omega)
        exact ⟨by rw [hz], hs.toBelow⟩
  · skip
    refine q_val hk (w_lt rfl rfl (decide_eq_false hc1)) rfl rfl rfl fun a hk => ?_
    refine q_val hk (w_mv rfl) rfl rfl rfl fun a hk => ?_
    refine q_skip hk rfl rfl fun a hk => ?_
    refine q_skip hk rfl rfl fun a hk => ?_
    refine q_skip hk rfl rfl fun a hk => ?_
    refine q_skip hk rfl rfl fun a hk => ?_
    refine q_val hk (w_pickF rfl rfl) rfl rfl rfl fun a hk => ?_
    refine (c_end (x_t ?_))
    refine c_F hk rfl ?_
    refine (wpIn_exit (x_te (x_te (x_be ?_))))
    refine (x_t ?_)
    refine wpIn_seq ?_
    refine wpIn_seq ?_
    refine wpIn_region_lit ?_
    refine q_val hk (w_mv rfl) rfl rfl rfl fun a hk => ?_
    refine q_val hk (w_mv rfl) rfl rfl rfl fun a hk => ?_
    refine q_val hk (w_len rfl Tryd.underlying26) rfl rfl rfl fun a hk => ?_
    rcases Classical.em ((k : Int) = ((n : Nat) : Int)) with hc6 | hc6
    · skip
      refine q_val hk (w_eq rfl rfl (decide_eq_true hc6)) rfl rfl rfl fun a hk => ?_
      refine q_val hk (w_mv rfl) rfl rfl rfl fun a hk => ?_
      refine q_val hk (w_mv rfl) rfl rfl rfl fun a hk => ?_
      refine q_val hk (w_mv rfl) rfl rfl rfl fun a hk => ?_
      refine q_val hk (w_len rfl Tryd.underlying26) rfl rfl rfl fun a hk => ?_
      rcases Classical.em ((k : Int) = ((nm : Nat) : Int)) with hc7 | hc7
      · skip
        refine q_val hk (w_eq rfl rfl (decide_eq_true hc7)) rfl rfl rfl fun a hk => ?_
        refine q_val hk (w_pickT rfl rfl) rfl rfl rfl fun a hk => ?_
        refine (c_end (x_t ?_))
        refine c_T hk rfl ?_
        refine wpIn_seq ?_
        refine wpIn_region_lit ?_
        refine q_val hk (w_as rfl) rfl rfl rfl fun a hk => ?_
        refine (c_end (x_t ?_))
        refine (wpIn_ret (x_tr ?_))
        refine c_ret1 hk rfl rfl ?_
        have e : l = m := by have h := hf1; rw [List.take_of_length_le (by omega), List.take_of_length_le (by omega)] at h; exact h
        exact ⟨by rw [e, firstE_eq], hs.toBelow⟩
      · skip
        refine q_val hk (w_eq rfl rfl (decide_eq_false hc7)) rfl rfl rfl fun a hk => ?_
        refine q_val hk (w_pickT rfl rfl) rfl rfl rfl fun a hk => ?_
        refine (c_end (x_t ?_))
        refine c_F hk rfl ?_
        refine (wpIn_skip (x_t ?_))
        refine wpIn_seq ?_
        refine wpIn_region_lit ?_
        refine q_val hk (w_mv rfl) rfl rfl rfl fun a hk => ?_
        refine q_val hk (w_as rfl) rfl rfl rfl fun a hk => ?_
        refine (c_end (x_t ?_))
        refine (wpIn_ret ?_)
        refine c_ret1 hk rfl rfl ?_
        have hz : firstE l m = ((k : Nat) : Int) := firstE_ne (by omega) (by omega) hf1 (fun e => by have := congrArg List.length e; omega) (by omega)
        exact ⟨by rw [hz], hs.toBelow⟩
    · skip
      refine q_val hk (w_eq rfl rfl (decide_eq_false hc6)) rfl rfl rfl fun a hk => ?_
      refine q_val hk (w_mv rfl) rfl rfl rfl fun a hk => ?_
      refine q_skip hk rfl rfl fun a hk => ?_
      refine q_skip hk rfl rfl fun a hk => ?_
      refine q_skip hk rfl rfl fun a hk => ?_
      refine q_skip hk rfl rfl fun a hk => ?_
      refine q_val hk (w_pickF rfl rfl) rfl rfl rfl fun a hk => ?_
      refine (c_end (x_t ?_))
      refine c_F hk rfl ?_
      refine (wpIn_skip (x_t ?_))
      refine wpIn_seq ?_
      refine wpIn_region_lit ?_
      refine q_val hk (w_mv rfl) rfl rfl rfl fun a hk => ?_
      refine q_val hk (w_as rfl) rfl rfl rfl fun a hk => ?_
      refine (c_end (x_t ?_))
      refine (wpIn_ret ?_)
      refine c_ret1 hk rfl rfl ?_
      have hz : firstE l m = ((k : Nat) : Int) := firstE_ne (by omega) (by omega) hf1 (fun e => by have := congrArg List.length e; omega) (by omega)
      exact ⟨by rw [hz], hs.toBelow⟩
theorem firstE_iff (l m : List Ev) : firstE l m = -1 ↔ l = m := by
  unfold firstE
  split
  · simp_all
  · simp_all
theorem refSame_c (la ma : Option Addr) (n lc nm mc : Nat) (l m : List Ev) (W : World) (H1 : LstAt W 3 (.slice la n lc) n (el ec l)) (H2 : LstAt W 3 (.slice ma nm mc) nm (el ec m)) (hn : n ≤ 1000000000000) (hnm : nm ≤ 1000000000000) : Calls Tryd.prog 20 [.slice la n lc, .slice ma nm mc].toArray W fun e w => e = .returned (.bool (decide (l = m))) ∧ Below W.heap.size W w := by
  refine c_enter (args := [.slice la n lc, .slice ma nm mc]) Tryd.func20 rfl rfl rfl fun a hk => ?_
  have hs := Sat.start W [lst 3 (.slice la n lc) n (el ec l), lst 3 (.slice ma nm mc) nm (el ec m)] (okrc H1 (okr1 H2))
  refine wpIn_seq ?_
  refine wpIn_region_lit ?_
  refine q_val hk (w_as rfl) rfl rfl rfl fun a hk => ?_
  refine (c_end (x_t ?_))
  refine wpIn_seq ?_
  refine wpIn_region_lit ?_
  refine q_val hk (w_mv rfl) rfl rfl rfl fun a hk => ?_
  refine q_val hk (w_mv rfl) rfl rfl rfl fun a hk => ?_
  refine q_call (caps := []) hk rfl rfl Tryd.func28 fo28 rfl rfl (refFirst_c _ _ _ _ _ _ l m _ (hs.ri 0 rfl) (hs.ri 1 rfl) hn hnm) ?_
  rintro _ w ⟨rfl, hb⟩
  have hs := hs.below hb
  refine ⟨_, rfl, fun a hk => ?_⟩
  rcases Classical.em ((firstE l m) = (-1)) with hc1 | hc1
  · skip
    refine q_val hk (w_eq rfl rfl (decide_eq_true hc1)) rfl rfl rfl fun a hk => ?_
    refine q_val hk (w_as rfl) rfl rfl rfl fun a hk => ?_
    refine (c_end (x_t ?_))
    refine (wpIn_ret ?_)
    refine c_ret1 hk rfl rfl ?_
    exact ⟨by rw [decide_eq_true ((firstE_iff l m).1 hc1)], hs.toBelow⟩
  · skip
    refine q_val hk (w_eq rfl rfl (decide_eq_false hc1)) rfl rfl rfl fun a hk => ?_
    refine q_val hk (w_as rfl) rfl rfl rfl fun a hk => ?_
    refine (c_end (x_t ?_))
    refine (wpIn_ret ?_)
    refine c_ret1 hk rfl rfl ?_
    exact ⟨by rw [decide_eq_false (fun e => hc1 ((firstE_iff l m).2 e))], hs.toBelow⟩
end Go.Proofs.YtpggmebgndkpjaaDoor
