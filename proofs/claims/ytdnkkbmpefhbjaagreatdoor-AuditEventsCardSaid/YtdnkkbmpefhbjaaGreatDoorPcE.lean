/- Part 5 of what the proof of AuditEvents needs: joined out of the texts of this seat, only what is used. -/
import Derived.Test.YtdnkkbmpefhbjaaGreatDoorPcD
import Derived.Test.YtdnkkbmpefhbjaaGreatDoorRows
import Derived.WalkKit
import Derived.ProofKit
import Derived.LaidMore
import Derived.OpenShut
import Derived.ShutString
import Derived.ChangeOld
import Derived.Below
namespace Go.Proofs.YtdnkkbmpefhbjaaGreatDoor
set_option linter.all false
open Go Go.RowKit
theorem refFirst_c (la ma : Option Addr) (n lc nm mc : Nat) (l m : List Ev) (W : World) (H1 : LstAt W 3 (.slice la n lc) n (el ec l)) (H2 : LstAt W 3 (.slice ma nm mc) nm (el ec m)) (hn : n ≤ 1000000000000) (hnm : nm ≤ 1000000000000) : Calls Tryz.prog 73 [.slice la n lc, .slice ma nm mc].toArray W fun e w => e = .returned (.int .i64 (firstE l m)) ∧ Below W.heap.size W w := by
 have e1 : n = l.length := by have h := H1.len; rw [el_len ec_len] at h; omega
 have e2 : nm = m.length := by have h := H2.len; rw [el_len ec_len] at h; omega
 refine c_enter (args := [.slice la n lc, .slice ma nm mc]) Tryz.func73 rfl rfl rfl fun a hk => ?_
 have hs := Sat.start W [lst 3 (.slice la n lc) n (el ec l), lst 3 (.slice ma nm mc) nm (el ec m)] (okrc H1 (okr1 H2))
 refine wS (wR ?_)
 refine q_v hk (w_as rfl) fun a hk => ?_
 refine c_end (x_t (wS (wR ?_)))
 refine q_v hk (w_as rfl) fun a hk => ?_
 refine c_end (x_t (wS ?_))
 refine wpIn_block ?_
 refine c_loop (α := Nat) (fun k a w => (k ≤ n ∧ k ≤ nm) ∧ l.take k = m.take k ∧ Kn [] 39 [(5, .int .i64 (k : Int)), (0, .slice la n lc), (1, .slice ma nm mc)] a ∧ Sat no W [] [lst 3 (.slice la n lc) n (el ec l), lst 3 (.slice ma nm mc) nm (el ec m)] w) (fun k => n - k) 0 ?_ ?_
 · exact ⟨⟨by omega, by omega⟩, (by simp), hk.k rfl (hk.k rfl (hk.k rfl hk.nil)), hs⟩
 rintro k a w ⟨hf0, hf1, hk, hs⟩
 have hkn := hf0
 refine wS (wS (wR ?_))
 refine q_v hk (w_mv rfl) fun a hk => ?_
 refine q_v hk (w_mv rfl) fun a hk => ?_
 refine q_v hk (w_len rfl Tryz.underlying63) fun a hk => ?_
 rcases Classical.em ((k : Int) < ((n : Nat) : Int)) with hc1 | hc1
 ·
  refine q_v hk (w_lt rfl rfl (decide_eq_true hc1)) fun a hk => ?_
  refine q_v hk (w_mv rfl) fun a hk => ?_
  refine q_v hk (w_mv rfl) fun a hk => ?_
  refine q_v hk (w_mv rfl) fun a hk => ?_
  refine q_v hk (w_len rfl Tryz.underlying63) fun a hk => ?_
  rcases Classical.em ((k : Int) < ((nm : Nat) : Int)) with hc2 | hc2
  ·
   refine q_v hk (w_lt rfl rfl (decide_eq_true hc2)) fun a hk => ?_
   refine q_v hk (w_pickT rfl rfl) fun a hk => ?_
   refine c_end (x_t ?_)
   refine c_T hk rfl ?_
   refine (wpIn_skip (x_t ?_))
   refine wpIn_block ?_
   refine wS (wS ?_)
   rcases Classical.em (l.getD k evz ≠ m.getD k evz) with hc3 | hc3
   ·
    have hne : l.getD k evz ≠ m.getD k evz := hc3
    have hL := okL.cons (hs.ri 0 rfl) (okL.cons (hs.ri 1 rfl) okL.nil)
    refine d_begin _ 9 (by kernel_rfl) rfl hs hL fun w hs hL => ?_
    refine d_w 0 1 hk hL rfl (fun w hL => w_mv rfl) fun a hk => ?_
    refine d_w 1 3 hk hL rfl (fun w hL => w_mv rfl) fun a hk => ?_
    refine d_w 2 7 hk hL rfl (fun w hL => w_iaL (k := k) rfl rfl Tryz.underlying63 ty112 (hL.at 0 rfl) (by omega) (by omega)) fun a hk => ?_
    refine d_w 3 15 hk hL rfl (fun w hL => w_ldA rfl ty112 (lstq (k := k) (hL.at 0 rfl) (by omega) (el_chunk ec_len (by omega) (0, 0, 0))) rfl) fun a hk => ?_
    refine d_w 4 31 hk hL rfl (fun w hL => w_mv rfl) fun a hk => ?_
    refine d_w 5 63 hk hL rfl (fun w hL => w_mv rfl) fun a hk => ?_
    refine d_w 6 127 hk hL rfl (fun w hL => w_iaL (k := k) rfl rfl Tryz.underlying63 ty112 (hL.at 1 rfl) (by omega) (by omega)) fun a hk => ?_
    refine d_w 7 255 hk hL rfl (fun w hL => w_ldA rfl ty112 (lstq (k := k) (hL.at 1 rfl) (by omega) (el_chunk ec_len (by omega) (0, 0, 0))) rfl) fun a hk => ?_
    refine d_w 8 511 hk hL rfl (fun w hL => w_ene (nb := 8) rfl rfl (by kernel_rfl) (by kernel_rfl) Tryz.underlying3 ty3 (by kernel_rfl) (decide_eq_true hc3)) fun a hk => ?_
    refine d_end (by kernel_rfl) ?_
    refine (x_t ?_)
    refine c_T hk rfl ?_
    refine wS (wR ?_)
    refine q_v hk (w_mv rfl) fun a hk => ?_
    refine q_v hk (w_as rfl) fun a hk => ?_
    refine c_end (x_t ?_)
    refine (wpIn_ret (x_tr (x_br (x_tr (x_br (x_tr ?_))))))
    refine c_ret1 hk rfl rfl ?_
    have hz : firstE l m = ((k : Nat) : Int) := firstE_ne (by omega) (by omega) hf1 (fun e => hne (by rw [e])) (.inr (.inr (by rw [getD_some (l := l) (d := evz) (by omega), getD_some (l := m) (d := evz) (by omega)]; exact fun e => hne (Option.some.inj e))))
    exact ⟨by rw [hz], hs.toBelow⟩
   ·
    have hn1 : l.take (k + 1) = m.take (k + 1) := take_next (getD_some (d := evz) (by omega)) (by rw [getD_some (l := m) (d := evz) (by omega)]; exact congrArg some (Classical.not_not.1 hc3).symm) hf1
    have hL := okL.cons (hs.ri 0 rfl) (okL.cons (hs.ri 1 rfl) okL.nil)
    refine d_begin _ 9 (by kernel_rfl) rfl hs hL fun w hs hL => ?_
    refine d_w 0 1 hk hL rfl (fun w hL => w_mv rfl) fun a hk => ?_
    refine d_w 1 3 hk hL rfl (fun w hL => w_mv rfl) fun a hk => ?_
    refine d_w 2 7 hk hL rfl (fun w hL => w_iaL (k := k) rfl rfl Tryz.underlying63 ty112 (hL.at 0 rfl) (by omega) (by omega)) fun a hk => ?_
    refine d_w 3 15 hk hL rfl (fun w hL => w_ldA rfl ty112 (lstq (k := k) (hL.at 0 rfl) (by omega) (el_chunk ec_len (by omega) (0, 0, 0))) rfl) fun a hk => ?_
    refine d_w 4 31 hk hL rfl (fun w hL => w_mv rfl) fun a hk => ?_
    refine d_w 5 63 hk hL rfl (fun w hL => w_mv rfl) fun a hk => ?_
    refine d_w 6 127 hk hL rfl (fun w hL => w_iaL (k := k) rfl rfl Tryz.underlying63 ty112 (hL.at 1 rfl) (by omega) (by omega)) fun a hk => ?_
    refine d_w 7 255 hk hL rfl (fun w hL => w_ldA rfl ty112 (lstq (k := k) (hL.at 1 rfl) (by omega) (el_chunk ec_len (by omega) (0, 0, 0))) rfl) fun a hk => ?_
    refine d_w 8 511 hk hL rfl (fun w hL => w_ene (nb := 8) rfl rfl (by kernel_rfl) (by kernel_rfl) Tryz.underlying3 ty3 (by kernel_rfl) (decide_eq_false hc3)) fun a hk => ?_
    refine d_end (by kernel_rfl) ?_
    refine (x_t ?_)
    refine c_F hk rfl ?_
    refine (wpIn_skip (x_t ?_))
    refine wR ?_
    refine q_v hk (w_mv rfl) fun a hk => ?_
    refine q_v hk (w_add rfl rfl (wr64 (by omega) (by omega))) fun a hk => ?_
    refine q_v hk (w_as rfl) fun a hk => ?_
    refine (c_end (x_b (x_t ?_)))
    exact ⟨k + 1, ⟨⟨by omega, by omega⟩, hn1, hk.k rfl (hk.k rfl (hk.k rfl hk.nil)), hs⟩, by omega⟩
  ·
   refine q_v hk (w_lt rfl rfl (decide_eq_false hc2)) fun a hk => ?_
   refine q_v hk (w_pickT rfl rfl) fun a hk => ?_
   refine c_end (x_t ?_)
   refine c_F hk rfl ?_
   refine (wpIn_exit (x_te (x_te (x_be ?_))))
   refine (x_t ?_)
   refine wS (wS (wR ?_))
   refine q_v hk (w_mv rfl) fun a hk => ?_
   refine q_v hk (w_mv rfl) fun a hk => ?_
   refine q_v hk (w_len rfl Tryz.underlying63) fun a hk => ?_
   rcases Classical.em ((k : Int) = ((n : Nat) : Int)) with hc4 | hc4
   ·
    refine q_v hk (w_eq rfl rfl (decide_eq_true hc4)) fun a hk => ?_
    refine q_v hk (w_mv rfl) fun a hk => ?_
    refine q_v hk (w_mv rfl) fun a hk => ?_
    refine q_v hk (w_mv rfl) fun a hk => ?_
    refine q_v hk (w_len rfl Tryz.underlying63) fun a hk => ?_
    rcases Classical.em ((k : Int) = ((nm : Nat) : Int)) with hc5 | hc5
    ·
     refine q_v hk (w_eq rfl rfl (decide_eq_true hc5)) fun a hk => ?_
     refine q_v hk (w_pickT rfl rfl) fun a hk => ?_
     refine c_end (x_t ?_)
     refine c_T hk rfl ?_
     refine wS (wR ?_)
     refine q_v hk (w_as rfl) fun a hk => ?_
     refine c_end (x_t ?_)
     refine (wpIn_ret (x_tr ?_))
     refine c_ret1 hk rfl rfl ?_
     have e : l = m := by have h := hf1; rw [List.take_of_length_le (by omega), List.take_of_length_le (by omega)] at h; exact h
     exact ⟨by rw [e, firstE_eq], hs.toBelow⟩
    ·
     refine q_v hk (w_eq rfl rfl (decide_eq_false hc5)) fun a hk => ?_
     refine q_v hk (w_pickT rfl rfl) fun a hk => ?_
     refine c_end (x_t ?_)
     refine c_F hk rfl ?_
     refine (wpIn_skip (x_t ?_))
     refine wS (wR ?_)
     refine q_v hk (w_mv rfl) fun a hk => ?_
     refine q_v hk (w_as rfl) fun a hk => ?_
     refine c_end (x_t ?_)
     refine (wpIn_ret ?_)
     refine c_ret1 hk rfl rfl ?_
     have hz : firstE l m = ((k : Nat) : Int) := firstE_ne (by omega) (by omega) hf1 (fun e => by have := congrArg List.length e; omega) (by omega)
     exact ⟨by rw [hz], hs.toBelow⟩
   ·
    refine q_v hk (w_eq rfl rfl (decide_eq_false hc4)) fun a hk => ?_
    refine q_v hk (w_mv rfl) fun a hk => ?_
    refine q_skip hk rfl rfl fun a hk => ?_
    refine q_skip hk rfl rfl fun a hk => ?_
    refine q_skip hk rfl rfl fun a hk => ?_
    refine q_skip hk rfl rfl fun a hk => ?_
    refine q_v hk (w_pickF rfl rfl) fun a hk => ?_
    refine c_end (x_t ?_)
    refine c_F hk rfl ?_
    refine (wpIn_skip (x_t ?_))
    refine wS (wR ?_)
    refine q_v hk (w_mv rfl) fun a hk => ?_
    refine q_v hk (w_as rfl) fun a hk => ?_
    refine c_end (x_t ?_)
    refine (wpIn_ret ?_)
    refine c_ret1 hk rfl rfl ?_
    have hz : firstE l m = ((k : Nat) : Int) := firstE_ne (by omega) (by omega) hf1 (fun e => by have := congrArg List.length e; omega) (by omega)
    exact ⟨by rw [hz], hs.toBelow⟩
 ·
  refine q_v hk (w_lt rfl rfl (decide_eq_false hc1)) fun a hk => ?_
  refine q_v hk (w_mv rfl) fun a hk => ?_
  refine q_skip hk rfl rfl fun a hk => ?_
  refine q_skip hk rfl rfl fun a hk => ?_
  refine q_skip hk rfl rfl fun a hk => ?_
  refine q_skip hk rfl rfl fun a hk => ?_
  refine q_v hk (w_pickF rfl rfl) fun a hk => ?_
  refine c_end (x_t ?_)
  refine c_F hk rfl ?_
  refine (wpIn_exit (x_te (x_te (x_be ?_))))
  refine (x_t ?_)
  refine wS (wS (wR ?_))
  refine q_v hk (w_mv rfl) fun a hk => ?_
  refine q_v hk (w_mv rfl) fun a hk => ?_
  refine q_v hk (w_len rfl Tryz.underlying63) fun a hk => ?_
  rcases Classical.em ((k : Int) = ((n : Nat) : Int)) with hc6 | hc6
  ·
   refine q_v hk (w_eq rfl rfl (decide_eq_true hc6)) fun a hk => ?_
   refine q_v hk (w_mv rfl) fun a hk => ?_
   refine q_v hk (w_mv rfl) fun a hk => ?_
   refine q_v hk (w_mv rfl) fun a hk => ?_
   refine q_v hk (w_len rfl Tryz.underlying63) fun a hk => ?_
   rcases Classical.em ((k : Int) = ((nm : Nat) : Int)) with hc7 | hc7
   ·
    refine q_v hk (w_eq rfl rfl (decide_eq_true hc7)) fun a hk => ?_
    refine q_v hk (w_pickT rfl rfl) fun a hk => ?_
    refine c_end (x_t ?_)
    refine c_T hk rfl ?_
    refine wS (wR ?_)
    refine q_v hk (w_as rfl) fun a hk => ?_
    refine c_end (x_t ?_)
    refine (wpIn_ret (x_tr ?_))
    refine c_ret1 hk rfl rfl ?_
    have e : l = m := by have h := hf1; rw [List.take_of_length_le (by omega), List.take_of_length_le (by omega)] at h; exact h
    exact ⟨by rw [e, firstE_eq], hs.toBelow⟩
   ·
    refine q_v hk (w_eq rfl rfl (decide_eq_false hc7)) fun a hk => ?_
    refine q_v hk (w_pickT rfl rfl) fun a hk => ?_
    refine c_end (x_t ?_)
    refine c_F hk rfl ?_
    refine (wpIn_skip (x_t ?_))
    refine wS (wR ?_)
    refine q_v hk (w_mv rfl) fun a hk => ?_
    refine q_v hk (w_as rfl) fun a hk => ?_
    refine c_end (x_t ?_)
    refine (wpIn_ret ?_)
    refine c_ret1 hk rfl rfl ?_
    have hz : firstE l m = ((k : Nat) : Int) := firstE_ne (by omega) (by omega) hf1 (fun e => by have := congrArg List.length e; omega) (by omega)
    exact ⟨by rw [hz], hs.toBelow⟩
  ·
   refine q_v hk (w_eq rfl rfl (decide_eq_false hc6)) fun a hk => ?_
   refine q_v hk (w_mv rfl) fun a hk => ?_
   refine q_skip hk rfl rfl fun a hk => ?_
   refine q_skip hk rfl rfl fun a hk => ?_
   refine q_skip hk rfl rfl fun a hk => ?_
   refine q_skip hk rfl rfl fun a hk => ?_
   refine q_v hk (w_pickF rfl rfl) fun a hk => ?_
   refine c_end (x_t ?_)
   refine c_F hk rfl ?_
   refine (wpIn_skip (x_t ?_))
   refine wS (wR ?_)
   refine q_v hk (w_mv rfl) fun a hk => ?_
   refine q_v hk (w_as rfl) fun a hk => ?_
   refine c_end (x_t ?_)
   refine (wpIn_ret ?_)
   refine c_ret1 hk rfl rfl ?_
   have hz : firstE l m = ((k : Nat) : Int) := firstE_ne (by omega) (by omega) hf1 (fun e => by have := congrArg List.length e; omega) (by omega)
   exact ⟨by rw [hz], hs.toBelow⟩
theorem firstE_iff (l m : List Ev) : firstE l m = -1 ↔ l = m := by
  unfold firstE
  split
  · simp_all
  · simp_all
theorem refSame_c (la ma : Option Addr) (n lc nm mc : Nat) (l m : List Ev) (W : World) (H1 : LstAt W 3 (.slice la n lc) n (el ec l)) (H2 : LstAt W 3 (.slice ma nm mc) nm (el ec m)) (hn : n ≤ 1000000000000) (hnm : nm ≤ 1000000000000) : Calls Tryz.prog 36 [.slice la n lc, .slice ma nm mc].toArray W fun e w => e = .returned (.bool (decide (l = m))) ∧ Below W.heap.size W w := by
 refine c_enter (args := [.slice la n lc, .slice ma nm mc]) Tryz.func36 rfl rfl rfl fun a hk => ?_
 have hs := Sat.start W [lst 3 (.slice la n lc) n (el ec l), lst 3 (.slice ma nm mc) nm (el ec m)] (okrc H1 (okr1 H2))
 refine wS (wR ?_)
 refine q_v hk (w_as rfl) fun a hk => ?_
 refine c_end (x_t (wS (wR ?_)))
 refine q_v hk (w_mv rfl) fun a hk => ?_
 refine q_v hk (w_mv rfl) fun a hk => ?_
 refine q_call (caps := []) hk rfl rfl Tryz.func73 fo73 rfl rfl (refFirst_c _ _ _ _ _ _ l m _ (hs.ri 0 rfl) (hs.ri 1 rfl) hn hnm) ?_
 rintro _ w ⟨rfl, hb⟩
 have hs := hs.below hb
 refine ⟨_, rfl, fun a hk => ?_⟩
 rcases Classical.em ((firstE l m) = (-1)) with hc1 | hc1
 ·
  refine q_v hk (w_eq rfl rfl (decide_eq_true hc1)) fun a hk => ?_
  refine q_v hk (w_as rfl) fun a hk => ?_
  refine c_end (x_t ?_)
  refine (wpIn_ret ?_)
  refine c_ret1 hk rfl rfl ?_
  exact ⟨by rw [decide_eq_true ((firstE_iff l m).1 hc1)], hs.toBelow⟩
 ·
  refine q_v hk (w_eq rfl rfl (decide_eq_false hc1)) fun a hk => ?_
  refine q_v hk (w_as rfl) fun a hk => ?_
  refine c_end (x_t ?_)
  refine (wpIn_ret ?_)
  refine c_ret1 hk rfl rfl ?_
  exact ⟨by rw [decide_eq_false (fun e => hc1 ((firstE_iff l m).2 e))], hs.toBelow⟩
end Go.Proofs.YtdnkkbmpefhbjaaGreatDoor
namespace Go.Proofs.YtdnkkbmpefhbjaaGreatDoor
set_option linter.all false
open Go Go.RowKit Alg
theorem belowE_eq (th : Nat) : ∀ n : Nat, belowE n th = upE (th : Int) (n : Int) coefE
  | 0 => by unfold belowE; rw [upE_nil (by omega), upE_nil (by omega)]
  | n + 1 => by
    have ih := belowE_eq th n
    have h1 : belowE (n + 1) th = belowE n th ++ belF th (n : Int) := by
      have e := upE_succ (F := belF th) (fr := 0) (x := (n : Int)) (by omega)
      exact e.symm
    rw [h1, ih]
    unfold belF
    by_cases h : (n : Int) < (th : Int)
    · rw [if_pos h, upE_nil (by omega), upE_nil (by omega)]; rfl
    · rw [if_neg h]
      have e := upE_succ (F := coefE) (fr := (th : Int)) (x := (n : Int)) (by omega)
      exact e
theorem chunkE_eq (m th : Nat) : chunkE m th = fun ch => [(4, ch, 0)] ++ (interpE (m : Int) ++ upE (th : Int) (m : Int) coefE) := by funext ch; unfold chunkE; rw [belowE_eq]
theorem consE_check (m th n : Nat) : upE 0 ((n : Nat) : Int) (chunkE m th) = checkE (th : Int) (m : Int) (n : Int) := by rw [chunkE_eq]; rfl
theorem susE_eq {m th n : Nat} (hm : 1 ≤ m) : susE m th n = upE 0 (m : Int) fun i => [(5, i, 0)] ++ checkE (th : Int) ((m : Int) - 1) (n : Int) := by
  have e : ((m - 1 : Nat) : Int) = (m : Int) - 1 := by omega
  unfold susE
  congr 1
  funext i
  unfold susF consE
  rw [consE_check, e]
theorem tlenZ {b : Nat} {r : Res} {w : World} (hT : TapeIs (some b) [] r) (h : r.ok w) : Calls Tryz.prog 33 #[.pointer (some ⟨b, 0, none⟩)] w fun e w' => e = .returned (.int .i64 0) ∧ Below w.heap.size w w' := tlen0 hT h
theorem lstNilE {w : World} : LstAt w 3 (.slice none 0 0) 0 (el ec []) := ⟨rfl, none, 0, rfl, Nat.le_refl _, fun _ => ⟨rfl, rfl⟩, fun ad h => by cases h⟩
/-- Equal lists of events. -/
theorem sameE {la ma : Option Addr} {n lc nm mc : Nat} {l m : List Ev} {w : World} (H1 : LstAt w 3 (.slice la n lc) n (el ec l)) (H2 : LstAt w 3 (.slice ma nm mc) nm (el ec m)) (h : l = m) (hl : l.length ≤ 100000000) : Calls Tryz.prog 36 #[.slice la n lc, .slice ma nm mc] w fun e w' => e = .returned (.bool true) ∧ Below w.heap.size w w' := by
  subst h
  have e1 := H1.len
  have e2 := H2.len
  rw [el_len ec_len] at e1 e2
  have h := refSame_c la ma n lc nm mc l l w H1 H2 (by omega) (by omega)
  rw [decide_eq_true rfl] at h
  exact h
theorem lawAEv_big (m lc : Nat) (la : Option Addr) (S : Nat → Shr) (W : World) (HS : (shareR la m lc S).ok W) (HL : Laid W) (hg : 0 < lrg S m) : Calls Tryz.prog 7 [.slice la m lc].toArray W fun e w => e = .returned (.bool true) ∧ Below W.heap.size W w := by
 refine c_enter (args := [.slice la m lc]) Tryz.func7 rfl rfl rfl fun a hk => ?_
 have hs := Sat.start W [shareR la m lc S, laidR] (okrc HS (okr1 (laidR_ok HL)))
 refine wS (wR ?_)
 refine q_v hk (w_as rfl) fun a hk => ?_
 refine c_end (x_t (wS (wS (wR ?_))))
 refine q_v hk (w_mv rfl) fun a hk => ?_
 refine q_call (caps := []) hk rfl rfl Tryz.func15 fo15 rfl rfl (large_c m lc la S _ ((HasR.nth 0 rfl : HasR (shareR la m lc S) _).at_ hs)) ?_
 rintro _ w ⟨rfl, hb⟩
 have hs := hs.below hb
 refine ⟨_, rfl, fun a hk => ?_⟩
 refine q_v hk (w_gt rfl rfl (decide_eq_true hg)) fun a hk => ?_
 refine q_v hk (w_mv rfl) fun a hk => ?_
 refine q_skip hk rfl rfl fun a hk => ?_
 refine q_skip hk rfl rfl fun a hk => ?_
 refine q_skip hk rfl rfl fun a hk => ?_
 refine q_v hk (w_pickT rfl rfl) fun a hk => ?_
 refine c_end (x_t ?_)
 refine c_T hk rfl ?_
 refine wS (wR ?_)
 refine q_call (caps := []) hk rfl rfl Tryz.func16 fo16 rfl rfl (alive18_c _ ((HasR.nth 1 rfl : HasR laidR _).at_ hs)) ?_
 rintro _ w ⟨rfl, hb⟩
 have hs := hs.below hb
 refine ⟨_, rfl, fun a hk => ?_⟩
 refine q_v hk (w_as rfl) fun a hk => ?_
 refine c_end (x_t ?_)
 refine (wpIn_ret (x_tr ?_))
 refine c_ret1 hk rfl rfl ?_
 exact ⟨rfl, hs.toBelow⟩
theorem lawAEv_big7 (m lc : Nat) (la : Option Addr) (S : Nat → Shr) (W : World) (HS : (shareR la m lc S).ok W) (HL : Laid W) (hg : ¬ 0 < lrg S m) (h7 : 7 < m) (hm : m ≤ 12) : Calls Tryz.prog 7 [.slice la m lc].toArray W fun e w => e = .returned (.bool true) ∧ Below W.heap.size W w := by
 refine c_enter (args := [.slice la m lc]) Tryz.func7 rfl rfl rfl fun a hk => ?_
 have hs := Sat.start W [shareR la m lc S, laidR] (okrc HS (okr1 (laidR_ok HL)))
 refine wS (wR ?_)
 refine q_v hk (w_as rfl) fun a hk => ?_
 refine c_end (x_t (wS (wS (wR ?_))))
 refine q_v hk (w_mv rfl) fun a hk => ?_
 refine q_call (caps := []) hk rfl rfl Tryz.func15 fo15 rfl rfl (large_c m lc la S _ ((HasR.nth 0 rfl : HasR (shareR la m lc S) _).at_ hs)) ?_
 rintro _ w ⟨rfl, hb⟩
 have hs := hs.below hb
 refine ⟨_, rfl, fun a hk => ?_⟩
 refine q_v hk (w_gt rfl rfl (decide_eq_false hg)) fun a hk => ?_
 refine q_v hk (w_mv rfl) fun a hk => ?_
 refine q_v hk (w_mv rfl) fun a hk => ?_
 refine q_v hk (w_len rfl Tryz.underlying22) fun a hk => ?_
 refine q_v hk (w_gt rfl rfl (decide_eq_true (by omega))) fun a hk => ?_
 refine q_v hk (w_pickF rfl rfl) fun a hk => ?_
 refine c_end (x_t ?_)
 refine c_T hk rfl ?_
 refine wS (wR ?_)
 refine q_call (caps := []) hk rfl rfl Tryz.func16 fo16 rfl rfl (alive18_c _ ((HasR.nth 1 rfl : HasR laidR _).at_ hs)) ?_
 rintro _ w ⟨rfl, hb⟩
 have hs := hs.below hb
 refine ⟨_, rfl, fun a hk => ?_⟩
 refine q_v hk (w_as rfl) fun a hk => ?_
 refine c_end (x_t ?_)
 refine (wpIn_ret (x_tr ?_))
 refine c_ret1 hk rfl rfl ?_
 exact ⟨rfl, hs.toBelow⟩
theorem lawAEv_bad (m lc : Nat) (la : Option Addr) (S : Nat → Shr) (W : World) (HS : (shareR la m lc S).ok W) (HL : Laid W) (hg : ¬ 0 < lrg S m) (HO : ShOk S m) (hm : m ≤ 12) (hm7 : m ≤ 7) (hz : csErr S m ≠ 0) : Calls Tryz.prog 7 [.slice la m lc].toArray W fun e w => e = .returned (.bool true) ∧ Below W.heap.size W w := by
 refine c_enter (args := [.slice la m lc]) Tryz.func7 rfl rfl rfl fun a hk => ?_
 have hs := Sat.start W [shareR la m lc S, laidR] (okrc HS (okr1 (laidR_ok HL)))
 refine wS (wR ?_)
 refine q_v hk (w_as rfl) fun a hk => ?_
 refine c_end (x_t (wS (wS (wR ?_))))
 refine q_v hk (w_mv rfl) fun a hk => ?_
 refine q_call (caps := []) hk rfl rfl Tryz.func15 fo15 rfl rfl (large_c m lc la S _ ((HasR.nth 0 rfl : HasR (shareR la m lc S) _).at_ hs)) ?_
 rintro _ w ⟨rfl, hb⟩
 have hs := hs.below hb
 refine ⟨_, rfl, fun a hk => ?_⟩
 refine q_v hk (w_gt rfl rfl (decide_eq_false hg)) fun a hk => ?_
 refine q_v hk (w_mv rfl) fun a hk => ?_
 refine q_v hk (w_mv rfl) fun a hk => ?_
 refine q_v hk (w_len rfl Tryz.underlying22) fun a hk => ?_
 refine q_v hk (w_gt rfl rfl (decide_eq_false (by omega))) fun a hk => ?_
 refine q_v hk (w_pickF rfl rfl) fun a hk => ?_
 refine c_end (x_t ?_)
 refine c_F hk rfl ?_
 refine (wpIn_skip (x_t ?_))
 refine wS (wR ?_)
 refine q_call (caps := []) hk rfl rfl Tryz.func32 fo32 rfl rfl (newTape_m _ hs) ?_
 rintro _ w ⟨b1, r2, rfl, ht3, hs⟩
 have hT_b1 := ht3
 refine ⟨_, rfl, fun a hk => ?_⟩
 refine q_call (caps := []) hk rfl rfl Tryz.func32 fo32 rfl rfl (newTape_m _ hs) ?_
 rintro _ w ⟨b4, r5, rfl, ht6, hs⟩
 have hT_b4 := ht6
 refine ⟨_, rfl, fun a hk => ?_⟩
 refine q_call (caps := []) hk rfl rfl Tryz.func32 fo32 rfl rfl (newTape_m _ hs) ?_
 rintro _ w ⟨b7, r8, rfl, ht9, hs⟩
 have hT_b7 := ht9
 refine ⟨_, rfl, fun a hk => ?_⟩
 refine q_v hk (w_as rfl) fun a hk => ?_
 refine q_v hk (w_as rfl) fun a hk => ?_
 refine q_v hk (w_as rfl) fun a hk => ?_
 refine c_end (x_t (wS (wR ?_)))
 refine q_v hk (w_mv rfl) fun a hk => ?_
 refine q_v hk (w_mv rfl) fun a hk => ?_
 refine q_call (caps := []) hk rfl rfl Tryz.func17 fo17 rfl rfl (cons_bad m lc la S (some b1) _ hs (HasR.nth 0 rfl) (HasR.nth 1 rfl) HO hz) ?_
 rintro _ w ⟨rfl, hs⟩
 refine ⟨_, rfl, fun a hk => ?_⟩
 refine c_end (x_t (wS (wR ?_)))
 refine q_v hk (w_mv rfl) fun a hk => ?_
 refine q_v hk (w_mv rfl) fun a hk => ?_
 refine q_call (caps := []) hk rfl rfl Tryz.func20 fo20 rfl rfl (achunks_bad m lc la S (some b4) _ hs (HasR.nth 0 rfl) (HasR.nth 1 rfl) HO hz) ?_
 rintro _ w ⟨rfl, hs⟩
 refine ⟨_, rfl, fun a hk => ?_⟩
 refine c_end (x_t (wS (wR ?_)))
 refine q_v hk (w_mv rfl) fun a hk => ?_
 refine q_v hk (w_mv rfl) fun a hk => ?_
 refine q_call (caps := []) hk rfl rfl Tryz.func23 fo23 rfl rfl (sus_bad m lc la S (some b7) _ hs (HasR.nth 0 rfl) (HasR.nth 1 rfl) HO hz) ?_
 rintro _ w ⟨rfl, hs⟩
 refine ⟨_, rfl, fun a hk => ?_⟩
 refine c_end (x_t (wS (wS (wR ?_))))
 refine q_v hk (w_mv rfl) fun a hk => ?_
 refine q_call (caps := []) hk rfl rfl Tryz.func18 fo18 rfl rfl (refCkShares_c m lc la S _ ((HasR.nth 0 rfl : HasR (shareR la m lc S) _).at_ hs) HO) ?_
 rintro _ w ⟨rfl, hb⟩
 have hs := hs.below hb
 refine ⟨_, rfl, fun a hk => ?_⟩
 refine q_v hk (w_ne rfl rfl (decide_eq_true hz)) fun a hk => ?_
 refine c_end (x_t ?_)
 refine c_T hk rfl ?_
 refine wS (wR ?_)
 refine q_call (caps := []) hk rfl rfl Tryz.func16 fo16 rfl rfl (alive18_c _ ((HasR.nth 1 rfl : HasR laidR _).at_ hs)) ?_
 rintro _ w ⟨rfl, hb⟩
 have hs := hs.below hb
 refine ⟨_, rfl, fun a hk => ?_⟩
 refine q_v hk (w_mv rfl) fun a hk => ?_
 refine q_v hk (w_mv rfl) fun a hk => ?_
 refine q_call (caps := []) hk rfl rfl Tryz.func33 fo33 rfl rfl (tlenZ hT_b1 (hs.mi 2 rfl)) ?_
 rintro _ w ⟨rfl, hb⟩
 have hs := hs.below hb
 refine ⟨_, rfl, fun a hk => ?_⟩
 refine q_v hk (w_mv rfl) fun a hk => ?_
 refine q_call (caps := []) hk rfl rfl Tryz.func33 fo33 rfl rfl (tlenZ hT_b4 (hs.mi 1 rfl)) ?_
 rintro _ w ⟨rfl, hb⟩
 have hs := hs.below hb
 refine ⟨_, rfl, fun a hk => ?_⟩
 refine q_v hk (w_add (r := 0) rfl rfl (by decide)) fun a hk => ?_
 refine q_v hk (w_mv rfl) fun a hk => ?_
 refine q_call (caps := []) hk rfl rfl Tryz.func33 fo33 rfl rfl (tlenZ hT_b7 (hs.mi 0 rfl)) ?_
 rintro _ w ⟨rfl, hb⟩
 have hs := hs.below hb
 refine ⟨_, rfl, fun a hk => ?_⟩
 refine q_v hk (w_add (r := 0) rfl rfl (by decide)) fun a hk => ?_
 refine q_v hk (w_eq rfl rfl (decide_eq_true (by decide))) fun a hk => ?_
 refine q_v hk (w_pickT rfl rfl) fun a hk => ?_
 refine q_v hk (w_as rfl) fun a hk => ?_
 refine c_end (x_t ?_)
 refine (wpIn_ret (x_tr ?_))
 refine c_ret1 hk rfl rfl ?_
 exact ⟨rfl, hs.toBelow⟩
theorem lawAEv_few (s : Bool) (m lc : Nat) (la : Option Addr) (S : Nat → Shr) (W : World) (HS : (shareR la m lc S).ok W) (HL : Laid W) (hg : ¬ 0 < lrg S m) (HO : ShOk S m) (hm : m ≤ 12) (hm7 : m ≤ 7) (g : Good s S m) (hz : csErr S m = 0) (hn9 : (S 0).n ≤ 4) (hf : ((m : Nat) : Int) ≤ (S 0).T) : Calls Tryz.prog 7 [.slice la m lc].toArray W fun e w => e = .returned (.bool true) ∧ Below W.heap.size W w := by
 have hm0 := g.m0
 have hth := g.th_le
 have hlc := chunks_len (m := m) (th := (thN S)) (k := (S 0).n) (by omega)
 have hgt := g.th
 refine c_enter (args := [.slice la m lc]) Tryz.func7 rfl rfl rfl fun a hk => ?_
 have hs := Sat.start W [shareR la m lc S, laidR] (okrc HS (okr1 (laidR_ok HL)))
 refine wS (wR ?_)
 refine q_v hk (w_as rfl) fun a hk => ?_
 refine c_end (x_t (wS (wS (wR ?_))))
 refine q_v hk (w_mv rfl) fun a hk => ?_
 refine q_call (caps := []) hk rfl rfl Tryz.func15 fo15 rfl rfl (large_c m lc la S _ ((HasR.nth 0 rfl : HasR (shareR la m lc S) _).at_ hs)) ?_
 rintro _ w ⟨rfl, hb⟩
 have hs := hs.below hb
 refine ⟨_, rfl, fun a hk => ?_⟩
 refine q_v hk (w_gt rfl rfl (decide_eq_false hg)) fun a hk => ?_
 refine q_v hk (w_mv rfl) fun a hk => ?_
 refine q_v hk (w_mv rfl) fun a hk => ?_
 refine q_v hk (w_len rfl Tryz.underlying22) fun a hk => ?_
 refine q_v hk (w_gt rfl rfl (decide_eq_false (by omega))) fun a hk => ?_
 refine q_v hk (w_pickF rfl rfl) fun a hk => ?_
 refine c_end (x_t ?_)
 refine c_F hk rfl ?_
 refine (wpIn_skip (x_t ?_))
 refine wS (wR ?_)
 refine q_call (caps := []) hk rfl rfl Tryz.func32 fo32 rfl rfl (newTape_m _ hs) ?_
 rintro _ w ⟨b1, r2, rfl, ht3, hs⟩
 have hT_b1 := ht3
 refine ⟨_, rfl, fun a hk => ?_⟩
 refine q_call (caps := []) hk rfl rfl Tryz.func32 fo32 rfl rfl (newTape_m _ hs) ?_
 rintro _ w ⟨b4, r5, rfl, ht6, hs⟩
 have hT_b4 := ht6
 refine ⟨_, rfl, fun a hk => ?_⟩
 refine q_call (caps := []) hk rfl rfl Tryz.func32 fo32 rfl rfl (newTape_m _ hs) ?_
 rintro _ w ⟨b7, r8, rfl, ht9, hs⟩
 have hT_b7 := ht9
 refine ⟨_, rfl, fun a hk => ?_⟩
 refine q_v hk (w_as rfl) fun a hk => ?_
 refine q_v hk (w_as rfl) fun a hk => ?_
 refine q_v hk (w_as rfl) fun a hk => ?_
 refine c_end (x_t (wS (wR ?_)))
 refine q_v hk (w_mv rfl) fun a hk => ?_
 refine q_v hk (w_mv rfl) fun a hk => ?_
 have hs := hs.up2
 refine q_call (caps := []) hk rfl rfl Tryz.func17 fo17 rfl rfl (cons_m s m lc la S (some b1) [] _ _ hs (HasR.nth 0 rfl) (HasR.nth 1 rfl) HO g hz (by omega) hn9 hT_b1 (by decide)) ?_
 rintro _ w ⟨r10, rfl, hT_b1, hs⟩
 have hT_b1 : TapeIs (some b1) (upE 0 (((S 0).n : Nat) : Int) (chunkE m (thN S))) r10 := hT_b1
 refine ⟨_, rfl, fun a hk => ?_⟩
 refine c_end (x_t (wS (wR ?_)))
 refine q_v hk (w_mv rfl) fun a hk => ?_
 refine q_v hk (w_mv rfl) fun a hk => ?_
 have hs := hs.up2
 refine q_call (caps := []) hk rfl rfl Tryz.func20 fo20 rfl rfl (achunks_m s m lc la S (some b4) [] _ _ hs (HasR.nth 0 rfl) (HasR.nth 1 rfl) HO g hz (by omega) hn9 hT_b4 (by decide)) ?_
 rintro _ w ⟨r11, b12, rfl, hT_b4, hs⟩
 have hT_b4 : TapeIs (some b4) (upE 0 (((S 0).n : Nat) : Int) (chunkE m (thN S))) r11 := hT_b4
 refine ⟨_, rfl, fun a hk => ?_⟩
 refine c_end (x_t (wS (wR ?_)))
 refine q_v hk (w_mv rfl) fun a hk => ?_
 refine q_v hk (w_mv rfl) fun a hk => ?_
 refine q_call (caps := []) hk rfl rfl Tryz.func23 fo23 rfl rfl (sus_few m lc la S (some b7) _ hs (HasR.nth 0 rfl) (HasR.nth 1 rfl) HO hz g.m0 (by omega) hf) ?_
 rintro _ w ⟨rfl, hs⟩
 refine ⟨_, rfl, fun a hk => ?_⟩
 refine c_end (x_t (wS (wS (wR ?_))))
 refine q_v hk (w_mv rfl) fun a hk => ?_
 refine q_call (caps := []) hk rfl rfl Tryz.func18 fo18 rfl rfl (refCkShares_c m lc la S _ ((HasR.nth 0 rfl : HasR (shareR la m lc S) _).at_ hs) HO) ?_
 rintro _ w ⟨rfl, hb⟩
 have hs := hs.below hb
 refine ⟨_, rfl, fun a hk => ?_⟩
 refine q_v hk (w_ne rfl rfl (decide_eq_false (fun h => h hz))) fun a hk => ?_
 refine c_end (x_t ?_)
 refine c_F hk rfl ?_
 refine (wpIn_skip (x_t ?_))
 refine wS ?_
 have hL := okL.cons ((share_lst (HasR.nth 0 rfl : HasR (shareR la m lc S) _)).at_ hs) okL.nil
 refine d_begin _ 14 (by kernel_rfl) rfl hs hL fun w hs hL => ?_
 refine d_w 0 1 hk hL rfl (fun w hL => w_mv rfl) fun a hk => ?_
 refine d_w 1 3 hk hL rfl (fun w hL => w_len rfl Tryz.underlying22) fun a hk => ?_
 refine d_w 2 7 hk hL rfl (fun w hL => w_mv rfl) fun a hk => ?_
 refine d_w 3 15 hk hL rfl (fun w hL => w_iaL (k := 0) rfl rfl Tryz.underlying22 ty53 (hL.at 0 rfl) (by omega) (by omega)) fun a hk => ?_
 refine d_w 4 31 hk hL rfl (fun w hL => w_fa rfl fq53_1 ty3) fun a hk => ?_
 refine d_w 5 63 hk hL rfl (fun w hL => w_ld1 rfl ty3 (ic_eq g.th (lstf (k := 0) (o := 1) (m := 1) (hL.at 0 rfl) (by omega) (en_chunk shc_len (by omega)) rfl))) fun a hk => ?_
 refine d_w 6 127 hk hL rfl (fun w hL => w_mv rfl) fun a hk => ?_
 refine d_w 7 255 hk hL rfl (fun w hL => w_iaL (k := 0) rfl rfl Tryz.underlying22 ty53 (hL.at 0 rfl) (by omega) (by omega)) fun a hk => ?_
 refine d_w 8 511 hk hL rfl (fun w hL => w_fa rfl fq53_4 ty51) fun a hk => ?_
 refine d_w 9 1023 hk hL rfl (fun w hL => w_ld1 rfl ty51 (lstf (k := 0) (o := 4) (m := 1) (hL.at 0 rfl) (by omega) (en_chunk shc_len (by omega)) rfl)) fun a hk => ?_
 refine d_w 10 2047 hk hL rfl (fun w hL => w_len rfl Tryz.underlying51) fun a hk => ?_
 refine d_w 11 4095 hk hL rfl (fun w hL => w_as rfl) fun a hk => ?_
 refine d_w 12 8191 hk hL rfl (fun w hL => w_as rfl) fun a hk => ?_
 refine d_w 13 16383 hk hL rfl (fun w hL => w_as rfl) fun a hk => ?_
 refine d_end (by kernel_rfl) ?_
 refine (x_t ?_)
 refine wS (wR ?_)
 refine q_v hk (w_mv rfl) fun a hk => ?_
 refine q_v hk (w_mv rfl) fun a hk => ?_
 refine q_v hk (w_mv rfl) fun a hk => ?_
 refine q_call (caps := []) hk rfl rfl Tryz.func34 fo34 rfl rfl (refAll_e (m : Int) ((thN S) : Int) ((S 0).n : Int) _ (by omega) (by omega) (by omega) (by omega)) ?_
 rintro _ w ⟨a14, k15, c16, rfl, hS⟩
 have hs := hs.call1 hS
 clear hS
 refine ⟨_, rfl, fun a hk => ?_⟩
 refine q_v hk (w_as rfl) fun a hk => ?_
 refine c_end (x_t (wS (wR ?_)))
 refine q_v hk (w_as rfl) fun a hk => ?_
 refine c_end (x_t (wS (wS (wR ?_))))
 refine q_v hk (w_mv rfl) fun a hk => ?_
 refine q_v hk (w_mv rfl) fun a hk => ?_
 refine q_v hk (w_gt rfl rfl (decide_eq_false (by omega))) fun a hk => ?_
 refine c_end (x_t ?_)
 refine c_F hk rfl ?_
 refine (wpIn_skip (x_t ?_))
 refine wS (wR ?_)
 refine q_call (caps := []) hk rfl rfl Tryz.func16 fo16 rfl rfl (alive18_c _ ((HasR.nth 1 rfl : HasR laidR _).at_ hs)) ?_
 rintro _ w ⟨rfl, hb⟩
 have hs := hs.below hb
 refine ⟨_, rfl, fun a hk => ?_⟩
 refine q_v hk (w_mv rfl) fun a hk => ?_
 refine q_v hk (w_mv rfl) fun a hk => ?_
 refine q_call (caps := []) hk rfl rfl Tryz.func37 fo37 rfl rfl (tevents hT_b1 (hs.mi 3 rfl) (by first | omega | decide)) ?_
 rintro _ w ⟨a17, c18, rfl, hS⟩
 have hs := hs.call1 hS
 clear hS
 refine ⟨_, rfl, fun a hk => ?_⟩
 refine q_v hk (w_mv rfl) fun a hk => ?_
 refine q_call (caps := []) hk rfl rfl Tryz.func36 fo36 rfl rfl (sameE (row_lst (hs.mi 0 rfl)) (row_lst (hs.mi 1 rfl)) (consE_check m (thN S) (S 0).n) (by omega)) ?_
 rintro _ w ⟨rfl, hb⟩
 have hs := hs.below hb
 refine ⟨_, rfl, fun a hk => ?_⟩
 refine q_v hk (w_pickT rfl rfl) fun a hk => ?_
 refine q_v hk (w_mv rfl) fun a hk => ?_
 refine q_v hk (w_mv rfl) fun a hk => ?_
 refine q_call (caps := []) hk rfl rfl Tryz.func37 fo37 rfl rfl (tevents hT_b4 (hs.mi 2 rfl) (by first | omega | decide)) ?_
 rintro _ w ⟨a19, c20, rfl, hS⟩
 have hs := hs.call1 hS
 clear hS
 refine ⟨_, rfl, fun a hk => ?_⟩
 refine q_v hk (w_mv rfl) fun a hk => ?_
 refine q_call (caps := []) hk rfl rfl Tryz.func36 fo36 rfl rfl (sameE (row_lst (hs.mi 0 rfl)) (row_lst (hs.mi 2 rfl)) (consE_check m (thN S) (S 0).n) (by omega)) ?_
 rintro _ w ⟨rfl, hb⟩
 have hs := hs.below hb
 refine ⟨_, rfl, fun a hk => ?_⟩
 refine q_v hk (w_pickT rfl rfl) fun a hk => ?_
 refine q_v hk (w_mv rfl) fun a hk => ?_
 refine q_v hk (w_mv rfl) fun a hk => ?_
 refine q_call (caps := []) hk rfl rfl Tryz.func37 fo37 rfl rfl (tevents hT_b7 (hs.mi 6 rfl) (by first | omega | decide)) ?_
 rintro _ w ⟨a21, c22, rfl, hS⟩
 have hs := hs.call1 hS
 clear hS
 refine ⟨_, rfl, fun a hk => ?_⟩
 refine q_v hk (w_mv rfl) fun a hk => ?_
 refine q_call (caps := []) hk rfl rfl Tryz.func36 fo36 rfl rfl (sameE (row_lst (hs.mi 0 rfl)) lstNilE rfl (by decide)) ?_
 rintro _ w ⟨rfl, hb⟩
 have hs := hs.below hb
 refine ⟨_, rfl, fun a hk => ?_⟩
 refine q_v hk (w_pickT rfl rfl) fun a hk => ?_
 refine q_v hk (w_as rfl) fun a hk => ?_
 refine c_end (x_t ?_)
 refine (wpIn_ret ?_)
 refine c_ret1 hk rfl rfl ?_
 exact ⟨rfl, hs.toBelow⟩
theorem lawAEv_good (s : Bool) (m lc : Nat) (la : Option Addr) (S : Nat → Shr) (W : World) (HS : (shareR la m lc S).ok W) (HL : Laid W) (hg : ¬ 0 < lrg S m) (HO : ShOk S m) (hm : m ≤ 12) (hm7 : m ≤ 7) (g : Good s S m) (hz : csErr S m = 0) (hn9 : (S 0).n ≤ 4) (hf : (S 0).T < ((m : Nat) : Int)) : Calls Tryz.prog 7 [.slice la m lc].toArray W fun e w => e = .returned (.bool true) ∧ Below W.heap.size W w := by
 have hm0 := g.m0
 have hth := g.th_le
 have hlc := chunks_len (m := m) (th := (thN S)) (k := (S 0).n) (by omega)
 have hgt := g.th
 have hls := susK_len (m := m) (th := (thN S)) (n := (S 0).n) (k := m) (by omega) hn9
 have hls : (susE m (thN S) (S 0).n).length ≤ m * 600000 := hls
 refine c_enter (args := [.slice la m lc]) Tryz.func7 rfl rfl rfl fun a hk => ?_
 have hs := Sat.start W [shareR la m lc S, laidR] (okrc HS (okr1 (laidR_ok HL)))
 refine wS (wR ?_)
 refine q_v hk (w_as rfl) fun a hk => ?_
 refine c_end (x_t (wS (wS (wR ?_))))
 refine q_v hk (w_mv rfl) fun a hk => ?_
 refine q_call (caps := []) hk rfl rfl Tryz.func15 fo15 rfl rfl (large_c m lc la S _ ((HasR.nth 0 rfl : HasR (shareR la m lc S) _).at_ hs)) ?_
 rintro _ w ⟨rfl, hb⟩
 have hs := hs.below hb
 refine ⟨_, rfl, fun a hk => ?_⟩
 refine q_v hk (w_gt rfl rfl (decide_eq_false hg)) fun a hk => ?_
 refine q_v hk (w_mv rfl) fun a hk => ?_
 refine q_v hk (w_mv rfl) fun a hk => ?_
 refine q_v hk (w_len rfl Tryz.underlying22) fun a hk => ?_
 refine q_v hk (w_gt rfl rfl (decide_eq_false (by omega))) fun a hk => ?_
 refine q_v hk (w_pickF rfl rfl) fun a hk => ?_
 refine c_end (x_t ?_)
 refine c_F hk rfl ?_
 refine (wpIn_skip (x_t ?_))
 refine wS (wR ?_)
 refine q_call (caps := []) hk rfl rfl Tryz.func32 fo32 rfl rfl (newTape_m _ hs) ?_
 rintro _ w ⟨b1, r2, rfl, ht3, hs⟩
 have hT_b1 := ht3
 refine ⟨_, rfl, fun a hk => ?_⟩
 refine q_call (caps := []) hk rfl rfl Tryz.func32 fo32 rfl rfl (newTape_m _ hs) ?_
 rintro _ w ⟨b4, r5, rfl, ht6, hs⟩
 have hT_b4 := ht6
 refine ⟨_, rfl, fun a hk => ?_⟩
 refine q_call (caps := []) hk rfl rfl Tryz.func32 fo32 rfl rfl (newTape_m _ hs) ?_
 rintro _ w ⟨b7, r8, rfl, ht9, hs⟩
 have hT_b7 := ht9
 refine ⟨_, rfl, fun a hk => ?_⟩
 refine q_v hk (w_as rfl) fun a hk => ?_
 refine q_v hk (w_as rfl) fun a hk => ?_
 refine q_v hk (w_as rfl) fun a hk => ?_
 refine c_end (x_t (wS (wR ?_)))
 refine q_v hk (w_mv rfl) fun a hk => ?_
 refine q_v hk (w_mv rfl) fun a hk => ?_
 have hs := hs.up2
 refine q_call (caps := []) hk rfl rfl Tryz.func17 fo17 rfl rfl (cons_m s m lc la S (some b1) [] _ _ hs (HasR.nth 0 rfl) (HasR.nth 1 rfl) HO g hz (by omega) hn9 hT_b1 (by decide)) ?_
 rintro _ w ⟨r10, rfl, hT_b1, hs⟩
 have hT_b1 : TapeIs (some b1) (upE 0 (((S 0).n : Nat) : Int) (chunkE m (thN S))) r10 := hT_b1
 refine ⟨_, rfl, fun a hk => ?_⟩
 refine c_end (x_t (wS (wR ?_)))
 refine q_v hk (w_mv rfl) fun a hk => ?_
 refine q_v hk (w_mv rfl) fun a hk => ?_
 have hs := hs.up2
 refine q_call (caps := []) hk rfl rfl Tryz.func20 fo20 rfl rfl (achunks_m s m lc la S (some b4) [] _ _ hs (HasR.nth 0 rfl) (HasR.nth 1 rfl) HO g hz (by omega) hn9 hT_b4 (by decide)) ?_
 rintro _ w ⟨r11, b12, rfl, hT_b4, hs⟩
 have hT_b4 : TapeIs (some b4) (upE 0 (((S 0).n : Nat) : Int) (chunkE m (thN S))) r11 := hT_b4
 refine ⟨_, rfl, fun a hk => ?_⟩
 refine c_end (x_t (wS (wR ?_)))
 refine q_v hk (w_mv rfl) fun a hk => ?_
 refine q_v hk (w_mv rfl) fun a hk => ?_
 have hs := hs.up3
 refine q_call (caps := []) hk rfl rfl Tryz.func23 fo23 rfl rfl (sus_m s m lc la S (some b7) [] _ _ hs (HasR.nth 0 rfl) (HasR.nth 1 rfl) HO g hz (by omega) hn9 hf hT_b7 (by decide)) ?_
 rintro _ w ⟨r13, a14, n15, c16, rfl, hT_b7, hs⟩
 have hT_b7 : TapeIs (some b7) (susE m (thN S) (S 0).n) r13 := hT_b7
 refine ⟨_, rfl, fun a hk => ?_⟩
 refine c_end (x_t (wS (wS (wR ?_))))
 refine q_v hk (w_mv rfl) fun a hk => ?_
 refine q_call (caps := []) hk rfl rfl Tryz.func18 fo18 rfl rfl (refCkShares_c m lc la S _ ((HasR.nth 0 rfl : HasR (shareR la m lc S) _).at_ hs) HO) ?_
 rintro _ w ⟨rfl, hb⟩
 have hs := hs.below hb
 refine ⟨_, rfl, fun a hk => ?_⟩
 refine q_v hk (w_ne rfl rfl (decide_eq_false (fun h => h hz))) fun a hk => ?_
 refine c_end (x_t ?_)
 refine c_F hk rfl ?_
 refine (wpIn_skip (x_t ?_))
 refine wS ?_
 have hL := okL.cons ((share_lst (HasR.nth 0 rfl : HasR (shareR la m lc S) _)).at_ hs) okL.nil
 refine d_begin _ 14 (by kernel_rfl) rfl hs hL fun w hs hL => ?_
 refine d_w 0 1 hk hL rfl (fun w hL => w_mv rfl) fun a hk => ?_
 refine d_w 1 3 hk hL rfl (fun w hL => w_len rfl Tryz.underlying22) fun a hk => ?_
 refine d_w 2 7 hk hL rfl (fun w hL => w_mv rfl) fun a hk => ?_
 refine d_w 3 15 hk hL rfl (fun w hL => w_iaL (k := 0) rfl rfl Tryz.underlying22 ty53 (hL.at 0 rfl) (by omega) (by omega)) fun a hk => ?_
 refine d_w 4 31 hk hL rfl (fun w hL => w_fa rfl fq53_1 ty3) fun a hk => ?_
 refine d_w 5 63 hk hL rfl (fun w hL => w_ld1 rfl ty3 (ic_eq g.th (lstf (k := 0) (o := 1) (m := 1) (hL.at 0 rfl) (by omega) (en_chunk shc_len (by omega)) rfl))) fun a hk => ?_
 refine d_w 6 127 hk hL rfl (fun w hL => w_mv rfl) fun a hk => ?_
 refine d_w 7 255 hk hL rfl (fun w hL => w_iaL (k := 0) rfl rfl Tryz.underlying22 ty53 (hL.at 0 rfl) (by omega) (by omega)) fun a hk => ?_
 refine d_w 8 511 hk hL rfl (fun w hL => w_fa rfl fq53_4 ty51) fun a hk => ?_
 refine d_w 9 1023 hk hL rfl (fun w hL => w_ld1 rfl ty51 (lstf (k := 0) (o := 4) (m := 1) (hL.at 0 rfl) (by omega) (en_chunk shc_len (by omega)) rfl)) fun a hk => ?_
 refine d_w 10 2047 hk hL rfl (fun w hL => w_len rfl Tryz.underlying51) fun a hk => ?_
 refine d_w 11 4095 hk hL rfl (fun w hL => w_as rfl) fun a hk => ?_
 refine d_w 12 8191 hk hL rfl (fun w hL => w_as rfl) fun a hk => ?_
 refine d_w 13 16383 hk hL rfl (fun w hL => w_as rfl) fun a hk => ?_
 refine d_end (by kernel_rfl) ?_
 refine (x_t ?_)
 refine wS (wR ?_)
 refine q_v hk (w_mv rfl) fun a hk => ?_
 refine q_v hk (w_mv rfl) fun a hk => ?_
 refine q_v hk (w_mv rfl) fun a hk => ?_
 refine q_call (caps := []) hk rfl rfl Tryz.func34 fo34 rfl rfl (refAll_e (m : Int) ((thN S) : Int) ((S 0).n : Int) _ (by omega) (by omega) (by omega) (by omega)) ?_
 rintro _ w ⟨a17, k18, c19, rfl, hS⟩
 have hs := hs.call1 hS
 clear hS
 refine ⟨_, rfl, fun a hk => ?_⟩
 refine q_v hk (w_as rfl) fun a hk => ?_
 refine c_end (x_t (wS (wR ?_)))
 refine q_v hk (w_as rfl) fun a hk => ?_
 refine c_end (x_t (wS (wS (wR ?_))))
 refine q_v hk (w_mv rfl) fun a hk => ?_
 refine q_v hk (w_mv rfl) fun a hk => ?_
 refine q_v hk (w_gt rfl rfl (decide_eq_true (by omega))) fun a hk => ?_
 refine c_end (x_t ?_)
 refine c_T hk rfl ?_
 refine wR ?_
 refine q_v hk (w_mv rfl) fun a hk => ?_
 refine q_v hk (w_mv rfl) fun a hk => ?_
 refine q_v hk (w_mv rfl) fun a hk => ?_
 refine q_call (caps := []) hk rfl rfl Tryz.func35 fo35 rfl rfl (refSus_e (m : Int) ((thN S) : Int) ((S 0).n : Int) _ (by omega) (by omega) (by omega) (by omega)) ?_
 rintro _ w ⟨a20, k21, c22, rfl, hS⟩
 have hs := hs.call1 hS
 clear hS
 refine ⟨_, rfl, fun a hk => ?_⟩
 refine q_v hk (w_as rfl) fun a hk => ?_
 refine c_end (x_t (wS (wR ?_)))
 refine q_call (caps := []) hk rfl rfl Tryz.func16 fo16 rfl rfl (alive18_c _ ((HasR.nth 1 rfl : HasR laidR _).at_ hs)) ?_
 rintro _ w ⟨rfl, hb⟩
 have hs := hs.below hb
 refine ⟨_, rfl, fun a hk => ?_⟩
 refine q_v hk (w_mv rfl) fun a hk => ?_
 refine q_v hk (w_mv rfl) fun a hk => ?_
 refine q_call (caps := []) hk rfl rfl Tryz.func37 fo37 rfl rfl (tevents hT_b1 (hs.mi 6 rfl) (by first | omega | decide)) ?_
 rintro _ w ⟨a23, c24, rfl, hS⟩
 have hs := hs.call1 hS
 clear hS
 refine ⟨_, rfl, fun a hk => ?_⟩
 refine q_v hk (w_mv rfl) fun a hk => ?_
 refine q_call (caps := []) hk rfl rfl Tryz.func36 fo36 rfl rfl (sameE (row_lst (hs.mi 0 rfl)) (row_lst (hs.mi 2 rfl)) (consE_check m (thN S) (S 0).n) (by omega)) ?_
 rintro _ w ⟨rfl, hb⟩
 have hs := hs.below hb
 refine ⟨_, rfl, fun a hk => ?_⟩
 refine q_v hk (w_pickT rfl rfl) fun a hk => ?_
 refine q_v hk (w_mv rfl) fun a hk => ?_
 refine q_v hk (w_mv rfl) fun a hk => ?_
 refine q_call (caps := []) hk rfl rfl Tryz.func37 fo37 rfl rfl (tevents hT_b4 (hs.mi 5 rfl) (by first | omega | decide)) ?_
 rintro _ w ⟨a25, c26, rfl, hS⟩
 have hs := hs.call1 hS
 clear hS
 refine ⟨_, rfl, fun a hk => ?_⟩
 refine q_v hk (w_mv rfl) fun a hk => ?_
 refine q_call (caps := []) hk rfl rfl Tryz.func36 fo36 rfl rfl (sameE (row_lst (hs.mi 0 rfl)) (row_lst (hs.mi 3 rfl)) (consE_check m (thN S) (S 0).n) (by omega)) ?_
 rintro _ w ⟨rfl, hb⟩
 have hs := hs.below hb
 refine ⟨_, rfl, fun a hk => ?_⟩
 refine q_v hk (w_pickT rfl rfl) fun a hk => ?_
 refine q_v hk (w_mv rfl) fun a hk => ?_
 refine q_v hk (w_mv rfl) fun a hk => ?_
 refine q_call (caps := []) hk rfl rfl Tryz.func37 fo37 rfl rfl (tevents hT_b7 (hs.mi 4 rfl) (by first | omega | decide)) ?_
 rintro _ w ⟨a27, c28, rfl, hS⟩
 have hs := hs.call1 hS
 clear hS
 refine ⟨_, rfl, fun a hk => ?_⟩
 refine q_v hk (w_mv rfl) fun a hk => ?_
 refine q_call (caps := []) hk rfl rfl Tryz.func36 fo36 rfl rfl (sameE (row_lst (hs.mi 0 rfl)) (row_lst (hs.mi 3 rfl)) (susE_eq (by omega)) (by omega)) ?_
 rintro _ w ⟨rfl, hb⟩
 have hs := hs.below hb
 refine ⟨_, rfl, fun a hk => ?_⟩
 refine q_v hk (w_pickT rfl rfl) fun a hk => ?_
 refine q_v hk (w_as rfl) fun a hk => ?_
 refine c_end (x_t ?_)
 refine (wpIn_ret ?_)
 refine c_ret1 hk rfl rfl ?_
 exact ⟨rfl, hs.toBelow⟩
section
variable (W : World) (la : Option Addr) (m lc : Nat) (S : Nat → Shr) (hx : ∀ k, k < m → ∀ i, i < (S k).n → (S k).X i < R4) (HS : (shareR la m lc S).ok W) (HL : Laid W)
include hx HS HL
theorem lawAEv_c : Calls Tryz.prog 7 #[.slice la m lc] W fun e w => e = .returned (.bool true) ∧ Below W.heap.size W w := by
  by_cases hg : 0 < lrg S m
  · exact lawAEv_big m lc la S W HS HL hg
  · have h := lrg_le hg
    by_cases h7 : 7 < m
    · exact lawAEv_big7 m lc la S W HS HL hg h7 h.1
    · by_cases hz : csErr S m = 0
      · obtain ⟨s, g⟩ := good_of hz
        by_cases hf : (S 0).T < ((m : Nat) : Int)
        · exact lawAEv_good s m lc la S W HS HL hg (shok_of h hx) h.1 (by omega) g hz (h.2 0 g.m0) hf
        · exact lawAEv_few s m lc la S W HS HL hg (shok_of h hx) h.1 (by omega) g hz (h.2 0 g.m0) (by omega)
      · exact lawAEv_bad m lc la S W HS HL hg (shok_of h hx) h.1 (by omega) hz
end
end Go.Proofs.YtdnkkbmpefhbjaaGreatDoor
namespace Go.Proofs.YtdnkkbmpefhbjaaGreatDoor
set_option linter.all false
open Go Go.ChangeShapes Go.WideShapes Go.ChangeAt Go.WideMaps Go.WideElems Go.RowKit
theorem own : ownKnob Tryz.prog.godebug = none := by kernel_rfl
theorem laidOut : laidOutB Tryz.prog = true := by kernel_rfl
theorem gFields : Tryz.prog.globalNamed "sharecore/field.fields" = some 0 := by kernel_rfl
theorem tFields : (Tryz.prog.globals[0]?).map (·.type) = some 168 := by kernel_rfl
theorem cells64 : Tryz.prog.cellsOf 46 = 1 := by kernel_rfl
theorem cellsInt : Tryz.prog.cellsOf 3 = 1 := by kernel_rfl
theorem cellsVec : Tryz.prog.cellsOf 47 = 4 := by kernel_rfl
theorem cellsElem : Tryz.prog.cellsOf 56 = 4 := by kernel_rfl
theorem cellsField : Tryz.prog.cellsOf 120 = 14 := by kernel_rfl
theorem cellsFields : Tryz.prog.cellsOf 168 = 28 := by kernel_rfl
section
variable {H : Type} {enc : TypeId × Value → H} {w : World} {base : Nat} {spare : Nat → Bool} {held : Bool} {n : Nat} {cs : List Value} {ps : List MemPlace}
set_option maxRecDepth 100000 in
theorem four_of {T : TypeId} {d : DataW H} (hT : Tryz.prog.underlying T = some (.array 4 46)) (hc : Tryz.prog.cellsOf T = 4) (h : DataW.trod enc Tryz.prog w base spare held n T cs = some (d, ps)) :
    ∃ a0 a1 a2 a3 : Int, cs = [.int .u64 a0, .int .u64 a1, .int .u64 a2, .int .u64 a3] ∧ d = .agg [.lit (.int .u64 a0), .lit (.int .u64 a1), .lit (.int .u64 a2), .lit (.int .u64 a3)] ∧
      (Lit.int .u64 a0).wf = true ∧ (Lit.int .u64 a1).wf = true ∧ (Lit.int .u64 a2).wf = true ∧ (Lit.int .u64 a3).wf = true := by
  obtain ⟨xs, m, rfl, hx, hlen, hn, hel⟩ := DataW.trod_array hT h
  rw [hc] at hlen
  match cs, hlen with
  | [c0, c1, c2, c3], _ =>
    match xs, hn with
    | [x0, x1, x2, x3], _ =>
      have e0 := hel 0 (by omega)
      have e1 := hel 1 (by omega)
      have e2 := hel 2 (by omega)
      have e3 := hel 3 (by omega)
      rw [cells64] at e0 e1 e2 e3
      simp only [Nat.mul_one, List.drop_zero, List.drop_succ_cons, List.take_succ_cons, List.take_zero, List.getElem?_cons_zero, List.getElem?_cons_succ] at e0 e1 e2 e3
      obtain ⟨k0, f0, g0, w0⟩ := DataW.trod_int Tryz.underlying46 e0
      obtain ⟨k1, f1, g1, w1⟩ := DataW.trod_int Tryz.underlying46 e1
      obtain ⟨k2, f2, g2, w2⟩ := DataW.trod_int Tryz.underlying46 e2
      obtain ⟨k3, f3, g3, w3⟩ := DataW.trod_int Tryz.underlying46 e3
      subst g0 g1 g2 g3
      simp only [List.cons.injEq, and_true] at f0 f1 f2 f3
      subst f0 f1 f2 f3
      simp only [Prod.mk.injEq] at hx
      exact ⟨k0, k1, k2, k3, rfl, hx.1, w0, w1, w2, w3⟩
set_option maxRecDepth 100000 in
theorem field_of {i i' p0 p1 p2 p3 v o0 o1 o2 o3 s0 s1 s2 s3 : Int} (h : DataW.trod enc Tryz.prog w base spare held n 120 cs = some (.agg [.lit (.int .i64 i), .agg [.lit (.int .u64 p0), .lit (.int .u64 p1), .lit (.int .u64 p2), .lit (.int .u64 p3)], .lit (.int .u64 v), .agg [.lit (.int .u64 o0), .lit (.int .u64 o1), .lit (.int .u64 o2), .lit (.int .u64 o3)], .agg [.lit (.int .u64 s0), .lit (.int .u64 s1), .lit (.int .u64 s2), .lit (.int .u64 s3)]], ps)) (_hi : i' = i) :
    cs = [.int .i64 i, .int .u64 p0, .int .u64 p1, .int .u64 p2, .int .u64 p3, .int .u64 v, .int .u64 o0, .int .u64 o1, .int .u64 o2, .int .u64 o3, .int .u64 s0, .int .u64 s1, .int .u64 s2, .int .u64 s3] := by
  obtain ⟨xs, m, rfl, hx, hlen, hn, hel⟩ := DataW.trod_struct Tryz.underlying120 h
  rw [cellsField] at hlen
  match cs, hlen with
  | [c0, c1, c2, c3, c4, c5, c6, c7, c8, c9, c10, c11, c12, c13], _ =>
    match xs, hn with
    | [x0, x1, x2, x3, x4], _ =>
      have e0 := hel 0 { name := "ID", type := 3, offset := 0, embedded := false, tag := "", pkgPath := "", byteOffset := 0 } rfl
      have e1 := hel 1 { name := "Modulus", type := 47, offset := 1, embedded := false, tag := "", pkgPath := "", byteOffset := 8 } rfl
      have e2 := hel 2 { name := "Inverse", type := 46, offset := 5, embedded := false, tag := "", pkgPath := "", byteOffset := 40 } rfl
      have e3 := hel 3 { name := "One", type := 56, offset := 6, embedded := false, tag := "", pkgPath := "", byteOffset := 48 } rfl
      have e4 := hel 4 { name := "Square", type := 47, offset := 10, embedded := false, tag := "", pkgPath := "", byteOffset := 80 } rfl
      simp only [cells64, cellsInt, cellsVec, cellsElem, List.drop_zero, List.drop_succ_cons, List.take_succ_cons, List.take_zero, List.getElem?_cons_zero, List.getElem?_cons_succ] at e0 e1 e2 e3 e4
      obtain ⟨k0, f0, g0, _⟩ := DataW.trod_int Tryz.underlying3 e0
      obtain ⟨k2, f2, g2, _⟩ := DataW.trod_int Tryz.underlying46 e2
      obtain ⟨x1, r1⟩ := x1
      obtain ⟨x3, r3⟩ := x3
      obtain ⟨x4, r4⟩ := x4
      obtain ⟨a0, a1, a2, a3, f1, g1, _⟩ := four_of Tryz.underlying47 cellsVec e1
      obtain ⟨b0, b1, b2, b3, f3, g3, _⟩ := four_of Tryz.underlying56 cellsElem e3
      obtain ⟨d0, d1, d2, d3, f4, g4, _⟩ := four_of Tryz.underlying47 cellsVec e4
      subst g0 g1 g2 g3 g4
      simp only [List.cons.injEq, and_true] at f0 f2
      simp only [List.cons.injEq, and_true] at f1
      simp only [List.cons.injEq, and_true] at f3
      simp only [List.cons.injEq, and_true] at f4
      simp only [Prod.mk.injEq, List.map_cons, List.map_nil, DataW.agg.injEq, List.cons.injEq, DataW.lit.injEq, Lit.int.injEq, true_and, and_true] at hx
      obtain ⟨⟨rfl, ⟨rfl, rfl, rfl, rfl⟩, rfl, ⟨rfl, rfl, rfl, rfl⟩, rfl, rfl, rfl, rfl⟩, _⟩ := hx
      obtain ⟨rfl, rfl, rfl, rfl⟩ := f1
      obtain ⟨rfl, rfl, rfl, rfl⟩ := f3
      obtain ⟨rfl, rfl, rfl, rfl⟩ := f4
      subst f0 f2
      rfl
end
theorem of_laid {W : World} (h : laidMetH Tryz.prog [("sharecore/field.fields", Rows.laid_sharecore_field_fields)] W) : Laid W := by
  rw [MakeChecks.laidMetH_plain _ _ _ (by kernel_rfl)] at h
  obtain ⟨ps, ⟨g0, t0, cs0, f0, p0, q0, hg0, ht0, hv0, hd0, _, _⟩, _, _⟩ := h
  obtain rfl := Option.some.inj (gFields.symm.trans hg0)
  obtain rfl := Option.some.inj (tFields.symm.trans ht0)
  have key : cs0.toList = fieldCells.toList := by
    obtain ⟨xs, m, rfl, hx, hlen, hn, hel⟩ := DataW.trod_array Tryz.underlying168 hd0
    rw [cellsFields] at hlen
    match xs, hn with
    | [x0, x1], _ =>
      have e0 := hel 0 (by omega)
      have e1 := hel 1 (by omega)
      simp only [cellsField, Nat.zero_mul, Nat.one_mul, List.drop_zero, List.getElem?_cons_zero, List.getElem?_cons_succ] at e0 e1
      obtain ⟨x0, r0⟩ := x0
      obtain ⟨x1, r1⟩ := x1
      unfold Rows.laid_sharecore_field_fields at hx
      simp only [Prod.mk.injEq, List.map_cons, List.map_nil, DataW.agg.injEq, List.cons.injEq, and_true] at hx
      obtain ⟨⟨rfl, rfl⟩, _⟩ := hx
      have k0 := field_of e0 rfl
      have k1 := field_of e1 rfl
      rw [List.take_of_length_le (by rw [List.length_drop, hlen]; omega)] at k1
      rw [← List.take_append_drop 14 cs0.toList, k0, k1]
      rfl
  have key' : cs0 = fieldCells := by rw [← Array.toArray_toList (xs := cs0), key]
  intro j v hv
  rw [World.var?_cell hg0 hv0 j, key']
  exact hv
theorem wf64 {a : Int} (h : (Lit.int .u64 a).wf = true) : ∃ n : Nat, a = (n : Int) ∧ n < W := by
  have := bounds_u64 h
  exact ⟨a.toNat, by omega, by unfold W; omega⟩
theorem lt_of {H : Type} {enc : TypeId × Value → H} {w : World} {spare : Nat → Bool} {held : Bool} {T : TypeId} {v : Value} {d : DataW H} {p : List MemPlace} (h : DataW.Trod enc Tryz.prog w 0 spare held T v d p) : ∀ x ∈ p, x.block < w.heap.size := by
  obtain ⟨m, hm⟩ := h
  exact DataW.trod_lt m _ _ _ hm
end Go.Proofs.YtdnkkbmpefhbjaaGreatDoor
namespace Go.Proofs.YtdnkkbmpefhbjaaGreatDoor
set_option linter.all false
open Go Go.ChangeShapes Go.WideShapes Go.ChangeAt Go.WideMaps Go.WideElems Go.RowKit
theorem cellsShare : Tryz.prog.cellsOf 53 = 5 := by kernel_rfl
theorem cellsEls : Tryz.prog.cellsOf 51 = 1 := by kernel_rfl
section
variable {H : Type} {enc : TypeId × Value → H} {w : World} {held : Bool} {P : Program}
theorem cells_at {b : Nat} {q : Addr} {n : Nat} {cs : List Value} (h : w.cells? b q n = some cs) : cs.length = n ∧ ∀ j u, cs[j]? = some u → w.cell? (q.add j) = some u := by
  obtain ⟨_, h1, h2⟩ := World.cells?_some h
  refine ⟨h1, fun j u hj => ?_⟩
  rw [h2 j (by have := (List.getElem?_eq_some_iff.1 hj).1; omega), hj]
/-- A slice whose elements are each read as the cells of something. -/
theorem open_lst {α : Type} {c : α → List Value} {sz : Nat} {φ : α → Prop} {T te : TypeId} (hT : P.underlying T = some (.slice te)) (hc : P.cellsOf te = sz) (hs : 0 < sz) (hlen : ∀ x, (c x).length = sz) (d0 : α)
    (hel : ∀ fuel cs d p, DataW.trod enc P w 0 (fun _ => true) held fuel te cs = some (d, p) → ∃ x, φ x ∧ cs = c x) {a : Option Addr} {n cap : Nat} {d : DataW H} {p : List MemPlace}
    (h : DataW.Trod enc P w 0 (fun _ => true) held T (.slice a n cap) d p) : ∃ f : Nat → α, (∀ i, i < n → φ (f i)) ∧ LstAt w sz (.slice a n cap) n (en c f n) := by
  subst hc
  obtain ⟨fuel, hf⟩ := h
  rcases DataW.trod_slice hT hf with ⟨e, _⟩ | ⟨ad, len, cap', elems, rest, m, _, e, _, _, hl, _, hel1, hel2, _⟩
  · have e' : ([Value.slice a n cap] : List Value) = [.slice none 0 0] := e
    simp only [List.cons.injEq, Value.slice.injEq, and_true] at e'
    obtain ⟨rfl, rfl, rfl⟩ := e'
    exact ⟨fun _ => d0, fun i hi => (by omega), ⟨by simp [en], none, 0, rfl, Nat.le_refl _, fun _ => ⟨rfl, rfl⟩, fun ad h => by cases h⟩⟩
  · have e' : ([Value.slice a n cap] : List Value) = [.slice (some ad) len cap'] := e
    simp only [List.cons.injEq, Value.slice.injEq, and_true] at e'
    obtain ⟨rfl, rfl, rfl⟩ := e'
    have key : ∀ i, ∃ x, i < n → φ x ∧ ∀ j u, (c x)[j]? = some u → w.cell? ((ad.add (i * P.cellsOf te)).add j) = some u := by
      intro i
      by_cases hi : i < n
      · have h1 := hel2 i hi
        cases hcs : w.cells? 0 (ad.add (i * P.cellsOf te)) (P.cellsOf te) with
        | none =>
          rw [hcs, Option.bind_none, List.getElem?_eq_getElem (by omega)] at h1
          cases h1
        | some cs =>
          rw [hcs, Option.bind_some, List.getElem?_eq_getElem (by omega)] at h1
          obtain ⟨x, hx, rfl⟩ := hel _ _ _ _ h1
          exact ⟨x, fun _ => ⟨hx, (cells_at hcs).2⟩⟩
      · exact ⟨d0, fun h => absurd h hi⟩
    refine ⟨fun i => Classical.choose (key i), fun i hi => (Classical.choose_spec (key i) hi).1, ?_⟩
    have hcell : ∀ i, i < n → ∀ j u, (c (Classical.choose (key i)))[j]? = some u → w.cell? ((ad.add (i * P.cellsOf te)).add j) = some u := fun i hi => (Classical.choose_spec (key i) hi).2
    generalize hF : (fun i => Classical.choose (key i)) = f
    have hcell' : ∀ i, i < n → ∀ j u, (c (f i))[j]? = some u → w.cell? ((ad.add (i * P.cellsOf te)).add j) = some u := by subst hF; exact hcell
    clear hcell
    refine ⟨en_len hlen, some ad, cap, rfl, hl, (fun h => by cases h), fun q hq hn => ?_⟩
    cases hq
    have h0 : w.cell? ad = some ((c (f 0))[0]'(by rw [hlen]; exact hs)) := by
      have := hcell' 0 hn 0 _ (List.getElem?_eq_getElem (by rw [hlen]; exact hs))
      rw [Nat.zero_mul] at this
      exact this
    have hspot : ad.spot = none := by simpa using World.cell?_spot h0
    refine ⟨hspot, World.block_lt_of_cell? w _ h0, fun j u hj => ?_⟩
    have hjl := (List.getElem?_eq_some_iff.1 hj).1
    rw [en_len hlen] at hjl
    have hi : j / P.cellsOf te < n := (Nat.div_lt_iff_lt_mul hs).2 hjl
    have hch := en_chunk (c := c) (f := f) hlen hi
    have h2 := congrArg (fun l => l[j % P.cellsOf te]?) hch
    simp only [List.getElem?_take, List.getElem?_drop] at h2
    rw [if_pos (Nat.mod_lt _ hs), show j / P.cellsOf te * P.cellsOf te + j % P.cellsOf te = j by rw [Nat.mul_comm]; exact Nat.div_add_mod j _, hj] at h2
    have := hcell' _ hi _ u h2.symm
    rw [add_add hspot, show j / P.cellsOf te * P.cellsOf te + j % P.cellsOf te = j by rw [Nat.mul_comm]; exact Nat.div_add_mod j _] at this
    exact this
/-- A slice of elements. -/
theorem open_els {a : Option Addr} {n cap : Nat} {d : DataW H} {p : List MemPlace} (h : DataW.Trod enc Tryz.prog w 0 (fun _ => true) held 51 (.slice a n cap) d p) :
    ∃ f : Nat → Nat, (∀ i, i < n → f i < R4) ∧ LstAt w 4 (.slice a n cap) n (en vq f n) :=
  open_lst (φ := fun x => x < R4) Tryz.underlying51 cellsElem (by decide) vq_len 0 (fun fuel cs d p hf => by
    obtain ⟨a0, a1, a2, a3, e, _, w0, w1, w2, w3⟩ := four_of Tryz.underlying56 cellsElem hf
    obtain ⟨n0, rfl, l0⟩ := wf64 w0
    obtain ⟨n1, rfl, l1⟩ := wf64 w1
    obtain ⟨n2, rfl, l2⟩ := wf64 w2
    obtain ⟨n3, rfl, l3⟩ := wf64 w3
    refine ⟨val4 n0 n1 n2 n3, val4_lt l0 l1 l2 l3, ?_⟩
    rw [e]
    have := vec_val4 l0 l1 l2 l3
    unfold vec at this
    have := congrArg (fun v => match v with | Value.agg xs => xs.toList | _ => []) this
    simpa [vq] using this.symm) h
set_option maxRecDepth 100000 in
theorem shr_of {fuel : Nat} {cs : List Value} {d : DataW H} {p : List MemPlace} (hf : DataW.trod enc Tryz.prog w 0 (fun _ => true) held fuel 53 cs = some (d, p)) :
    ∃ x : Shr, ((∀ i, i < x.n → x.X i < R4) ∧ (payR x).ok w) ∧ cs = shc x := by
  obtain ⟨xs, m, rfl, hx, hlen, hn, hel⟩ := DataW.trod_struct Tryz.underlying53 hf
  rw [cellsShare] at hlen
  match cs, hlen with
  | [c0, c1, c2, c3, c4], _ =>
    match xs, hn with
    | [x0, x1, x2, x3, x4], _ =>
      have e0 := hel 0 { name := "Field", type := 3, offset := 0, embedded := false, tag := "", pkgPath := "", byteOffset := 0 } rfl
      have e1 := hel 1 { name := "Threshold", type := 3, offset := 1, embedded := false, tag := "", pkgPath := "", byteOffset := 8 } rfl
      have e2 := hel 2 { name := "Index", type := 3, offset := 2, embedded := false, tag := "", pkgPath := "", byteOffset := 16 } rfl
      have e3 := hel 3 { name := "Length", type := 3, offset := 3, embedded := false, tag := "", pkgPath := "", byteOffset := 24 } rfl
      have e4 := hel 4 { name := "Payload", type := 51, offset := 4, embedded := false, tag := "", pkgPath := "", byteOffset := 32 } rfl
      simp only [cellsInt, cellsEls, List.drop_zero, List.drop_succ_cons, List.take_succ_cons, List.take_zero, List.getElem?_cons_zero, List.getElem?_cons_succ] at e0 e1 e2 e3 e4
      obtain ⟨x4, r4⟩ := x4
      obtain ⟨F, f0, _, _⟩ := DataW.trod_int Tryz.underlying3 e0
      obtain ⟨T, f1, _, _⟩ := DataW.trod_int Tryz.underlying3 e1
      obtain ⟨I, f2, _, _⟩ := DataW.trod_int Tryz.underlying3 e2
      obtain ⟨L, f3, _, _⟩ := DataW.trod_int Tryz.underlying3 e3
      simp only [List.cons.injEq, and_true] at f0 f1 f2 f3
      subst f0 f1 f2 f3
      have hsl : ∃ a n c, c4 = .slice a n c := by
        rcases DataW.trod_slice Tryz.underlying51 e4 with ⟨e, _⟩ | ⟨ad, len, cap', elems, rest, m, _, e, _⟩
        · simp only [List.cons.injEq, and_true] at e; exact ⟨_, _, _, e⟩
        · simp only [List.cons.injEq, and_true] at e; exact ⟨_, _, _, e⟩
      obtain ⟨a, n, c, rfl⟩ := hsl
      obtain ⟨X, h4, hL⟩ := open_els (a := a) (n := n) (cap := c) ⟨_, e4⟩
      exact ⟨⟨F, T, I, L, n, X, a, c⟩, ⟨h4, hL⟩, rfl⟩
def shz : Shr := ⟨0, 0, 0, 0, 0, fun _ => 0, none, 0⟩
/-- Shares that came in. -/
theorem open_shares {a : Option Addr} {n cap : Nat} {d : DataW H} {p : List MemPlace} (h : DataW.Trod enc Tryz.prog w 0 (fun _ => true) held 22 (.slice a n cap) d p) :
    ∃ S : Nat → Shr, (∀ k, k < n → ∀ i, i < (S k).n → (S k).X i < R4) ∧ (shareR a n cap S).ok w := by
  obtain ⟨f, h1, h2⟩ := open_lst (c := shc) Tryz.underlying22 cellsShare (by decide) shc_len shz (fun fuel cs d p hf => shr_of hf) h
  refine ⟨f, fun k hk => (h1 k hk).1, fun x hx => ?_⟩
  simp only [List.mem_cons, List.not_mem_nil, or_false] at hx
  rcases hx with rfl | rfl
  · exact h2
  · intro y hy
    obtain ⟨k, hk, rfl⟩ := List.mem_map.1 hy
    exact (h1 k (List.mem_range.1 hk)).2
end
end Go.Proofs.YtdnkkbmpefhbjaaGreatDoor
