/- The reference's lists of events. -/
import Derived.Test.YtpggmebgndkpjaaDoorModel
import Derived.Test.YtpggmebgndkpjaaDoorParam
namespace Go.Proofs.YtpggmebgndkpjaaDoor
set_option linter.all false
open Go Go.RowKit
theorem upE_to {fr a b : Int} {F : Int → List Ev} (h : (a - fr).toNat = (b - fr).toNat) : upE fr a F = upE fr b F := by unfold upE; rw [h]
theorem upE_nil {fr a : Int} {F : Int → List Ev} (h : a ≤ fr) : upE fr a F = [] := by unfold upE; rw [show (a - fr).toNat = 0 by omega]; rfl
theorem upE_succ {fr x : Int} {F : Int → List Ev} (h : fr ≤ x) : upE fr x F ++ F x = upE fr (x + 1) F := by
  obtain ⟨k, rfl⟩ : ∃ k : Nat, x = fr + k := ⟨(x - fr).toNat, by omega⟩
  unfold upE
  rw [show (fr + (k : Int) - fr).toNat = k by omega, show (fr + (k : Int) + 1 - fr).toNat = k + 1 by omega, List.range_succ, List.map_append, List.flatten_append]
  simp
theorem upE_len {fr to : Int} {F : Int → List Ev} {B : Nat} (h : ∀ i, (F i).length ≤ B) : (upE fr to F).length ≤ (to - fr).toNat * B := by
  unfold upE
  generalize (to - fr).toNat = n
  induction n with
  | zero => simp
  | succ n ih =>
    rw [List.range_succ, List.map_append, List.flatten_append, List.length_append, Nat.succ_mul]
    have := h (fr + (n : Int))
    simp only [List.map_cons, List.map_nil, List.flatten_cons, List.flatten_nil, List.append_nil]
    omega
theorem row_cnt {w : World} {T : TypeId} {v : Value} {k : Nat} {l : List Ev} (h : (row T 3 v k (el ec l)).ok w) : k = l.length := by
  have := row_len h
  rw [el_len ec_len] at this
  omega
theorem pairE_len (eq : Bool) (i k : Int) : (pairE eq i k).length ≤ 1 := by unfold pairE; split <;> simp
theorem coef_len (i : Int) : (coefE i).length ≤ 1 := by simp [coefE]
theorem up255 {fr to : Int} {F : Int → List Ev} {B : Nat} (h : ∀ i, (F i).length ≤ B) (h0 : 0 ≤ fr) (h1 : to ≤ 255) : (upE fr to F).length ≤ 255 * B := Nat.le_trans (upE_len h) (Nat.mul_le_mul_right _ (by omega))
theorem pairs_len {n : Int} (eq : Bool) (h : n ≤ 255) : (pairsE n eq).length ≤ 65025 := by
  have := up255 (fr := 0) (to := n) (F := fun i => upE 0 n fun k => pairE eq i k) (B := 255) (fun i => by have := up255 (fr := 0) (to := n) (fun k => pairE_len eq i k) (by omega) h; omega) (by omega) h
  exact this
theorem down_len {n : Int} {F : Int → List Ev} {B : Nat} (h : ∀ i, (F i).length ≤ B) (h1 : n ≤ 255) : (downE n F).length ≤ 255 * B := up255 (fun i => h _) (by omega) h1
theorem step_len (i : Int) : (stepE i).length ≤ 17 := by
  have := upE_len (fr := 0) (to := 16) (F := fun j => [(1, j, 0)]) (B := 1) (fun _ => by simp)
  unfold stepE
  rw [List.length_append, List.length_singleton]
  omega
theorem inverse_len : inverseE.length ≤ 1088 := by
  have := upE_len (fr := 0) (to := 64) (F := fun i => stepE (64 - 1 - i)) (B := 17) (fun _ => step_len _)
  have e : inverseE = upE 0 64 (fun i => stepE (64 - 1 - i)) := rfl
  rw [e]; omega
theorem weights_len {n : Int} (h : n ≤ 255) : (weightsE n).length ≤ 67000 := by
  unfold weightsE
  split
  · simp
  · have h1 := pairs_len false h
    have h2 := up255 (fr := 0) (to := n) coef_len (by omega) h
    have h3 := down_len (n := n) coef_len h
    have h4 := inverse_len
    simp only [List.length_append]
    omega
theorem interp_len {n : Int} (h : n ≤ 255) : (interpE n).length ≤ 133000 := by
  have h1 := pairs_len true h
  have h2 := weights_len h
  unfold interpE
  rw [List.length_append]
  omega
theorem each_len {c : Int} {l : List Ev} {B : Nat} (h : l.length ≤ B) (hc : c ≤ 2115) : (eachE c l).length ≤ 2115 * (B + 1) := by
  have h1 := upE_len (fr := 0) (to := c) (F := fun k => [(4, k, 0)] ++ l) (B := B + 1) (fun i => by rw [List.length_append, List.length_singleton]; omega)
  refine Nat.le_trans h1 (Nat.mul_le_mul_right _ (by omega))
theorem weights_eq (n : Int) : pairsE n false ++ (if n = 0 then [] else upE 0 n coefE ++ inverseE ++ downE n coefE) = weightsE n := by
  unfold weightsE
  by_cases h : n = 0
  · subst h; simp [pairsE, upE]
  · rw [if_neg h, if_neg h]; simp
theorem refUp_e (kd n : Int) (W : World) (hn : n ≤ 255) : Calls Tryd.prog 81 [.int .i64 kd, .int .i64 n].toArray W fun e w => ∃ la nn lc, e = .returned (.slice la nn lc) ∧ Sat no W [row 36 3 (.slice la nn lc) nn (el ec (upE 0 n fun i => [(kd, i, 0)]))] [] w := by
  refine c_enter (args := [.int .i64 kd, .int .i64 n]) Tryd.func81 rfl rfl rfl fun a hk => ?_
  have hs := Sat.start W [] (fun _ h => by cases h)
  refine wpIn_seq ?_
  refine wpIn_region_lit ?_
  refine q_val hk (w_as rfl) rfl rfl rfl fun a hk => ?_
  refine (c_end (x_t ?_))
  refine wpIn_seq ?_
  refine wpIn_region_lit ?_
  refine q_val hk (w_as rfl) rfl rfl rfl fun a hk => ?_
  refine (c_end (x_t ?_))
  refine wpIn_seq ?_
  refine wpIn_seq ?_
  refine wpIn_region_lit ?_
  refine q_val hk (w_as rfl) rfl rfl rfl fun a hk => ?_
  refine (c_end (x_t ?_))
  refine wpIn_block ?_
  have hs := hs.row0 36 3
  have hs := hs.rw0 (congrArg (fun q => row 36 3 (.slice none 0 0) 0 (el ec q)) (show ([] : List _) = (upE 0 (0 : Int) fun i => [(kd, i, 0)]) from (upE_nil (by omega)).symm))
  refine c_loop (α := Nat) (fun k a w => ∃ (ak : Option Addr) (nk : Nat) (ck : Nat) (xk : Int), (k ≤ n.toNat ∧ xk = (k : Int)) ∧ Kn [] 19 [(6, .int .i64 xk), (5, .slice ak nk ck), (4, .slice none 0 0), (0, .int .i64 kd), (1, .int .i64 n)] a ∧ Sat no W [row 36 3 (.slice ak nk ck) nk (el ec (upE 0 (k : Int) fun i => [(kd, i, 0)]))] [] w) (fun k => n.toNat - k) 0 ?_ ?_
  · exact ⟨_, _, _, _, ⟨by omega, by omega⟩, hk.k rfl (hk.k rfl (hk.k rfl (hk.k rfl (hk.k rfl hk.nil)))), hs⟩
  rintro k a w ⟨ak, nk, ck, xk, hf0, hk, hs⟩
  have hck := row_cnt (hs.mi 0 rfl)
  have hl := upE_len (fr := 0) (to := (k : Int)) (F := fun i => [(kd, i, 0)]) (B := 1) (fun _ => by simp)
  refine wpIn_seq ?_
  refine wpIn_seq ?_
  refine wpIn_region_lit ?_
  refine q_val hk (w_mv rfl) rfl rfl rfl fun a hk => ?_
  refine q_val hk (w_mv rfl) rfl rfl rfl fun a hk => ?_
  rcases Classical.em (xk < n) with hc1 | hc1
  · skip
    refine q_val hk (w_lt rfl rfl (decide_eq_true hc1)) rfl rfl rfl fun a hk => ?_
    refine (c_end (x_t ?_))
    refine c_T hk rfl ?_
    refine (wpIn_skip (x_t ?_))
    refine wpIn_seq ?_
    refine wpIn_block ?_
    refine wpIn_region_lit ?_
    refine q_val hk (w_mv rfl) rfl rfl rfl fun a hk => ?_
    refine q_val hk (w_mv rfl) rfl rfl rfl fun a hk => ?_
    refine q_val hk (w_mv rfl) rfl rfl rfl fun a hk => ?_
    refine q_val hk (w_bld rfl fl36 zr36 rfl rfl) rfl rfl rfl fun a hk => ?_
    refine q_bsl (els := [.tmp 15]) (cs := [.int .i64 kd, .int .i64 xk, .int .i64 0]) hk hs rfl Tryd.underlying26 ty36 zr36 rfl rfl rfl rfl rfl rfl rfl fun b2 w a hk hs => ?_
    have hs := hs.up1
    refine q_app (news := [.int .i64 kd, .int .i64 xk, .int .i64 0]) (m := 1) hk hs rfl rfl Tryd.underlying26 ty36 zr36 rfl rfl (.blk (n := 3) (hs.mi 1 rfl) rfl) rfl rfl (by omega) (by omega) rfl rfl fun a3 c4 w a hk hs => ?_
    have hs := hs.up1
    have hs := hs.drop
    have hs := hs.rw0 (congrArg _ (el_snoc (c := ec) (l := (upE 0 (k : Int) fun i => [(kd, i, 0)])) (x := (kd, xk, 0))))
    refine q_val hk (w_as rfl) rfl rfl rfl fun a hk => ?_
    refine (c_end (x_b (x_t ?_)))
    refine wpIn_region_lit ?_
    refine q_val hk (w_mv rfl) rfl rfl rfl fun a hk => ?_
    refine q_val hk (w_add rfl rfl (wr64 (by omega) (by omega))) rfl rfl rfl fun a hk => ?_
    refine q_val hk (w_as rfl) rfl rfl rfl fun a hk => ?_
    refine (c_end (x_t ?_))
    have hs := hs.rw0 (congrArg (fun q => row 36 3 (.slice a3 (nk + 1) c4) (nk + 1) (el ec q)) (show (((upE 0 (k : Int) fun i => [(kd, i, 0)]) ++ [(kd, xk, 0)]) : List _) = (upE 0 ((k + 1 : Nat) : Int) fun i => [(kd, i, 0)]) from by rw [hf0.2]; exact upE_succ (F := fun i => [(kd, i, 0)]) (by omega)))
    exact ⟨k + 1, ⟨_, _, _, _, ⟨by omega, by omega⟩, hk.k rfl (hk.k rfl (hk.k rfl (hk.k rfl (hk.k rfl hk.nil)))), hs⟩, by omega⟩
  · skip
    refine q_val hk (w_lt rfl rfl (decide_eq_false hc1)) rfl rfl rfl fun a hk => ?_
    refine (c_end (x_t ?_))
    refine c_F hk rfl ?_
    refine (wpIn_exit (x_te (x_te (x_be ?_))))
    refine (x_t ?_)
    refine wpIn_seq ?_
    refine wpIn_region_lit ?_
    refine q_val hk (w_mv rfl) rfl rfl rfl fun a hk => ?_
    refine q_val hk (w_as rfl) rfl rfl rfl fun a hk => ?_
    refine (c_end (x_t ?_))
    refine (wpIn_ret ?_)
    refine c_ret1 hk rfl rfl ?_
    have hs := hs.rw0 (congrArg (fun q => row 36 3 (.slice ak nk ck) nk (el ec q)) (show ((upE 0 (k : Int) fun i => [(kd, i, 0)]) : List _) = (upE 0 n fun i => [(kd, i, 0)]) from upE_to (by omega)))
    exact ⟨_, _, _, rfl, hs.fin⟩
theorem refUp2_e (n : Int) (W : World) (hn : n ≤ 255) : Calls Tryd.prog 81 #[.int .i64 2, .int .i64 n] W fun e w => ∃ la nn lc, e = .returned (.slice la nn lc) ∧ Sat no W [row 36 3 (.slice la nn lc) nn (el ec (upE 0 n coefE))] [] w := refUp_e 2 n W hn
theorem refDown_e (kd n : Int) (W : World) (hn : n ≤ 255) (hn0 : -1000 ≤ n) : Calls Tryd.prog 79 [.int .i64 kd, .int .i64 n].toArray W fun e w => ∃ la nn lc, e = .returned (.slice la nn lc) ∧ Sat no W [row 36 3 (.slice la nn lc) nn (el ec (downE n fun i => [(kd, i, 0)]))] [] w := by
  refine c_enter (args := [.int .i64 kd, .int .i64 n]) Tryd.func79 rfl rfl rfl fun a hk => ?_
  have hs := Sat.start W [] (fun _ h => by cases h)
  refine wpIn_seq ?_
  refine wpIn_region_lit ?_
  refine q_val hk (w_as rfl) rfl rfl rfl fun a hk => ?_
  refine (c_end (x_t ?_))
  refine wpIn_seq ?_
  refine wpIn_region_lit ?_
  refine q_val hk (w_as rfl) rfl rfl rfl fun a hk => ?_
  refine (c_end (x_t ?_))
  refine wpIn_seq ?_
  refine wpIn_seq ?_
  refine wpIn_region_lit ?_
  refine q_val hk (w_mv rfl) rfl rfl rfl fun a hk => ?_
  refine q_val hk (w_sub rfl rfl (wr64 (by omega) (by omega))) rfl rfl rfl fun a hk => ?_
  refine q_val hk (w_as rfl) rfl rfl rfl fun a hk => ?_
  refine (c_end (x_t ?_))
  refine wpIn_block ?_
  have hs := hs.row0 36 3
  have hs := hs.rw0 (congrArg (fun q => row 36 3 (.slice none 0 0) 0 (el ec q)) (show ([] : List _) = (upE 0 (0 : Int) (fun i => [(kd, n - 1 - i, 0)])) from (upE_nil (by omega)).symm))
  refine c_loop (α := Nat) (fun k a w => ∃ (ak : Option Addr) (nk : Nat) (ck : Nat) (xk : Int), (k ≤ n.toNat ∧ xk = n - 1 - (k : Int)) ∧ Kn [] 20 [(6, .int .i64 xk), (5, .slice ak nk ck), (4, .slice none 0 0), (0, .int .i64 kd)] a ∧ Sat no W [row 36 3 (.slice ak nk ck) nk (el ec (upE 0 (k : Int) (fun i => [(kd, n - 1 - i, 0)])))] [] w) (fun k => n.toNat - k) 0 ?_ ?_
  · exact ⟨_, _, _, _, ⟨by omega, by omega⟩, hk.k rfl (hk.k rfl (hk.k rfl (hk.k rfl hk.nil))), hs⟩
  rintro k a w ⟨ak, nk, ck, xk, hf0, hk, hs⟩
  have hck := row_cnt (hs.mi 0 rfl)
  have hl := upE_len (fr := 0) (to := (k : Int)) (F := (fun i => [(kd, n - 1 - i, 0)])) (B := 1) (fun _ => by simp)
  refine wpIn_seq ?_
  refine wpIn_seq ?_
  refine wpIn_region_lit ?_
  refine q_val hk (w_mv rfl) rfl rfl rfl fun a hk => ?_
  rcases Classical.em (0 ≤ xk) with hc1 | hc1
  · skip
    refine q_val hk (w_ge rfl rfl (decide_eq_true hc1)) rfl rfl rfl fun a hk => ?_
    refine (c_end (x_t ?_))
    refine c_T hk rfl ?_
    refine (wpIn_skip (x_t ?_))
    refine wpIn_seq ?_
    refine wpIn_block ?_
    refine wpIn_region_lit ?_
    refine q_val hk (w_mv rfl) rfl rfl rfl fun a hk => ?_
    refine q_val hk (w_mv rfl) rfl rfl rfl fun a hk => ?_
    refine q_val hk (w_mv rfl) rfl rfl rfl fun a hk => ?_
    refine q_val hk (w_bld rfl fl36 zr36 rfl rfl) rfl rfl rfl fun a hk => ?_
    refine q_bsl (els := [.tmp 16]) (cs := [.int .i64 kd, .int .i64 xk, .int .i64 0]) hk hs rfl Tryd.underlying26 ty36 zr36 rfl rfl rfl rfl rfl rfl rfl fun b2 w a hk hs => ?_
    have hs := hs.up1
    refine q_app (news := [.int .i64 kd, .int .i64 xk, .int .i64 0]) (m := 1) hk hs rfl rfl Tryd.underlying26 ty36 zr36 rfl rfl (.blk (n := 3) (hs.mi 1 rfl) rfl) rfl rfl (by omega) (by omega) rfl rfl fun a3 c4 w a hk hs => ?_
    have hs := hs.up1
    have hs := hs.drop
    have hs := hs.rw0 (congrArg _ (el_snoc (c := ec) (l := (upE 0 (k : Int) (fun i => [(kd, n - 1 - i, 0)]))) (x := (kd, xk, 0))))
    refine q_val hk (w_as rfl) rfl rfl rfl fun a hk => ?_
    refine (c_end (x_b (x_t ?_)))
    refine wpIn_region_lit ?_
    refine q_val hk (w_mv rfl) rfl rfl rfl fun a hk => ?_
    refine q_val hk (w_sub rfl rfl (wr64 (by omega) (by omega))) rfl rfl rfl fun a hk => ?_
    refine q_val hk (w_as rfl) rfl rfl rfl fun a hk => ?_
    refine (c_end (x_t ?_))
    have hs := hs.rw0 (congrArg (fun q => row 36 3 (.slice a3 (nk + 1) c4) (nk + 1) (el ec q)) (show (((upE 0 (k : Int) (fun i => [(kd, n - 1 - i, 0)])) ++ [(kd, xk, 0)]) : List _) = (upE 0 ((k + 1 : Nat) : Int) (fun i => [(kd, n - 1 - i, 0)])) from by rw [hf0.2]; exact upE_succ (F := (fun i => [(kd, n - 1 - i, 0)])) (by omega)))
    exact ⟨k + 1, ⟨_, _, _, _, ⟨by omega, by omega⟩, hk.k rfl (hk.k rfl (hk.k rfl (hk.k rfl hk.nil))), hs⟩, by omega⟩
  · skip
    refine q_val hk (w_ge rfl rfl (decide_eq_false hc1)) rfl rfl rfl fun a hk => ?_
    refine (c_end (x_t ?_))
    refine c_F hk rfl ?_
    refine (wpIn_exit (x_te (x_te (x_be ?_))))
    refine (x_t ?_)
    refine wpIn_seq ?_
    refine wpIn_region_lit ?_
    refine q_val hk (w_mv rfl) rfl rfl rfl fun a hk => ?_
    refine q_val hk (w_as rfl) rfl rfl rfl fun a hk => ?_
    refine (c_end (x_t ?_))
    refine (wpIn_ret ?_)
    refine c_ret1 hk rfl rfl ?_
    have hs := hs.rw0 (congrArg (fun q => row 36 3 (.slice ak nk ck) nk (el ec q)) (show ((upE 0 (k : Int) (fun i => [(kd, n - 1 - i, 0)])) : List _) = (downE n fun i => [(kd, i, 0)]) from upE_to (by omega)))
    exact ⟨_, _, _, rfl, hs.fin⟩
theorem refDown2_e (n : Int) (W : World) (hn : n ≤ 255) (hn0 : -1000 ≤ n) : Calls Tryd.prog 79 #[.int .i64 2, .int .i64 n] W fun e w => ∃ la nn lc, e = .returned (.slice la nn lc) ∧ Sat no W [row 36 3 (.slice la nn lc) nn (el ec (downE n coefE))] [] w := refDown_e 2 n W hn hn0
theorem refPairs_false (n : Int) (W : World) (hn : n ≤ 255) : Calls Tryd.prog 108 [.int .i64 n, .int .i64 n, .bool true].toArray W fun e w => ∃ la nn lc, e = .returned (.slice la nn lc) ∧ Sat no W [row 36 3 (.slice la nn lc) nn (el ec (pairsE n false))] [] w := by
  refine c_enter (args := [.int .i64 n, .int .i64 n, .bool true]) Tryd.func108 rfl rfl rfl fun a hk => ?_
  have hs := Sat.start W [] (fun _ h => by cases h)
  refine wpIn_seq ?_
  refine wpIn_region_lit ?_
  refine q_val hk (w_as rfl) rfl rfl rfl fun a hk => ?_
  refine (c_end (x_t ?_))
  refine wpIn_seq ?_
  refine wpIn_region_lit ?_
  refine q_val hk (w_as rfl) rfl rfl rfl fun a hk => ?_
  refine (c_end (x_t ?_))
  refine wpIn_seq ?_
  refine wpIn_seq ?_
  refine wpIn_region_lit ?_
  refine q_val hk (w_as rfl) rfl rfl rfl fun a hk => ?_
  refine (c_end (x_t ?_))
  refine wpIn_block ?_
  have hs := hs.row0 36 3
  have hs := hs.rw0 (congrArg (fun q => row 36 3 (.slice none 0 0) 0 (el ec q)) (show ([] : List _) = (upE 0 (0 : Int) (fun i => upE 0 n fun k => pairE false i k)) from (upE_nil (by omega)).symm))
  refine c_loop (α := Nat) (fun i a w => ∃ (ai : Option Addr) (ni : Nat) (ci : Nat) (xi : Int), (i ≤ n.toNat ∧ xi = (i : Int)) ∧ Kn [] 34 [(8, .int .i64 xi), (7, .slice ai ni ci), (6, .slice none 0 0), (0, .int .i64 n), (1, .int .i64 n), (2, .bool true)] a ∧ Sat no W [row 36 3 (.slice ai ni ci) ni (el ec (upE 0 (i : Int) (fun i => upE 0 n fun k => pairE false i k)))] [] w) (fun i => n.toNat - i) 0 ?_ ?_
  · exact ⟨_, _, _, _, ⟨by omega, by omega⟩, hk.k rfl (hk.k rfl (hk.k rfl (hk.k rfl (hk.k rfl (hk.k rfl hk.nil))))), hs⟩
  rintro i a w ⟨ai, ni, ci, xi, hf0, hk, hs⟩
  have hci := row_cnt (hs.mi 0 rfl)
  have hl := upE_len (fr := 0) (to := (i : Int)) (F := (fun i => upE 0 n fun k => pairE false i k)) (B := 255) (fun i => by have := up255 (fr := 0) (to := n) (fun k => pairE_len false i k) (by omega) hn; omega)
  have hfo := hf0
  refine wpIn_seq ?_
  refine wpIn_seq ?_
  refine wpIn_region_lit ?_
  refine q_val hk (w_mv rfl) rfl rfl rfl fun a hk => ?_
  refine q_val hk (w_mv rfl) rfl rfl rfl fun a hk => ?_
  rcases Classical.em (xi < n) with hc1 | hc1
  · skip
    refine q_val hk (w_lt rfl rfl (decide_eq_true hc1)) rfl rfl rfl fun a hk => ?_
    refine (c_end (x_t ?_))
    refine c_T hk rfl ?_
    refine (wpIn_skip (x_t ?_))
    refine wpIn_seq ?_
    refine wpIn_block ?_
    refine wpIn_seq ?_
    refine wpIn_region_lit ?_
    refine q_val hk (w_as rfl) rfl rfl rfl fun a hk => ?_
    refine (c_end (x_t ?_))
    refine wpIn_block ?_
    have hs := hs.rw0 (congrArg (fun q => row 36 3 (.slice ai ni ci) ni (el ec q)) (show ((upE 0 (i : Int) (fun i => upE 0 n fun k => pairE false i k)) : List _) = ((upE 0 (i : Int) (fun i => upE 0 n fun k => pairE false i k)) ++ upE 0 (0 : Int) (fun k => pairE false (i : Int) k)) from by rw [upE_nil (fr := 0) (a := 0) (F := fun k => pairE false (i : Int) k) (by omega), List.append_nil]))
    refine c_loop (α := Nat) (fun k a w => ∃ (ak : Option Addr) (nk : Nat) (ck : Nat) (xk : Int), (k ≤ n.toNat ∧ xk = (k : Int)) ∧ Kn [] 34 [(9, .int .i64 xk), (7, .slice ak nk ck), (12, .bool true), (11, .int .i64 n), (10, .int .i64 xi), (8, .int .i64 xi), (6, .slice none 0 0), (0, .int .i64 n), (1, .int .i64 n), (2, .bool true)] a ∧ Sat no W [row 36 3 (.slice ak nk ck) nk (el ec ((upE 0 (i : Int) (fun i => upE 0 n fun k => pairE false i k)) ++ upE 0 (k : Int) (fun k => pairE false (i : Int) k)))] [] w) (fun k => n.toNat - k) 0 ?_ ?_
    · exact ⟨_, _, _, _, ⟨by omega, by omega⟩, hk.k rfl (hk.k rfl (hk.k rfl (hk.k rfl (hk.k rfl (hk.k rfl (hk.k rfl (hk.k rfl (hk.k rfl (hk.k rfl hk.nil))))))))), hs⟩
    rintro k a w ⟨ak, nk, ck, xk, hf0, hk, hs⟩
    have hck := row_cnt (hs.mi 0 rfl)
    have hl2 := upE_len (fr := 0) (to := (k : Int)) (F := fun k => pairE false (i : Int) k) (B := 1) (fun k => pairE_len false (i : Int) k)
    rw [List.length_append] at hck
    have hf1 := hf0
    have hf0 := hfo
    refine wpIn_seq ?_
    refine wpIn_seq ?_
    refine wpIn_region_lit ?_
    refine q_val hk (w_mv rfl) rfl rfl rfl fun a hk => ?_
    refine q_val hk (w_mv rfl) rfl rfl rfl fun a hk => ?_
    rcases Classical.em (xk < n) with hc2 | hc2
    · skip
      refine q_val hk (w_lt rfl rfl (decide_eq_true hc2)) rfl rfl rfl fun a hk => ?_
      refine (c_end (x_t ?_))
      refine c_T hk rfl ?_
      refine (wpIn_skip (x_t ?_))
      refine wpIn_seq ?_
      refine wpIn_block ?_
      refine wpIn_seq ?_
      refine wpIn_region_lit ?_
      refine q_val hk (w_mv rfl) rfl rfl rfl fun a hk => ?_
      refine q_val hk (w_not rfl) rfl rfl rfl fun a hk => ?_
      refine q_val hk (w_mv rfl) rfl rfl rfl fun a hk => ?_
      refine q_val hk (w_mv rfl) rfl rfl rfl fun a hk => ?_
      refine q_val hk (w_mv rfl) rfl rfl rfl fun a hk => ?_
      rcases Classical.em (xi ≠ xk) with hc3 | hc3
      · skip
        refine q_val hk (w_ne rfl rfl (decide_eq_true hc3)) rfl rfl rfl fun a hk => ?_
        refine q_val hk (w_pickF rfl rfl) rfl rfl rfl fun a hk => ?_
        refine (c_end (x_t ?_))
        refine c_T hk rfl ?_
        refine wpIn_region_lit ?_
        refine q_val hk (w_mv rfl) rfl rfl rfl fun a hk => ?_
        refine q_val hk (w_mv rfl) rfl rfl rfl fun a hk => ?_
        refine q_val hk (w_mv rfl) rfl rfl rfl fun a hk => ?_
        refine q_val hk (w_bld rfl fl36 zr36 rfl rfl) rfl rfl rfl fun a hk => ?_
        refine q_bsl (els := [.tmp 30]) (cs := [.int .i64 3, .int .i64 xi, .int .i64 xk]) hk hs rfl Tryd.underlying26 ty36 zr36 rfl rfl rfl rfl rfl rfl rfl fun b4 w a hk hs => ?_
        have hs := hs.up1
        refine q_app (news := [.int .i64 3, .int .i64 xi, .int .i64 xk]) (m := 1) hk hs rfl rfl Tryd.underlying26 ty36 zr36 rfl rfl (.blk (n := 3) (hs.mi 1 rfl) rfl) rfl rfl (by omega) (by omega) rfl rfl fun a5 c6 w a hk hs => ?_
        have hs := hs.up1
        have hs := hs.drop
        have hs := hs.rw0 (congrArg _ (el_snoc (c := ec) (l := ((upE 0 (i : Int) (fun i => upE 0 n fun k => pairE false i k)) ++ upE 0 (k : Int) (fun k => pairE false (i : Int) k))) (x := (3, xi, xk))))
        refine q_val hk (w_as rfl) rfl rfl rfl fun a hk => ?_
        refine (c_end (x_b (x_t ?_)))
        refine wpIn_region_lit ?_
        refine q_val hk (w_mv rfl) rfl rfl rfl fun a hk => ?_
        refine q_val hk (w_add rfl rfl (wr64 (by omega) (by omega))) rfl rfl rfl fun a hk => ?_
        refine q_val hk (w_as rfl) rfl rfl rfl fun a hk => ?_
        refine (c_end (x_t ?_))
        have hs := hs.rw0 (congrArg (fun q => row 36 3 (.slice a5 (nk + 1) c6) (nk + 1) (el ec q)) (show ((((upE 0 (i : Int) (fun i => upE 0 n fun k => pairE false i k)) ++ upE 0 (k : Int) (fun k => pairE false (i : Int) k)) ++ [(3, xi, xk)]) : List _) = ((upE 0 (i : Int) (fun i => upE 0 n fun k => pairE false i k)) ++ upE 0 ((k + 1 : Nat) : Int) (fun k => pairE false (i : Int) k)) from by rw [show (((k + 1 : Nat) : Int)) = (k : Int) + 1 from rfl, ← upE_succ (F := fun k => pairE false (i : Int) k) (x := (k : Int)) (by omega), ← List.append_assoc]; first | (rw [hf0.2, hf1.2, pairE_ne (by omega)]; done) | (rw [pairE_no (by omega), List.append_nil]; done)))
        exact ⟨k + 1, ⟨_, _, _, _, ⟨by omega, by omega⟩, hk.k rfl (hk.k rfl (hk.k rfl (hk.k rfl (hk.k rfl (hk.k rfl (hk.k rfl (hk.k rfl (hk.k rfl (hk.k rfl hk.nil))))))))), hs⟩, by omega⟩
      · skip
        refine q_val hk (w_ne rfl rfl (decide_eq_false hc3)) rfl rfl rfl fun a hk => ?_
        refine q_val hk (w_pickF rfl rfl) rfl rfl rfl fun a hk => ?_
        refine (c_end (x_t ?_))
        refine c_F hk rfl ?_
        refine (wpIn_skip (x_b (x_t ?_)))
        refine wpIn_region_lit ?_
        refine q_val hk (w_mv rfl) rfl rfl rfl fun a hk => ?_
        refine q_val hk (w_add rfl rfl (wr64 (by omega) (by omega))) rfl rfl rfl fun a hk => ?_
        refine q_val hk (w_as rfl) rfl rfl rfl fun a hk => ?_
        refine (c_end (x_t ?_))
        have hs := hs.rw0 (congrArg (fun q => row 36 3 (.slice ak nk ck) nk (el ec q)) (show (((upE 0 (i : Int) (fun i => upE 0 n fun k => pairE false i k)) ++ upE 0 (k : Int) (fun k => pairE false (i : Int) k)) : List _) = ((upE 0 (i : Int) (fun i => upE 0 n fun k => pairE false i k)) ++ upE 0 ((k + 1 : Nat) : Int) (fun k => pairE false (i : Int) k)) from by rw [show (((k + 1 : Nat) : Int)) = (k : Int) + 1 from rfl, ← upE_succ (F := fun k => pairE false (i : Int) k) (x := (k : Int)) (by omega), ← List.append_assoc]; first | (rw [hf0.2, hf1.2, pairE_ne (by omega)]; done) | (rw [pairE_no (by omega), List.append_nil]; done)))
        exact ⟨k + 1, ⟨_, _, _, _, ⟨by omega, by omega⟩, hk.k rfl (hk.k rfl (hk.k rfl (hk.k rfl (hk.k rfl (hk.k rfl (hk.k rfl (hk.k rfl (hk.k rfl (hk.k rfl hk.nil))))))))), hs⟩, by omega⟩
    · skip
      refine q_val hk (w_lt rfl rfl (decide_eq_false hc2)) rfl rfl rfl fun a hk => ?_
      refine (c_end (x_t ?_))
      refine c_F hk rfl ?_
      refine (wpIn_exit (x_te (x_te (x_be ?_))))
      refine (x_b (x_t ?_))
      refine wpIn_region_lit ?_
      refine q_val hk (w_mv rfl) rfl rfl rfl fun a hk => ?_
      refine q_val hk (w_add rfl rfl (wr64 (by omega) (by omega))) rfl rfl rfl fun a hk => ?_
      refine q_val hk (w_as rfl) rfl rfl rfl fun a hk => ?_
      refine (c_end (x_t ?_))
      have hs := hs.rw0 (congrArg (fun q => row 36 3 (.slice ak nk ck) nk (el ec q)) (show (((upE 0 (i : Int) (fun i => upE 0 n fun k => pairE false i k)) ++ upE 0 (k : Int) (fun k => pairE false (i : Int) k)) : List _) = (upE 0 ((i + 1 : Nat) : Int) (fun i => upE 0 n fun k => pairE false i k)) from by rw [upE_to (fr := 0) (a := (k : Int)) (b := n) (by omega)]; exact upE_succ (F := (fun i => upE 0 n fun k => pairE false i k)) (x := (i : Int)) (by omega)))
      exact ⟨i + 1, ⟨_, _, _, _, ⟨by omega, by omega⟩, hk.k rfl (hk.k rfl (hk.k rfl (hk.k rfl (hk.k rfl (hk.k rfl hk.nil))))), hs⟩, by omega⟩
  · skip
    refine q_val hk (w_lt rfl rfl (decide_eq_false hc1)) rfl rfl rfl fun a hk => ?_
    refine (c_end (x_t ?_))
    refine c_F hk rfl ?_
    refine (wpIn_exit (x_te (x_te (x_be ?_))))
    refine (x_t ?_)
    refine wpIn_seq ?_
    refine wpIn_region_lit ?_
    refine q_val hk (w_mv rfl) rfl rfl rfl fun a hk => ?_
    refine q_val hk (w_as rfl) rfl rfl rfl fun a hk => ?_
    refine (c_end (x_t ?_))
    refine (wpIn_ret ?_)
    refine c_ret1 hk rfl rfl ?_
    have hs := hs.rw0 (congrArg (fun q => row 36 3 (.slice ai ni ci) ni (el ec q)) (show ((upE 0 (i : Int) (fun i => upE 0 n fun k => pairE false i k)) : List _) = (pairsE n false) from upE_to (by omega)))
    exact ⟨_, _, _, rfl, hs.fin⟩
theorem refPairs_true (n : Int) (W : World) (hn : n ≤ 255) : Calls Tryd.prog 108 [.int .i64 n, .int .i64 n, .bool false].toArray W fun e w => ∃ la nn lc, e = .returned (.slice la nn lc) ∧ Sat no W [row 36 3 (.slice la nn lc) nn (el ec (pairsE n true))] [] w := by
  refine c_enter (args := [.int .i64 n, .int .i64 n, .bool false]) Tryd.func108 rfl rfl rfl fun a hk => ?_
  have hs := Sat.start W [] (fun _ h => by cases h)
  refine wpIn_seq ?_
  refine wpIn_region_lit ?_
  refine q_val hk (w_as rfl) rfl rfl rfl fun a hk => ?_
  refine (c_end (x_t ?_))
  refine wpIn_seq ?_
  refine wpIn_region_lit ?_
  refine q_val hk (w_as rfl) rfl rfl rfl fun a hk => ?_
  refine (c_end (x_t ?_))
  refine wpIn_seq ?_
  refine wpIn_seq ?_
  refine wpIn_region_lit ?_
  refine q_val hk (w_as rfl) rfl rfl rfl fun a hk => ?_
  refine (c_end (x_t ?_))
  refine wpIn_block ?_
  have hs := hs.row0 36 3
  have hs := hs.rw0 (congrArg (fun q => row 36 3 (.slice none 0 0) 0 (el ec q)) (show ([] : List _) = (upE 0 (0 : Int) (fun i => upE 0 n fun k => pairE true i k)) from (upE_nil (by omega)).symm))
  refine c_loop (α := Nat) (fun i a w => ∃ (ai : Option Addr) (ni : Nat) (ci : Nat) (xi : Int), (i ≤ n.toNat ∧ xi = (i : Int)) ∧ Kn [] 34 [(8, .int .i64 xi), (7, .slice ai ni ci), (6, .slice none 0 0), (0, .int .i64 n), (1, .int .i64 n), (2, .bool false)] a ∧ Sat no W [row 36 3 (.slice ai ni ci) ni (el ec (upE 0 (i : Int) (fun i => upE 0 n fun k => pairE true i k)))] [] w) (fun i => n.toNat - i) 0 ?_ ?_
  · exact ⟨_, _, _, _, ⟨by omega, by omega⟩, hk.k rfl (hk.k rfl (hk.k rfl (hk.k rfl (hk.k rfl (hk.k rfl hk.nil))))), hs⟩
  rintro i a w ⟨ai, ni, ci, xi, hf0, hk, hs⟩
  have hci := row_cnt (hs.mi 0 rfl)
  have hl := upE_len (fr := 0) (to := (i : Int)) (F := (fun i => upE 0 n fun k => pairE true i k)) (B := 255) (fun i => by have := up255 (fr := 0) (to := n) (fun k => pairE_len true i k) (by omega) hn; omega)
  have hfo := hf0
  refine wpIn_seq ?_
  refine wpIn_seq ?_
  refine wpIn_region_lit ?_
  refine q_val hk (w_mv rfl) rfl rfl rfl fun a hk => ?_
  refine q_val hk (w_mv rfl) rfl rfl rfl fun a hk => ?_
  rcases Classical.em (xi < n) with hc1 | hc1
  · skip
    refine q_val hk (w_lt rfl rfl (decide_eq_true hc1)) rfl rfl rfl fun a hk => ?_
    refine (c_end (x_t ?_))
    refine c_T hk rfl ?_
    refine (wpIn_skip (x_t ?_))
    refine wpIn_seq ?_
    refine wpIn_block ?_
    refine wpIn_seq ?_
    refine wpIn_region_lit ?_
    refine q_val hk (w_as rfl) rfl rfl rfl fun a hk => ?_
    refine (c_end (x_t ?_))
    refine wpIn_block ?_
    have hs := hs.rw0 (congrArg (fun q => row 36 3 (.slice ai ni ci) ni (el ec q)) (show ((upE 0 (i : Int) (fun i => upE 0 n fun k => pairE true i k)) : List _) = ((upE 0 (i : Int) (fun i => upE 0 n fun k => pairE true i k)) ++ upE 0 (0 : Int) (fun k => pairE true (i : Int) k)) from by rw [upE_nil (fr := 0) (a := 0) (F := fun k => pairE true (i : Int) k) (by omega), List.append_nil]))
    refine c_loop (α := Nat) (fun k a w => ∃ (ak : Option Addr) (nk : Nat) (ck : Nat) (xk : Int), (k ≤ n.toNat ∧ xk = (k : Int)) ∧ Kn [] 34 [(9, .int .i64 xk), (7, .slice ak nk ck), (12, .bool true), (11, .int .i64 n), (10, .int .i64 xi), (8, .int .i64 xi), (6, .slice none 0 0), (0, .int .i64 n), (1, .int .i64 n), (2, .bool false)] a ∧ Sat no W [row 36 3 (.slice ak nk ck) nk (el ec ((upE 0 (i : Int) (fun i => upE 0 n fun k => pairE true i k)) ++ upE 0 (k : Int) (fun k => pairE true (i : Int) k)))] [] w) (fun k => n.toNat - k) 0 ?_ ?_
    · exact ⟨_, _, _, _, ⟨by omega, by omega⟩, hk.k rfl (hk.k rfl (hk.k rfl (hk.k rfl (hk.k rfl (hk.k rfl (hk.k rfl (hk.k rfl (hk.k rfl (hk.k rfl hk.nil))))))))), hs⟩
    rintro k a w ⟨ak, nk, ck, xk, hf0, hk, hs⟩
    have hck := row_cnt (hs.mi 0 rfl)
    have hl2 := upE_len (fr := 0) (to := (k : Int)) (F := fun k => pairE true (i : Int) k) (B := 1) (fun k => pairE_len true (i : Int) k)
    rw [List.length_append] at hck
    have hf1 := hf0
    have hf0 := hfo
    refine wpIn_seq ?_
    refine wpIn_seq ?_
    refine wpIn_region_lit ?_
    refine q_val hk (w_mv rfl) rfl rfl rfl fun a hk => ?_
    refine q_val hk (w_mv rfl) rfl rfl rfl fun a hk => ?_
    rcases Classical.em (xk < n) with hc2 | hc2
    · skip
      refine q_val hk (w_lt rfl rfl (decide_eq_true hc2)) rfl rfl rfl fun a hk => ?_
      refine (c_end (x_t ?_))
      refine c_T hk rfl ?_
      refine (wpIn_skip (x_t ?_))
      refine wpIn_seq ?_
      refine wpIn_block ?_
      refine wpIn_seq ?_
      refine wpIn_region_lit ?_
      refine q_val hk (w_mv rfl) rfl rfl rfl fun a hk => ?_
      refine q_val hk (w_not rfl) rfl rfl rfl fun a hk => ?_
      refine q_val hk (w_mv rfl) rfl rfl rfl fun a hk => ?_
      refine q_skip hk rfl rfl fun a hk => ?_
      refine q_skip hk rfl rfl fun a hk => ?_
      refine q_skip hk rfl rfl fun a hk => ?_
      refine q_val hk (w_pickT rfl rfl) rfl rfl rfl fun a hk => ?_
      refine (c_end (x_t ?_))
      refine c_T hk rfl ?_
      refine wpIn_region_lit ?_
      refine q_val hk (w_mv rfl) rfl rfl rfl fun a hk => ?_
      refine q_val hk (w_mv rfl) rfl rfl rfl fun a hk => ?_
      refine q_val hk (w_mv rfl) rfl rfl rfl fun a hk => ?_
      refine q_val hk (w_bld rfl fl36 zr36 rfl rfl) rfl rfl rfl fun a hk => ?_
      refine q_bsl (els := [.tmp 30]) (cs := [.int .i64 3, .int .i64 xi, .int .i64 xk]) hk hs rfl Tryd.underlying26 ty36 zr36 rfl rfl rfl rfl rfl rfl rfl fun b3 w a hk hs => ?_
      have hs := hs.up1
      refine q_app (news := [.int .i64 3, .int .i64 xi, .int .i64 xk]) (m := 1) hk hs rfl rfl Tryd.underlying26 ty36 zr36 rfl rfl (.blk (n := 3) (hs.mi 1 rfl) rfl) rfl rfl (by omega) (by omega) rfl rfl fun a4 c5 w a hk hs => ?_
      have hs := hs.up1
      have hs := hs.drop
      have hs := hs.rw0 (congrArg _ (el_snoc (c := ec) (l := ((upE 0 (i : Int) (fun i => upE 0 n fun k => pairE true i k)) ++ upE 0 (k : Int) (fun k => pairE true (i : Int) k))) (x := (3, xi, xk))))
      refine q_val hk (w_as rfl) rfl rfl rfl fun a hk => ?_
      refine (c_end (x_b (x_t ?_)))
      refine wpIn_region_lit ?_
      refine q_val hk (w_mv rfl) rfl rfl rfl fun a hk => ?_
      refine q_val hk (w_add rfl rfl (wr64 (by omega) (by omega))) rfl rfl rfl fun a hk => ?_
      refine q_val hk (w_as rfl) rfl rfl rfl fun a hk => ?_
      refine (c_end (x_t ?_))
      have hs := hs.rw0 (congrArg (fun q => row 36 3 (.slice a4 (nk + 1) c5) (nk + 1) (el ec q)) (show ((((upE 0 (i : Int) (fun i => upE 0 n fun k => pairE true i k)) ++ upE 0 (k : Int) (fun k => pairE true (i : Int) k)) ++ [(3, xi, xk)]) : List _) = ((upE 0 (i : Int) (fun i => upE 0 n fun k => pairE true i k)) ++ upE 0 ((k + 1 : Nat) : Int) (fun k => pairE true (i : Int) k)) from by rw [show (((k + 1 : Nat) : Int)) = (k : Int) + 1 from rfl, ← upE_succ (F := fun k => pairE true (i : Int) k) (x := (k : Int)) (by omega), ← List.append_assoc]; rw [hf0.2, hf1.2, pairE_t]))
      exact ⟨k + 1, ⟨_, _, _, _, ⟨by omega, by omega⟩, hk.k rfl (hk.k rfl (hk.k rfl (hk.k rfl (hk.k rfl (hk.k rfl (hk.k rfl (hk.k rfl (hk.k rfl (hk.k rfl hk.nil))))))))), hs⟩, by omega⟩
    · skip
      refine q_val hk (w_lt rfl rfl (decide_eq_false hc2)) rfl rfl rfl fun a hk => ?_
      refine (c_end (x_t ?_))
      refine c_F hk rfl ?_
      refine (wpIn_exit (x_te (x_te (x_be ?_))))
      refine (x_b (x_t ?_))
      refine wpIn_region_lit ?_
      refine q_val hk (w_mv rfl) rfl rfl rfl fun a hk => ?_
      refine q_val hk (w_add rfl rfl (wr64 (by omega) (by omega))) rfl rfl rfl fun a hk => ?_
      refine q_val hk (w_as rfl) rfl rfl rfl fun a hk => ?_
      refine (c_end (x_t ?_))
      have hs := hs.rw0 (congrArg (fun q => row 36 3 (.slice ak nk ck) nk (el ec q)) (show (((upE 0 (i : Int) (fun i => upE 0 n fun k => pairE true i k)) ++ upE 0 (k : Int) (fun k => pairE true (i : Int) k)) : List _) = (upE 0 ((i + 1 : Nat) : Int) (fun i => upE 0 n fun k => pairE true i k)) from by rw [upE_to (fr := 0) (a := (k : Int)) (b := n) (by omega)]; exact upE_succ (F := (fun i => upE 0 n fun k => pairE true i k)) (x := (i : Int)) (by omega)))
      exact ⟨i + 1, ⟨_, _, _, _, ⟨by omega, by omega⟩, hk.k rfl (hk.k rfl (hk.k rfl (hk.k rfl (hk.k rfl (hk.k rfl hk.nil))))), hs⟩, by omega⟩
  · skip
    refine q_val hk (w_lt rfl rfl (decide_eq_false hc1)) rfl rfl rfl fun a hk => ?_
    refine (c_end (x_t ?_))
    refine c_F hk rfl ?_
    refine (wpIn_exit (x_te (x_te (x_be ?_))))
    refine (x_t ?_)
    refine wpIn_seq ?_
    refine wpIn_region_lit ?_
    refine q_val hk (w_mv rfl) rfl rfl rfl fun a hk => ?_
    refine q_val hk (w_as rfl) rfl rfl rfl fun a hk => ?_
    refine (c_end (x_t ?_))
    refine (wpIn_ret ?_)
    refine c_ret1 hk rfl rfl ?_
    have hs := hs.rw0 (congrArg (fun q => row 36 3 (.slice ai ni ci) ni (el ec q)) (show ((upE 0 (i : Int) (fun i => upE 0 n fun k => pairE true i k)) : List _) = (pairsE n true) from upE_to (by omega)))
    exact ⟨_, _, _, rfl, hs.fin⟩
theorem refPow_e  (W : World)  : Calls Tryd.prog 125 [].toArray W fun e w => ∃ la nn lc, e = .returned (.slice la nn lc) ∧ Sat no W [row 36 3 (.slice la nn lc) nn (el ec (inverseE))] [] w := by
  refine c_enter (args := []) Tryd.func125 rfl rfl rfl fun a hk => ?_
  have hs := Sat.start W [] (fun _ h => by cases h)
  refine wpIn_seq ?_
  refine wpIn_region_lit ?_
  refine q_val hk (w_as rfl) rfl rfl rfl fun a hk => ?_
  refine (c_end (x_t ?_))
  refine wpIn_seq ?_
  refine wpIn_region_lit ?_
  refine q_val hk (w_as rfl) rfl rfl rfl fun a hk => ?_
  refine (c_end (x_t ?_))
  refine wpIn_seq ?_
  refine wpIn_seq ?_
  refine wpIn_region_lit ?_
  refine q_val hk (w_as rfl) rfl rfl rfl fun a hk => ?_
  refine (c_end (x_t ?_))
  refine wpIn_block ?_
  have hs := hs.row0 36 3
  have hs := hs.rw0 (congrArg (fun q => row 36 3 (.slice none 0 0) 0 (el ec q)) (show ([] : List _) = (upE 0 (0 : Int) (fun i => stepE (64 - 1 - i))) from by rw [upE_nil (fr := 0) (a := 0) (F := (fun i => stepE (64 - 1 - i))) (by omega)]))
  refine c_loop (α := Nat) (fun j a w => ∃ (aj : Option Addr) (nj : Nat) (cj : Nat) (xj : Int), (j ≤ 64 ∧ xj = 63 - (j : Int)) ∧ Kn [] 23 [(2, .int .i64 xj), (1, .slice aj nj cj), (0, .slice none 0 0)] a ∧ Sat no W [row 36 3 (.slice aj nj cj) nj (el ec (upE 0 (j : Int) (fun i => stepE (64 - 1 - i))))] [] w) (fun j => 64 - j) 0 ?_ ?_
  · exact ⟨_, _, _, _, ⟨by omega, by omega⟩, hk.k rfl (hk.k rfl (hk.k rfl hk.nil)), hs⟩
  rintro j a w ⟨aj, nj, cj, xj, hf0, hk, hs⟩
  have hcj := row_cnt (hs.mi 0 rfl)
  have hlj := upE_len (fr := 0) (to := (j : Int)) (F := (fun i => stepE (64 - 1 - i))) (B := 17) (fun _ => step_len _)
  have hfo := hf0
  refine wpIn_seq ?_
  refine wpIn_seq ?_
  refine wpIn_region_lit ?_
  refine q_val hk (w_mv rfl) rfl rfl rfl fun a hk => ?_
  rcases Classical.em (0 ≤ xj) with hc1 | hc1
  · skip
    refine q_val hk (w_ge rfl rfl (decide_eq_true hc1)) rfl rfl rfl fun a hk => ?_
    refine (c_end (x_t ?_))
    refine c_T hk rfl ?_
    refine (wpIn_skip (x_t ?_))
    refine wpIn_seq ?_
    refine wpIn_block ?_
    refine wpIn_seq ?_
    refine wpIn_region_lit ?_
    refine q_val hk (w_mv rfl) rfl rfl rfl fun a hk => ?_
    refine q_val hk (w_mv rfl) rfl rfl rfl fun a hk => ?_
    refine q_val hk (w_bld rfl fl36 zr36 rfl rfl) rfl rfl rfl fun a hk => ?_
    refine q_bsl (els := [.tmp 10]) (cs := [.int .i64 6, .int .i64 xj, .int .i64 0]) hk hs rfl Tryd.underlying26 ty36 zr36 rfl rfl rfl rfl rfl rfl rfl fun b2 w a hk hs => ?_
    have hs := hs.up1
    refine q_app (news := [.int .i64 6, .int .i64 xj, .int .i64 0]) (m := 1) hk hs rfl rfl Tryd.underlying26 ty36 zr36 rfl rfl (.blk (n := 3) (hs.mi 1 rfl) rfl) rfl rfl (by omega) (by omega) rfl rfl fun a3 c4 w a hk hs => ?_
    have hs := hs.up1
    have hs := hs.drop
    have hs := hs.rw0 (congrArg _ (el_snoc (c := ec) (l := (upE 0 (j : Int) (fun i => stepE (64 - 1 - i)))) (x := (6, xj, 0))))
    refine q_val hk (w_as rfl) rfl rfl rfl fun a hk => ?_
    refine (c_end (x_t ?_))
    refine wpIn_seq ?_
    refine wpIn_region_lit ?_
    refine q_val hk (w_as rfl) rfl rfl rfl fun a hk => ?_
    refine (c_end (x_t ?_))
    refine wpIn_block ?_
    have hs := hs.rw0 (congrArg (fun q => row 36 3 (.slice a3 (nj + 1) c4) (nj + 1) (el ec q)) (show (((upE 0 (j : Int) (fun i => stepE (64 - 1 - i))) ++ [(6, xj, 0)]) : List _) = ((upE 0 (j : Int) (fun i => stepE (64 - 1 - i)) ++ [(6, xj, 0)]) ++ upE 0 (0 : Int) (fun j => [(1, j, 0)])) from by rw [upE_nil (fr := 0) (a := 0) (F := (fun j => [(1, j, 0)])) (by omega), List.append_nil]))
    refine c_loop (α := Nat) (fun k a w => ∃ (ak : Option Addr) (nk : Nat) (ck : Nat) (xk : Int), (k ≤ 16 ∧ xk = (k : Int)) ∧ Kn [] 23 [(3, .int .i64 xk), (1, .slice ak nk ck), (12, .slice a3 (nj + 1) c4), (11, .slice (some ⟨b2, 0, none⟩) 1 1), (10, .agg #[.int .i64 6, .int .i64 xj, .int .i64 0]), (9, .int .i64 xj), (8, .slice aj nj cj), (5, .bool true), (4, .int .i64 xj), (2, .int .i64 xj), (0, .slice none 0 0)] a ∧ Sat no W [row 36 3 (.slice ak nk ck) nk (el ec ((upE 0 (j : Int) (fun i => stepE (64 - 1 - i)) ++ [(6, xj, 0)]) ++ upE 0 (k : Int) (fun j => [(1, j, 0)])))] [] w) (fun k => 16 - k) 0 ?_ ?_
    · exact ⟨_, _, _, _, ⟨by omega, by omega⟩, hk.k rfl (hk.k rfl (hk.k rfl (hk.k rfl (hk.k rfl (hk.k rfl (hk.k rfl (hk.k rfl (hk.k rfl (hk.k rfl (hk.k rfl hk.nil)))))))))), hs⟩
    rintro k a w ⟨ak, nk, ck, xk, hf0, hk, hs⟩
    have hck := row_cnt (hs.mi 0 rfl)
    have hlk := upE_len (fr := 0) (to := (k : Int)) (F := (fun j => [(1, j, 0)])) (B := 1) (fun _ => by simp)
    simp only [List.length_append, List.length_singleton] at hck
    refine wpIn_seq ?_
    refine wpIn_seq ?_
    refine wpIn_region_lit ?_
    refine q_val hk (w_mv rfl) rfl rfl rfl fun a hk => ?_
    rcases Classical.em (xk < 16) with hc5 | hc5
    · skip
      refine q_val hk (w_lt rfl rfl (decide_eq_true hc5)) rfl rfl rfl fun a hk => ?_
      refine (c_end (x_t ?_))
      refine c_T hk rfl ?_
      refine (wpIn_skip (x_t ?_))
      refine wpIn_seq ?_
      refine wpIn_block ?_
      refine wpIn_region_lit ?_
      refine q_val hk (w_mv rfl) rfl rfl rfl fun a hk => ?_
      refine q_val hk (w_mv rfl) rfl rfl rfl fun a hk => ?_
      refine q_val hk (w_bld rfl fl36 zr36 rfl rfl) rfl rfl rfl fun a hk => ?_
      refine q_bsl (els := [.tmp 19]) (cs := [.int .i64 1, .int .i64 xk, .int .i64 0]) hk hs rfl Tryd.underlying26 ty36 zr36 rfl rfl rfl rfl rfl rfl rfl fun b6 w a hk hs => ?_
      have hs := hs.up1
      refine q_app (news := [.int .i64 1, .int .i64 xk, .int .i64 0]) (m := 1) hk hs rfl rfl Tryd.underlying26 ty36 zr36 rfl rfl (.blk (n := 3) (hs.mi 1 rfl) rfl) rfl rfl (by omega) (by omega) rfl rfl fun a7 c8 w a hk hs => ?_
      have hs := hs.up1
      have hs := hs.drop
      have hs := hs.rw0 (congrArg _ (el_snoc (c := ec) (l := ((upE 0 (j : Int) (fun i => stepE (64 - 1 - i)) ++ [(6, xj, 0)]) ++ upE 0 (k : Int) (fun j => [(1, j, 0)]))) (x := (1, xk, 0))))
      refine q_val hk (w_as rfl) rfl rfl rfl fun a hk => ?_
      refine (c_end (x_b (x_t ?_)))
      refine wpIn_region_lit ?_
      refine q_val hk (w_mv rfl) rfl rfl rfl fun a hk => ?_
      refine q_val hk (w_add rfl rfl (wr64 (by omega) (by omega))) rfl rfl rfl fun a hk => ?_
      refine q_val hk (w_as rfl) rfl rfl rfl fun a hk => ?_
      refine (c_end (x_t ?_))
      have hs := hs.rw0 (congrArg (fun q => row 36 3 (.slice a7 (nk + 1) c8) (nk + 1) (el ec q)) (show ((((upE 0 (j : Int) (fun i => stepE (64 - 1 - i)) ++ [(6, xj, 0)]) ++ upE 0 (k : Int) (fun j => [(1, j, 0)])) ++ [(1, xk, 0)]) : List _) = ((upE 0 (j : Int) (fun i => stepE (64 - 1 - i)) ++ [(6, xj, 0)]) ++ upE 0 ((k + 1 : Nat) : Int) (fun j => [(1, j, 0)])) from by rw [show (((k + 1 : Nat) : Int)) = (k : Int) + 1 from rfl, ← upE_succ (F := (fun j => [(1, j, 0)])) (x := (k : Int)) (by omega), ← List.append_assoc, hf0.2]))
      exact ⟨k + 1, ⟨_, _, _, _, ⟨by omega, by omega⟩, hk.k rfl (hk.k rfl (hk.k rfl (hk.k rfl (hk.k rfl (hk.k rfl (hk.k rfl (hk.k rfl (hk.k rfl (hk.k rfl (hk.k rfl hk.nil)))))))))), hs⟩, by omega⟩
    · skip
      refine q_val hk (w_lt rfl rfl (decide_eq_false hc5)) rfl rfl rfl fun a hk => ?_
      refine (c_end (x_t ?_))
      refine c_F hk rfl ?_
      refine (wpIn_exit (x_te (x_te (x_be ?_))))
      refine (x_b (x_t ?_))
      refine wpIn_region_lit ?_
      refine q_val hk (w_mv rfl) rfl rfl rfl fun a hk => ?_
      refine q_val hk (w_sub rfl rfl (wr64 (by omega) (by omega))) rfl rfl rfl fun a hk => ?_
      refine q_val hk (w_as rfl) rfl rfl rfl fun a hk => ?_
      refine (c_end (x_t ?_))
      have hs := hs.rw0 (congrArg (fun q => row 36 3 (.slice ak nk ck) nk (el ec q)) (show (((upE 0 (j : Int) (fun i => stepE (64 - 1 - i)) ++ [(6, xj, 0)]) ++ upE 0 (k : Int) (fun j => [(1, j, 0)])) : List _) = (upE 0 ((j + 1 : Nat) : Int) (fun i => stepE (64 - 1 - i))) from by rw [show (((j + 1 : Nat) : Int)) = (j : Int) + 1 from rfl, ← upE_succ (F := (fun i => stepE (64 - 1 - i))) (x := (j : Int)) (by omega), upE_to (fr := 0) (a := (k : Int)) (b := 16) (by omega), hfo.2, List.append_assoc]; unfold stepE; rw [show (64 - 1 - (j : Int)) = 63 - (j : Int) by omega]))
      exact ⟨j + 1, ⟨_, _, _, _, ⟨by omega, by omega⟩, hk.k rfl (hk.k rfl (hk.k rfl hk.nil)), hs⟩, by omega⟩
  · skip
    refine q_val hk (w_ge rfl rfl (decide_eq_false hc1)) rfl rfl rfl fun a hk => ?_
    refine (c_end (x_t ?_))
    refine c_F hk rfl ?_
    refine (wpIn_exit (x_te (x_te (x_be ?_))))
    refine (x_t ?_)
    refine wpIn_seq ?_
    refine wpIn_region_lit ?_
    refine q_val hk (w_mv rfl) rfl rfl rfl fun a hk => ?_
    refine q_val hk (w_as rfl) rfl rfl rfl fun a hk => ?_
    refine (c_end (x_t ?_))
    refine (wpIn_ret ?_)
    refine c_ret1 hk rfl rfl ?_
    have hs := hs.rw0 (congrArg (fun q => row 36 3 (.slice aj nj cj) nj (el ec q)) (show ((upE 0 (j : Int) (fun i => stepE (64 - 1 - i))) : List _) = inverseE from by rw [upE_to (fr := 0) (a := (j : Int)) (b := 64) (by omega)]; rfl))
    exact ⟨_, _, _, rfl, hs.fin⟩
def batchE (n : Int) : List Ev := if n = 0 then [] else upE 0 n coefE ++ inverseE ++ downE n coefE
theorem refBatch_e (n : Int) (W : World) (hn : n ≤ 255) (hn0 : -1000 ≤ n) : Calls Tryd.prog 119 [.int .i64 n].toArray W fun e w => ∃ la nn lc, e = .returned (.slice la nn lc) ∧ Sat no W [row 36 3 (.slice la nn lc) nn (el ec (batchE n))] [] w := by
  refine c_enter (args := [.int .i64 n]) Tryd.func119 rfl rfl rfl fun a hk => ?_
  have hs := Sat.start W [] (fun _ h => by cases h)
  refine wpIn_seq ?_
  refine wpIn_region_lit ?_
  refine q_val hk (w_as rfl) rfl rfl rfl fun a hk => ?_
  refine (c_end (x_t ?_))
  refine wpIn_seq ?_
  refine wpIn_region_lit ?_
  refine q_val hk (w_as rfl) rfl rfl rfl fun a hk => ?_
  refine (c_end (x_t ?_))
  refine wpIn_seq ?_
  refine wpIn_seq ?_
  refine wpIn_region_lit ?_
  refine q_val hk (w_mv rfl) rfl rfl rfl fun a hk => ?_
  rcases Classical.em (n = 0) with hc1 | hc1
  · skip
    refine q_val hk (w_eq rfl rfl (decide_eq_true hc1)) rfl rfl rfl fun a hk => ?_
    refine (c_end (x_t ?_))
    refine c_T hk rfl ?_
    refine wpIn_seq ?_
    refine wpIn_region_lit ?_
    refine q_val hk (w_mv rfl) rfl rfl rfl fun a hk => ?_
    refine q_val hk (w_as rfl) rfl rfl rfl fun a hk => ?_
    refine (c_end (x_t ?_))
    refine (wpIn_ret (x_tr ?_))
    refine c_ret1 hk rfl rfl ?_
    have e : batchE n = [] := by unfold batchE; rw [if_pos hc1]
    rw [e]
    have hs := hs.row0 36 3
    exact ⟨_, _, _, rfl, hs.fin⟩
  · skip
    refine q_val hk (w_eq rfl rfl (decide_eq_false hc1)) rfl rfl rfl fun a hk => ?_
    refine (c_end (x_t ?_))
    refine c_F hk rfl ?_
    refine (wpIn_skip (x_t ?_))
    refine wpIn_seq ?_
    refine wpIn_seq ?_
    refine wpIn_region_lit ?_
    refine q_val hk (w_as rfl) rfl rfl rfl fun a hk => ?_
    refine (c_end (x_t ?_))
    refine wpIn_block ?_
    have hs := hs.row0 36 3
    have hs := hs.rw0 (congrArg (fun q => row 36 3 (.slice none 0 0) 0 (el ec q)) (show ([] : List _) = (upE 0 (0 : Int) coefE) from by rw [upE_nil (fr := 0) (a := 0) (F := coefE) (by omega)]))
    refine c_loop (α := Nat) (fun k a w => ∃ (ak : Option Addr) (nk : Nat) (ck : Nat) (xk : Int), (k ≤ n.toNat ∧ xk = (k : Int)) ∧ Kn [] 34 [(4, .int .i64 xk), (3, .slice ak nk ck), (2, .slice none 0 0), (0, .int .i64 n)] a ∧ Sat no W [row 36 3 (.slice ak nk ck) nk (el ec (upE 0 (k : Int) coefE))] [] w) (fun k => n.toNat - k) 0 ?_ ?_
    · exact ⟨_, _, _, _, ⟨by omega, by omega⟩, hk.k rfl (hk.k rfl (hk.k rfl (hk.k rfl hk.nil))), hs⟩
    rintro k a w ⟨ak, nk, ck, xk, hf0, hk, hs⟩
    have hck := row_cnt (hs.mi 0 rfl)
    have hlk := upE_len (fr := 0) (to := (k : Int)) (F := coefE) (B := 1) coef_len
    refine wpIn_seq ?_
    refine wpIn_seq ?_
    refine wpIn_region_lit ?_
    refine q_val hk (w_mv rfl) rfl rfl rfl fun a hk => ?_
    refine q_val hk (w_mv rfl) rfl rfl rfl fun a hk => ?_
    rcases Classical.em (xk < n) with hc2 | hc2
    · skip
      refine q_val hk (w_lt rfl rfl (decide_eq_true hc2)) rfl rfl rfl fun a hk => ?_
      refine (c_end (x_t ?_))
      refine c_T hk rfl ?_
      refine (wpIn_skip (x_t ?_))
      refine wpIn_seq ?_
      refine wpIn_block ?_
      refine wpIn_region_lit ?_
      refine q_val hk (w_mv rfl) rfl rfl rfl fun a hk => ?_
      refine q_val hk (w_mv rfl) rfl rfl rfl fun a hk => ?_
      refine q_val hk (w_bld rfl fl36 zr36 rfl rfl) rfl rfl rfl fun a hk => ?_
      refine q_bsl (els := [.tmp 16]) (cs := [.int .i64 2, .int .i64 xk, .int .i64 0]) hk hs rfl Tryd.underlying26 ty36 zr36 rfl rfl rfl rfl rfl rfl rfl fun b3 w a hk hs => ?_
      have hs := hs.up1
      refine q_app (news := [.int .i64 2, .int .i64 xk, .int .i64 0]) (m := 1) hk hs rfl rfl Tryd.underlying26 ty36 zr36 rfl rfl (.blk (n := 3) (hs.mi 1 rfl) rfl) rfl rfl (by omega) (by omega) rfl rfl fun a4 c5 w a hk hs => ?_
      have hs := hs.up1
      have hs := hs.drop
      have hs := hs.rw0 (congrArg _ (el_snoc (c := ec) (l := (upE 0 (k : Int) coefE)) (x := (2, xk, 0))))
      refine q_val hk (w_as rfl) rfl rfl rfl fun a hk => ?_
      refine (c_end (x_b (x_t ?_)))
      refine wpIn_region_lit ?_
      refine q_val hk (w_mv rfl) rfl rfl rfl fun a hk => ?_
      refine q_val hk (w_add rfl rfl (wr64 (by omega) (by omega))) rfl rfl rfl fun a hk => ?_
      refine q_val hk (w_as rfl) rfl rfl rfl fun a hk => ?_
      refine (c_end (x_t ?_))
      have hs := hs.rw0 (congrArg (fun q => row 36 3 (.slice a4 (nk + 1) c5) (nk + 1) (el ec q)) (show (((upE 0 (k : Int) coefE) ++ [(2, xk, 0)]) : List _) = (upE 0 ((k + 1 : Nat) : Int) coefE) from by rw [show (((k + 1 : Nat) : Int)) = (k : Int) + 1 from rfl, ← upE_succ (F := coefE) (x := (k : Int)) (by omega), hf0.2]; rfl))
      exact ⟨k + 1, ⟨_, _, _, _, ⟨by omega, by omega⟩, hk.k rfl (hk.k rfl (hk.k rfl (hk.k rfl hk.nil))), hs⟩, by omega⟩
    · skip
      refine q_val hk (w_lt rfl rfl (decide_eq_false hc2)) rfl rfl rfl fun a hk => ?_
      refine (c_end (x_t ?_))
      refine c_F hk rfl ?_
      refine (wpIn_exit (x_te (x_te (x_be ?_))))
      refine (x_t ?_)
      refine wpIn_seq ?_
      refine wpIn_region_lit ?_
      refine q_val hk (w_mv rfl) rfl rfl rfl fun a hk => ?_
      refine q_call (caps := []) hk rfl rfl Tryd.func125 fo125 rfl rfl (refPow_e _) ?_
      rintro _ w ⟨a6, k7, c8, rfl, hS⟩
      have hs := hs.call1 hS
      clear hS
      refine ⟨_, rfl, fun a hk => ?_⟩
      have hs := hs.up1
      refine q_appL (news := (el ec inverseE)) (mm := k7) hk hs rfl rfl Tryd.underlying26 ty36 zr36 rfl rfl (row_lst (hs.mi 1 rfl))  (el_ones ec_ones) (by have := inverse_len; have := row_cnt (hs.mi 1 rfl); omega) (by have := inverse_len; have := row_cnt (hs.mi 1 rfl); omega) rfl rfl fun a9 c10 w a hk hs => ?_
      have hs := hs.rw0 (congrArg _ (el_app (c := ec) (l := (upE 0 (k : Int) coefE)) (m := inverseE)))
      refine q_val hk (w_as rfl) rfl rfl rfl fun a hk => ?_
      refine (c_end (x_t ?_))
      refine wpIn_seq ?_
      refine wpIn_seq ?_
      refine wpIn_region_lit ?_
      refine q_val hk (w_mv rfl) rfl rfl rfl fun a hk => ?_
      refine q_val hk (w_sub rfl rfl (wr64 (by omega) (by omega))) rfl rfl rfl fun a hk => ?_
      refine q_val hk (w_as rfl) rfl rfl rfl fun a hk => ?_
      refine (c_end (x_t ?_))
      refine wpIn_block ?_
      have hs := hs.rw0 (congrArg (fun q => row 36 3 (.slice a9 (nk + k7) c10) (nk + k7) (el ec q)) (show (((upE 0 (k : Int) coefE) ++ inverseE) : List _) = ((upE 0 (k : Int) coefE ++ inverseE) ++ upE 0 (0 : Int) (fun i => coefE (n - 1 - i))) from by rw [upE_nil (fr := 0) (a := 0) (F := (fun i => coefE (n - 1 - i))) (by omega), List.append_nil]))
      refine c_loop (α := Nat) (fun j a w => ∃ (aj : Option Addr) (nj : Nat) (cj : Nat) (xj : Int), (j ≤ n.toNat ∧ xj = n - 1 - (j : Int)) ∧ Kn [] 34 [(5, .int .i64 xj), (3, .slice aj nj cj), (2, .slice none 0 0)] a ∧ Sat no W [row 36 3 (.slice aj nj cj) nj (el ec ((upE 0 (k : Int) coefE ++ inverseE) ++ upE 0 (j : Int) (fun i => coefE (n - 1 - i)))), row 36 3 (.slice a6 k7 c8) k7 (el ec inverseE)] [] w) (fun j => n.toNat - j) 0 ?_ ?_
      · exact ⟨_, _, _, _, ⟨by omega, by omega⟩, hk.k rfl (hk.k rfl (hk.k rfl hk.nil)), hs⟩
      rintro j a w ⟨aj, nj, cj, xj, hf0, hk, hs⟩
      have hcj := row_cnt (hs.mi 0 rfl)
      have hlj := upE_len (fr := 0) (to := (j : Int)) (F := (fun i => coefE (n - 1 - i))) (B := 1) (fun _ => coef_len _)
      simp only [List.length_append, List.length_singleton] at hcj
      have hli := inverse_len
      refine wpIn_seq ?_
      refine wpIn_seq ?_
      refine wpIn_region_lit ?_
      refine q_val hk (w_mv rfl) rfl rfl rfl fun a hk => ?_
      rcases Classical.em (0 ≤ xj) with hc11 | hc11
      · skip
        refine q_val hk (w_ge rfl rfl (decide_eq_true hc11)) rfl rfl rfl fun a hk => ?_
        refine (c_end (x_t ?_))
        refine c_T hk rfl ?_
        refine (wpIn_skip (x_t ?_))
        refine wpIn_seq ?_
        refine wpIn_block ?_
        refine wpIn_region_lit ?_
        refine q_val hk (w_mv rfl) rfl rfl rfl fun a hk => ?_
        refine q_val hk (w_mv rfl) rfl rfl rfl fun a hk => ?_
        refine q_val hk (w_bld rfl fl36 zr36 rfl rfl) rfl rfl rfl fun a hk => ?_
        refine q_bsl (els := [.tmp 30]) (cs := [.int .i64 2, .int .i64 xj, .int .i64 0]) hk hs rfl Tryd.underlying26 ty36 zr36 rfl rfl rfl rfl rfl rfl rfl fun b12 w a hk hs => ?_
        have hs := hs.up1
        refine q_app (news := [.int .i64 2, .int .i64 xj, .int .i64 0]) (m := 1) hk hs rfl rfl Tryd.underlying26 ty36 zr36 rfl rfl (.blk (n := 3) (hs.mi 1 rfl) rfl) rfl rfl (by omega) (by omega) rfl rfl fun a13 c14 w a hk hs => ?_
        have hs := hs.up1
        have hs := hs.drop
        have hs := hs.rw0 (congrArg _ (el_snoc (c := ec) (l := ((upE 0 (k : Int) coefE ++ inverseE) ++ upE 0 (j : Int) (fun i => coefE (n - 1 - i)))) (x := (2, xj, 0))))
        refine q_val hk (w_as rfl) rfl rfl rfl fun a hk => ?_
        refine (c_end (x_b (x_t ?_)))
        refine wpIn_region_lit ?_
        refine q_val hk (w_mv rfl) rfl rfl rfl fun a hk => ?_
        refine q_val hk (w_sub rfl rfl (wr64 (by omega) (by omega))) rfl rfl rfl fun a hk => ?_
        refine q_val hk (w_as rfl) rfl rfl rfl fun a hk => ?_
        refine (c_end (x_t ?_))
        have hs := hs.rw0 (congrArg (fun q => row 36 3 (.slice a13 (nj + 1) c14) (nj + 1) (el ec q)) (show ((((upE 0 (k : Int) coefE ++ inverseE) ++ upE 0 (j : Int) (fun i => coefE (n - 1 - i))) ++ [(2, xj, 0)]) : List _) = ((upE 0 (k : Int) coefE ++ inverseE) ++ upE 0 ((j + 1 : Nat) : Int) (fun i => coefE (n - 1 - i))) from by rw [show (((j + 1 : Nat) : Int)) = (j : Int) + 1 from rfl, ← upE_succ (F := (fun i => coefE (n - 1 - i))) (x := (j : Int)) (by omega), ← List.append_assoc, hf0.2]; rfl))
        exact ⟨j + 1, ⟨_, _, _, _, ⟨by omega, by omega⟩, hk.k rfl (hk.k rfl (hk.k rfl hk.nil)), hs⟩, by omega⟩
      · skip
        refine q_val hk (w_ge rfl rfl (decide_eq_false hc11)) rfl rfl rfl fun a hk => ?_
        refine (c_end (x_t ?_))
        refine c_F hk rfl ?_
        refine (wpIn_exit (x_te (x_te (x_be ?_))))
        refine (x_t ?_)
        refine wpIn_seq ?_
        refine wpIn_region_lit ?_
        refine q_val hk (w_mv rfl) rfl rfl rfl fun a hk => ?_
        refine q_val hk (w_as rfl) rfl rfl rfl fun a hk => ?_
        refine (c_end (x_t ?_))
        refine (wpIn_ret ?_)
        refine c_ret1 hk rfl rfl ?_
        have hs := hs.up1
        have hs := hs.drop
        have hs := hs.rw0 (congrArg (fun q => row 36 3 (.slice aj nj cj) nj (el ec q)) (show (((upE 0 (k : Int) coefE ++ inverseE) ++ upE 0 (j : Int) (fun i => coefE (n - 1 - i))) : List _) = (batchE n) from by unfold batchE; rw [if_neg hc1, upE_to (fr := 0) (a := (k : Int)) (b := n) (by omega), upE_to (fr := 0) (a := (j : Int)) (b := n) (by omega)]; rfl))
        exact ⟨_, _, _, rfl, hs.fin⟩
theorem batch_len {n : Int} (h : n ≤ 255) : (batchE n).length ≤ 2000 := by
  unfold batchE
  split
  · simp
  · have h2 := up255 (fr := 0) (to := n) coef_len (by omega) h
    have h3 := down_len (n := n) coef_len h
    have h4 := inverse_len
    simp only [List.length_append]
    omega
theorem refWeights_e (n : Int) (W : World) (hn : n ≤ 255) (hn0 : -1000 ≤ n) : Calls Tryd.prog 106 [.int .i64 n].toArray W fun e w => ∃ la nn lc, e = .returned (.slice la nn lc) ∧ Sat no W [row 36 3 (.slice la nn lc) nn (el ec (weightsE n))] [] w := by
  refine c_enter (args := [.int .i64 n]) Tryd.func106 rfl rfl rfl fun a hk => ?_
  have hs := Sat.start W [] (fun _ h => by cases h)
  refine wpIn_seq ?_
  refine wpIn_region_lit ?_
  refine q_val hk (w_as rfl) rfl rfl rfl fun a hk => ?_
  refine (c_end (x_t ?_))
  refine wpIn_seq ?_
  refine wpIn_region_lit ?_
  refine q_val hk (w_mv rfl) rfl rfl rfl fun a hk => ?_
  refine q_val hk (w_mv rfl) rfl rfl rfl fun a hk => ?_
  refine q_call (caps := []) hk rfl rfl Tryd.func108 fo108 rfl rfl (refPairs_false n _ (by omega)) ?_
  rintro _ w ⟨a1, k2, c3, rfl, hS⟩
  have hs := hs.call1 hS
  clear hS
  refine ⟨_, rfl, fun a hk => ?_⟩
  refine q_val hk (w_mv rfl) rfl rfl rfl fun a hk => ?_
  refine q_call (caps := []) hk rfl rfl Tryd.func119 fo119 rfl rfl (refBatch_e n _ (by omega) (by omega)) ?_
  rintro _ w ⟨a4, k5, c6, rfl, hS⟩
  have hs := hs.call1 hS
  clear hS
  refine ⟨_, rfl, fun a hk => ?_⟩
  have hs := hs.up1
  refine q_appL (news := (el ec (batchE n))) (mm := k5) hk hs rfl rfl Tryd.underlying26 ty36 zr36 rfl rfl (row_lst (hs.mi 1 rfl))  (el_ones ec_ones) (by have q0 := row_cnt (hs.mi 0 rfl); have q1 := row_cnt (hs.mi 1 rfl); (try simp only [List.length_append, List.length_singleton] at q0); (try simp only [List.length_append] at q1); have := pairs_len false hn; (try simp only [List.length_append] at this); have := batch_len hn; (try simp only [List.length_append] at this); omega) (by have q0 := row_cnt (hs.mi 0 rfl); have q1 := row_cnt (hs.mi 1 rfl); (try simp only [List.length_append, List.length_singleton] at q0); (try simp only [List.length_append] at q1); have := pairs_len false hn; (try simp only [List.length_append] at this); have := batch_len hn; (try simp only [List.length_append] at this); omega) rfl rfl fun a7 c8 w a hk hs => ?_
  have hs := hs.rw0 (congrArg _ (el_app (c := ec) (l := pairsE n false) (m := batchE n)))
  refine q_val hk (w_as rfl) rfl rfl rfl fun a hk => ?_
  refine (c_end (x_t ?_))
  refine (wpIn_ret ?_)
  refine c_ret1 hk rfl rfl ?_
  have hs := hs.up1
  have hs := hs.drop
  have hs := hs.rw0 (congrArg (fun q => row 36 3 (.slice a7 (k2 + k5) c8) (k2 + k5) (el ec q)) (show ((pairsE n false ++ (batchE n)) : List _) = (weightsE n) from weights_eq n))
  exact ⟨_, _, _, rfl, hs.fin⟩
theorem refZero_e (n : Int) (W : World) (hn : n ≤ 255) (hn0 : -1000 ≤ n) : Calls Tryd.prog 80 [.int .i64 n].toArray W fun e w => ∃ la nn lc, e = .returned (.slice la nn lc) ∧ Sat no W [row 36 3 (.slice la nn lc) nn (el ec (weightsE n ++ upE 0 n coefE))] [] w := by
  refine c_enter (args := [.int .i64 n]) Tryd.func80 rfl rfl rfl fun a hk => ?_
  have hs := Sat.start W [] (fun _ h => by cases h)
  refine wpIn_seq ?_
  refine wpIn_region_lit ?_
  refine q_val hk (w_as rfl) rfl rfl rfl fun a hk => ?_
  refine (c_end (x_t ?_))
  refine wpIn_seq ?_
  refine wpIn_region_lit ?_
  refine q_val hk (w_mv rfl) rfl rfl rfl fun a hk => ?_
  refine q_call (caps := []) hk rfl rfl Tryd.func106 fo106 rfl rfl (refWeights_e n _ (by omega) (by omega)) ?_
  rintro _ w ⟨a1, k2, c3, rfl, hS⟩
  have hs := hs.call1 hS
  clear hS
  refine ⟨_, rfl, fun a hk => ?_⟩
  refine q_val hk (w_mv rfl) rfl rfl rfl fun a hk => ?_
  refine q_call (caps := []) hk rfl rfl Tryd.func81 fo81 rfl rfl (refUp2_e n _ (by omega)) ?_
  rintro _ w ⟨a4, k5, c6, rfl, hS⟩
  have hs := hs.call1 hS
  clear hS
  refine ⟨_, rfl, fun a hk => ?_⟩
  have hs := hs.up1
  refine q_appL (news := (el ec (upE 0 n coefE))) (mm := k5) hk hs rfl rfl Tryd.underlying26 ty36 zr36 rfl rfl (row_lst (hs.mi 1 rfl))  (el_ones ec_ones) (by have q0 := row_cnt (hs.mi 0 rfl); have q1 := row_cnt (hs.mi 1 rfl); (try simp only [List.length_append, List.length_singleton] at q0); (try simp only [List.length_append] at q1); have := weights_len hn; (try simp only [List.length_append] at this); have := up255 (fr := 0) (to := n) coef_len (by omega) hn; (try simp only [List.length_append] at this); omega) (by have q0 := row_cnt (hs.mi 0 rfl); have q1 := row_cnt (hs.mi 1 rfl); (try simp only [List.length_append, List.length_singleton] at q0); (try simp only [List.length_append] at q1); have := weights_len hn; (try simp only [List.length_append] at this); have := up255 (fr := 0) (to := n) coef_len (by omega) hn; (try simp only [List.length_append] at this); omega) rfl rfl fun a7 c8 w a hk hs => ?_
  have hs := hs.rw0 (congrArg _ (el_app (c := ec) (l := weightsE n) (m := upE 0 n coefE)))
  refine q_val hk (w_as rfl) rfl rfl rfl fun a hk => ?_
  refine (c_end (x_t ?_))
  refine (wpIn_ret ?_)
  refine c_ret1 hk rfl rfl ?_
  have hs := hs.up1
  have hs := hs.drop
  exact ⟨_, _, _, rfl, hs.fin⟩
theorem refInterp_e (n : Int) (W : World) (hn : n ≤ 255) (hn0 : -1000 ≤ n) : Calls Tryd.prog 83 [.int .i64 n].toArray W fun e w => ∃ la nn lc, e = .returned (.slice la nn lc) ∧ Sat no W [row 36 3 (.slice la nn lc) nn (el ec (interpE n))] [] w := by
  refine c_enter (args := [.int .i64 n]) Tryd.func83 rfl rfl rfl fun a hk => ?_
  have hs := Sat.start W [] (fun _ h => by cases h)
  refine wpIn_seq ?_
  refine wpIn_region_lit ?_
  refine q_val hk (w_as rfl) rfl rfl rfl fun a hk => ?_
  refine (c_end (x_t ?_))
  refine wpIn_seq ?_
  refine wpIn_region_lit ?_
  refine q_val hk (w_mv rfl) rfl rfl rfl fun a hk => ?_
  refine q_call (caps := []) hk rfl rfl Tryd.func106 fo106 rfl rfl (refWeights_e n _ (by omega) (by omega)) ?_
  rintro _ w ⟨a1, k2, c3, rfl, hS⟩
  have hs := hs.call1 hS
  clear hS
  refine ⟨_, rfl, fun a hk => ?_⟩
  refine q_val hk (w_mv rfl) rfl rfl rfl fun a hk => ?_
  refine q_val hk (w_mv rfl) rfl rfl rfl fun a hk => ?_
  refine q_call (caps := []) hk rfl rfl Tryd.func108 fo108 rfl rfl (refPairs_true n _ (by omega)) ?_
  rintro _ w ⟨a4, k5, c6, rfl, hS⟩
  have hs := hs.call1 hS
  clear hS
  refine ⟨_, rfl, fun a hk => ?_⟩
  have hs := hs.up1
  refine q_appL (news := (el ec (pairsE n true))) (mm := k5) hk hs rfl rfl Tryd.underlying26 ty36 zr36 rfl rfl (row_lst (hs.mi 1 rfl))  (el_ones ec_ones) (by have q0 := row_cnt (hs.mi 0 rfl); have q1 := row_cnt (hs.mi 1 rfl); (try simp only [List.length_append, List.length_singleton] at q0); (try simp only [List.length_append] at q1); have := weights_len hn; (try simp only [List.length_append] at this); have := pairs_len true hn; (try simp only [List.length_append] at this); omega) (by have q0 := row_cnt (hs.mi 0 rfl); have q1 := row_cnt (hs.mi 1 rfl); (try simp only [List.length_append, List.length_singleton] at q0); (try simp only [List.length_append] at q1); have := weights_len hn; (try simp only [List.length_append] at this); have := pairs_len true hn; (try simp only [List.length_append] at this); omega) rfl rfl fun a7 c8 w a hk hs => ?_
  have hs := hs.rw0 (congrArg _ (el_app (c := ec) (l := weightsE n) (m := pairsE n true)))
  refine q_val hk (w_as rfl) rfl rfl rfl fun a hk => ?_
  refine (c_end (x_t ?_))
  refine (wpIn_ret ?_)
  refine c_ret1 hk rfl rfl ?_
  have hs := hs.up1
  have hs := hs.drop
  have hs := hs.rw0 (congrArg (fun q => row 36 3 (.slice a7 (k2 + k5) c8) (k2 + k5) (el ec q)) (show ((weightsE n ++ (pairsE n true)) : List _) = (interpE n) from rfl))
  exact ⟨_, _, _, rfl, hs.fin⟩
theorem refBelow_e (n k : Int) (W : World) (hn : n ≤ 255) (hk0 : 0 ≤ k) : Calls Tryd.prog 107 [.int .i64 n, .int .i64 k].toArray W fun e w => ∃ la nn lc, e = .returned (.slice la nn lc) ∧ Sat no W [row 36 3 (.slice la nn lc) nn (el ec (upE k n coefE))] [] w := by
  refine c_enter (args := [.int .i64 n, .int .i64 k]) Tryd.func107 rfl rfl rfl fun a hk => ?_
  have hs := Sat.start W [] (fun _ h => by cases h)
  refine wpIn_seq ?_
  refine wpIn_region_lit ?_
  refine q_val hk (w_as rfl) rfl rfl rfl fun a hk => ?_
  refine (c_end (x_t ?_))
  refine wpIn_seq ?_
  refine wpIn_region_lit ?_
  refine q_val hk (w_as rfl) rfl rfl rfl fun a hk => ?_
  refine (c_end (x_t ?_))
  refine wpIn_seq ?_
  refine wpIn_seq ?_
  refine wpIn_region_lit ?_
  refine q_val hk (w_as rfl) rfl rfl rfl fun a hk => ?_
  refine (c_end (x_t ?_))
  refine wpIn_block ?_
  have hs := hs.row0 36 3
  have hs := hs.rw0 (congrArg (fun q => row 36 3 (.slice none 0 0) 0 (el ec q)) (show ([] : List _) = (upE k (0 : Int) coefE) from (upE_nil (by omega)).symm))
  refine c_loop (α := Nat) (fun i a w => ∃ (ai : Option Addr) (ni : Nat) (ci : Nat) (xi : Int), (i ≤ n.toNat ∧ xi = (i : Int)) ∧ Kn [] 21 [(6, .int .i64 xi), (5, .slice ai ni ci), (4, .slice none 0 0), (0, .int .i64 n), (1, .int .i64 k)] a ∧ Sat no W [row 36 3 (.slice ai ni ci) ni (el ec (upE k (i : Int) coefE))] [] w) (fun i => n.toNat - i) 0 ?_ ?_
  · exact ⟨_, _, _, _, ⟨by omega, by omega⟩, hk.k rfl (hk.k rfl (hk.k rfl (hk.k rfl (hk.k rfl hk.nil)))), hs⟩
  rintro i a w ⟨ai, ni, ci, xi, hf0, hk, hs⟩
  have hci := row_cnt (hs.mi 0 rfl)
  have hl := upE_len (fr := k) (to := (i : Int)) (F := coefE) (B := 1) coef_len
  refine wpIn_seq ?_
  refine wpIn_seq ?_
  refine wpIn_region_lit ?_
  refine q_val hk (w_mv rfl) rfl rfl rfl fun a hk => ?_
  refine q_val hk (w_mv rfl) rfl rfl rfl fun a hk => ?_
  rcases Classical.em (xi < n) with hc1 | hc1
  · skip
    refine q_val hk (w_lt rfl rfl (decide_eq_true hc1)) rfl rfl rfl fun a hk => ?_
    refine (c_end (x_t ?_))
    refine c_T hk rfl ?_
    refine (wpIn_skip (x_t ?_))
    refine wpIn_seq ?_
    refine wpIn_block ?_
    refine wpIn_seq ?_
    refine wpIn_region_lit ?_
    refine q_val hk (w_mv rfl) rfl rfl rfl fun a hk => ?_
    refine q_val hk (w_mv rfl) rfl rfl rfl fun a hk => ?_
    rcases Classical.em (k ≤ xi) with hc2 | hc2
    · skip
      refine q_val hk (w_ge rfl rfl (decide_eq_true hc2)) rfl rfl rfl fun a hk => ?_
      refine (c_end (x_t ?_))
      refine c_T hk rfl ?_
      refine wpIn_region_lit ?_
      refine q_val hk (w_mv rfl) rfl rfl rfl fun a hk => ?_
      refine q_val hk (w_mv rfl) rfl rfl rfl fun a hk => ?_
      refine q_val hk (w_bld rfl fl36 zr36 rfl rfl) rfl rfl rfl fun a hk => ?_
      refine q_bsl (els := [.tmp 17]) (cs := [.int .i64 2, .int .i64 xi, .int .i64 0]) hk hs rfl Tryd.underlying26 ty36 zr36 rfl rfl rfl rfl rfl rfl rfl fun b3 w a hk hs => ?_
      have hs := hs.up1
      refine q_app (news := [.int .i64 2, .int .i64 xi, .int .i64 0]) (m := 1) hk hs rfl rfl Tryd.underlying26 ty36 zr36 rfl rfl (.blk (n := 3) (hs.mi 1 rfl) rfl) rfl rfl (by omega) (by omega) rfl rfl fun a4 c5 w a hk hs => ?_
      have hs := hs.up1
      have hs := hs.drop
      have hs := hs.rw0 (congrArg _ (el_snoc (c := ec) (l := (upE k (i : Int) coefE)) (x := (2, xi, 0))))
      refine q_val hk (w_as rfl) rfl rfl rfl fun a hk => ?_
      refine (c_end (x_b (x_t ?_)))
      refine wpIn_region_lit ?_
      refine q_val hk (w_mv rfl) rfl rfl rfl fun a hk => ?_
      refine q_val hk (w_add rfl rfl (wr64 (by omega) (by omega))) rfl rfl rfl fun a hk => ?_
      refine q_val hk (w_as rfl) rfl rfl rfl fun a hk => ?_
      refine (c_end (x_t ?_))
      have hs := hs.rw0 (congrArg (fun q => row 36 3 (.slice a4 (ni + 1) c5) (ni + 1) (el ec q)) (show (((upE k (i : Int) coefE) ++ [(2, xi, 0)]) : List _) = (upE k ((i + 1 : Nat) : Int) coefE) from by first | (rw [show (((i + 1 : Nat) : Int)) = (i : Int) + 1 from rfl, hf0.2]; exact upE_succ (F := coefE) (by omega)) | (rw [upE_nil (fr := k) (a := (i : Int)) (by omega), upE_nil (by omega)])))
      exact ⟨i + 1, ⟨_, _, _, _, ⟨by omega, by omega⟩, hk.k rfl (hk.k rfl (hk.k rfl (hk.k rfl (hk.k rfl hk.nil)))), hs⟩, by omega⟩
    · skip
      refine q_val hk (w_ge rfl rfl (decide_eq_false hc2)) rfl rfl rfl fun a hk => ?_
      refine (c_end (x_t ?_))
      refine c_F hk rfl ?_
      refine (wpIn_skip (x_b (x_t ?_)))
      refine wpIn_region_lit ?_
      refine q_val hk (w_mv rfl) rfl rfl rfl fun a hk => ?_
      refine q_val hk (w_add rfl rfl (wr64 (by omega) (by omega))) rfl rfl rfl fun a hk => ?_
      refine q_val hk (w_as rfl) rfl rfl rfl fun a hk => ?_
      refine (c_end (x_t ?_))
      have hs := hs.rw0 (congrArg (fun q => row 36 3 (.slice ai ni ci) ni (el ec q)) (show ((upE k (i : Int) coefE) : List _) = (upE k ((i + 1 : Nat) : Int) coefE) from by first | (rw [show (((i + 1 : Nat) : Int)) = (i : Int) + 1 from rfl, hf0.2]; exact upE_succ (F := coefE) (by omega)) | (rw [upE_nil (fr := k) (a := (i : Int)) (by omega), upE_nil (by omega)])))
      exact ⟨i + 1, ⟨_, _, _, _, ⟨by omega, by omega⟩, hk.k rfl (hk.k rfl (hk.k rfl (hk.k rfl (hk.k rfl hk.nil)))), hs⟩, by omega⟩
  · skip
    refine q_val hk (w_lt rfl rfl (decide_eq_false hc1)) rfl rfl rfl fun a hk => ?_
    refine (c_end (x_t ?_))
    refine c_F hk rfl ?_
    refine (wpIn_exit (x_te (x_te (x_be ?_))))
    refine (x_t ?_)
    refine wpIn_seq ?_
    refine wpIn_region_lit ?_
    refine q_val hk (w_mv rfl) rfl rfl rfl fun a hk => ?_
    refine q_val hk (w_as rfl) rfl rfl rfl fun a hk => ?_
    refine (c_end (x_t ?_))
    refine (wpIn_ret ?_)
    refine c_ret1 hk rfl rfl ?_
    have hs := hs.rw0 (congrArg (fun q => row 36 3 (.slice ai ni ci) ni (el ec q)) (show ((upE k (i : Int) coefE) : List _) = (upE k n coefE) from upE_to (by omega)))
    exact ⟨_, _, _, rfl, hs.fin⟩
theorem refFits_e (n k : Int) (W : World) (hn : n ≤ 255) (hn0 : -1000 ≤ n) (hk0 : 0 ≤ k) : Calls Tryd.prog 82 [.int .i64 n, .int .i64 k].toArray W fun e w => ∃ la nn lc, e = .returned (.slice la nn lc) ∧ Sat no W [row 36 3 (.slice la nn lc) nn (el ec (interpE n ++ upE k n coefE))] [] w := by
  refine c_enter (args := [.int .i64 n, .int .i64 k]) Tryd.func82 rfl rfl rfl fun a hk => ?_
  have hs := Sat.start W [] (fun _ h => by cases h)
  refine wpIn_seq ?_
  refine wpIn_region_lit ?_
  refine q_val hk (w_as rfl) rfl rfl rfl fun a hk => ?_
  refine (c_end (x_t ?_))
  refine wpIn_seq ?_
  refine wpIn_region_lit ?_
  refine q_val hk (w_mv rfl) rfl rfl rfl fun a hk => ?_
  refine q_call (caps := []) hk rfl rfl Tryd.func83 fo83 rfl rfl (refInterp_e n _ (by omega) (by omega)) ?_
  rintro _ w ⟨a1, k2, c3, rfl, hS⟩
  have hs := hs.call1 hS
  clear hS
  refine ⟨_, rfl, fun a hk => ?_⟩
  refine q_val hk (w_mv rfl) rfl rfl rfl fun a hk => ?_
  refine q_val hk (w_mv rfl) rfl rfl rfl fun a hk => ?_
  refine q_call (caps := []) hk rfl rfl Tryd.func107 fo107 rfl rfl (refBelow_e n k _ (by omega) (by omega)) ?_
  rintro _ w ⟨a4, k5, c6, rfl, hS⟩
  have hs := hs.call1 hS
  clear hS
  refine ⟨_, rfl, fun a hk => ?_⟩
  have hs := hs.up1
  refine q_appL (news := (el ec (upE k n coefE))) (mm := k5) hk hs rfl rfl Tryd.underlying26 ty36 zr36 rfl rfl (row_lst (hs.mi 1 rfl))  (el_ones ec_ones) (by have q0 := row_cnt (hs.mi 0 rfl); have q1 := row_cnt (hs.mi 1 rfl); (try simp only [List.length_append, List.length_singleton] at q0); (try simp only [List.length_append] at q1); have := interp_len hn; (try simp only [List.length_append] at this); have := up255 (fr := k) (to := n) coef_len hk0 hn; (try simp only [List.length_append] at this); omega) (by have q0 := row_cnt (hs.mi 0 rfl); have q1 := row_cnt (hs.mi 1 rfl); (try simp only [List.length_append, List.length_singleton] at q0); (try simp only [List.length_append] at q1); have := interp_len hn; (try simp only [List.length_append] at this); have := up255 (fr := k) (to := n) coef_len hk0 hn; (try simp only [List.length_append] at this); omega) rfl rfl fun a7 c8 w a hk hs => ?_
  have hs := hs.rw0 (congrArg _ (el_app (c := ec) (l := interpE n) (m := upE k n coefE)))
  refine q_val hk (w_as rfl) rfl rfl rfl fun a hk => ?_
  refine (c_end (x_t ?_))
  refine (wpIn_ret ?_)
  refine c_ret1 hk rfl rfl ?_
  have hs := hs.up1
  have hs := hs.drop
  exact ⟨_, _, _, rfl, hs.fin⟩
theorem fits_len {n k : Int} (hn : n ≤ 255) (hk : 0 ≤ k) : (interpE n ++ upE k n coefE).length ≤ 134000 := by have h1 := interp_len hn; have h2 := up255 (fr := k) (to := n) coef_len hk hn; rw [List.length_append]; omega
theorem refAll_e (n k m : Int) (W : World) (hn : n ≤ 255) (hn0 : -1000 ≤ n) (hk0 : 0 ≤ k) (hm : m ≤ 2115) : Calls Tryd.prog 50 [.int .i64 n, .int .i64 k, .int .i64 m].toArray W fun e w => ∃ la nn lc, e = .returned (.slice la nn lc) ∧ Sat no W [row 36 3 (.slice la nn lc) nn (el ec (checkE k n m))] [] w := by
  refine c_enter (args := [.int .i64 n, .int .i64 k, .int .i64 m]) Tryd.func50 rfl rfl rfl fun a hk => ?_
  have hs := Sat.start W [] (fun _ h => by cases h)
  refine wpIn_seq ?_
  refine wpIn_region_lit ?_
  refine q_val hk (w_as rfl) rfl rfl rfl fun a hk => ?_
  refine (c_end (x_t ?_))
  refine wpIn_seq ?_
  refine wpIn_region_lit ?_
  refine q_val hk (w_as rfl) rfl rfl rfl fun a hk => ?_
  refine (c_end (x_t ?_))
  refine wpIn_seq ?_
  refine wpIn_seq ?_
  refine wpIn_region_lit ?_
  refine q_val hk (w_as rfl) rfl rfl rfl fun a hk => ?_
  refine (c_end (x_t ?_))
  refine wpIn_block ?_
  have hs := hs.row0 36 3
  have hs := hs.rw0 (congrArg (fun q => row 36 3 (.slice none 0 0) 0 (el ec q)) (show ([] : List _) = (upE 0 (0 : Int) (fun i => [(4, i, 0)] ++ (interpE n ++ upE k n coefE))) from by rw [upE_nil (fr := 0) (a := 0) (F := (fun i => [(4, i, 0)] ++ (interpE n ++ upE k n coefE))) (by omega)]))
  refine c_loop (α := Nat) (fun j a w => ∃ (aj : Option Addr) (nj : Nat) (cj : Nat) (xj : Int), (j ≤ m.toNat ∧ xj = (j : Int)) ∧ Kn [] 25 [(8, .int .i64 xj), (7, .slice aj nj cj), (6, .slice none 0 0), (0, .int .i64 n), (1, .int .i64 k), (2, .int .i64 m)] a ∧ Sat no W [row 36 3 (.slice aj nj cj) nj (el ec (upE 0 (j : Int) (fun i => [(4, i, 0)] ++ (interpE n ++ upE k n coefE))))] [] w) (fun j => m.toNat - j) 0 ?_ ?_
  · exact ⟨_, _, _, _, ⟨by omega, by omega⟩, hk.k rfl (hk.k rfl (hk.k rfl (hk.k rfl (hk.k rfl (hk.k rfl hk.nil))))), hs⟩
  rintro j a w ⟨aj, nj, cj, xj, hf0, hk, hs⟩
  have hcj := row_cnt (hs.mi 0 rfl)
  have hlj := upE_len (fr := 0) (to := (j : Int)) (F := (fun i => [(4, i, 0)] ++ (interpE n ++ upE k n coefE))) (B := 134001) (fun i => by have := fits_len hn hk0; rw [List.length_append, List.length_singleton]; omega)
  refine wpIn_seq ?_
  refine wpIn_seq ?_
  refine wpIn_region_lit ?_
  refine q_val hk (w_mv rfl) rfl rfl rfl fun a hk => ?_
  refine q_val hk (w_mv rfl) rfl rfl rfl fun a hk => ?_
  rcases Classical.em (xj < m) with hc1 | hc1
  · skip
    refine q_val hk (w_lt rfl rfl (decide_eq_true hc1)) rfl rfl rfl fun a hk => ?_
    refine (c_end (x_t ?_))
    refine c_T hk rfl ?_
    refine (wpIn_skip (x_t ?_))
    refine wpIn_seq ?_
    refine wpIn_block ?_
    refine wpIn_seq ?_
    refine wpIn_region_lit ?_
    refine q_val hk (w_mv rfl) rfl rfl rfl fun a hk => ?_
    refine q_val hk (w_mv rfl) rfl rfl rfl fun a hk => ?_
    refine q_val hk (w_bld rfl fl36 zr36 rfl rfl) rfl rfl rfl fun a hk => ?_
    refine q_bsl (els := [.tmp 16]) (cs := [.int .i64 4, .int .i64 xj, .int .i64 0]) hk hs rfl Tryd.underlying26 ty36 zr36 rfl rfl rfl rfl rfl rfl rfl fun b2 w a hk hs => ?_
    have hs := hs.up1
    refine q_app (news := [.int .i64 4, .int .i64 xj, .int .i64 0]) (m := 1) hk hs rfl rfl Tryd.underlying26 ty36 zr36 rfl rfl (.blk (n := 3) (hs.mi 1 rfl) rfl) rfl rfl (by omega) (by omega) rfl rfl fun a3 c4 w a hk hs => ?_
    have hs := hs.up1
    have hs := hs.drop
    have hs := hs.rw0 (congrArg _ (el_snoc (c := ec) (l := (upE 0 (j : Int) (fun i => [(4, i, 0)] ++ (interpE n ++ upE k n coefE)))) (x := (4, xj, 0))))
    refine q_val hk (w_as rfl) rfl rfl rfl fun a hk => ?_
    refine (c_end (x_t ?_))
    refine wpIn_region_lit ?_
    refine q_val hk (w_mv rfl) rfl rfl rfl fun a hk => ?_
    refine q_val hk (w_mv rfl) rfl rfl rfl fun a hk => ?_
    refine q_val hk (w_mv rfl) rfl rfl rfl fun a hk => ?_
    refine q_call (caps := []) hk rfl rfl Tryd.func82 fo82 rfl rfl (refFits_e n k _ (by omega) (by omega) (by omega)) ?_
    rintro _ w ⟨a5, k6, c7, rfl, hS⟩
    have hs := hs.call1 hS
    clear hS
    refine ⟨_, rfl, fun a hk => ?_⟩
    have hs := hs.up1
    refine q_appL (news := (el ec (interpE n ++ upE k n coefE))) (mm := k6) hk hs rfl rfl Tryd.underlying26 ty36 zr36 rfl rfl (row_lst (hs.mi 1 rfl))  (el_ones ec_ones) (by have q0 := row_cnt (hs.mi 0 rfl); have q1 := row_cnt (hs.mi 1 rfl); (try simp only [List.length_append, List.length_singleton] at q0); (try simp only [List.length_append] at q1); have := fits_len hn hk0; (try simp only [List.length_append] at this); omega) (by have q0 := row_cnt (hs.mi 0 rfl); have q1 := row_cnt (hs.mi 1 rfl); (try simp only [List.length_append, List.length_singleton] at q0); (try simp only [List.length_append] at q1); have := fits_len hn hk0; (try simp only [List.length_append] at this); omega) rfl rfl fun a8 c9 w a hk hs => ?_
    have hs := hs.rw0 (congrArg _ (el_app (c := ec) (l := ((upE 0 (j : Int) (fun i => [(4, i, 0)] ++ (interpE n ++ upE k n coefE))) ++ [(4, xj, 0)])) (m := interpE n ++ upE k n coefE)))
    refine q_val hk (w_as rfl) rfl rfl rfl fun a hk => ?_
    refine (c_end (x_b (x_t ?_)))
    refine wpIn_region_lit ?_
    refine q_val hk (w_mv rfl) rfl rfl rfl fun a hk => ?_
    refine q_val hk (w_add rfl rfl (wr64 (by omega) (by omega))) rfl rfl rfl fun a hk => ?_
    refine q_val hk (w_as rfl) rfl rfl rfl fun a hk => ?_
    refine (c_end (x_t ?_))
    have hs := hs.rw0 (congrArg (fun q => row 36 3 (.slice a8 ((nj + 1) + k6) c9) ((nj + 1) + k6) (el ec q)) (show ((((upE 0 (j : Int) (fun i => [(4, i, 0)] ++ (interpE n ++ upE k n coefE))) ++ [(4, xj, 0)]) ++ (interpE n ++ upE k n coefE)) : List _) = (upE 0 ((j + 1 : Nat) : Int) (fun i => [(4, i, 0)] ++ (interpE n ++ upE k n coefE))) from by rw [show (((j + 1 : Nat) : Int)) = (j : Int) + 1 from rfl, ← upE_succ (F := (fun i => [(4, i, 0)] ++ (interpE n ++ upE k n coefE))) (x := (j : Int)) (by omega), hf0.2]; simp [List.append_assoc]))
    have hs := hs.up1
    have hs := hs.drop
    exact ⟨j + 1, ⟨_, _, _, _, ⟨by omega, by omega⟩, hk.k rfl (hk.k rfl (hk.k rfl (hk.k rfl (hk.k rfl (hk.k rfl hk.nil))))), hs⟩, by omega⟩
  · skip
    refine q_val hk (w_lt rfl rfl (decide_eq_false hc1)) rfl rfl rfl fun a hk => ?_
    refine (c_end (x_t ?_))
    refine c_F hk rfl ?_
    refine (wpIn_exit (x_te (x_te (x_be ?_))))
    refine (x_t ?_)
    refine wpIn_seq ?_
    refine wpIn_region_lit ?_
    refine q_val hk (w_mv rfl) rfl rfl rfl fun a hk => ?_
    refine q_val hk (w_as rfl) rfl rfl rfl fun a hk => ?_
    refine (c_end (x_t ?_))
    refine (wpIn_ret ?_)
    refine c_ret1 hk rfl rfl ?_
    have hs := hs.rw0 (congrArg (fun q => row 36 3 (.slice aj nj cj) nj (el ec q)) (show ((upE 0 (j : Int) (fun i => [(4, i, 0)] ++ (interpE n ++ upE k n coefE))) : List _) = (checkE k n m) from upE_to (by omega)))
    exact ⟨_, _, _, rfl, hs.fin⟩
theorem refEvents_e (t m : Int) (W : World) (hn : t ≤ 255) (hn0 : -1000 ≤ t) (hm : m ≤ 2115) : Calls Tryd.prog 49 [.int .i64 t, .int .i64 m].toArray W fun e w => ∃ la nn lc, e = .returned (.slice la nn lc) ∧ Sat no W [row 36 3 (.slice la nn lc) nn (el ec (combineE t 0 m))] [] w := by
  refine c_enter (args := [.int .i64 t, .int .i64 m]) Tryd.func49 rfl rfl rfl fun a hk => ?_
  have hs := Sat.start W [] (fun _ h => by cases h)
  refine wpIn_seq ?_
  refine wpIn_region_lit ?_
  refine q_val hk (w_as rfl) rfl rfl rfl fun a hk => ?_
  refine (c_end (x_t ?_))
  refine wpIn_seq ?_
  refine wpIn_region_lit ?_
  refine q_val hk (w_mv rfl) rfl rfl rfl fun a hk => ?_
  refine q_call (caps := []) hk rfl rfl Tryd.func80 fo80 rfl rfl (refZero_e t _ (by omega) (by omega)) ?_
  rintro _ w ⟨a1, k2, c3, rfl, hS⟩
  have hs := hs.call1 hS
  clear hS
  refine ⟨_, rfl, fun a hk => ?_⟩
  refine q_val hk (w_as rfl) rfl rfl rfl fun a hk => ?_
  refine (c_end (x_t ?_))
  refine wpIn_seq ?_
  refine wpIn_seq ?_
  refine wpIn_region_lit ?_
  refine q_val hk (w_as rfl) rfl rfl rfl fun a hk => ?_
  refine (c_end (x_t ?_))
  refine wpIn_block ?_
  have hs := hs.rw0 (congrArg (fun q => row 36 3 (.slice a1 k2 c3) k2 (el ec q)) (show (weightsE t ++ upE 0 t coefE : List _) = ((weightsE t ++ upE 0 t coefE) ++ upE 0 (0 : Int) (fun i => [(4, i, 0)] ++ upE 0 t coefE)) from by rw [upE_nil (fr := 0) (a := 0) (F := (fun i => [(4, i, 0)] ++ upE 0 t coefE)) (by omega), List.append_nil]))
  refine c_loop (α := Nat) (fun j a w => ∃ (aj : Option Addr) (nj : Nat) (cj : Nat) (xj : Int), (j ≤ m.toNat ∧ xj = (j : Int)) ∧ Kn [] 24 [(6, .int .i64 xj), (5, .slice aj nj cj), (4, .slice none 0 0), (0, .int .i64 t), (1, .int .i64 m)] a ∧ Sat no W [row 36 3 (.slice aj nj cj) nj (el ec ((weightsE t ++ upE 0 t coefE) ++ upE 0 (j : Int) (fun i => [(4, i, 0)] ++ upE 0 t coefE)))] [] w) (fun j => m.toNat - j) 0 ?_ ?_
  · exact ⟨_, _, _, _, ⟨by omega, by omega⟩, hk.k rfl (hk.k rfl (hk.k rfl (hk.k rfl (hk.k rfl hk.nil)))), hs⟩
  rintro j a w ⟨aj, nj, cj, xj, hf0, hk, hs⟩
  have hcj := row_cnt (hs.mi 0 rfl)
  have hlj := upE_len (fr := 0) (to := (j : Int)) (F := (fun i => [(4, i, 0)] ++ upE 0 t coefE)) (B := 256) (fun i => by have := up255 (fr := 0) (to := t) coef_len (by omega) hn; rw [List.length_append, List.length_singleton]; omega)
  simp only [List.length_append, List.length_singleton] at hcj
  have hw := weights_len hn
  have hu := up255 (fr := 0) (to := t) coef_len (by omega) hn
  refine wpIn_seq ?_
  refine wpIn_seq ?_
  refine wpIn_region_lit ?_
  refine q_val hk (w_mv rfl) rfl rfl rfl fun a hk => ?_
  refine q_val hk (w_mv rfl) rfl rfl rfl fun a hk => ?_
  rcases Classical.em (xj < m) with hc4 | hc4
  · skip
    refine q_val hk (w_lt rfl rfl (decide_eq_true hc4)) rfl rfl rfl fun a hk => ?_
    refine (c_end (x_t ?_))
    refine c_T hk rfl ?_
    refine (wpIn_skip (x_t ?_))
    refine wpIn_seq ?_
    refine wpIn_block ?_
    refine wpIn_seq ?_
    refine wpIn_region_lit ?_
    refine q_val hk (w_mv rfl) rfl rfl rfl fun a hk => ?_
    refine q_val hk (w_mv rfl) rfl rfl rfl fun a hk => ?_
    refine q_val hk (w_bld rfl fl36 zr36 rfl rfl) rfl rfl rfl fun a hk => ?_
    refine q_bsl (els := [.tmp 16]) (cs := [.int .i64 4, .int .i64 xj, .int .i64 0]) hk hs rfl Tryd.underlying26 ty36 zr36 rfl rfl rfl rfl rfl rfl rfl fun b5 w a hk hs => ?_
    have hs := hs.up1
    refine q_app (news := [.int .i64 4, .int .i64 xj, .int .i64 0]) (m := 1) hk hs rfl rfl Tryd.underlying26 ty36 zr36 rfl rfl (.blk (n := 3) (hs.mi 1 rfl) rfl) rfl rfl (by omega) (by omega) rfl rfl fun a6 c7 w a hk hs => ?_
    have hs := hs.up1
    have hs := hs.drop
    have hs := hs.rw0 (congrArg _ (el_snoc (c := ec) (l := ((weightsE t ++ upE 0 t coefE) ++ upE 0 (j : Int) (fun i => [(4, i, 0)] ++ upE 0 t coefE))) (x := (4, xj, 0))))
    refine q_val hk (w_as rfl) rfl rfl rfl fun a hk => ?_
    refine (c_end (x_t ?_))
    refine wpIn_region_lit ?_
    refine q_val hk (w_mv rfl) rfl rfl rfl fun a hk => ?_
    refine q_val hk (w_mv rfl) rfl rfl rfl fun a hk => ?_
    refine q_call (caps := []) hk rfl rfl Tryd.func81 fo81 rfl rfl (refUp2_e t _ (by omega)) ?_
    rintro _ w ⟨a8, k9, c10, rfl, hS⟩
    have hs := hs.call1 hS
    clear hS
    refine ⟨_, rfl, fun a hk => ?_⟩
    have hs := hs.up1
    refine q_appL (news := (el ec (upE 0 t coefE))) (mm := k9) hk hs rfl rfl Tryd.underlying26 ty36 zr36 rfl rfl (row_lst (hs.mi 1 rfl))  (el_ones ec_ones) (by have q0 := row_cnt (hs.mi 0 rfl); have q1 := row_cnt (hs.mi 1 rfl); (try simp only [List.length_append, List.length_singleton] at q0); (try simp only [List.length_append] at q1); have := up255 (fr := 0) (to := t) coef_len (by omega) hn; (try simp only [List.length_append] at this); have := weights_len hn; (try simp only [List.length_append] at this); omega) (by have q0 := row_cnt (hs.mi 0 rfl); have q1 := row_cnt (hs.mi 1 rfl); (try simp only [List.length_append, List.length_singleton] at q0); (try simp only [List.length_append] at q1); have := up255 (fr := 0) (to := t) coef_len (by omega) hn; (try simp only [List.length_append] at this); have := weights_len hn; (try simp only [List.length_append] at this); omega) rfl rfl fun a11 c12 w a hk hs => ?_
    have hs := hs.rw0 (congrArg _ (el_app (c := ec) (l := (((weightsE t ++ upE 0 t coefE) ++ upE 0 (j : Int) (fun i => [(4, i, 0)] ++ upE 0 t coefE)) ++ [(4, xj, 0)])) (m := upE 0 t coefE)))
    refine q_val hk (w_as rfl) rfl rfl rfl fun a hk => ?_
    refine (c_end (x_b (x_t ?_)))
    refine wpIn_region_lit ?_
    refine q_val hk (w_mv rfl) rfl rfl rfl fun a hk => ?_
    refine q_val hk (w_add rfl rfl (wr64 (by omega) (by omega))) rfl rfl rfl fun a hk => ?_
    refine q_val hk (w_as rfl) rfl rfl rfl fun a hk => ?_
    refine (c_end (x_t ?_))
    have hs := hs.rw0 (congrArg (fun q => row 36 3 (.slice a11 ((nj + 1) + k9) c12) ((nj + 1) + k9) (el ec q)) (show (((((weightsE t ++ upE 0 t coefE) ++ upE 0 (j : Int) (fun i => [(4, i, 0)] ++ upE 0 t coefE)) ++ [(4, xj, 0)]) ++ (upE 0 t coefE)) : List _) = ((weightsE t ++ upE 0 t coefE) ++ upE 0 ((j + 1 : Nat) : Int) (fun i => [(4, i, 0)] ++ upE 0 t coefE)) from by rw [show (((j + 1 : Nat) : Int)) = (j : Int) + 1 from rfl, ← upE_succ (F := (fun i => [(4, i, 0)] ++ upE 0 t coefE)) (x := (j : Int)) (by omega), ← List.append_assoc, hf0.2]; simp [List.append_assoc]))
    have hs := hs.up1
    have hs := hs.drop
    exact ⟨j + 1, ⟨_, _, _, _, ⟨by omega, by omega⟩, hk.k rfl (hk.k rfl (hk.k rfl (hk.k rfl (hk.k rfl hk.nil)))), hs⟩, by omega⟩
  · skip
    refine q_val hk (w_lt rfl rfl (decide_eq_false hc4)) rfl rfl rfl fun a hk => ?_
    refine (c_end (x_t ?_))
    refine c_F hk rfl ?_
    refine (wpIn_exit (x_te (x_te (x_be ?_))))
    refine (x_t ?_)
    refine wpIn_seq ?_
    refine wpIn_region_lit ?_
    refine q_val hk (w_mv rfl) rfl rfl rfl fun a hk => ?_
    refine q_val hk (w_as rfl) rfl rfl rfl fun a hk => ?_
    refine (c_end (x_t ?_))
    refine (wpIn_ret ?_)
    refine c_ret1 hk rfl rfl ?_
    have hs := hs.rw0 (congrArg (fun q => row 36 3 (.slice aj nj cj) nj (el ec q)) (show (((weightsE t ++ upE 0 t coefE) ++ upE 0 (j : Int) (fun i => [(4, i, 0)] ++ upE 0 t coefE)) : List _) = (combineE t 0 m) from by rw [upE_to (fr := 0) (a := (j : Int)) (b := m) (by omega)]; rfl))
    exact ⟨_, _, _, rfl, hs.fin⟩
theorem at_len {t : Int} (hn : t ≤ 255) : (interpE t ++ downE t coefE).length ≤ 134000 := by have h1 := interp_len hn; have h2 := down_len (n := t) coef_len hn; rw [List.length_append]; omega
theorem refAt_e (t m : Int) (W : World) (hn : t ≤ 255) (hn0 : -1000 ≤ t) (hm : m ≤ 2115) : Calls Tryd.prog 51 [.int .i64 t, .int .i64 m].toArray W fun e w => ∃ la nn lc, e = .returned (.slice la nn lc) ∧ Sat no W [row 36 3 (.slice la nn lc) nn (el ec (extendE t 0 m))] [] w := by
  refine c_enter (args := [.int .i64 t, .int .i64 m]) Tryd.func51 rfl rfl rfl fun a hk => ?_
  have hs := Sat.start W [] (fun _ h => by cases h)
  refine wpIn_seq ?_
  refine wpIn_region_lit ?_
  refine q_val hk (w_as rfl) rfl rfl rfl fun a hk => ?_
  refine (c_end (x_t ?_))
  refine wpIn_seq ?_
  refine wpIn_region_lit ?_
  refine q_val hk (w_as rfl) rfl rfl rfl fun a hk => ?_
  refine (c_end (x_t ?_))
  refine wpIn_seq ?_
  refine wpIn_seq ?_
  refine wpIn_region_lit ?_
  refine q_val hk (w_as rfl) rfl rfl rfl fun a hk => ?_
  refine (c_end (x_t ?_))
  refine wpIn_block ?_
  have hs := hs.row0 36 3
  have hs := hs.rw0 (congrArg (fun q => row 36 3 (.slice none 0 0) 0 (el ec q)) (show ([] : List _) = (upE 0 (0 : Int) (fun i => [(4, i, 0)] ++ (interpE t ++ downE t coefE))) from by rw [upE_nil (fr := 0) (a := 0) (F := (fun i => [(4, i, 0)] ++ (interpE t ++ downE t coefE))) (by omega)]))
  refine c_loop (α := Nat) (fun j a w => ∃ (aj : Option Addr) (nj : Nat) (cj : Nat) (xj : Int), (j ≤ m.toNat ∧ xj = (j : Int)) ∧ Kn [] 26 [(6, .int .i64 xj), (5, .slice aj nj cj), (4, .slice none 0 0), (0, .int .i64 t), (1, .int .i64 m)] a ∧ Sat no W [row 36 3 (.slice aj nj cj) nj (el ec (upE 0 (j : Int) (fun i => [(4, i, 0)] ++ (interpE t ++ downE t coefE))))] [] w) (fun j => m.toNat - j) 0 ?_ ?_
  · exact ⟨_, _, _, _, ⟨by omega, by omega⟩, hk.k rfl (hk.k rfl (hk.k rfl (hk.k rfl (hk.k rfl hk.nil)))), hs⟩
  rintro j a w ⟨aj, nj, cj, xj, hf0, hk, hs⟩
  have hcj := row_cnt (hs.mi 0 rfl)
  have hlj := upE_len (fr := 0) (to := (j : Int)) (F := (fun i => [(4, i, 0)] ++ (interpE t ++ downE t coefE))) (B := 134001) (fun i => by have := at_len hn; rw [List.length_append, List.length_singleton]; omega)
  refine wpIn_seq ?_
  refine wpIn_seq ?_
  refine wpIn_region_lit ?_
  refine q_val hk (w_mv rfl) rfl rfl rfl fun a hk => ?_
  refine q_val hk (w_mv rfl) rfl rfl rfl fun a hk => ?_
  rcases Classical.em (xj < m) with hc1 | hc1
  · skip
    refine q_val hk (w_lt rfl rfl (decide_eq_true hc1)) rfl rfl rfl fun a hk => ?_
    refine (c_end (x_t ?_))
    refine c_T hk rfl ?_
    refine (wpIn_skip (x_t ?_))
    refine wpIn_seq ?_
    refine wpIn_block ?_
    refine wpIn_seq ?_
    refine wpIn_region_lit ?_
    refine q_val hk (w_mv rfl) rfl rfl rfl fun a hk => ?_
    refine q_val hk (w_mv rfl) rfl rfl rfl fun a hk => ?_
    refine q_val hk (w_bld rfl fl36 zr36 rfl rfl) rfl rfl rfl fun a hk => ?_
    refine q_bsl (els := [.tmp 14]) (cs := [.int .i64 4, .int .i64 xj, .int .i64 0]) hk hs rfl Tryd.underlying26 ty36 zr36 rfl rfl rfl rfl rfl rfl rfl fun b2 w a hk hs => ?_
    have hs := hs.up1
    refine q_app (news := [.int .i64 4, .int .i64 xj, .int .i64 0]) (m := 1) hk hs rfl rfl Tryd.underlying26 ty36 zr36 rfl rfl (.blk (n := 3) (hs.mi 1 rfl) rfl) rfl rfl (by omega) (by omega) rfl rfl fun a3 c4 w a hk hs => ?_
    have hs := hs.up1
    have hs := hs.drop
    have hs := hs.rw0 (congrArg _ (el_snoc (c := ec) (l := (upE 0 (j : Int) (fun i => [(4, i, 0)] ++ (interpE t ++ downE t coefE)))) (x := (4, xj, 0))))
    refine q_val hk (w_as rfl) rfl rfl rfl fun a hk => ?_
    refine (c_end (x_t ?_))
    refine wpIn_seq ?_
    refine wpIn_region_lit ?_
    refine q_val hk (w_mv rfl) rfl rfl rfl fun a hk => ?_
    refine q_val hk (w_mv rfl) rfl rfl rfl fun a hk => ?_
    refine q_call (caps := []) hk rfl rfl Tryd.func83 fo83 rfl rfl (refInterp_e t _ (by omega) (by omega)) ?_
    rintro _ w ⟨a5, k6, c7, rfl, hS⟩
    have hs := hs.call1 hS
    clear hS
    refine ⟨_, rfl, fun a hk => ?_⟩
    have hs := hs.up1
    refine q_appL (news := (el ec (interpE t))) (mm := k6) hk hs rfl rfl Tryd.underlying26 ty36 zr36 rfl rfl (row_lst (hs.mi 1 rfl))  (el_ones ec_ones) (by have q0 := row_cnt (hs.mi 0 rfl); have q1 := row_cnt (hs.mi 1 rfl); (try simp only [List.length_append, List.length_singleton] at q0); (try simp only [List.length_append] at q1); have := interp_len hn; (try simp only [List.length_append] at this); have := down_len (n := t) coef_len hn; (try simp only [List.length_append] at this); omega) (by have q0 := row_cnt (hs.mi 0 rfl); have q1 := row_cnt (hs.mi 1 rfl); (try simp only [List.length_append, List.length_singleton] at q0); (try simp only [List.length_append] at q1); have := interp_len hn; (try simp only [List.length_append] at this); have := down_len (n := t) coef_len hn; (try simp only [List.length_append] at this); omega) rfl rfl fun a8 c9 w a hk hs => ?_
    have hs := hs.rw0 (congrArg _ (el_app (c := ec) (l := ((upE 0 (j : Int) (fun i => [(4, i, 0)] ++ (interpE t ++ downE t coefE))) ++ [(4, xj, 0)])) (m := interpE t)))
    refine q_val hk (w_as rfl) rfl rfl rfl fun a hk => ?_
    refine (c_end (x_t ?_))
    refine wpIn_region_lit ?_
    refine q_val hk (w_mv rfl) rfl rfl rfl fun a hk => ?_
    refine q_val hk (w_mv rfl) rfl rfl rfl fun a hk => ?_
    refine q_call (caps := []) hk rfl rfl Tryd.func79 fo79 rfl rfl (refDown2_e t _ (by omega) (by omega)) ?_
    rintro _ w ⟨a10, k11, c12, rfl, hS⟩
    have hs := hs.call1 hS
    clear hS
    refine ⟨_, rfl, fun a hk => ?_⟩
    have hs := hs.up1
    refine q_appL (news := (el ec (downE t coefE))) (mm := k11) hk hs rfl rfl Tryd.underlying26 ty36 zr36 rfl rfl (row_lst (hs.mi 1 rfl))  (el_ones ec_ones) (by have q0 := row_cnt (hs.mi 0 rfl); have q1 := row_cnt (hs.mi 1 rfl); (try simp only [List.length_append, List.length_singleton] at q0); (try simp only [List.length_append] at q1); have := interp_len hn; (try simp only [List.length_append] at this); have := down_len (n := t) coef_len hn; (try simp only [List.length_append] at this); omega) (by have q0 := row_cnt (hs.mi 0 rfl); have q1 := row_cnt (hs.mi 1 rfl); (try simp only [List.length_append, List.length_singleton] at q0); (try simp only [List.length_append] at q1); have := interp_len hn; (try simp only [List.length_append] at this); have := down_len (n := t) coef_len hn; (try simp only [List.length_append] at this); omega) rfl rfl fun a13 c14 w a hk hs => ?_
    have hs := hs.rw0 (congrArg _ (el_app (c := ec) (l := (((upE 0 (j : Int) (fun i => [(4, i, 0)] ++ (interpE t ++ downE t coefE))) ++ [(4, xj, 0)]) ++ (interpE t))) (m := downE t coefE)))
    refine q_val hk (w_as rfl) rfl rfl rfl fun a hk => ?_
    refine (c_end (x_b (x_t ?_)))
    refine wpIn_region_lit ?_
    refine q_val hk (w_mv rfl) rfl rfl rfl fun a hk => ?_
    refine q_val hk (w_add rfl rfl (wr64 (by omega) (by omega))) rfl rfl rfl fun a hk => ?_
    refine q_val hk (w_as rfl) rfl rfl rfl fun a hk => ?_
    refine (c_end (x_t ?_))
    have hs := hs.rw0 (congrArg (fun q => row 36 3 (.slice a13 (((nj + 1) + k6) + k11) c14) (((nj + 1) + k6) + k11) (el ec q)) (show (((((upE 0 (j : Int) (fun i => [(4, i, 0)] ++ (interpE t ++ downE t coefE))) ++ [(4, xj, 0)]) ++ (interpE t)) ++ (downE t coefE)) : List _) = (upE 0 ((j + 1 : Nat) : Int) (fun i => [(4, i, 0)] ++ (interpE t ++ downE t coefE))) from by rw [show (((j + 1 : Nat) : Int)) = (j : Int) + 1 from rfl, ← upE_succ (F := (fun i => [(4, i, 0)] ++ (interpE t ++ downE t coefE))) (x := (j : Int)) (by omega), hf0.2]; simp [List.append_assoc]))
    have hs := hs.up1
    have hs := hs.drop
    have hs := hs.up1
    have hs := hs.drop
    exact ⟨j + 1, ⟨_, _, _, _, ⟨by omega, by omega⟩, hk.k rfl (hk.k rfl (hk.k rfl (hk.k rfl (hk.k rfl hk.nil)))), hs⟩, by omega⟩
  · skip
    refine q_val hk (w_lt rfl rfl (decide_eq_false hc1)) rfl rfl rfl fun a hk => ?_
    refine (c_end (x_t ?_))
    refine c_F hk rfl ?_
    refine (wpIn_exit (x_te (x_te (x_be ?_))))
    refine (x_t ?_)
    refine wpIn_seq ?_
    refine wpIn_region_lit ?_
    refine q_val hk (w_mv rfl) rfl rfl rfl fun a hk => ?_
    refine q_val hk (w_as rfl) rfl rfl rfl fun a hk => ?_
    refine (c_end (x_t ?_))
    refine (wpIn_ret ?_)
    refine c_ret1 hk rfl rfl ?_
    have hs := hs.rw0 (congrArg (fun q => row 36 3 (.slice aj nj cj) nj (el ec q)) (show ((upE 0 (j : Int) (fun i => [(4, i, 0)] ++ (interpE t ++ downE t coefE))) : List _) = (extendE t 0 m) from upE_to (by omega)))
    exact ⟨_, _, _, rfl, hs.fin⟩
theorem chunk_len {t c : Int} (ht : t ≤ 255) (hc : c ≤ 2115) : (eachE c (downE t coefE)).length ≤ 1000000 := by have := each_len (c := c) (B := 255) (by have := down_len (n := t) coef_len ht; omega : (downE t coefE).length ≤ 255) hc; omega
theorem refSplit_e (F t n L c : Int) (W : World) (ht : t ≤ 255) (ht0 : -1000 ≤ t) (hn : n ≤ 255) (hL : -9223372036854775808 ≤ L) (hcn : (cn L : Int) = c) (hc : c ≤ 2115) : Calls Tryd.prog 48 [.agg #[.int .i64 F, .int .i64 t, .int .i64 n, .int .i64 L]].toArray W fun e w => ∃ la nn lc, e = .returned (.slice la nn lc) ∧ Sat no W [row 36 3 (.slice la nn lc) nn (el ec (splitE t n c))] [] w := by
  refine c_enter (args := [.agg #[.int .i64 F, .int .i64 t, .int .i64 n, .int .i64 L]]) Tryd.func48 rfl rfl rfl fun a hk => ?_
  have hs := Sat.start W [] (fun _ h => by cases h)
  refine wpIn_seq ?_
  refine wpIn_region_lit ?_
  refine q_box (vs := [.int .i64 F, .int .i64 t, .int .i64 n, .int .i64 L]) hk hs rfl rfl rfl rfl fun b1 w a hk hs => ?_
  refine q_val hk (w_as rfl) rfl rfl rfl fun a hk => ?_
  refine (c_end (x_t ?_))
  refine wpIn_seq ?_
  refine wpIn_region_lit ?_
  refine q_val hk (w_as rfl) rfl rfl rfl fun a hk => ?_
  refine (c_end (x_t ?_))
  refine wpIn_seq ?_
  refine wpIn_seq ?_
  refine wpIn_region_lit ?_
  refine q_val hk (w_as rfl) rfl rfl rfl fun a hk => ?_
  refine (c_end (x_t ?_))
  refine wpIn_block ?_
  have hs := hs.row0 36 3
  have hs := hs.rw0 (congrArg (fun q => row 36 3 (.slice none 0 0) 0 (el ec q)) (show ([] : List _) = (upE 1 (1 + (0 : Int)) (fun i => [(5, i, 0)] ++ eachE c (downE t coefE))) from (upE_nil (by omega)).symm))
  refine c_loop (α := Nat) (fun i a w => ∃ (ai : Option Addr) (ni : Nat) (ci : Nat) (xi : Int), (i ≤ n.toNat ∧ xi = 1 + (i : Int)) ∧ Kn [] 35 [(4, .int .i64 xi), (3, .slice ai ni ci), (2, .slice none 0 0), (1, .pointer (some ⟨b1, 0, none⟩))] a ∧ Sat no W [row 36 3 (.slice ai ni ci) ni (el ec (upE 1 (1 + (i : Int)) (fun i => [(5, i, 0)] ++ eachE c (downE t coefE)))), blk b1 [.int .i64 F, .int .i64 t, .int .i64 n, .int .i64 L] 23] [] w) (fun i => n.toNat - i) 0 ?_ ?_
  · exact ⟨_, _, _, _, ⟨by omega, by omega⟩, hk.k rfl (hk.k rfl (hk.k rfl (hk.k rfl hk.nil))), hs⟩
  rintro i a w ⟨ai, ni, ci, xi, hf0, hk, hs⟩
  have hci := row_cnt (hs.mi 0 rfl)
  have hl := upE_len (fr := 1) (to := (1 + (i : Int))) (F := (fun i => [(5, i, 0)] ++ eachE c (downE t coefE))) (B := 1000001) (fun i => by have := chunk_len (c := c) ht hc; rw [List.length_append, List.length_singleton]; omega)
  have hfo := hf0
  have hdl := down_len (n := t) coef_len ht
  refine wpIn_seq ?_
  refine wpIn_seq ?_
  refine wpIn_region_lit ?_
  refine q_val hk (w_mv rfl) rfl rfl rfl fun a hk => ?_
  refine q_val hk (w_fa rfl fq23_2 ty3) rfl rfl rfl fun a hk => ?_
  refine q_val hk (w_ld1 rfl ty3 (.blk (n := 1) (hs.mi 1 rfl) rfl)) rfl rfl rfl fun a hk => ?_
  rcases Classical.em (xi ≤ n) with hc2 | hc2
  · skip
    refine q_val hk (w_le rfl rfl (decide_eq_true hc2)) rfl rfl rfl fun a hk => ?_
    refine (c_end (x_t ?_))
    refine c_T hk rfl ?_
    refine (wpIn_skip (x_t ?_))
    refine wpIn_seq ?_
    refine wpIn_block ?_
    refine wpIn_seq ?_
    refine wpIn_region_lit ?_
    refine q_val hk (w_mv rfl) rfl rfl rfl fun a hk => ?_
    refine q_val hk (w_mv rfl) rfl rfl rfl fun a hk => ?_
    refine q_val hk (w_bld rfl fl36 zr36 rfl rfl) rfl rfl rfl fun a hk => ?_
    refine q_bsl (els := [.tmp 14]) (cs := [.int .i64 5, .int .i64 xi, .int .i64 0]) hk hs rfl Tryd.underlying26 ty36 zr36 rfl rfl rfl rfl rfl rfl rfl fun b3 w a hk hs => ?_
    have hs := hs.up1
    refine q_app (news := [.int .i64 5, .int .i64 xi, .int .i64 0]) (m := 1) hk hs rfl rfl Tryd.underlying26 ty36 zr36 rfl rfl (.blk (n := 3) (hs.mi 1 rfl) rfl) rfl rfl (by omega) (by omega) rfl rfl fun a4 c5 w a hk hs => ?_
    have hs := hs.up1
    have hs := hs.drop
    have hs := hs.rw0 (congrArg _ (el_snoc (c := ec) (l := (upE 1 (1 + (i : Int)) (fun i => [(5, i, 0)] ++ eachE c (downE t coefE)))) (x := (5, xi, 0))))
    refine q_val hk (w_as rfl) rfl rfl rfl fun a hk => ?_
    refine (c_end (x_t ?_))
    refine wpIn_seq ?_
    refine wpIn_region_lit ?_
    refine q_val hk (w_as rfl) rfl rfl rfl fun a hk => ?_
    refine (c_end (x_t ?_))
    refine wpIn_block ?_
    have hs := hs.rw0 (congrArg (fun q => row 36 3 (.slice a4 (ni + 1) c5) (ni + 1) (el ec q)) (show (((upE 1 (1 + (i : Int)) (fun i => [(5, i, 0)] ++ eachE c (downE t coefE))) ++ [(5, xi, 0)]) : List _) = (((upE 1 (1 + (i : Int)) (fun i => [(5, i, 0)] ++ eachE c (downE t coefE))) ++ [(5, xi, 0)]) ++ upE 0 (0 : Int) (fun i => [(4, i, 0)] ++ downE t coefE)) from by rw [upE_nil (fr := 0) (a := 0) (F := (fun i => [(4, i, 0)] ++ downE t coefE)) (by omega), List.append_nil]))
    refine c_loop (α := Nat) (fun k a w => ∃ (ak : Option Addr) (nk : Nat) (ck : Nat) (xk : Int), (k ≤ c.toNat ∧ xk = (k : Int)) ∧ Kn [] 35 [(5, .int .i64 xk), (3, .slice ak nk ck), (16, .slice a4 (ni + 1) c5), (15, .slice (some ⟨b3, 0, none⟩) 1 1), (14, .agg #[.int .i64 5, .int .i64 xi, .int .i64 0]), (13, .int .i64 xi), (12, .slice ai ni ci), (9, .bool true), (8, .int .i64 n), (7, .pointer (some ⟨b1, 2, none⟩)), (6, .int .i64 xi), (4, .int .i64 xi), (2, .slice none 0 0), (1, .pointer (some ⟨b1, 0, none⟩))] a ∧ Sat no W [row 36 3 (.slice ak nk ck) nk (el ec (((upE 1 (1 + (i : Int)) (fun i => [(5, i, 0)] ++ eachE c (downE t coefE))) ++ [(5, xi, 0)]) ++ upE 0 (k : Int) (fun i => [(4, i, 0)] ++ downE t coefE))), blk b1 [.int .i64 F, .int .i64 t, .int .i64 n, .int .i64 L] 23] [] w) (fun k => c.toNat - k) 0 ?_ ?_
    · exact ⟨_, _, _, _, ⟨by omega, by omega⟩, hk.k rfl (hk.k rfl (hk.k rfl (hk.k rfl (hk.k rfl (hk.k rfl (hk.k rfl (hk.k rfl (hk.k rfl (hk.k rfl (hk.k rfl (hk.k rfl (hk.k rfl (hk.k rfl hk.nil))))))))))))), hs⟩
    rintro k a w ⟨ak, nk, ck, xk, hf0, hk, hs⟩
    have hck := row_cnt (hs.mi 0 rfl)
    have hlk := upE_len (fr := 0) (to := (k : Int)) (F := (fun i => [(4, i, 0)] ++ downE t coefE)) (B := 256) (fun i => by rw [List.length_append, List.length_singleton]; omega)
    simp only [List.length_append, List.length_singleton] at hck
    refine wpIn_seq ?_
    refine wpIn_seq ?_
    refine wpIn_region_lit ?_
    refine q_val hk (w_mv rfl) rfl rfl rfl fun a hk => ?_
    refine q_val hk (w_fa rfl fq23_3 ty3) rfl rfl rfl fun a hk => ?_
    refine q_val hk (w_ld1 rfl ty3 (.blk (n := 1) (hs.mi 1 rfl) rfl)) rfl rfl rfl fun a hk => ?_
    refine q_call (caps := []) hk rfl rfl Tryd.func31 fo31 rfl rfl ((hcn ▸ refCount_c L (by omega) _ : Calls Tryd.prog 31 #[.int .i64 L] _ fun e w' => e = .returned (.int .i64 c) ∧ _ = w')) ?_
    rintro _ _ ⟨rfl, rfl⟩
    refine ⟨_, rfl, fun a hk => ?_⟩
    rcases Classical.em (xk < c) with hc6 | hc6
    · skip
      refine q_val hk (w_lt rfl rfl (decide_eq_true hc6)) rfl rfl rfl fun a hk => ?_
      refine (c_end (x_t ?_))
      refine c_T hk rfl ?_
      refine (wpIn_skip (x_t ?_))
      refine wpIn_seq ?_
      refine wpIn_block ?_
      refine wpIn_seq ?_
      refine wpIn_region_lit ?_
      refine q_val hk (w_mv rfl) rfl rfl rfl fun a hk => ?_
      refine q_val hk (w_mv rfl) rfl rfl rfl fun a hk => ?_
      refine q_val hk (w_bld rfl fl36 zr36 rfl rfl) rfl rfl rfl fun a hk => ?_
      refine q_bsl (els := [.tmp 26]) (cs := [.int .i64 4, .int .i64 xk, .int .i64 0]) hk hs rfl Tryd.underlying26 ty36 zr36 rfl rfl rfl rfl rfl rfl rfl fun b7 w a hk hs => ?_
      have hs := hs.up1
      refine q_app (news := [.int .i64 4, .int .i64 xk, .int .i64 0]) (m := 1) hk hs rfl rfl Tryd.underlying26 ty36 zr36 rfl rfl (.blk (n := 3) (hs.mi 1 rfl) rfl) rfl rfl (by omega) (by omega) rfl rfl fun a8 c9 w a hk hs => ?_
      have hs := hs.up1
      have hs := hs.drop
      have hs := hs.rw0 (congrArg _ (el_snoc (c := ec) (l := (((upE 1 (1 + (i : Int)) (fun i => [(5, i, 0)] ++ eachE c (downE t coefE))) ++ [(5, xi, 0)]) ++ upE 0 (k : Int) (fun i => [(4, i, 0)] ++ downE t coefE))) (x := (4, xk, 0))))
      refine q_val hk (w_as rfl) rfl rfl rfl fun a hk => ?_
      refine (c_end (x_t ?_))
      refine wpIn_region_lit ?_
      refine q_val hk (w_mv rfl) rfl rfl rfl fun a hk => ?_
      refine q_val hk (w_fa rfl fq23_1 ty3) rfl rfl rfl fun a hk => ?_
      refine q_val hk (w_ld1 rfl ty3 (.blk (n := 1) (hs.mi 1 rfl) rfl)) rfl rfl rfl fun a hk => ?_
      refine q_call (caps := []) hk rfl rfl Tryd.func79 fo79 rfl rfl (refDown2_e t _ (by omega) (by omega)) ?_
      rintro _ w ⟨a10, k11, c12, rfl, hS⟩
      have hs := hs.call1 hS
      clear hS
      refine ⟨_, rfl, fun a hk => ?_⟩
      have hs := hs.up1
      refine q_appL (news := (el ec (downE t coefE))) (mm := k11) hk hs rfl rfl Tryd.underlying26 ty36 zr36 rfl rfl (row_lst (hs.mi 1 rfl))  (el_ones ec_ones) (by have q0 := row_cnt (hs.mi 0 rfl); have q1 := row_cnt (hs.mi 1 rfl); (try simp only [List.length_append, List.length_singleton] at q0); (try simp only [List.length_append] at q1); have := hdl; (try simp only [List.length_append] at this); omega) (by have q0 := row_cnt (hs.mi 0 rfl); have q1 := row_cnt (hs.mi 1 rfl); (try simp only [List.length_append, List.length_singleton] at q0); (try simp only [List.length_append] at q1); have := hdl; (try simp only [List.length_append] at this); omega) rfl rfl fun a13 c14 w a hk hs => ?_
      have hs := hs.rw0 (congrArg _ (el_app (c := ec) (l := ((((upE 1 (1 + (i : Int)) (fun i => [(5, i, 0)] ++ eachE c (downE t coefE))) ++ [(5, xi, 0)]) ++ upE 0 (k : Int) (fun i => [(4, i, 0)] ++ downE t coefE)) ++ [(4, xk, 0)])) (m := downE t coefE)))
      refine q_val hk (w_as rfl) rfl rfl rfl fun a hk => ?_
      refine (c_end (x_b (x_t ?_)))
      refine wpIn_region_lit ?_
      refine q_val hk (w_mv rfl) rfl rfl rfl fun a hk => ?_
      refine q_val hk (w_add rfl rfl (wr64 (by omega) (by omega))) rfl rfl rfl fun a hk => ?_
      refine q_val hk (w_as rfl) rfl rfl rfl fun a hk => ?_
      refine (c_end (x_t ?_))
      have hs := hs.rw0 (congrArg (fun q => row 36 3 (.slice a13 ((nk + 1) + k11) c14) ((nk + 1) + k11) (el ec q)) (show ((((((upE 1 (1 + (i : Int)) (fun i => [(5, i, 0)] ++ eachE c (downE t coefE))) ++ [(5, xi, 0)]) ++ upE 0 (k : Int) (fun i => [(4, i, 0)] ++ downE t coefE)) ++ [(4, xk, 0)]) ++ (downE t coefE)) : List _) = (((upE 1 (1 + (i : Int)) (fun i => [(5, i, 0)] ++ eachE c (downE t coefE))) ++ [(5, xi, 0)]) ++ upE 0 ((k + 1 : Nat) : Int) (fun i => [(4, i, 0)] ++ downE t coefE)) from by rw [show (((k + 1 : Nat) : Int)) = (k : Int) + 1 from rfl, ← upE_succ (F := (fun i => [(4, i, 0)] ++ downE t coefE)) (x := (k : Int)) (by omega), ← List.append_assoc, hf0.2]; simp [List.append_assoc]))
      have hs := hs.up1
      have hs := hs.drop
      exact ⟨k + 1, ⟨_, _, _, _, ⟨by omega, by omega⟩, hk.k rfl (hk.k rfl (hk.k rfl (hk.k rfl (hk.k rfl (hk.k rfl (hk.k rfl (hk.k rfl (hk.k rfl (hk.k rfl (hk.k rfl (hk.k rfl (hk.k rfl (hk.k rfl hk.nil))))))))))))), hs⟩, by omega⟩
    · skip
      refine q_val hk (w_lt rfl rfl (decide_eq_false hc6)) rfl rfl rfl fun a hk => ?_
      refine (c_end (x_t ?_))
      refine c_F hk rfl ?_
      refine (wpIn_exit (x_te (x_te (x_be ?_))))
      refine (x_b (x_t ?_))
      refine wpIn_region_lit ?_
      refine q_val hk (w_mv rfl) rfl rfl rfl fun a hk => ?_
      refine q_val hk (w_add rfl rfl (wr64 (by omega) (by omega))) rfl rfl rfl fun a hk => ?_
      refine q_val hk (w_as rfl) rfl rfl rfl fun a hk => ?_
      refine (c_end (x_t ?_))
      have hs := hs.rw0 (congrArg (fun q => row 36 3 (.slice ak nk ck) nk (el ec q)) (show ((((upE 1 (1 + (i : Int)) (fun i => [(5, i, 0)] ++ eachE c (downE t coefE))) ++ [(5, xi, 0)]) ++ upE 0 (k : Int) (fun i => [(4, i, 0)] ++ downE t coefE)) : List _) = (upE 1 (1 + ((i + 1 : Nat) : Int)) (fun i => [(5, i, 0)] ++ eachE c (downE t coefE))) from by rw [show (1 + ((i + 1 : Nat) : Int)) = (1 + (i : Int)) + 1 by omega, ← upE_succ (F := (fun i => [(5, i, 0)] ++ eachE c (downE t coefE))) (by omega), upE_to (fr := 0) (a := (k : Int)) (b := c) (by omega), hfo.2, List.append_assoc]; rfl))
      exact ⟨i + 1, ⟨_, _, _, _, ⟨by omega, by omega⟩, hk.k rfl (hk.k rfl (hk.k rfl (hk.k rfl hk.nil))), hs⟩, by omega⟩
  · skip
    refine q_val hk (w_le rfl rfl (decide_eq_false hc2)) rfl rfl rfl fun a hk => ?_
    refine (c_end (x_t ?_))
    refine c_F hk rfl ?_
    refine (wpIn_exit (x_te (x_te (x_be ?_))))
    refine (x_t ?_)
    refine wpIn_seq ?_
    refine wpIn_region_lit ?_
    refine q_val hk (w_mv rfl) rfl rfl rfl fun a hk => ?_
    refine q_val hk (w_as rfl) rfl rfl rfl fun a hk => ?_
    refine (c_end (x_t ?_))
    refine (wpIn_ret ?_)
    refine c_ret1 hk rfl rfl ?_
    have hs := hs.up1
    have hs := hs.drop
    have hs := hs.rw0 (congrArg (fun q => row 36 3 (.slice ai ni ci) ni (el ec q)) (show ((upE 1 (1 + (i : Int)) (fun i => [(5, i, 0)] ++ eachE c (downE t coefE))) : List _) = (splitE t n c) from upE_to (by omega)))
    exact ⟨_, _, _, rfl, hs.fin⟩
end Go.Proofs.YtpggmebgndkpjaaDoor
