/- The contracts of chunks.Count, of the iterator bounds, and of the reference's Count. -/
import Derived.Test.YtpggmebgndkpjaaDoorSevenC
import Derived.Test.YtpggmebgndkpjaaDoorSevenB
import Derived.Test.YtpggmebgndkpjaaDoorWalk0
import Derived.IntWalk
namespace Go.Proofs.YtpggmebgndkpjaaDoor
set_option linter.all false
open Go Go.RowKit Go.Shelf

/-- The number of chunks of n bytes. -/
def cn (n : Int) : Nat := if 0 ≤ n ∧ n ≤ 65535 then ((n + 30) / 31).toNat else 0
theorem valid_c (n : Int) (w : World) : Calls Tryd.prog 54 #[.int .i64 n] w fun e w' => e = .returned (.bool (decide (0 ≤ n ∧ n ≤ 65535))) ∧ w = w' := by
  by_cases h0 : 0 ≤ n
  · by_cases h1 : n ≤ 65535
    · skip
      go_enter Tryd.func54, Tryd.ntmps54
      go_wp2
      go_ret
      exact ⟨by simp [h0, h1], rfl⟩
    · skip
      go_enter Tryd.func54, Tryd.ntmps54
      go_wp2
      go_ret
      exact ⟨by simp [h0]; omega, rfl⟩
  · have hd : decide (0 ≤ n ∧ n ≤ 65535) = false := by simp; omega
    go_enter Tryd.func54, Tryd.ntmps54
    go_wp2
    go_ret
    exact ⟨rfl, rfl⟩
theorem count_c (n : Int) (w : World) : Calls Tryd.prog 30 #[.int .i64 n] w fun e w' => e = .returned (.int .i64 (cn n : Int)) ∧ w = w' := by
  by_cases h : 0 ≤ n ∧ n ≤ 65535
  · have hd : decide (0 ≤ n ∧ n ≤ 65535) = true := by simpa using h
    obtain ⟨h0, h1⟩ := h
    go_enter Tryd.func30, Tryd.ntmps30
    go_wp2_with fail
    refine Calls.mono (valid_c n _) ?_
    rintro _ _ ⟨rfl, rfl⟩
    rw [hd]
    go_wp2_with fail
    go_ret
    refine ⟨?_, rfl⟩
    rw [show (cn n : Int) = (n + 30) / 31 by unfold cn; rw [if_pos ⟨h0, h1⟩]; omega]
    rw [show n + 31 - 1 = n + 30 by omega]
    rfl
  · have hd : decide (0 ≤ n ∧ n ≤ 65535) = false := by simpa using h
    have hc : cn n = 0 := by unfold cn; rw [if_neg h]
    go_enter Tryd.func30, Tryd.ntmps30
    go_wp2_with fail
    refine Calls.mono (valid_c n _) ?_
    rintro _ _ ⟨rfl, rfl⟩
    rw [hd]
    go_wp2_with fail
    go_ret
    exact ⟨by rw [hc]; rfl, rfl⟩

theorem bounds_c (n : Int) (w : World) : Calls Tryd.prog 60 #[.int .i64 n] w fun e w' =>
    e = .returned (.func (.func 88) #[] #[.pointer (some ⟨w.heap.size, 0, none⟩)]) ∧ w' = w.alloc (.cells #[.int .i64 n] 3) := by
  go_enter Tryd.func60, Tryd.ntmps60
  go_wp2
  go_ret
  exact ⟨rfl, rfl⟩
/-- The number of bytes of chunk i. -/
def cz (n i : Nat) : Nat := min 31 (n - 31 * i)
theorem cell?_block {w w' : World} {k : Nat} (h : w'.heap[k]? = w.heap[k]?) (j : Nat) : w'.cell? ⟨k, j, none⟩ = w.cell? ⟨k, j, none⟩ := by simp only [World.cell?, h]
theorem cn_lo {n k : Nat} (hn : n ≤ 65535) (hk : k < cn n) : 31 * k < n := by
  unfold cn at hk
  split at hk <;> omega
/-- The first k numbers below N. -/
def upF (N k : Nat) : List (Fin N) := (List.finRange N).take k
theorem upF_zero (N : Nat) : upF N 0 = [] := by simp [upF]
theorem upF_len {N k : Nat} (h : k ≤ N) : (upF N k).length = k := by simp [upF]; omega
theorem upF_succ {N k : Nat} (h : k < N) : upF N (k + 1) = upF N k ++ [⟨k, h⟩] := by
  unfold upF
  rw [List.take_succ_eq_append_getElem (by simpa using h)]
  simp
theorem upF_all (N : Nat) : upF N N = List.finRange N := by unfold upF; exact List.take_of_length_le (by simp)
theorem upF_map {α : Type} (N : Nat) (g : Nat → α) : (upF N N).map (fun i => g i.val) = (List.range N).map g := by
  rw [upF_all]
  apply List.ext_getElem
  · simp
  · intro i h1 h2
    simp
set_option maxRecDepth 100000 in
set_option maxHeartbeats 1000000 in
theorem bounds1_in (m : Nat) (hm : 2 ≤ m) (l n Bn : Nat) (hn : n ≤ 65535) (J Jx : List (Fin (cn n)) → World → Prop)
    (hY : ∀ pre x W, J pre W → pre.length < cn n → YieldAt Fence.wide (m - 1) Tryd.prog l #[.int .i64 ((x.val : Nat) : Int), .int .i64 ((cz n x.val : Nat) : Int)] W fun e W' =>
      (e = .returned (.bool true) ∧ J (pre ++ [x]) W' ∧ W'.heap[Bn]? = W.heap[Bn]?) ∨ (e = .returned (.bool false) ∧ Jx (pre ++ [x]) W'))
    (W : World) (hc : W.cell? ⟨Bn, 0, none⟩ = some (.int .i64 (n : Int))) (h0 : J [] W) :
    CallsIn Fence.wide m Tryd.prog 88 #[.func (.yield l) #[] #[], .pointer (some ⟨Bn, 0, none⟩)] W fun e W' => (∃ v, e = .returned v) ∧
      ((∃ ys, ys = upF (cn n) (cn n) ∧ J ys W') ∨ (∃ pre, (∃ k, k ≤ cn n ∧ pre = upF (cn n) k) ∧ Jx pre W')) := by
  have hcn : cn n ≤ 2115 := by unfold cn; split <;> omega
  refine callsIn_of_wp Tryd.func88 rfl trivial ?_ rfl
  simp only [Tryd.ntmps88, List.size_toArray, List.length_cons, List.length_nil, Nat.reduceAdd, Nat.reduceSub, Array.replicate_succ, Array.replicate_zero, List.push_toArray, List.append_toArray, List.nil_append, List.cons_append]
  gi_wp2
  refine ⟨trivial, ?_⟩
  try (refine ⟨(fun h => by cases h), ?_⟩)
  refine CallsIn.mono (callsIn_wide.2 (count_c _ _)) ?_
  rintro _ _ ⟨rfl, rfl⟩
  gi_wp2
  gi_loopw [6] (fun i wr => ∃ k : Nat, k ≤ cn n ∧ i = .int .i64 (k : Int) ∧ J (upF (cn n) k) wr ∧ wr.heap[Bn]? = W.heap[Bn]?) (fun i _ => cn n - (intOf i).toNat)
  case atStart => exact ⟨0, Nat.zero_le _, rfl, h0, rfl⟩
  case round =>
    obtain ⟨k, hk, rfl, hJs, hb⟩ := hrel
    have hcx := (cell?_block hb 0).trans hc
    have HB := Lib.hid hb
    clear hb
    by_cases hlt : k < cn n
    · obtain ⟨fn, tmps, assign, body, hy, hR⟩ := hY _ ⟨k, hlt⟩ wr hJs (by rw [upF_len hk]; exact hlt)
      have h31 := cn_lo hn hlt
      dsimp only at hy
      have hcz : min (31 : Int) ((n : Int) - (k : Int) * 31) = ((cz n k : Nat) : Int) := by unfold cz; omega
      gi_wp2
      refine ⟨(fun h => by cases h), hR.mono ?_⟩
      rintro e W3 (⟨rfl, hJ3, hk3⟩ | ⟨rfl, hJx3⟩)
      · gi_wp2
        go_roundw
        case rel => exact ⟨k + 1, by omega, by go_num, by rw [upF_succ hlt]; exact hJ3, hk3.trans HB.out⟩
        case measure => simp [intOf]; omega
      · gi_wp2
        refine bodyPost_ret (results_none rfl _ _ _) rfl ?_
        exact ⟨⟨_, rfl⟩, .inr ⟨_, ⟨k + 1, by omega, (upF_succ hlt).symm⟩, hJx3⟩⟩
    · obtain rfl : k = cn n := by omega
      gi_wp2
      go_end0
      exact ⟨⟨_, rfl⟩, .inl ⟨_, rfl, hJs⟩⟩
/-- The block of the iterator's bound lies as it lay. -/
def KB (Bn : Nat) (A B : World) : Prop := B.heap[Bn]? = A.heap[Bn]?
theorem KB_t {Bn : Nat} {A B C : World} (h : KB Bn A B) (k : KB Bn B C) : KB Bn A C := Eq.trans k h
theorem KB_b {Bn s : Nat} (hB : Bn < s) (W : World) (l : Nat) (o o' : Obj) (hl : s ≤ l) (_ : W.heap[l]? = some o) (_ : o.isCells = false) (_ : o.isWalk = false) : KB Bn W (W.putObj l o') :=
  World.putObj_heap_other (by omega)
theorem bounds_stops (m : Nat) (hm : 2 ≤ m) (n Bn : Nat) (hn : n ≤ 65535) (w : World) (hB : Bn < w.heap.size) (hc : w.cell? ⟨Bn, 0, none⟩ = some (.int .i64 (n : Int))) :
    SeqStopsK Fence.wide m Tryd.prog 88 #[.pointer (some ⟨Bn, 0, none⟩)] (fun i : Fin (cn n) => #[.int .i64 ((i.val : Nat) : Int), .int .i64 ((cz n i.val : Nat) : Int)]) (KB Bn) (fun xs => xs = upF (cn n) (cn n)) (fun pre => ∃ k, k ≤ cn n ∧ pre = upF (cn n) k) (cn n) w :=
  fun l J Jx W hW _ _ hY h0 => bounds1_in m hm l n Bn hn J Jx hY W ((hW.cell (p := ⟨Bn, 0, none⟩) hB).trans hc) h0
end Go.Proofs.YtpggmebgndkpjaaDoor
