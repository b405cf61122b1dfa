/- The contracts of chunks.Count, of the iterator bounds, and of the reference's Count. -/
import Derived.Test.YtjhfepkpfakemaaDoorSevenC
import Derived.Test.YtjhfepkpfakemaaDoorSevenB
import Derived.Test.YtjhfepkpfakemaaDoorWalk0
import Derived.IntWalk
namespace Go.Proofs.YtjhfepkpfakemaaDoor
set_option linter.all false
open Go Go.RowKit Go.Shelf

/-- The number of chunks of n bytes. -/
def cn (n : Int) : Nat := if 0 ≤ n ∧ n ≤ 65535 then ((n + 30) / 31).toNat else 0
theorem valid_c (n : Int) (w : World) : Calls Tryd.prog 42 #[.int .i64 n] w fun e w' => e = .returned (.bool (decide (0 ≤ n ∧ n ≤ 65535))) ∧ w = w' := by
  by_cases h0 : 0 ≤ n
  · by_cases h1 : n ≤ 65535
    · skip
      go_enter Tryd.func42, Tryd.ntmps42
      go_wp2
      go_ret
      exact ⟨by simp [h0, h1], rfl⟩
    · skip
      go_enter Tryd.func42, Tryd.ntmps42
      go_wp2
      go_ret
      exact ⟨by simp [h0]; omega, rfl⟩
  · have hd : decide (0 ≤ n ∧ n ≤ 65535) = false := by simp; omega
    go_enter Tryd.func42, Tryd.ntmps42
    go_wp2
    go_ret
    exact ⟨rfl, rfl⟩
theorem count_c (n : Int) (w : World) : Calls Tryd.prog 24 #[.int .i64 n] w fun e w' => e = .returned (.int .i64 (cn n : Int)) ∧ w = w' := by
  by_cases h : 0 ≤ n ∧ n ≤ 65535
  · have hd : decide (0 ≤ n ∧ n ≤ 65535) = true := by simpa using h
    obtain ⟨h0, h1⟩ := h
    go_enter Tryd.func24, Tryd.ntmps24
    go_wp2_with fail
    refine Calls.mono (valid_c n _) ?_
    rintro _ _ ⟨rfl, rfl⟩
    rw [hd]
    go_wp2_with fail
    go_ret
    refine ⟨?_, rfl⟩
    rw [show (cn n : Int) = (n + 30) / 31 by unfold cn; rw [if_pos ⟨h0, h1⟩]; omega]
    rw [show n + 31 - 1 = n + 30 by omega]
    rfl
  · have hd : decide (0 ≤ n ∧ n ≤ 65535) = false := by simpa using h
    have hc : cn n = 0 := by unfold cn; rw [if_neg h]
    go_enter Tryd.func24, Tryd.ntmps24
    go_wp2_with fail
    refine Calls.mono (valid_c n _) ?_
    rintro _ _ ⟨rfl, rfl⟩
    rw [hd]
    go_wp2_with fail
    go_ret
    exact ⟨by rw [hc]; rfl, rfl⟩

/-- The number of bytes of chunk i. -/
def cz (n i : Nat) : Nat := min 31 (n - 31 * i)
theorem cell?_block {w w' : World} {k : Nat} (h : w'.heap[k]? = w.heap[k]?) (j : Nat) : w'.cell? ⟨k, j, none⟩ = w.cell? ⟨k, j, none⟩ := by simp only [World.cell?, h]
theorem cn_lo {n k : Nat} (hn : n ≤ 65535) (hk : k < cn n) : 31 * k < n := by
  unfold cn at hk
  split at hk <;> omega
/-- The first k numbers below N. -/
def upF (N k : Nat) : List (Fin N) := (List.finRange N).take k
theorem upF_zero (N : Nat) : upF N 0 = [] := by simp [upF]
theorem upF_len {N k : Nat} (h : k ≤ N) : (upF N k).length = k := by simp [upF]; omega
theorem upF_succ {N k : Nat} (h : k < N) : upF N (k + 1) = upF N k ++ [⟨k, h⟩] := by
  unfold upF
  rw [List.take_succ_eq_append_getElem (by simpa using h)]
  simp
theorem upF_all (N : Nat) : upF N N = List.finRange N := by unfold upF; exact List.take_of_length_le (by simp)
theorem upF_map {α : Type} (N : Nat) (g : Nat → α) : (upF N N).map (fun i => g i.val) = (List.range N).map g := by
  rw [upF_all]
  apply List.ext_getElem
  · simp
  · intro i h1 h2
    simp
/-- The block of the iterator's bound lies as it lay. -/
def KB (Bn : Nat) (A B : World) : Prop := B.heap[Bn]? = A.heap[Bn]?
theorem KB_t {Bn : Nat} {A B C : World} (h : KB Bn A B) (k : KB Bn B C) : KB Bn A C := Eq.trans k h
theorem KB_b {Bn s : Nat} (hB : Bn < s) (W : World) (l : Nat) (o o' : Obj) (hl : s ≤ l) (_ : W.heap[l]? = some o) (_ : o.isCells = false) (_ : o.isWalk = false) : KB Bn W (W.putObj l o') :=
  World.putObj_heap_other (by omega)
end Go.Proofs.YtjhfepkpfakemaaDoor
