/- A hash in memory; the contract of New. -/
import Derived.Test.YtdaggankfokloaaDoorAfter
import Derived.Test.YtdaggankfokloaaDoorClone
namespace Go.Proofs.YtdaggankfokloaaDoor
set_option linter.all false
open Go Go.RowKit

/-- Block p is a hash of the n bytes f; what it holds of its own lies from C on. -/
structure HashAt (w : World) (C p : Nat) (f : Nat → Nat) (n : Nat) : Prop where
  lt : ∀ j, f j < 256
  own : C ≤ p
  blk : p < w.heap.size
  st : ∀ j, j < 8 → w.cell? ⟨p, j, none⟩ = some (.int .u32 (((hs K s0 f (n / 64)).at j : Nat) : Int))
  rest : ∃ r, w.cell? ⟨p, 8, none⟩ = some r ∧ w.ownsRow C 5 1 r (n % 64) (fl (fun j => f (64 * (n / 64) + j)) (n % 64)) ∧ r.ownBlock ≠ some p
  len : w.cell? ⟨p, 9, none⟩ = some (.int .i64 (n : Int))
  fz : ∀ j, w.frozen? ⟨p, j, none⟩ = false

theorem load_cells {w : World} {b n : Nat} {g : Nat → Nat} {ty e : TypeId} {m : Nat} (h : ∀ j, j < n → w.cell? ⟨b, j, none⟩ = some (.int .u32 ((g j : Nat) : Int))) (hu : Tryd.prog.underlying ty = some (.array m e))
    (hi : (Tryd.prog.info? ty).map (·.size) = some n) : (Instr.loadAt ty (.pointer (some ⟨b, 0, none⟩))).run Tryd.prog w = .ok (.agg (ws g n).toArray) w := by
  have := run_loadVar_at (P := Tryd.prog) w ⟨b, 0, none⟩ ty e m (ws g n) (fun j v hj => by
    have hjn : j < n := by
      have := (List.getElem?_eq_some_iff.1 hj).1
      rwa [ws_len] at this
    rw [ws_get g n j hjn] at hj
    cases hj
    have e : (⟨b, 0, none⟩ : Addr).add j = ⟨b, 0 + j, none⟩ := by unfold Addr.add; split <;> simp_all
    rw [e, Nat.zero_add]
    exact h j hjn) hu (by rw [ws_len]; exact hi)
  simp only [Instr.loadAt, Instr.sureAddr, Sem.run_bind, Sem.run_pure, Result.andThen_ok, this]

set_option maxRecDepth 100000 in
set_option maxHeartbeats 2000000 in
theorem new_walk (S : St) (w : World) (hS : Hid (∀ j, j < 8 → w.cell? ⟨0, j, none⟩ = some (.int .u32 ((S.at j : Nat) : Int)))) :
    Calls Tryd.prog 14 #[] w fun e w' => e = .returned (.pointer (some ⟨w.heap.size, 0, none⟩)) ∧ w' = w.alloc (.cells #[.int .u32 ((S.a : Nat) : Int), .int .u32 ((S.b : Nat) : Int), .int .u32 ((S.c : Nat) : Int), .int .u32 ((S.d : Nat) : Int), .int .u32 ((S.e : Nat) : Int), .int .u32 ((S.f : Nat) : Int), .int .u32 ((S.g : Nat) : Int), .int .u32 ((S.h : Nat) : Int), .slice none 0 0, .int .i64 0] 46) := by
  go_enter Tryd.func14, Tryd.ntmps14
  go_wp2_with (refine wpList_load_of rfl 44 (.global 0) rfl (.pointer (some ⟨0, 0, none⟩)) (stV S) rfl (load_cells (g := S.at) (n := 8) hS.out Tryd.underlying44 (by kernel_rfl)) ?_; simp only [Act.put, List.setIfInBounds_toArray, List.set_cons_zero, List.set_cons_succ, List.tail_cons])
  go_ret
  exact ⟨rfl, rfl⟩

theorem new_c (f : Nat → Nat) (hf : ∀ j, f j < 256) (w : World) (hL : Laid w) :
    Calls Tryd.prog 14 #[] w fun e w' => (∃ p, e = .returned (.pointer (some ⟨p, 0, none⟩)) ∧ HashAt w' w.heap.size p f 0) ∧ Below w.heap.size w w' := by
  refine (new_walk s0 w (Lib.hid hL.s)).mono ?_
  rintro e w' ⟨rfl, rfl⟩
  have hb := heap_alloc_new w (.cells #[.int .u32 ((s0.a : Nat) : Int), .int .u32 ((s0.b : Nat) : Int), .int .u32 ((s0.c : Nat) : Int), .int .u32 ((s0.d : Nat) : Int), .int .u32 ((s0.e : Nat) : Int), .int .u32 ((s0.f : Nat) : Int), .int .u32 ((s0.g : Nat) : Int), .int .u32 ((s0.h : Nat) : Int), .slice none 0 0, .int .i64 0] 46)
  refine ⟨⟨w.heap.size, rfl, hf, Nat.le_refl _, by simp only [World.size_alloc]; omega, fun j hj => ?_, ⟨.slice none 0 0, ?_, ?_, ?_⟩, ?_, fun j => ?_⟩, (Below.refl _ _).alloc (Nat.le_refl _) _⟩
  · rw [cell_of_row _ w.heap.size j _ _ _ hb]
    have h : j = 0 ∨ j = 1 ∨ j = 2 ∨ j = 3 ∨ j = 4 ∨ j = 5 ∨ j = 6 ∨ j = 7 := by omega
    rcases h with rfl | rfl | rfl | rfl | rfl | rfl | rfl | rfl <;> rfl
  · rw [cell_of_row _ w.heap.size 8 _ _ _ hb]; rfl
  · exact World.ownsRow_nil _ _ _ _
  · intro h; cases h
  · rw [cell_of_row _ w.heap.size 9 _ _ _ hb]; rfl
  · exact frozen_of_row _ w.heap.size j _ _ hb
end Go.Proofs.YtdaggankfokloaaDoor
