/- The walk of law 12's ShaNil. -/
import Derived.Test.YtdaggankfokloaaDoorLawMatches
namespace Go.Proofs.YtdaggankfokloaaDoor
set_option linter.all false
open Go Go.RowKit

abbrev zero32 : Value := .agg #[.int .u8 0, .int .u8 0, .int .u8 0, .int .u8 0, .int .u8 0, .int .u8 0, .int .u8 0, .int .u8 0, .int .u8 0, .int .u8 0, .int .u8 0, .int .u8 0, .int .u8 0, .int .u8 0, .int .u8 0, .int .u8 0, .int .u8 0, .int .u8 0, .int .u8 0, .int .u8 0, .int .u8 0, .int .u8 0, .int .u8 0, .int .u8 0, .int .u8 0, .int .u8 0, .int .u8 0, .int .u8 0, .int .u8 0, .int .u8 0, .int .u8 0, .int .u8 0]
theorem eqlZero (w : World) : (Op.equalIn 10000 25 zero32 zero32).run Tryd.prog w = .ok true w := (eql32 (fun _ => 0) (fun _ => 0) w).trans (by rw [eqF_refl])
theorem writeNil_c (a : Option Addr) (n c : Nat) (w : World) :
    Calls Tryd.prog 15 #[.pointer none, .slice a n c] w fun e w' => e = .returned (.tuple #[]) ∧ w = w' := by
  go_enter Tryd.func15, Tryd.ntmps15
  go_wp2_with fail
  exact bodyPost_ret (v := .tuple #[]) (by simp only [results, Tryd.results15]; go_simp) rfl ⟨rfl, rfl⟩
theorem lenNil_c (w : World) :
    Calls Tryd.prog 17 #[.pointer none] w fun e w' => e = .returned (.int .i64 0) ∧ w = w' := by
  go_enter Tryd.func17, Tryd.ntmps17
  go_wp2_with fail
  go_ret
  exact ⟨rfl, rfl⟩
theorem cloneNil_c (w : World) :
    Calls Tryd.prog 18 #[.pointer none] w fun e w' => e = .returned (.pointer none) ∧ w = w' := by
  go_enter Tryd.func18, Tryd.ntmps18
  go_wp2_with fail
  go_ret
  exact ⟨rfl, rfl⟩
set_option maxRecDepth 100000 in
theorem sumNil_c (w : World) :
    Calls Tryd.prog 16 #[.pointer none] w fun e w' => e = .returned zero32 ∧ Below w.heap.size w w' := by
  go_enter Tryd.func16, Tryd.ntmps16
  have HR : Hid (∀ W, W = w.alloc (.cells (match zero32 with | .agg xs => xs | _ => #[]) 25) → RowB W w.heap.size 32 (fun _ => 0) 25 ∧ Below w.heap.size w W) := fun W e => by
    subst e
    exact ⟨heap_alloc_new w _, (Below.refl _ _).alloc (Nat.le_refl _) _⟩
  go_wp2_with (first
    | ((with_reducible show wpList _ _ _ (⟨_, Op.load _ (.tmp 2), _, _, _, _⟩ :: _) _ _); refine wpl_name ?_; intro wA hA; obtain ⟨hr, hbA⟩ := HR.out wA hA; have Hr := Lib.hid hr; have HbA := Lib.hid hbA; clear hA hr hbA; refine wpList_load_of rfl 25 (.tmp 2) rfl (.pointer (some ⟨w.heap.size, 0, none⟩)) (.agg (fl (fun _ => 0) 32).toArray) rfl (load_bytes (g := fun _ => 0) (n := 32) (fun j hj => Hr.out.cell hj) Tryd.underlying25 (by kernel_rfl)) ?_; simp only [Act.put, List.setIfInBounds_toArray, List.set_cons_zero, List.set_cons_succ, List.tail_cons])
    | ((with_reducible show wpList _ _ _ (⟨none, Op.store _ (.tmp 2) _, _, _, _, _⟩ :: _) _ _); refine wpList_store_mid rfl 25 (.tmp 2) (.tmp 10) rfl w.heap.size 0 (fl (fun _ => 0) 32).toArray rfl rfl Hr.out.there (info_fl (by kernel_rfl)) (fl_oneA (fun _ => 0) 32) ?_; simp only [Act.put, List.setIfInBounds_toArray, List.set_cons_zero, List.set_cons_succ, List.tail_cons]))
  exact bodyPost_ret (v := .agg (fl (fun _ => 0) 32).toArray) (results_bytes (g := fun _ => 0) (b := w.heap.size) rfl rfl Hr.out.stored Tryd.underlying25 (by kernel_rfl)) rfl ⟨rfl, below_setCells (Nat.le_refl _) _ _ _ _ HbA.out⟩

set_option maxRecDepth 100000 in
set_option maxHeartbeats 8000000 in
theorem shaNil_c (a : Option Addr) (n c : Nat) (w : World) (hL : Laid w) :
    Calls Tryd.prog 7 #[.slice a n c] w fun e w' => e = .returned (.bool true) ∧ Below w.heap.size w w' := by
  have HL := Lib.hid hL
  clear hL
  have hz := eqlZero
  go_enter Tryd.func7, Tryd.ntmps7
  go_wp2_with fail
  refine Calls.mono (writeNil_c a n c _) ?_
  rintro _ _ ⟨rfl, rfl⟩
  go_wp2_with fail
  refine Calls.mono (lawalive_c _ HL.out) ?_
  rintro _ w1 ⟨rfl, h1⟩
  obtain ⟨c1, f1, s1⟩ := bfacts h1
  try simp only [World.size_alloc, World.size_setCell, size_drew, size_drewN] at s1
  go_wp2_with fail
  refine Calls.mono (lenNil_c _) ?_
  rintro _ _ ⟨rfl, rfl⟩
  go_wp2_with fail
  refine Calls.mono (sumNil_c _) ?_
  rintro _ w2 ⟨rfl, h2⟩
  obtain ⟨c2, f2, s2⟩ := bfacts h2
  try simp only [World.size_alloc, World.size_setCell, size_drew, size_drewN] at s2
  go_wp2_with fail
  refine Calls.mono (cloneNil_c _) ?_
  rintro _ _ ⟨rfl, rfl⟩
  go_wp2_with fail
  go_ret
  exact ⟨rfl, (by repeat first | with_reducible exact Below.refl _ _ | with_reducible refine Below.drew ?_ | with_reducible refine below_dN ?_ | with_reducible refine Below.alloc ?_ (by first | omega | (simp; done) | (simp; omega)) _ | with_reducible refine Below.setCell ?_ (by first | omega | (simp; done) | (simp; omega)) _ | with_reducible refine Below.trans ?_ (Below.mono (by assumption) (by first | omega | (simp; done) | (simp; omega))))⟩
end Go.Proofs.YtdaggankfokloaaDoor
