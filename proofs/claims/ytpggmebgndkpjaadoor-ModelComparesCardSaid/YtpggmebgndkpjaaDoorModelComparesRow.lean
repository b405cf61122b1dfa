/- For every input the law ModelCompares of chapter 21 returns true and leaves its arguments as they are: for every two lists of events, Compare returns the same number as the reference. Conditions: the variable of the fields holds what the program's text lays (the card ties it). -/
import Derived.Test.YtpggmebgndkpjaaDoorLaw21
import Derived.Test.YtpggmebgndkpjaaDoorOpenEv
import Derived.Test.YtpggmebgndkpjaaDoorTie
import Derived.Test.YtpggmebgndkpjaaDoorCards
import Derived.SevenTiedAt
namespace Go.Proofs.YtpggmebgndkpjaaDoor.ModelComparesDone
set_option linter.all false
open Go Go.ChangeShapes Go.WideShapes Go.ChangeAt Go.WideMaps Go.WideElems Go.RowKit Go.Proofs.YtpggmebgndkpjaaDoor
theorem walk (W : World) (la : Option Addr) (n lc : Nat) (l : List Ev) (ma : Option Addr) (nm mc : Nat) (m : List Ev) (H1 : LstAt W 3 (.slice la n lc) n (el ec l)) (H2 : LstAt W 3 (.slice ma nm mc) nm (el ec m)) (HL : Laid W) : Calls Tryd.prog 4 #[.slice la n lc, .slice ma nm mc] W fun e w => e = .returned (.bool true) ∧ Below W.heap.size W w := lawCompares_c la ma n lc nm mc l m W H1 H2 HL
theorem door_met (os : Os) (args : Array Value) : laidMetH Tryd.prog [("sharecore/field.fields", Rows.laid_sharecore_field_fields)] ((World.doorLaid Tryd.prog 400 os).forCall (fun _ _ => 0) ⟨#[], args, []⟩).memory :=
  laidMetH_of_parts3 (fuel := 8) (laidMet_of_run' 8 (by kernel_rfl) (by kernel_rfl)) (by kernel_rfl) (by kernel_rfl)

set_option maxRecDepth 100000 in
theorem lifted (os : Os) (started : os.Started) (H : Type) (enc : TypeId × Value → H) :
    ReturnsInHanded {} Tryd.checked os 4 .any (fun w args => (Rows.modelComparesSpec.pre enc Tryd.prog Tryd.f4 [] false w args ∧ laidMetH Tryd.prog [("sharecore/field.fields", Rows.laid_sharecore_field_fields)] w) ∧ sizedMet enc Tryd.prog Tryd.f4 (OpenSpec.ofChange Rows.modelComparesSpec) false w args)
      (Rows.modelComparesSpec.post enc Tryd.prog Tryd.f4 false true false false) := by
  refine returnsInHanded_of_change_and (C := Tryd.checked) (X := fun w _ => laidMetH Tryd.prog [("sharecore/field.fields", Rows.laid_sharecore_field_fields)] w) (fun _ _ _ hh h => h.of_heap hh) own started (by kernel_rfl) Tryd.func4
    (ChangeSpec.witness_shaped (enc := enc) (C := Tryd.checked) (os := os) (X := fun w _ => laidMetH Tryd.prog [("sharecore/field.fields", Rows.laid_sharecore_field_fields)] w) false (World.doorLaid Tryd.prog 400 os) #[.slice Option.none 0 0, .slice Option.none 0 0] 8 rfl (World.shaped_of_RefB (by kernel_rfl) (by kernel_rfl)) (by kernel_rfl) (by kernel_rfl) (by kernel_rfl) (door_met os _)) ?_
  intro W base args ds gs before hval0 hW _ hsz hL _
  have hval : ∀ (j : Nat) t v, Tryd.f4.params[j]? = some t → args[j]? = some v → Value.okWide Tryd.prog W .any base t v := hval0
  have hW' := hW
  obtain ⟨p, q, hA0, hV, rfl, hfz, hnd⟩ := hW
  have hA : DataW.TrodAll enc Tryd.prog W 0 (fun _ => true) true Tryd.f4.params.toList args.toList ds p := hA0
  rw [Tryd.params4] at hA hval
  obtain ⟨v0, vs0, d0, ds0, p0, q0, hargs, rfl, rfl, h0, r0⟩ := trodAll_cons hA
  obtain ⟨v1, vs1, d1, ds1, p1, q1, rfl, rfl, rfl, h1, r1⟩ := trodAll_cons r0
  obtain ⟨rfl, rfl, rfl⟩ := trodAll_nil r1
  obtain rfl : args = #[v0, v1] := by cases args; simp_all
  obtain ⟨rfl, rfl⟩ := trodVars_none hV
  have k0 := h0
  obtain ⟨a0, n0, c0, rfl⟩ := okWide_slice Tryd.underlying26 (hval 0 26 v0 rfl rfl)
  obtain ⟨z0, w0, y0⟩ := open_evs h0
  have k1 := h1
  obtain ⟨a1, n1, c1, rfl⟩ := okWide_slice Tryd.underlying26 (hval 1 26 v1 rfl rfl)
  obtain ⟨z1, w1, y1⟩ := open_evs h1
  clear hA0 hval0
  refine (walk W a0 n0 c0 z0 a1 n1 c1 z1 y0 y1 (of_laid hL)).mono fun e W' ⟨he, bel⟩ => ?_
  subst he
  exact ⟨_, rfl, _, _, _, [], _, [], hW', trodAll_mk1 (shut_bool Tryd.underlying4 _), (trodAll_cons_mk (Below.trod laidOut (by kernel_rfl) (of_decide_eq_true (by kernel_rfl)) k0 bel (lt_of k0)) (trodAll_cons_mk (Below.trod laidOut (by kernel_rfl) (of_decide_eq_true (by kernel_rfl)) k1 bel (lt_of k1)) trodAll_mk0)), rfl, bel.frame _, fun h => by cases h⟩

theorem modelCompares_holds : Rows.ModelComparesSaid :=
  OpenClaim.holds_of_wide 4 Tryd.f4 rfl rfl rfl rfl rfl rfl rfl ⟨rfl, rfl, rfl, rfl, rfl⟩ rfl rfl rfl rfl rfl (by kernel_rfl) Tryd.func4 (by kernel_rfl)
    (of_decide_eq_true (by kernel_rfl)) (by unfold Func.isWrapper; first | (rw [if_pos (by decide +kernel)]; kernel_rfl) | (rw [if_neg (by decide +kernel)]; exact ⟨rfl, rfl⟩))
    (fun os started H enc _ => lifted os started H enc)

/-- THE STATEMENT: the tied card. -/
theorem proved : Rows.ModelComparesCardSaid :=
  Claim7.holds_tied_plain_at .later [] [.data] true (true, "0c7cc21d03ad777eaa822b665cdc9c8ecdd0f5fed5900b2b1fa220686e6c15e3") false
    modelCompares_holds (fun _ h => by cases h) (by kernel_rfl) (fun _ h => by cases h) modelCompares_row_tie rfl ⟨rfl, rfl⟩ (by kernel_rfl) rfl
    (fun f fn hf hfn => by
      obtain rfl : f = 4 := Option.some.inj ((show Tryd.prog.funcNamed "sharecore/sharecorelaw21.ModelCompares" = some 4 by kernel_rfl).symm.trans hf) |>.symm
      obtain rfl : fn = Tryd.f4 := (Option.some.inj (Tryd.func4.symm.trans hfn)).symm
      exact ⟨by kernel_rfl, fun j t ht => by
        rw [Tryd.params4] at ht
        have hm : t ∈ [26, 26] := by simpa using Array.mem_of_getElem? ht
        have hall : ([26, 26].all fun u => !Tryd.prog.wantsStandIn u) = true := by kernel_rfl
        exact (show Tryd.prog.wantsStandIn t = false by simpa using List.all_eq_true.1 hall t hm)⟩)
    (by kernel_rfl)
#print axioms proved
end Go.Proofs.YtpggmebgndkpjaaDoor.ModelComparesDone
