/- For every input the law MontChooses of chapter 5 returns true and leaves its arguments as they are: Choose returns one of two elements, and IsZero the mask of whether one is zero. Conditions: the variable of the fields holds what the program's text lays (the card ties it). -/
import Derived.Test.YtpebojiijgkadaaDoorLawChooses
import Derived.Test.YtpebojiijgkadaaDoorRowKit
import Derived.Test.YtpebojiijgkadaaDoorTie
import Derived.Test.YtpebojiijgkadaaDoorCards
import Derived.SevenTiedAt
namespace Go.Proofs.YtpebojiijgkadaaDoor.MontChoosesDone
set_option linter.all false
open Go Go.ChangeShapes Go.WideShapes Go.ChangeAt Go.WideMaps Go.WideElems Go.RowKit Go.Proofs.YtpebojiijgkadaaDoor

theorem montChooses_u (m : Int) (a b : Nat) (hm : (Lit.int .u64 m).wf = true) (ha : a < R4) (hb : b < R4) (w : World) (hL : Laid w) :
    Calls Tryd.prog 8 #[.int .u64 m, vec a, vec b] w fun e w' => e = .returned (.bool true) ∧ Below w.heap.size w w' := by
  obtain ⟨n, rfl, hn⟩ := wf64 hm
  exact montChooses_c n a b hn ha hb w hL

theorem door_met (os : Os) (args : Array Value) : laidMetH Tryd.prog [("sharecore/field.fields", Rows.laid_sharecore_field_fields)] ((World.doorLaid Tryd.prog 400 os).forCall (fun _ _ => 0) ⟨#[], args, []⟩).memory :=
  laidMetH_of_parts3 (fuel := 8) (laidMet_of_run' 8 (by kernel_rfl) (by kernel_rfl)) (by kernel_rfl) (by kernel_rfl)

set_option maxRecDepth 100000 in
theorem lifted (os : Os) (started : os.Started) (H : Type) (enc : TypeId × Value → H) :
    ReturnsInHanded {} Tryd.checked os 8 .any (fun w args => (Rows.montChoosesSpec.pre enc Tryd.prog Tryd.f8 [] false w args ∧ laidMetH Tryd.prog [("sharecore/field.fields", Rows.laid_sharecore_field_fields)] w) ∧ sizedMet enc Tryd.prog Tryd.f8 (OpenSpec.ofChange Rows.montChoosesSpec) false w args)
      (Rows.montChoosesSpec.post enc Tryd.prog Tryd.f8 false true false false) := by
  refine returnsInHanded_of_change_and (C := Tryd.checked) (X := fun w _ => laidMetH Tryd.prog [("sharecore/field.fields", Rows.laid_sharecore_field_fields)] w) (fun _ _ _ hh h => h.of_heap hh) own started (by kernel_rfl) Tryd.func8
    (ChangeSpec.witness_shaped (enc := enc) (C := Tryd.checked) (os := os) (X := fun w _ => laidMetH Tryd.prog [("sharecore/field.fields", Rows.laid_sharecore_field_fields)] w) false (World.doorLaid Tryd.prog 400 os) #[.int .u64 0, .agg #[.int .u64 0, .int .u64 0, .int .u64 0, .int .u64 0], .agg #[.int .u64 0, .int .u64 0, .int .u64 0, .int .u64 0]] 8 rfl (World.shaped_of_RefB (by kernel_rfl) (by kernel_rfl)) (by kernel_rfl) (by kernel_rfl) (by kernel_rfl) (door_met os _)) ?_
  intro W base args ds gs before hval0 hW _ _ hL _
  have hval : ∀ (j : Nat) t v, Tryd.f8.params[j]? = some t → args[j]? = some v → Value.okWide Tryd.prog W .any base t v := hval0
  have hW' := hW
  obtain ⟨p, q, hA0, hV, rfl, hfz, hnd⟩ := hW
  have hA : DataW.TrodAll enc Tryd.prog W 0 (fun _ => true) true Tryd.f8.params.toList args.toList ds p := hA0
  rw [Tryd.params8] at hA hval
  obtain ⟨v0, vs0, d0, ds0, p0, q0, hargs, rfl, rfl, h0, r0⟩ := trodAll_cons hA
  obtain ⟨v1, vs1, d1, ds1, p1, q1, rfl, rfl, rfl, h1, r1⟩ := trodAll_cons r0
  obtain ⟨v2, vs2, d2, ds2, p2, q2, rfl, rfl, rfl, h2, r2⟩ := trodAll_cons r1
  obtain ⟨rfl, rfl, rfl⟩ := trodAll_nil r2
  obtain rfl : args = #[v0, v1, v2] := by cases args; simp_all
  obtain ⟨rfl, rfl⟩ := trodVars_none hV
  obtain ⟨x0, rfl, rfl, rfl, w0⟩ := open_int Tryd.underlying22 (hval 0 22 v0 rfl rfl) h0
  have k1 := h1
  obtain ⟨x1, l1, rfl⟩ := open_vec Tryd.underlying24 cellsElem (hval 1 24 v1 rfl rfl) h1
  have k2 := h2
  obtain ⟨x2, l2, rfl⟩ := open_vec Tryd.underlying24 cellsElem (hval 2 24 v2 rfl rfl) h2
  clear hA0 hval0
  refine (montChooses_u x0 x1 x2 w0 l1 l2 W (of_laid hL)).mono fun e W' ⟨he, bel⟩ => ?_
  subst he
  exact ⟨_, rfl, _, _, _, [], _, [], hW', trodAll_mk1 (shut_bool Tryd.underlying4 _), (trodAll_cons_mk (shut_int Tryd.underlying22 w0) (trodAll_cons_mk (Below.trod laidOut (by kernel_rfl) (of_decide_eq_true (by kernel_rfl)) k1 bel (lt_of k1)) (trodAll_cons_mk (Below.trod laidOut (by kernel_rfl) (of_decide_eq_true (by kernel_rfl)) k2 bel (lt_of k2)) trodAll_mk0))), rfl, bel.frame _, fun h => by cases h⟩

theorem montChooses_holds : Rows.MontChoosesSaid :=
  OpenClaim.holds_of_wide 8 Tryd.f8 rfl rfl rfl rfl rfl rfl rfl ⟨rfl, rfl, rfl, rfl, rfl⟩ rfl rfl rfl rfl rfl (by kernel_rfl) Tryd.func8 (by kernel_rfl)
    (of_decide_eq_true (by kernel_rfl)) (by unfold Func.isWrapper; first | (rw [if_pos (by decide +kernel)]; kernel_rfl) | (rw [if_neg (by decide +kernel)]; exact ⟨rfl, rfl⟩))
    (fun os started H enc _ => lifted os started H enc)

/-- THE STATEMENT: the tied card. -/
theorem proved : Rows.MontChoosesCardSaid :=
  Claim7.holds_tied_plain_at .later [] [.data] true (true, "91f6cfb73201a23cf28374feac06eebd6a34392b5f1b421a01686ebf7c3735d5") false
    montChooses_holds (fun _ h => by cases h) (by kernel_rfl) (fun _ h => by cases h) montChooses_row_tie rfl ⟨rfl, rfl⟩ (by kernel_rfl) rfl
    (fun f fn hf hfn => by
      obtain rfl : f = 8 := Option.some.inj ((show Tryd.prog.funcNamed "sharecore/sharecorelaw05.MontChooses" = some 8 by kernel_rfl).symm.trans hf) |>.symm
      obtain rfl : fn = Tryd.f8 := (Option.some.inj (Tryd.func8.symm.trans hfn)).symm
      exact ⟨by kernel_rfl, fun j t ht => by
        rw [Tryd.params8] at ht
        have hm : t ∈ [22, 24, 24] := by simpa using Array.mem_of_getElem? ht
        have hall : ([22, 24, 24].all fun u => !Tryd.prog.wantsStandIn u) = true := by kernel_rfl
        exact (show Tryd.prog.wantsStandIn t = false by simpa using List.all_eq_true.1 hall t hm)⟩)
    (by kernel_rfl)
#print axioms proved
end Go.Proofs.YtpebojiijgkadaaDoor.MontChoosesDone
