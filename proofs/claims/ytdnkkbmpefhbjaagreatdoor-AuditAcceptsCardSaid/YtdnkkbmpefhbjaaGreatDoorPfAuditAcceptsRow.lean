/- For every input the law AuditAccepts of chapter 18 returns true and leaves its arguments as they are: all shares of a secret are consistent, in any order. Conditions: the variable of the fields holds what the program's text lays (the card ties it). -/
import Derived.Test.YtdnkkbmpefhbjaaGreatDoorPfE
import Derived.Test.YtdnkkbmpefhbjaaGreatDoorTie
import Derived.Test.YtdnkkbmpefhbjaaGreatDoorCards
import Derived.SevenTiedAt
namespace Go.Proofs.YtdnkkbmpefhbjaaGreatDoor.AuditAcceptsDone
set_option linter.all false
open Go Go.ChangeShapes Go.WideShapes Go.ChangeAt Go.WideMaps Go.WideElems Go.RowKit Go.Proofs.YtdnkkbmpefhbjaaGreatDoor
theorem walk (W : World) (F T N L : Int) (sa : Option Addr) (sn sc : Nat) (f : Nat → Nat) (ra : Option Addr) (rn rc : Nat) (fr : Nat → Nat) (xf : Nat) (hf : ∀ j, f j < 256) (HS : LstAt W 1 (.slice sa sn sc) sn (en bc f sn)) (hfr : ∀ j, fr j < 256) (HR : LstAt W 1 (.slice ra rn rc) rn (en bc fr rn)) (hxf : xf < 256) (HL : Laid W) :
    Calls Tryz.prog 8 #[.agg #[.int .i64 F, .int .i64 T, .int .i64 N, .int .i64 L, .slice sa sn sc, .slice ra rn rc], .int .u8 ((xf : Nat) : Int)] W fun e w => e = .returned (.bool true) ∧ Below W.heap.size W w := lawAcc_c W F T N L sa sn sc f ra rn rc fr xf hf HS hfr HR hxf HL
theorem door_met (os : Os) (args : Array Value) : laidMetH Tryz.prog [("sharecore/field.fields", Rows.laid_sharecore_field_fields)] ((World.doorLaid Tryz.prog 400 os).forCall (fun _ _ => 0) ⟨#[], args, []⟩).memory :=
  laidMetH_of_parts3 (fuel := 8) (laidMet_of_run' 8 (by kernel_rfl) (by kernel_rfl)) (by kernel_rfl) (by kernel_rfl)

set_option maxRecDepth 100000 in
theorem lifted (os : Os) (started : os.Started) (H : Type) (enc : TypeId × Value → H) :
    ReturnsInHanded {} Tryz.checked os 8 .any (fun w args => (Rows.auditAcceptsSpec.pre enc Tryz.prog Tryz.f8 [] false w args ∧ laidMetH Tryz.prog [("sharecore/field.fields", Rows.laid_sharecore_field_fields)] w) ∧ sizedMet enc Tryz.prog Tryz.f8 (OpenSpec.ofChange Rows.auditAcceptsSpec) false w args)
      (Rows.auditAcceptsSpec.post enc Tryz.prog Tryz.f8 false true false false) := by
  refine returnsInHanded_of_change_and (C := Tryz.checked) (X := fun w _ => laidMetH Tryz.prog [("sharecore/field.fields", Rows.laid_sharecore_field_fields)] w) (fun _ _ _ hh h => h.of_heap hh) own started (by kernel_rfl) Tryz.func8
    (ChangeSpec.witness_shaped (enc := enc) (C := Tryz.checked) (os := os) (X := fun w _ => laidMetH Tryz.prog [("sharecore/field.fields", Rows.laid_sharecore_field_fields)] w) false (World.doorLaid Tryz.prog 400 os) #[.agg #[.int .i64 0, .int .i64 0, .int .i64 0, .int .i64 0, .slice Option.none 0 0, .slice Option.none 0 0], .int .u8 0] 8 rfl (World.shaped_of_RefB (by kernel_rfl) (by kernel_rfl)) (by kernel_rfl) (by kernel_rfl) (by kernel_rfl) (door_met os _)) ?_
  intro W base args ds gs before hval0 hW _ hsz hL _
  have hval : ∀ (j : Nat) t v, Tryz.f8.params[j]? = some t → args[j]? = some v → Value.okWide Tryz.prog W .any base t v := hval0
  have hW' := hW
  obtain ⟨p, q, hA0, hV, rfl, hfz, hnd⟩ := hW
  have hA : DataW.TrodAll enc Tryz.prog W 0 (fun _ => true) true Tryz.f8.params.toList args.toList ds p := hA0
  rw [Tryz.params8] at hA hval
  obtain ⟨v0, vs0, d0, ds0, p0, q0, hargs, rfl, rfl, h0, r0⟩ := trodAll_cons hA
  obtain ⟨v1, vs1, d1, ds1, p1, q1, rfl, rfl, rfl, h1, r1⟩ := trodAll_cons r0
  obtain ⟨rfl, rfl, rfl⟩ := trodAll_nil r1
  obtain rfl : args = #[v0, v1] := by cases args; simp_all
  obtain ⟨rfl, rfl⟩ := trodVars_none hV
  have k0 := h0
  obtain ⟨F0, T0, N0, L0, a0, n0, c0, z0, aa0, nn0, cc0, zz0, rfl, w0, y0, ww0, yy0⟩ := open_secret (hval 0 44 v0 rfl rfl) h0
  obtain ⟨x1, rfl, rfl, rfl, w1⟩ := open_int Tryz.underlying5 (hval 1 5 v1 rfl rfl) h1
  have wk1 := w1
  obtain ⟨x1, rfl, l1⟩ := wf_n8 w1
  clear hA0 hval0
  refine (walk W F0 T0 N0 L0 a0 n0 c0 z0 aa0 nn0 cc0 zz0 x1 w0 y0 ww0 yy0 l1 (of_laid hL)).mono fun e W' ⟨he, bel⟩ => ?_
  subst he
  exact ⟨_, rfl, _, _, _, [], _, [], hW', trodAll_mk1 (shut_bool Tryz.underlying4 _), (trodAll_cons_mk (Below.trod laidOut (by kernel_rfl) (of_decide_eq_true (by kernel_rfl)) k0 bel (lt_of k0)) (trodAll_cons_mk (shut_int Tryz.underlying5 wk1) trodAll_mk0)), rfl, bel.frame _, fun h => by cases h⟩

theorem auditAccepts_holds : Rows.AuditAcceptsSaid :=
  OpenClaim.holds_of_wide 8 Tryz.f8 rfl rfl rfl rfl rfl rfl rfl ⟨rfl, rfl, rfl, rfl, rfl⟩ rfl rfl rfl rfl rfl (by kernel_rfl) Tryz.func8 (by kernel_rfl)
    (of_decide_eq_true (by kernel_rfl)) (by unfold Func.isWrapper; first | (rw [if_pos (by decide +kernel)]; kernel_rfl) | (rw [if_neg (by decide +kernel)]; exact ⟨rfl, rfl⟩))
    (fun os started H enc _ => lifted os started H enc)

/-- THE STATEMENT: the tied card. -/
theorem proved : Rows.AuditAcceptsCardSaid :=
  Claim7.holds_tied_plain_at .later [] [.data] true (true, "1c35e067073bbd307752a51480e69319cd2a28e00e4f9ebd941344875f146385") false
    auditAccepts_holds (fun _ h => by cases h) (by kernel_rfl) (fun _ h => by cases h) auditAccepts_row_tie rfl ⟨rfl, rfl⟩ (by kernel_rfl) rfl
    (fun f fn hf hfn => by
      obtain rfl : f = 8 := Option.some.inj ((show Tryz.prog.funcNamed "sharecore/sharecorelaw18.AuditAccepts" = some 8 by kernel_rfl).symm.trans hf) |>.symm
      obtain rfl : fn = Tryz.f8 := (Option.some.inj (Tryz.func8.symm.trans hfn)).symm
      exact ⟨by kernel_rfl, fun j t ht => by
        rw [Tryz.params8] at ht
        have hm : t ∈ [44, 5] := by simpa using Array.mem_of_getElem? ht
        have hall : ([44, 5].all fun u => !Tryz.prog.wantsStandIn u) = true := by kernel_rfl
        exact (show Tryz.prog.wantsStandIn t = false by simpa using List.all_eq_true.1 hall t hm)⟩)
    (by kernel_rfl)
#print axioms proved
end Go.Proofs.YtdnkkbmpefhbjaaGreatDoor.AuditAcceptsDone
