/- For every input the law AuditRejects of chapter 18 returns true and leaves its arguments as they are: if one element of one of more shares than the threshold is changed, they are not consistent. Conditions: the variable of the fields holds what the program's text lays (the card ties it). -/
import Derived.Test.YtdnkkbmpefhbjaaGreatDoorPhE
import Derived.Test.YtdnkkbmpefhbjaaGreatDoorTie
import Derived.Test.YtdnkkbmpefhbjaaGreatDoorCards
import Derived.SevenTiedAt
namespace Go.Proofs.YtdnkkbmpefhbjaaGreatDoor.AuditRejectsDone
set_option linter.all false
open Go Go.ChangeShapes Go.WideShapes Go.ChangeAt Go.WideMaps Go.WideElems Go.RowKit Go.Proofs.YtdnkkbmpefhbjaaGreatDoor
theorem walk (W : World) (F T N L : Int) (sa : Option Addr) (sn sc : Nat) (f : Nat → Nat) (ra : Option Addr) (rn rc : Nat) (fr : Nat → Nat) (xf xk yv : Nat) (hf : ∀ j, f j < 256) (HS : LstAt W 1 (.slice sa sn sc) sn (en bc f sn)) (hfr : ∀ j, fr j < 256) (HR : LstAt W 1 (.slice ra rn rc) rn (en bc fr rn)) (hxf : xf < 256) (hxk : xk < 256) (hy4 : yv < R4) (HL : Laid W) :
    Calls Tryz.prog 6 #[.agg #[.int .i64 F, .int .i64 T, .int .i64 N, .int .i64 L, .slice sa sn sc, .slice ra rn rc], .agg #[.int .u8 ((xf : Nat) : Int), .int .u8 ((xk : Nat) : Int)], vec yv] W fun e w => e = .returned (.bool true) ∧ Below W.heap.size W w := lawRej_c W F T N L sa sn sc f ra rn rc fr xf xk yv hf HS hfr HR hxf hxk hy4 HL
theorem door_met (os : Os) (args : Array Value) : laidMetH Tryz.prog [("sharecore/field.fields", Rows.laid_sharecore_field_fields)] ((World.doorLaid Tryz.prog 400 os).forCall (fun _ _ => 0) ⟨#[], args, []⟩).memory :=
  laidMetH_of_parts3 (fuel := 8) (laidMet_of_run' 8 (by kernel_rfl) (by kernel_rfl)) (by kernel_rfl) (by kernel_rfl)

set_option maxRecDepth 100000 in
theorem lifted (os : Os) (started : os.Started) (H : Type) (enc : TypeId × Value → H) :
    ReturnsInHanded {} Tryz.checked os 6 .any (fun w args => (Rows.auditRejectsSpec.pre enc Tryz.prog Tryz.f6 [] false w args ∧ laidMetH Tryz.prog [("sharecore/field.fields", Rows.laid_sharecore_field_fields)] w) ∧ sizedMet enc Tryz.prog Tryz.f6 (OpenSpec.ofChange Rows.auditRejectsSpec) false w args)
      (Rows.auditRejectsSpec.post enc Tryz.prog Tryz.f6 false true false false) := by
  refine returnsInHanded_of_change_and (C := Tryz.checked) (X := fun w _ => laidMetH Tryz.prog [("sharecore/field.fields", Rows.laid_sharecore_field_fields)] w) (fun _ _ _ hh h => h.of_heap hh) own started (by kernel_rfl) Tryz.func6
    (ChangeSpec.witness_shaped (enc := enc) (C := Tryz.checked) (os := os) (X := fun w _ => laidMetH Tryz.prog [("sharecore/field.fields", Rows.laid_sharecore_field_fields)] w) false (World.doorLaid Tryz.prog 400 os) #[.agg #[.int .i64 0, .int .i64 0, .int .i64 0, .int .i64 0, .slice Option.none 0 0, .slice Option.none 0 0], .agg #[.int .u8 0, .int .u8 0], .agg #[.int .u64 0, .int .u64 0, .int .u64 0, .int .u64 0]] 8 rfl (World.shaped_of_RefB (by kernel_rfl) (by kernel_rfl)) (by kernel_rfl) (by kernel_rfl) (by kernel_rfl) (door_met os _)) ?_
  intro W base args ds gs before hval0 hW _ hsz hL _
  have hval : ∀ (j : Nat) t v, Tryz.f6.params[j]? = some t → args[j]? = some v → Value.okWide Tryz.prog W .any base t v := hval0
  have hW' := hW
  obtain ⟨p, q, hA0, hV, rfl, hfz, hnd⟩ := hW
  have hA : DataW.TrodAll enc Tryz.prog W 0 (fun _ => true) true Tryz.f6.params.toList args.toList ds p := hA0
  rw [Tryz.params6] at hA hval
  obtain ⟨v0, vs0, d0, ds0, p0, q0, hargs, rfl, rfl, h0, r0⟩ := trodAll_cons hA
  obtain ⟨v1, vs1, d1, ds1, p1, q1, rfl, rfl, rfl, h1, r1⟩ := trodAll_cons r0
  obtain ⟨v2, vs2, d2, ds2, p2, q2, rfl, rfl, rfl, h2, r2⟩ := trodAll_cons r1
  obtain ⟨rfl, rfl, rfl⟩ := trodAll_nil r2
  obtain rfl : args = #[v0, v1, v2] := by cases args; simp_all
  obtain ⟨rfl, rfl⟩ := trodVars_none hV
  have k0 := h0
  obtain ⟨F0, T0, N0, L0, a0, n0, c0, z0, aa0, nn0, cc0, zz0, rfl, w0, y0, ww0, yy0⟩ := open_secret (hval 0 44 v0 rfl rfl) h0
  have k1 := h1
  obtain ⟨x1, y1, rfl, w1, ww1⟩ := open_two (hval 1 45 v1 rfl rfl) h1
  have k2 := h2
  obtain ⟨x2, l2, rfl⟩ := open_vec Tryz.underlying47 cellsVec (hval 2 47 v2 rfl rfl) h2
  clear hA0 hval0
  refine (walk W F0 T0 N0 L0 a0 n0 c0 z0 aa0 nn0 cc0 zz0 x1 y1 x2 w0 y0 ww0 yy0 w1 ww1 l2 (of_laid hL)).mono fun e W' ⟨he, bel⟩ => ?_
  subst he
  exact ⟨_, rfl, _, _, _, [], _, [], hW', trodAll_mk1 (shut_bool Tryz.underlying4 _), (trodAll_cons_mk (Below.trod laidOut (by kernel_rfl) (of_decide_eq_true (by kernel_rfl)) k0 bel (lt_of k0)) (trodAll_cons_mk (Below.trod laidOut (by kernel_rfl) (of_decide_eq_true (by kernel_rfl)) k1 bel (lt_of k1)) (trodAll_cons_mk (Below.trod laidOut (by kernel_rfl) (of_decide_eq_true (by kernel_rfl)) k2 bel (lt_of k2)) trodAll_mk0))), rfl, bel.frame _, fun h => by cases h⟩

theorem auditRejects_holds : Rows.AuditRejectsSaid :=
  OpenClaim.holds_of_wide 6 Tryz.f6 rfl rfl rfl rfl rfl rfl rfl ⟨rfl, rfl, rfl, rfl, rfl⟩ rfl rfl rfl rfl rfl (by kernel_rfl) Tryz.func6 (by kernel_rfl)
    (of_decide_eq_true (by kernel_rfl)) (by unfold Func.isWrapper; first | (rw [if_pos (by decide +kernel)]; kernel_rfl) | (rw [if_neg (by decide +kernel)]; exact ⟨rfl, rfl⟩))
    (fun os started H enc _ => lifted os started H enc)

/-- THE STATEMENT: the tied card. -/
theorem proved : Rows.AuditRejectsCardSaid :=
  Claim7.holds_tied_plain_at .later [] [.data] true (true, "1c35e067073bbd307752a51480e69319cd2a28e00e4f9ebd941344875f146385") false
    auditRejects_holds (fun _ h => by cases h) (by kernel_rfl) (fun _ h => by cases h) auditRejects_row_tie rfl ⟨rfl, rfl⟩ (by kernel_rfl) rfl
    (fun f fn hf hfn => by
      obtain rfl : f = 6 := Option.some.inj ((show Tryz.prog.funcNamed "sharecore/sharecorelaw18.AuditRejects" = some 6 by kernel_rfl).symm.trans hf) |>.symm
      obtain rfl : fn = Tryz.f6 := (Option.some.inj (Tryz.func6.symm.trans hfn)).symm
      exact ⟨by kernel_rfl, fun j t ht => by
        rw [Tryz.params6] at ht
        have hm : t ∈ [44, 45, 47] := by simpa using Array.mem_of_getElem? ht
        have hall : ([44, 45, 47].all fun u => !Tryz.prog.wantsStandIn u) = true := by kernel_rfl
        exact (show Tryz.prog.wantsStandIn t = false by simpa using List.all_eq_true.1 hall t hm)⟩)
    (by kernel_rfl)
#print axioms proved
end Go.Proofs.YtdnkkbmpefhbjaaGreatDoor.AuditRejectsDone
