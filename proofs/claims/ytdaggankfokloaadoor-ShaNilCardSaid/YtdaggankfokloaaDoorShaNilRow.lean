/- For every input the law ShaNil of chapter 12 returns true and leaves its arguments as they are: a nil Hash has no bytes and the sum of zeros. Conditions: the variables of sha's constants hold what the program's text lays (the card ties it). -/
import Derived.Test.YtdaggankfokloaaDoorLawNil
import Derived.Test.YtdaggankfokloaaDoorRowKit
import Derived.Test.YtdaggankfokloaaDoorTie
import Derived.Test.YtdaggankfokloaaDoorCards
import Derived.SevenTiedAt
import Derived.SizedLaws
namespace Go.Proofs.YtdaggankfokloaaDoor.ShaNilDone
set_option linter.all false
open Go Go.ChangeShapes Go.WideShapes Go.ChangeAt Go.WideMaps Go.WideElems Go.RowKit Go.Proofs.YtdaggankfokloaaDoor

theorem walk (w : World) (a : Option Addr) (n c : Nat) (f : Nat → Nat) (_ : SliceAt w a n c f) (_ : n ≤ 140737488351232) (hL : Laid w) :
    Calls Tryd.prog 7 #[.slice a n c] w fun e w' => e = .returned (.bool true) ∧ Below w.heap.size w w' := shaNil_c a n c w hL

theorem door_met (os : Os) (args : Array Value) : laidMetH Tryd.prog [("sharecore/sha.constants", Rows.laid_sharecore_sha_constants), ("sharecore/sha.start", Rows.laid_sharecore_sha_start)] ((World.doorLaid Tryd.prog 400 os).forCall (fun _ _ => 0) ⟨#[], args, []⟩).memory :=
  laidMetH_of_parts3 (fuel := 8) (laidMet_of_run' 8 (by kernel_rfl) (by kernel_rfl)) (by kernel_rfl) (by kernel_rfl)

set_option maxRecDepth 100000 in
theorem lifted (os : Os) (started : os.Started) (H : Type) (enc : TypeId × Value → H) :
    ReturnsInHanded {} Tryd.checked os 7 .any (fun w args => (Rows.shaNilSpec.pre enc Tryd.prog Tryd.f7 [] false w args ∧ laidMetH Tryd.prog [("sharecore/sha.constants", Rows.laid_sharecore_sha_constants), ("sharecore/sha.start", Rows.laid_sharecore_sha_start)] w) ∧ sizedMet enc Tryd.prog Tryd.f7 (OpenSpec.ofChange Rows.shaNilSpec) false w args)
      (Rows.shaNilSpec.post enc Tryd.prog Tryd.f7 false true false false) := by
  refine returnsInHanded_of_change_and (C := Tryd.checked) (X := fun w _ => laidMetH Tryd.prog [("sharecore/sha.constants", Rows.laid_sharecore_sha_constants), ("sharecore/sha.start", Rows.laid_sharecore_sha_start)] w) (fun _ _ _ hh h => h.of_heap hh) own started (by kernel_rfl) Tryd.func7
    (ChangeSpec.witness_shaped (enc := enc) (C := Tryd.checked) (os := os) (X := fun w _ => laidMetH Tryd.prog [("sharecore/sha.constants", Rows.laid_sharecore_sha_constants), ("sharecore/sha.start", Rows.laid_sharecore_sha_start)] w) false (World.doorLaid Tryd.prog 400 os) #[.slice Option.none 0 0] 8 rfl (World.shaped_of_RefB (by kernel_rfl) (by kernel_rfl)) (by kernel_rfl) (by kernel_rfl) (by kernel_rfl) (door_met os _)) ?_
  intro W base args ds gs before hval0 hW _ hsz hL _
  have hval : ∀ (j : Nat) t v, Tryd.f7.params[j]? = some t → args[j]? = some v → Value.okWide Tryd.prog W .any base t v := hval0
  have hW' := hW
  obtain ⟨p, q, hA0, hV, rfl, hfz, hnd⟩ := hW
  have hA : DataW.TrodAll enc Tryd.prog W 0 (fun _ => true) true Tryd.f7.params.toList args.toList ds p := hA0
  rw [Tryd.params7] at hA hval
  obtain ⟨v0, vs0, d0, ds0, p0, q0, hargs, rfl, rfl, h0, r0⟩ := trodAll_cons hA
  obtain ⟨rfl, rfl, rfl⟩ := trodAll_nil r0
  obtain rfl : args = #[v0] := by cases args; simp_all
  obtain ⟨rfl, rfl⟩ := trodVars_none hV
  have k0 := h0
  obtain ⟨a0, n0, c0, rfl⟩ := okWide_slice Tryd.underlying22 (hval 0 22 v0 rfl rfl)
  obtain ⟨z0, w0, y0⟩ := open_bytes h0
  have b0 : n0 ≤ 140737488351232 := by
    rcases y0 with e | ⟨es, sp, e1, e2⟩
    · omega
    · have hcap := w0.cap
      subst e1
      have hw := sized_slice hsz (j := 0) (t := 22) (e := 5) rfl rfl Tryd.underlying22
      have hw : (es.length + sp.length) * Tryd.prog.bytesOf 5 ≤ reachBytes := hw
      rw [bytesU8] at hw
      simp only [reachBytes] at hw
      omega
  clear hA0 hval0
  refine (walk W a0 n0 c0 z0 w0 b0 (of_laid hL)).mono fun e W' ⟨he, bel⟩ => ?_
  subst he
  exact ⟨_, rfl, _, _, _, [], _, [], hW', trodAll_mk1 (shut_bool Tryd.underlying4 _), (trodAll_cons_mk (Below.trod laidOut (by kernel_rfl) (of_decide_eq_true (by kernel_rfl)) k0 bel (lt_of k0)) trodAll_mk0), rfl, bel.frame _, fun h => by cases h⟩

theorem shaNil_holds : Rows.ShaNilSaid :=
  OpenClaim.holds_of_wide 7 Tryd.f7 rfl rfl rfl rfl rfl rfl rfl ⟨rfl, rfl, rfl, rfl, rfl⟩ rfl rfl rfl rfl rfl (by kernel_rfl) Tryd.func7 (by kernel_rfl)
    (of_decide_eq_true (by kernel_rfl)) (by unfold Func.isWrapper; first | (rw [if_pos (by decide +kernel)]; kernel_rfl) | (rw [if_neg (by decide +kernel)]; exact ⟨rfl, rfl⟩))
    (fun os started H enc _ => lifted os started H enc)

/-- THE STATEMENT: the tied card. -/
theorem proved : Rows.ShaNilCardSaid :=
  Claim7.holds_tied_plain_at .later [] [.data, .data] true (true, "cea195b8e4b1cc889c1d1eca119c860888cfb8d83522847ae16b7d8c1e6b5c42") false
    shaNil_holds (fun _ h => by cases h) (by kernel_rfl) (fun _ h => by cases h) shaNil_row_tie rfl ⟨rfl, rfl⟩ (by kernel_rfl) rfl
    (fun f fn hf hfn => by
      obtain rfl : f = 7 := Option.some.inj ((show Tryd.prog.funcNamed "sharecore/sharecorelaw12.ShaNil" = some 7 by kernel_rfl).symm.trans hf) |>.symm
      obtain rfl : fn = Tryd.f7 := (Option.some.inj (Tryd.func7.symm.trans hfn)).symm
      exact ⟨by kernel_rfl, fun j t ht => by
        rw [Tryd.params7] at ht
        have hm : t ∈ [22] := by simpa using Array.mem_of_getElem? ht
        have hall : ([22].all fun u => !Tryd.prog.wantsStandIn u) = true := by kernel_rfl
        exact (show Tryd.prog.wantsStandIn t = false by simpa using List.all_eq_true.1 hall t hm)⟩)
    (by kernel_rfl)
#print axioms proved
end Go.Proofs.YtdaggankfokloaaDoor.ShaNilDone
