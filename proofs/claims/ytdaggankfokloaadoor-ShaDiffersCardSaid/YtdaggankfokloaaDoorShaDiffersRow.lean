/- For every input the law ShaDiffers of chapter 12 returns true and leaves its arguments as they are: bytes and those with one byte changed have different sums, as the reference has. Conditions: the variables of sha's constants hold what the program's text lays (the card ties it). -/
import Derived.Test.YtdaggankfokloaaDoorLawMatches
import Derived.Test.YtdaggankfokloaaDoorRowKit
import Derived.Test.YtdaggankfokloaaDoorTie
import Derived.Test.YtdaggankfokloaaDoorCards
import Derived.SevenTiedAt
import Derived.SizedLaws
namespace Go.Proofs.YtdaggankfokloaaDoor.ShaDiffersDone
set_option linter.all false
open Go Go.ChangeShapes Go.WideShapes Go.ChangeAt Go.WideMaps Go.WideElems Go.RowKit Go.Proofs.YtdaggankfokloaaDoor

theorem walk (w : World) (a : Option Addr) (n c : Nat) (f : Nat → Nat) (x y : Nat) (hS : SliceAt w a n c f) (_ : n ≤ 140737488351232) (hx : x < 65536) (hy : y < 256) (hL : Laid w) :
    Calls Tryd.prog 8 #[.slice a n c, .int .u16 (x : Int), .int .u8 (y : Int)] w fun e w' => e = .returned (.bool true) ∧ Below w.heap.size w w' := shaDiffers_c a n c f x y hx hy w hL hS

theorem door_met (os : Os) (args : Array Value) : laidMetH Tryd.prog [("sharecore/sha.constants", Rows.laid_sharecore_sha_constants), ("sharecore/sha.start", Rows.laid_sharecore_sha_start)] ((World.doorLaid Tryd.prog 400 os).forCall (fun _ _ => 0) ⟨#[], args, []⟩).memory :=
  laidMetH_of_parts3 (fuel := 8) (laidMet_of_run' 8 (by kernel_rfl) (by kernel_rfl)) (by kernel_rfl) (by kernel_rfl)

set_option maxRecDepth 100000 in
theorem lifted (os : Os) (started : os.Started) (H : Type) (enc : TypeId × Value → H) :
    ReturnsInHanded {} Tryd.checked os 8 .any (fun w args => (Rows.shaDiffersSpec.pre enc Tryd.prog Tryd.f8 [] false w args ∧ laidMetH Tryd.prog [("sharecore/sha.constants", Rows.laid_sharecore_sha_constants), ("sharecore/sha.start", Rows.laid_sharecore_sha_start)] w) ∧ sizedMet enc Tryd.prog Tryd.f8 (OpenSpec.ofChange Rows.shaDiffersSpec) false w args)
      (Rows.shaDiffersSpec.post enc Tryd.prog Tryd.f8 false true false false) := by
  refine returnsInHanded_of_change_and (C := Tryd.checked) (X := fun w _ => laidMetH Tryd.prog [("sharecore/sha.constants", Rows.laid_sharecore_sha_constants), ("sharecore/sha.start", Rows.laid_sharecore_sha_start)] w) (fun _ _ _ hh h => h.of_heap hh) own started (by kernel_rfl) Tryd.func8
    (ChangeSpec.witness_shaped (enc := enc) (C := Tryd.checked) (os := os) (X := fun w _ => laidMetH Tryd.prog [("sharecore/sha.constants", Rows.laid_sharecore_sha_constants), ("sharecore/sha.start", Rows.laid_sharecore_sha_start)] w) false (World.doorLaid Tryd.prog 400 os) #[.slice Option.none 0 0, .int .u16 0, .int .u8 0] 8 rfl (World.shaped_of_RefB (by kernel_rfl) (by kernel_rfl)) (by kernel_rfl) (by kernel_rfl) (by kernel_rfl) (door_met os _)) ?_
  intro W base args ds gs before hval0 hW _ hsz hL _
  have hval : ∀ (j : Nat) t v, Tryd.f8.params[j]? = some t → args[j]? = some v → Value.okWide Tryd.prog W .any base t v := hval0
  have hW' := hW
  obtain ⟨p, q, hA0, hV, rfl, hfz, hnd⟩ := hW
  have hA : DataW.TrodAll enc Tryd.prog W 0 (fun _ => true) true Tryd.f8.params.toList args.toList ds p := hA0
  rw [Tryd.params8] at hA hval
  obtain ⟨v0, vs0, d0, ds0, p0, q0, hargs, rfl, rfl, h0, r0⟩ := trodAll_cons hA
  obtain ⟨v1, vs1, d1, ds1, p1, q1, rfl, rfl, rfl, h1, r1⟩ := trodAll_cons r0
  obtain ⟨v2, vs2, d2, ds2, p2, q2, rfl, rfl, rfl, h2, r2⟩ := trodAll_cons r1
  obtain ⟨rfl, rfl, rfl⟩ := trodAll_nil r2
  obtain rfl : args = #[v0, v1, v2] := by cases args; simp_all
  obtain ⟨rfl, rfl⟩ := trodVars_none hV
  have k0 := h0
  obtain ⟨a0, n0, c0, rfl⟩ := okWide_slice Tryd.underlying22 (hval 0 22 v0 rfl rfl)
  obtain ⟨z0, w0, y0⟩ := open_bytes h0
  have b0 : n0 ≤ 140737488351232 := by
    rcases y0 with e | ⟨es, sp, e1, e2⟩
    · omega
    · have hcap := w0.cap
      subst e1
      have hw := sized_slice hsz (j := 0) (t := 22) (e := 5) rfl rfl Tryd.underlying22
      have hw : (es.length + sp.length) * Tryd.prog.bytesOf 5 ≤ reachBytes := hw
      rw [bytesU8] at hw
      simp only [reachBytes] at hw
      omega
  obtain ⟨x1, rfl, rfl, rfl, w1⟩ := open_int Tryd.underlying29 (hval 1 29 v1 rfl rfl) h1
  have wk1 := w1
  obtain ⟨x1, rfl, l1⟩ := wf_n16 w1
  obtain ⟨x2, rfl, rfl, rfl, w2⟩ := open_int Tryd.underlying5 (hval 2 5 v2 rfl rfl) h2
  have wk2 := w2
  obtain ⟨x2, rfl, l2⟩ := wf_n8 w2
  clear hA0 hval0
  refine (walk W a0 n0 c0 z0 x1 x2 w0 b0 l1 l2 (of_laid hL)).mono fun e W' ⟨he, bel⟩ => ?_
  subst he
  exact ⟨_, rfl, _, _, _, [], _, [], hW', trodAll_mk1 (shut_bool Tryd.underlying4 _), (trodAll_cons_mk (Below.trod laidOut (by kernel_rfl) (of_decide_eq_true (by kernel_rfl)) k0 bel (lt_of k0)) (trodAll_cons_mk (shut_int Tryd.underlying29 wk1) (trodAll_cons_mk (shut_int Tryd.underlying5 wk2) trodAll_mk0))), rfl, bel.frame _, fun h => by cases h⟩

theorem shaDiffers_holds : Rows.ShaDiffersSaid :=
  OpenClaim.holds_of_wide 8 Tryd.f8 rfl rfl rfl rfl rfl rfl rfl ⟨rfl, rfl, rfl, rfl, rfl⟩ rfl rfl rfl rfl rfl (by kernel_rfl) Tryd.func8 (by kernel_rfl)
    (of_decide_eq_true (by kernel_rfl)) (by unfold Func.isWrapper; first | (rw [if_pos (by decide +kernel)]; kernel_rfl) | (rw [if_neg (by decide +kernel)]; exact ⟨rfl, rfl⟩))
    (fun os started H enc _ => lifted os started H enc)

/-- THE STATEMENT: the tied card. -/
theorem proved : Rows.ShaDiffersCardSaid :=
  Claim7.holds_tied_plain_at .later [] [.data, .data] true (true, "cea195b8e4b1cc889c1d1eca119c860888cfb8d83522847ae16b7d8c1e6b5c42") false
    shaDiffers_holds (fun _ h => by cases h) (by kernel_rfl) (fun _ h => by cases h) shaDiffers_row_tie rfl ⟨rfl, rfl⟩ (by kernel_rfl) rfl
    (fun f fn hf hfn => by
      obtain rfl : f = 8 := Option.some.inj ((show Tryd.prog.funcNamed "sharecore/sharecorelaw12.ShaDiffers" = some 8 by kernel_rfl).symm.trans hf) |>.symm
      obtain rfl : fn = Tryd.f8 := (Option.some.inj (Tryd.func8.symm.trans hfn)).symm
      exact ⟨by kernel_rfl, fun j t ht => by
        rw [Tryd.params8] at ht
        have hm : t ∈ [22, 29, 5] := by simpa using Array.mem_of_getElem? ht
        have hall : ([22, 29, 5].all fun u => !Tryd.prog.wantsStandIn u) = true := by kernel_rfl
        exact (show Tryd.prog.wantsStandIn t = false by simpa using List.all_eq_true.1 hall t hm)⟩)
    (by kernel_rfl)
#print axioms proved
end Go.Proofs.YtdaggankfokloaaDoor.ShaDiffersDone
