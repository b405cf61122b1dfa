/- For every input the law MontIsRing of chapter 5 returns true and leaves its arguments as they are: the operations fulfill the laws of a commutative ring. Conditions: the variable of the fields holds what the program's text lays (the card ties it). -/
import Derived.Test.YtpebojiijgkadaaDoorLawIsRing
import Derived.Test.YtpebojiijgkadaaDoorRowKit
import Derived.Test.YtpebojiijgkadaaDoorTie
import Derived.Test.YtpebojiijgkadaaDoorCards
import Derived.SevenTiedAt
namespace Go.Proofs.YtpebojiijgkadaaDoor.MontIsRingDone
set_option linter.all false
open Go Go.ChangeShapes Go.WideShapes Go.ChangeAt Go.WideMaps Go.WideElems Go.RowKit Go.Proofs.YtpebojiijgkadaaDoor

theorem cellsVec2 : Tryd.prog.cellsOf 38 = 8 := by kernel_rfl
theorem open_vec2 {H : Type} {enc : TypeId × Value → H} {w : World} {base b0 : Nat} {spare : Nat → Bool} {held : Bool} {r : Reach} {v : Value} {d : DataW H} {p : List MemPlace}
    (hv : Value.okWide Tryd.prog w r b0 38 v) (h : DataW.Trod enc Tryd.prog w base spare held 38 v d p) : ∃ a b, a < R4 ∧ b < R4 ∧ v = vec2 a b := by
  have hk : ∃ cs, v = .agg cs := by
    simp only [Value.okWide, Tryd.underlying38] at hv
    obtain ⟨cs, h1, _⟩ := hv
    exact ⟨cs, h1⟩
  obtain ⟨cs, rfl⟩ := hk
  obtain ⟨fuel, hf⟩ := h
  obtain ⟨xs, m, rfl, hx, hlen, hn, hel⟩ := DataW.trod_array Tryd.underlying38 hf
  rw [cellsVec2] at hlen
  match xs, hn with
  | [y0, y1], _ =>
    have e0 := hel 0 (by omega)
    have e1 := hel 1 (by omega)
    simp only [cellsVec, Nat.zero_mul, Nat.one_mul, List.drop_zero, List.getElem?_cons_zero, List.getElem?_cons_succ] at e0 e1
    obtain ⟨y0, r0⟩ := y0
    obtain ⟨y1, r1⟩ := y1
    obtain ⟨a0, a1, a2, a3, f, _, u0, u1, u2, u3⟩ := four_of Tryd.underlying23 cellsVec e0
    obtain ⟨c0, c1, c2, c3, g, _, t0, t1, t2, t3⟩ := four_of Tryd.underlying23 cellsVec e1
    obtain ⟨n0, rfl, l0⟩ := wf64 u0
    obtain ⟨n1, rfl, l1⟩ := wf64 u1
    obtain ⟨n2, rfl, l2⟩ := wf64 u2
    obtain ⟨n3, rfl, l3⟩ := wf64 u3
    obtain ⟨k0, rfl, m0⟩ := wf64 t0
    obtain ⟨k1, rfl, m1⟩ := wf64 t1
    obtain ⟨k2, rfl, m2⟩ := wf64 t2
    obtain ⟨k3, rfl, m3⟩ := wf64 t3
    refine ⟨val4 n0 n1 n2 n3, val4 k0 k1 k2 k3, val4_lt l0 l1 l2 l3, val4_lt m0 m1 m2 m3, ?_⟩
    unfold vec2
    rw [dg0_val l0, dg1_val l0 l1, dg2_val l0 l1 l2, dg3_val l0 l1 l2 l3, dg0_val m0, dg1_val m0 m1, dg2_val m0 m1 m2, dg3_val m0 m1 m2 m3]
    have hlen' : cs.toList.length = 8 := hlen
    have f' : cs.toList.take 4 = _ := f
    have g' : (cs.toList.drop 4).take 4 = _ := g
    rw [List.take_of_length_le (by rw [List.length_drop, hlen']; omega)] at g'
    have e : cs.toList = _ := (List.take_append_drop 4 cs.toList).symm
    rw [f', g'] at e
    rw [← Array.toArray_toList (xs := cs), e]
    rfl

theorem door_met (os : Os) (args : Array Value) : laidMetH Tryd.prog [("sharecore/field.fields", Rows.laid_sharecore_field_fields)] ((World.doorLaid Tryd.prog 400 os).forCall (fun _ _ => 0) ⟨#[], args, []⟩).memory :=
  laidMetH_of_parts3 (fuel := 8) (laidMet_of_run' 8 (by kernel_rfl) (by kernel_rfl)) (by kernel_rfl) (by kernel_rfl)

set_option maxRecDepth 100000 in
theorem lifted (os : Os) (started : os.Started) (H : Type) (enc : TypeId × Value → H) :
    ReturnsInHanded {} Tryd.checked os 5 .any (fun w args => (Rows.montIsRingSpec.pre enc Tryd.prog Tryd.f5 [] false w args ∧ laidMetH Tryd.prog [("sharecore/field.fields", Rows.laid_sharecore_field_fields)] w) ∧ sizedMet enc Tryd.prog Tryd.f5 (OpenSpec.ofChange Rows.montIsRingSpec) false w args)
      (Rows.montIsRingSpec.post enc Tryd.prog Tryd.f5 false true false false) := by
  refine returnsInHanded_of_change_and (C := Tryd.checked) (X := fun w _ => laidMetH Tryd.prog [("sharecore/field.fields", Rows.laid_sharecore_field_fields)] w) (fun _ _ _ hh h => h.of_heap hh) own started (by kernel_rfl) Tryd.func5
    (ChangeSpec.witness_shaped (enc := enc) (C := Tryd.checked) (os := os) (X := fun w _ => laidMetH Tryd.prog [("sharecore/field.fields", Rows.laid_sharecore_field_fields)] w) false (World.doorLaid Tryd.prog 400 os) #[.bool false, .agg #[.int .u64 0, .int .u64 0, .int .u64 0, .int .u64 0, .int .u64 0, .int .u64 0, .int .u64 0, .int .u64 0], .agg #[.int .u64 0, .int .u64 0, .int .u64 0, .int .u64 0]] 8 rfl (World.shaped_of_RefB (by kernel_rfl) (by kernel_rfl)) (by kernel_rfl) (by kernel_rfl) (by kernel_rfl) (door_met os _)) ?_
  intro W base args ds gs before hval0 hW _ _ hL _
  have hval : ∀ (j : Nat) t v, Tryd.f5.params[j]? = some t → args[j]? = some v → Value.okWide Tryd.prog W .any base t v := hval0
  have hW' := hW
  obtain ⟨p, q, hA0, hV, rfl, hfz, hnd⟩ := hW
  have hA : DataW.TrodAll enc Tryd.prog W 0 (fun _ => true) true Tryd.f5.params.toList args.toList ds p := hA0
  rw [Tryd.params5] at hA hval
  obtain ⟨v0, vs0, d0, ds0, p0, q0, hargs, rfl, rfl, h0, r0⟩ := trodAll_cons hA
  obtain ⟨v1, vs1, d1, ds1, p1, q1, rfl, rfl, rfl, h1, r1⟩ := trodAll_cons r0
  obtain ⟨v2, vs2, d2, ds2, p2, q2, rfl, rfl, rfl, h2, r2⟩ := trodAll_cons r1
  obtain ⟨rfl, rfl, rfl⟩ := trodAll_nil r2
  obtain rfl : args = #[v0, v1, v2] := by cases args; simp_all
  obtain ⟨rfl, rfl⟩ := trodVars_none hV
  obtain ⟨x0, rfl, rfl, rfl⟩ := open_bool Tryd.underlying4 (hval 0 4 v0 rfl rfl) h0
  have k1 := h1
  obtain ⟨x1, y1, l1, m1, rfl⟩ := open_vec2 (hval 1 38 v1 rfl rfl) h1
  have k2 := h2
  obtain ⟨x2, l2, rfl⟩ := open_vec Tryd.underlying23 cellsVec (hval 2 23 v2 rfl rfl) h2
  clear hA0 hval0
  refine (montIsRing_c x0 x1 y1 x2 l1 m1 l2 W (of_laid hL)).mono fun e W' ⟨he, bel⟩ => ?_
  subst he
  exact ⟨_, rfl, _, _, _, [], _, [], hW', trodAll_mk1 (shut_bool Tryd.underlying4 _), (trodAll_cons_mk (shut_bool Tryd.underlying4 _) (trodAll_cons_mk (Below.trod laidOut (by kernel_rfl) (of_decide_eq_true (by kernel_rfl)) k1 bel (lt_of k1)) (trodAll_cons_mk (Below.trod laidOut (by kernel_rfl) (of_decide_eq_true (by kernel_rfl)) k2 bel (lt_of k2)) trodAll_mk0))), rfl, bel.frame _, fun h => by cases h⟩

theorem montIsRing_holds : Rows.MontIsRingSaid :=
  OpenClaim.holds_of_wide 5 Tryd.f5 rfl rfl rfl rfl rfl rfl rfl ⟨rfl, rfl, rfl, rfl, rfl⟩ rfl rfl rfl rfl rfl (by kernel_rfl) Tryd.func5 (by kernel_rfl)
    (of_decide_eq_true (by kernel_rfl)) (by unfold Func.isWrapper; first | (rw [if_pos (by decide +kernel)]; kernel_rfl) | (rw [if_neg (by decide +kernel)]; exact ⟨rfl, rfl⟩))
    (fun os started H enc _ => lifted os started H enc)

/-- THE STATEMENT: the tied card. -/
theorem proved : Rows.MontIsRingCardSaid :=
  Claim7.holds_tied_plain_at .later [] [.data] true (true, "91f6cfb73201a23cf28374feac06eebd6a34392b5f1b421a01686ebf7c3735d5") false
    montIsRing_holds (fun _ h => by cases h) (by kernel_rfl) (fun _ h => by cases h) montIsRing_row_tie rfl ⟨rfl, rfl⟩ (by kernel_rfl) rfl
    (fun f fn hf hfn => by
      obtain rfl : f = 5 := Option.some.inj ((show Tryd.prog.funcNamed "sharecore/sharecorelaw05.MontIsRing" = some 5 by kernel_rfl).symm.trans hf) |>.symm
      obtain rfl : fn = Tryd.f5 := (Option.some.inj (Tryd.func5.symm.trans hfn)).symm
      exact ⟨by kernel_rfl, fun j t ht => by
        rw [Tryd.params5] at ht
        have hm : t ∈ [4, 38, 23] := by simpa using Array.mem_of_getElem? ht
        have hall : ([4, 38, 23].all fun u => !Tryd.prog.wantsStandIn u) = true := by kernel_rfl
        exact (show Tryd.prog.wantsStandIn t = false by simpa using List.all_eq_true.1 hall t hm)⟩)
    (by kernel_rfl)
#print axioms proved
end Go.Proofs.YtpebojiijgkadaaDoor.MontIsRingDone
