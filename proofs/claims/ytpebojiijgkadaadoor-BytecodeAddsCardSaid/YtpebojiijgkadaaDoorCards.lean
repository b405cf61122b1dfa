/-
  DERIVED. GIVEN WITH THE SEED: THE CARDS: each row of YtpebojiijgkadaaDoorRows.lean that lists a variable, with what it lists TIED to the program's text (the seventh form; the later family's looks); each row that meets fmt, with fmt's text TOLD by the authors' own Lean function (tested against real Go, not proved from fmt's source: count such statements apart). THE CARD IS WHAT COUNTS. Prove the row's statement (the work); the ties are given (YtpebojiijgkadaaDoorTie.lean); close each card by the builder's one call (the guide's Derived/Test/ToyasCard.lean, 'card_holds'). Laid BY PROGRAM, IN A SANDBOX (cutbox-door.mjs). By AI agents, Wed Nov 11 2026. No macro, syntax, notation, axiom, sorry.
-/
import Derived.Test.YtpebojiijgkadaaDoorRows
import GoSem.ClaimSeven
namespace Go.Proofs.YtpebojiijgkadaaDoor
namespace Rows

/-- THE TIED CARD OF 'sharecorelaw05.MontAdds'. -/
def montAddsCard : Claim7 := { stood := { row := montAddsRow, standIns := [], harness := (true, "91f6cfb73201a23cf28374feac06eebd6a34392b5f1b421a01686ebf7c3735d5"), looks := false }, kinds := [], alts := [], laidByText := true, laidKinds := [.data], laidTests := true, laidLooks := .later }
def MontAddsCardSaid : Prop := Claim7.holds Tryd.pinned (.plain (OpenSpec.ofChange montAddsSpec)) montAddsCard

/-- THE TIED CARD OF 'sharecorelaw05.MontConverts'. -/
def montConvertsCard : Claim7 := { stood := { row := montConvertsRow, standIns := [], harness := (true, "91f6cfb73201a23cf28374feac06eebd6a34392b5f1b421a01686ebf7c3735d5"), looks := false }, kinds := [], alts := [], laidByText := true, laidKinds := [.data], laidTests := true, laidLooks := .later }
def MontConvertsCardSaid : Prop := Claim7.holds Tryd.pinned (.plain (OpenSpec.ofChange montConvertsSpec)) montConvertsCard

/-- THE TIED CARD OF 'sharecorelaw05.MontIsRing'. -/
def montIsRingCard : Claim7 := { stood := { row := montIsRingRow, standIns := [], harness := (true, "91f6cfb73201a23cf28374feac06eebd6a34392b5f1b421a01686ebf7c3735d5"), looks := false }, kinds := [], alts := [], laidByText := true, laidKinds := [.data], laidTests := true, laidLooks := .later }
def MontIsRingCardSaid : Prop := Claim7.holds Tryd.pinned (.plain (OpenSpec.ofChange montIsRingSpec)) montIsRingCard

/-- THE TIED CARD OF 'sharecorelaw05.MontMultiplies'. -/
def montMultipliesCard : Claim7 := { stood := { row := montMultipliesRow, standIns := [], harness := (true, "91f6cfb73201a23cf28374feac06eebd6a34392b5f1b421a01686ebf7c3735d5"), looks := false }, kinds := [], alts := [], laidByText := true, laidKinds := [.data], laidTests := true, laidLooks := .later }
def MontMultipliesCardSaid : Prop := Claim7.holds Tryd.pinned (.plain (OpenSpec.ofChange montMultipliesSpec)) montMultipliesCard

/-- THE TIED CARD OF 'sharecorelaw05.MontStaysBelow'. -/
def montStaysBelowCard : Claim7 := { stood := { row := montStaysBelowRow, standIns := [], harness := (true, "91f6cfb73201a23cf28374feac06eebd6a34392b5f1b421a01686ebf7c3735d5"), looks := false }, kinds := [], alts := [], laidByText := true, laidKinds := [.data], laidTests := true, laidLooks := .later }
def MontStaysBelowCardSaid : Prop := Claim7.holds Tryd.pinned (.plain (OpenSpec.ofChange montStaysBelowSpec)) montStaysBelowCard

/-- THE TIED CARD OF 'sharecorelaw05.MontChooses'. -/
def montChoosesCard : Claim7 := { stood := { row := montChoosesRow, standIns := [], harness := (true, "91f6cfb73201a23cf28374feac06eebd6a34392b5f1b421a01686ebf7c3735d5"), looks := false }, kinds := [], alts := [], laidByText := true, laidKinds := [.data], laidTests := true, laidLooks := .later }
def MontChoosesCardSaid : Prop := Claim7.holds Tryd.pinned (.plain (OpenSpec.ofChange montChoosesSpec)) montChoosesCard

/-- THE TIED CARD OF 'sharecorelaw07.BytecodeReduces'. -/
def bytecodeReducesCard : Claim7 := { stood := { row := bytecodeReducesRow, standIns := [], harness := (true, "91f6cfb73201a23cf28374feac06eebd6a34392b5f1b421a01686ebf7c3735d5"), looks := false }, kinds := [], alts := [], laidByText := true, laidKinds := [.data], laidTests := true, laidLooks := .later }
def BytecodeReducesCardSaid : Prop := Claim7.holds Tryd.pinned (.plain (OpenSpec.ofChange bytecodeReducesSpec)) bytecodeReducesCard

/-- THE TIED CARD OF 'sharecorelaw07.BytecodeAdds'. -/
def bytecodeAddsCard : Claim7 := { stood := { row := bytecodeAddsRow, standIns := [], harness := (true, "91f6cfb73201a23cf28374feac06eebd6a34392b5f1b421a01686ebf7c3735d5"), looks := false }, kinds := [], alts := [], laidByText := true, laidKinds := [.data], laidTests := true, laidLooks := .later }
def BytecodeAddsCardSaid : Prop := Claim7.holds Tryd.pinned (.plain (OpenSpec.ofChange bytecodeAddsSpec)) bytecodeAddsCard

/-- THE TIED CARD OF 'sharecorelaw07.BytecodeEncodes'. -/
def bytecodeEncodesCard : Claim7 := { stood := { row := bytecodeEncodesRow, standIns := [], harness := (true, "91f6cfb73201a23cf28374feac06eebd6a34392b5f1b421a01686ebf7c3735d5"), looks := false }, kinds := [], alts := [], laidByText := true, laidKinds := [.data], laidTests := true, laidLooks := .later }
def BytecodeEncodesCardSaid : Prop := Claim7.holds Tryd.pinned (.plain (OpenSpec.ofChange bytecodeEncodesSpec)) bytecodeEncodesCard

/-- THE TIED CARD OF 'sharecorelaw07.BytecodeDecodes'. -/
def bytecodeDecodesCard : Claim7 := { stood := { row := bytecodeDecodesRow, standIns := [], harness := (true, "91f6cfb73201a23cf28374feac06eebd6a34392b5f1b421a01686ebf7c3735d5"), looks := false }, kinds := [], alts := [], laidByText := true, laidKinds := [.data], laidTests := true, laidLooks := .later }
def BytecodeDecodesCardSaid : Prop := Claim7.holds Tryd.pinned (.plain (OpenSpec.ofChange bytecodeDecodesSpec)) bytecodeDecodesCard

/-- THE TIED CARD OF 'sharecorelaw07.BytecodeUnpacks'. -/
def bytecodeUnpacksCard : Claim7 := { stood := { row := bytecodeUnpacksRow, standIns := [], harness := (true, "91f6cfb73201a23cf28374feac06eebd6a34392b5f1b421a01686ebf7c3735d5"), looks := false }, kinds := [], alts := [], laidByText := true, laidKinds := [.data], laidTests := true, laidLooks := .later }
def BytecodeUnpacksCardSaid : Prop := Claim7.holds Tryd.pinned (.plain (OpenSpec.ofChange bytecodeUnpacksSpec)) bytecodeUnpacksCard

/-- THE TIED CARD OF 'sharecorelaw07.BytecodePacks'. -/
def bytecodePacksCard : Claim7 := { stood := { row := bytecodePacksRow, standIns := [], harness := (true, "91f6cfb73201a23cf28374feac06eebd6a34392b5f1b421a01686ebf7c3735d5"), looks := false }, kinds := [], alts := [], laidByText := true, laidKinds := [.data], laidTests := true, laidLooks := .later }
def BytecodePacksCardSaid : Prop := Claim7.holds Tryd.pinned (.plain (OpenSpec.ofChange bytecodePacksSpec)) bytecodePacksCard

/-- THE SECOND FORM's CARD OF 'sharecorelaw05.MontAdds'. -/
def montAddsUptoCard : Claim7 := { stood := { row := montAddsUptoRow, standIns := [], harness := (true, "91f6cfb73201a23cf28374feac06eebd6a34392b5f1b421a01686ebf7c3735d5"), looks := false }, kinds := [], alts := [], laidByText := true, laidKinds := [.data], laidTests := true, laidLooks := .later }
def MontAddsUptoCardSaid : Prop := Claim7.holds Tryd.pinned (.plain (OpenSpec.upto montAddsSpec)) montAddsUptoCard

/-- THE SECOND FORM's CARD OF 'sharecorelaw05.MontConverts'. -/
def montConvertsUptoCard : Claim7 := { stood := { row := montConvertsUptoRow, standIns := [], harness := (true, "91f6cfb73201a23cf28374feac06eebd6a34392b5f1b421a01686ebf7c3735d5"), looks := false }, kinds := [], alts := [], laidByText := true, laidKinds := [.data], laidTests := true, laidLooks := .later }
def MontConvertsUptoCardSaid : Prop := Claim7.holds Tryd.pinned (.plain (OpenSpec.upto montConvertsSpec)) montConvertsUptoCard

/-- THE SECOND FORM's CARD OF 'sharecorelaw05.MontIsRing'. -/
def montIsRingUptoCard : Claim7 := { stood := { row := montIsRingUptoRow, standIns := [], harness := (true, "91f6cfb73201a23cf28374feac06eebd6a34392b5f1b421a01686ebf7c3735d5"), looks := false }, kinds := [], alts := [], laidByText := true, laidKinds := [.data], laidTests := true, laidLooks := .later }
def MontIsRingUptoCardSaid : Prop := Claim7.holds Tryd.pinned (.plain (OpenSpec.upto montIsRingSpec)) montIsRingUptoCard

/-- THE SECOND FORM's CARD OF 'sharecorelaw05.MontMultiplies'. -/
def montMultipliesUptoCard : Claim7 := { stood := { row := montMultipliesUptoRow, standIns := [], harness := (true, "91f6cfb73201a23cf28374feac06eebd6a34392b5f1b421a01686ebf7c3735d5"), looks := false }, kinds := [], alts := [], laidByText := true, laidKinds := [.data], laidTests := true, laidLooks := .later }
def MontMultipliesUptoCardSaid : Prop := Claim7.holds Tryd.pinned (.plain (OpenSpec.upto montMultipliesSpec)) montMultipliesUptoCard

/-- THE SECOND FORM's CARD OF 'sharecorelaw05.MontStaysBelow'. -/
def montStaysBelowUptoCard : Claim7 := { stood := { row := montStaysBelowUptoRow, standIns := [], harness := (true, "91f6cfb73201a23cf28374feac06eebd6a34392b5f1b421a01686ebf7c3735d5"), looks := false }, kinds := [], alts := [], laidByText := true, laidKinds := [.data], laidTests := true, laidLooks := .later }
def MontStaysBelowUptoCardSaid : Prop := Claim7.holds Tryd.pinned (.plain (OpenSpec.upto montStaysBelowSpec)) montStaysBelowUptoCard

/-- THE SECOND FORM's CARD OF 'sharecorelaw05.MontChooses'. -/
def montChoosesUptoCard : Claim7 := { stood := { row := montChoosesUptoRow, standIns := [], harness := (true, "91f6cfb73201a23cf28374feac06eebd6a34392b5f1b421a01686ebf7c3735d5"), looks := false }, kinds := [], alts := [], laidByText := true, laidKinds := [.data], laidTests := true, laidLooks := .later }
def MontChoosesUptoCardSaid : Prop := Claim7.holds Tryd.pinned (.plain (OpenSpec.upto montChoosesSpec)) montChoosesUptoCard

/-- THE SECOND FORM's CARD OF 'sharecorelaw07.BytecodeReduces'. -/
def bytecodeReducesUptoCard : Claim7 := { stood := { row := bytecodeReducesUptoRow, standIns := [], harness := (true, "91f6cfb73201a23cf28374feac06eebd6a34392b5f1b421a01686ebf7c3735d5"), looks := false }, kinds := [], alts := [], laidByText := true, laidKinds := [.data], laidTests := true, laidLooks := .later }
def BytecodeReducesUptoCardSaid : Prop := Claim7.holds Tryd.pinned (.plain (OpenSpec.upto bytecodeReducesSpec)) bytecodeReducesUptoCard

/-- THE SECOND FORM's CARD OF 'sharecorelaw07.BytecodeAdds'. -/
def bytecodeAddsUptoCard : Claim7 := { stood := { row := bytecodeAddsUptoRow, standIns := [], harness := (true, "91f6cfb73201a23cf28374feac06eebd6a34392b5f1b421a01686ebf7c3735d5"), looks := false }, kinds := [], alts := [], laidByText := true, laidKinds := [.data], laidTests := true, laidLooks := .later }
def BytecodeAddsUptoCardSaid : Prop := Claim7.holds Tryd.pinned (.plain (OpenSpec.upto bytecodeAddsSpec)) bytecodeAddsUptoCard

/-- THE SECOND FORM's CARD OF 'sharecorelaw07.BytecodeEncodes'. -/
def bytecodeEncodesUptoCard : Claim7 := { stood := { row := bytecodeEncodesUptoRow, standIns := [], harness := (true, "91f6cfb73201a23cf28374feac06eebd6a34392b5f1b421a01686ebf7c3735d5"), looks := false }, kinds := [], alts := [], laidByText := true, laidKinds := [.data], laidTests := true, laidLooks := .later }
def BytecodeEncodesUptoCardSaid : Prop := Claim7.holds Tryd.pinned (.plain (OpenSpec.upto bytecodeEncodesSpec)) bytecodeEncodesUptoCard

/-- THE SECOND FORM's CARD OF 'sharecorelaw07.BytecodeDecodes'. -/
def bytecodeDecodesUptoCard : Claim7 := { stood := { row := bytecodeDecodesUptoRow, standIns := [], harness := (true, "91f6cfb73201a23cf28374feac06eebd6a34392b5f1b421a01686ebf7c3735d5"), looks := false }, kinds := [], alts := [], laidByText := true, laidKinds := [.data], laidTests := true, laidLooks := .later }
def BytecodeDecodesUptoCardSaid : Prop := Claim7.holds Tryd.pinned (.plain (OpenSpec.upto bytecodeDecodesSpec)) bytecodeDecodesUptoCard

/-- THE SECOND FORM's CARD OF 'sharecorelaw07.BytecodeUnpacks'. -/
def bytecodeUnpacksUptoCard : Claim7 := { stood := { row := bytecodeUnpacksUptoRow, standIns := [], harness := (true, "91f6cfb73201a23cf28374feac06eebd6a34392b5f1b421a01686ebf7c3735d5"), looks := false }, kinds := [], alts := [], laidByText := true, laidKinds := [.data], laidTests := true, laidLooks := .later }
def BytecodeUnpacksUptoCardSaid : Prop := Claim7.holds Tryd.pinned (.plain (OpenSpec.upto bytecodeUnpacksSpec)) bytecodeUnpacksUptoCard

/-- THE SECOND FORM's CARD OF 'sharecorelaw07.BytecodePacks'. -/
def bytecodePacksUptoCard : Claim7 := { stood := { row := bytecodePacksUptoRow, standIns := [], harness := (true, "91f6cfb73201a23cf28374feac06eebd6a34392b5f1b421a01686ebf7c3735d5"), looks := false }, kinds := [], alts := [], laidByText := true, laidKinds := [.data], laidTests := true, laidLooks := .later }
def BytecodePacksUptoCardSaid : Prop := Claim7.holds Tryd.pinned (.plain (OpenSpec.upto bytecodePacksSpec)) bytecodePacksUptoCard
end Rows
end Go.Proofs.YtpebojiijgkadaaDoor
