/-
  DERIVED. GIVEN WITH THE SEED: THE CARDS: each row of YtjhfepkpfakemaaDoorRows.lean that lists a variable, with what it lists TIED to the program's text (the seventh form; the later family's looks); each row that meets fmt, with fmt's text TOLD by the authors' own Lean function (tested against real Go, not proved from fmt's source: count such statements apart). THE CARD IS WHAT COUNTS. Prove the row's statement (the work); the ties are given (YtjhfepkpfakemaaDoorTie.lean); close each card by the builder's one call (the guide's Derived/Test/ToyasCard.lean, 'card_holds'). Laid BY PROGRAM, IN A SANDBOX (cutbox-door.mjs). By AI agents, Wed Nov 11 2026. No macro, syntax, notation, axiom, sorry.
-/
import Derived.Test.YtjhfepkpfakemaaDoorRows
import GoSem.ClaimSeven
namespace Go.Proofs.YtjhfepkpfakemaaDoor
namespace Rows

/-- THE TIED CARD OF 'sharecorelaw19.RecordSizes'. -/
def recordSizesCard : Claim7 := { stood := { row := recordSizesRow, standIns := [], harness := (true, "63a6a0d63333d266039df8d916da8ff68c321c2928ac81c5d7704455bbc72eb1"), looks := false }, kinds := [], alts := [], laidByText := true, laidKinds := [.data, .data, .data], laidTests := true, laidLooks := .later }
def RecordSizesCardSaid : Prop := Claim7.holds Tryd.pinned (.plain (OpenSpec.ofChange recordSizesSpec)) recordSizesCard

/-- THE TIED CARD OF 'sharecorelaw19.RecordEncodes'. -/
def recordEncodesCard : Claim7 := { stood := { row := recordEncodesRow, standIns := [], harness := (true, "63a6a0d63333d266039df8d916da8ff68c321c2928ac81c5d7704455bbc72eb1"), looks := false }, kinds := [], alts := [], laidByText := true, laidKinds := [.data, .data, .data], laidTests := true, laidLooks := .later }
def RecordEncodesCardSaid : Prop := Claim7.holds Tryd.pinned (.plain (OpenSpec.ofChange recordEncodesSpec)) recordEncodesCard

/-- THE TIED CARD OF 'sharecorelaw19.RecordDecodes'. -/
def recordDecodesCard : Claim7 := { stood := { row := recordDecodesRow, standIns := [], harness := (true, "63a6a0d63333d266039df8d916da8ff68c321c2928ac81c5d7704455bbc72eb1"), looks := false }, kinds := [], alts := [], laidByText := true, laidKinds := [.data, .data, .data], laidTests := true, laidLooks := .later }
def RecordDecodesCardSaid : Prop := Claim7.holds Tryd.pinned (.plain (OpenSpec.ofChange recordDecodesSpec)) recordDecodesCard

/-- THE TIED CARD OF 'sharecorelaw19.RecordRoundTrip'. -/
def recordRoundTripCard : Claim7 := { stood := { row := recordRoundTripRow, standIns := [], harness := (true, "63a6a0d63333d266039df8d916da8ff68c321c2928ac81c5d7704455bbc72eb1"), looks := false }, kinds := [], alts := [], laidByText := true, laidKinds := [.data, .data, .data], laidTests := true, laidLooks := .later }
def RecordRoundTripCardSaid : Prop := Claim7.holds Tryd.pinned (.plain (OpenSpec.ofChange recordRoundTripSpec)) recordRoundTripCard

/-- THE TIED CARD OF 'sharecorelaw19.RecordIsCanonical'. -/
def recordIsCanonicalCard : Claim7 := { stood := { row := recordIsCanonicalRow, standIns := [], harness := (true, "63a6a0d63333d266039df8d916da8ff68c321c2928ac81c5d7704455bbc72eb1"), looks := false }, kinds := [], alts := [], laidByText := true, laidKinds := [.data, .data, .data], laidTests := true, laidLooks := .later }
def RecordIsCanonicalCardSaid : Prop := Claim7.holds Tryd.pinned (.plain (OpenSpec.ofChange recordIsCanonicalSpec)) recordIsCanonicalCard

/-- THE TIED CARD OF 'sharecorelaw19.RecordTags'. -/
def recordTagsCard : Claim7 := { stood := { row := recordTagsRow, standIns := [], harness := (true, "63a6a0d63333d266039df8d916da8ff68c321c2928ac81c5d7704455bbc72eb1"), looks := false }, kinds := [], alts := [], laidByText := true, laidKinds := [.data, .data, .data], laidTests := true, laidLooks := .later }
def RecordTagsCardSaid : Prop := Claim7.holds Tryd.pinned (.plain (OpenSpec.ofChange recordTagsSpec)) recordTagsCard

/-- THE SECOND FORM's CARD OF 'sharecorelaw19.RecordSizes'. -/
def recordSizesUptoCard : Claim7 := { stood := { row := recordSizesUptoRow, standIns := [], harness := (true, "63a6a0d63333d266039df8d916da8ff68c321c2928ac81c5d7704455bbc72eb1"), looks := false }, kinds := [], alts := [], laidByText := true, laidKinds := [.data, .data, .data], laidTests := true, laidLooks := .later }
def RecordSizesUptoCardSaid : Prop := Claim7.holds Tryd.pinned (.plain (OpenSpec.upto recordSizesSpec)) recordSizesUptoCard

/-- THE SECOND FORM's CARD OF 'sharecorelaw19.RecordEncodes'. -/
def recordEncodesUptoCard : Claim7 := { stood := { row := recordEncodesUptoRow, standIns := [], harness := (true, "63a6a0d63333d266039df8d916da8ff68c321c2928ac81c5d7704455bbc72eb1"), looks := false }, kinds := [], alts := [], laidByText := true, laidKinds := [.data, .data, .data], laidTests := true, laidLooks := .later }
def RecordEncodesUptoCardSaid : Prop := Claim7.holds Tryd.pinned (.plain (OpenSpec.upto recordEncodesSpec)) recordEncodesUptoCard

/-- THE SECOND FORM's CARD OF 'sharecorelaw19.RecordDecodes'. -/
def recordDecodesUptoCard : Claim7 := { stood := { row := recordDecodesUptoRow, standIns := [], harness := (true, "63a6a0d63333d266039df8d916da8ff68c321c2928ac81c5d7704455bbc72eb1"), looks := false }, kinds := [], alts := [], laidByText := true, laidKinds := [.data, .data, .data], laidTests := true, laidLooks := .later }
def RecordDecodesUptoCardSaid : Prop := Claim7.holds Tryd.pinned (.plain (OpenSpec.upto recordDecodesSpec)) recordDecodesUptoCard

/-- THE SECOND FORM's CARD OF 'sharecorelaw19.RecordRoundTrip'. -/
def recordRoundTripUptoCard : Claim7 := { stood := { row := recordRoundTripUptoRow, standIns := [], harness := (true, "63a6a0d63333d266039df8d916da8ff68c321c2928ac81c5d7704455bbc72eb1"), looks := false }, kinds := [], alts := [], laidByText := true, laidKinds := [.data, .data, .data], laidTests := true, laidLooks := .later }
def RecordRoundTripUptoCardSaid : Prop := Claim7.holds Tryd.pinned (.plain (OpenSpec.upto recordRoundTripSpec)) recordRoundTripUptoCard

/-- THE SECOND FORM's CARD OF 'sharecorelaw19.RecordIsCanonical'. -/
def recordIsCanonicalUptoCard : Claim7 := { stood := { row := recordIsCanonicalUptoRow, standIns := [], harness := (true, "63a6a0d63333d266039df8d916da8ff68c321c2928ac81c5d7704455bbc72eb1"), looks := false }, kinds := [], alts := [], laidByText := true, laidKinds := [.data, .data, .data], laidTests := true, laidLooks := .later }
def RecordIsCanonicalUptoCardSaid : Prop := Claim7.holds Tryd.pinned (.plain (OpenSpec.upto recordIsCanonicalSpec)) recordIsCanonicalUptoCard

/-- THE SECOND FORM's CARD OF 'sharecorelaw19.RecordTags'. -/
def recordTagsUptoCard : Claim7 := { stood := { row := recordTagsUptoRow, standIns := [], harness := (true, "63a6a0d63333d266039df8d916da8ff68c321c2928ac81c5d7704455bbc72eb1"), looks := false }, kinds := [], alts := [], laidByText := true, laidKinds := [.data, .data, .data], laidTests := true, laidLooks := .later }
def RecordTagsUptoCardSaid : Prop := Claim7.holds Tryd.pinned (.plain (OpenSpec.upto recordTagsSpec)) recordTagsUptoCard
end Rows
end Go.Proofs.YtjhfepkpfakemaaDoor
