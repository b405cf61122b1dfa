/-
  DERIVED. GIVEN WITH THE SEED: THE CARDS: each row of YtdaggankfokloaaDoorRows.lean that lists a variable, with what it lists TIED to the program's text (the seventh form; the later family's looks); each row that meets fmt, with fmt's text TOLD by the authors' own Lean function (tested against real Go, not proved from fmt's source: count such statements apart). THE CARD IS WHAT COUNTS. Prove the row's statement (the work); the ties are given (YtdaggankfokloaaDoorTie.lean); close each card by the builder's one call (the guide's Derived/Test/ToyasCard.lean, 'card_holds'). Laid BY PROGRAM, IN A SANDBOX (cutbox-door.mjs). By AI agents, Wed Nov 11 2026. No macro, syntax, notation, axiom, sorry.
-/
import Derived.Test.YtdaggankfokloaaDoorRows
import GoSem.ClaimSeven
namespace Go.Proofs.YtdaggankfokloaaDoor
namespace Rows

/-- THE TIED CARD OF 'sharecorelaw12.ShaMatchesReference'. -/
def shaMatchesReferenceCard : Claim7 := { stood := { row := shaMatchesReferenceRow, standIns := [], harness := (true, "cea195b8e4b1cc889c1d1eca119c860888cfb8d83522847ae16b7d8c1e6b5c42"), looks := false }, kinds := [], alts := [], laidByText := true, laidKinds := [.data, .data], laidTests := true, laidLooks := .later }
def ShaMatchesReferenceCardSaid : Prop := Claim7.holds Tryd.pinned (.plain (OpenSpec.ofChange shaMatchesReferenceSpec)) shaMatchesReferenceCard

/-- THE TIED CARD OF 'sharecorelaw12.ShaParts'. -/
def shaPartsCard : Claim7 := { stood := { row := shaPartsRow, standIns := [], harness := (true, "cea195b8e4b1cc889c1d1eca119c860888cfb8d83522847ae16b7d8c1e6b5c42"), looks := false }, kinds := [], alts := [], laidByText := true, laidKinds := [.data, .data], laidTests := true, laidLooks := .later }
def ShaPartsCardSaid : Prop := Claim7.holds Tryd.pinned (.plain (OpenSpec.ofChange shaPartsSpec)) shaPartsCard

/-- THE TIED CARD OF 'sharecorelaw12.ShaStays'. -/
def shaStaysCard : Claim7 := { stood := { row := shaStaysRow, standIns := [], harness := (true, "cea195b8e4b1cc889c1d1eca119c860888cfb8d83522847ae16b7d8c1e6b5c42"), looks := false }, kinds := [], alts := [], laidByText := true, laidKinds := [.data, .data], laidTests := true, laidLooks := .later }
def ShaStaysCardSaid : Prop := Claim7.holds Tryd.pinned (.plain (OpenSpec.ofChange shaStaysSpec)) shaStaysCard

/-- THE TIED CARD OF 'sharecorelaw12.ShaClones'. -/
def shaClonesCard : Claim7 := { stood := { row := shaClonesRow, standIns := [], harness := (true, "cea195b8e4b1cc889c1d1eca119c860888cfb8d83522847ae16b7d8c1e6b5c42"), looks := false }, kinds := [], alts := [], laidByText := true, laidKinds := [.data, .data], laidTests := true, laidLooks := .later }
def ShaClonesCardSaid : Prop := Claim7.holds Tryd.pinned (.plain (OpenSpec.ofChange shaClonesSpec)) shaClonesCard

/-- THE TIED CARD OF 'sharecorelaw12.ShaNil'. -/
def shaNilCard : Claim7 := { stood := { row := shaNilRow, standIns := [], harness := (true, "cea195b8e4b1cc889c1d1eca119c860888cfb8d83522847ae16b7d8c1e6b5c42"), looks := false }, kinds := [], alts := [], laidByText := true, laidKinds := [.data, .data], laidTests := true, laidLooks := .later }
def ShaNilCardSaid : Prop := Claim7.holds Tryd.pinned (.plain (OpenSpec.ofChange shaNilSpec)) shaNilCard

/-- THE TIED CARD OF 'sharecorelaw12.ShaDiffers'. -/
def shaDiffersCard : Claim7 := { stood := { row := shaDiffersRow, standIns := [], harness := (true, "cea195b8e4b1cc889c1d1eca119c860888cfb8d83522847ae16b7d8c1e6b5c42"), looks := false }, kinds := [], alts := [], laidByText := true, laidKinds := [.data, .data], laidTests := true, laidLooks := .later }
def ShaDiffersCardSaid : Prop := Claim7.holds Tryd.pinned (.plain (OpenSpec.ofChange shaDiffersSpec)) shaDiffersCard

/-- THE SECOND FORM's CARD OF 'sharecorelaw12.ShaMatchesReference'. -/
def shaMatchesReferenceUptoCard : Claim7 := { stood := { row := shaMatchesReferenceUptoRow, standIns := [], harness := (true, "cea195b8e4b1cc889c1d1eca119c860888cfb8d83522847ae16b7d8c1e6b5c42"), looks := false }, kinds := [], alts := [], laidByText := true, laidKinds := [.data, .data], laidTests := true, laidLooks := .later }
def ShaMatchesReferenceUptoCardSaid : Prop := Claim7.holds Tryd.pinned (.plain (OpenSpec.upto shaMatchesReferenceSpec)) shaMatchesReferenceUptoCard

/-- THE SECOND FORM's CARD OF 'sharecorelaw12.ShaParts'. -/
def shaPartsUptoCard : Claim7 := { stood := { row := shaPartsUptoRow, standIns := [], harness := (true, "cea195b8e4b1cc889c1d1eca119c860888cfb8d83522847ae16b7d8c1e6b5c42"), looks := false }, kinds := [], alts := [], laidByText := true, laidKinds := [.data, .data], laidTests := true, laidLooks := .later }
def ShaPartsUptoCardSaid : Prop := Claim7.holds Tryd.pinned (.plain (OpenSpec.upto shaPartsSpec)) shaPartsUptoCard

/-- THE SECOND FORM's CARD OF 'sharecorelaw12.ShaStays'. -/
def shaStaysUptoCard : Claim7 := { stood := { row := shaStaysUptoRow, standIns := [], harness := (true, "cea195b8e4b1cc889c1d1eca119c860888cfb8d83522847ae16b7d8c1e6b5c42"), looks := false }, kinds := [], alts := [], laidByText := true, laidKinds := [.data, .data], laidTests := true, laidLooks := .later }
def ShaStaysUptoCardSaid : Prop := Claim7.holds Tryd.pinned (.plain (OpenSpec.upto shaStaysSpec)) shaStaysUptoCard

/-- THE SECOND FORM's CARD OF 'sharecorelaw12.ShaClones'. -/
def shaClonesUptoCard : Claim7 := { stood := { row := shaClonesUptoRow, standIns := [], harness := (true, "cea195b8e4b1cc889c1d1eca119c860888cfb8d83522847ae16b7d8c1e6b5c42"), looks := false }, kinds := [], alts := [], laidByText := true, laidKinds := [.data, .data], laidTests := true, laidLooks := .later }
def ShaClonesUptoCardSaid : Prop := Claim7.holds Tryd.pinned (.plain (OpenSpec.upto shaClonesSpec)) shaClonesUptoCard

/-- THE SECOND FORM's CARD OF 'sharecorelaw12.ShaNil'. -/
def shaNilUptoCard : Claim7 := { stood := { row := shaNilUptoRow, standIns := [], harness := (true, "cea195b8e4b1cc889c1d1eca119c860888cfb8d83522847ae16b7d8c1e6b5c42"), looks := false }, kinds := [], alts := [], laidByText := true, laidKinds := [.data, .data], laidTests := true, laidLooks := .later }
def ShaNilUptoCardSaid : Prop := Claim7.holds Tryd.pinned (.plain (OpenSpec.upto shaNilSpec)) shaNilUptoCard

/-- THE SECOND FORM's CARD OF 'sharecorelaw12.ShaDiffers'. -/
def shaDiffersUptoCard : Claim7 := { stood := { row := shaDiffersUptoRow, standIns := [], harness := (true, "cea195b8e4b1cc889c1d1eca119c860888cfb8d83522847ae16b7d8c1e6b5c42"), looks := false }, kinds := [], alts := [], laidByText := true, laidKinds := [.data, .data], laidTests := true, laidLooks := .later }
def ShaDiffersUptoCardSaid : Prop := Claim7.holds Tryd.pinned (.plain (OpenSpec.upto shaDiffersSpec)) shaDiffersUptoCard
end Rows
end Go.Proofs.YtdaggankfokloaaDoor
