/-
  DERIVED. GIVEN WITH THE SEED: THE CARDS: each row of YtdnkkbmpefhbjaaGreatDoorRows.lean that lists a variable, with what it lists TIED to the program's text (the seventh form; the later family's looks); each row that meets fmt, with fmt's text TOLD by the authors' own Lean function (tested against real Go, not proved from fmt's source: count such statements apart). THE CARD IS WHAT COUNTS. Prove the row's statement (the work); the ties are given (YtdnkkbmpefhbjaaGreatDoorTie.lean); close each card by the builder's one call (the guide's Derived/Test/ToyasCard.lean, 'card_holds'). Laid BY PROGRAM, IN A SANDBOX (cutbox-door.mjs). By AI agents, Wed Nov 11 2026. No macro, syntax, notation, axiom, sorry.
-/
import Derived.Test.YtdnkkbmpefhbjaaGreatDoorRows
import GoSem.ClaimSeven
namespace Go.Proofs.YtdnkkbmpefhbjaaGreatDoor
namespace Rows

/-- THE TIED CARD OF 'sharecorelaw18.AuditConsistent'. -/
def auditConsistentCard : Claim7 := { stood := { row := auditConsistentRow, standIns := [], harness := (true, "1c35e067073bbd307752a51480e69319cd2a28e00e4f9ebd941344875f146385"), looks := false }, kinds := [], alts := [], laidByText := true, laidKinds := [.data], laidTests := true, laidLooks := .later }
def AuditConsistentCardSaid : Prop := Claim7.holds Tryz.pinned (.plain (OpenSpec.ofChange auditConsistentSpec)) auditConsistentCard

/-- THE TIED CARD OF 'sharecorelaw18.AuditChunks'. -/
def auditChunksCard : Claim7 := { stood := { row := auditChunksRow, standIns := [], harness := (true, "1c35e067073bbd307752a51480e69319cd2a28e00e4f9ebd941344875f146385"), looks := false }, kinds := [], alts := [], laidByText := true, laidKinds := [.data], laidTests := true, laidLooks := .later }
def AuditChunksCardSaid : Prop := Claim7.holds Tryz.pinned (.plain (OpenSpec.ofChange auditChunksSpec)) auditChunksCard

/-- THE TIED CARD OF 'sharecorelaw18.AuditSuspects'. -/
def auditSuspectsCard : Claim7 := { stood := { row := auditSuspectsRow, standIns := [], harness := (true, "1c35e067073bbd307752a51480e69319cd2a28e00e4f9ebd941344875f146385"), looks := false }, kinds := [], alts := [], laidByText := true, laidKinds := [.data], laidTests := true, laidLooks := .later }
def AuditSuspectsCardSaid : Prop := Claim7.holds Tryz.pinned (.plain (OpenSpec.ofChange auditSuspectsSpec)) auditSuspectsCard

/-- THE TIED CARD OF 'sharecorelaw18.AuditRejects'. -/
def auditRejectsCard : Claim7 := { stood := { row := auditRejectsRow, standIns := [], harness := (true, "1c35e067073bbd307752a51480e69319cd2a28e00e4f9ebd941344875f146385"), looks := false }, kinds := [], alts := [], laidByText := true, laidKinds := [.data], laidTests := true, laidLooks := .later }
def AuditRejectsCardSaid : Prop := Claim7.holds Tryz.pinned (.plain (OpenSpec.ofChange auditRejectsSpec)) auditRejectsCard

/-- THE TIED CARD OF 'sharecorelaw18.AuditEvents'. -/
def auditEventsCard : Claim7 := { stood := { row := auditEventsRow, standIns := [], harness := (true, "1c35e067073bbd307752a51480e69319cd2a28e00e4f9ebd941344875f146385"), looks := false }, kinds := [], alts := [], laidByText := true, laidKinds := [.data], laidTests := true, laidLooks := .later }
def AuditEventsCardSaid : Prop := Claim7.holds Tryz.pinned (.plain (OpenSpec.ofChange auditEventsSpec)) auditEventsCard

/-- THE TIED CARD OF 'sharecorelaw18.AuditAccepts'. -/
def auditAcceptsCard : Claim7 := { stood := { row := auditAcceptsRow, standIns := [], harness := (true, "1c35e067073bbd307752a51480e69319cd2a28e00e4f9ebd941344875f146385"), looks := false }, kinds := [], alts := [], laidByText := true, laidKinds := [.data], laidTests := true, laidLooks := .later }
def AuditAcceptsCardSaid : Prop := Claim7.holds Tryz.pinned (.plain (OpenSpec.ofChange auditAcceptsSpec)) auditAcceptsCard

/-- THE TIED CARD OF 'sharecorelaw17.JoinValues'. -/
def joinValuesCard : Claim7 := { stood := { row := joinValuesRow, standIns := [], harness := (true, "1c35e067073bbd307752a51480e69319cd2a28e00e4f9ebd941344875f146385"), looks := false }, kinds := [], alts := [], laidByText := true, laidKinds := [.data], laidTests := true, laidLooks := .later }
def JoinValuesCardSaid : Prop := Claim7.holds Tryz.pinned (.plain (OpenSpec.ofChange joinValuesSpec)) joinValuesCard

/-- THE TIED CARD OF 'sharecorelaw17.JoinCombines'. -/
def joinCombinesCard : Claim7 := { stood := { row := joinCombinesRow, standIns := [], harness := (true, "1c35e067073bbd307752a51480e69319cd2a28e00e4f9ebd941344875f146385"), looks := false }, kinds := [], alts := [], laidByText := true, laidKinds := [.data], laidTests := true, laidLooks := .later }
def JoinCombinesCardSaid : Prop := Claim7.holds Tryz.pinned (.plain (OpenSpec.ofChange joinCombinesSpec)) joinCombinesCard

/-- THE TIED CARD OF 'sharecorelaw17.JoinAt'. -/
def joinAtCard : Claim7 := { stood := { row := joinAtRow, standIns := [], harness := (true, "1c35e067073bbd307752a51480e69319cd2a28e00e4f9ebd941344875f146385"), looks := false }, kinds := [], alts := [], laidByText := true, laidKinds := [.data], laidTests := true, laidLooks := .later }
def JoinAtCardSaid : Prop := Claim7.holds Tryz.pinned (.plain (OpenSpec.ofChange joinAtSpec)) joinAtCard

/-- THE TIED CARD OF 'sharecorelaw17.JoinExtends'. -/
def joinExtendsCard : Claim7 := { stood := { row := joinExtendsRow, standIns := [], harness := (true, "1c35e067073bbd307752a51480e69319cd2a28e00e4f9ebd941344875f146385"), looks := false }, kinds := [], alts := [], laidByText := true, laidKinds := [.data], laidTests := true, laidLooks := .later }
def JoinExtendsCardSaid : Prop := Claim7.holds Tryz.pinned (.plain (OpenSpec.ofChange joinExtendsSpec)) joinExtendsCard

/-- THE TIED CARD OF 'sharecorelaw17.JoinEvents'. -/
def joinEventsCard : Claim7 := { stood := { row := joinEventsRow, standIns := [], harness := (true, "1c35e067073bbd307752a51480e69319cd2a28e00e4f9ebd941344875f146385"), looks := false }, kinds := [], alts := [], laidByText := true, laidKinds := [.data], laidTests := true, laidLooks := .later }
def JoinEventsCardSaid : Prop := Claim7.holds Tryz.pinned (.plain (OpenSpec.ofChange joinEventsSpec)) joinEventsCard

/-- THE TIED CARD OF 'sharecorelaw17.JoinRecovers'. -/
def joinRecoversCard : Claim7 := { stood := { row := joinRecoversRow, standIns := [], harness := (true, "1c35e067073bbd307752a51480e69319cd2a28e00e4f9ebd941344875f146385"), looks := false }, kinds := [], alts := [], laidByText := true, laidKinds := [.data], laidTests := true, laidLooks := .later }
def JoinRecoversCardSaid : Prop := Claim7.holds Tryz.pinned (.plain (OpenSpec.ofChange joinRecoversSpec)) joinRecoversCard

/-- THE SECOND FORM's CARD OF 'sharecorelaw18.AuditConsistent'. -/
def auditConsistentUptoCard : Claim7 := { stood := { row := auditConsistentUptoRow, standIns := [], harness := (true, "1c35e067073bbd307752a51480e69319cd2a28e00e4f9ebd941344875f146385"), looks := false }, kinds := [], alts := [], laidByText := true, laidKinds := [.data], laidTests := true, laidLooks := .later }
def AuditConsistentUptoCardSaid : Prop := Claim7.holds Tryz.pinned (.plain (OpenSpec.upto auditConsistentSpec)) auditConsistentUptoCard

/-- THE SECOND FORM's CARD OF 'sharecorelaw18.AuditChunks'. -/
def auditChunksUptoCard : Claim7 := { stood := { row := auditChunksUptoRow, standIns := [], harness := (true, "1c35e067073bbd307752a51480e69319cd2a28e00e4f9ebd941344875f146385"), looks := false }, kinds := [], alts := [], laidByText := true, laidKinds := [.data], laidTests := true, laidLooks := .later }
def AuditChunksUptoCardSaid : Prop := Claim7.holds Tryz.pinned (.plain (OpenSpec.upto auditChunksSpec)) auditChunksUptoCard

/-- THE SECOND FORM's CARD OF 'sharecorelaw18.AuditSuspects'. -/
def auditSuspectsUptoCard : Claim7 := { stood := { row := auditSuspectsUptoRow, standIns := [], harness := (true, "1c35e067073bbd307752a51480e69319cd2a28e00e4f9ebd941344875f146385"), looks := false }, kinds := [], alts := [], laidByText := true, laidKinds := [.data], laidTests := true, laidLooks := .later }
def AuditSuspectsUptoCardSaid : Prop := Claim7.holds Tryz.pinned (.plain (OpenSpec.upto auditSuspectsSpec)) auditSuspectsUptoCard

/-- THE SECOND FORM's CARD OF 'sharecorelaw18.AuditRejects'. -/
def auditRejectsUptoCard : Claim7 := { stood := { row := auditRejectsUptoRow, standIns := [], harness := (true, "1c35e067073bbd307752a51480e69319cd2a28e00e4f9ebd941344875f146385"), looks := false }, kinds := [], alts := [], laidByText := true, laidKinds := [.data], laidTests := true, laidLooks := .later }
def AuditRejectsUptoCardSaid : Prop := Claim7.holds Tryz.pinned (.plain (OpenSpec.upto auditRejectsSpec)) auditRejectsUptoCard

/-- THE SECOND FORM's CARD OF 'sharecorelaw18.AuditEvents'. -/
def auditEventsUptoCard : Claim7 := { stood := { row := auditEventsUptoRow, standIns := [], harness := (true, "1c35e067073bbd307752a51480e69319cd2a28e00e4f9ebd941344875f146385"), looks := false }, kinds := [], alts := [], laidByText := true, laidKinds := [.data], laidTests := true, laidLooks := .later }
def AuditEventsUptoCardSaid : Prop := Claim7.holds Tryz.pinned (.plain (OpenSpec.upto auditEventsSpec)) auditEventsUptoCard

/-- THE SECOND FORM's CARD OF 'sharecorelaw18.AuditAccepts'. -/
def auditAcceptsUptoCard : Claim7 := { stood := { row := auditAcceptsUptoRow, standIns := [], harness := (true, "1c35e067073bbd307752a51480e69319cd2a28e00e4f9ebd941344875f146385"), looks := false }, kinds := [], alts := [], laidByText := true, laidKinds := [.data], laidTests := true, laidLooks := .later }
def AuditAcceptsUptoCardSaid : Prop := Claim7.holds Tryz.pinned (.plain (OpenSpec.upto auditAcceptsSpec)) auditAcceptsUptoCard

/-- THE SECOND FORM's CARD OF 'sharecorelaw17.JoinValues'. -/
def joinValuesUptoCard : Claim7 := { stood := { row := joinValuesUptoRow, standIns := [], harness := (true, "1c35e067073bbd307752a51480e69319cd2a28e00e4f9ebd941344875f146385"), looks := false }, kinds := [], alts := [], laidByText := true, laidKinds := [.data], laidTests := true, laidLooks := .later }
def JoinValuesUptoCardSaid : Prop := Claim7.holds Tryz.pinned (.plain (OpenSpec.upto joinValuesSpec)) joinValuesUptoCard

/-- THE SECOND FORM's CARD OF 'sharecorelaw17.JoinCombines'. -/
def joinCombinesUptoCard : Claim7 := { stood := { row := joinCombinesUptoRow, standIns := [], harness := (true, "1c35e067073bbd307752a51480e69319cd2a28e00e4f9ebd941344875f146385"), looks := false }, kinds := [], alts := [], laidByText := true, laidKinds := [.data], laidTests := true, laidLooks := .later }
def JoinCombinesUptoCardSaid : Prop := Claim7.holds Tryz.pinned (.plain (OpenSpec.upto joinCombinesSpec)) joinCombinesUptoCard

/-- THE SECOND FORM's CARD OF 'sharecorelaw17.JoinAt'. -/
def joinAtUptoCard : Claim7 := { stood := { row := joinAtUptoRow, standIns := [], harness := (true, "1c35e067073bbd307752a51480e69319cd2a28e00e4f9ebd941344875f146385"), looks := false }, kinds := [], alts := [], laidByText := true, laidKinds := [.data], laidTests := true, laidLooks := .later }
def JoinAtUptoCardSaid : Prop := Claim7.holds Tryz.pinned (.plain (OpenSpec.upto joinAtSpec)) joinAtUptoCard

/-- THE SECOND FORM's CARD OF 'sharecorelaw17.JoinExtends'. -/
def joinExtendsUptoCard : Claim7 := { stood := { row := joinExtendsUptoRow, standIns := [], harness := (true, "1c35e067073bbd307752a51480e69319cd2a28e00e4f9ebd941344875f146385"), looks := false }, kinds := [], alts := [], laidByText := true, laidKinds := [.data], laidTests := true, laidLooks := .later }
def JoinExtendsUptoCardSaid : Prop := Claim7.holds Tryz.pinned (.plain (OpenSpec.upto joinExtendsSpec)) joinExtendsUptoCard

/-- THE SECOND FORM's CARD OF 'sharecorelaw17.JoinEvents'. -/
def joinEventsUptoCard : Claim7 := { stood := { row := joinEventsUptoRow, standIns := [], harness := (true, "1c35e067073bbd307752a51480e69319cd2a28e00e4f9ebd941344875f146385"), looks := false }, kinds := [], alts := [], laidByText := true, laidKinds := [.data], laidTests := true, laidLooks := .later }
def JoinEventsUptoCardSaid : Prop := Claim7.holds Tryz.pinned (.plain (OpenSpec.upto joinEventsSpec)) joinEventsUptoCard

/-- THE SECOND FORM's CARD OF 'sharecorelaw17.JoinRecovers'. -/
def joinRecoversUptoCard : Claim7 := { stood := { row := joinRecoversUptoRow, standIns := [], harness := (true, "1c35e067073bbd307752a51480e69319cd2a28e00e4f9ebd941344875f146385"), looks := false }, kinds := [], alts := [], laidByText := true, laidKinds := [.data], laidTests := true, laidLooks := .later }
def JoinRecoversUptoCardSaid : Prop := Claim7.holds Tryz.pinned (.plain (OpenSpec.upto joinRecoversSpec)) joinRecoversUptoCard
end Rows
end Go.Proofs.YtdnkkbmpefhbjaaGreatDoor
