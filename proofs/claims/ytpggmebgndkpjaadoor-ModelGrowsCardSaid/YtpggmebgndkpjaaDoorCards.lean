/-
  DERIVED. GIVEN WITH THE SEED: THE CARDS: each row of YtpggmebgndkpjaaDoorRows.lean that lists a variable, with what it lists TIED to the program's text (the seventh form; the later family's looks); each row that meets fmt, with fmt's text TOLD by the authors' own Lean function (tested against real Go, not proved from fmt's source: count such statements apart). THE CARD IS WHAT COUNTS. Prove the row's statement (the work); the ties are given (YtpggmebgndkpjaaDoorTie.lean); close each card by the builder's one call (the guide's Derived/Test/ToyasCard.lean, 'card_holds'). Laid BY PROGRAM, IN A SANDBOX (cutbox-door.mjs). By AI agents, Wed Nov 11 2026. No macro, syntax, notation, axiom, sorry.
-/
import Derived.Test.YtpggmebgndkpjaaDoorRows
import GoSem.ClaimSeven
namespace Go.Proofs.YtpggmebgndkpjaaDoor
namespace Rows

/-- THE TIED CARD OF 'sharecorelaw21.ModelPredicts'. -/
def modelPredictsCard : Claim7 := { stood := { row := modelPredictsRow, standIns := [], harness := (true, "0c7cc21d03ad777eaa822b665cdc9c8ecdd0f5fed5900b2b1fa220686e6c15e3"), looks := false }, kinds := [], alts := [], laidByText := true, laidKinds := [.data], laidTests := true, laidLooks := .later }
def ModelPredictsCardSaid : Prop := Claim7.holds Tryd.pinned (.plain (OpenSpec.ofChange modelPredictsSpec)) modelPredictsCard

/-- THE TIED CARD OF 'sharecorelaw21.ModelCompares'. -/
def modelComparesCard : Claim7 := { stood := { row := modelComparesRow, standIns := [], harness := (true, "0c7cc21d03ad777eaa822b665cdc9c8ecdd0f5fed5900b2b1fa220686e6c15e3"), looks := false }, kinds := [], alts := [], laidByText := true, laidKinds := [.data], laidTests := true, laidLooks := .later }
def ModelComparesCardSaid : Prop := Claim7.holds Tryd.pinned (.plain (OpenSpec.ofChange modelComparesSpec)) modelComparesCard

/-- THE TIED CARD OF 'sharecorelaw21.ModelForgetsField'. -/
def modelForgetsFieldCard : Claim7 := { stood := { row := modelForgetsFieldRow, standIns := [], harness := (true, "0c7cc21d03ad777eaa822b665cdc9c8ecdd0f5fed5900b2b1fa220686e6c15e3"), looks := false }, kinds := [], alts := [], laidByText := true, laidKinds := [.data], laidTests := true, laidLooks := .later }
def ModelForgetsFieldCardSaid : Prop := Claim7.holds Tryd.pinned (.plain (OpenSpec.ofChange modelForgetsFieldSpec)) modelForgetsFieldCard

/-- THE TIED CARD OF 'sharecorelaw21.ModelGrows'. -/
def modelGrowsCard : Claim7 := { stood := { row := modelGrowsRow, standIns := [], harness := (true, "0c7cc21d03ad777eaa822b665cdc9c8ecdd0f5fed5900b2b1fa220686e6c15e3"), looks := false }, kinds := [], alts := [], laidByText := true, laidKinds := [.data], laidTests := true, laidLooks := .later }
def ModelGrowsCardSaid : Prop := Claim7.holds Tryd.pinned (.plain (OpenSpec.ofChange modelGrowsSpec)) modelGrowsCard

/-- THE TIED CARD OF 'sharecorelaw13.ChunksCount'. -/
def chunksCountCard : Claim7 := { stood := { row := chunksCountRow, standIns := [], harness := (true, "0c7cc21d03ad777eaa822b665cdc9c8ecdd0f5fed5900b2b1fa220686e6c15e3"), looks := false }, kinds := [], alts := [], laidByText := true, laidKinds := [.data], laidTests := true, laidLooks := .later }
def ChunksCountCardSaid : Prop := Claim7.holds Tryd.pinned (.plain (OpenSpec.ofChange chunksCountSpec)) chunksCountCard

/-- THE TIED CARD OF 'sharecorelaw13.ChunksAreCanonical'. -/
def chunksAreCanonicalCard : Claim7 := { stood := { row := chunksAreCanonicalRow, standIns := [], harness := (true, "0c7cc21d03ad777eaa822b665cdc9c8ecdd0f5fed5900b2b1fa220686e6c15e3"), looks := false }, kinds := [], alts := [], laidByText := true, laidKinds := [.data], laidTests := true, laidLooks := .later }
def ChunksAreCanonicalCardSaid : Prop := Claim7.holds Tryd.pinned (.plain (OpenSpec.ofChange chunksAreCanonicalSpec)) chunksAreCanonicalCard

/-- THE TIED CARD OF 'sharecorelaw13.ChunksJoin'. -/
def chunksJoinCard : Claim7 := { stood := { row := chunksJoinRow, standIns := [], harness := (true, "0c7cc21d03ad777eaa822b665cdc9c8ecdd0f5fed5900b2b1fa220686e6c15e3"), looks := false }, kinds := [], alts := [], laidByText := true, laidKinds := [.data], laidTests := true, laidLooks := .later }
def ChunksJoinCardSaid : Prop := Claim7.holds Tryd.pinned (.plain (OpenSpec.ofChange chunksJoinSpec)) chunksJoinCard

/-- THE TIED CARD OF 'sharecorelaw13.ChunksRoundTrip'. -/
def chunksRoundTripCard : Claim7 := { stood := { row := chunksRoundTripRow, standIns := [], harness := (true, "0c7cc21d03ad777eaa822b665cdc9c8ecdd0f5fed5900b2b1fa220686e6c15e3"), looks := false }, kinds := [], alts := [], laidByText := true, laidKinds := [.data], laidTests := true, laidLooks := .later }
def ChunksRoundTripCardSaid : Prop := Claim7.holds Tryd.pinned (.plain (OpenSpec.ofChange chunksRoundTripSpec)) chunksRoundTripCard

/-- THE TIED CARD OF 'sharecorelaw13.ChunksSplit'. -/
def chunksSplitCard : Claim7 := { stood := { row := chunksSplitRow, standIns := [], harness := (true, "0c7cc21d03ad777eaa822b665cdc9c8ecdd0f5fed5900b2b1fa220686e6c15e3"), looks := false }, kinds := [], alts := [], laidByText := true, laidKinds := [.data], laidTests := true, laidLooks := .later }
def ChunksSplitCardSaid : Prop := Claim7.holds Tryd.pinned (.plain (OpenSpec.ofChange chunksSplitSpec)) chunksSplitCard

/-- THE TIED CARD OF 'sharecorelaw13.ChunksLimit'. -/
def chunksLimitCard : Claim7 := { stood := { row := chunksLimitRow, standIns := [], harness := (true, "0c7cc21d03ad777eaa822b665cdc9c8ecdd0f5fed5900b2b1fa220686e6c15e3"), looks := false }, kinds := [], alts := [], laidByText := true, laidKinds := [.data], laidTests := true, laidLooks := .later }
def ChunksLimitCardSaid : Prop := Claim7.holds Tryd.pinned (.plain (OpenSpec.ofChange chunksLimitSpec)) chunksLimitCard

/-- THE SECOND FORM's CARD OF 'sharecorelaw21.ModelPredicts'. -/
def modelPredictsUptoCard : Claim7 := { stood := { row := modelPredictsUptoRow, standIns := [], harness := (true, "0c7cc21d03ad777eaa822b665cdc9c8ecdd0f5fed5900b2b1fa220686e6c15e3"), looks := false }, kinds := [], alts := [], laidByText := true, laidKinds := [.data], laidTests := true, laidLooks := .later }
def ModelPredictsUptoCardSaid : Prop := Claim7.holds Tryd.pinned (.plain (OpenSpec.upto modelPredictsSpec)) modelPredictsUptoCard

/-- THE SECOND FORM's CARD OF 'sharecorelaw21.ModelCompares'. -/
def modelComparesUptoCard : Claim7 := { stood := { row := modelComparesUptoRow, standIns := [], harness := (true, "0c7cc21d03ad777eaa822b665cdc9c8ecdd0f5fed5900b2b1fa220686e6c15e3"), looks := false }, kinds := [], alts := [], laidByText := true, laidKinds := [.data], laidTests := true, laidLooks := .later }
def ModelComparesUptoCardSaid : Prop := Claim7.holds Tryd.pinned (.plain (OpenSpec.upto modelComparesSpec)) modelComparesUptoCard

/-- THE SECOND FORM's CARD OF 'sharecorelaw21.ModelForgetsField'. -/
def modelForgetsFieldUptoCard : Claim7 := { stood := { row := modelForgetsFieldUptoRow, standIns := [], harness := (true, "0c7cc21d03ad777eaa822b665cdc9c8ecdd0f5fed5900b2b1fa220686e6c15e3"), looks := false }, kinds := [], alts := [], laidByText := true, laidKinds := [.data], laidTests := true, laidLooks := .later }
def ModelForgetsFieldUptoCardSaid : Prop := Claim7.holds Tryd.pinned (.plain (OpenSpec.upto modelForgetsFieldSpec)) modelForgetsFieldUptoCard

/-- THE SECOND FORM's CARD OF 'sharecorelaw21.ModelGrows'. -/
def modelGrowsUptoCard : Claim7 := { stood := { row := modelGrowsUptoRow, standIns := [], harness := (true, "0c7cc21d03ad777eaa822b665cdc9c8ecdd0f5fed5900b2b1fa220686e6c15e3"), looks := false }, kinds := [], alts := [], laidByText := true, laidKinds := [.data], laidTests := true, laidLooks := .later }
def ModelGrowsUptoCardSaid : Prop := Claim7.holds Tryd.pinned (.plain (OpenSpec.upto modelGrowsSpec)) modelGrowsUptoCard

/-- THE SECOND FORM's CARD OF 'sharecorelaw13.ChunksCount'. -/
def chunksCountUptoCard : Claim7 := { stood := { row := chunksCountUptoRow, standIns := [], harness := (true, "0c7cc21d03ad777eaa822b665cdc9c8ecdd0f5fed5900b2b1fa220686e6c15e3"), looks := false }, kinds := [], alts := [], laidByText := true, laidKinds := [.data], laidTests := true, laidLooks := .later }
def ChunksCountUptoCardSaid : Prop := Claim7.holds Tryd.pinned (.plain (OpenSpec.upto chunksCountSpec)) chunksCountUptoCard

/-- THE SECOND FORM's CARD OF 'sharecorelaw13.ChunksAreCanonical'. -/
def chunksAreCanonicalUptoCard : Claim7 := { stood := { row := chunksAreCanonicalUptoRow, standIns := [], harness := (true, "0c7cc21d03ad777eaa822b665cdc9c8ecdd0f5fed5900b2b1fa220686e6c15e3"), looks := false }, kinds := [], alts := [], laidByText := true, laidKinds := [.data], laidTests := true, laidLooks := .later }
def ChunksAreCanonicalUptoCardSaid : Prop := Claim7.holds Tryd.pinned (.plain (OpenSpec.upto chunksAreCanonicalSpec)) chunksAreCanonicalUptoCard

/-- THE SECOND FORM's CARD OF 'sharecorelaw13.ChunksJoin'. -/
def chunksJoinUptoCard : Claim7 := { stood := { row := chunksJoinUptoRow, standIns := [], harness := (true, "0c7cc21d03ad777eaa822b665cdc9c8ecdd0f5fed5900b2b1fa220686e6c15e3"), looks := false }, kinds := [], alts := [], laidByText := true, laidKinds := [.data], laidTests := true, laidLooks := .later }
def ChunksJoinUptoCardSaid : Prop := Claim7.holds Tryd.pinned (.plain (OpenSpec.upto chunksJoinSpec)) chunksJoinUptoCard

/-- THE SECOND FORM's CARD OF 'sharecorelaw13.ChunksRoundTrip'. -/
def chunksRoundTripUptoCard : Claim7 := { stood := { row := chunksRoundTripUptoRow, standIns := [], harness := (true, "0c7cc21d03ad777eaa822b665cdc9c8ecdd0f5fed5900b2b1fa220686e6c15e3"), looks := false }, kinds := [], alts := [], laidByText := true, laidKinds := [.data], laidTests := true, laidLooks := .later }
def ChunksRoundTripUptoCardSaid : Prop := Claim7.holds Tryd.pinned (.plain (OpenSpec.upto chunksRoundTripSpec)) chunksRoundTripUptoCard

/-- THE SECOND FORM's CARD OF 'sharecorelaw13.ChunksSplit'. -/
def chunksSplitUptoCard : Claim7 := { stood := { row := chunksSplitUptoRow, standIns := [], harness := (true, "0c7cc21d03ad777eaa822b665cdc9c8ecdd0f5fed5900b2b1fa220686e6c15e3"), looks := false }, kinds := [], alts := [], laidByText := true, laidKinds := [.data], laidTests := true, laidLooks := .later }
def ChunksSplitUptoCardSaid : Prop := Claim7.holds Tryd.pinned (.plain (OpenSpec.upto chunksSplitSpec)) chunksSplitUptoCard

/-- THE SECOND FORM's CARD OF 'sharecorelaw13.ChunksLimit'. -/
def chunksLimitUptoCard : Claim7 := { stood := { row := chunksLimitUptoRow, standIns := [], harness := (true, "0c7cc21d03ad777eaa822b665cdc9c8ecdd0f5fed5900b2b1fa220686e6c15e3"), looks := false }, kinds := [], alts := [], laidByText := true, laidKinds := [.data], laidTests := true, laidLooks := .later }
def ChunksLimitUptoCardSaid : Prop := Claim7.holds Tryd.pinned (.plain (OpenSpec.upto chunksLimitSpec)) chunksLimitUptoCard
end Rows
end Go.Proofs.YtpggmebgndkpjaaDoor
