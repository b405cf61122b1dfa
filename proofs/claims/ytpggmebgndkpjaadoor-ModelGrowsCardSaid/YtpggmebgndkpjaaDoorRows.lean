/-
  NARROWER THAN 'FOR EVERY INPUT', by the rows' own cells (each row's printed sentence says how): ModelPredicts: laid · ModelCompares: laid · ModelForgetsField: laid · ModelGrows: laid · ChunksCount: laid · ChunksAreCanonical: laid · ChunksJoin: laid · ChunksRoundTrip: laid · ChunksSplit: laid · ChunksLimit: laid.
  DERIVED. THE GIVEN ROWS OF THIS SEAT. 10 by the template 'for every input the law returns true; each argument reads behind the call as it read before'; 0 by the template 'total and deterministic' (their statements: YtpggmebgndkpjaaDoorTotals.lean).
  GIVEN WITH THE SEED: the statements are not yours to turn. If you find one false, say at which input.
  Laid BY PROGRAM, IN A SANDBOX (cutbox-rows.mjs): the forced cells as the released guide's own fill.sh prints them over the translation ff1341effa2e3542… (all of the seat's roots in one cut). By AI agents, Wed Nov 11 2026. No macro, syntax, notation, axiom, sorry.
-/
import Derived.Test.YtpggmebgndkpjaaDoorChecked
import GoSem.Claim
import GoSem.ClaimJoined
import GoSem.ClaimMapViews
import Derived.JoinedTies
import Derived.KernelRfl
namespace Go.Proofs.YtpggmebgndkpjaaDoor
/- THE CELL 'sum', in the pinned program and in every row, IS THE sha256 OF THE DUMP (.gsa) THAT YtpggmebgndkpjaaDoorProg.lean LOADS. Nothing in Lean hashes anything: it is a label: what it is worth is what the hold of that sum in a sandbox is worth. -/
noncomputable def Tryd.pinned : Pinned := { name := "ytpggmebgndkpjaadoor", sum := "ff1341effa2e3542e4bd760e72c3428ac7f78084c436280443c327dd36b3cad4", checked := Tryd.checked }
namespace Rows
def none {H : Type} : Left H := { results := [], args := [] }

/- WHAT THE LISTED PACKAGE-LEVEL VARIABLES READ AS WHEN THE CALL BEGINS. Each datum BY PROGRAM (the guide's laid-datum.mjs) off the statement by which the dump's own 'gosem.cut.vars' lays the variable. In a bare row this is a premise. The card (YtpggmebgndkpjaaDoorCards.lean) ties it to the program's text. -/
def laid_sharecore_field_fields {H : Type} : DataW H := .agg [.agg [.lit (.int .i64 1), .agg [.lit (.int .u64 18446744073709551597), .lit (.int .u64 18446744073709551615), .lit (.int .u64 18446744073709551615), .lit (.int .u64 9223372036854775807)], .lit (.int .u64 9708812670373448219), .agg [.lit (.int .u64 38), .lit (.int .u64 0), .lit (.int .u64 0), .lit (.int .u64 0)], .agg [.lit (.int .u64 1444), .lit (.int .u64 0), .lit (.int .u64 0), .lit (.int .u64 0)]], .agg [.lit (.int .i64 2), .agg [.lit (.int .u64 17562291160714782033), .lit (.int .u64 13611842547513532036), .lit (.int .u64 18446744073709551615), .lit (.int .u64 18446744069414584320)], .lit (.int .u64 14758798090332847183), .agg [.lit (.int .u64 884452912994769583), .lit (.int .u64 4834901526196019579), .lit (.int .u64 0), .lit (.int .u64 4294967295)], .agg [.lit (.int .u64 9449762124159643298), .lit (.int .u64 5087230966250696614), .lit (.int .u64 2901921493521525849), .lit (.int .u64 7413256579398063648)]]]

/-- 'sharecorelaw21.ModelPredicts': WHATEVER THE INPUT: true; the input reads as it did. -/
def modelPredictsSpec : ChangeSpec := { name := "modelPredicts", fn := fun _ => fun
  | [d] => { results := [.lit (.bool true)], args := [d] }
  | _ => none }
def modelPredictsRow : OpenClaim := { program := "ytpggmebgndkpjaadoor", sum := "ff1341effa2e3542e4bd760e72c3428ac7f78084c436280443c327dd36b3cad4", func := "sharecore/sharecorelaw21.ModelPredicts", spec := "modelPredicts", unfollowed := true, recurses := true, named := ["sharecore/field.fields"], apart := false, laid := [("sharecore/field.fields", laid_sharecore_field_fields)] }
def ModelPredictsSaid : Prop := modelPredictsRow.holds Tryd.pinned (OpenSpec.ofChange modelPredictsSpec)

/-- ITS FALSE NEIGHBOUR: 'it returns false'. Refute it at one input. -/
def modelPredictsWrong : ChangeSpec := { name := "modelPredicts", fn := fun _ => fun
  | [d] => { results := [.lit (.bool false)], args := [d] }
  | _ => none }
def ModelPredictsWrongFalsely : Prop := modelPredictsRow.holds Tryd.pinned (OpenSpec.ofChange modelPredictsWrong)

/-- 'sharecorelaw21.ModelCompares': WHATEVER THE INPUT: true; the input reads as it did. -/
def modelComparesSpec : ChangeSpec := { name := "modelCompares", fn := fun _ => fun
  | [d1, d2] => { results := [.lit (.bool true)], args := [d1, d2] }
  | _ => none }
def modelComparesRow : OpenClaim := { program := "ytpggmebgndkpjaadoor", sum := "ff1341effa2e3542e4bd760e72c3428ac7f78084c436280443c327dd36b3cad4", func := "sharecore/sharecorelaw21.ModelCompares", spec := "modelCompares", unfollowed := true, recurses := true, named := ["sharecore/field.fields"], apart := false, laid := [("sharecore/field.fields", laid_sharecore_field_fields)] }
def ModelComparesSaid : Prop := modelComparesRow.holds Tryd.pinned (OpenSpec.ofChange modelComparesSpec)

/-- ITS FALSE NEIGHBOUR: 'it returns false'. Refute it at one input. -/
def modelComparesWrong : ChangeSpec := { name := "modelCompares", fn := fun _ => fun
  | [d1, d2] => { results := [.lit (.bool false)], args := [d1, d2] }
  | _ => none }
def ModelComparesWrongFalsely : Prop := modelComparesRow.holds Tryd.pinned (OpenSpec.ofChange modelComparesWrong)

/-- 'sharecorelaw21.ModelForgetsField': WHATEVER THE INPUT: true; the input reads as it did. -/
def modelForgetsFieldSpec : ChangeSpec := { name := "modelForgetsField", fn := fun _ => fun
  | [d] => { results := [.lit (.bool true)], args := [d] }
  | _ => none }
def modelForgetsFieldRow : OpenClaim := { program := "ytpggmebgndkpjaadoor", sum := "ff1341effa2e3542e4bd760e72c3428ac7f78084c436280443c327dd36b3cad4", func := "sharecore/sharecorelaw21.ModelForgetsField", spec := "modelForgetsField", unfollowed := true, recurses := true, named := ["sharecore/field.fields"], apart := false, laid := [("sharecore/field.fields", laid_sharecore_field_fields)] }
def ModelForgetsFieldSaid : Prop := modelForgetsFieldRow.holds Tryd.pinned (OpenSpec.ofChange modelForgetsFieldSpec)

/-- ITS FALSE NEIGHBOUR: 'it returns false'. Refute it at one input. -/
def modelForgetsFieldWrong : ChangeSpec := { name := "modelForgetsField", fn := fun _ => fun
  | [d] => { results := [.lit (.bool false)], args := [d] }
  | _ => none }
def ModelForgetsFieldWrongFalsely : Prop := modelForgetsFieldRow.holds Tryd.pinned (OpenSpec.ofChange modelForgetsFieldWrong)

/-- 'sharecorelaw21.ModelGrows': WHATEVER THE INPUT: true; the input reads as it did. -/
def modelGrowsSpec : ChangeSpec := { name := "modelGrows", fn := fun _ => fun
  | [d] => { results := [.lit (.bool true)], args := [d] }
  | _ => none }
def modelGrowsRow : OpenClaim := { program := "ytpggmebgndkpjaadoor", sum := "ff1341effa2e3542e4bd760e72c3428ac7f78084c436280443c327dd36b3cad4", func := "sharecore/sharecorelaw21.ModelGrows", spec := "modelGrows", unfollowed := true, recurses := true, named := ["sharecore/field.fields"], apart := false, laid := [("sharecore/field.fields", laid_sharecore_field_fields)] }
def ModelGrowsSaid : Prop := modelGrowsRow.holds Tryd.pinned (OpenSpec.ofChange modelGrowsSpec)

/-- ITS FALSE NEIGHBOUR: 'it returns false'. Refute it at one input. -/
def modelGrowsWrong : ChangeSpec := { name := "modelGrows", fn := fun _ => fun
  | [d] => { results := [.lit (.bool false)], args := [d] }
  | _ => none }
def ModelGrowsWrongFalsely : Prop := modelGrowsRow.holds Tryd.pinned (OpenSpec.ofChange modelGrowsWrong)

/-- 'sharecorelaw13.ChunksCount': WHATEVER THE INPUT: true; the input reads as it did. -/
def chunksCountSpec : ChangeSpec := { name := "chunksCount", fn := fun _ => fun
  | [d] => { results := [.lit (.bool true)], args := [d] }
  | _ => none }
def chunksCountRow : OpenClaim := { program := "ytpggmebgndkpjaadoor", sum := "ff1341effa2e3542e4bd760e72c3428ac7f78084c436280443c327dd36b3cad4", func := "sharecore/sharecorelaw13.ChunksCount", spec := "chunksCount", inPlace := ["math/bits.Add64", "math/bits.Sub64"], unfollowed := true, recurses := true, named := ["sharecore/field.fields"], apart := false, laid := [("sharecore/field.fields", laid_sharecore_field_fields)] }
def ChunksCountSaid : Prop := chunksCountRow.holds Tryd.pinned (OpenSpec.ofChange chunksCountSpec)

/-- ITS FALSE NEIGHBOUR: 'it returns false'. Refute it at one input. -/
def chunksCountWrong : ChangeSpec := { name := "chunksCount", fn := fun _ => fun
  | [d] => { results := [.lit (.bool false)], args := [d] }
  | _ => none }
def ChunksCountWrongFalsely : Prop := chunksCountRow.holds Tryd.pinned (OpenSpec.ofChange chunksCountWrong)

/-- 'sharecorelaw13.ChunksAreCanonical': WHATEVER THE INPUT: true; the input reads as it did. -/
def chunksAreCanonicalSpec : ChangeSpec := { name := "chunksAreCanonical", fn := fun _ => fun
  | [d1, d2, d3] => { results := [.lit (.bool true)], args := [d1, d2, d3] }
  | _ => none }
def chunksAreCanonicalRow : OpenClaim := { program := "ytpggmebgndkpjaadoor", sum := "ff1341effa2e3542e4bd760e72c3428ac7f78084c436280443c327dd36b3cad4", func := "sharecore/sharecorelaw13.ChunksAreCanonical", spec := "chunksAreCanonical", inPlace := ["math/bits.Add64", "math/bits.Sub64"], unfollowed := true, recurses := true, named := ["sharecore/field.fields"], apart := false, laid := [("sharecore/field.fields", laid_sharecore_field_fields)] }
def ChunksAreCanonicalSaid : Prop := chunksAreCanonicalRow.holds Tryd.pinned (OpenSpec.ofChange chunksAreCanonicalSpec)

/-- ITS FALSE NEIGHBOUR: 'it returns false'. Refute it at one input. -/
def chunksAreCanonicalWrong : ChangeSpec := { name := "chunksAreCanonical", fn := fun _ => fun
  | [d1, d2, d3] => { results := [.lit (.bool false)], args := [d1, d2, d3] }
  | _ => none }
def ChunksAreCanonicalWrongFalsely : Prop := chunksAreCanonicalRow.holds Tryd.pinned (OpenSpec.ofChange chunksAreCanonicalWrong)

/-- 'sharecorelaw13.ChunksJoin': WHATEVER THE INPUT: true; the input reads as it did. -/
def chunksJoinSpec : ChangeSpec := { name := "chunksJoin", fn := fun _ => fun
  | [d1, d2, d3] => { results := [.lit (.bool true)], args := [d1, d2, d3] }
  | _ => none }
def chunksJoinRow : OpenClaim := { program := "ytpggmebgndkpjaadoor", sum := "ff1341effa2e3542e4bd760e72c3428ac7f78084c436280443c327dd36b3cad4", func := "sharecore/sharecorelaw13.ChunksJoin", spec := "chunksJoin", inPlace := ["math/bits.Add64", "math/bits.Sub64"], unfollowed := true, recurses := true, named := ["sharecore/field.fields"], apart := false, laid := [("sharecore/field.fields", laid_sharecore_field_fields)] }
def ChunksJoinSaid : Prop := chunksJoinRow.holds Tryd.pinned (OpenSpec.ofChange chunksJoinSpec)

/-- ITS FALSE NEIGHBOUR: 'it returns false'. Refute it at one input. -/
def chunksJoinWrong : ChangeSpec := { name := "chunksJoin", fn := fun _ => fun
  | [d1, d2, d3] => { results := [.lit (.bool false)], args := [d1, d2, d3] }
  | _ => none }
def ChunksJoinWrongFalsely : Prop := chunksJoinRow.holds Tryd.pinned (OpenSpec.ofChange chunksJoinWrong)

/-- 'sharecorelaw13.ChunksRoundTrip': WHATEVER THE INPUT: true; the input reads as it did. -/
def chunksRoundTripSpec : ChangeSpec := { name := "chunksRoundTrip", fn := fun _ => fun
  | [d1, d2] => { results := [.lit (.bool true)], args := [d1, d2] }
  | _ => none }
def chunksRoundTripRow : OpenClaim := { program := "ytpggmebgndkpjaadoor", sum := "ff1341effa2e3542e4bd760e72c3428ac7f78084c436280443c327dd36b3cad4", func := "sharecore/sharecorelaw13.ChunksRoundTrip", spec := "chunksRoundTrip", inPlace := ["math/bits.Add64", "math/bits.Sub64"], unfollowed := true, recurses := true, named := ["sharecore/field.fields"], apart := false, laid := [("sharecore/field.fields", laid_sharecore_field_fields)] }
def ChunksRoundTripSaid : Prop := chunksRoundTripRow.holds Tryd.pinned (OpenSpec.ofChange chunksRoundTripSpec)

/-- ITS FALSE NEIGHBOUR: 'it returns false'. Refute it at one input. -/
def chunksRoundTripWrong : ChangeSpec := { name := "chunksRoundTrip", fn := fun _ => fun
  | [d1, d2] => { results := [.lit (.bool false)], args := [d1, d2] }
  | _ => none }
def ChunksRoundTripWrongFalsely : Prop := chunksRoundTripRow.holds Tryd.pinned (OpenSpec.ofChange chunksRoundTripWrong)

/-- 'sharecorelaw13.ChunksSplit': WHATEVER THE INPUT: true; the input reads as it did. -/
def chunksSplitSpec : ChangeSpec := { name := "chunksSplit", fn := fun _ => fun
  | [d1, d2] => { results := [.lit (.bool true)], args := [d1, d2] }
  | _ => none }
def chunksSplitRow : OpenClaim := { program := "ytpggmebgndkpjaadoor", sum := "ff1341effa2e3542e4bd760e72c3428ac7f78084c436280443c327dd36b3cad4", func := "sharecore/sharecorelaw13.ChunksSplit", spec := "chunksSplit", inPlace := ["math/bits.Add64", "math/bits.Sub64"], unfollowed := true, recurses := true, named := ["sharecore/field.fields"], apart := false, laid := [("sharecore/field.fields", laid_sharecore_field_fields)] }
def ChunksSplitSaid : Prop := chunksSplitRow.holds Tryd.pinned (OpenSpec.ofChange chunksSplitSpec)

/-- ITS FALSE NEIGHBOUR: 'it returns false'. Refute it at one input. -/
def chunksSplitWrong : ChangeSpec := { name := "chunksSplit", fn := fun _ => fun
  | [d1, d2] => { results := [.lit (.bool false)], args := [d1, d2] }
  | _ => none }
def ChunksSplitWrongFalsely : Prop := chunksSplitRow.holds Tryd.pinned (OpenSpec.ofChange chunksSplitWrong)

/-- 'sharecorelaw13.ChunksLimit': WHATEVER THE INPUT: true; the input reads as it did. -/
def chunksLimitSpec : ChangeSpec := { name := "chunksLimit", fn := fun _ => fun
  | [d1, d2, d3] => { results := [.lit (.bool true)], args := [d1, d2, d3] }
  | _ => none }
def chunksLimitRow : OpenClaim := { program := "ytpggmebgndkpjaadoor", sum := "ff1341effa2e3542e4bd760e72c3428ac7f78084c436280443c327dd36b3cad4", func := "sharecore/sharecorelaw13.ChunksLimit", spec := "chunksLimit", inPlace := ["internal/bytealg.MakeNoZero", "math/bits.Add64", "math/bits.Sub64"], unfollowed := true, recurses := true, named := ["sharecore/field.fields"], apart := false, laid := [("sharecore/field.fields", laid_sharecore_field_fields)] }
def ChunksLimitSaid : Prop := chunksLimitRow.holds Tryd.pinned (OpenSpec.ofChange chunksLimitSpec)

/-- ITS FALSE NEIGHBOUR: 'it returns false'. Refute it at one input. -/
def chunksLimitWrong : ChangeSpec := { name := "chunksLimit", fn := fun _ => fun
  | [d1, d2, d3] => { results := [.lit (.bool false)], args := [d1, d2, d3] }
  | _ => none }
def ChunksLimitWrongFalsely : Prop := chunksLimitRow.holds Tryd.pinned (OpenSpec.ofChange chunksLimitWrong)

/- THE SECOND FORM. 'bulk': how many values and letters a reading holds, each counted each time it is reached (what is shared counts as often as it is met; a slice's spare places count too). A statement '..UptoSaid' is the law's where the arguments, and the package variables that the reading takes, are together of bulk at most 1048576: NARROWER than '..Said'. Prove '..Said' where nothing that the law and all that it calls make is longer than what came in: it says more and counts as full. Else prove '..UptoSaid'. A law counts once. -/
mutual
def uptoBulk {H : Type} : DataW H → Nat
  | .lit (.string bytes) => bytes.length + 1
  | .lit _ => 1
  | .nil => 1
  | .ptr d => uptoBulk d + 1
  | .slice elems spare => uptoBulkAll elems + uptoBulkAll spare + 1
  | .agg parts => uptoBulkAll parts + 1
  | .iface _ d => uptoBulk d + 1
  | .map entries => uptoBulkEntries entries + 1
  | .held _ => 1
def uptoBulkAll {H : Type} : List (DataW H) → Nat
  | [] => 0
  | d :: r => uptoBulk d + uptoBulkAll r
def uptoBulkEntries {H : Type} : List (Lit × DataW H) → Nat
  | [] => 0
  | x :: r => uptoBulkEntry x + uptoBulkEntries r
def uptoBulkEntry {H : Type} : Lit × DataW H → Nat
  | (.string bytes, d) => bytes.length + uptoBulk d + 1
  | (_, d) => uptoBulk d + 1
 end
def uptoSmall : (H : Type) → List (DataW H) → Bool := fun _ ds => decide (uptoBulkAll ds ≤ 1048576)
def OpenSpec.upto (s : _root_.Go.ChangeSpec) : _root_.Go.OpenSpec := { _root_.Go.OpenSpec.ofChange s with cond := some uptoSmall }

/-- 'sharecorelaw21.ModelPredicts', WHERE WHAT IT READS IS OF BULK AT MOST 1048576: true; the input reads as it did. -/
def modelPredictsUptoRow : OpenClaim := { program := "ytpggmebgndkpjaadoor", sum := "ff1341effa2e3542e4bd760e72c3428ac7f78084c436280443c327dd36b3cad4", func := "sharecore/sharecorelaw21.ModelPredicts", spec := "modelPredicts", unfollowed := true, recurses := true, named := ["sharecore/field.fields"], apart := false, laid := [("sharecore/field.fields", laid_sharecore_field_fields)], narrowed := true }
def ModelPredictsUptoSaid : Prop := modelPredictsUptoRow.holds Tryd.pinned (OpenSpec.upto modelPredictsSpec)

/-- 'sharecorelaw21.ModelCompares', WHERE WHAT IT READS IS OF BULK AT MOST 1048576: true; the input reads as it did. -/
def modelComparesUptoRow : OpenClaim := { program := "ytpggmebgndkpjaadoor", sum := "ff1341effa2e3542e4bd760e72c3428ac7f78084c436280443c327dd36b3cad4", func := "sharecore/sharecorelaw21.ModelCompares", spec := "modelCompares", unfollowed := true, recurses := true, named := ["sharecore/field.fields"], apart := false, laid := [("sharecore/field.fields", laid_sharecore_field_fields)], narrowed := true }
def ModelComparesUptoSaid : Prop := modelComparesUptoRow.holds Tryd.pinned (OpenSpec.upto modelComparesSpec)

/-- 'sharecorelaw21.ModelForgetsField', WHERE WHAT IT READS IS OF BULK AT MOST 1048576: true; the input reads as it did. -/
def modelForgetsFieldUptoRow : OpenClaim := { program := "ytpggmebgndkpjaadoor", sum := "ff1341effa2e3542e4bd760e72c3428ac7f78084c436280443c327dd36b3cad4", func := "sharecore/sharecorelaw21.ModelForgetsField", spec := "modelForgetsField", unfollowed := true, recurses := true, named := ["sharecore/field.fields"], apart := false, laid := [("sharecore/field.fields", laid_sharecore_field_fields)], narrowed := true }
def ModelForgetsFieldUptoSaid : Prop := modelForgetsFieldUptoRow.holds Tryd.pinned (OpenSpec.upto modelForgetsFieldSpec)

/-- 'sharecorelaw21.ModelGrows', WHERE WHAT IT READS IS OF BULK AT MOST 1048576: true; the input reads as it did. -/
def modelGrowsUptoRow : OpenClaim := { program := "ytpggmebgndkpjaadoor", sum := "ff1341effa2e3542e4bd760e72c3428ac7f78084c436280443c327dd36b3cad4", func := "sharecore/sharecorelaw21.ModelGrows", spec := "modelGrows", unfollowed := true, recurses := true, named := ["sharecore/field.fields"], apart := false, laid := [("sharecore/field.fields", laid_sharecore_field_fields)], narrowed := true }
def ModelGrowsUptoSaid : Prop := modelGrowsUptoRow.holds Tryd.pinned (OpenSpec.upto modelGrowsSpec)

/-- 'sharecorelaw13.ChunksCount', WHERE WHAT IT READS IS OF BULK AT MOST 1048576: true; the input reads as it did. -/
def chunksCountUptoRow : OpenClaim := { program := "ytpggmebgndkpjaadoor", sum := "ff1341effa2e3542e4bd760e72c3428ac7f78084c436280443c327dd36b3cad4", func := "sharecore/sharecorelaw13.ChunksCount", spec := "chunksCount", inPlace := ["math/bits.Add64", "math/bits.Sub64"], unfollowed := true, recurses := true, named := ["sharecore/field.fields"], apart := false, laid := [("sharecore/field.fields", laid_sharecore_field_fields)], narrowed := true }
def ChunksCountUptoSaid : Prop := chunksCountUptoRow.holds Tryd.pinned (OpenSpec.upto chunksCountSpec)

/-- 'sharecorelaw13.ChunksAreCanonical', WHERE WHAT IT READS IS OF BULK AT MOST 1048576: true; the input reads as it did. -/
def chunksAreCanonicalUptoRow : OpenClaim := { program := "ytpggmebgndkpjaadoor", sum := "ff1341effa2e3542e4bd760e72c3428ac7f78084c436280443c327dd36b3cad4", func := "sharecore/sharecorelaw13.ChunksAreCanonical", spec := "chunksAreCanonical", inPlace := ["math/bits.Add64", "math/bits.Sub64"], unfollowed := true, recurses := true, named := ["sharecore/field.fields"], apart := false, laid := [("sharecore/field.fields", laid_sharecore_field_fields)], narrowed := true }
def ChunksAreCanonicalUptoSaid : Prop := chunksAreCanonicalUptoRow.holds Tryd.pinned (OpenSpec.upto chunksAreCanonicalSpec)

/-- 'sharecorelaw13.ChunksJoin', WHERE WHAT IT READS IS OF BULK AT MOST 1048576: true; the input reads as it did. -/
def chunksJoinUptoRow : OpenClaim := { program := "ytpggmebgndkpjaadoor", sum := "ff1341effa2e3542e4bd760e72c3428ac7f78084c436280443c327dd36b3cad4", func := "sharecore/sharecorelaw13.ChunksJoin", spec := "chunksJoin", inPlace := ["math/bits.Add64", "math/bits.Sub64"], unfollowed := true, recurses := true, named := ["sharecore/field.fields"], apart := false, laid := [("sharecore/field.fields", laid_sharecore_field_fields)], narrowed := true }
def ChunksJoinUptoSaid : Prop := chunksJoinUptoRow.holds Tryd.pinned (OpenSpec.upto chunksJoinSpec)

/-- 'sharecorelaw13.ChunksRoundTrip', WHERE WHAT IT READS IS OF BULK AT MOST 1048576: true; the input reads as it did. -/
def chunksRoundTripUptoRow : OpenClaim := { program := "ytpggmebgndkpjaadoor", sum := "ff1341effa2e3542e4bd760e72c3428ac7f78084c436280443c327dd36b3cad4", func := "sharecore/sharecorelaw13.ChunksRoundTrip", spec := "chunksRoundTrip", inPlace := ["math/bits.Add64", "math/bits.Sub64"], unfollowed := true, recurses := true, named := ["sharecore/field.fields"], apart := false, laid := [("sharecore/field.fields", laid_sharecore_field_fields)], narrowed := true }
def ChunksRoundTripUptoSaid : Prop := chunksRoundTripUptoRow.holds Tryd.pinned (OpenSpec.upto chunksRoundTripSpec)

/-- 'sharecorelaw13.ChunksSplit', WHERE WHAT IT READS IS OF BULK AT MOST 1048576: true; the input reads as it did. -/
def chunksSplitUptoRow : OpenClaim := { program := "ytpggmebgndkpjaadoor", sum := "ff1341effa2e3542e4bd760e72c3428ac7f78084c436280443c327dd36b3cad4", func := "sharecore/sharecorelaw13.ChunksSplit", spec := "chunksSplit", inPlace := ["math/bits.Add64", "math/bits.Sub64"], unfollowed := true, recurses := true, named := ["sharecore/field.fields"], apart := false, laid := [("sharecore/field.fields", laid_sharecore_field_fields)], narrowed := true }
def ChunksSplitUptoSaid : Prop := chunksSplitUptoRow.holds Tryd.pinned (OpenSpec.upto chunksSplitSpec)

/-- 'sharecorelaw13.ChunksLimit', WHERE WHAT IT READS IS OF BULK AT MOST 1048576: true; the input reads as it did. -/
def chunksLimitUptoRow : OpenClaim := { program := "ytpggmebgndkpjaadoor", sum := "ff1341effa2e3542e4bd760e72c3428ac7f78084c436280443c327dd36b3cad4", func := "sharecore/sharecorelaw13.ChunksLimit", spec := "chunksLimit", inPlace := ["internal/bytealg.MakeNoZero", "math/bits.Add64", "math/bits.Sub64"], unfollowed := true, recurses := true, named := ["sharecore/field.fields"], apart := false, laid := [("sharecore/field.fields", laid_sharecore_field_fields)], narrowed := true }
def ChunksLimitUptoSaid : Prop := chunksLimitUptoRow.holds Tryd.pinned (OpenSpec.upto chunksLimitSpec)

end Rows
end Go.Proofs.YtpggmebgndkpjaaDoor
