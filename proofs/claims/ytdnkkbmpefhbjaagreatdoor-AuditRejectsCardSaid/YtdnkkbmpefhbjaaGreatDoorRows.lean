/-
  NARROWER THAN 'FOR EVERY INPUT', by the rows' own cells (each row's printed sentence says how): AuditConsistent: laid · AuditChunks: laid · AuditSuspects: laid · AuditRejects: laid · AuditEvents: laid · AuditAccepts: laid · JoinValues: laid · JoinCombines: laid · JoinAt: laid · JoinExtends: laid · JoinEvents: laid · JoinRecovers: laid.
  DERIVED. THE GIVEN ROWS OF THIS SEAT. 12 by the template 'for every input the law returns true; each argument reads behind the call as it read before'; 0 by the template 'total and deterministic' (their statements: YtdnkkbmpefhbjaaGreatDoorTotals.lean).
  GIVEN WITH THE SEED: the statements are not yours to turn. If you find one false, say at which input.
  Laid BY PROGRAM, IN A SANDBOX (cutbox-rows.mjs): the forced cells as the released guide's own fill.sh prints them over the translation 06722cc816b055f3… (all of the seat's roots in one cut). By AI agents, Wed Nov 11 2026. No macro, syntax, notation, axiom, sorry.
-/
import Derived.Test.YtdnkkbmpefhbjaaGreatDoorChecked
import GoSem.Claim
import GoSem.ClaimJoined
import GoSem.ClaimMapViews
import Derived.JoinedTies
import Derived.KernelRfl
namespace Go.Proofs.YtdnkkbmpefhbjaaGreatDoor
/- THE CELL 'sum', in the pinned program and in every row, IS THE sha256 OF THE DUMP (.gsa) THAT YtdnkkbmpefhbjaaGreatDoorProg.lean LOADS. Nothing in Lean hashes anything: it is a label: what it is worth is what the hold of that sum in a sandbox is worth. -/
noncomputable def Tryz.pinned : Pinned := { name := "ytdnkkbmpefhbjaagreatdoor", sum := "06722cc816b055f38382e0e653246a55f356746b9994d772cfe7c13eb70f60ac", checked := Tryz.checked }
namespace Rows
def none {H : Type} : Left H := { results := [], args := [] }

/- WHAT THE LISTED PACKAGE-LEVEL VARIABLES READ AS WHEN THE CALL BEGINS. Each datum BY PROGRAM (the guide's laid-datum.mjs) off the statement by which the dump's own 'gosem.cut.vars' lays the variable. In a bare row this is a premise. The card (YtdnkkbmpefhbjaaGreatDoorCards.lean) ties it to the program's text. -/
def laid_sharecore_field_fields {H : Type} : DataW H := .agg [.agg [.lit (.int .i64 1), .agg [.lit (.int .u64 18446744073709551597), .lit (.int .u64 18446744073709551615), .lit (.int .u64 18446744073709551615), .lit (.int .u64 9223372036854775807)], .lit (.int .u64 9708812670373448219), .agg [.lit (.int .u64 38), .lit (.int .u64 0), .lit (.int .u64 0), .lit (.int .u64 0)], .agg [.lit (.int .u64 1444), .lit (.int .u64 0), .lit (.int .u64 0), .lit (.int .u64 0)]], .agg [.lit (.int .i64 2), .agg [.lit (.int .u64 17562291160714782033), .lit (.int .u64 13611842547513532036), .lit (.int .u64 18446744073709551615), .lit (.int .u64 18446744069414584320)], .lit (.int .u64 14758798090332847183), .agg [.lit (.int .u64 884452912994769583), .lit (.int .u64 4834901526196019579), .lit (.int .u64 0), .lit (.int .u64 4294967295)], .agg [.lit (.int .u64 9449762124159643298), .lit (.int .u64 5087230966250696614), .lit (.int .u64 2901921493521525849), .lit (.int .u64 7413256579398063648)]]]

/-- 'sharecorelaw18.AuditConsistent': WHATEVER THE INPUT: true; the input reads as it did. -/
def auditConsistentSpec : ChangeSpec := { name := "auditConsistent", fn := fun _ => fun
  | [d] => { results := [.lit (.bool true)], args := [d] }
  | _ => none }
def auditConsistentRow : OpenClaim := { program := "ytdnkkbmpefhbjaagreatdoor", sum := "06722cc816b055f38382e0e653246a55f356746b9994d772cfe7c13eb70f60ac", func := "sharecore/sharecorelaw18.AuditConsistent", spec := "auditConsistent", inPlace := ["math/bits.Sub64", "math/bits.Add64"], unfollowed := true, recurses := true, named := ["sharecore/field.fields"], apart := false, laid := [("sharecore/field.fields", laid_sharecore_field_fields)] }
def AuditConsistentSaid : Prop := auditConsistentRow.holds Tryz.pinned (OpenSpec.ofChange auditConsistentSpec)

/-- ITS FALSE NEIGHBOUR: 'it returns false'. Refute it at one input. -/
def auditConsistentWrong : ChangeSpec := { name := "auditConsistent", fn := fun _ => fun
  | [d] => { results := [.lit (.bool false)], args := [d] }
  | _ => none }
def AuditConsistentWrongFalsely : Prop := auditConsistentRow.holds Tryz.pinned (OpenSpec.ofChange auditConsistentWrong)

/-- 'sharecorelaw18.AuditChunks': WHATEVER THE INPUT: true; the input reads as it did. -/
def auditChunksSpec : ChangeSpec := { name := "auditChunks", fn := fun _ => fun
  | [d] => { results := [.lit (.bool true)], args := [d] }
  | _ => none }
def auditChunksRow : OpenClaim := { program := "ytdnkkbmpefhbjaagreatdoor", sum := "06722cc816b055f38382e0e653246a55f356746b9994d772cfe7c13eb70f60ac", func := "sharecore/sharecorelaw18.AuditChunks", spec := "auditChunks", inPlace := ["math/bits.Sub64", "math/bits.Add64"], unfollowed := true, recurses := true, named := ["sharecore/field.fields"], apart := false, laid := [("sharecore/field.fields", laid_sharecore_field_fields)] }
def AuditChunksSaid : Prop := auditChunksRow.holds Tryz.pinned (OpenSpec.ofChange auditChunksSpec)

/-- ITS FALSE NEIGHBOUR: 'it returns false'. Refute it at one input. -/
def auditChunksWrong : ChangeSpec := { name := "auditChunks", fn := fun _ => fun
  | [d] => { results := [.lit (.bool false)], args := [d] }
  | _ => none }
def AuditChunksWrongFalsely : Prop := auditChunksRow.holds Tryz.pinned (OpenSpec.ofChange auditChunksWrong)

/-- 'sharecorelaw18.AuditSuspects': WHATEVER THE INPUT: true; the input reads as it did. -/
def auditSuspectsSpec : ChangeSpec := { name := "auditSuspects", fn := fun _ => fun
  | [d] => { results := [.lit (.bool true)], args := [d] }
  | _ => none }
def auditSuspectsRow : OpenClaim := { program := "ytdnkkbmpefhbjaagreatdoor", sum := "06722cc816b055f38382e0e653246a55f356746b9994d772cfe7c13eb70f60ac", func := "sharecore/sharecorelaw18.AuditSuspects", spec := "auditSuspects", inPlace := ["math/bits.Sub64", "math/bits.Add64"], unfollowed := true, recurses := true, named := ["sharecore/field.fields"], apart := false, laid := [("sharecore/field.fields", laid_sharecore_field_fields)] }
def AuditSuspectsSaid : Prop := auditSuspectsRow.holds Tryz.pinned (OpenSpec.ofChange auditSuspectsSpec)

/-- ITS FALSE NEIGHBOUR: 'it returns false'. Refute it at one input. -/
def auditSuspectsWrong : ChangeSpec := { name := "auditSuspects", fn := fun _ => fun
  | [d] => { results := [.lit (.bool false)], args := [d] }
  | _ => none }
def AuditSuspectsWrongFalsely : Prop := auditSuspectsRow.holds Tryz.pinned (OpenSpec.ofChange auditSuspectsWrong)

/-- 'sharecorelaw18.AuditRejects': WHATEVER THE INPUT: true; the input reads as it did. -/
def auditRejectsSpec : ChangeSpec := { name := "auditRejects", fn := fun _ => fun
  | [d1, d2, d3] => { results := [.lit (.bool true)], args := [d1, d2, d3] }
  | _ => none }
def auditRejectsRow : OpenClaim := { program := "ytdnkkbmpefhbjaagreatdoor", sum := "06722cc816b055f38382e0e653246a55f356746b9994d772cfe7c13eb70f60ac", func := "sharecore/sharecorelaw18.AuditRejects", spec := "auditRejects", inPlace := ["math/bits.Sub64", "math/bits.Add64"], unfollowed := true, recurses := true, named := ["sharecore/field.fields"], apart := false, laid := [("sharecore/field.fields", laid_sharecore_field_fields)] }
def AuditRejectsSaid : Prop := auditRejectsRow.holds Tryz.pinned (OpenSpec.ofChange auditRejectsSpec)

/-- ITS FALSE NEIGHBOUR: 'it returns false'. Refute it at one input. -/
def auditRejectsWrong : ChangeSpec := { name := "auditRejects", fn := fun _ => fun
  | [d1, d2, d3] => { results := [.lit (.bool false)], args := [d1, d2, d3] }
  | _ => none }
def AuditRejectsWrongFalsely : Prop := auditRejectsRow.holds Tryz.pinned (OpenSpec.ofChange auditRejectsWrong)

/-- 'sharecorelaw18.AuditEvents': WHATEVER THE INPUT: true; the input reads as it did. -/
def auditEventsSpec : ChangeSpec := { name := "auditEvents", fn := fun _ => fun
  | [d] => { results := [.lit (.bool true)], args := [d] }
  | _ => none }
def auditEventsRow : OpenClaim := { program := "ytdnkkbmpefhbjaagreatdoor", sum := "06722cc816b055f38382e0e653246a55f356746b9994d772cfe7c13eb70f60ac", func := "sharecore/sharecorelaw18.AuditEvents", spec := "auditEvents", inPlace := ["math/bits.Sub64", "math/bits.Add64"], unfollowed := true, recurses := true, named := ["sharecore/field.fields"], apart := false, laid := [("sharecore/field.fields", laid_sharecore_field_fields)] }
def AuditEventsSaid : Prop := auditEventsRow.holds Tryz.pinned (OpenSpec.ofChange auditEventsSpec)

/-- ITS FALSE NEIGHBOUR: 'it returns false'. Refute it at one input. -/
def auditEventsWrong : ChangeSpec := { name := "auditEvents", fn := fun _ => fun
  | [d] => { results := [.lit (.bool false)], args := [d] }
  | _ => none }
def AuditEventsWrongFalsely : Prop := auditEventsRow.holds Tryz.pinned (OpenSpec.ofChange auditEventsWrong)

/-- 'sharecorelaw18.AuditAccepts': WHATEVER THE INPUT: true; the input reads as it did. -/
def auditAcceptsSpec : ChangeSpec := { name := "auditAccepts", fn := fun _ => fun
  | [d1, d2] => { results := [.lit (.bool true)], args := [d1, d2] }
  | _ => none }
def auditAcceptsRow : OpenClaim := { program := "ytdnkkbmpefhbjaagreatdoor", sum := "06722cc816b055f38382e0e653246a55f356746b9994d772cfe7c13eb70f60ac", func := "sharecore/sharecorelaw18.AuditAccepts", spec := "auditAccepts", inPlace := ["math/bits.Sub64", "math/bits.Add64"], unfollowed := true, recurses := true, named := ["sharecore/field.fields"], apart := false, laid := [("sharecore/field.fields", laid_sharecore_field_fields)] }
def AuditAcceptsSaid : Prop := auditAcceptsRow.holds Tryz.pinned (OpenSpec.ofChange auditAcceptsSpec)

/-- ITS FALSE NEIGHBOUR: 'it returns false'. Refute it at one input. -/
def auditAcceptsWrong : ChangeSpec := { name := "auditAccepts", fn := fun _ => fun
  | [d1, d2] => { results := [.lit (.bool false)], args := [d1, d2] }
  | _ => none }
def AuditAcceptsWrongFalsely : Prop := auditAcceptsRow.holds Tryz.pinned (OpenSpec.ofChange auditAcceptsWrong)

/-- 'sharecorelaw17.JoinValues': WHATEVER THE INPUT: true; the input reads as it did. -/
def joinValuesSpec : ChangeSpec := { name := "joinValues", fn := fun _ => fun
  | [d] => { results := [.lit (.bool true)], args := [d] }
  | _ => none }
def joinValuesRow : OpenClaim := { program := "ytdnkkbmpefhbjaagreatdoor", sum := "06722cc816b055f38382e0e653246a55f356746b9994d772cfe7c13eb70f60ac", func := "sharecore/sharecorelaw17.JoinValues", spec := "joinValues", inPlace := ["math/bits.Sub64", "math/bits.Add64"], unfollowed := true, recurses := true, named := ["sharecore/field.fields"], apart := false, laid := [("sharecore/field.fields", laid_sharecore_field_fields)] }
def JoinValuesSaid : Prop := joinValuesRow.holds Tryz.pinned (OpenSpec.ofChange joinValuesSpec)

/-- ITS FALSE NEIGHBOUR: 'it returns false'. Refute it at one input. -/
def joinValuesWrong : ChangeSpec := { name := "joinValues", fn := fun _ => fun
  | [d] => { results := [.lit (.bool false)], args := [d] }
  | _ => none }
def JoinValuesWrongFalsely : Prop := joinValuesRow.holds Tryz.pinned (OpenSpec.ofChange joinValuesWrong)

/-- 'sharecorelaw17.JoinCombines': WHATEVER THE INPUT: true; the input reads as it did. -/
def joinCombinesSpec : ChangeSpec := { name := "joinCombines", fn := fun _ => fun
  | [d] => { results := [.lit (.bool true)], args := [d] }
  | _ => none }
def joinCombinesRow : OpenClaim := { program := "ytdnkkbmpefhbjaagreatdoor", sum := "06722cc816b055f38382e0e653246a55f356746b9994d772cfe7c13eb70f60ac", func := "sharecore/sharecorelaw17.JoinCombines", spec := "joinCombines", inPlace := ["math/bits.Sub64", "math/bits.Add64"], unfollowed := true, recurses := true, named := ["sharecore/field.fields"], apart := false, laid := [("sharecore/field.fields", laid_sharecore_field_fields)] }
def JoinCombinesSaid : Prop := joinCombinesRow.holds Tryz.pinned (OpenSpec.ofChange joinCombinesSpec)

/-- ITS FALSE NEIGHBOUR: 'it returns false'. Refute it at one input. -/
def joinCombinesWrong : ChangeSpec := { name := "joinCombines", fn := fun _ => fun
  | [d] => { results := [.lit (.bool false)], args := [d] }
  | _ => none }
def JoinCombinesWrongFalsely : Prop := joinCombinesRow.holds Tryz.pinned (OpenSpec.ofChange joinCombinesWrong)

/-- 'sharecorelaw17.JoinAt': WHATEVER THE INPUT: true; the input reads as it did. -/
def joinAtSpec : ChangeSpec := { name := "joinAt", fn := fun _ => fun
  | [d1, d2] => { results := [.lit (.bool true)], args := [d1, d2] }
  | _ => none }
def joinAtRow : OpenClaim := { program := "ytdnkkbmpefhbjaagreatdoor", sum := "06722cc816b055f38382e0e653246a55f356746b9994d772cfe7c13eb70f60ac", func := "sharecore/sharecorelaw17.JoinAt", spec := "joinAt", inPlace := ["math/bits.Sub64", "math/bits.Add64"], unfollowed := true, recurses := true, named := ["sharecore/field.fields"], apart := false, laid := [("sharecore/field.fields", laid_sharecore_field_fields)] }
def JoinAtSaid : Prop := joinAtRow.holds Tryz.pinned (OpenSpec.ofChange joinAtSpec)

/-- ITS FALSE NEIGHBOUR: 'it returns false'. Refute it at one input. -/
def joinAtWrong : ChangeSpec := { name := "joinAt", fn := fun _ => fun
  | [d1, d2] => { results := [.lit (.bool false)], args := [d1, d2] }
  | _ => none }
def JoinAtWrongFalsely : Prop := joinAtRow.holds Tryz.pinned (OpenSpec.ofChange joinAtWrong)

/-- 'sharecorelaw17.JoinExtends': WHATEVER THE INPUT: true; the input reads as it did. -/
def joinExtendsSpec : ChangeSpec := { name := "joinExtends", fn := fun _ => fun
  | [d1, d2, d3] => { results := [.lit (.bool true)], args := [d1, d2, d3] }
  | _ => none }
def joinExtendsRow : OpenClaim := { program := "ytdnkkbmpefhbjaagreatdoor", sum := "06722cc816b055f38382e0e653246a55f356746b9994d772cfe7c13eb70f60ac", func := "sharecore/sharecorelaw17.JoinExtends", spec := "joinExtends", inPlace := ["math/bits.Sub64", "math/bits.Add64"], unfollowed := true, recurses := true, named := ["sharecore/field.fields"], apart := false, laid := [("sharecore/field.fields", laid_sharecore_field_fields)] }
def JoinExtendsSaid : Prop := joinExtendsRow.holds Tryz.pinned (OpenSpec.ofChange joinExtendsSpec)

/-- ITS FALSE NEIGHBOUR: 'it returns false'. Refute it at one input. -/
def joinExtendsWrong : ChangeSpec := { name := "joinExtends", fn := fun _ => fun
  | [d1, d2, d3] => { results := [.lit (.bool false)], args := [d1, d2, d3] }
  | _ => none }
def JoinExtendsWrongFalsely : Prop := joinExtendsRow.holds Tryz.pinned (OpenSpec.ofChange joinExtendsWrong)

/-- 'sharecorelaw17.JoinEvents': WHATEVER THE INPUT: true; the input reads as it did. -/
def joinEventsSpec : ChangeSpec := { name := "joinEvents", fn := fun _ => fun
  | [d] => { results := [.lit (.bool true)], args := [d] }
  | _ => none }
def joinEventsRow : OpenClaim := { program := "ytdnkkbmpefhbjaagreatdoor", sum := "06722cc816b055f38382e0e653246a55f356746b9994d772cfe7c13eb70f60ac", func := "sharecore/sharecorelaw17.JoinEvents", spec := "joinEvents", inPlace := ["math/bits.Sub64", "math/bits.Add64"], unfollowed := true, recurses := true, named := ["sharecore/field.fields"], apart := false, laid := [("sharecore/field.fields", laid_sharecore_field_fields)] }
def JoinEventsSaid : Prop := joinEventsRow.holds Tryz.pinned (OpenSpec.ofChange joinEventsSpec)

/-- ITS FALSE NEIGHBOUR: 'it returns false'. Refute it at one input. -/
def joinEventsWrong : ChangeSpec := { name := "joinEvents", fn := fun _ => fun
  | [d] => { results := [.lit (.bool false)], args := [d] }
  | _ => none }
def JoinEventsWrongFalsely : Prop := joinEventsRow.holds Tryz.pinned (OpenSpec.ofChange joinEventsWrong)

/-- 'sharecorelaw17.JoinRecovers': WHATEVER THE INPUT: true; the input reads as it did. -/
def joinRecoversSpec : ChangeSpec := { name := "joinRecovers", fn := fun _ => fun
  | [d1, d2, d3] => { results := [.lit (.bool true)], args := [d1, d2, d3] }
  | _ => none }
def joinRecoversRow : OpenClaim := { program := "ytdnkkbmpefhbjaagreatdoor", sum := "06722cc816b055f38382e0e653246a55f356746b9994d772cfe7c13eb70f60ac", func := "sharecore/sharecorelaw17.JoinRecovers", spec := "joinRecovers", inPlace := ["math/bits.Sub64", "math/bits.Add64"], unfollowed := true, recurses := true, named := ["sharecore/field.fields"], apart := false, laid := [("sharecore/field.fields", laid_sharecore_field_fields)] }
def JoinRecoversSaid : Prop := joinRecoversRow.holds Tryz.pinned (OpenSpec.ofChange joinRecoversSpec)

/-- ITS FALSE NEIGHBOUR: 'it returns false'. Refute it at one input. -/
def joinRecoversWrong : ChangeSpec := { name := "joinRecovers", fn := fun _ => fun
  | [d1, d2, d3] => { results := [.lit (.bool false)], args := [d1, d2, d3] }
  | _ => none }
def JoinRecoversWrongFalsely : Prop := joinRecoversRow.holds Tryz.pinned (OpenSpec.ofChange joinRecoversWrong)

/- THE SECOND FORM. 'bulk': how many values and letters a reading holds, each counted each time it is reached (what is shared counts as often as it is met; a slice's spare places count too). A statement '..UptoSaid' is the law's where the arguments, and the package variables that the reading takes, are together of bulk at most 1048576: NARROWER than '..Said'. Prove '..Said' where nothing that the law and all that it calls make is longer than what came in: it says more and counts as full. Else prove '..UptoSaid'. A law counts once. -/
mutual
def uptoBulk {H : Type} : DataW H → Nat
  | .lit (.string bytes) => bytes.length + 1
  | .lit _ => 1
  | .nil => 1
  | .ptr d => uptoBulk d + 1
  | .slice elems spare => uptoBulkAll elems + uptoBulkAll spare + 1
  | .agg parts => uptoBulkAll parts + 1
  | .iface _ d => uptoBulk d + 1
  | .map entries => uptoBulkEntries entries + 1
  | .held _ => 1
def uptoBulkAll {H : Type} : List (DataW H) → Nat
  | [] => 0
  | d :: r => uptoBulk d + uptoBulkAll r
def uptoBulkEntries {H : Type} : List (Lit × DataW H) → Nat
  | [] => 0
  | x :: r => uptoBulkEntry x + uptoBulkEntries r
def uptoBulkEntry {H : Type} : Lit × DataW H → Nat
  | (.string bytes, d) => bytes.length + uptoBulk d + 1
  | (_, d) => uptoBulk d + 1
 end
def uptoSmall : (H : Type) → List (DataW H) → Bool := fun _ ds => decide (uptoBulkAll ds ≤ 1048576)
def OpenSpec.upto (s : _root_.Go.ChangeSpec) : _root_.Go.OpenSpec := { _root_.Go.OpenSpec.ofChange s with cond := some uptoSmall }

/-- 'sharecorelaw18.AuditConsistent', WHERE WHAT IT READS IS OF BULK AT MOST 1048576: true; the input reads as it did. -/
def auditConsistentUptoRow : OpenClaim := { program := "ytdnkkbmpefhbjaagreatdoor", sum := "06722cc816b055f38382e0e653246a55f356746b9994d772cfe7c13eb70f60ac", func := "sharecore/sharecorelaw18.AuditConsistent", spec := "auditConsistent", inPlace := ["math/bits.Sub64", "math/bits.Add64"], unfollowed := true, recurses := true, named := ["sharecore/field.fields"], apart := false, laid := [("sharecore/field.fields", laid_sharecore_field_fields)], narrowed := true }
def AuditConsistentUptoSaid : Prop := auditConsistentUptoRow.holds Tryz.pinned (OpenSpec.upto auditConsistentSpec)

/-- 'sharecorelaw18.AuditChunks', WHERE WHAT IT READS IS OF BULK AT MOST 1048576: true; the input reads as it did. -/
def auditChunksUptoRow : OpenClaim := { program := "ytdnkkbmpefhbjaagreatdoor", sum := "06722cc816b055f38382e0e653246a55f356746b9994d772cfe7c13eb70f60ac", func := "sharecore/sharecorelaw18.AuditChunks", spec := "auditChunks", inPlace := ["math/bits.Sub64", "math/bits.Add64"], unfollowed := true, recurses := true, named := ["sharecore/field.fields"], apart := false, laid := [("sharecore/field.fields", laid_sharecore_field_fields)], narrowed := true }
def AuditChunksUptoSaid : Prop := auditChunksUptoRow.holds Tryz.pinned (OpenSpec.upto auditChunksSpec)

/-- 'sharecorelaw18.AuditSuspects', WHERE WHAT IT READS IS OF BULK AT MOST 1048576: true; the input reads as it did. -/
def auditSuspectsUptoRow : OpenClaim := { program := "ytdnkkbmpefhbjaagreatdoor", sum := "06722cc816b055f38382e0e653246a55f356746b9994d772cfe7c13eb70f60ac", func := "sharecore/sharecorelaw18.AuditSuspects", spec := "auditSuspects", inPlace := ["math/bits.Sub64", "math/bits.Add64"], unfollowed := true, recurses := true, named := ["sharecore/field.fields"], apart := false, laid := [("sharecore/field.fields", laid_sharecore_field_fields)], narrowed := true }
def AuditSuspectsUptoSaid : Prop := auditSuspectsUptoRow.holds Tryz.pinned (OpenSpec.upto auditSuspectsSpec)

/-- 'sharecorelaw18.AuditRejects', WHERE WHAT IT READS IS OF BULK AT MOST 1048576: true; the input reads as it did. -/
def auditRejectsUptoRow : OpenClaim := { program := "ytdnkkbmpefhbjaagreatdoor", sum := "06722cc816b055f38382e0e653246a55f356746b9994d772cfe7c13eb70f60ac", func := "sharecore/sharecorelaw18.AuditRejects", spec := "auditRejects", inPlace := ["math/bits.Sub64", "math/bits.Add64"], unfollowed := true, recurses := true, named := ["sharecore/field.fields"], apart := false, laid := [("sharecore/field.fields", laid_sharecore_field_fields)], narrowed := true }
def AuditRejectsUptoSaid : Prop := auditRejectsUptoRow.holds Tryz.pinned (OpenSpec.upto auditRejectsSpec)

/-- 'sharecorelaw18.AuditEvents', WHERE WHAT IT READS IS OF BULK AT MOST 1048576: true; the input reads as it did. -/
def auditEventsUptoRow : OpenClaim := { program := "ytdnkkbmpefhbjaagreatdoor", sum := "06722cc816b055f38382e0e653246a55f356746b9994d772cfe7c13eb70f60ac", func := "sharecore/sharecorelaw18.AuditEvents", spec := "auditEvents", inPlace := ["math/bits.Sub64", "math/bits.Add64"], unfollowed := true, recurses := true, named := ["sharecore/field.fields"], apart := false, laid := [("sharecore/field.fields", laid_sharecore_field_fields)], narrowed := true }
def AuditEventsUptoSaid : Prop := auditEventsUptoRow.holds Tryz.pinned (OpenSpec.upto auditEventsSpec)

/-- 'sharecorelaw18.AuditAccepts', WHERE WHAT IT READS IS OF BULK AT MOST 1048576: true; the input reads as it did. -/
def auditAcceptsUptoRow : OpenClaim := { program := "ytdnkkbmpefhbjaagreatdoor", sum := "06722cc816b055f38382e0e653246a55f356746b9994d772cfe7c13eb70f60ac", func := "sharecore/sharecorelaw18.AuditAccepts", spec := "auditAccepts", inPlace := ["math/bits.Sub64", "math/bits.Add64"], unfollowed := true, recurses := true, named := ["sharecore/field.fields"], apart := false, laid := [("sharecore/field.fields", laid_sharecore_field_fields)], narrowed := true }
def AuditAcceptsUptoSaid : Prop := auditAcceptsUptoRow.holds Tryz.pinned (OpenSpec.upto auditAcceptsSpec)

/-- 'sharecorelaw17.JoinValues', WHERE WHAT IT READS IS OF BULK AT MOST 1048576: true; the input reads as it did. -/
def joinValuesUptoRow : OpenClaim := { program := "ytdnkkbmpefhbjaagreatdoor", sum := "06722cc816b055f38382e0e653246a55f356746b9994d772cfe7c13eb70f60ac", func := "sharecore/sharecorelaw17.JoinValues", spec := "joinValues", inPlace := ["math/bits.Sub64", "math/bits.Add64"], unfollowed := true, recurses := true, named := ["sharecore/field.fields"], apart := false, laid := [("sharecore/field.fields", laid_sharecore_field_fields)], narrowed := true }
def JoinValuesUptoSaid : Prop := joinValuesUptoRow.holds Tryz.pinned (OpenSpec.upto joinValuesSpec)

/-- 'sharecorelaw17.JoinCombines', WHERE WHAT IT READS IS OF BULK AT MOST 1048576: true; the input reads as it did. -/
def joinCombinesUptoRow : OpenClaim := { program := "ytdnkkbmpefhbjaagreatdoor", sum := "06722cc816b055f38382e0e653246a55f356746b9994d772cfe7c13eb70f60ac", func := "sharecore/sharecorelaw17.JoinCombines", spec := "joinCombines", inPlace := ["math/bits.Sub64", "math/bits.Add64"], unfollowed := true, recurses := true, named := ["sharecore/field.fields"], apart := false, laid := [("sharecore/field.fields", laid_sharecore_field_fields)], narrowed := true }
def JoinCombinesUptoSaid : Prop := joinCombinesUptoRow.holds Tryz.pinned (OpenSpec.upto joinCombinesSpec)

/-- 'sharecorelaw17.JoinAt', WHERE WHAT IT READS IS OF BULK AT MOST 1048576: true; the input reads as it did. -/
def joinAtUptoRow : OpenClaim := { program := "ytdnkkbmpefhbjaagreatdoor", sum := "06722cc816b055f38382e0e653246a55f356746b9994d772cfe7c13eb70f60ac", func := "sharecore/sharecorelaw17.JoinAt", spec := "joinAt", inPlace := ["math/bits.Sub64", "math/bits.Add64"], unfollowed := true, recurses := true, named := ["sharecore/field.fields"], apart := false, laid := [("sharecore/field.fields", laid_sharecore_field_fields)], narrowed := true }
def JoinAtUptoSaid : Prop := joinAtUptoRow.holds Tryz.pinned (OpenSpec.upto joinAtSpec)

/-- 'sharecorelaw17.JoinExtends', WHERE WHAT IT READS IS OF BULK AT MOST 1048576: true; the input reads as it did. -/
def joinExtendsUptoRow : OpenClaim := { program := "ytdnkkbmpefhbjaagreatdoor", sum := "06722cc816b055f38382e0e653246a55f356746b9994d772cfe7c13eb70f60ac", func := "sharecore/sharecorelaw17.JoinExtends", spec := "joinExtends", inPlace := ["math/bits.Sub64", "math/bits.Add64"], unfollowed := true, recurses := true, named := ["sharecore/field.fields"], apart := false, laid := [("sharecore/field.fields", laid_sharecore_field_fields)], narrowed := true }
def JoinExtendsUptoSaid : Prop := joinExtendsUptoRow.holds Tryz.pinned (OpenSpec.upto joinExtendsSpec)

/-- 'sharecorelaw17.JoinEvents', WHERE WHAT IT READS IS OF BULK AT MOST 1048576: true; the input reads as it did. -/
def joinEventsUptoRow : OpenClaim := { program := "ytdnkkbmpefhbjaagreatdoor", sum := "06722cc816b055f38382e0e653246a55f356746b9994d772cfe7c13eb70f60ac", func := "sharecore/sharecorelaw17.JoinEvents", spec := "joinEvents", inPlace := ["math/bits.Sub64", "math/bits.Add64"], unfollowed := true, recurses := true, named := ["sharecore/field.fields"], apart := false, laid := [("sharecore/field.fields", laid_sharecore_field_fields)], narrowed := true }
def JoinEventsUptoSaid : Prop := joinEventsUptoRow.holds Tryz.pinned (OpenSpec.upto joinEventsSpec)

/-- 'sharecorelaw17.JoinRecovers', WHERE WHAT IT READS IS OF BULK AT MOST 1048576: true; the input reads as it did. -/
def joinRecoversUptoRow : OpenClaim := { program := "ytdnkkbmpefhbjaagreatdoor", sum := "06722cc816b055f38382e0e653246a55f356746b9994d772cfe7c13eb70f60ac", func := "sharecore/sharecorelaw17.JoinRecovers", spec := "joinRecovers", inPlace := ["math/bits.Sub64", "math/bits.Add64"], unfollowed := true, recurses := true, named := ["sharecore/field.fields"], apart := false, laid := [("sharecore/field.fields", laid_sharecore_field_fields)], narrowed := true }
def JoinRecoversUptoSaid : Prop := joinRecoversUptoRow.holds Tryz.pinned (OpenSpec.upto joinRecoversSpec)

end Rows
end Go.Proofs.YtdnkkbmpefhbjaaGreatDoor
