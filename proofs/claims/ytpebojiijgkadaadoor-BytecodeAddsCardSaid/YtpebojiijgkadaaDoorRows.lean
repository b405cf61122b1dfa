/-
  NARROWER THAN 'FOR EVERY INPUT', by the rows' own cells (each row's printed sentence says how): MontAdds: laid · MontConverts: laid · MontIsRing: laid · MontMultiplies: laid · MontStaysBelow: laid · MontChooses: laid · BytecodeReduces: laid · BytecodeAdds: laid · BytecodeEncodes: laid · BytecodeDecodes: laid · BytecodeUnpacks: laid · BytecodePacks: laid.
  DERIVED. THE GIVEN ROWS OF THIS SEAT. 12 by the template 'for every input the law returns true; each argument reads behind the call as it read before'; 0 by the template 'total and deterministic' (their statements: YtpebojiijgkadaaDoorTotals.lean).
  GIVEN WITH THE SEED: the statements are not yours to turn. If you find one false, say at which input.
  Laid BY PROGRAM, IN A SANDBOX (cutbox-rows.mjs): the forced cells as the released guide's own fill.sh prints them over the translation 7cd666831906d9de… (all of the seat's roots in one cut). By AI agents, Wed Nov 11 2026. No macro, syntax, notation, axiom, sorry.
-/
import Derived.Test.YtpebojiijgkadaaDoorChecked
import GoSem.Claim
import GoSem.ClaimJoined
import GoSem.ClaimMapViews
import Derived.JoinedTies
import Derived.KernelRfl
namespace Go.Proofs.YtpebojiijgkadaaDoor
/- THE CELL 'sum', in the pinned program and in every row, IS THE sha256 OF THE DUMP (.gsa) THAT YtpebojiijgkadaaDoorProg.lean LOADS. Nothing in Lean hashes anything: it is a label: what it is worth is what the hold of that sum in a sandbox is worth. -/
noncomputable def Tryd.pinned : Pinned := { name := "ytpebojiijgkadaadoor", sum := "7cd666831906d9de9c2cea432d382f0fdc8e0d4a0d69466d64c26b2d7841854b", checked := Tryd.checked }
namespace Rows
def none {H : Type} : Left H := { results := [], args := [] }

/- WHAT THE LISTED PACKAGE-LEVEL VARIABLES READ AS WHEN THE CALL BEGINS. Each datum BY PROGRAM (the guide's laid-datum.mjs) off the statement by which the dump's own 'gosem.cut.vars' lays the variable. In a bare row this is a premise. The card (YtpebojiijgkadaaDoorCards.lean) ties it to the program's text. -/
def laid_sharecore_field_fields {H : Type} : DataW H := .agg [.agg [.lit (.int .i64 1), .agg [.lit (.int .u64 18446744073709551597), .lit (.int .u64 18446744073709551615), .lit (.int .u64 18446744073709551615), .lit (.int .u64 9223372036854775807)], .lit (.int .u64 9708812670373448219), .agg [.lit (.int .u64 38), .lit (.int .u64 0), .lit (.int .u64 0), .lit (.int .u64 0)], .agg [.lit (.int .u64 1444), .lit (.int .u64 0), .lit (.int .u64 0), .lit (.int .u64 0)]], .agg [.lit (.int .i64 2), .agg [.lit (.int .u64 17562291160714782033), .lit (.int .u64 13611842547513532036), .lit (.int .u64 18446744073709551615), .lit (.int .u64 18446744069414584320)], .lit (.int .u64 14758798090332847183), .agg [.lit (.int .u64 884452912994769583), .lit (.int .u64 4834901526196019579), .lit (.int .u64 0), .lit (.int .u64 4294967295)], .agg [.lit (.int .u64 9449762124159643298), .lit (.int .u64 5087230966250696614), .lit (.int .u64 2901921493521525849), .lit (.int .u64 7413256579398063648)]]]

/-- 'sharecorelaw05.MontAdds': WHATEVER THE INPUT: true; the input reads as it did. -/
def montAddsSpec : ChangeSpec := { name := "montAdds", fn := fun _ => fun
  | [d1, d2, d3] => { results := [.lit (.bool true)], args := [d1, d2, d3] }
  | _ => none }
def montAddsRow : OpenClaim := { program := "ytpebojiijgkadaadoor", sum := "7cd666831906d9de9c2cea432d382f0fdc8e0d4a0d69466d64c26b2d7841854b", func := "sharecore/sharecorelaw05.MontAdds", spec := "montAdds", inPlace := ["math/bits.Add64", "math/bits.Sub64"], unfollowed := true, recurses := true, named := ["sharecore/field.fields"], apart := false, laid := [("sharecore/field.fields", laid_sharecore_field_fields)] }
def MontAddsSaid : Prop := montAddsRow.holds Tryd.pinned (OpenSpec.ofChange montAddsSpec)

/-- ITS FALSE NEIGHBOUR: 'it returns false'. Refute it at one input. -/
def montAddsWrong : ChangeSpec := { name := "montAdds", fn := fun _ => fun
  | [d1, d2, d3] => { results := [.lit (.bool false)], args := [d1, d2, d3] }
  | _ => none }
def MontAddsWrongFalsely : Prop := montAddsRow.holds Tryd.pinned (OpenSpec.ofChange montAddsWrong)

/-- 'sharecorelaw05.MontConverts': WHATEVER THE INPUT: true; the input reads as it did. -/
def montConvertsSpec : ChangeSpec := { name := "montConverts", fn := fun _ => fun
  | [d1, d2] => { results := [.lit (.bool true)], args := [d1, d2] }
  | _ => none }
def montConvertsRow : OpenClaim := { program := "ytpebojiijgkadaadoor", sum := "7cd666831906d9de9c2cea432d382f0fdc8e0d4a0d69466d64c26b2d7841854b", func := "sharecore/sharecorelaw05.MontConverts", spec := "montConverts", inPlace := ["math/bits.Add64", "math/bits.Sub64"], unfollowed := true, recurses := true, named := ["sharecore/field.fields"], apart := false, laid := [("sharecore/field.fields", laid_sharecore_field_fields)] }
def MontConvertsSaid : Prop := montConvertsRow.holds Tryd.pinned (OpenSpec.ofChange montConvertsSpec)

/-- ITS FALSE NEIGHBOUR: 'it returns false'. Refute it at one input. -/
def montConvertsWrong : ChangeSpec := { name := "montConverts", fn := fun _ => fun
  | [d1, d2] => { results := [.lit (.bool false)], args := [d1, d2] }
  | _ => none }
def MontConvertsWrongFalsely : Prop := montConvertsRow.holds Tryd.pinned (OpenSpec.ofChange montConvertsWrong)

/-- 'sharecorelaw05.MontIsRing': WHATEVER THE INPUT: true; the input reads as it did. -/
def montIsRingSpec : ChangeSpec := { name := "montIsRing", fn := fun _ => fun
  | [d1, d2, d3] => { results := [.lit (.bool true)], args := [d1, d2, d3] }
  | _ => none }
def montIsRingRow : OpenClaim := { program := "ytpebojiijgkadaadoor", sum := "7cd666831906d9de9c2cea432d382f0fdc8e0d4a0d69466d64c26b2d7841854b", func := "sharecore/sharecorelaw05.MontIsRing", spec := "montIsRing", inPlace := ["math/bits.Sub64", "math/bits.Add64"], unfollowed := true, recurses := true, named := ["sharecore/field.fields"], apart := false, laid := [("sharecore/field.fields", laid_sharecore_field_fields)] }
def MontIsRingSaid : Prop := montIsRingRow.holds Tryd.pinned (OpenSpec.ofChange montIsRingSpec)

/-- ITS FALSE NEIGHBOUR: 'it returns false'. Refute it at one input. -/
def montIsRingWrong : ChangeSpec := { name := "montIsRing", fn := fun _ => fun
  | [d1, d2, d3] => { results := [.lit (.bool false)], args := [d1, d2, d3] }
  | _ => none }
def MontIsRingWrongFalsely : Prop := montIsRingRow.holds Tryd.pinned (OpenSpec.ofChange montIsRingWrong)

/-- 'sharecorelaw05.MontMultiplies': WHATEVER THE INPUT: true; the input reads as it did. -/
def montMultipliesSpec : ChangeSpec := { name := "montMultiplies", fn := fun _ => fun
  | [d1, d2, d3] => { results := [.lit (.bool true)], args := [d1, d2, d3] }
  | _ => none }
def montMultipliesRow : OpenClaim := { program := "ytpebojiijgkadaadoor", sum := "7cd666831906d9de9c2cea432d382f0fdc8e0d4a0d69466d64c26b2d7841854b", func := "sharecore/sharecorelaw05.MontMultiplies", spec := "montMultiplies", inPlace := ["math/bits.Add64", "math/bits.Sub64"], unfollowed := true, recurses := true, named := ["sharecore/field.fields"], apart := false, laid := [("sharecore/field.fields", laid_sharecore_field_fields)] }
def MontMultipliesSaid : Prop := montMultipliesRow.holds Tryd.pinned (OpenSpec.ofChange montMultipliesSpec)

/-- ITS FALSE NEIGHBOUR: 'it returns false'. Refute it at one input. -/
def montMultipliesWrong : ChangeSpec := { name := "montMultiplies", fn := fun _ => fun
  | [d1, d2, d3] => { results := [.lit (.bool false)], args := [d1, d2, d3] }
  | _ => none }
def MontMultipliesWrongFalsely : Prop := montMultipliesRow.holds Tryd.pinned (OpenSpec.ofChange montMultipliesWrong)

/-- 'sharecorelaw05.MontStaysBelow': WHATEVER THE INPUT: true; the input reads as it did. -/
def montStaysBelowSpec : ChangeSpec := { name := "montStaysBelow", fn := fun _ => fun
  | [d1, d2, d3] => { results := [.lit (.bool true)], args := [d1, d2, d3] }
  | _ => none }
def montStaysBelowRow : OpenClaim := { program := "ytpebojiijgkadaadoor", sum := "7cd666831906d9de9c2cea432d382f0fdc8e0d4a0d69466d64c26b2d7841854b", func := "sharecore/sharecorelaw05.MontStaysBelow", spec := "montStaysBelow", inPlace := ["math/bits.Add64", "math/bits.Sub64"], unfollowed := true, recurses := true, named := ["sharecore/field.fields"], apart := false, laid := [("sharecore/field.fields", laid_sharecore_field_fields)] }
def MontStaysBelowSaid : Prop := montStaysBelowRow.holds Tryd.pinned (OpenSpec.ofChange montStaysBelowSpec)

/-- ITS FALSE NEIGHBOUR: 'it returns false'. Refute it at one input. -/
def montStaysBelowWrong : ChangeSpec := { name := "montStaysBelow", fn := fun _ => fun
  | [d1, d2, d3] => { results := [.lit (.bool false)], args := [d1, d2, d3] }
  | _ => none }
def MontStaysBelowWrongFalsely : Prop := montStaysBelowRow.holds Tryd.pinned (OpenSpec.ofChange montStaysBelowWrong)

/-- 'sharecorelaw05.MontChooses': WHATEVER THE INPUT: true; the input reads as it did. -/
def montChoosesSpec : ChangeSpec := { name := "montChooses", fn := fun _ => fun
  | [d1, d2, d3] => { results := [.lit (.bool true)], args := [d1, d2, d3] }
  | _ => none }
def montChoosesRow : OpenClaim := { program := "ytpebojiijgkadaadoor", sum := "7cd666831906d9de9c2cea432d382f0fdc8e0d4a0d69466d64c26b2d7841854b", func := "sharecore/sharecorelaw05.MontChooses", spec := "montChooses", inPlace := ["math/bits.Add64", "math/bits.Sub64"], unfollowed := true, recurses := true, named := ["sharecore/field.fields"], apart := false, laid := [("sharecore/field.fields", laid_sharecore_field_fields)] }
def MontChoosesSaid : Prop := montChoosesRow.holds Tryd.pinned (OpenSpec.ofChange montChoosesSpec)

/-- ITS FALSE NEIGHBOUR: 'it returns false'. Refute it at one input. -/
def montChoosesWrong : ChangeSpec := { name := "montChooses", fn := fun _ => fun
  | [d1, d2, d3] => { results := [.lit (.bool false)], args := [d1, d2, d3] }
  | _ => none }
def MontChoosesWrongFalsely : Prop := montChoosesRow.holds Tryd.pinned (OpenSpec.ofChange montChoosesWrong)

/-- 'sharecorelaw07.BytecodeReduces': WHATEVER THE INPUT: true; the input reads as it did. -/
def bytecodeReducesSpec : ChangeSpec := { name := "bytecodeReduces", fn := fun _ => fun
  | [d1, d2] => { results := [.lit (.bool true)], args := [d1, d2] }
  | _ => none }
def bytecodeReducesRow : OpenClaim := { program := "ytpebojiijgkadaadoor", sum := "7cd666831906d9de9c2cea432d382f0fdc8e0d4a0d69466d64c26b2d7841854b", func := "sharecore/sharecorelaw07.BytecodeReduces", spec := "bytecodeReduces", inPlace := ["math/bits.Add64", "math/bits.Sub64"], unfollowed := true, recurses := true, named := ["sharecore/field.fields"], apart := false, laid := [("sharecore/field.fields", laid_sharecore_field_fields)] }
def BytecodeReducesSaid : Prop := bytecodeReducesRow.holds Tryd.pinned (OpenSpec.ofChange bytecodeReducesSpec)

/-- ITS FALSE NEIGHBOUR: 'it returns false'. Refute it at one input. -/
def bytecodeReducesWrong : ChangeSpec := { name := "bytecodeReduces", fn := fun _ => fun
  | [d1, d2] => { results := [.lit (.bool false)], args := [d1, d2] }
  | _ => none }
def BytecodeReducesWrongFalsely : Prop := bytecodeReducesRow.holds Tryd.pinned (OpenSpec.ofChange bytecodeReducesWrong)

/-- 'sharecorelaw07.BytecodeAdds': WHATEVER THE INPUT: true; the input reads as it did. -/
def bytecodeAddsSpec : ChangeSpec := { name := "bytecodeAdds", fn := fun _ => fun
  | [d1, d2] => { results := [.lit (.bool true)], args := [d1, d2] }
  | _ => none }
def bytecodeAddsRow : OpenClaim := { program := "ytpebojiijgkadaadoor", sum := "7cd666831906d9de9c2cea432d382f0fdc8e0d4a0d69466d64c26b2d7841854b", func := "sharecore/sharecorelaw07.BytecodeAdds", spec := "bytecodeAdds", inPlace := ["math/bits.Add64", "math/bits.Sub64"], unfollowed := true, recurses := true, named := ["sharecore/field.fields"], apart := false, laid := [("sharecore/field.fields", laid_sharecore_field_fields)] }
def BytecodeAddsSaid : Prop := bytecodeAddsRow.holds Tryd.pinned (OpenSpec.ofChange bytecodeAddsSpec)

/-- ITS FALSE NEIGHBOUR: 'it returns false'. Refute it at one input. -/
def bytecodeAddsWrong : ChangeSpec := { name := "bytecodeAdds", fn := fun _ => fun
  | [d1, d2] => { results := [.lit (.bool false)], args := [d1, d2] }
  | _ => none }
def BytecodeAddsWrongFalsely : Prop := bytecodeAddsRow.holds Tryd.pinned (OpenSpec.ofChange bytecodeAddsWrong)

/-- 'sharecorelaw07.BytecodeEncodes': WHATEVER THE INPUT: true; the input reads as it did. -/
def bytecodeEncodesSpec : ChangeSpec := { name := "bytecodeEncodes", fn := fun _ => fun
  | [d1, d2] => { results := [.lit (.bool true)], args := [d1, d2] }
  | _ => none }
def bytecodeEncodesRow : OpenClaim := { program := "ytpebojiijgkadaadoor", sum := "7cd666831906d9de9c2cea432d382f0fdc8e0d4a0d69466d64c26b2d7841854b", func := "sharecore/sharecorelaw07.BytecodeEncodes", spec := "bytecodeEncodes", inPlace := ["math/bits.Add64", "math/bits.Sub64"], unfollowed := true, recurses := true, named := ["sharecore/field.fields"], apart := false, laid := [("sharecore/field.fields", laid_sharecore_field_fields)] }
def BytecodeEncodesSaid : Prop := bytecodeEncodesRow.holds Tryd.pinned (OpenSpec.ofChange bytecodeEncodesSpec)

/-- ITS FALSE NEIGHBOUR: 'it returns false'. Refute it at one input. -/
def bytecodeEncodesWrong : ChangeSpec := { name := "bytecodeEncodes", fn := fun _ => fun
  | [d1, d2] => { results := [.lit (.bool false)], args := [d1, d2] }
  | _ => none }
def BytecodeEncodesWrongFalsely : Prop := bytecodeEncodesRow.holds Tryd.pinned (OpenSpec.ofChange bytecodeEncodesWrong)

/-- 'sharecorelaw07.BytecodeDecodes': WHATEVER THE INPUT: true; the input reads as it did. -/
def bytecodeDecodesSpec : ChangeSpec := { name := "bytecodeDecodes", fn := fun _ => fun
  | [d1, d2] => { results := [.lit (.bool true)], args := [d1, d2] }
  | _ => none }
def bytecodeDecodesRow : OpenClaim := { program := "ytpebojiijgkadaadoor", sum := "7cd666831906d9de9c2cea432d382f0fdc8e0d4a0d69466d64c26b2d7841854b", func := "sharecore/sharecorelaw07.BytecodeDecodes", spec := "bytecodeDecodes", inPlace := ["math/bits.Add64", "math/bits.Sub64"], unfollowed := true, recurses := true, named := ["sharecore/field.fields"], apart := false, laid := [("sharecore/field.fields", laid_sharecore_field_fields)] }
def BytecodeDecodesSaid : Prop := bytecodeDecodesRow.holds Tryd.pinned (OpenSpec.ofChange bytecodeDecodesSpec)

/-- ITS FALSE NEIGHBOUR: 'it returns false'. Refute it at one input. -/
def bytecodeDecodesWrong : ChangeSpec := { name := "bytecodeDecodes", fn := fun _ => fun
  | [d1, d2] => { results := [.lit (.bool false)], args := [d1, d2] }
  | _ => none }
def BytecodeDecodesWrongFalsely : Prop := bytecodeDecodesRow.holds Tryd.pinned (OpenSpec.ofChange bytecodeDecodesWrong)

/-- 'sharecorelaw07.BytecodeUnpacks': WHATEVER THE INPUT: true; the input reads as it did. -/
def bytecodeUnpacksSpec : ChangeSpec := { name := "bytecodeUnpacks", fn := fun _ => fun
  | [d1, d2, d3] => { results := [.lit (.bool true)], args := [d1, d2, d3] }
  | _ => none }
def bytecodeUnpacksRow : OpenClaim := { program := "ytpebojiijgkadaadoor", sum := "7cd666831906d9de9c2cea432d382f0fdc8e0d4a0d69466d64c26b2d7841854b", func := "sharecore/sharecorelaw07.BytecodeUnpacks", spec := "bytecodeUnpacks", inPlace := ["math/bits.Add64", "math/bits.Sub64"], unfollowed := true, recurses := true, named := ["sharecore/field.fields"], apart := false, laid := [("sharecore/field.fields", laid_sharecore_field_fields)] }
def BytecodeUnpacksSaid : Prop := bytecodeUnpacksRow.holds Tryd.pinned (OpenSpec.ofChange bytecodeUnpacksSpec)

/-- ITS FALSE NEIGHBOUR: 'it returns false'. Refute it at one input. -/
def bytecodeUnpacksWrong : ChangeSpec := { name := "bytecodeUnpacks", fn := fun _ => fun
  | [d1, d2, d3] => { results := [.lit (.bool false)], args := [d1, d2, d3] }
  | _ => none }
def BytecodeUnpacksWrongFalsely : Prop := bytecodeUnpacksRow.holds Tryd.pinned (OpenSpec.ofChange bytecodeUnpacksWrong)

/-- 'sharecorelaw07.BytecodePacks': WHATEVER THE INPUT: true; the input reads as it did. -/
def bytecodePacksSpec : ChangeSpec := { name := "bytecodePacks", fn := fun _ => fun
  | [d1, d2] => { results := [.lit (.bool true)], args := [d1, d2] }
  | _ => none }
def bytecodePacksRow : OpenClaim := { program := "ytpebojiijgkadaadoor", sum := "7cd666831906d9de9c2cea432d382f0fdc8e0d4a0d69466d64c26b2d7841854b", func := "sharecore/sharecorelaw07.BytecodePacks", spec := "bytecodePacks", inPlace := ["math/bits.Add64", "math/bits.Sub64"], unfollowed := true, recurses := true, named := ["sharecore/field.fields"], apart := false, laid := [("sharecore/field.fields", laid_sharecore_field_fields)] }
def BytecodePacksSaid : Prop := bytecodePacksRow.holds Tryd.pinned (OpenSpec.ofChange bytecodePacksSpec)

/-- ITS FALSE NEIGHBOUR: 'it returns false'. Refute it at one input. -/
def bytecodePacksWrong : ChangeSpec := { name := "bytecodePacks", fn := fun _ => fun
  | [d1, d2] => { results := [.lit (.bool false)], args := [d1, d2] }
  | _ => none }
def BytecodePacksWrongFalsely : Prop := bytecodePacksRow.holds Tryd.pinned (OpenSpec.ofChange bytecodePacksWrong)

/- THE SECOND FORM. 'bulk': how many values and letters a reading holds, each counted each time it is reached (what is shared counts as often as it is met; a slice's spare places count too). A statement '..UptoSaid' is the law's where the arguments, and the package variables that the reading takes, are together of bulk at most 1048576: NARROWER than '..Said'. Prove '..Said' where nothing that the law and all that it calls make is longer than what came in: it says more and counts as full. Else prove '..UptoSaid'. A law counts once. -/
mutual
def uptoBulk {H : Type} : DataW H → Nat
  | .lit (.string bytes) => bytes.length + 1
  | .lit _ => 1
  | .nil => 1
  | .ptr d => uptoBulk d + 1
  | .slice elems spare => uptoBulkAll elems + uptoBulkAll spare + 1
  | .agg parts => uptoBulkAll parts + 1
  | .iface _ d => uptoBulk d + 1
  | .map entries => uptoBulkEntries entries + 1
  | .held _ => 1
def uptoBulkAll {H : Type} : List (DataW H) → Nat
  | [] => 0
  | d :: r => uptoBulk d + uptoBulkAll r
def uptoBulkEntries {H : Type} : List (Lit × DataW H) → Nat
  | [] => 0
  | x :: r => uptoBulkEntry x + uptoBulkEntries r
def uptoBulkEntry {H : Type} : Lit × DataW H → Nat
  | (.string bytes, d) => bytes.length + uptoBulk d + 1
  | (_, d) => uptoBulk d + 1
 end
def uptoSmall : (H : Type) → List (DataW H) → Bool := fun _ ds => decide (uptoBulkAll ds ≤ 1048576)
def OpenSpec.upto (s : _root_.Go.ChangeSpec) : _root_.Go.OpenSpec := { _root_.Go.OpenSpec.ofChange s with cond := some uptoSmall }

/-- 'sharecorelaw05.MontAdds', WHERE WHAT IT READS IS OF BULK AT MOST 1048576: true; the input reads as it did. -/
def montAddsUptoRow : OpenClaim := { program := "ytpebojiijgkadaadoor", sum := "7cd666831906d9de9c2cea432d382f0fdc8e0d4a0d69466d64c26b2d7841854b", func := "sharecore/sharecorelaw05.MontAdds", spec := "montAdds", inPlace := ["math/bits.Add64", "math/bits.Sub64"], unfollowed := true, recurses := true, named := ["sharecore/field.fields"], apart := false, laid := [("sharecore/field.fields", laid_sharecore_field_fields)], narrowed := true }
def MontAddsUptoSaid : Prop := montAddsUptoRow.holds Tryd.pinned (OpenSpec.upto montAddsSpec)

/-- 'sharecorelaw05.MontConverts', WHERE WHAT IT READS IS OF BULK AT MOST 1048576: true; the input reads as it did. -/
def montConvertsUptoRow : OpenClaim := { program := "ytpebojiijgkadaadoor", sum := "7cd666831906d9de9c2cea432d382f0fdc8e0d4a0d69466d64c26b2d7841854b", func := "sharecore/sharecorelaw05.MontConverts", spec := "montConverts", inPlace := ["math/bits.Add64", "math/bits.Sub64"], unfollowed := true, recurses := true, named := ["sharecore/field.fields"], apart := false, laid := [("sharecore/field.fields", laid_sharecore_field_fields)], narrowed := true }
def MontConvertsUptoSaid : Prop := montConvertsUptoRow.holds Tryd.pinned (OpenSpec.upto montConvertsSpec)

/-- 'sharecorelaw05.MontIsRing', WHERE WHAT IT READS IS OF BULK AT MOST 1048576: true; the input reads as it did. -/
def montIsRingUptoRow : OpenClaim := { program := "ytpebojiijgkadaadoor", sum := "7cd666831906d9de9c2cea432d382f0fdc8e0d4a0d69466d64c26b2d7841854b", func := "sharecore/sharecorelaw05.MontIsRing", spec := "montIsRing", inPlace := ["math/bits.Sub64", "math/bits.Add64"], unfollowed := true, recurses := true, named := ["sharecore/field.fields"], apart := false, laid := [("sharecore/field.fields", laid_sharecore_field_fields)], narrowed := true }
def MontIsRingUptoSaid : Prop := montIsRingUptoRow.holds Tryd.pinned (OpenSpec.upto montIsRingSpec)

/-- 'sharecorelaw05.MontMultiplies', WHERE WHAT IT READS IS OF BULK AT MOST 1048576: true; the input reads as it did. -/
def montMultipliesUptoRow : OpenClaim := { program := "ytpebojiijgkadaadoor", sum := "7cd666831906d9de9c2cea432d382f0fdc8e0d4a0d69466d64c26b2d7841854b", func := "sharecore/sharecorelaw05.MontMultiplies", spec := "montMultiplies", inPlace := ["math/bits.Add64", "math/bits.Sub64"], unfollowed := true, recurses := true, named := ["sharecore/field.fields"], apart := false, laid := [("sharecore/field.fields", laid_sharecore_field_fields)], narrowed := true }
def MontMultipliesUptoSaid : Prop := montMultipliesUptoRow.holds Tryd.pinned (OpenSpec.upto montMultipliesSpec)

/-- 'sharecorelaw05.MontStaysBelow', WHERE WHAT IT READS IS OF BULK AT MOST 1048576: true; the input reads as it did. -/
def montStaysBelowUptoRow : OpenClaim := { program := "ytpebojiijgkadaadoor", sum := "7cd666831906d9de9c2cea432d382f0fdc8e0d4a0d69466d64c26b2d7841854b", func := "sharecore/sharecorelaw05.MontStaysBelow", spec := "montStaysBelow", inPlace := ["math/bits.Add64", "math/bits.Sub64"], unfollowed := true, recurses := true, named := ["sharecore/field.fields"], apart := false, laid := [("sharecore/field.fields", laid_sharecore_field_fields)], narrowed := true }
def MontStaysBelowUptoSaid : Prop := montStaysBelowUptoRow.holds Tryd.pinned (OpenSpec.upto montStaysBelowSpec)

/-- 'sharecorelaw05.MontChooses', WHERE WHAT IT READS IS OF BULK AT MOST 1048576: true; the input reads as it did. -/
def montChoosesUptoRow : OpenClaim := { program := "ytpebojiijgkadaadoor", sum := "7cd666831906d9de9c2cea432d382f0fdc8e0d4a0d69466d64c26b2d7841854b", func := "sharecore/sharecorelaw05.MontChooses", spec := "montChooses", inPlace := ["math/bits.Add64", "math/bits.Sub64"], unfollowed := true, recurses := true, named := ["sharecore/field.fields"], apart := false, laid := [("sharecore/field.fields", laid_sharecore_field_fields)], narrowed := true }
def MontChoosesUptoSaid : Prop := montChoosesUptoRow.holds Tryd.pinned (OpenSpec.upto montChoosesSpec)

/-- 'sharecorelaw07.BytecodeReduces', WHERE WHAT IT READS IS OF BULK AT MOST 1048576: true; the input reads as it did. -/
def bytecodeReducesUptoRow : OpenClaim := { program := "ytpebojiijgkadaadoor", sum := "7cd666831906d9de9c2cea432d382f0fdc8e0d4a0d69466d64c26b2d7841854b", func := "sharecore/sharecorelaw07.BytecodeReduces", spec := "bytecodeReduces", inPlace := ["math/bits.Add64", "math/bits.Sub64"], unfollowed := true, recurses := true, named := ["sharecore/field.fields"], apart := false, laid := [("sharecore/field.fields", laid_sharecore_field_fields)], narrowed := true }
def BytecodeReducesUptoSaid : Prop := bytecodeReducesUptoRow.holds Tryd.pinned (OpenSpec.upto bytecodeReducesSpec)

/-- 'sharecorelaw07.BytecodeAdds', WHERE WHAT IT READS IS OF BULK AT MOST 1048576: true; the input reads as it did. -/
def bytecodeAddsUptoRow : OpenClaim := { program := "ytpebojiijgkadaadoor", sum := "7cd666831906d9de9c2cea432d382f0fdc8e0d4a0d69466d64c26b2d7841854b", func := "sharecore/sharecorelaw07.BytecodeAdds", spec := "bytecodeAdds", inPlace := ["math/bits.Add64", "math/bits.Sub64"], unfollowed := true, recurses := true, named := ["sharecore/field.fields"], apart := false, laid := [("sharecore/field.fields", laid_sharecore_field_fields)], narrowed := true }
def BytecodeAddsUptoSaid : Prop := bytecodeAddsUptoRow.holds Tryd.pinned (OpenSpec.upto bytecodeAddsSpec)

/-- 'sharecorelaw07.BytecodeEncodes', WHERE WHAT IT READS IS OF BULK AT MOST 1048576: true; the input reads as it did. -/
def bytecodeEncodesUptoRow : OpenClaim := { program := "ytpebojiijgkadaadoor", sum := "7cd666831906d9de9c2cea432d382f0fdc8e0d4a0d69466d64c26b2d7841854b", func := "sharecore/sharecorelaw07.BytecodeEncodes", spec := "bytecodeEncodes", inPlace := ["math/bits.Add64", "math/bits.Sub64"], unfollowed := true, recurses := true, named := ["sharecore/field.fields"], apart := false, laid := [("sharecore/field.fields", laid_sharecore_field_fields)], narrowed := true }
def BytecodeEncodesUptoSaid : Prop := bytecodeEncodesUptoRow.holds Tryd.pinned (OpenSpec.upto bytecodeEncodesSpec)

/-- 'sharecorelaw07.BytecodeDecodes', WHERE WHAT IT READS IS OF BULK AT MOST 1048576: true; the input reads as it did. -/
def bytecodeDecodesUptoRow : OpenClaim := { program := "ytpebojiijgkadaadoor", sum := "7cd666831906d9de9c2cea432d382f0fdc8e0d4a0d69466d64c26b2d7841854b", func := "sharecore/sharecorelaw07.BytecodeDecodes", spec := "bytecodeDecodes", inPlace := ["math/bits.Add64", "math/bits.Sub64"], unfollowed := true, recurses := true, named := ["sharecore/field.fields"], apart := false, laid := [("sharecore/field.fields", laid_sharecore_field_fields)], narrowed := true }
def BytecodeDecodesUptoSaid : Prop := bytecodeDecodesUptoRow.holds Tryd.pinned (OpenSpec.upto bytecodeDecodesSpec)

/-- 'sharecorelaw07.BytecodeUnpacks', WHERE WHAT IT READS IS OF BULK AT MOST 1048576: true; the input reads as it did. -/
def bytecodeUnpacksUptoRow : OpenClaim := { program := "ytpebojiijgkadaadoor", sum := "7cd666831906d9de9c2cea432d382f0fdc8e0d4a0d69466d64c26b2d7841854b", func := "sharecore/sharecorelaw07.BytecodeUnpacks", spec := "bytecodeUnpacks", inPlace := ["math/bits.Add64", "math/bits.Sub64"], unfollowed := true, recurses := true, named := ["sharecore/field.fields"], apart := false, laid := [("sharecore/field.fields", laid_sharecore_field_fields)], narrowed := true }
def BytecodeUnpacksUptoSaid : Prop := bytecodeUnpacksUptoRow.holds Tryd.pinned (OpenSpec.upto bytecodeUnpacksSpec)

/-- 'sharecorelaw07.BytecodePacks', WHERE WHAT IT READS IS OF BULK AT MOST 1048576: true; the input reads as it did. -/
def bytecodePacksUptoRow : OpenClaim := { program := "ytpebojiijgkadaadoor", sum := "7cd666831906d9de9c2cea432d382f0fdc8e0d4a0d69466d64c26b2d7841854b", func := "sharecore/sharecorelaw07.BytecodePacks", spec := "bytecodePacks", inPlace := ["math/bits.Add64", "math/bits.Sub64"], unfollowed := true, recurses := true, named := ["sharecore/field.fields"], apart := false, laid := [("sharecore/field.fields", laid_sharecore_field_fields)], narrowed := true }
def BytecodePacksUptoSaid : Prop := bytecodePacksUptoRow.holds Tryd.pinned (OpenSpec.upto bytecodePacksSpec)

end Rows
end Go.Proofs.YtpebojiijgkadaaDoor
