/-
  NARROWER THAN 'FOR EVERY INPUT', by the rows' own cells (each row's printed sentence says how): RecordSizes: laid · RecordEncodes: laid · RecordDecodes: laid · RecordRoundTrip: laid · RecordIsCanonical: laid · RecordTags: laid.
  DERIVED. THE GIVEN ROWS OF THIS SEAT. 6 by the template 'for every input the law returns true; each argument reads behind the call as it read before'; 0 by the template 'total and deterministic' (their statements: YtjhfepkpfakemaaDoorTotals.lean).
  GIVEN WITH THE SEED: the statements are not yours to turn. If you find one false, say at which input.
  Laid BY PROGRAM, IN A SANDBOX (cutbox-rows.mjs): the forced cells as the released guide's own fill.sh prints them over the translation dcfbb4c6be141ad5… (all of the seat's roots in one cut). By AI agents, Wed Nov 11 2026. No macro, syntax, notation, axiom, sorry.
-/
import Derived.Test.YtjhfepkpfakemaaDoorChecked
import GoSem.Claim
import GoSem.ClaimJoined
import GoSem.ClaimMapViews
import Derived.JoinedTies
import Derived.KernelRfl
namespace Go.Proofs.YtjhfepkpfakemaaDoor
/- THE CELL 'sum', in the pinned program and in every row, IS THE sha256 OF THE DUMP (.gsa) THAT YtjhfepkpfakemaaDoorProg.lean LOADS. Nothing in Lean hashes anything: it is a label: what it is worth is what the hold of that sum in a sandbox is worth. -/
noncomputable def Tryd.pinned : Pinned := { name := "ytjhfepkpfakemaadoor", sum := "dcfbb4c6be141ad5cee7c4693cfdc9ba415a1671431049f94f3be349c24fc247", checked := Tryd.checked }
namespace Rows
def none {H : Type} : Left H := { results := [], args := [] }

/- WHAT THE LISTED PACKAGE-LEVEL VARIABLES READ AS WHEN THE CALL BEGINS. Each datum BY PROGRAM (the guide's laid-datum.mjs) off the statement by which the dump's own 'gosem.cut.vars' lays the variable. In a bare row this is a premise. The card (YtjhfepkpfakemaaDoorCards.lean) ties it to the program's text. -/
def laid_sharecore_sha_constants {H : Type} : DataW H := .agg [.lit (.int .u32 1116352408), .lit (.int .u32 1899447441), .lit (.int .u32 3049323471), .lit (.int .u32 3921009573), .lit (.int .u32 961987163), .lit (.int .u32 1508970993), .lit (.int .u32 2453635748), .lit (.int .u32 2870763221), .lit (.int .u32 3624381080), .lit (.int .u32 310598401), .lit (.int .u32 607225278), .lit (.int .u32 1426881987), .lit (.int .u32 1925078388), .lit (.int .u32 2162078206), .lit (.int .u32 2614888103), .lit (.int .u32 3248222580), .lit (.int .u32 3835390401), .lit (.int .u32 4022224774), .lit (.int .u32 264347078), .lit (.int .u32 604807628), .lit (.int .u32 770255983), .lit (.int .u32 1249150122), .lit (.int .u32 1555081692), .lit (.int .u32 1996064986), .lit (.int .u32 2554220882), .lit (.int .u32 2821834349), .lit (.int .u32 2952996808), .lit (.int .u32 3210313671), .lit (.int .u32 3336571891), .lit (.int .u32 3584528711), .lit (.int .u32 113926993), .lit (.int .u32 338241895), .lit (.int .u32 666307205), .lit (.int .u32 773529912), .lit (.int .u32 1294757372), .lit (.int .u32 1396182291), .lit (.int .u32 1695183700), .lit (.int .u32 1986661051), .lit (.int .u32 2177026350), .lit (.int .u32 2456956037), .lit (.int .u32 2730485921), .lit (.int .u32 2820302411), .lit (.int .u32 3259730800), .lit (.int .u32 3345764771), .lit (.int .u32 3516065817), .lit (.int .u32 3600352804), .lit (.int .u32 4094571909), .lit (.int .u32 275423344), .lit (.int .u32 430227734), .lit (.int .u32 506948616), .lit (.int .u32 659060556), .lit (.int .u32 883997877), .lit (.int .u32 958139571), .lit (.int .u32 1322822218), .lit (.int .u32 1537002063), .lit (.int .u32 1747873779), .lit (.int .u32 1955562222), .lit (.int .u32 2024104815), .lit (.int .u32 2227730452), .lit (.int .u32 2361852424), .lit (.int .u32 2428436474), .lit (.int .u32 2756734187), .lit (.int .u32 3204031479), .lit (.int .u32 3329325298)]
def laid_sharecore_sha_start {H : Type} : DataW H := .agg [.lit (.int .u32 1779033703), .lit (.int .u32 3144134277), .lit (.int .u32 1013904242), .lit (.int .u32 2773480762), .lit (.int .u32 1359893119), .lit (.int .u32 2600822924), .lit (.int .u32 528734635), .lit (.int .u32 1541459225)]
def laid_sharecore_field_fields {H : Type} : DataW H := .agg [.agg [.lit (.int .i64 1), .agg [.lit (.int .u64 18446744073709551597), .lit (.int .u64 18446744073709551615), .lit (.int .u64 18446744073709551615), .lit (.int .u64 9223372036854775807)], .lit (.int .u64 9708812670373448219), .agg [.lit (.int .u64 38), .lit (.int .u64 0), .lit (.int .u64 0), .lit (.int .u64 0)], .agg [.lit (.int .u64 1444), .lit (.int .u64 0), .lit (.int .u64 0), .lit (.int .u64 0)]], .agg [.lit (.int .i64 2), .agg [.lit (.int .u64 17562291160714782033), .lit (.int .u64 13611842547513532036), .lit (.int .u64 18446744073709551615), .lit (.int .u64 18446744069414584320)], .lit (.int .u64 14758798090332847183), .agg [.lit (.int .u64 884452912994769583), .lit (.int .u64 4834901526196019579), .lit (.int .u64 0), .lit (.int .u64 4294967295)], .agg [.lit (.int .u64 9449762124159643298), .lit (.int .u64 5087230966250696614), .lit (.int .u64 2901921493521525849), .lit (.int .u64 7413256579398063648)]]]

/-- 'sharecorelaw19.RecordSizes': WHATEVER THE INPUT: true; the input reads as it did. -/
def recordSizesSpec : ChangeSpec := { name := "recordSizes", fn := fun _ => fun
  | [d] => { results := [.lit (.bool true)], args := [d] }
  | _ => none }
def recordSizesRow : OpenClaim := { program := "ytjhfepkpfakemaadoor", sum := "dcfbb4c6be141ad5cee7c4693cfdc9ba415a1671431049f94f3be349c24fc247", func := "sharecore/sharecorelaw19.RecordSizes", spec := "recordSizes", inPlace := ["math/bits.Sub64", "math/bits.Add64"], unfollowed := true, recurses := true, named := ["sharecore/field.fields", "sharecore/sha.start", "sharecore/sha.constants"], apart := false, laid := [("sharecore/sha.constants", laid_sharecore_sha_constants), ("sharecore/sha.start", laid_sharecore_sha_start), ("sharecore/field.fields", laid_sharecore_field_fields)] }
def RecordSizesSaid : Prop := recordSizesRow.holds Tryd.pinned (OpenSpec.ofChange recordSizesSpec)

/-- ITS FALSE NEIGHBOUR: 'it returns false'. Refute it at one input. -/
def recordSizesWrong : ChangeSpec := { name := "recordSizes", fn := fun _ => fun
  | [d] => { results := [.lit (.bool false)], args := [d] }
  | _ => none }
def RecordSizesWrongFalsely : Prop := recordSizesRow.holds Tryd.pinned (OpenSpec.ofChange recordSizesWrong)

/-- 'sharecorelaw19.RecordEncodes': WHATEVER THE INPUT: true; the input reads as it did. -/
def recordEncodesSpec : ChangeSpec := { name := "recordEncodes", fn := fun _ => fun
  | [d] => { results := [.lit (.bool true)], args := [d] }
  | _ => none }
def recordEncodesRow : OpenClaim := { program := "ytjhfepkpfakemaadoor", sum := "dcfbb4c6be141ad5cee7c4693cfdc9ba415a1671431049f94f3be349c24fc247", func := "sharecore/sharecorelaw19.RecordEncodes", spec := "recordEncodes", inPlace := ["math/bits.Sub64", "math/bits.Add64"], unfollowed := true, recurses := true, named := ["sharecore/field.fields", "sharecore/sha.start", "sharecore/sha.constants"], apart := false, laid := [("sharecore/sha.constants", laid_sharecore_sha_constants), ("sharecore/sha.start", laid_sharecore_sha_start), ("sharecore/field.fields", laid_sharecore_field_fields)] }
def RecordEncodesSaid : Prop := recordEncodesRow.holds Tryd.pinned (OpenSpec.ofChange recordEncodesSpec)

/-- ITS FALSE NEIGHBOUR: 'it returns false'. Refute it at one input. -/
def recordEncodesWrong : ChangeSpec := { name := "recordEncodes", fn := fun _ => fun
  | [d] => { results := [.lit (.bool false)], args := [d] }
  | _ => none }
def RecordEncodesWrongFalsely : Prop := recordEncodesRow.holds Tryd.pinned (OpenSpec.ofChange recordEncodesWrong)

/-- 'sharecorelaw19.RecordDecodes': WHATEVER THE INPUT: true; the input reads as it did. -/
def recordDecodesSpec : ChangeSpec := { name := "recordDecodes", fn := fun _ => fun
  | [d] => { results := [.lit (.bool true)], args := [d] }
  | _ => none }
def recordDecodesRow : OpenClaim := { program := "ytjhfepkpfakemaadoor", sum := "dcfbb4c6be141ad5cee7c4693cfdc9ba415a1671431049f94f3be349c24fc247", func := "sharecore/sharecorelaw19.RecordDecodes", spec := "recordDecodes", inPlace := ["math/bits.Sub64", "math/bits.Add64"], unfollowed := true, recurses := true, named := ["sharecore/field.fields", "sharecore/sha.start", "sharecore/sha.constants"], apart := false, laid := [("sharecore/sha.constants", laid_sharecore_sha_constants), ("sharecore/sha.start", laid_sharecore_sha_start), ("sharecore/field.fields", laid_sharecore_field_fields)] }
def RecordDecodesSaid : Prop := recordDecodesRow.holds Tryd.pinned (OpenSpec.ofChange recordDecodesSpec)

/-- ITS FALSE NEIGHBOUR: 'it returns false'. Refute it at one input. -/
def recordDecodesWrong : ChangeSpec := { name := "recordDecodes", fn := fun _ => fun
  | [d] => { results := [.lit (.bool false)], args := [d] }
  | _ => none }
def RecordDecodesWrongFalsely : Prop := recordDecodesRow.holds Tryd.pinned (OpenSpec.ofChange recordDecodesWrong)

/-- 'sharecorelaw19.RecordRoundTrip': WHATEVER THE INPUT: true; the input reads as it did. -/
def recordRoundTripSpec : ChangeSpec := { name := "recordRoundTrip", fn := fun _ => fun
  | [d] => { results := [.lit (.bool true)], args := [d] }
  | _ => none }
def recordRoundTripRow : OpenClaim := { program := "ytjhfepkpfakemaadoor", sum := "dcfbb4c6be141ad5cee7c4693cfdc9ba415a1671431049f94f3be349c24fc247", func := "sharecore/sharecorelaw19.RecordRoundTrip", spec := "recordRoundTrip", inPlace := ["math/bits.Sub64", "math/bits.Add64"], unfollowed := true, recurses := true, named := ["sharecore/field.fields", "sharecore/sha.start", "sharecore/sha.constants"], apart := false, laid := [("sharecore/sha.constants", laid_sharecore_sha_constants), ("sharecore/sha.start", laid_sharecore_sha_start), ("sharecore/field.fields", laid_sharecore_field_fields)] }
def RecordRoundTripSaid : Prop := recordRoundTripRow.holds Tryd.pinned (OpenSpec.ofChange recordRoundTripSpec)

/-- ITS FALSE NEIGHBOUR: 'it returns false'. Refute it at one input. -/
def recordRoundTripWrong : ChangeSpec := { name := "recordRoundTrip", fn := fun _ => fun
  | [d] => { results := [.lit (.bool false)], args := [d] }
  | _ => none }
def RecordRoundTripWrongFalsely : Prop := recordRoundTripRow.holds Tryd.pinned (OpenSpec.ofChange recordRoundTripWrong)

/-- 'sharecorelaw19.RecordIsCanonical': WHATEVER THE INPUT: true; the input reads as it did. -/
def recordIsCanonicalSpec : ChangeSpec := { name := "recordIsCanonical", fn := fun _ => fun
  | [d] => { results := [.lit (.bool true)], args := [d] }
  | _ => none }
def recordIsCanonicalRow : OpenClaim := { program := "ytjhfepkpfakemaadoor", sum := "dcfbb4c6be141ad5cee7c4693cfdc9ba415a1671431049f94f3be349c24fc247", func := "sharecore/sharecorelaw19.RecordIsCanonical", spec := "recordIsCanonical", inPlace := ["math/bits.Sub64", "math/bits.Add64"], unfollowed := true, recurses := true, named := ["sharecore/field.fields", "sharecore/sha.start", "sharecore/sha.constants"], apart := false, laid := [("sharecore/sha.constants", laid_sharecore_sha_constants), ("sharecore/sha.start", laid_sharecore_sha_start), ("sharecore/field.fields", laid_sharecore_field_fields)] }
def RecordIsCanonicalSaid : Prop := recordIsCanonicalRow.holds Tryd.pinned (OpenSpec.ofChange recordIsCanonicalSpec)

/-- ITS FALSE NEIGHBOUR: 'it returns false'. Refute it at one input. -/
def recordIsCanonicalWrong : ChangeSpec := { name := "recordIsCanonical", fn := fun _ => fun
  | [d] => { results := [.lit (.bool false)], args := [d] }
  | _ => none }
def RecordIsCanonicalWrongFalsely : Prop := recordIsCanonicalRow.holds Tryd.pinned (OpenSpec.ofChange recordIsCanonicalWrong)

/-- 'sharecorelaw19.RecordTags': WHATEVER THE INPUT: true; the input reads as it did. -/
def recordTagsSpec : ChangeSpec := { name := "recordTags", fn := fun _ => fun
  | [d] => { results := [.lit (.bool true)], args := [d] }
  | _ => none }
def recordTagsRow : OpenClaim := { program := "ytjhfepkpfakemaadoor", sum := "dcfbb4c6be141ad5cee7c4693cfdc9ba415a1671431049f94f3be349c24fc247", func := "sharecore/sharecorelaw19.RecordTags", spec := "recordTags", inPlace := ["math/bits.Sub64", "math/bits.Add64"], unfollowed := true, recurses := true, named := ["sharecore/field.fields", "sharecore/sha.start", "sharecore/sha.constants"], apart := false, laid := [("sharecore/sha.constants", laid_sharecore_sha_constants), ("sharecore/sha.start", laid_sharecore_sha_start), ("sharecore/field.fields", laid_sharecore_field_fields)] }
def RecordTagsSaid : Prop := recordTagsRow.holds Tryd.pinned (OpenSpec.ofChange recordTagsSpec)

/-- ITS FALSE NEIGHBOUR: 'it returns false'. Refute it at one input. -/
def recordTagsWrong : ChangeSpec := { name := "recordTags", fn := fun _ => fun
  | [d] => { results := [.lit (.bool false)], args := [d] }
  | _ => none }
def RecordTagsWrongFalsely : Prop := recordTagsRow.holds Tryd.pinned (OpenSpec.ofChange recordTagsWrong)

/- THE SECOND FORM. 'bulk': how many values and letters a reading holds, each counted each time it is reached (what is shared counts as often as it is met; a slice's spare places count too). A statement '..UptoSaid' is the law's where the arguments, and the package variables that the reading takes, are together of bulk at most 1048576: NARROWER than '..Said'. Prove '..Said' where nothing that the law and all that it calls make is longer than what came in: it says more and counts as full. Else prove '..UptoSaid'. A law counts once. -/
mutual
def uptoBulk {H : Type} : DataW H → Nat
  | .lit (.string bytes) => bytes.length + 1
  | .lit _ => 1
  | .nil => 1
  | .ptr d => uptoBulk d + 1
  | .slice elems spare => uptoBulkAll elems + uptoBulkAll spare + 1
  | .agg parts => uptoBulkAll parts + 1
  | .iface _ d => uptoBulk d + 1
  | .map entries => uptoBulkEntries entries + 1
  | .held _ => 1
def uptoBulkAll {H : Type} : List (DataW H) → Nat
  | [] => 0
  | d :: r => uptoBulk d + uptoBulkAll r
def uptoBulkEntries {H : Type} : List (Lit × DataW H) → Nat
  | [] => 0
  | x :: r => uptoBulkEntry x + uptoBulkEntries r
def uptoBulkEntry {H : Type} : Lit × DataW H → Nat
  | (.string bytes, d) => bytes.length + uptoBulk d + 1
  | (_, d) => uptoBulk d + 1
 end
def uptoSmall : (H : Type) → List (DataW H) → Bool := fun _ ds => decide (uptoBulkAll ds ≤ 1048576)
def OpenSpec.upto (s : _root_.Go.ChangeSpec) : _root_.Go.OpenSpec := { _root_.Go.OpenSpec.ofChange s with cond := some uptoSmall }

/-- 'sharecorelaw19.RecordSizes', WHERE WHAT IT READS IS OF BULK AT MOST 1048576: true; the input reads as it did. -/
def recordSizesUptoRow : OpenClaim := { program := "ytjhfepkpfakemaadoor", sum := "dcfbb4c6be141ad5cee7c4693cfdc9ba415a1671431049f94f3be349c24fc247", func := "sharecore/sharecorelaw19.RecordSizes", spec := "recordSizes", inPlace := ["math/bits.Sub64", "math/bits.Add64"], unfollowed := true, recurses := true, named := ["sharecore/field.fields", "sharecore/sha.start", "sharecore/sha.constants"], apart := false, laid := [("sharecore/sha.constants", laid_sharecore_sha_constants), ("sharecore/sha.start", laid_sharecore_sha_start), ("sharecore/field.fields", laid_sharecore_field_fields)], narrowed := true }
def RecordSizesUptoSaid : Prop := recordSizesUptoRow.holds Tryd.pinned (OpenSpec.upto recordSizesSpec)

/-- 'sharecorelaw19.RecordEncodes', WHERE WHAT IT READS IS OF BULK AT MOST 1048576: true; the input reads as it did. -/
def recordEncodesUptoRow : OpenClaim := { program := "ytjhfepkpfakemaadoor", sum := "dcfbb4c6be141ad5cee7c4693cfdc9ba415a1671431049f94f3be349c24fc247", func := "sharecore/sharecorelaw19.RecordEncodes", spec := "recordEncodes", inPlace := ["math/bits.Sub64", "math/bits.Add64"], unfollowed := true, recurses := true, named := ["sharecore/field.fields", "sharecore/sha.start", "sharecore/sha.constants"], apart := false, laid := [("sharecore/sha.constants", laid_sharecore_sha_constants), ("sharecore/sha.start", laid_sharecore_sha_start), ("sharecore/field.fields", laid_sharecore_field_fields)], narrowed := true }
def RecordEncodesUptoSaid : Prop := recordEncodesUptoRow.holds Tryd.pinned (OpenSpec.upto recordEncodesSpec)

/-- 'sharecorelaw19.RecordDecodes', WHERE WHAT IT READS IS OF BULK AT MOST 1048576: true; the input reads as it did. -/
def recordDecodesUptoRow : OpenClaim := { program := "ytjhfepkpfakemaadoor", sum := "dcfbb4c6be141ad5cee7c4693cfdc9ba415a1671431049f94f3be349c24fc247", func := "sharecore/sharecorelaw19.RecordDecodes", spec := "recordDecodes", inPlace := ["math/bits.Sub64", "math/bits.Add64"], unfollowed := true, recurses := true, named := ["sharecore/field.fields", "sharecore/sha.start", "sharecore/sha.constants"], apart := false, laid := [("sharecore/sha.constants", laid_sharecore_sha_constants), ("sharecore/sha.start", laid_sharecore_sha_start), ("sharecore/field.fields", laid_sharecore_field_fields)], narrowed := true }
def RecordDecodesUptoSaid : Prop := recordDecodesUptoRow.holds Tryd.pinned (OpenSpec.upto recordDecodesSpec)

/-- 'sharecorelaw19.RecordRoundTrip', WHERE WHAT IT READS IS OF BULK AT MOST 1048576: true; the input reads as it did. -/
def recordRoundTripUptoRow : OpenClaim := { program := "ytjhfepkpfakemaadoor", sum := "dcfbb4c6be141ad5cee7c4693cfdc9ba415a1671431049f94f3be349c24fc247", func := "sharecore/sharecorelaw19.RecordRoundTrip", spec := "recordRoundTrip", inPlace := ["math/bits.Sub64", "math/bits.Add64"], unfollowed := true, recurses := true, named := ["sharecore/field.fields", "sharecore/sha.start", "sharecore/sha.constants"], apart := false, laid := [("sharecore/sha.constants", laid_sharecore_sha_constants), ("sharecore/sha.start", laid_sharecore_sha_start), ("sharecore/field.fields", laid_sharecore_field_fields)], narrowed := true }
def RecordRoundTripUptoSaid : Prop := recordRoundTripUptoRow.holds Tryd.pinned (OpenSpec.upto recordRoundTripSpec)

/-- 'sharecorelaw19.RecordIsCanonical', WHERE WHAT IT READS IS OF BULK AT MOST 1048576: true; the input reads as it did. -/
def recordIsCanonicalUptoRow : OpenClaim := { program := "ytjhfepkpfakemaadoor", sum := "dcfbb4c6be141ad5cee7c4693cfdc9ba415a1671431049f94f3be349c24fc247", func := "sharecore/sharecorelaw19.RecordIsCanonical", spec := "recordIsCanonical", inPlace := ["math/bits.Sub64", "math/bits.Add64"], unfollowed := true, recurses := true, named := ["sharecore/field.fields", "sharecore/sha.start", "sharecore/sha.constants"], apart := false, laid := [("sharecore/sha.constants", laid_sharecore_sha_constants), ("sharecore/sha.start", laid_sharecore_sha_start), ("sharecore/field.fields", laid_sharecore_field_fields)], narrowed := true }
def RecordIsCanonicalUptoSaid : Prop := recordIsCanonicalUptoRow.holds Tryd.pinned (OpenSpec.upto recordIsCanonicalSpec)

/-- 'sharecorelaw19.RecordTags', WHERE WHAT IT READS IS OF BULK AT MOST 1048576: true; the input reads as it did. -/
def recordTagsUptoRow : OpenClaim := { program := "ytjhfepkpfakemaadoor", sum := "dcfbb4c6be141ad5cee7c4693cfdc9ba415a1671431049f94f3be349c24fc247", func := "sharecore/sharecorelaw19.RecordTags", spec := "recordTags", inPlace := ["math/bits.Sub64", "math/bits.Add64"], unfollowed := true, recurses := true, named := ["sharecore/field.fields", "sharecore/sha.start", "sharecore/sha.constants"], apart := false, laid := [("sharecore/sha.constants", laid_sharecore_sha_constants), ("sharecore/sha.start", laid_sharecore_sha_start), ("sharecore/field.fields", laid_sharecore_field_fields)], narrowed := true }
def RecordTagsUptoSaid : Prop := recordTagsUptoRow.holds Tryd.pinned (OpenSpec.upto recordTagsSpec)

end Rows
end Go.Proofs.YtjhfepkpfakemaaDoor
