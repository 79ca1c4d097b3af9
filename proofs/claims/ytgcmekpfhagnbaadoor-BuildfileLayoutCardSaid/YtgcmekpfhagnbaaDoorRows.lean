/-
  NARROWER THAN 'FOR EVERY INPUT', by the rows' own cells (each row's printed sentence says how): BuildfileParse: laid · BuildfilePrefixes: laid · BuildfileJoin: laid · BuildfileLabels: laid · BuildfileCheck: laid · BuildfileRoundTrip: laid · BuildfileValid: laid · BuildfileLayout: laid.
  DERIVED. THE GIVEN ROWS OF THIS SEAT. 8 by the template 'for every input the law returns true; each argument reads behind the call as it read before'; 0 by the template 'total and deterministic' (their statements: YtgcmekpfhagnbaaDoorTotals.lean).
  GIVEN WITH THE SEED: the statements are not yours to turn. If you find one false, say at which input.
  Laid BY PROGRAM, IN A SANDBOX (cutbox-rows.mjs): the forced cells as the released guide's own fill.sh prints them over the translation 8f559f46dde1549f… (all of the seat's roots in one cut). By AI agents, Wed Nov 11 2026. No macro, syntax, notation, axiom, sorry.
-/
import Derived.Test.YtgcmekpfhagnbaaDoorChecked
import GoSem.PinnedTables
import GoSem.Claim
import GoSem.ClaimJoined
import GoSem.ClaimMapViews
import Derived.JoinedTies
import Derived.KernelRfl
namespace Go.Proofs.YtgcmekpfhagnbaaDoor
/- THE CELL 'sum', in the pinned program and in every row, IS THE sha256 OF THE DUMP (.gsa) THAT YtgcmekpfhagnbaaDoorProg.lean LOADS. Nothing in Lean hashes anything: it is a label: what it is worth is what the hold of that sum in a sandbox is worth. -/
noncomputable def Tryd.pinned : Pinned := { name := "ytgcmekpfhagnbaadoor", sum := "8f559f46dde1549f658dfa1c404a80bbd3c86417627cb1098ff6f3845deb7777", checked := Tryd.checked }
namespace Rows
def none {H : Type} : Left H := { results := [], args := [] }

/- WHAT THE LISTED PACKAGE-LEVEL VARIABLES READ AS WHEN THE CALL BEGINS. Each datum BY PROGRAM (the guide's laid-datum.mjs) off the statement by which the dump's own 'gosem.cut.vars' lays the variable. In a bare row this is a premise. The card (YtgcmekpfhagnbaaDoorCards.lean) ties it to the program's text. -/
def laid_unicode_utf8_acceptRanges {H : Type} : DataW H := .agg [.agg [.lit (.int .u8 128), .lit (.int .u8 191)], .agg [.lit (.int .u8 160), .lit (.int .u8 191)], .agg [.lit (.int .u8 128), .lit (.int .u8 159)], .agg [.lit (.int .u8 144), .lit (.int .u8 191)], .agg [.lit (.int .u8 128), .lit (.int .u8 143)], .agg [.lit (.int .u8 0), .lit (.int .u8 0)], .agg [.lit (.int .u8 0), .lit (.int .u8 0)], .agg [.lit (.int .u8 0), .lit (.int .u8 0)], .agg [.lit (.int .u8 0), .lit (.int .u8 0)], .agg [.lit (.int .u8 0), .lit (.int .u8 0)], .agg [.lit (.int .u8 0), .lit (.int .u8 0)], .agg [.lit (.int .u8 0), .lit (.int .u8 0)], .agg [.lit (.int .u8 0), .lit (.int .u8 0)], .agg [.lit (.int .u8 0), .lit (.int .u8 0)], .agg [.lit (.int .u8 0), .lit (.int .u8 0)], .agg [.lit (.int .u8 0), .lit (.int .u8 0)]]
/-- One of Go's own tables, pinned by name: the form's constant. -/
def laid_unicode_utf8_first : DataW Unit := Go.Pinned.utf8First
def laid_unicode_White_Space {H : Type} : DataW H := .ptr (.agg [.slice [.agg [.lit (.int .u16 9), .lit (.int .u16 13), .lit (.int .u16 1)], .agg [.lit (.int .u16 32), .lit (.int .u16 133), .lit (.int .u16 101)], .agg [.lit (.int .u16 160), .lit (.int .u16 5760), .lit (.int .u16 5600)], .agg [.lit (.int .u16 8192), .lit (.int .u16 8202), .lit (.int .u16 1)], .agg [.lit (.int .u16 8232), .lit (.int .u16 8233), .lit (.int .u16 1)], .agg [.lit (.int .u16 8239), .lit (.int .u16 8287), .lit (.int .u16 48)], .agg [.lit (.int .u16 12288), .lit (.int .u16 12288), .lit (.int .u16 1)]] [], .nil, .lit (.int .i64 2)])
def laid_strings_asciiSpace {H : Type} : DataW H := .agg [.lit (.int .u8 0), .lit (.int .u8 0), .lit (.int .u8 0), .lit (.int .u8 0), .lit (.int .u8 0), .lit (.int .u8 0), .lit (.int .u8 0), .lit (.int .u8 0), .lit (.int .u8 0), .lit (.int .u8 1), .lit (.int .u8 1), .lit (.int .u8 1), .lit (.int .u8 1), .lit (.int .u8 1), .lit (.int .u8 0), .lit (.int .u8 0), .lit (.int .u8 0), .lit (.int .u8 0), .lit (.int .u8 0), .lit (.int .u8 0), .lit (.int .u8 0), .lit (.int .u8 0), .lit (.int .u8 0), .lit (.int .u8 0), .lit (.int .u8 0), .lit (.int .u8 0), .lit (.int .u8 0), .lit (.int .u8 0), .lit (.int .u8 0), .lit (.int .u8 0), .lit (.int .u8 0), .lit (.int .u8 0), .lit (.int .u8 1), .lit (.int .u8 0), .lit (.int .u8 0), .lit (.int .u8 0), .lit (.int .u8 0), .lit (.int .u8 0), .lit (.int .u8 0), .lit (.int .u8 0), .lit (.int .u8 0), .lit (.int .u8 0), .lit (.int .u8 0), .lit (.int .u8 0), .lit (.int .u8 0), .lit (.int .u8 0), .lit (.int .u8 0), .lit (.int .u8 0), .lit (.int .u8 0), .lit (.int .u8 0), .lit (.int .u8 0), .lit (.int .u8 0), .lit (.int .u8 0), .lit (.int .u8 0), .lit (.int .u8 0), .lit (.int .u8 0), .lit (.int .u8 0), .lit (.int .u8 0), .lit (.int .u8 0), .lit (.int .u8 0), .lit (.int .u8 0), .lit (.int .u8 0), .lit (.int .u8 0), .lit (.int .u8 0), .lit (.int .u8 0), .lit (.int .u8 0), .lit (.int .u8 0), .lit (.int .u8 0), .lit (.int .u8 0), .lit (.int .u8 0), .lit (.int .u8 0), .lit (.int .u8 0), .lit (.int .u8 0), .lit (.int .u8 0), .lit (.int .u8 0), .lit (.int .u8 0), .lit (.int .u8 0), .lit (.int .u8 0), .lit (.int .u8 0), .lit (.int .u8 0), .lit (.int .u8 0), .lit (.int .u8 0), .lit (.int .u8 0), .lit (.int .u8 0), .lit (.int .u8 0), .lit (.int .u8 0), .lit (.int .u8 0), .lit (.int .u8 0), .lit (.int .u8 0), .lit (.int .u8 0), .lit (.int .u8 0), .lit (.int .u8 0), .lit (.int .u8 0), .lit (.int .u8 0), .lit (.int .u8 0), .lit (.int .u8 0), .lit (.int .u8 0), .lit (.int .u8 0), .lit (.int .u8 0), .lit (.int .u8 0), .lit (.int .u8 0), .lit (.int .u8 0), .lit (.int .u8 0), .lit (.int .u8 0), .lit (.int .u8 0), .lit (.int .u8 0), .lit (.int .u8 0), .lit (.int .u8 0), .lit (.int .u8 0), .lit (.int .u8 0), .lit (.int .u8 0), .lit (.int .u8 0), .lit (.int .u8 0), .lit (.int .u8 0), .lit (.int .u8 0), .lit (.int .u8 0), .lit (.int .u8 0), .lit (.int .u8 0), .lit (.int .u8 0), .lit (.int .u8 0), .lit (.int .u8 0), .lit (.int .u8 0), .lit (.int .u8 0), .lit (.int .u8 0), .lit (.int .u8 0), .lit (.int .u8 0), .lit (.int .u8 0), .lit (.int .u8 0), .lit (.int .u8 0), .lit (.int .u8 0), .lit (.int .u8 0), .lit (.int .u8 0), .lit (.int .u8 0), .lit (.int .u8 0), .lit (.int .u8 0), .lit (.int .u8 0), .lit (.int .u8 0), .lit (.int .u8 0), .lit (.int .u8 0), .lit (.int .u8 0), .lit (.int .u8 0), .lit (.int .u8 0), .lit (.int .u8 0), .lit (.int .u8 0), .lit (.int .u8 0), .lit (.int .u8 0), .lit (.int .u8 0), .lit (.int .u8 0), .lit (.int .u8 0), .lit (.int .u8 0), .lit (.int .u8 0), .lit (.int .u8 0), .lit (.int .u8 0), .lit (.int .u8 0), .lit (.int .u8 0), .lit (.int .u8 0), .lit (.int .u8 0), .lit (.int .u8 0), .lit (.int .u8 0), .lit (.int .u8 0), .lit (.int .u8 0), .lit (.int .u8 0), .lit (.int .u8 0), .lit (.int .u8 0), .lit (.int .u8 0), .lit (.int .u8 0), .lit (.int .u8 0), .lit (.int .u8 0), .lit (.int .u8 0), .lit (.int .u8 0), .lit (.int .u8 0), .lit (.int .u8 0), .lit (.int .u8 0), .lit (.int .u8 0), .lit (.int .u8 0), .lit (.int .u8 0), .lit (.int .u8 0), .lit (.int .u8 0), .lit (.int .u8 0), .lit (.int .u8 0), .lit (.int .u8 0), .lit (.int .u8 0), .lit (.int .u8 0), .lit (.int .u8 0), .lit (.int .u8 0), .lit (.int .u8 0), .lit (.int .u8 0), .lit (.int .u8 0), .lit (.int .u8 0), .lit (.int .u8 0), .lit (.int .u8 0), .lit (.int .u8 0), .lit (.int .u8 0), .lit (.int .u8 0), .lit (.int .u8 0), .lit (.int .u8 0), .lit (.int .u8 0), .lit (.int .u8 0), .lit (.int .u8 0), .lit (.int .u8 0), .lit (.int .u8 0), .lit (.int .u8 0), .lit (.int .u8 0), .lit (.int .u8 0), .lit (.int .u8 0), .lit (.int .u8 0), .lit (.int .u8 0), .lit (.int .u8 0), .lit (.int .u8 0), .lit (.int .u8 0), .lit (.int .u8 0), .lit (.int .u8 0), .lit (.int .u8 0), .lit (.int .u8 0), .lit (.int .u8 0), .lit (.int .u8 0), .lit (.int .u8 0), .lit (.int .u8 0), .lit (.int .u8 0), .lit (.int .u8 0), .lit (.int .u8 0), .lit (.int .u8 0), .lit (.int .u8 0), .lit (.int .u8 0), .lit (.int .u8 0), .lit (.int .u8 0), .lit (.int .u8 0), .lit (.int .u8 0), .lit (.int .u8 0), .lit (.int .u8 0), .lit (.int .u8 0), .lit (.int .u8 0), .lit (.int .u8 0), .lit (.int .u8 0), .lit (.int .u8 0), .lit (.int .u8 0), .lit (.int .u8 0), .lit (.int .u8 0), .lit (.int .u8 0), .lit (.int .u8 0), .lit (.int .u8 0), .lit (.int .u8 0), .lit (.int .u8 0), .lit (.int .u8 0), .lit (.int .u8 0), .lit (.int .u8 0), .lit (.int .u8 0), .lit (.int .u8 0), .lit (.int .u8 0), .lit (.int .u8 0), .lit (.int .u8 0), .lit (.int .u8 0), .lit (.int .u8 0), .lit (.int .u8 0), .lit (.int .u8 0), .lit (.int .u8 0)]

/-- 'cordwoodlaw38.BuildfileParse': WHATEVER THE INPUT: true; the input reads as it did. -/
def buildfileParseSpec : ChangeSpec := { name := "buildfileParse", fn := fun _ => fun
  | [d] => { results := [.lit (.bool true)], args := [d] }
  | _ => none }
def buildfileParseRow : OpenClaim := { program := "ytgcmekpfhagnbaadoor", sum := "8f559f46dde1549f658dfa1c404a80bbd3c86417627cb1098ff6f3845deb7777", func := "cordwood/cordwoodlaw38.BuildfileParse", spec := "buildfileParse", inPlace := ["internal/bytealg.IndexByteString", "internal/bytealg.IndexString"], unfollowed := true, recurses := true, named := ["unicode/utf8.first", "unicode/utf8.acceptRanges", "internal/bytealg.MaxLen"], apart := false, laid := [("unicode/utf8.acceptRanges", laid_unicode_utf8_acceptRanges), ("unicode/utf8.first", laid_unicode_utf8_first)] }
def BuildfileParseSaid : Prop := buildfileParseRow.holds Tryd.pinned (OpenSpec.ofChange buildfileParseSpec)

/-- ITS FALSE NEIGHBOUR: 'it returns false'. Refute it at one input. -/
def buildfileParseWrong : ChangeSpec := { name := "buildfileParse", fn := fun _ => fun
  | [d] => { results := [.lit (.bool false)], args := [d] }
  | _ => none }
def BuildfileParseWrongFalsely : Prop := buildfileParseRow.holds Tryd.pinned (OpenSpec.ofChange buildfileParseWrong)

/-- 'cordwoodlaw38.BuildfilePrefixes': WHATEVER THE INPUT: true; the input reads as it did. -/
def buildfilePrefixesSpec : ChangeSpec := { name := "buildfilePrefixes", fn := fun _ => fun
  | [d] => { results := [.lit (.bool true)], args := [d] }
  | _ => none }
def buildfilePrefixesRow : OpenClaim := { program := "ytgcmekpfhagnbaadoor", sum := "8f559f46dde1549f658dfa1c404a80bbd3c86417627cb1098ff6f3845deb7777", func := "cordwood/cordwoodlaw38.BuildfilePrefixes", spec := "buildfilePrefixes", inPlace := ["internal/bytealg.IndexByteString", "internal/bytealg.IndexString"], unfollowed := true, recurses := true, named := ["unicode/utf8.first", "unicode/utf8.acceptRanges", "internal/bytealg.MaxLen"], apart := false, laid := [("unicode/utf8.acceptRanges", laid_unicode_utf8_acceptRanges), ("unicode/utf8.first", laid_unicode_utf8_first)] }
def BuildfilePrefixesSaid : Prop := buildfilePrefixesRow.holds Tryd.pinned (OpenSpec.ofChange buildfilePrefixesSpec)

/-- ITS FALSE NEIGHBOUR: 'it returns false'. Refute it at one input. -/
def buildfilePrefixesWrong : ChangeSpec := { name := "buildfilePrefixes", fn := fun _ => fun
  | [d] => { results := [.lit (.bool false)], args := [d] }
  | _ => none }
def BuildfilePrefixesWrongFalsely : Prop := buildfilePrefixesRow.holds Tryd.pinned (OpenSpec.ofChange buildfilePrefixesWrong)

/-- 'cordwoodlaw38.BuildfileJoin': WHATEVER THE INPUT: true; the input reads as it did. -/
def buildfileJoinSpec : ChangeSpec := { name := "buildfileJoin", fn := fun _ => fun
  | [d1, d2, d3] => { results := [.lit (.bool true)], args := [d1, d2, d3] }
  | _ => none }
def buildfileJoinRow : OpenClaim := { program := "ytgcmekpfhagnbaadoor", sum := "8f559f46dde1549f658dfa1c404a80bbd3c86417627cb1098ff6f3845deb7777", func := "cordwood/cordwoodlaw38.BuildfileJoin", spec := "buildfileJoin", inPlace := ["internal/bytealg.IndexByteString", "internal/bytealg.IndexString"], unfollowed := true, recurses := true, named := ["unicode/utf8.first", "unicode/utf8.acceptRanges", "internal/bytealg.MaxLen"], apart := false, laid := [("unicode/utf8.acceptRanges", laid_unicode_utf8_acceptRanges), ("unicode/utf8.first", laid_unicode_utf8_first)] }
def BuildfileJoinSaid : Prop := buildfileJoinRow.holds Tryd.pinned (OpenSpec.ofChange buildfileJoinSpec)

/-- ITS FALSE NEIGHBOUR: 'it returns false'. Refute it at one input. -/
def buildfileJoinWrong : ChangeSpec := { name := "buildfileJoin", fn := fun _ => fun
  | [d1, d2, d3] => { results := [.lit (.bool false)], args := [d1, d2, d3] }
  | _ => none }
def BuildfileJoinWrongFalsely : Prop := buildfileJoinRow.holds Tryd.pinned (OpenSpec.ofChange buildfileJoinWrong)

/-- 'cordwoodlaw38.BuildfileLabels': WHATEVER THE INPUT: true; the input reads as it did. -/
def buildfileLabelsSpec : ChangeSpec := { name := "buildfileLabels", fn := fun _ => fun
  | [d1, d2, d3] => { results := [.lit (.bool true)], args := [d1, d2, d3] }
  | _ => none }
def buildfileLabelsRow : OpenClaim := { program := "ytgcmekpfhagnbaadoor", sum := "8f559f46dde1549f658dfa1c404a80bbd3c86417627cb1098ff6f3845deb7777", func := "cordwood/cordwoodlaw38.BuildfileLabels", spec := "buildfileLabels", inPlace := ["internal/bytealg.IndexByteString", "internal/bytealg.IndexString"], unfollowed := true, recurses := true, named := ["unicode/utf8.first", "unicode/utf8.acceptRanges", "internal/bytealg.MaxLen"], apart := false, laid := [("unicode/utf8.acceptRanges", laid_unicode_utf8_acceptRanges), ("unicode/utf8.first", laid_unicode_utf8_first)] }
def BuildfileLabelsSaid : Prop := buildfileLabelsRow.holds Tryd.pinned (OpenSpec.ofChange buildfileLabelsSpec)

/-- ITS FALSE NEIGHBOUR: 'it returns false'. Refute it at one input. -/
def buildfileLabelsWrong : ChangeSpec := { name := "buildfileLabels", fn := fun _ => fun
  | [d1, d2, d3] => { results := [.lit (.bool false)], args := [d1, d2, d3] }
  | _ => none }
def BuildfileLabelsWrongFalsely : Prop := buildfileLabelsRow.holds Tryd.pinned (OpenSpec.ofChange buildfileLabelsWrong)

/-- 'cordwoodlaw38.BuildfileCheck': WHATEVER THE INPUT: true; the input reads as it did. -/
def buildfileCheckSpec : ChangeSpec := { name := "buildfileCheck", fn := fun _ => fun
  | [d] => { results := [.lit (.bool true)], args := [d] }
  | _ => none }
def buildfileCheckRow : OpenClaim := { program := "ytgcmekpfhagnbaadoor", sum := "8f559f46dde1549f658dfa1c404a80bbd3c86417627cb1098ff6f3845deb7777", func := "cordwood/cordwoodlaw38.BuildfileCheck", spec := "buildfileCheck", inPlace := ["internal/bytealg.IndexByteString", "internal/bytealg.IndexString", "internal/abi.NoEscape", "internal/bytealg.MakeNoZero"], unfollowed := true, recurses := true, named := ["unicode/utf8.first", "unicode/utf8.acceptRanges", "internal/bytealg.MaxLen"], apart := false, laid := [("unicode/utf8.acceptRanges", laid_unicode_utf8_acceptRanges), ("unicode/utf8.first", laid_unicode_utf8_first)] }
def BuildfileCheckSaid : Prop := buildfileCheckRow.holds Tryd.pinned (OpenSpec.ofChange buildfileCheckSpec)

/-- ITS FALSE NEIGHBOUR: 'it returns false'. Refute it at one input. -/
def buildfileCheckWrong : ChangeSpec := { name := "buildfileCheck", fn := fun _ => fun
  | [d] => { results := [.lit (.bool false)], args := [d] }
  | _ => none }
def BuildfileCheckWrongFalsely : Prop := buildfileCheckRow.holds Tryd.pinned (OpenSpec.ofChange buildfileCheckWrong)

/-- 'cordwoodlaw38.BuildfileRoundTrip': WHATEVER THE INPUT: true; the input reads as it did. -/
def buildfileRoundTripSpec : ChangeSpec := { name := "buildfileRoundTrip", fn := fun _ => fun
  | [d] => { results := [.lit (.bool true)], args := [d] }
  | _ => none }
def buildfileRoundTripRow : OpenClaim := { program := "ytgcmekpfhagnbaadoor", sum := "8f559f46dde1549f658dfa1c404a80bbd3c86417627cb1098ff6f3845deb7777", func := "cordwood/cordwoodlaw38.BuildfileRoundTrip", spec := "buildfileRoundTrip", inPlace := ["internal/bytealg.IndexByteString", "internal/bytealg.IndexString", "internal/abi.NoEscape", "internal/bytealg.MakeNoZero"], unfollowed := true, recurses := true, named := ["unicode/utf8.first", "unicode/utf8.acceptRanges", "internal/bytealg.MaxLen"], apart := false, laid := [("unicode/utf8.acceptRanges", laid_unicode_utf8_acceptRanges), ("unicode/utf8.first", laid_unicode_utf8_first)] }
def BuildfileRoundTripSaid : Prop := buildfileRoundTripRow.holds Tryd.pinned (OpenSpec.ofChange buildfileRoundTripSpec)

/-- ITS FALSE NEIGHBOUR: 'it returns false'. Refute it at one input. -/
def buildfileRoundTripWrong : ChangeSpec := { name := "buildfileRoundTrip", fn := fun _ => fun
  | [d] => { results := [.lit (.bool false)], args := [d] }
  | _ => none }
def BuildfileRoundTripWrongFalsely : Prop := buildfileRoundTripRow.holds Tryd.pinned (OpenSpec.ofChange buildfileRoundTripWrong)

/-- 'cordwoodlaw38.BuildfileValid': WHATEVER THE INPUT: true; the input reads as it did. -/
def buildfileValidSpec : ChangeSpec := { name := "buildfileValid", fn := fun _ => fun
  | [d] => { results := [.lit (.bool true)], args := [d] }
  | _ => none }
def buildfileValidRow : OpenClaim := { program := "ytgcmekpfhagnbaadoor", sum := "8f559f46dde1549f658dfa1c404a80bbd3c86417627cb1098ff6f3845deb7777", func := "cordwood/cordwoodlaw38.BuildfileValid", spec := "buildfileValid", inPlace := ["internal/bytealg.IndexByteString", "internal/bytealg.IndexString", "internal/abi.NoEscape", "internal/bytealg.MakeNoZero"], unfollowed := true, recurses := true, named := ["unicode/utf8.first", "unicode/utf8.acceptRanges", "internal/bytealg.MaxLen"], apart := false, laid := [("unicode/utf8.acceptRanges", laid_unicode_utf8_acceptRanges), ("unicode/utf8.first", laid_unicode_utf8_first)] }
def BuildfileValidSaid : Prop := buildfileValidRow.holds Tryd.pinned (OpenSpec.ofChange buildfileValidSpec)

/-- ITS FALSE NEIGHBOUR: 'it returns false'. Refute it at one input. -/
def buildfileValidWrong : ChangeSpec := { name := "buildfileValid", fn := fun _ => fun
  | [d] => { results := [.lit (.bool false)], args := [d] }
  | _ => none }
def BuildfileValidWrongFalsely : Prop := buildfileValidRow.holds Tryd.pinned (OpenSpec.ofChange buildfileValidWrong)

/-- 'cordwoodlaw38.BuildfileLayout': WHATEVER THE INPUT: true; the input reads as it did. -/
def buildfileLayoutSpec : ChangeSpec := { name := "buildfileLayout", fn := fun _ => fun
  | [d1, d2] => { results := [.lit (.bool true)], args := [d1, d2] }
  | _ => none }
def buildfileLayoutRow : OpenClaim := { program := "ytgcmekpfhagnbaadoor", sum := "8f559f46dde1549f658dfa1c404a80bbd3c86417627cb1098ff6f3845deb7777", func := "cordwood/cordwoodlaw38.BuildfileLayout", spec := "buildfileLayout", inPlace := ["internal/bytealg.IndexByteString", "internal/bytealg.IndexString", "internal/abi.NoEscape", "internal/bytealg.MakeNoZero"], unfollowed := true, recurses := true, named := ["unicode/utf8.first", "unicode/utf8.acceptRanges", "internal/bytealg.MaxLen", "strings.asciiSpace", "unicode.White_Space"], apart := false, laid := [("unicode/utf8.acceptRanges", laid_unicode_utf8_acceptRanges), ("unicode.White_Space", laid_unicode_White_Space), ("strings.asciiSpace", laid_strings_asciiSpace), ("unicode/utf8.first", laid_unicode_utf8_first)] }
def BuildfileLayoutSaid : Prop := buildfileLayoutRow.holds Tryd.pinned (OpenSpec.ofChange buildfileLayoutSpec)

/-- ITS FALSE NEIGHBOUR: 'it returns false'. Refute it at one input. -/
def buildfileLayoutWrong : ChangeSpec := { name := "buildfileLayout", fn := fun _ => fun
  | [d1, d2] => { results := [.lit (.bool false)], args := [d1, d2] }
  | _ => none }
def BuildfileLayoutWrongFalsely : Prop := buildfileLayoutRow.holds Tryd.pinned (OpenSpec.ofChange buildfileLayoutWrong)

/- THE SECOND FORM. 'bulk': how many values and letters a reading holds, each counted each time it is reached (what is shared counts as often as it is met; a slice's spare places count too). A statement '..UptoSaid' is the law's where the arguments, and the package variables that the reading takes, are together of bulk at most 1048576: NARROWER than '..Said'. Prove '..Said' where nothing that the law and all that it calls make is longer than what came in: it says more and counts as full. Else prove '..UptoSaid'. A law counts once. -/
mutual
def uptoBulk {H : Type} : DataW H → Nat
  | .lit (.string bytes) => bytes.length + 1
  | .lit _ => 1
  | .nil => 1
  | .ptr d => uptoBulk d + 1
  | .slice elems spare => uptoBulkAll elems + uptoBulkAll spare + 1
  | .agg parts => uptoBulkAll parts + 1
  | .iface _ d => uptoBulk d + 1
  | .map entries => uptoBulkEntries entries + 1
  | .held _ => 1
def uptoBulkAll {H : Type} : List (DataW H) → Nat
  | [] => 0
  | d :: r => uptoBulk d + uptoBulkAll r
def uptoBulkEntries {H : Type} : List (Lit × DataW H) → Nat
  | [] => 0
  | x :: r => uptoBulkEntry x + uptoBulkEntries r
def uptoBulkEntry {H : Type} : Lit × DataW H → Nat
  | (.string bytes, d) => bytes.length + uptoBulk d + 1
  | (_, d) => uptoBulk d + 1
 end
def uptoSmall : (H : Type) → List (DataW H) → Bool := fun _ ds => decide (uptoBulkAll ds ≤ 1048576)
def OpenSpec.upto (s : _root_.Go.ChangeSpec) : _root_.Go.OpenSpec := { _root_.Go.OpenSpec.ofChange s with cond := some uptoSmall }

/-- 'cordwoodlaw38.BuildfileParse', WHERE WHAT IT READS IS OF BULK AT MOST 1048576: true; the input reads as it did. -/
def buildfileParseUptoRow : OpenClaim := { program := "ytgcmekpfhagnbaadoor", sum := "8f559f46dde1549f658dfa1c404a80bbd3c86417627cb1098ff6f3845deb7777", func := "cordwood/cordwoodlaw38.BuildfileParse", spec := "buildfileParse", inPlace := ["internal/bytealg.IndexByteString", "internal/bytealg.IndexString"], unfollowed := true, recurses := true, named := ["unicode/utf8.first", "unicode/utf8.acceptRanges", "internal/bytealg.MaxLen"], apart := false, laid := [("unicode/utf8.acceptRanges", laid_unicode_utf8_acceptRanges), ("unicode/utf8.first", laid_unicode_utf8_first)], narrowed := true }
def BuildfileParseUptoSaid : Prop := buildfileParseUptoRow.holds Tryd.pinned (OpenSpec.upto buildfileParseSpec)

/-- 'cordwoodlaw38.BuildfilePrefixes', WHERE WHAT IT READS IS OF BULK AT MOST 1048576: true; the input reads as it did. -/
def buildfilePrefixesUptoRow : OpenClaim := { program := "ytgcmekpfhagnbaadoor", sum := "8f559f46dde1549f658dfa1c404a80bbd3c86417627cb1098ff6f3845deb7777", func := "cordwood/cordwoodlaw38.BuildfilePrefixes", spec := "buildfilePrefixes", inPlace := ["internal/bytealg.IndexByteString", "internal/bytealg.IndexString"], unfollowed := true, recurses := true, named := ["unicode/utf8.first", "unicode/utf8.acceptRanges", "internal/bytealg.MaxLen"], apart := false, laid := [("unicode/utf8.acceptRanges", laid_unicode_utf8_acceptRanges), ("unicode/utf8.first", laid_unicode_utf8_first)], narrowed := true }
def BuildfilePrefixesUptoSaid : Prop := buildfilePrefixesUptoRow.holds Tryd.pinned (OpenSpec.upto buildfilePrefixesSpec)

/-- 'cordwoodlaw38.BuildfileJoin', WHERE WHAT IT READS IS OF BULK AT MOST 1048576: true; the input reads as it did. -/
def buildfileJoinUptoRow : OpenClaim := { program := "ytgcmekpfhagnbaadoor", sum := "8f559f46dde1549f658dfa1c404a80bbd3c86417627cb1098ff6f3845deb7777", func := "cordwood/cordwoodlaw38.BuildfileJoin", spec := "buildfileJoin", inPlace := ["internal/bytealg.IndexByteString", "internal/bytealg.IndexString"], unfollowed := true, recurses := true, named := ["unicode/utf8.first", "unicode/utf8.acceptRanges", "internal/bytealg.MaxLen"], apart := false, laid := [("unicode/utf8.acceptRanges", laid_unicode_utf8_acceptRanges), ("unicode/utf8.first", laid_unicode_utf8_first)], narrowed := true }
def BuildfileJoinUptoSaid : Prop := buildfileJoinUptoRow.holds Tryd.pinned (OpenSpec.upto buildfileJoinSpec)

/-- 'cordwoodlaw38.BuildfileLabels', WHERE WHAT IT READS IS OF BULK AT MOST 1048576: true; the input reads as it did. -/
def buildfileLabelsUptoRow : OpenClaim := { program := "ytgcmekpfhagnbaadoor", sum := "8f559f46dde1549f658dfa1c404a80bbd3c86417627cb1098ff6f3845deb7777", func := "cordwood/cordwoodlaw38.BuildfileLabels", spec := "buildfileLabels", inPlace := ["internal/bytealg.IndexByteString", "internal/bytealg.IndexString"], unfollowed := true, recurses := true, named := ["unicode/utf8.first", "unicode/utf8.acceptRanges", "internal/bytealg.MaxLen"], apart := false, laid := [("unicode/utf8.acceptRanges", laid_unicode_utf8_acceptRanges), ("unicode/utf8.first", laid_unicode_utf8_first)], narrowed := true }
def BuildfileLabelsUptoSaid : Prop := buildfileLabelsUptoRow.holds Tryd.pinned (OpenSpec.upto buildfileLabelsSpec)

/-- 'cordwoodlaw38.BuildfileCheck', WHERE WHAT IT READS IS OF BULK AT MOST 1048576: true; the input reads as it did. -/
def buildfileCheckUptoRow : OpenClaim := { program := "ytgcmekpfhagnbaadoor", sum := "8f559f46dde1549f658dfa1c404a80bbd3c86417627cb1098ff6f3845deb7777", func := "cordwood/cordwoodlaw38.BuildfileCheck", spec := "buildfileCheck", inPlace := ["internal/bytealg.IndexByteString", "internal/bytealg.IndexString", "internal/abi.NoEscape", "internal/bytealg.MakeNoZero"], unfollowed := true, recurses := true, named := ["unicode/utf8.first", "unicode/utf8.acceptRanges", "internal/bytealg.MaxLen"], apart := false, laid := [("unicode/utf8.acceptRanges", laid_unicode_utf8_acceptRanges), ("unicode/utf8.first", laid_unicode_utf8_first)], narrowed := true }
def BuildfileCheckUptoSaid : Prop := buildfileCheckUptoRow.holds Tryd.pinned (OpenSpec.upto buildfileCheckSpec)

/-- 'cordwoodlaw38.BuildfileRoundTrip', WHERE WHAT IT READS IS OF BULK AT MOST 1048576: true; the input reads as it did. -/
def buildfileRoundTripUptoRow : OpenClaim := { program := "ytgcmekpfhagnbaadoor", sum := "8f559f46dde1549f658dfa1c404a80bbd3c86417627cb1098ff6f3845deb7777", func := "cordwood/cordwoodlaw38.BuildfileRoundTrip", spec := "buildfileRoundTrip", inPlace := ["internal/bytealg.IndexByteString", "internal/bytealg.IndexString", "internal/abi.NoEscape", "internal/bytealg.MakeNoZero"], unfollowed := true, recurses := true, named := ["unicode/utf8.first", "unicode/utf8.acceptRanges", "internal/bytealg.MaxLen"], apart := false, laid := [("unicode/utf8.acceptRanges", laid_unicode_utf8_acceptRanges), ("unicode/utf8.first", laid_unicode_utf8_first)], narrowed := true }
def BuildfileRoundTripUptoSaid : Prop := buildfileRoundTripUptoRow.holds Tryd.pinned (OpenSpec.upto buildfileRoundTripSpec)

/-- 'cordwoodlaw38.BuildfileValid', WHERE WHAT IT READS IS OF BULK AT MOST 1048576: true; the input reads as it did. -/
def buildfileValidUptoRow : OpenClaim := { program := "ytgcmekpfhagnbaadoor", sum := "8f559f46dde1549f658dfa1c404a80bbd3c86417627cb1098ff6f3845deb7777", func := "cordwood/cordwoodlaw38.BuildfileValid", spec := "buildfileValid", inPlace := ["internal/bytealg.IndexByteString", "internal/bytealg.IndexString", "internal/abi.NoEscape", "internal/bytealg.MakeNoZero"], unfollowed := true, recurses := true, named := ["unicode/utf8.first", "unicode/utf8.acceptRanges", "internal/bytealg.MaxLen"], apart := false, laid := [("unicode/utf8.acceptRanges", laid_unicode_utf8_acceptRanges), ("unicode/utf8.first", laid_unicode_utf8_first)], narrowed := true }
def BuildfileValidUptoSaid : Prop := buildfileValidUptoRow.holds Tryd.pinned (OpenSpec.upto buildfileValidSpec)

/-- 'cordwoodlaw38.BuildfileLayout', WHERE WHAT IT READS IS OF BULK AT MOST 1048576: true; the input reads as it did. -/
def buildfileLayoutUptoRow : OpenClaim := { program := "ytgcmekpfhagnbaadoor", sum := "8f559f46dde1549f658dfa1c404a80bbd3c86417627cb1098ff6f3845deb7777", func := "cordwood/cordwoodlaw38.BuildfileLayout", spec := "buildfileLayout", inPlace := ["internal/bytealg.IndexByteString", "internal/bytealg.IndexString", "internal/abi.NoEscape", "internal/bytealg.MakeNoZero"], unfollowed := true, recurses := true, named := ["unicode/utf8.first", "unicode/utf8.acceptRanges", "internal/bytealg.MaxLen", "strings.asciiSpace", "unicode.White_Space"], apart := false, laid := [("unicode/utf8.acceptRanges", laid_unicode_utf8_acceptRanges), ("unicode.White_Space", laid_unicode_White_Space), ("strings.asciiSpace", laid_strings_asciiSpace), ("unicode/utf8.first", laid_unicode_utf8_first)], narrowed := true }
def BuildfileLayoutUptoSaid : Prop := buildfileLayoutUptoRow.holds Tryd.pinned (OpenSpec.upto buildfileLayoutSpec)

end Rows
end Go.Proofs.YtgcmekpfhagnbaaDoor
