/-
  NARROWER THAN 'FOR EVERY INPUT', by the rows' own cells (each row's printed sentence says how): EditApply: loops, laid · EditDiff: loops, laid · EditCheck: loops, laid · EditDecode: laid · EditEncoding: loops, laid.
  DERIVED. THE GIVEN ROWS OF THIS SEAT. 5 by the template 'for every input the law returns true; each argument reads behind the call as it read before'; 0 by the template 'total and deterministic' (their statements: YtfkjfdbjhlmjcaaGreatDoorTotals.lean).
  GIVEN WITH THE SEED: the statements are not yours to turn. If you find one false, say at which input.
  Laid BY PROGRAM, IN A SANDBOX (cutbox-rows.mjs): the forced cells as the released guide's own fill.sh prints them over the translation fa0954a455805ac7… (all of the seat's roots in one cut). By AI agents, Wed Nov 11 2026. No macro, syntax, notation, axiom, sorry.
-/
import Derived.Test.YtfkjfdbjhlmjcaaGreatDoorChecked
import GoSem.PinnedTables
import GoSem.Claim
import GoSem.ClaimJoined
import GoSem.ClaimMapViews
import Derived.JoinedTies
import Derived.KernelRfl
namespace Go.Proofs.YtfkjfdbjhlmjcaaGreatDoor
/- THE CELL 'sum', in the pinned program and in every row, IS THE sha256 OF THE DUMP (.gsa) THAT YtfkjfdbjhlmjcaaGreatDoorProg.lean LOADS. Nothing in Lean hashes anything: it is a label: what it is worth is what the hold of that sum in a sandbox is worth. -/
noncomputable def Tryz.pinned : Pinned := { name := "ytfkjfdbjhlmjcaagreatdoor", sum := "fa0954a455805ac79596fe277a219708d44ae6fed5ccce544d3e38170d37d7bf", checked := Tryz.checked }
namespace Rows
def none {H : Type} : Left H := { results := [], args := [] }

/- WHAT THE LISTED PACKAGE-LEVEL VARIABLES READ AS WHEN THE CALL BEGINS. Each datum BY PROGRAM (the guide's laid-datum.mjs) off the statement by which the dump's own 'gosem.cut.vars' lays the variable. In a bare row this is a premise. The card (YtfkjfdbjhlmjcaaGreatDoorCards.lean) ties it to the program's text. -/
def laid_unicode_utf8_acceptRanges {H : Type} : DataW H := .agg [.agg [.lit (.int .u8 128), .lit (.int .u8 191)], .agg [.lit (.int .u8 160), .lit (.int .u8 191)], .agg [.lit (.int .u8 128), .lit (.int .u8 159)], .agg [.lit (.int .u8 144), .lit (.int .u8 191)], .agg [.lit (.int .u8 128), .lit (.int .u8 143)], .agg [.lit (.int .u8 0), .lit (.int .u8 0)], .agg [.lit (.int .u8 0), .lit (.int .u8 0)], .agg [.lit (.int .u8 0), .lit (.int .u8 0)], .agg [.lit (.int .u8 0), .lit (.int .u8 0)], .agg [.lit (.int .u8 0), .lit (.int .u8 0)], .agg [.lit (.int .u8 0), .lit (.int .u8 0)], .agg [.lit (.int .u8 0), .lit (.int .u8 0)], .agg [.lit (.int .u8 0), .lit (.int .u8 0)], .agg [.lit (.int .u8 0), .lit (.int .u8 0)], .agg [.lit (.int .u8 0), .lit (.int .u8 0)], .agg [.lit (.int .u8 0), .lit (.int .u8 0)]]
/-- One of Go's own tables, pinned by name: the form's constant. -/
def laid_unicode_utf8_first : DataW Unit := Go.Pinned.utf8First

/-- 'cordwoodlaw34.EditApply': WHATEVER THE INPUT: true; the input reads as it did. -/
def editApplySpec : ChangeSpec := { name := "editApply", fn := fun _ => fun
  | [d1, d2] => { results := [.lit (.bool true)], args := [d1, d2] }
  | _ => none }
def editApplyRow : OpenClaim := { program := "ytfkjfdbjhlmjcaagreatdoor", sum := "fa0954a455805ac79596fe277a219708d44ae6fed5ccce544d3e38170d37d7bf", func := "cordwood/cordwoodlaw34.EditApply", spec := "editApply", inPlace := ["internal/bytealg.IndexByteString", "internal/bytealg.IndexString", "slices.overlaps[string]", "slices.overlaps[cordwood/api.Decl]", "internal/bytealg.abigen_runtime_cmpstring", "slices.overlaps[cordwood/api.Module]"], unfollowed := true, recurses := true, named := ["unicode/utf8.first", "unicode/utf8.acceptRanges", "internal/bytealg.MaxLen"], loops := true, apart := false, laid := [("unicode/utf8.acceptRanges", laid_unicode_utf8_acceptRanges), ("unicode/utf8.first", laid_unicode_utf8_first)] }
def EditApplySaid : Prop := editApplyRow.holds Tryz.pinned (OpenSpec.ofChange editApplySpec)

/-- ITS FALSE NEIGHBOUR: 'it returns false'. Refute it at one input. -/
def editApplyWrong : ChangeSpec := { name := "editApply", fn := fun _ => fun
  | [d1, d2] => { results := [.lit (.bool false)], args := [d1, d2] }
  | _ => none }
def EditApplyWrongFalsely : Prop := editApplyRow.holds Tryz.pinned (OpenSpec.ofChange editApplyWrong)

/-- 'cordwoodlaw34.EditDiff': WHATEVER THE INPUT: true; the input reads as it did. -/
def editDiffSpec : ChangeSpec := { name := "editDiff", fn := fun _ => fun
  | [d1, d2, d3] => { results := [.lit (.bool true)], args := [d1, d2, d3] }
  | _ => none }
def editDiffRow : OpenClaim := { program := "ytfkjfdbjhlmjcaagreatdoor", sum := "fa0954a455805ac79596fe277a219708d44ae6fed5ccce544d3e38170d37d7bf", func := "cordwood/cordwoodlaw34.EditDiff", spec := "editDiff", inPlace := ["internal/bytealg.IndexByteString", "internal/bytealg.IndexString", "slices.overlaps[string]", "slices.overlaps[cordwood/api.Decl]", "internal/bytealg.abigen_runtime_cmpstring", "slices.overlaps[cordwood/api.Module]"], unfollowed := true, recurses := true, named := ["unicode/utf8.first", "unicode/utf8.acceptRanges", "internal/bytealg.MaxLen"], loops := true, apart := false, laid := [("unicode/utf8.acceptRanges", laid_unicode_utf8_acceptRanges), ("unicode/utf8.first", laid_unicode_utf8_first)] }
def EditDiffSaid : Prop := editDiffRow.holds Tryz.pinned (OpenSpec.ofChange editDiffSpec)

/-- ITS FALSE NEIGHBOUR: 'it returns false'. Refute it at one input. -/
def editDiffWrong : ChangeSpec := { name := "editDiff", fn := fun _ => fun
  | [d1, d2, d3] => { results := [.lit (.bool false)], args := [d1, d2, d3] }
  | _ => none }
def EditDiffWrongFalsely : Prop := editDiffRow.holds Tryz.pinned (OpenSpec.ofChange editDiffWrong)

/-- 'cordwoodlaw34.EditCheck': WHATEVER THE INPUT: true; the input reads as it did. -/
def editCheckSpec : ChangeSpec := { name := "editCheck", fn := fun _ => fun
  | [d] => { results := [.lit (.bool true)], args := [d] }
  | _ => none }
def editCheckRow : OpenClaim := { program := "ytfkjfdbjhlmjcaagreatdoor", sum := "fa0954a455805ac79596fe277a219708d44ae6fed5ccce544d3e38170d37d7bf", func := "cordwood/cordwoodlaw34.EditCheck", spec := "editCheck", inPlace := ["internal/bytealg.IndexByteString", "internal/bytealg.IndexString", "slices.overlaps[string]", "slices.overlaps[cordwood/api.Decl]", "internal/bytealg.abigen_runtime_cmpstring", "slices.overlaps[cordwood/api.Module]", "internal/abi.NoEscape"], unfollowed := true, recurses := true, named := ["unicode/utf8.first", "unicode/utf8.acceptRanges", "internal/bytealg.MaxLen"], loops := true, apart := false, laid := [("unicode/utf8.acceptRanges", laid_unicode_utf8_acceptRanges), ("unicode/utf8.first", laid_unicode_utf8_first)] }
def EditCheckSaid : Prop := editCheckRow.holds Tryz.pinned (OpenSpec.ofChange editCheckSpec)

/-- ITS FALSE NEIGHBOUR: 'it returns false'. Refute it at one input. -/
def editCheckWrong : ChangeSpec := { name := "editCheck", fn := fun _ => fun
  | [d] => { results := [.lit (.bool false)], args := [d] }
  | _ => none }
def EditCheckWrongFalsely : Prop := editCheckRow.holds Tryz.pinned (OpenSpec.ofChange editCheckWrong)

/-- 'cordwoodlaw34.EditDecode': WHATEVER THE INPUT: true; the input reads as it did. -/
def editDecodeSpec : ChangeSpec := { name := "editDecode", fn := fun _ => fun
  | [d] => { results := [.lit (.bool true)], args := [d] }
  | _ => none }
def editDecodeRow : OpenClaim := { program := "ytfkjfdbjhlmjcaagreatdoor", sum := "fa0954a455805ac79596fe277a219708d44ae6fed5ccce544d3e38170d37d7bf", func := "cordwood/cordwoodlaw34.EditDecode", spec := "editDecode", inPlace := ["internal/bytealg.IndexByteString", "internal/bytealg.IndexString", "slices.overlaps[string]", "slices.overlaps[cordwood/api.Decl]", "internal/bytealg.abigen_runtime_cmpstring", "slices.overlaps[cordwood/api.Module]", "internal/abi.NoEscape"], unfollowed := true, recurses := true, named := ["unicode/utf8.first", "unicode/utf8.acceptRanges", "internal/bytealg.MaxLen"], apart := false, laid := [("unicode/utf8.acceptRanges", laid_unicode_utf8_acceptRanges), ("unicode/utf8.first", laid_unicode_utf8_first)] }
def EditDecodeSaid : Prop := editDecodeRow.holds Tryz.pinned (OpenSpec.ofChange editDecodeSpec)

/-- ITS FALSE NEIGHBOUR: 'it returns false'. Refute it at one input. -/
def editDecodeWrong : ChangeSpec := { name := "editDecode", fn := fun _ => fun
  | [d] => { results := [.lit (.bool false)], args := [d] }
  | _ => none }
def EditDecodeWrongFalsely : Prop := editDecodeRow.holds Tryz.pinned (OpenSpec.ofChange editDecodeWrong)

/-- 'cordwoodlaw34.EditEncoding': WHATEVER THE INPUT: true; the input reads as it did. -/
def editEncodingSpec : ChangeSpec := { name := "editEncoding", fn := fun _ => fun
  | [d1, d2] => { results := [.lit (.bool true)], args := [d1, d2] }
  | _ => none }
def editEncodingRow : OpenClaim := { program := "ytfkjfdbjhlmjcaagreatdoor", sum := "fa0954a455805ac79596fe277a219708d44ae6fed5ccce544d3e38170d37d7bf", func := "cordwood/cordwoodlaw34.EditEncoding", spec := "editEncoding", inPlace := ["internal/bytealg.IndexByteString", "internal/bytealg.IndexString", "slices.overlaps[string]", "slices.overlaps[cordwood/api.Decl]", "internal/bytealg.abigen_runtime_cmpstring", "slices.overlaps[cordwood/api.Module]", "internal/abi.NoEscape"], unfollowed := true, recurses := true, named := ["unicode/utf8.first", "unicode/utf8.acceptRanges", "internal/bytealg.MaxLen"], loops := true, apart := false, laid := [("unicode/utf8.acceptRanges", laid_unicode_utf8_acceptRanges), ("unicode/utf8.first", laid_unicode_utf8_first)] }
def EditEncodingSaid : Prop := editEncodingRow.holds Tryz.pinned (OpenSpec.ofChange editEncodingSpec)

/-- ITS FALSE NEIGHBOUR: 'it returns false'. Refute it at one input. -/
def editEncodingWrong : ChangeSpec := { name := "editEncoding", fn := fun _ => fun
  | [d1, d2] => { results := [.lit (.bool false)], args := [d1, d2] }
  | _ => none }
def EditEncodingWrongFalsely : Prop := editEncodingRow.holds Tryz.pinned (OpenSpec.ofChange editEncodingWrong)

/- THE SECOND FORM. 'bulk': how many values and letters a reading holds, each counted each time it is reached (what is shared counts as often as it is met; a slice's spare places count too). A statement '..UptoSaid' is the law's where the arguments, and the package variables that the reading takes, are together of bulk at most 1048576: NARROWER than '..Said'. Prove '..Said' where nothing that the law and all that it calls make is longer than what came in: it says more and counts as full. Else prove '..UptoSaid'. A law counts once. -/
mutual
def uptoBulk {H : Type} : DataW H → Nat
  | .lit (.string bytes) => bytes.length + 1
  | .lit _ => 1
  | .nil => 1
  | .ptr d => uptoBulk d + 1
  | .slice elems spare => uptoBulkAll elems + uptoBulkAll spare + 1
  | .agg parts => uptoBulkAll parts + 1
  | .iface _ d => uptoBulk d + 1
  | .map entries => uptoBulkEntries entries + 1
  | .held _ => 1
def uptoBulkAll {H : Type} : List (DataW H) → Nat
  | [] => 0
  | d :: r => uptoBulk d + uptoBulkAll r
def uptoBulkEntries {H : Type} : List (Lit × DataW H) → Nat
  | [] => 0
  | x :: r => uptoBulkEntry x + uptoBulkEntries r
def uptoBulkEntry {H : Type} : Lit × DataW H → Nat
  | (.string bytes, d) => bytes.length + uptoBulk d + 1
  | (_, d) => uptoBulk d + 1
 end
def uptoSmall : (H : Type) → List (DataW H) → Bool := fun _ ds => decide (uptoBulkAll ds ≤ 1048576)
def OpenSpec.upto (s : _root_.Go.ChangeSpec) : _root_.Go.OpenSpec := { _root_.Go.OpenSpec.ofChange s with cond := some uptoSmall }

/-- 'cordwoodlaw34.EditApply', WHERE WHAT IT READS IS OF BULK AT MOST 1048576: true; the input reads as it did. -/
def editApplyUptoRow : OpenClaim := { program := "ytfkjfdbjhlmjcaagreatdoor", sum := "fa0954a455805ac79596fe277a219708d44ae6fed5ccce544d3e38170d37d7bf", func := "cordwood/cordwoodlaw34.EditApply", spec := "editApply", inPlace := ["internal/bytealg.IndexByteString", "internal/bytealg.IndexString", "slices.overlaps[string]", "slices.overlaps[cordwood/api.Decl]", "internal/bytealg.abigen_runtime_cmpstring", "slices.overlaps[cordwood/api.Module]"], unfollowed := true, recurses := true, named := ["unicode/utf8.first", "unicode/utf8.acceptRanges", "internal/bytealg.MaxLen"], loops := true, apart := false, laid := [("unicode/utf8.acceptRanges", laid_unicode_utf8_acceptRanges), ("unicode/utf8.first", laid_unicode_utf8_first)], narrowed := true }
def EditApplyUptoSaid : Prop := editApplyUptoRow.holds Tryz.pinned (OpenSpec.upto editApplySpec)

/-- 'cordwoodlaw34.EditDiff', WHERE WHAT IT READS IS OF BULK AT MOST 1048576: true; the input reads as it did. -/
def editDiffUptoRow : OpenClaim := { program := "ytfkjfdbjhlmjcaagreatdoor", sum := "fa0954a455805ac79596fe277a219708d44ae6fed5ccce544d3e38170d37d7bf", func := "cordwood/cordwoodlaw34.EditDiff", spec := "editDiff", inPlace := ["internal/bytealg.IndexByteString", "internal/bytealg.IndexString", "slices.overlaps[string]", "slices.overlaps[cordwood/api.Decl]", "internal/bytealg.abigen_runtime_cmpstring", "slices.overlaps[cordwood/api.Module]"], unfollowed := true, recurses := true, named := ["unicode/utf8.first", "unicode/utf8.acceptRanges", "internal/bytealg.MaxLen"], loops := true, apart := false, laid := [("unicode/utf8.acceptRanges", laid_unicode_utf8_acceptRanges), ("unicode/utf8.first", laid_unicode_utf8_first)], narrowed := true }
def EditDiffUptoSaid : Prop := editDiffUptoRow.holds Tryz.pinned (OpenSpec.upto editDiffSpec)

/-- 'cordwoodlaw34.EditCheck', WHERE WHAT IT READS IS OF BULK AT MOST 1048576: true; the input reads as it did. -/
def editCheckUptoRow : OpenClaim := { program := "ytfkjfdbjhlmjcaagreatdoor", sum := "fa0954a455805ac79596fe277a219708d44ae6fed5ccce544d3e38170d37d7bf", func := "cordwood/cordwoodlaw34.EditCheck", spec := "editCheck", inPlace := ["internal/bytealg.IndexByteString", "internal/bytealg.IndexString", "slices.overlaps[string]", "slices.overlaps[cordwood/api.Decl]", "internal/bytealg.abigen_runtime_cmpstring", "slices.overlaps[cordwood/api.Module]", "internal/abi.NoEscape"], unfollowed := true, recurses := true, named := ["unicode/utf8.first", "unicode/utf8.acceptRanges", "internal/bytealg.MaxLen"], loops := true, apart := false, laid := [("unicode/utf8.acceptRanges", laid_unicode_utf8_acceptRanges), ("unicode/utf8.first", laid_unicode_utf8_first)], narrowed := true }
def EditCheckUptoSaid : Prop := editCheckUptoRow.holds Tryz.pinned (OpenSpec.upto editCheckSpec)

/-- 'cordwoodlaw34.EditDecode', WHERE WHAT IT READS IS OF BULK AT MOST 1048576: true; the input reads as it did. -/
def editDecodeUptoRow : OpenClaim := { program := "ytfkjfdbjhlmjcaagreatdoor", sum := "fa0954a455805ac79596fe277a219708d44ae6fed5ccce544d3e38170d37d7bf", func := "cordwood/cordwoodlaw34.EditDecode", spec := "editDecode", inPlace := ["internal/bytealg.IndexByteString", "internal/bytealg.IndexString", "slices.overlaps[string]", "slices.overlaps[cordwood/api.Decl]", "internal/bytealg.abigen_runtime_cmpstring", "slices.overlaps[cordwood/api.Module]", "internal/abi.NoEscape"], unfollowed := true, recurses := true, named := ["unicode/utf8.first", "unicode/utf8.acceptRanges", "internal/bytealg.MaxLen"], apart := false, laid := [("unicode/utf8.acceptRanges", laid_unicode_utf8_acceptRanges), ("unicode/utf8.first", laid_unicode_utf8_first)], narrowed := true }
def EditDecodeUptoSaid : Prop := editDecodeUptoRow.holds Tryz.pinned (OpenSpec.upto editDecodeSpec)

/-- 'cordwoodlaw34.EditEncoding', WHERE WHAT IT READS IS OF BULK AT MOST 1048576: true; the input reads as it did. -/
def editEncodingUptoRow : OpenClaim := { program := "ytfkjfdbjhlmjcaagreatdoor", sum := "fa0954a455805ac79596fe277a219708d44ae6fed5ccce544d3e38170d37d7bf", func := "cordwood/cordwoodlaw34.EditEncoding", spec := "editEncoding", inPlace := ["internal/bytealg.IndexByteString", "internal/bytealg.IndexString", "slices.overlaps[string]", "slices.overlaps[cordwood/api.Decl]", "internal/bytealg.abigen_runtime_cmpstring", "slices.overlaps[cordwood/api.Module]", "internal/abi.NoEscape"], unfollowed := true, recurses := true, named := ["unicode/utf8.first", "unicode/utf8.acceptRanges", "internal/bytealg.MaxLen"], loops := true, apart := false, laid := [("unicode/utf8.acceptRanges", laid_unicode_utf8_acceptRanges), ("unicode/utf8.first", laid_unicode_utf8_first)], narrowed := true }
def EditEncodingUptoSaid : Prop := editEncodingUptoRow.holds Tryz.pinned (OpenSpec.upto editEncodingSpec)

end Rows
end Go.Proofs.YtfkjfdbjhlmjcaaGreatDoor
