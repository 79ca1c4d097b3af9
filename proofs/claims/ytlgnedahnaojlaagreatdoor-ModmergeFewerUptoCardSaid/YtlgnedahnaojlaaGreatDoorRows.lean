/-
  NARROWER THAN 'FOR EVERY INPUT', by the rows' own cells (each row's printed sentence says how): ModmergeMerge: loops, laid · ModmergeOneSide: loops, laid · ModmergeSymmetry: loops, laid · ModmergeDecls: loops, laid · ModmergeAgain: loops, laid · ModmergeFields: loops, laid · ModmergeSettle: loops, laid · ModmergeFewer: loops, laid · ModmergeRemoved: loops, laid.
  DERIVED. THE GIVEN ROWS OF THIS SEAT. 9 by the template 'for every input the law returns true; each argument reads behind the call as it read before'; 0 by the template 'total and deterministic' (their statements: YtlgnedahnaojlaaGreatDoorTotals.lean).
  GIVEN WITH THE SEED: the statements are not yours to turn. If you find one false, say at which input.
  Laid BY PROGRAM, IN A SANDBOX (cutbox-rows.mjs): the forced cells as the released guide's own fill.sh prints them over the translation 6393e10779785b18… (all of the seat's roots in one cut). By AI agents, Wed Nov 11 2026. No macro, syntax, notation, axiom, sorry.
-/
import Derived.Test.YtlgnedahnaojlaaGreatDoorChecked
import GoSem.PinnedTables
import GoSem.Claim
import GoSem.ClaimJoined
import GoSem.ClaimMapViews
import Derived.JoinedTies
import Derived.KernelRfl
namespace Go.Proofs.YtlgnedahnaojlaaGreatDoor
/- THE CELL 'sum', in the pinned program and in every row, IS THE sha256 OF THE DUMP (.gsa) THAT YtlgnedahnaojlaaGreatDoorProg.lean LOADS. Nothing in Lean hashes anything: it is a label: what it is worth is what the hold of that sum in a sandbox is worth. -/
noncomputable def Tryz.pinned : Pinned := { name := "ytlgnedahnaojlaagreatdoor", sum := "6393e10779785b18442d19f28e107dfb8899f6adc04c4ee86d6f7c2fc2130212", checked := Tryz.checked }
namespace Rows
def none {H : Type} : Left H := { results := [], args := [] }

/- WHAT THE LISTED PACKAGE-LEVEL VARIABLES READ AS WHEN THE CALL BEGINS. Each datum BY PROGRAM (the guide's laid-datum.mjs) off the statement by which the dump's own 'gosem.cut.vars' lays the variable. In a bare row this is a premise. The card (YtlgnedahnaojlaaGreatDoorCards.lean) ties it to the program's text. -/
def laid_unicode_utf8_acceptRanges {H : Type} : DataW H := .agg [.agg [.lit (.int .u8 128), .lit (.int .u8 191)], .agg [.lit (.int .u8 160), .lit (.int .u8 191)], .agg [.lit (.int .u8 128), .lit (.int .u8 159)], .agg [.lit (.int .u8 144), .lit (.int .u8 191)], .agg [.lit (.int .u8 128), .lit (.int .u8 143)], .agg [.lit (.int .u8 0), .lit (.int .u8 0)], .agg [.lit (.int .u8 0), .lit (.int .u8 0)], .agg [.lit (.int .u8 0), .lit (.int .u8 0)], .agg [.lit (.int .u8 0), .lit (.int .u8 0)], .agg [.lit (.int .u8 0), .lit (.int .u8 0)], .agg [.lit (.int .u8 0), .lit (.int .u8 0)], .agg [.lit (.int .u8 0), .lit (.int .u8 0)], .agg [.lit (.int .u8 0), .lit (.int .u8 0)], .agg [.lit (.int .u8 0), .lit (.int .u8 0)], .agg [.lit (.int .u8 0), .lit (.int .u8 0)], .agg [.lit (.int .u8 0), .lit (.int .u8 0)]]
/-- One of Go's own tables, pinned by name: the form's constant. -/
def laid_unicode_utf8_first : DataW Unit := Go.Pinned.utf8First
def laid_math_bits_deBruijn32tab {H : Type} : DataW H := .agg [.lit (.int .u8 0), .lit (.int .u8 1), .lit (.int .u8 28), .lit (.int .u8 2), .lit (.int .u8 29), .lit (.int .u8 14), .lit (.int .u8 24), .lit (.int .u8 3), .lit (.int .u8 30), .lit (.int .u8 22), .lit (.int .u8 20), .lit (.int .u8 15), .lit (.int .u8 25), .lit (.int .u8 17), .lit (.int .u8 4), .lit (.int .u8 8), .lit (.int .u8 31), .lit (.int .u8 27), .lit (.int .u8 13), .lit (.int .u8 23), .lit (.int .u8 21), .lit (.int .u8 19), .lit (.int .u8 16), .lit (.int .u8 7), .lit (.int .u8 26), .lit (.int .u8 12), .lit (.int .u8 18), .lit (.int .u8 6), .lit (.int .u8 11), .lit (.int .u8 5), .lit (.int .u8 10), .lit (.int .u8 9)]
def laid_math_bits_deBruijn64tab {H : Type} : DataW H := .agg [.lit (.int .u8 0), .lit (.int .u8 1), .lit (.int .u8 56), .lit (.int .u8 2), .lit (.int .u8 57), .lit (.int .u8 49), .lit (.int .u8 28), .lit (.int .u8 3), .lit (.int .u8 61), .lit (.int .u8 58), .lit (.int .u8 42), .lit (.int .u8 50), .lit (.int .u8 38), .lit (.int .u8 29), .lit (.int .u8 17), .lit (.int .u8 4), .lit (.int .u8 62), .lit (.int .u8 47), .lit (.int .u8 59), .lit (.int .u8 36), .lit (.int .u8 45), .lit (.int .u8 43), .lit (.int .u8 51), .lit (.int .u8 22), .lit (.int .u8 53), .lit (.int .u8 39), .lit (.int .u8 33), .lit (.int .u8 30), .lit (.int .u8 24), .lit (.int .u8 18), .lit (.int .u8 12), .lit (.int .u8 5), .lit (.int .u8 63), .lit (.int .u8 55), .lit (.int .u8 48), .lit (.int .u8 27), .lit (.int .u8 60), .lit (.int .u8 41), .lit (.int .u8 37), .lit (.int .u8 16), .lit (.int .u8 46), .lit (.int .u8 35), .lit (.int .u8 44), .lit (.int .u8 21), .lit (.int .u8 52), .lit (.int .u8 32), .lit (.int .u8 23), .lit (.int .u8 11), .lit (.int .u8 54), .lit (.int .u8 26), .lit (.int .u8 40), .lit (.int .u8 15), .lit (.int .u8 34), .lit (.int .u8 20), .lit (.int .u8 31), .lit (.int .u8 10), .lit (.int .u8 25), .lit (.int .u8 14), .lit (.int .u8 19), .lit (.int .u8 9), .lit (.int .u8 13), .lit (.int .u8 8), .lit (.int .u8 7), .lit (.int .u8 6)]
def laid_internal_strconv_uint64pow10 {H : Type} : DataW H := .agg [.lit (.int .u64 1), .lit (.int .u64 10), .lit (.int .u64 100), .lit (.int .u64 1000), .lit (.int .u64 10000), .lit (.int .u64 100000), .lit (.int .u64 1000000), .lit (.int .u64 10000000), .lit (.int .u64 100000000), .lit (.int .u64 1000000000), .lit (.int .u64 10000000000), .lit (.int .u64 100000000000), .lit (.int .u64 1000000000000), .lit (.int .u64 10000000000000), .lit (.int .u64 100000000000000), .lit (.int .u64 1000000000000000), .lit (.int .u64 10000000000000000), .lit (.int .u64 100000000000000000), .lit (.int .u64 1000000000000000000), .lit (.int .u64 10000000000000000000)]

/-- 'cordwoodlaw33.ModmergeMerge': WHATEVER THE INPUT: true; the input reads as it did. -/
def modmergeMergeSpec : ChangeSpec := { name := "modmergeMerge", fn := fun _ => fun
  | [d1, d2, d3] => { results := [.lit (.bool true)], args := [d1, d2, d3] }
  | _ => none }
def modmergeMergeRow : OpenClaim := { program := "ytlgnedahnaojlaagreatdoor", sum := "6393e10779785b18442d19f28e107dfb8899f6adc04c4ee86d6f7c2fc2130212", func := "cordwood/cordwoodlaw33.ModmergeMerge", spec := "modmergeMerge", inPlace := ["internal/bytealg.IndexByteString", "internal/bytealg.IndexString"], unfollowed := true, recurses := true, named := ["unicode/utf8.first", "unicode/utf8.acceptRanges", "internal/bytealg.MaxLen"], loops := true, apart := false, laid := [("unicode/utf8.acceptRanges", laid_unicode_utf8_acceptRanges), ("unicode/utf8.first", laid_unicode_utf8_first)] }
def ModmergeMergeSaid : Prop := modmergeMergeRow.holds Tryz.pinned (OpenSpec.ofChange modmergeMergeSpec)

/-- ITS FALSE NEIGHBOUR: 'it returns false'. Refute it at one input. -/
def modmergeMergeWrong : ChangeSpec := { name := "modmergeMerge", fn := fun _ => fun
  | [d1, d2, d3] => { results := [.lit (.bool false)], args := [d1, d2, d3] }
  | _ => none }
def ModmergeMergeWrongFalsely : Prop := modmergeMergeRow.holds Tryz.pinned (OpenSpec.ofChange modmergeMergeWrong)

/-- 'cordwoodlaw33.ModmergeOneSide': WHATEVER THE INPUT: true; the input reads as it did. -/
def modmergeOneSideSpec : ChangeSpec := { name := "modmergeOneSide", fn := fun _ => fun
  | [d1, d2] => { results := [.lit (.bool true)], args := [d1, d2] }
  | _ => none }
def modmergeOneSideRow : OpenClaim := { program := "ytlgnedahnaojlaagreatdoor", sum := "6393e10779785b18442d19f28e107dfb8899f6adc04c4ee86d6f7c2fc2130212", func := "cordwood/cordwoodlaw33.ModmergeOneSide", spec := "modmergeOneSide", inPlace := ["internal/bytealg.IndexByteString", "internal/bytealg.IndexString"], unfollowed := true, recurses := true, named := ["unicode/utf8.first", "unicode/utf8.acceptRanges", "internal/bytealg.MaxLen"], loops := true, apart := false, laid := [("unicode/utf8.acceptRanges", laid_unicode_utf8_acceptRanges), ("unicode/utf8.first", laid_unicode_utf8_first)] }
def ModmergeOneSideSaid : Prop := modmergeOneSideRow.holds Tryz.pinned (OpenSpec.ofChange modmergeOneSideSpec)

/-- ITS FALSE NEIGHBOUR: 'it returns false'. Refute it at one input. -/
def modmergeOneSideWrong : ChangeSpec := { name := "modmergeOneSide", fn := fun _ => fun
  | [d1, d2] => { results := [.lit (.bool false)], args := [d1, d2] }
  | _ => none }
def ModmergeOneSideWrongFalsely : Prop := modmergeOneSideRow.holds Tryz.pinned (OpenSpec.ofChange modmergeOneSideWrong)

/-- 'cordwoodlaw33.ModmergeSymmetry': WHATEVER THE INPUT: true; the input reads as it did. -/
def modmergeSymmetrySpec : ChangeSpec := { name := "modmergeSymmetry", fn := fun _ => fun
  | [d1, d2, d3] => { results := [.lit (.bool true)], args := [d1, d2, d3] }
  | _ => none }
def modmergeSymmetryRow : OpenClaim := { program := "ytlgnedahnaojlaagreatdoor", sum := "6393e10779785b18442d19f28e107dfb8899f6adc04c4ee86d6f7c2fc2130212", func := "cordwood/cordwoodlaw33.ModmergeSymmetry", spec := "modmergeSymmetry", inPlace := ["internal/bytealg.IndexByteString", "internal/bytealg.IndexString"], unfollowed := true, recurses := true, named := ["unicode/utf8.first", "unicode/utf8.acceptRanges", "internal/bytealg.MaxLen"], loops := true, apart := false, laid := [("unicode/utf8.acceptRanges", laid_unicode_utf8_acceptRanges), ("unicode/utf8.first", laid_unicode_utf8_first)] }
def ModmergeSymmetrySaid : Prop := modmergeSymmetryRow.holds Tryz.pinned (OpenSpec.ofChange modmergeSymmetrySpec)

/-- ITS FALSE NEIGHBOUR: 'it returns false'. Refute it at one input. -/
def modmergeSymmetryWrong : ChangeSpec := { name := "modmergeSymmetry", fn := fun _ => fun
  | [d1, d2, d3] => { results := [.lit (.bool false)], args := [d1, d2, d3] }
  | _ => none }
def ModmergeSymmetryWrongFalsely : Prop := modmergeSymmetryRow.holds Tryz.pinned (OpenSpec.ofChange modmergeSymmetryWrong)

/-- 'cordwoodlaw33.ModmergeDecls': WHATEVER THE INPUT: true; the input reads as it did. -/
def modmergeDeclsSpec : ChangeSpec := { name := "modmergeDecls", fn := fun _ => fun
  | [d1, d2, d3, d4] => { results := [.lit (.bool true)], args := [d1, d2, d3, d4] }
  | _ => none }
def modmergeDeclsRow : OpenClaim := { program := "ytlgnedahnaojlaagreatdoor", sum := "6393e10779785b18442d19f28e107dfb8899f6adc04c4ee86d6f7c2fc2130212", func := "cordwood/cordwoodlaw33.ModmergeDecls", spec := "modmergeDecls", inPlace := ["internal/bytealg.IndexByteString", "internal/bytealg.IndexString"], unfollowed := true, recurses := true, named := ["unicode/utf8.first", "unicode/utf8.acceptRanges", "internal/bytealg.MaxLen"], loops := true, apart := false, laid := [("unicode/utf8.acceptRanges", laid_unicode_utf8_acceptRanges), ("unicode/utf8.first", laid_unicode_utf8_first)] }
def ModmergeDeclsSaid : Prop := modmergeDeclsRow.holds Tryz.pinned (OpenSpec.ofChange modmergeDeclsSpec)

/-- ITS FALSE NEIGHBOUR: 'it returns false'. Refute it at one input. -/
def modmergeDeclsWrong : ChangeSpec := { name := "modmergeDecls", fn := fun _ => fun
  | [d1, d2, d3, d4] => { results := [.lit (.bool false)], args := [d1, d2, d3, d4] }
  | _ => none }
def ModmergeDeclsWrongFalsely : Prop := modmergeDeclsRow.holds Tryz.pinned (OpenSpec.ofChange modmergeDeclsWrong)

/-- 'cordwoodlaw33.ModmergeAgain': WHATEVER THE INPUT: true; the input reads as it did. -/
def modmergeAgainSpec : ChangeSpec := { name := "modmergeAgain", fn := fun _ => fun
  | [d1, d2, d3] => { results := [.lit (.bool true)], args := [d1, d2, d3] }
  | _ => none }
def modmergeAgainRow : OpenClaim := { program := "ytlgnedahnaojlaagreatdoor", sum := "6393e10779785b18442d19f28e107dfb8899f6adc04c4ee86d6f7c2fc2130212", func := "cordwood/cordwoodlaw33.ModmergeAgain", spec := "modmergeAgain", inPlace := ["internal/bytealg.IndexByteString", "internal/bytealg.IndexString"], unfollowed := true, recurses := true, named := ["unicode/utf8.first", "unicode/utf8.acceptRanges", "internal/bytealg.MaxLen"], loops := true, apart := false, laid := [("unicode/utf8.acceptRanges", laid_unicode_utf8_acceptRanges), ("unicode/utf8.first", laid_unicode_utf8_first)] }
def ModmergeAgainSaid : Prop := modmergeAgainRow.holds Tryz.pinned (OpenSpec.ofChange modmergeAgainSpec)

/-- ITS FALSE NEIGHBOUR: 'it returns false'. Refute it at one input. -/
def modmergeAgainWrong : ChangeSpec := { name := "modmergeAgain", fn := fun _ => fun
  | [d1, d2, d3] => { results := [.lit (.bool false)], args := [d1, d2, d3] }
  | _ => none }
def ModmergeAgainWrongFalsely : Prop := modmergeAgainRow.holds Tryz.pinned (OpenSpec.ofChange modmergeAgainWrong)

/-- 'cordwoodlaw33.ModmergeFields': WHATEVER THE INPUT: true; the input reads as it did. -/
def modmergeFieldsSpec : ChangeSpec := { name := "modmergeFields", fn := fun _ => fun
  | [d1, d2, d3, d4, d5] => { results := [.lit (.bool true)], args := [d1, d2, d3, d4, d5] }
  | _ => none }
def modmergeFieldsRow : OpenClaim := { program := "ytlgnedahnaojlaagreatdoor", sum := "6393e10779785b18442d19f28e107dfb8899f6adc04c4ee86d6f7c2fc2130212", func := "cordwood/cordwoodlaw33.ModmergeFields", spec := "modmergeFields", inPlace := ["internal/bytealg.IndexByteString", "internal/bytealg.IndexString"], unfollowed := true, recurses := true, named := ["unicode/utf8.first", "unicode/utf8.acceptRanges", "internal/bytealg.MaxLen"], loops := true, apart := false, laid := [("unicode/utf8.acceptRanges", laid_unicode_utf8_acceptRanges), ("unicode/utf8.first", laid_unicode_utf8_first)] }
def ModmergeFieldsSaid : Prop := modmergeFieldsRow.holds Tryz.pinned (OpenSpec.ofChange modmergeFieldsSpec)

/-- ITS FALSE NEIGHBOUR: 'it returns false'. Refute it at one input. -/
def modmergeFieldsWrong : ChangeSpec := { name := "modmergeFields", fn := fun _ => fun
  | [d1, d2, d3, d4, d5] => { results := [.lit (.bool false)], args := [d1, d2, d3, d4, d5] }
  | _ => none }
def ModmergeFieldsWrongFalsely : Prop := modmergeFieldsRow.holds Tryz.pinned (OpenSpec.ofChange modmergeFieldsWrong)

/-- 'cordwoodlaw33.ModmergeSettle': WHATEVER THE INPUT: true; the input reads as it did. -/
def modmergeSettleSpec : ChangeSpec := { name := "modmergeSettle", fn := fun _ => fun
  | [d1, d2, d3] => { results := [.lit (.bool true)], args := [d1, d2, d3] }
  | _ => none }
def modmergeSettleRow : OpenClaim := { program := "ytlgnedahnaojlaagreatdoor", sum := "6393e10779785b18442d19f28e107dfb8899f6adc04c4ee86d6f7c2fc2130212", func := "cordwood/cordwoodlaw33.ModmergeSettle", spec := "modmergeSettle", inPlace := ["internal/bytealg.IndexByteString", "internal/bytealg.IndexString"], unfollowed := true, recurses := true, named := ["unicode/utf8.first", "unicode/utf8.acceptRanges", "internal/bytealg.MaxLen", "internal/strconv.uint64pow10", "math/bits.deBruijn32tab", "math/bits.deBruijn64tab"], loops := true, apart := false, laid := [("math/bits.deBruijn32tab", laid_math_bits_deBruijn32tab), ("math/bits.deBruijn64tab", laid_math_bits_deBruijn64tab), ("internal/strconv.uint64pow10", laid_internal_strconv_uint64pow10), ("unicode/utf8.acceptRanges", laid_unicode_utf8_acceptRanges), ("unicode/utf8.first", laid_unicode_utf8_first)] }
def ModmergeSettleSaid : Prop := modmergeSettleRow.holds Tryz.pinned (OpenSpec.ofChange modmergeSettleSpec)

/-- ITS FALSE NEIGHBOUR: 'it returns false'. Refute it at one input. -/
def modmergeSettleWrong : ChangeSpec := { name := "modmergeSettle", fn := fun _ => fun
  | [d1, d2, d3] => { results := [.lit (.bool false)], args := [d1, d2, d3] }
  | _ => none }
def ModmergeSettleWrongFalsely : Prop := modmergeSettleRow.holds Tryz.pinned (OpenSpec.ofChange modmergeSettleWrong)

/-- 'cordwoodlaw33.ModmergeFewer': WHATEVER THE INPUT: true; the input reads as it did. -/
def modmergeFewerSpec : ChangeSpec := { name := "modmergeFewer", fn := fun _ => fun
  | [d1, d2, d3] => { results := [.lit (.bool true)], args := [d1, d2, d3] }
  | _ => none }
def modmergeFewerRow : OpenClaim := { program := "ytlgnedahnaojlaagreatdoor", sum := "6393e10779785b18442d19f28e107dfb8899f6adc04c4ee86d6f7c2fc2130212", func := "cordwood/cordwoodlaw33.ModmergeFewer", spec := "modmergeFewer", inPlace := ["internal/bytealg.IndexByteString", "internal/bytealg.IndexString"], unfollowed := true, recurses := true, named := ["unicode/utf8.first", "unicode/utf8.acceptRanges", "internal/bytealg.MaxLen", "internal/strconv.uint64pow10", "math/bits.deBruijn32tab", "math/bits.deBruijn64tab"], loops := true, apart := false, laid := [("math/bits.deBruijn32tab", laid_math_bits_deBruijn32tab), ("math/bits.deBruijn64tab", laid_math_bits_deBruijn64tab), ("internal/strconv.uint64pow10", laid_internal_strconv_uint64pow10), ("unicode/utf8.acceptRanges", laid_unicode_utf8_acceptRanges), ("unicode/utf8.first", laid_unicode_utf8_first)] }
def ModmergeFewerSaid : Prop := modmergeFewerRow.holds Tryz.pinned (OpenSpec.ofChange modmergeFewerSpec)

/-- ITS FALSE NEIGHBOUR: 'it returns false'. Refute it at one input. -/
def modmergeFewerWrong : ChangeSpec := { name := "modmergeFewer", fn := fun _ => fun
  | [d1, d2, d3] => { results := [.lit (.bool false)], args := [d1, d2, d3] }
  | _ => none }
def ModmergeFewerWrongFalsely : Prop := modmergeFewerRow.holds Tryz.pinned (OpenSpec.ofChange modmergeFewerWrong)

/-- 'cordwoodlaw33.ModmergeRemoved': WHATEVER THE INPUT: true; the input reads as it did. -/
def modmergeRemovedSpec : ChangeSpec := { name := "modmergeRemoved", fn := fun _ => fun
  | [d1, d2, d3, d4] => { results := [.lit (.bool true)], args := [d1, d2, d3, d4] }
  | _ => none }
def modmergeRemovedRow : OpenClaim := { program := "ytlgnedahnaojlaagreatdoor", sum := "6393e10779785b18442d19f28e107dfb8899f6adc04c4ee86d6f7c2fc2130212", func := "cordwood/cordwoodlaw33.ModmergeRemoved", spec := "modmergeRemoved", inPlace := ["internal/bytealg.IndexByteString", "internal/bytealg.IndexString"], unfollowed := true, recurses := true, named := ["unicode/utf8.first", "unicode/utf8.acceptRanges", "internal/bytealg.MaxLen", "internal/strconv.uint64pow10", "math/bits.deBruijn32tab", "math/bits.deBruijn64tab"], loops := true, apart := false, laid := [("math/bits.deBruijn32tab", laid_math_bits_deBruijn32tab), ("math/bits.deBruijn64tab", laid_math_bits_deBruijn64tab), ("internal/strconv.uint64pow10", laid_internal_strconv_uint64pow10), ("unicode/utf8.acceptRanges", laid_unicode_utf8_acceptRanges), ("unicode/utf8.first", laid_unicode_utf8_first)] }
def ModmergeRemovedSaid : Prop := modmergeRemovedRow.holds Tryz.pinned (OpenSpec.ofChange modmergeRemovedSpec)

/-- ITS FALSE NEIGHBOUR: 'it returns false'. Refute it at one input. -/
def modmergeRemovedWrong : ChangeSpec := { name := "modmergeRemoved", fn := fun _ => fun
  | [d1, d2, d3, d4] => { results := [.lit (.bool false)], args := [d1, d2, d3, d4] }
  | _ => none }
def ModmergeRemovedWrongFalsely : Prop := modmergeRemovedRow.holds Tryz.pinned (OpenSpec.ofChange modmergeRemovedWrong)

/- THE SECOND FORM. 'bulk': how many values and letters a reading holds, each counted each time it is reached (what is shared counts as often as it is met; a slice's spare places count too). A statement '..UptoSaid' is the law's where the arguments, and the package variables that the reading takes, are together of bulk at most 1048576: NARROWER than '..Said'. Prove '..Said' where nothing that the law and all that it calls make is longer than what came in: it says more and counts as full. Else prove '..UptoSaid'. A law counts once. -/
mutual
def uptoBulk {H : Type} : DataW H → Nat
  | .lit (.string bytes) => bytes.length + 1
  | .lit _ => 1
  | .nil => 1
  | .ptr d => uptoBulk d + 1
  | .slice elems spare => uptoBulkAll elems + uptoBulkAll spare + 1
  | .agg parts => uptoBulkAll parts + 1
  | .iface _ d => uptoBulk d + 1
  | .map entries => uptoBulkEntries entries + 1
  | .held _ => 1
def uptoBulkAll {H : Type} : List (DataW H) → Nat
  | [] => 0
  | d :: r => uptoBulk d + uptoBulkAll r
def uptoBulkEntries {H : Type} : List (Lit × DataW H) → Nat
  | [] => 0
  | x :: r => uptoBulkEntry x + uptoBulkEntries r
def uptoBulkEntry {H : Type} : Lit × DataW H → Nat
  | (.string bytes, d) => bytes.length + uptoBulk d + 1
  | (_, d) => uptoBulk d + 1
 end
def uptoSmall : (H : Type) → List (DataW H) → Bool := fun _ ds => decide (uptoBulkAll ds ≤ 1048576)
def OpenSpec.upto (s : _root_.Go.ChangeSpec) : _root_.Go.OpenSpec := { _root_.Go.OpenSpec.ofChange s with cond := some uptoSmall }

/-- 'cordwoodlaw33.ModmergeMerge', WHERE WHAT IT READS IS OF BULK AT MOST 1048576: true; the input reads as it did. -/
def modmergeMergeUptoRow : OpenClaim := { program := "ytlgnedahnaojlaagreatdoor", sum := "6393e10779785b18442d19f28e107dfb8899f6adc04c4ee86d6f7c2fc2130212", func := "cordwood/cordwoodlaw33.ModmergeMerge", spec := "modmergeMerge", inPlace := ["internal/bytealg.IndexByteString", "internal/bytealg.IndexString"], unfollowed := true, recurses := true, named := ["unicode/utf8.first", "unicode/utf8.acceptRanges", "internal/bytealg.MaxLen"], loops := true, apart := false, laid := [("unicode/utf8.acceptRanges", laid_unicode_utf8_acceptRanges), ("unicode/utf8.first", laid_unicode_utf8_first)], narrowed := true }
def ModmergeMergeUptoSaid : Prop := modmergeMergeUptoRow.holds Tryz.pinned (OpenSpec.upto modmergeMergeSpec)

/-- 'cordwoodlaw33.ModmergeOneSide', WHERE WHAT IT READS IS OF BULK AT MOST 1048576: true; the input reads as it did. -/
def modmergeOneSideUptoRow : OpenClaim := { program := "ytlgnedahnaojlaagreatdoor", sum := "6393e10779785b18442d19f28e107dfb8899f6adc04c4ee86d6f7c2fc2130212", func := "cordwood/cordwoodlaw33.ModmergeOneSide", spec := "modmergeOneSide", inPlace := ["internal/bytealg.IndexByteString", "internal/bytealg.IndexString"], unfollowed := true, recurses := true, named := ["unicode/utf8.first", "unicode/utf8.acceptRanges", "internal/bytealg.MaxLen"], loops := true, apart := false, laid := [("unicode/utf8.acceptRanges", laid_unicode_utf8_acceptRanges), ("unicode/utf8.first", laid_unicode_utf8_first)], narrowed := true }
def ModmergeOneSideUptoSaid : Prop := modmergeOneSideUptoRow.holds Tryz.pinned (OpenSpec.upto modmergeOneSideSpec)

/-- 'cordwoodlaw33.ModmergeSymmetry', WHERE WHAT IT READS IS OF BULK AT MOST 1048576: true; the input reads as it did. -/
def modmergeSymmetryUptoRow : OpenClaim := { program := "ytlgnedahnaojlaagreatdoor", sum := "6393e10779785b18442d19f28e107dfb8899f6adc04c4ee86d6f7c2fc2130212", func := "cordwood/cordwoodlaw33.ModmergeSymmetry", spec := "modmergeSymmetry", inPlace := ["internal/bytealg.IndexByteString", "internal/bytealg.IndexString"], unfollowed := true, recurses := true, named := ["unicode/utf8.first", "unicode/utf8.acceptRanges", "internal/bytealg.MaxLen"], loops := true, apart := false, laid := [("unicode/utf8.acceptRanges", laid_unicode_utf8_acceptRanges), ("unicode/utf8.first", laid_unicode_utf8_first)], narrowed := true }
def ModmergeSymmetryUptoSaid : Prop := modmergeSymmetryUptoRow.holds Tryz.pinned (OpenSpec.upto modmergeSymmetrySpec)

/-- 'cordwoodlaw33.ModmergeDecls', WHERE WHAT IT READS IS OF BULK AT MOST 1048576: true; the input reads as it did. -/
def modmergeDeclsUptoRow : OpenClaim := { program := "ytlgnedahnaojlaagreatdoor", sum := "6393e10779785b18442d19f28e107dfb8899f6adc04c4ee86d6f7c2fc2130212", func := "cordwood/cordwoodlaw33.ModmergeDecls", spec := "modmergeDecls", inPlace := ["internal/bytealg.IndexByteString", "internal/bytealg.IndexString"], unfollowed := true, recurses := true, named := ["unicode/utf8.first", "unicode/utf8.acceptRanges", "internal/bytealg.MaxLen"], loops := true, apart := false, laid := [("unicode/utf8.acceptRanges", laid_unicode_utf8_acceptRanges), ("unicode/utf8.first", laid_unicode_utf8_first)], narrowed := true }
def ModmergeDeclsUptoSaid : Prop := modmergeDeclsUptoRow.holds Tryz.pinned (OpenSpec.upto modmergeDeclsSpec)

/-- 'cordwoodlaw33.ModmergeAgain', WHERE WHAT IT READS IS OF BULK AT MOST 1048576: true; the input reads as it did. -/
def modmergeAgainUptoRow : OpenClaim := { program := "ytlgnedahnaojlaagreatdoor", sum := "6393e10779785b18442d19f28e107dfb8899f6adc04c4ee86d6f7c2fc2130212", func := "cordwood/cordwoodlaw33.ModmergeAgain", spec := "modmergeAgain", inPlace := ["internal/bytealg.IndexByteString", "internal/bytealg.IndexString"], unfollowed := true, recurses := true, named := ["unicode/utf8.first", "unicode/utf8.acceptRanges", "internal/bytealg.MaxLen"], loops := true, apart := false, laid := [("unicode/utf8.acceptRanges", laid_unicode_utf8_acceptRanges), ("unicode/utf8.first", laid_unicode_utf8_first)], narrowed := true }
def ModmergeAgainUptoSaid : Prop := modmergeAgainUptoRow.holds Tryz.pinned (OpenSpec.upto modmergeAgainSpec)

/-- 'cordwoodlaw33.ModmergeFields', WHERE WHAT IT READS IS OF BULK AT MOST 1048576: true; the input reads as it did. -/
def modmergeFieldsUptoRow : OpenClaim := { program := "ytlgnedahnaojlaagreatdoor", sum := "6393e10779785b18442d19f28e107dfb8899f6adc04c4ee86d6f7c2fc2130212", func := "cordwood/cordwoodlaw33.ModmergeFields", spec := "modmergeFields", inPlace := ["internal/bytealg.IndexByteString", "internal/bytealg.IndexString"], unfollowed := true, recurses := true, named := ["unicode/utf8.first", "unicode/utf8.acceptRanges", "internal/bytealg.MaxLen"], loops := true, apart := false, laid := [("unicode/utf8.acceptRanges", laid_unicode_utf8_acceptRanges), ("unicode/utf8.first", laid_unicode_utf8_first)], narrowed := true }
def ModmergeFieldsUptoSaid : Prop := modmergeFieldsUptoRow.holds Tryz.pinned (OpenSpec.upto modmergeFieldsSpec)

/-- 'cordwoodlaw33.ModmergeSettle', WHERE WHAT IT READS IS OF BULK AT MOST 1048576: true; the input reads as it did. -/
def modmergeSettleUptoRow : OpenClaim := { program := "ytlgnedahnaojlaagreatdoor", sum := "6393e10779785b18442d19f28e107dfb8899f6adc04c4ee86d6f7c2fc2130212", func := "cordwood/cordwoodlaw33.ModmergeSettle", spec := "modmergeSettle", inPlace := ["internal/bytealg.IndexByteString", "internal/bytealg.IndexString"], unfollowed := true, recurses := true, named := ["unicode/utf8.first", "unicode/utf8.acceptRanges", "internal/bytealg.MaxLen", "internal/strconv.uint64pow10", "math/bits.deBruijn32tab", "math/bits.deBruijn64tab"], loops := true, apart := false, laid := [("math/bits.deBruijn32tab", laid_math_bits_deBruijn32tab), ("math/bits.deBruijn64tab", laid_math_bits_deBruijn64tab), ("internal/strconv.uint64pow10", laid_internal_strconv_uint64pow10), ("unicode/utf8.acceptRanges", laid_unicode_utf8_acceptRanges), ("unicode/utf8.first", laid_unicode_utf8_first)], narrowed := true }
def ModmergeSettleUptoSaid : Prop := modmergeSettleUptoRow.holds Tryz.pinned (OpenSpec.upto modmergeSettleSpec)

/-- 'cordwoodlaw33.ModmergeFewer', WHERE WHAT IT READS IS OF BULK AT MOST 1048576: true; the input reads as it did. -/
def modmergeFewerUptoRow : OpenClaim := { program := "ytlgnedahnaojlaagreatdoor", sum := "6393e10779785b18442d19f28e107dfb8899f6adc04c4ee86d6f7c2fc2130212", func := "cordwood/cordwoodlaw33.ModmergeFewer", spec := "modmergeFewer", inPlace := ["internal/bytealg.IndexByteString", "internal/bytealg.IndexString"], unfollowed := true, recurses := true, named := ["unicode/utf8.first", "unicode/utf8.acceptRanges", "internal/bytealg.MaxLen", "internal/strconv.uint64pow10", "math/bits.deBruijn32tab", "math/bits.deBruijn64tab"], loops := true, apart := false, laid := [("math/bits.deBruijn32tab", laid_math_bits_deBruijn32tab), ("math/bits.deBruijn64tab", laid_math_bits_deBruijn64tab), ("internal/strconv.uint64pow10", laid_internal_strconv_uint64pow10), ("unicode/utf8.acceptRanges", laid_unicode_utf8_acceptRanges), ("unicode/utf8.first", laid_unicode_utf8_first)], narrowed := true }
def ModmergeFewerUptoSaid : Prop := modmergeFewerUptoRow.holds Tryz.pinned (OpenSpec.upto modmergeFewerSpec)

/-- 'cordwoodlaw33.ModmergeRemoved', WHERE WHAT IT READS IS OF BULK AT MOST 1048576: true; the input reads as it did. -/
def modmergeRemovedUptoRow : OpenClaim := { program := "ytlgnedahnaojlaagreatdoor", sum := "6393e10779785b18442d19f28e107dfb8899f6adc04c4ee86d6f7c2fc2130212", func := "cordwood/cordwoodlaw33.ModmergeRemoved", spec := "modmergeRemoved", inPlace := ["internal/bytealg.IndexByteString", "internal/bytealg.IndexString"], unfollowed := true, recurses := true, named := ["unicode/utf8.first", "unicode/utf8.acceptRanges", "internal/bytealg.MaxLen", "internal/strconv.uint64pow10", "math/bits.deBruijn32tab", "math/bits.deBruijn64tab"], loops := true, apart := false, laid := [("math/bits.deBruijn32tab", laid_math_bits_deBruijn32tab), ("math/bits.deBruijn64tab", laid_math_bits_deBruijn64tab), ("internal/strconv.uint64pow10", laid_internal_strconv_uint64pow10), ("unicode/utf8.acceptRanges", laid_unicode_utf8_acceptRanges), ("unicode/utf8.first", laid_unicode_utf8_first)], narrowed := true }
def ModmergeRemovedUptoSaid : Prop := modmergeRemovedUptoRow.holds Tryz.pinned (OpenSpec.upto modmergeRemovedSpec)

end Rows
end Go.Proofs.YtlgnedahnaojlaaGreatDoor
