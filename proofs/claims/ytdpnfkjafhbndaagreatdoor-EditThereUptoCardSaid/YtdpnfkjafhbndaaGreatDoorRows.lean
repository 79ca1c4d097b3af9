/-
  NARROWER THAN 'FOR EVERY INPUT', by the rows' own cells (each row's printed sentence says how): EditApply: loops, laid · EditSteps: loops, laid · CommuteOrder: loops, laid · CommutePicks: loops, laid · EditDiff: loops, laid · EditThere: loops, laid · EditTwice: loops, laid · CommuteDrops: loops, laid · CommuteMoves: loops, laid · ModmergeSettle: loops, laid · ModmergeRemoved: loops, laid.
  DERIVED. THE GIVEN ROWS OF THIS SEAT. 11 by the template 'for every input the law returns true; each argument reads behind the call as it read before'; 0 by the template 'total and deterministic' (their statements: YtdpnfkjafhbndaaGreatDoorTotals.lean).
  GIVEN WITH THE SEED: the statements are not yours to turn. If you find one false, say at which input.
  Laid BY PROGRAM, IN A SANDBOX (cutbox-rows.mjs): the forced cells as the released guide's own fill.sh prints them over the translation 4f0e30c136db305b… (all of the seat's roots in one cut). By AI agents, Wed Nov 11 2026. No macro, syntax, notation, axiom, sorry.
-/
import Derived.Test.YtdpnfkjafhbndaaGreatDoorChecked
import GoSem.PinnedTables
import GoSem.Claim
import GoSem.ClaimJoined
import GoSem.ClaimMapViews
import Derived.JoinedTies
import Derived.KernelRfl
namespace Go.Proofs.YtdpnfkjafhbndaaGreatDoor
/- THE CELL 'sum', in the pinned program and in every row, IS THE sha256 OF THE DUMP (.gsa) THAT YtdpnfkjafhbndaaGreatDoorProg.lean LOADS. Nothing in Lean hashes anything: it is a label: what it is worth is what the hold of that sum in a sandbox is worth. -/
noncomputable def Tryz.pinned : Pinned := { name := "ytdpnfkjafhbndaagreatdoor", sum := "4f0e30c136db305b7b0d37253ca2c62d8438bf2debacea3035f5e541c3ba0a82", checked := Tryz.checked }
namespace Rows
def none {H : Type} : Left H := { results := [], args := [] }

/- WHAT THE LISTED PACKAGE-LEVEL VARIABLES READ AS WHEN THE CALL BEGINS. Each datum BY PROGRAM (the guide's laid-datum.mjs) off the statement by which the dump's own 'gosem.cut.vars' lays the variable. In a bare row this is a premise. The card (YtdpnfkjafhbndaaGreatDoorCards.lean) ties it to the program's text. -/
def laid_unicode_utf8_acceptRanges {H : Type} : DataW H := .agg [.agg [.lit (.int .u8 128), .lit (.int .u8 191)], .agg [.lit (.int .u8 160), .lit (.int .u8 191)], .agg [.lit (.int .u8 128), .lit (.int .u8 159)], .agg [.lit (.int .u8 144), .lit (.int .u8 191)], .agg [.lit (.int .u8 128), .lit (.int .u8 143)], .agg [.lit (.int .u8 0), .lit (.int .u8 0)], .agg [.lit (.int .u8 0), .lit (.int .u8 0)], .agg [.lit (.int .u8 0), .lit (.int .u8 0)], .agg [.lit (.int .u8 0), .lit (.int .u8 0)], .agg [.lit (.int .u8 0), .lit (.int .u8 0)], .agg [.lit (.int .u8 0), .lit (.int .u8 0)], .agg [.lit (.int .u8 0), .lit (.int .u8 0)], .agg [.lit (.int .u8 0), .lit (.int .u8 0)], .agg [.lit (.int .u8 0), .lit (.int .u8 0)], .agg [.lit (.int .u8 0), .lit (.int .u8 0)], .agg [.lit (.int .u8 0), .lit (.int .u8 0)]]
/-- One of Go's own tables, pinned by name: the form's constant. -/
def laid_unicode_utf8_first : DataW Unit := Go.Pinned.utf8First
def laid_math_bits_deBruijn32tab {H : Type} : DataW H := .agg [.lit (.int .u8 0), .lit (.int .u8 1), .lit (.int .u8 28), .lit (.int .u8 2), .lit (.int .u8 29), .lit (.int .u8 14), .lit (.int .u8 24), .lit (.int .u8 3), .lit (.int .u8 30), .lit (.int .u8 22), .lit (.int .u8 20), .lit (.int .u8 15), .lit (.int .u8 25), .lit (.int .u8 17), .lit (.int .u8 4), .lit (.int .u8 8), .lit (.int .u8 31), .lit (.int .u8 27), .lit (.int .u8 13), .lit (.int .u8 23), .lit (.int .u8 21), .lit (.int .u8 19), .lit (.int .u8 16), .lit (.int .u8 7), .lit (.int .u8 26), .lit (.int .u8 12), .lit (.int .u8 18), .lit (.int .u8 6), .lit (.int .u8 11), .lit (.int .u8 5), .lit (.int .u8 10), .lit (.int .u8 9)]
def laid_math_bits_deBruijn64tab {H : Type} : DataW H := .agg [.lit (.int .u8 0), .lit (.int .u8 1), .lit (.int .u8 56), .lit (.int .u8 2), .lit (.int .u8 57), .lit (.int .u8 49), .lit (.int .u8 28), .lit (.int .u8 3), .lit (.int .u8 61), .lit (.int .u8 58), .lit (.int .u8 42), .lit (.int .u8 50), .lit (.int .u8 38), .lit (.int .u8 29), .lit (.int .u8 17), .lit (.int .u8 4), .lit (.int .u8 62), .lit (.int .u8 47), .lit (.int .u8 59), .lit (.int .u8 36), .lit (.int .u8 45), .lit (.int .u8 43), .lit (.int .u8 51), .lit (.int .u8 22), .lit (.int .u8 53), .lit (.int .u8 39), .lit (.int .u8 33), .lit (.int .u8 30), .lit (.int .u8 24), .lit (.int .u8 18), .lit (.int .u8 12), .lit (.int .u8 5), .lit (.int .u8 63), .lit (.int .u8 55), .lit (.int .u8 48), .lit (.int .u8 27), .lit (.int .u8 60), .lit (.int .u8 41), .lit (.int .u8 37), .lit (.int .u8 16), .lit (.int .u8 46), .lit (.int .u8 35), .lit (.int .u8 44), .lit (.int .u8 21), .lit (.int .u8 52), .lit (.int .u8 32), .lit (.int .u8 23), .lit (.int .u8 11), .lit (.int .u8 54), .lit (.int .u8 26), .lit (.int .u8 40), .lit (.int .u8 15), .lit (.int .u8 34), .lit (.int .u8 20), .lit (.int .u8 31), .lit (.int .u8 10), .lit (.int .u8 25), .lit (.int .u8 14), .lit (.int .u8 19), .lit (.int .u8 9), .lit (.int .u8 13), .lit (.int .u8 8), .lit (.int .u8 7), .lit (.int .u8 6)]
def laid_internal_strconv_uint64pow10 {H : Type} : DataW H := .agg [.lit (.int .u64 1), .lit (.int .u64 10), .lit (.int .u64 100), .lit (.int .u64 1000), .lit (.int .u64 10000), .lit (.int .u64 100000), .lit (.int .u64 1000000), .lit (.int .u64 10000000), .lit (.int .u64 100000000), .lit (.int .u64 1000000000), .lit (.int .u64 10000000000), .lit (.int .u64 100000000000), .lit (.int .u64 1000000000000), .lit (.int .u64 10000000000000), .lit (.int .u64 100000000000000), .lit (.int .u64 1000000000000000), .lit (.int .u64 10000000000000000), .lit (.int .u64 100000000000000000), .lit (.int .u64 1000000000000000000), .lit (.int .u64 10000000000000000000)]

/-- 'cordwoodlaw34.EditApply': WHATEVER THE INPUT: true; the input reads as it did. -/
def editApplySpec : ChangeSpec := { name := "editApply", fn := fun _ => fun
  | [d1, d2] => { results := [.lit (.bool true)], args := [d1, d2] }
  | _ => none }
def editApplyRow : OpenClaim := { program := "ytdpnfkjafhbndaagreatdoor", sum := "4f0e30c136db305b7b0d37253ca2c62d8438bf2debacea3035f5e541c3ba0a82", func := "cordwood/cordwoodlaw34.EditApply", spec := "editApply", inPlace := ["internal/bytealg.IndexByteString", "internal/bytealg.IndexString", "slices.overlaps[string]", "slices.overlaps[cordwood/api.Decl]", "internal/bytealg.abigen_runtime_cmpstring", "slices.overlaps[cordwood/api.Module]"], unfollowed := true, recurses := true, named := ["unicode/utf8.first", "unicode/utf8.acceptRanges", "internal/bytealg.MaxLen"], loops := true, apart := false, laid := [("unicode/utf8.acceptRanges", laid_unicode_utf8_acceptRanges), ("unicode/utf8.first", laid_unicode_utf8_first)] }
def EditApplySaid : Prop := editApplyRow.holds Tryz.pinned (OpenSpec.ofChange editApplySpec)

/-- ITS FALSE NEIGHBOUR: 'it returns false'. Refute it at one input. -/
def editApplyWrong : ChangeSpec := { name := "editApply", fn := fun _ => fun
  | [d1, d2] => { results := [.lit (.bool false)], args := [d1, d2] }
  | _ => none }
def EditApplyWrongFalsely : Prop := editApplyRow.holds Tryz.pinned (OpenSpec.ofChange editApplyWrong)

/-- 'cordwoodlaw34.EditSteps': WHATEVER THE INPUT: true; the input reads as it did. -/
def editStepsSpec : ChangeSpec := { name := "editSteps", fn := fun _ => fun
  | [d1, d2, d3] => { results := [.lit (.bool true)], args := [d1, d2, d3] }
  | _ => none }
def editStepsRow : OpenClaim := { program := "ytdpnfkjafhbndaagreatdoor", sum := "4f0e30c136db305b7b0d37253ca2c62d8438bf2debacea3035f5e541c3ba0a82", func := "cordwood/cordwoodlaw34.EditSteps", spec := "editSteps", inPlace := ["internal/bytealg.IndexByteString", "internal/bytealg.IndexString", "slices.overlaps[string]", "slices.overlaps[cordwood/api.Decl]", "internal/bytealg.abigen_runtime_cmpstring", "slices.overlaps[cordwood/api.Module]"], unfollowed := true, recurses := true, named := ["unicode/utf8.first", "unicode/utf8.acceptRanges", "internal/bytealg.MaxLen"], loops := true, apart := false, laid := [("unicode/utf8.acceptRanges", laid_unicode_utf8_acceptRanges), ("unicode/utf8.first", laid_unicode_utf8_first)] }
def EditStepsSaid : Prop := editStepsRow.holds Tryz.pinned (OpenSpec.ofChange editStepsSpec)

/-- ITS FALSE NEIGHBOUR: 'it returns false'. Refute it at one input. -/
def editStepsWrong : ChangeSpec := { name := "editSteps", fn := fun _ => fun
  | [d1, d2, d3] => { results := [.lit (.bool false)], args := [d1, d2, d3] }
  | _ => none }
def EditStepsWrongFalsely : Prop := editStepsRow.holds Tryz.pinned (OpenSpec.ofChange editStepsWrong)

/-- 'cordwoodlaw35.CommuteOrder': WHATEVER THE INPUT: true; the input reads as it did. -/
def commuteOrderSpec : ChangeSpec := { name := "commuteOrder", fn := fun _ => fun
  | [d1, d2, d3] => { results := [.lit (.bool true)], args := [d1, d2, d3] }
  | _ => none }
def commuteOrderRow : OpenClaim := { program := "ytdpnfkjafhbndaagreatdoor", sum := "4f0e30c136db305b7b0d37253ca2c62d8438bf2debacea3035f5e541c3ba0a82", func := "cordwood/cordwoodlaw35.CommuteOrder", spec := "commuteOrder", inPlace := ["internal/bytealg.IndexByteString", "internal/bytealg.IndexString", "slices.overlaps[string]", "slices.overlaps[cordwood/api.Decl]", "internal/bytealg.abigen_runtime_cmpstring", "slices.overlaps[cordwood/api.Module]"], unfollowed := true, recurses := true, named := ["unicode/utf8.first", "unicode/utf8.acceptRanges", "internal/bytealg.MaxLen"], loops := true, apart := false, laid := [("unicode/utf8.acceptRanges", laid_unicode_utf8_acceptRanges), ("unicode/utf8.first", laid_unicode_utf8_first)] }
def CommuteOrderSaid : Prop := commuteOrderRow.holds Tryz.pinned (OpenSpec.ofChange commuteOrderSpec)

/-- ITS FALSE NEIGHBOUR: 'it returns false'. Refute it at one input. -/
def commuteOrderWrong : ChangeSpec := { name := "commuteOrder", fn := fun _ => fun
  | [d1, d2, d3] => { results := [.lit (.bool false)], args := [d1, d2, d3] }
  | _ => none }
def CommuteOrderWrongFalsely : Prop := commuteOrderRow.holds Tryz.pinned (OpenSpec.ofChange commuteOrderWrong)

/-- 'cordwoodlaw35.CommutePicks': WHATEVER THE INPUT: true; the input reads as it did. -/
def commutePicksSpec : ChangeSpec := { name := "commutePicks", fn := fun _ => fun
  | [d1, d2, d3] => { results := [.lit (.bool true)], args := [d1, d2, d3] }
  | _ => none }
def commutePicksRow : OpenClaim := { program := "ytdpnfkjafhbndaagreatdoor", sum := "4f0e30c136db305b7b0d37253ca2c62d8438bf2debacea3035f5e541c3ba0a82", func := "cordwood/cordwoodlaw35.CommutePicks", spec := "commutePicks", inPlace := ["internal/bytealg.IndexByteString", "internal/bytealg.IndexString", "slices.overlaps[string]", "slices.overlaps[cordwood/api.Decl]", "internal/bytealg.abigen_runtime_cmpstring", "slices.overlaps[cordwood/api.Module]"], unfollowed := true, recurses := true, named := ["unicode/utf8.first", "unicode/utf8.acceptRanges", "internal/bytealg.MaxLen"], loops := true, apart := false, laid := [("unicode/utf8.acceptRanges", laid_unicode_utf8_acceptRanges), ("unicode/utf8.first", laid_unicode_utf8_first)] }
def CommutePicksSaid : Prop := commutePicksRow.holds Tryz.pinned (OpenSpec.ofChange commutePicksSpec)

/-- ITS FALSE NEIGHBOUR: 'it returns false'. Refute it at one input. -/
def commutePicksWrong : ChangeSpec := { name := "commutePicks", fn := fun _ => fun
  | [d1, d2, d3] => { results := [.lit (.bool false)], args := [d1, d2, d3] }
  | _ => none }
def CommutePicksWrongFalsely : Prop := commutePicksRow.holds Tryz.pinned (OpenSpec.ofChange commutePicksWrong)

/-- 'cordwoodlaw34.EditDiff': WHATEVER THE INPUT: true; the input reads as it did. -/
def editDiffSpec : ChangeSpec := { name := "editDiff", fn := fun _ => fun
  | [d1, d2, d3] => { results := [.lit (.bool true)], args := [d1, d2, d3] }
  | _ => none }
def editDiffRow : OpenClaim := { program := "ytdpnfkjafhbndaagreatdoor", sum := "4f0e30c136db305b7b0d37253ca2c62d8438bf2debacea3035f5e541c3ba0a82", func := "cordwood/cordwoodlaw34.EditDiff", spec := "editDiff", inPlace := ["internal/bytealg.IndexByteString", "internal/bytealg.IndexString", "slices.overlaps[string]", "slices.overlaps[cordwood/api.Decl]", "internal/bytealg.abigen_runtime_cmpstring", "slices.overlaps[cordwood/api.Module]"], unfollowed := true, recurses := true, named := ["unicode/utf8.first", "unicode/utf8.acceptRanges", "internal/bytealg.MaxLen"], loops := true, apart := false, laid := [("unicode/utf8.acceptRanges", laid_unicode_utf8_acceptRanges), ("unicode/utf8.first", laid_unicode_utf8_first)] }
def EditDiffSaid : Prop := editDiffRow.holds Tryz.pinned (OpenSpec.ofChange editDiffSpec)

/-- ITS FALSE NEIGHBOUR: 'it returns false'. Refute it at one input. -/
def editDiffWrong : ChangeSpec := { name := "editDiff", fn := fun _ => fun
  | [d1, d2, d3] => { results := [.lit (.bool false)], args := [d1, d2, d3] }
  | _ => none }
def EditDiffWrongFalsely : Prop := editDiffRow.holds Tryz.pinned (OpenSpec.ofChange editDiffWrong)

/-- 'cordwoodlaw34.EditThere': WHATEVER THE INPUT: true; the input reads as it did. -/
def editThereSpec : ChangeSpec := { name := "editThere", fn := fun _ => fun
  | [d1, d2] => { results := [.lit (.bool true)], args := [d1, d2] }
  | _ => none }
def editThereRow : OpenClaim := { program := "ytdpnfkjafhbndaagreatdoor", sum := "4f0e30c136db305b7b0d37253ca2c62d8438bf2debacea3035f5e541c3ba0a82", func := "cordwood/cordwoodlaw34.EditThere", spec := "editThere", inPlace := ["internal/bytealg.IndexByteString", "internal/bytealg.IndexString", "slices.overlaps[string]", "slices.overlaps[cordwood/api.Decl]", "internal/bytealg.abigen_runtime_cmpstring", "slices.overlaps[cordwood/api.Module]"], unfollowed := true, recurses := true, named := ["unicode/utf8.first", "unicode/utf8.acceptRanges", "internal/bytealg.MaxLen"], loops := true, apart := false, laid := [("unicode/utf8.acceptRanges", laid_unicode_utf8_acceptRanges), ("unicode/utf8.first", laid_unicode_utf8_first)] }
def EditThereSaid : Prop := editThereRow.holds Tryz.pinned (OpenSpec.ofChange editThereSpec)

/-- ITS FALSE NEIGHBOUR: 'it returns false'. Refute it at one input. -/
def editThereWrong : ChangeSpec := { name := "editThere", fn := fun _ => fun
  | [d1, d2] => { results := [.lit (.bool false)], args := [d1, d2] }
  | _ => none }
def EditThereWrongFalsely : Prop := editThereRow.holds Tryz.pinned (OpenSpec.ofChange editThereWrong)

/-- 'cordwoodlaw34.EditTwice': WHATEVER THE INPUT: true; the input reads as it did. -/
def editTwiceSpec : ChangeSpec := { name := "editTwice", fn := fun _ => fun
  | [d1, d2] => { results := [.lit (.bool true)], args := [d1, d2] }
  | _ => none }
def editTwiceRow : OpenClaim := { program := "ytdpnfkjafhbndaagreatdoor", sum := "4f0e30c136db305b7b0d37253ca2c62d8438bf2debacea3035f5e541c3ba0a82", func := "cordwood/cordwoodlaw34.EditTwice", spec := "editTwice", inPlace := ["internal/bytealg.IndexByteString", "internal/bytealg.IndexString", "slices.overlaps[string]", "slices.overlaps[cordwood/api.Decl]", "internal/bytealg.abigen_runtime_cmpstring", "slices.overlaps[cordwood/api.Module]"], unfollowed := true, recurses := true, named := ["unicode/utf8.first", "unicode/utf8.acceptRanges", "internal/bytealg.MaxLen"], loops := true, apart := false, laid := [("unicode/utf8.acceptRanges", laid_unicode_utf8_acceptRanges), ("unicode/utf8.first", laid_unicode_utf8_first)] }
def EditTwiceSaid : Prop := editTwiceRow.holds Tryz.pinned (OpenSpec.ofChange editTwiceSpec)

/-- ITS FALSE NEIGHBOUR: 'it returns false'. Refute it at one input. -/
def editTwiceWrong : ChangeSpec := { name := "editTwice", fn := fun _ => fun
  | [d1, d2] => { results := [.lit (.bool false)], args := [d1, d2] }
  | _ => none }
def EditTwiceWrongFalsely : Prop := editTwiceRow.holds Tryz.pinned (OpenSpec.ofChange editTwiceWrong)

/-- 'cordwoodlaw35.CommuteDrops': WHATEVER THE INPUT: true; the input reads as it did. -/
def commuteDropsSpec : ChangeSpec := { name := "commuteDrops", fn := fun _ => fun
  | [d1, d2, d3] => { results := [.lit (.bool true)], args := [d1, d2, d3] }
  | _ => none }
def commuteDropsRow : OpenClaim := { program := "ytdpnfkjafhbndaagreatdoor", sum := "4f0e30c136db305b7b0d37253ca2c62d8438bf2debacea3035f5e541c3ba0a82", func := "cordwood/cordwoodlaw35.CommuteDrops", spec := "commuteDrops", inPlace := ["internal/bytealg.IndexByteString", "internal/bytealg.IndexString", "slices.overlaps[string]", "slices.overlaps[cordwood/api.Decl]", "internal/bytealg.abigen_runtime_cmpstring", "slices.overlaps[cordwood/api.Module]"], unfollowed := true, recurses := true, named := ["unicode/utf8.first", "unicode/utf8.acceptRanges", "internal/bytealg.MaxLen"], loops := true, apart := false, laid := [("unicode/utf8.acceptRanges", laid_unicode_utf8_acceptRanges), ("unicode/utf8.first", laid_unicode_utf8_first)] }
def CommuteDropsSaid : Prop := commuteDropsRow.holds Tryz.pinned (OpenSpec.ofChange commuteDropsSpec)

/-- ITS FALSE NEIGHBOUR: 'it returns false'. Refute it at one input. -/
def commuteDropsWrong : ChangeSpec := { name := "commuteDrops", fn := fun _ => fun
  | [d1, d2, d3] => { results := [.lit (.bool false)], args := [d1, d2, d3] }
  | _ => none }
def CommuteDropsWrongFalsely : Prop := commuteDropsRow.holds Tryz.pinned (OpenSpec.ofChange commuteDropsWrong)

/-- 'cordwoodlaw35.CommuteMoves': WHATEVER THE INPUT: true; the input reads as it did. -/
def commuteMovesSpec : ChangeSpec := { name := "commuteMoves", fn := fun _ => fun
  | [d1, d2, d3, d4] => { results := [.lit (.bool true)], args := [d1, d2, d3, d4] }
  | _ => none }
def commuteMovesRow : OpenClaim := { program := "ytdpnfkjafhbndaagreatdoor", sum := "4f0e30c136db305b7b0d37253ca2c62d8438bf2debacea3035f5e541c3ba0a82", func := "cordwood/cordwoodlaw35.CommuteMoves", spec := "commuteMoves", inPlace := ["internal/bytealg.IndexByteString", "internal/bytealg.IndexString", "slices.overlaps[string]", "slices.overlaps[cordwood/api.Decl]", "internal/bytealg.abigen_runtime_cmpstring", "slices.overlaps[cordwood/api.Module]"], unfollowed := true, recurses := true, named := ["unicode/utf8.first", "unicode/utf8.acceptRanges", "internal/bytealg.MaxLen"], loops := true, apart := false, laid := [("unicode/utf8.acceptRanges", laid_unicode_utf8_acceptRanges), ("unicode/utf8.first", laid_unicode_utf8_first)] }
def CommuteMovesSaid : Prop := commuteMovesRow.holds Tryz.pinned (OpenSpec.ofChange commuteMovesSpec)

/-- ITS FALSE NEIGHBOUR: 'it returns false'. Refute it at one input. -/
def commuteMovesWrong : ChangeSpec := { name := "commuteMoves", fn := fun _ => fun
  | [d1, d2, d3, d4] => { results := [.lit (.bool false)], args := [d1, d2, d3, d4] }
  | _ => none }
def CommuteMovesWrongFalsely : Prop := commuteMovesRow.holds Tryz.pinned (OpenSpec.ofChange commuteMovesWrong)

/-- 'cordwoodlaw33.ModmergeSettle': WHATEVER THE INPUT: true; the input reads as it did. -/
def modmergeSettleSpec : ChangeSpec := { name := "modmergeSettle", fn := fun _ => fun
  | [d1, d2, d3] => { results := [.lit (.bool true)], args := [d1, d2, d3] }
  | _ => none }
def modmergeSettleRow : OpenClaim := { program := "ytdpnfkjafhbndaagreatdoor", sum := "4f0e30c136db305b7b0d37253ca2c62d8438bf2debacea3035f5e541c3ba0a82", func := "cordwood/cordwoodlaw33.ModmergeSettle", spec := "modmergeSettle", inPlace := ["internal/bytealg.IndexByteString", "internal/bytealg.IndexString"], unfollowed := true, recurses := true, named := ["unicode/utf8.first", "unicode/utf8.acceptRanges", "internal/bytealg.MaxLen", "internal/strconv.uint64pow10", "math/bits.deBruijn32tab", "math/bits.deBruijn64tab"], loops := true, apart := false, laid := [("math/bits.deBruijn32tab", laid_math_bits_deBruijn32tab), ("math/bits.deBruijn64tab", laid_math_bits_deBruijn64tab), ("internal/strconv.uint64pow10", laid_internal_strconv_uint64pow10), ("unicode/utf8.acceptRanges", laid_unicode_utf8_acceptRanges), ("unicode/utf8.first", laid_unicode_utf8_first)] }
def ModmergeSettleSaid : Prop := modmergeSettleRow.holds Tryz.pinned (OpenSpec.ofChange modmergeSettleSpec)

/-- ITS FALSE NEIGHBOUR: 'it returns false'. Refute it at one input. -/
def modmergeSettleWrong : ChangeSpec := { name := "modmergeSettle", fn := fun _ => fun
  | [d1, d2, d3] => { results := [.lit (.bool false)], args := [d1, d2, d3] }
  | _ => none }
def ModmergeSettleWrongFalsely : Prop := modmergeSettleRow.holds Tryz.pinned (OpenSpec.ofChange modmergeSettleWrong)

/-- 'cordwoodlaw33.ModmergeRemoved': WHATEVER THE INPUT: true; the input reads as it did. -/
def modmergeRemovedSpec : ChangeSpec := { name := "modmergeRemoved", fn := fun _ => fun
  | [d1, d2, d3, d4] => { results := [.lit (.bool true)], args := [d1, d2, d3, d4] }
  | _ => none }
def modmergeRemovedRow : OpenClaim := { program := "ytdpnfkjafhbndaagreatdoor", sum := "4f0e30c136db305b7b0d37253ca2c62d8438bf2debacea3035f5e541c3ba0a82", func := "cordwood/cordwoodlaw33.ModmergeRemoved", spec := "modmergeRemoved", inPlace := ["internal/bytealg.IndexByteString", "internal/bytealg.IndexString"], unfollowed := true, recurses := true, named := ["unicode/utf8.first", "unicode/utf8.acceptRanges", "internal/bytealg.MaxLen", "internal/strconv.uint64pow10", "math/bits.deBruijn32tab", "math/bits.deBruijn64tab"], loops := true, apart := false, laid := [("math/bits.deBruijn32tab", laid_math_bits_deBruijn32tab), ("math/bits.deBruijn64tab", laid_math_bits_deBruijn64tab), ("internal/strconv.uint64pow10", laid_internal_strconv_uint64pow10), ("unicode/utf8.acceptRanges", laid_unicode_utf8_acceptRanges), ("unicode/utf8.first", laid_unicode_utf8_first)] }
def ModmergeRemovedSaid : Prop := modmergeRemovedRow.holds Tryz.pinned (OpenSpec.ofChange modmergeRemovedSpec)

/-- ITS FALSE NEIGHBOUR: 'it returns false'. Refute it at one input. -/
def modmergeRemovedWrong : ChangeSpec := { name := "modmergeRemoved", fn := fun _ => fun
  | [d1, d2, d3, d4] => { results := [.lit (.bool false)], args := [d1, d2, d3, d4] }
  | _ => none }
def ModmergeRemovedWrongFalsely : Prop := modmergeRemovedRow.holds Tryz.pinned (OpenSpec.ofChange modmergeRemovedWrong)

/- THE SECOND FORM. 'bulk': how many values and letters a reading holds, each counted each time it is reached (what is shared counts as often as it is met; a slice's spare places count too). A statement '..UptoSaid' is the law's where the arguments, and the package variables that the reading takes, are together of bulk at most 1048576: NARROWER than '..Said'. Prove '..Said' where nothing that the law and all that it calls make is longer than what came in: it says more and counts as full. Else prove '..UptoSaid'. A law counts once. -/
mutual
def uptoBulk {H : Type} : DataW H → Nat
  | .lit (.string bytes) => bytes.length + 1
  | .lit _ => 1
  | .nil => 1
  | .ptr d => uptoBulk d + 1
  | .slice elems spare => uptoBulkAll elems + uptoBulkAll spare + 1
  | .agg parts => uptoBulkAll parts + 1
  | .iface _ d => uptoBulk d + 1
  | .map entries => uptoBulkEntries entries + 1
  | .held _ => 1
def uptoBulkAll {H : Type} : List (DataW H) → Nat
  | [] => 0
  | d :: r => uptoBulk d + uptoBulkAll r
def uptoBulkEntries {H : Type} : List (Lit × DataW H) → Nat
  | [] => 0
  | x :: r => uptoBulkEntry x + uptoBulkEntries r
def uptoBulkEntry {H : Type} : Lit × DataW H → Nat
  | (.string bytes, d) => bytes.length + uptoBulk d + 1
  | (_, d) => uptoBulk d + 1
 end
def uptoSmall : (H : Type) → List (DataW H) → Bool := fun _ ds => decide (uptoBulkAll ds ≤ 1048576)
def OpenSpec.upto (s : _root_.Go.ChangeSpec) : _root_.Go.OpenSpec := { _root_.Go.OpenSpec.ofChange s with cond := some uptoSmall }

/-- 'cordwoodlaw34.EditApply', WHERE WHAT IT READS IS OF BULK AT MOST 1048576: true; the input reads as it did. -/
def editApplyUptoRow : OpenClaim := { program := "ytdpnfkjafhbndaagreatdoor", sum := "4f0e30c136db305b7b0d37253ca2c62d8438bf2debacea3035f5e541c3ba0a82", func := "cordwood/cordwoodlaw34.EditApply", spec := "editApply", inPlace := ["internal/bytealg.IndexByteString", "internal/bytealg.IndexString", "slices.overlaps[string]", "slices.overlaps[cordwood/api.Decl]", "internal/bytealg.abigen_runtime_cmpstring", "slices.overlaps[cordwood/api.Module]"], unfollowed := true, recurses := true, named := ["unicode/utf8.first", "unicode/utf8.acceptRanges", "internal/bytealg.MaxLen"], loops := true, apart := false, laid := [("unicode/utf8.acceptRanges", laid_unicode_utf8_acceptRanges), ("unicode/utf8.first", laid_unicode_utf8_first)], narrowed := true }
def EditApplyUptoSaid : Prop := editApplyUptoRow.holds Tryz.pinned (OpenSpec.upto editApplySpec)

/-- 'cordwoodlaw34.EditSteps', WHERE WHAT IT READS IS OF BULK AT MOST 1048576: true; the input reads as it did. -/
def editStepsUptoRow : OpenClaim := { program := "ytdpnfkjafhbndaagreatdoor", sum := "4f0e30c136db305b7b0d37253ca2c62d8438bf2debacea3035f5e541c3ba0a82", func := "cordwood/cordwoodlaw34.EditSteps", spec := "editSteps", inPlace := ["internal/bytealg.IndexByteString", "internal/bytealg.IndexString", "slices.overlaps[string]", "slices.overlaps[cordwood/api.Decl]", "internal/bytealg.abigen_runtime_cmpstring", "slices.overlaps[cordwood/api.Module]"], unfollowed := true, recurses := true, named := ["unicode/utf8.first", "unicode/utf8.acceptRanges", "internal/bytealg.MaxLen"], loops := true, apart := false, laid := [("unicode/utf8.acceptRanges", laid_unicode_utf8_acceptRanges), ("unicode/utf8.first", laid_unicode_utf8_first)], narrowed := true }
def EditStepsUptoSaid : Prop := editStepsUptoRow.holds Tryz.pinned (OpenSpec.upto editStepsSpec)

/-- 'cordwoodlaw35.CommuteOrder', WHERE WHAT IT READS IS OF BULK AT MOST 1048576: true; the input reads as it did. -/
def commuteOrderUptoRow : OpenClaim := { program := "ytdpnfkjafhbndaagreatdoor", sum := "4f0e30c136db305b7b0d37253ca2c62d8438bf2debacea3035f5e541c3ba0a82", func := "cordwood/cordwoodlaw35.CommuteOrder", spec := "commuteOrder", inPlace := ["internal/bytealg.IndexByteString", "internal/bytealg.IndexString", "slices.overlaps[string]", "slices.overlaps[cordwood/api.Decl]", "internal/bytealg.abigen_runtime_cmpstring", "slices.overlaps[cordwood/api.Module]"], unfollowed := true, recurses := true, named := ["unicode/utf8.first", "unicode/utf8.acceptRanges", "internal/bytealg.MaxLen"], loops := true, apart := false, laid := [("unicode/utf8.acceptRanges", laid_unicode_utf8_acceptRanges), ("unicode/utf8.first", laid_unicode_utf8_first)], narrowed := true }
def CommuteOrderUptoSaid : Prop := commuteOrderUptoRow.holds Tryz.pinned (OpenSpec.upto commuteOrderSpec)

/-- 'cordwoodlaw35.CommutePicks', WHERE WHAT IT READS IS OF BULK AT MOST 1048576: true; the input reads as it did. -/
def commutePicksUptoRow : OpenClaim := { program := "ytdpnfkjafhbndaagreatdoor", sum := "4f0e30c136db305b7b0d37253ca2c62d8438bf2debacea3035f5e541c3ba0a82", func := "cordwood/cordwoodlaw35.CommutePicks", spec := "commutePicks", inPlace := ["internal/bytealg.IndexByteString", "internal/bytealg.IndexString", "slices.overlaps[string]", "slices.overlaps[cordwood/api.Decl]", "internal/bytealg.abigen_runtime_cmpstring", "slices.overlaps[cordwood/api.Module]"], unfollowed := true, recurses := true, named := ["unicode/utf8.first", "unicode/utf8.acceptRanges", "internal/bytealg.MaxLen"], loops := true, apart := false, laid := [("unicode/utf8.acceptRanges", laid_unicode_utf8_acceptRanges), ("unicode/utf8.first", laid_unicode_utf8_first)], narrowed := true }
def CommutePicksUptoSaid : Prop := commutePicksUptoRow.holds Tryz.pinned (OpenSpec.upto commutePicksSpec)

/-- 'cordwoodlaw34.EditDiff', WHERE WHAT IT READS IS OF BULK AT MOST 1048576: true; the input reads as it did. -/
def editDiffUptoRow : OpenClaim := { program := "ytdpnfkjafhbndaagreatdoor", sum := "4f0e30c136db305b7b0d37253ca2c62d8438bf2debacea3035f5e541c3ba0a82", func := "cordwood/cordwoodlaw34.EditDiff", spec := "editDiff", inPlace := ["internal/bytealg.IndexByteString", "internal/bytealg.IndexString", "slices.overlaps[string]", "slices.overlaps[cordwood/api.Decl]", "internal/bytealg.abigen_runtime_cmpstring", "slices.overlaps[cordwood/api.Module]"], unfollowed := true, recurses := true, named := ["unicode/utf8.first", "unicode/utf8.acceptRanges", "internal/bytealg.MaxLen"], loops := true, apart := false, laid := [("unicode/utf8.acceptRanges", laid_unicode_utf8_acceptRanges), ("unicode/utf8.first", laid_unicode_utf8_first)], narrowed := true }
def EditDiffUptoSaid : Prop := editDiffUptoRow.holds Tryz.pinned (OpenSpec.upto editDiffSpec)

/-- 'cordwoodlaw34.EditThere', WHERE WHAT IT READS IS OF BULK AT MOST 1048576: true; the input reads as it did. -/
def editThereUptoRow : OpenClaim := { program := "ytdpnfkjafhbndaagreatdoor", sum := "4f0e30c136db305b7b0d37253ca2c62d8438bf2debacea3035f5e541c3ba0a82", func := "cordwood/cordwoodlaw34.EditThere", spec := "editThere", inPlace := ["internal/bytealg.IndexByteString", "internal/bytealg.IndexString", "slices.overlaps[string]", "slices.overlaps[cordwood/api.Decl]", "internal/bytealg.abigen_runtime_cmpstring", "slices.overlaps[cordwood/api.Module]"], unfollowed := true, recurses := true, named := ["unicode/utf8.first", "unicode/utf8.acceptRanges", "internal/bytealg.MaxLen"], loops := true, apart := false, laid := [("unicode/utf8.acceptRanges", laid_unicode_utf8_acceptRanges), ("unicode/utf8.first", laid_unicode_utf8_first)], narrowed := true }
def EditThereUptoSaid : Prop := editThereUptoRow.holds Tryz.pinned (OpenSpec.upto editThereSpec)

/-- 'cordwoodlaw34.EditTwice', WHERE WHAT IT READS IS OF BULK AT MOST 1048576: true; the input reads as it did. -/
def editTwiceUptoRow : OpenClaim := { program := "ytdpnfkjafhbndaagreatdoor", sum := "4f0e30c136db305b7b0d37253ca2c62d8438bf2debacea3035f5e541c3ba0a82", func := "cordwood/cordwoodlaw34.EditTwice", spec := "editTwice", inPlace := ["internal/bytealg.IndexByteString", "internal/bytealg.IndexString", "slices.overlaps[string]", "slices.overlaps[cordwood/api.Decl]", "internal/bytealg.abigen_runtime_cmpstring", "slices.overlaps[cordwood/api.Module]"], unfollowed := true, recurses := true, named := ["unicode/utf8.first", "unicode/utf8.acceptRanges", "internal/bytealg.MaxLen"], loops := true, apart := false, laid := [("unicode/utf8.acceptRanges", laid_unicode_utf8_acceptRanges), ("unicode/utf8.first", laid_unicode_utf8_first)], narrowed := true }
def EditTwiceUptoSaid : Prop := editTwiceUptoRow.holds Tryz.pinned (OpenSpec.upto editTwiceSpec)

/-- 'cordwoodlaw35.CommuteDrops', WHERE WHAT IT READS IS OF BULK AT MOST 1048576: true; the input reads as it did. -/
def commuteDropsUptoRow : OpenClaim := { program := "ytdpnfkjafhbndaagreatdoor", sum := "4f0e30c136db305b7b0d37253ca2c62d8438bf2debacea3035f5e541c3ba0a82", func := "cordwood/cordwoodlaw35.CommuteDrops", spec := "commuteDrops", inPlace := ["internal/bytealg.IndexByteString", "internal/bytealg.IndexString", "slices.overlaps[string]", "slices.overlaps[cordwood/api.Decl]", "internal/bytealg.abigen_runtime_cmpstring", "slices.overlaps[cordwood/api.Module]"], unfollowed := true, recurses := true, named := ["unicode/utf8.first", "unicode/utf8.acceptRanges", "internal/bytealg.MaxLen"], loops := true, apart := false, laid := [("unicode/utf8.acceptRanges", laid_unicode_utf8_acceptRanges), ("unicode/utf8.first", laid_unicode_utf8_first)], narrowed := true }
def CommuteDropsUptoSaid : Prop := commuteDropsUptoRow.holds Tryz.pinned (OpenSpec.upto commuteDropsSpec)

/-- 'cordwoodlaw35.CommuteMoves', WHERE WHAT IT READS IS OF BULK AT MOST 1048576: true; the input reads as it did. -/
def commuteMovesUptoRow : OpenClaim := { program := "ytdpnfkjafhbndaagreatdoor", sum := "4f0e30c136db305b7b0d37253ca2c62d8438bf2debacea3035f5e541c3ba0a82", func := "cordwood/cordwoodlaw35.CommuteMoves", spec := "commuteMoves", inPlace := ["internal/bytealg.IndexByteString", "internal/bytealg.IndexString", "slices.overlaps[string]", "slices.overlaps[cordwood/api.Decl]", "internal/bytealg.abigen_runtime_cmpstring", "slices.overlaps[cordwood/api.Module]"], unfollowed := true, recurses := true, named := ["unicode/utf8.first", "unicode/utf8.acceptRanges", "internal/bytealg.MaxLen"], loops := true, apart := false, laid := [("unicode/utf8.acceptRanges", laid_unicode_utf8_acceptRanges), ("unicode/utf8.first", laid_unicode_utf8_first)], narrowed := true }
def CommuteMovesUptoSaid : Prop := commuteMovesUptoRow.holds Tryz.pinned (OpenSpec.upto commuteMovesSpec)

/-- 'cordwoodlaw33.ModmergeSettle', WHERE WHAT IT READS IS OF BULK AT MOST 1048576: true; the input reads as it did. -/
def modmergeSettleUptoRow : OpenClaim := { program := "ytdpnfkjafhbndaagreatdoor", sum := "4f0e30c136db305b7b0d37253ca2c62d8438bf2debacea3035f5e541c3ba0a82", func := "cordwood/cordwoodlaw33.ModmergeSettle", spec := "modmergeSettle", inPlace := ["internal/bytealg.IndexByteString", "internal/bytealg.IndexString"], unfollowed := true, recurses := true, named := ["unicode/utf8.first", "unicode/utf8.acceptRanges", "internal/bytealg.MaxLen", "internal/strconv.uint64pow10", "math/bits.deBruijn32tab", "math/bits.deBruijn64tab"], loops := true, apart := false, laid := [("math/bits.deBruijn32tab", laid_math_bits_deBruijn32tab), ("math/bits.deBruijn64tab", laid_math_bits_deBruijn64tab), ("internal/strconv.uint64pow10", laid_internal_strconv_uint64pow10), ("unicode/utf8.acceptRanges", laid_unicode_utf8_acceptRanges), ("unicode/utf8.first", laid_unicode_utf8_first)], narrowed := true }
def ModmergeSettleUptoSaid : Prop := modmergeSettleUptoRow.holds Tryz.pinned (OpenSpec.upto modmergeSettleSpec)

/-- 'cordwoodlaw33.ModmergeRemoved', WHERE WHAT IT READS IS OF BULK AT MOST 1048576: true; the input reads as it did. -/
def modmergeRemovedUptoRow : OpenClaim := { program := "ytdpnfkjafhbndaagreatdoor", sum := "4f0e30c136db305b7b0d37253ca2c62d8438bf2debacea3035f5e541c3ba0a82", func := "cordwood/cordwoodlaw33.ModmergeRemoved", spec := "modmergeRemoved", inPlace := ["internal/bytealg.IndexByteString", "internal/bytealg.IndexString"], unfollowed := true, recurses := true, named := ["unicode/utf8.first", "unicode/utf8.acceptRanges", "internal/bytealg.MaxLen", "internal/strconv.uint64pow10", "math/bits.deBruijn32tab", "math/bits.deBruijn64tab"], loops := true, apart := false, laid := [("math/bits.deBruijn32tab", laid_math_bits_deBruijn32tab), ("math/bits.deBruijn64tab", laid_math_bits_deBruijn64tab), ("internal/strconv.uint64pow10", laid_internal_strconv_uint64pow10), ("unicode/utf8.acceptRanges", laid_unicode_utf8_acceptRanges), ("unicode/utf8.first", laid_unicode_utf8_first)], narrowed := true }
def ModmergeRemovedUptoSaid : Prop := modmergeRemovedUptoRow.holds Tryz.pinned (OpenSpec.upto modmergeRemovedSpec)

end Rows
end Go.Proofs.YtdpnfkjafhbndaaGreatDoor
