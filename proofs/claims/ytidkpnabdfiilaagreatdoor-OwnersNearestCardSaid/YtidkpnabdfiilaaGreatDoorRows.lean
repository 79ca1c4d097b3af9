/-
  NARROWER THAN 'FOR EVERY INPUT', by the rows' own cells (each row's printed sentence says how): OwnersRequired: laid · OwnersApproval: laid · ApprovalSeen: laid · ApprovalStands: laid · ApprovalElsewhere: laid · ApprovalEnough: laid · ApprovalMissing: laid · ApprovalAll: laid · ApprovalFalls: laid · OwnersNearest: laid.
  DERIVED. THE GIVEN ROWS OF THIS SEAT. 10 by the template 'for every input the law returns true; each argument reads behind the call as it read before'; 0 by the template 'total and deterministic' (their statements: YtidkpnabdfiilaaGreatDoorTotals.lean).
  GIVEN WITH THE SEED: the statements are not yours to turn. If you find one false, say at which input.
  Laid BY PROGRAM, IN A SANDBOX (cutbox-rows.mjs): the forced cells as the released guide's own fill.sh prints them over the translation 69333ac75a018afa… (all of the seat's roots in one cut). By AI agents, Wed Nov 11 2026. No macro, syntax, notation, axiom, sorry.
-/
import Derived.Test.YtidkpnabdfiilaaGreatDoorChecked
import GoSem.PinnedTables
import GoSem.Claim
import GoSem.ClaimJoined
import GoSem.ClaimMapViews
import Derived.JoinedTies
import Derived.KernelRfl
namespace Go.Proofs.YtidkpnabdfiilaaGreatDoor
/- THE CELL 'sum', in the pinned program and in every row, IS THE sha256 OF THE DUMP (.gsa) THAT YtidkpnabdfiilaaGreatDoorProg.lean LOADS. Nothing in Lean hashes anything: it is a label: what it is worth is what the hold of that sum in a sandbox is worth. -/
noncomputable def Tryz.pinned : Pinned := { name := "ytidkpnabdfiilaagreatdoor", sum := "69333ac75a018afaccc6dff992c9c514dc372f30e046239f1f1d90249b1fb864", checked := Tryz.checked }
namespace Rows
def none {H : Type} : Left H := { results := [], args := [] }

/- WHAT THE LISTED PACKAGE-LEVEL VARIABLES READ AS WHEN THE CALL BEGINS. Each datum BY PROGRAM (the guide's laid-datum.mjs) off the statement by which the dump's own 'gosem.cut.vars' lays the variable. In a bare row this is a premise. The card (YtidkpnabdfiilaaGreatDoorCards.lean) ties it to the program's text. -/
def laid_unicode_utf8_acceptRanges {H : Type} : DataW H := .agg [.agg [.lit (.int .u8 128), .lit (.int .u8 191)], .agg [.lit (.int .u8 160), .lit (.int .u8 191)], .agg [.lit (.int .u8 128), .lit (.int .u8 159)], .agg [.lit (.int .u8 144), .lit (.int .u8 191)], .agg [.lit (.int .u8 128), .lit (.int .u8 143)], .agg [.lit (.int .u8 0), .lit (.int .u8 0)], .agg [.lit (.int .u8 0), .lit (.int .u8 0)], .agg [.lit (.int .u8 0), .lit (.int .u8 0)], .agg [.lit (.int .u8 0), .lit (.int .u8 0)], .agg [.lit (.int .u8 0), .lit (.int .u8 0)], .agg [.lit (.int .u8 0), .lit (.int .u8 0)], .agg [.lit (.int .u8 0), .lit (.int .u8 0)], .agg [.lit (.int .u8 0), .lit (.int .u8 0)], .agg [.lit (.int .u8 0), .lit (.int .u8 0)], .agg [.lit (.int .u8 0), .lit (.int .u8 0)], .agg [.lit (.int .u8 0), .lit (.int .u8 0)]]
/-- One of Go's own tables, pinned by name: the form's constant. -/
def laid_unicode_utf8_first : DataW Unit := Go.Pinned.utf8First

/-- 'cordwoodlaw54.OwnersRequired': WHATEVER THE INPUT: true; the input reads as it did. -/
def ownersRequiredSpec : ChangeSpec := { name := "ownersRequired", fn := fun _ => fun
  | [d1, d2, d3] => { results := [.lit (.bool true)], args := [d1, d2, d3] }
  | _ => none }
def ownersRequiredRow : OpenClaim := { program := "ytidkpnabdfiilaagreatdoor", sum := "69333ac75a018afaccc6dff992c9c514dc372f30e046239f1f1d90249b1fb864", func := "cordwood/cordwoodlaw54.OwnersRequired", spec := "ownersRequired", inPlace := ["internal/bytealg.IndexByteString", "internal/bytealg.IndexString", "internal/abi.NoEscape", "internal/bytealg.MakeNoZero"], unfollowed := true, recurses := true, named := ["unicode/utf8.first", "unicode/utf8.acceptRanges", "internal/bytealg.MaxLen"], apart := false, laid := [("unicode/utf8.acceptRanges", laid_unicode_utf8_acceptRanges), ("unicode/utf8.first", laid_unicode_utf8_first)] }
def OwnersRequiredSaid : Prop := ownersRequiredRow.holds Tryz.pinned (OpenSpec.ofChange ownersRequiredSpec)

/-- ITS FALSE NEIGHBOUR: 'it returns false'. Refute it at one input. -/
def ownersRequiredWrong : ChangeSpec := { name := "ownersRequired", fn := fun _ => fun
  | [d1, d2, d3] => { results := [.lit (.bool false)], args := [d1, d2, d3] }
  | _ => none }
def OwnersRequiredWrongFalsely : Prop := ownersRequiredRow.holds Tryz.pinned (OpenSpec.ofChange ownersRequiredWrong)

/-- 'cordwoodlaw54.OwnersApproval': WHATEVER THE INPUT: true; the input reads as it did. -/
def ownersApprovalSpec : ChangeSpec := { name := "ownersApproval", fn := fun _ => fun
  | [d] => { results := [.lit (.bool true)], args := [d] }
  | _ => none }
def ownersApprovalRow : OpenClaim := { program := "ytidkpnabdfiilaagreatdoor", sum := "69333ac75a018afaccc6dff992c9c514dc372f30e046239f1f1d90249b1fb864", func := "cordwood/cordwoodlaw54.OwnersApproval", spec := "ownersApproval", inPlace := ["internal/bytealg.IndexByteString", "internal/bytealg.IndexString", "internal/abi.NoEscape", "internal/bytealg.MakeNoZero"], unfollowed := true, recurses := true, named := ["unicode/utf8.first", "unicode/utf8.acceptRanges", "internal/bytealg.MaxLen"], apart := false, laid := [("unicode/utf8.acceptRanges", laid_unicode_utf8_acceptRanges), ("unicode/utf8.first", laid_unicode_utf8_first)] }
def OwnersApprovalSaid : Prop := ownersApprovalRow.holds Tryz.pinned (OpenSpec.ofChange ownersApprovalSpec)

/-- ITS FALSE NEIGHBOUR: 'it returns false'. Refute it at one input. -/
def ownersApprovalWrong : ChangeSpec := { name := "ownersApproval", fn := fun _ => fun
  | [d] => { results := [.lit (.bool false)], args := [d] }
  | _ => none }
def OwnersApprovalWrongFalsely : Prop := ownersApprovalRow.holds Tryz.pinned (OpenSpec.ofChange ownersApprovalWrong)

/-- 'cordwoodlaw55.ApprovalSeen': WHATEVER THE INPUT: true; the input reads as it did. -/
def approvalSeenSpec : ChangeSpec := { name := "approvalSeen", fn := fun _ => fun
  | [d1, d2, d3] => { results := [.lit (.bool true)], args := [d1, d2, d3] }
  | _ => none }
def approvalSeenRow : OpenClaim := { program := "ytidkpnabdfiilaagreatdoor", sum := "69333ac75a018afaccc6dff992c9c514dc372f30e046239f1f1d90249b1fb864", func := "cordwood/cordwoodlaw55.ApprovalSeen", spec := "approvalSeen", inPlace := ["internal/bytealg.IndexByteString", "internal/bytealg.IndexString", "internal/abi.NoEscape", "internal/bytealg.MakeNoZero"], unfollowed := true, recurses := true, named := ["unicode/utf8.first", "unicode/utf8.acceptRanges", "internal/bytealg.MaxLen"], apart := false, laid := [("unicode/utf8.acceptRanges", laid_unicode_utf8_acceptRanges), ("unicode/utf8.first", laid_unicode_utf8_first)] }
def ApprovalSeenSaid : Prop := approvalSeenRow.holds Tryz.pinned (OpenSpec.ofChange approvalSeenSpec)

/-- ITS FALSE NEIGHBOUR: 'it returns false'. Refute it at one input. -/
def approvalSeenWrong : ChangeSpec := { name := "approvalSeen", fn := fun _ => fun
  | [d1, d2, d3] => { results := [.lit (.bool false)], args := [d1, d2, d3] }
  | _ => none }
def ApprovalSeenWrongFalsely : Prop := approvalSeenRow.holds Tryz.pinned (OpenSpec.ofChange approvalSeenWrong)

/-- 'cordwoodlaw55.ApprovalStands': WHATEVER THE INPUT: true; the input reads as it did. -/
def approvalStandsSpec : ChangeSpec := { name := "approvalStands", fn := fun _ => fun
  | [d1, d2, d3, d4, d5] => { results := [.lit (.bool true)], args := [d1, d2, d3, d4, d5] }
  | _ => none }
def approvalStandsRow : OpenClaim := { program := "ytidkpnabdfiilaagreatdoor", sum := "69333ac75a018afaccc6dff992c9c514dc372f30e046239f1f1d90249b1fb864", func := "cordwood/cordwoodlaw55.ApprovalStands", spec := "approvalStands", inPlace := ["internal/bytealg.IndexByteString", "internal/bytealg.IndexString", "internal/abi.NoEscape", "internal/bytealg.MakeNoZero"], unfollowed := true, recurses := true, named := ["unicode/utf8.first", "unicode/utf8.acceptRanges", "internal/bytealg.MaxLen"], apart := false, laid := [("unicode/utf8.acceptRanges", laid_unicode_utf8_acceptRanges), ("unicode/utf8.first", laid_unicode_utf8_first)] }
def ApprovalStandsSaid : Prop := approvalStandsRow.holds Tryz.pinned (OpenSpec.ofChange approvalStandsSpec)

/-- ITS FALSE NEIGHBOUR: 'it returns false'. Refute it at one input. -/
def approvalStandsWrong : ChangeSpec := { name := "approvalStands", fn := fun _ => fun
  | [d1, d2, d3, d4, d5] => { results := [.lit (.bool false)], args := [d1, d2, d3, d4, d5] }
  | _ => none }
def ApprovalStandsWrongFalsely : Prop := approvalStandsRow.holds Tryz.pinned (OpenSpec.ofChange approvalStandsWrong)

/-- 'cordwoodlaw55.ApprovalElsewhere': WHATEVER THE INPUT: true; the input reads as it did. -/
def approvalElsewhereSpec : ChangeSpec := { name := "approvalElsewhere", fn := fun _ => fun
  | [d1, d2, d3, d4, d5] => { results := [.lit (.bool true)], args := [d1, d2, d3, d4, d5] }
  | _ => none }
def approvalElsewhereRow : OpenClaim := { program := "ytidkpnabdfiilaagreatdoor", sum := "69333ac75a018afaccc6dff992c9c514dc372f30e046239f1f1d90249b1fb864", func := "cordwood/cordwoodlaw55.ApprovalElsewhere", spec := "approvalElsewhere", inPlace := ["internal/bytealg.IndexByteString", "internal/bytealg.IndexString", "internal/abi.NoEscape", "internal/bytealg.MakeNoZero"], unfollowed := true, recurses := true, named := ["unicode/utf8.first", "unicode/utf8.acceptRanges", "internal/bytealg.MaxLen"], apart := false, laid := [("unicode/utf8.acceptRanges", laid_unicode_utf8_acceptRanges), ("unicode/utf8.first", laid_unicode_utf8_first)] }
def ApprovalElsewhereSaid : Prop := approvalElsewhereRow.holds Tryz.pinned (OpenSpec.ofChange approvalElsewhereSpec)

/-- ITS FALSE NEIGHBOUR: 'it returns false'. Refute it at one input. -/
def approvalElsewhereWrong : ChangeSpec := { name := "approvalElsewhere", fn := fun _ => fun
  | [d1, d2, d3, d4, d5] => { results := [.lit (.bool false)], args := [d1, d2, d3, d4, d5] }
  | _ => none }
def ApprovalElsewhereWrongFalsely : Prop := approvalElsewhereRow.holds Tryz.pinned (OpenSpec.ofChange approvalElsewhereWrong)

/-- 'cordwoodlaw55.ApprovalEnough': WHATEVER THE INPUT: true; the input reads as it did. -/
def approvalEnoughSpec : ChangeSpec := { name := "approvalEnough", fn := fun _ => fun
  | [d1, d2, d3, d4, d5] => { results := [.lit (.bool true)], args := [d1, d2, d3, d4, d5] }
  | _ => none }
def approvalEnoughRow : OpenClaim := { program := "ytidkpnabdfiilaagreatdoor", sum := "69333ac75a018afaccc6dff992c9c514dc372f30e046239f1f1d90249b1fb864", func := "cordwood/cordwoodlaw55.ApprovalEnough", spec := "approvalEnough", inPlace := ["internal/bytealg.IndexByteString", "internal/bytealg.IndexString", "internal/abi.NoEscape", "internal/bytealg.MakeNoZero"], unfollowed := true, recurses := true, named := ["unicode/utf8.first", "unicode/utf8.acceptRanges", "internal/bytealg.MaxLen"], apart := false, laid := [("unicode/utf8.acceptRanges", laid_unicode_utf8_acceptRanges), ("unicode/utf8.first", laid_unicode_utf8_first)] }
def ApprovalEnoughSaid : Prop := approvalEnoughRow.holds Tryz.pinned (OpenSpec.ofChange approvalEnoughSpec)

/-- ITS FALSE NEIGHBOUR: 'it returns false'. Refute it at one input. -/
def approvalEnoughWrong : ChangeSpec := { name := "approvalEnough", fn := fun _ => fun
  | [d1, d2, d3, d4, d5] => { results := [.lit (.bool false)], args := [d1, d2, d3, d4, d5] }
  | _ => none }
def ApprovalEnoughWrongFalsely : Prop := approvalEnoughRow.holds Tryz.pinned (OpenSpec.ofChange approvalEnoughWrong)

/-- 'cordwoodlaw55.ApprovalMissing': WHATEVER THE INPUT: true; the input reads as it did. -/
def approvalMissingSpec : ChangeSpec := { name := "approvalMissing", fn := fun _ => fun
  | [d1, d2, d3, d4] => { results := [.lit (.bool true)], args := [d1, d2, d3, d4] }
  | _ => none }
def approvalMissingRow : OpenClaim := { program := "ytidkpnabdfiilaagreatdoor", sum := "69333ac75a018afaccc6dff992c9c514dc372f30e046239f1f1d90249b1fb864", func := "cordwood/cordwoodlaw55.ApprovalMissing", spec := "approvalMissing", inPlace := ["internal/bytealg.IndexByteString", "internal/bytealg.IndexString", "internal/abi.NoEscape", "internal/bytealg.MakeNoZero"], unfollowed := true, recurses := true, named := ["unicode/utf8.first", "unicode/utf8.acceptRanges", "internal/bytealg.MaxLen"], apart := false, laid := [("unicode/utf8.acceptRanges", laid_unicode_utf8_acceptRanges), ("unicode/utf8.first", laid_unicode_utf8_first)] }
def ApprovalMissingSaid : Prop := approvalMissingRow.holds Tryz.pinned (OpenSpec.ofChange approvalMissingSpec)

/-- ITS FALSE NEIGHBOUR: 'it returns false'. Refute it at one input. -/
def approvalMissingWrong : ChangeSpec := { name := "approvalMissing", fn := fun _ => fun
  | [d1, d2, d3, d4] => { results := [.lit (.bool false)], args := [d1, d2, d3, d4] }
  | _ => none }
def ApprovalMissingWrongFalsely : Prop := approvalMissingRow.holds Tryz.pinned (OpenSpec.ofChange approvalMissingWrong)

/-- 'cordwoodlaw55.ApprovalAll': WHATEVER THE INPUT: true; the input reads as it did. -/
def approvalAllSpec : ChangeSpec := { name := "approvalAll", fn := fun _ => fun
  | [d1, d2, d3, d4] => { results := [.lit (.bool true)], args := [d1, d2, d3, d4] }
  | _ => none }
def approvalAllRow : OpenClaim := { program := "ytidkpnabdfiilaagreatdoor", sum := "69333ac75a018afaccc6dff992c9c514dc372f30e046239f1f1d90249b1fb864", func := "cordwood/cordwoodlaw55.ApprovalAll", spec := "approvalAll", inPlace := ["internal/bytealg.IndexByteString", "internal/bytealg.IndexString", "internal/abi.NoEscape", "internal/bytealg.MakeNoZero"], unfollowed := true, recurses := true, named := ["unicode/utf8.first", "unicode/utf8.acceptRanges", "internal/bytealg.MaxLen"], apart := false, laid := [("unicode/utf8.acceptRanges", laid_unicode_utf8_acceptRanges), ("unicode/utf8.first", laid_unicode_utf8_first)] }
def ApprovalAllSaid : Prop := approvalAllRow.holds Tryz.pinned (OpenSpec.ofChange approvalAllSpec)

/-- ITS FALSE NEIGHBOUR: 'it returns false'. Refute it at one input. -/
def approvalAllWrong : ChangeSpec := { name := "approvalAll", fn := fun _ => fun
  | [d1, d2, d3, d4] => { results := [.lit (.bool false)], args := [d1, d2, d3, d4] }
  | _ => none }
def ApprovalAllWrongFalsely : Prop := approvalAllRow.holds Tryz.pinned (OpenSpec.ofChange approvalAllWrong)

/-- 'cordwoodlaw55.ApprovalFalls': WHATEVER THE INPUT: true; the input reads as it did. -/
def approvalFallsSpec : ChangeSpec := { name := "approvalFalls", fn := fun _ => fun
  | [d1, d2, d3, d4] => { results := [.lit (.bool true)], args := [d1, d2, d3, d4] }
  | _ => none }
def approvalFallsRow : OpenClaim := { program := "ytidkpnabdfiilaagreatdoor", sum := "69333ac75a018afaccc6dff992c9c514dc372f30e046239f1f1d90249b1fb864", func := "cordwood/cordwoodlaw55.ApprovalFalls", spec := "approvalFalls", inPlace := ["internal/bytealg.IndexByteString", "internal/bytealg.IndexString", "internal/abi.NoEscape", "internal/bytealg.MakeNoZero"], unfollowed := true, recurses := true, named := ["unicode/utf8.first", "unicode/utf8.acceptRanges", "internal/bytealg.MaxLen"], apart := false, laid := [("unicode/utf8.acceptRanges", laid_unicode_utf8_acceptRanges), ("unicode/utf8.first", laid_unicode_utf8_first)] }
def ApprovalFallsSaid : Prop := approvalFallsRow.holds Tryz.pinned (OpenSpec.ofChange approvalFallsSpec)

/-- ITS FALSE NEIGHBOUR: 'it returns false'. Refute it at one input. -/
def approvalFallsWrong : ChangeSpec := { name := "approvalFalls", fn := fun _ => fun
  | [d1, d2, d3, d4] => { results := [.lit (.bool false)], args := [d1, d2, d3, d4] }
  | _ => none }
def ApprovalFallsWrongFalsely : Prop := approvalFallsRow.holds Tryz.pinned (OpenSpec.ofChange approvalFallsWrong)

/-- 'cordwoodlaw54.OwnersNearest': WHATEVER THE INPUT: true; the input reads as it did. -/
def ownersNearestSpec : ChangeSpec := { name := "ownersNearest", fn := fun _ => fun
  | [d1, d2, d3] => { results := [.lit (.bool true)], args := [d1, d2, d3] }
  | _ => none }
def ownersNearestRow : OpenClaim := { program := "ytidkpnabdfiilaagreatdoor", sum := "69333ac75a018afaccc6dff992c9c514dc372f30e046239f1f1d90249b1fb864", func := "cordwood/cordwoodlaw54.OwnersNearest", spec := "ownersNearest", inPlace := ["internal/bytealg.IndexByteString", "internal/bytealg.IndexString", "internal/abi.NoEscape", "internal/bytealg.abigen_runtime_cmpstring", "internal/bytealg.MakeNoZero"], unfollowed := true, recurses := true, named := ["unicode/utf8.first", "unicode/utf8.acceptRanges", "internal/bytealg.MaxLen"], apart := false, laid := [("unicode/utf8.acceptRanges", laid_unicode_utf8_acceptRanges), ("unicode/utf8.first", laid_unicode_utf8_first)] }
def OwnersNearestSaid : Prop := ownersNearestRow.holds Tryz.pinned (OpenSpec.ofChange ownersNearestSpec)

/-- ITS FALSE NEIGHBOUR: 'it returns false'. Refute it at one input. -/
def ownersNearestWrong : ChangeSpec := { name := "ownersNearest", fn := fun _ => fun
  | [d1, d2, d3] => { results := [.lit (.bool false)], args := [d1, d2, d3] }
  | _ => none }
def OwnersNearestWrongFalsely : Prop := ownersNearestRow.holds Tryz.pinned (OpenSpec.ofChange ownersNearestWrong)

/- THE SECOND FORM. 'bulk': how many values and letters a reading holds, each counted each time it is reached (what is shared counts as often as it is met; a slice's spare places count too). A statement '..UptoSaid' is the law's where the arguments, and the package variables that the reading takes, are together of bulk at most 1048576: NARROWER than '..Said'. Prove '..Said' where nothing that the law and all that it calls make is longer than what came in: it says more and counts as full. Else prove '..UptoSaid'. A law counts once. -/
mutual
def uptoBulk {H : Type} : DataW H → Nat
  | .lit (.string bytes) => bytes.length + 1
  | .lit _ => 1
  | .nil => 1
  | .ptr d => uptoBulk d + 1
  | .slice elems spare => uptoBulkAll elems + uptoBulkAll spare + 1
  | .agg parts => uptoBulkAll parts + 1
  | .iface _ d => uptoBulk d + 1
  | .map entries => uptoBulkEntries entries + 1
  | .held _ => 1
def uptoBulkAll {H : Type} : List (DataW H) → Nat
  | [] => 0
  | d :: r => uptoBulk d + uptoBulkAll r
def uptoBulkEntries {H : Type} : List (Lit × DataW H) → Nat
  | [] => 0
  | x :: r => uptoBulkEntry x + uptoBulkEntries r
def uptoBulkEntry {H : Type} : Lit × DataW H → Nat
  | (.string bytes, d) => bytes.length + uptoBulk d + 1
  | (_, d) => uptoBulk d + 1
 end
def uptoSmall : (H : Type) → List (DataW H) → Bool := fun _ ds => decide (uptoBulkAll ds ≤ 1048576)
def OpenSpec.upto (s : _root_.Go.ChangeSpec) : _root_.Go.OpenSpec := { _root_.Go.OpenSpec.ofChange s with cond := some uptoSmall }

/-- 'cordwoodlaw54.OwnersRequired', WHERE WHAT IT READS IS OF BULK AT MOST 1048576: true; the input reads as it did. -/
def ownersRequiredUptoRow : OpenClaim := { program := "ytidkpnabdfiilaagreatdoor", sum := "69333ac75a018afaccc6dff992c9c514dc372f30e046239f1f1d90249b1fb864", func := "cordwood/cordwoodlaw54.OwnersRequired", spec := "ownersRequired", inPlace := ["internal/bytealg.IndexByteString", "internal/bytealg.IndexString", "internal/abi.NoEscape", "internal/bytealg.MakeNoZero"], unfollowed := true, recurses := true, named := ["unicode/utf8.first", "unicode/utf8.acceptRanges", "internal/bytealg.MaxLen"], apart := false, laid := [("unicode/utf8.acceptRanges", laid_unicode_utf8_acceptRanges), ("unicode/utf8.first", laid_unicode_utf8_first)], narrowed := true }
def OwnersRequiredUptoSaid : Prop := ownersRequiredUptoRow.holds Tryz.pinned (OpenSpec.upto ownersRequiredSpec)

/-- 'cordwoodlaw54.OwnersApproval', WHERE WHAT IT READS IS OF BULK AT MOST 1048576: true; the input reads as it did. -/
def ownersApprovalUptoRow : OpenClaim := { program := "ytidkpnabdfiilaagreatdoor", sum := "69333ac75a018afaccc6dff992c9c514dc372f30e046239f1f1d90249b1fb864", func := "cordwood/cordwoodlaw54.OwnersApproval", spec := "ownersApproval", inPlace := ["internal/bytealg.IndexByteString", "internal/bytealg.IndexString", "internal/abi.NoEscape", "internal/bytealg.MakeNoZero"], unfollowed := true, recurses := true, named := ["unicode/utf8.first", "unicode/utf8.acceptRanges", "internal/bytealg.MaxLen"], apart := false, laid := [("unicode/utf8.acceptRanges", laid_unicode_utf8_acceptRanges), ("unicode/utf8.first", laid_unicode_utf8_first)], narrowed := true }
def OwnersApprovalUptoSaid : Prop := ownersApprovalUptoRow.holds Tryz.pinned (OpenSpec.upto ownersApprovalSpec)

/-- 'cordwoodlaw55.ApprovalSeen', WHERE WHAT IT READS IS OF BULK AT MOST 1048576: true; the input reads as it did. -/
def approvalSeenUptoRow : OpenClaim := { program := "ytidkpnabdfiilaagreatdoor", sum := "69333ac75a018afaccc6dff992c9c514dc372f30e046239f1f1d90249b1fb864", func := "cordwood/cordwoodlaw55.ApprovalSeen", spec := "approvalSeen", inPlace := ["internal/bytealg.IndexByteString", "internal/bytealg.IndexString", "internal/abi.NoEscape", "internal/bytealg.MakeNoZero"], unfollowed := true, recurses := true, named := ["unicode/utf8.first", "unicode/utf8.acceptRanges", "internal/bytealg.MaxLen"], apart := false, laid := [("unicode/utf8.acceptRanges", laid_unicode_utf8_acceptRanges), ("unicode/utf8.first", laid_unicode_utf8_first)], narrowed := true }
def ApprovalSeenUptoSaid : Prop := approvalSeenUptoRow.holds Tryz.pinned (OpenSpec.upto approvalSeenSpec)

/-- 'cordwoodlaw55.ApprovalStands', WHERE WHAT IT READS IS OF BULK AT MOST 1048576: true; the input reads as it did. -/
def approvalStandsUptoRow : OpenClaim := { program := "ytidkpnabdfiilaagreatdoor", sum := "69333ac75a018afaccc6dff992c9c514dc372f30e046239f1f1d90249b1fb864", func := "cordwood/cordwoodlaw55.ApprovalStands", spec := "approvalStands", inPlace := ["internal/bytealg.IndexByteString", "internal/bytealg.IndexString", "internal/abi.NoEscape", "internal/bytealg.MakeNoZero"], unfollowed := true, recurses := true, named := ["unicode/utf8.first", "unicode/utf8.acceptRanges", "internal/bytealg.MaxLen"], apart := false, laid := [("unicode/utf8.acceptRanges", laid_unicode_utf8_acceptRanges), ("unicode/utf8.first", laid_unicode_utf8_first)], narrowed := true }
def ApprovalStandsUptoSaid : Prop := approvalStandsUptoRow.holds Tryz.pinned (OpenSpec.upto approvalStandsSpec)

/-- 'cordwoodlaw55.ApprovalElsewhere', WHERE WHAT IT READS IS OF BULK AT MOST 1048576: true; the input reads as it did. -/
def approvalElsewhereUptoRow : OpenClaim := { program := "ytidkpnabdfiilaagreatdoor", sum := "69333ac75a018afaccc6dff992c9c514dc372f30e046239f1f1d90249b1fb864", func := "cordwood/cordwoodlaw55.ApprovalElsewhere", spec := "approvalElsewhere", inPlace := ["internal/bytealg.IndexByteString", "internal/bytealg.IndexString", "internal/abi.NoEscape", "internal/bytealg.MakeNoZero"], unfollowed := true, recurses := true, named := ["unicode/utf8.first", "unicode/utf8.acceptRanges", "internal/bytealg.MaxLen"], apart := false, laid := [("unicode/utf8.acceptRanges", laid_unicode_utf8_acceptRanges), ("unicode/utf8.first", laid_unicode_utf8_first)], narrowed := true }
def ApprovalElsewhereUptoSaid : Prop := approvalElsewhereUptoRow.holds Tryz.pinned (OpenSpec.upto approvalElsewhereSpec)

/-- 'cordwoodlaw55.ApprovalEnough', WHERE WHAT IT READS IS OF BULK AT MOST 1048576: true; the input reads as it did. -/
def approvalEnoughUptoRow : OpenClaim := { program := "ytidkpnabdfiilaagreatdoor", sum := "69333ac75a018afaccc6dff992c9c514dc372f30e046239f1f1d90249b1fb864", func := "cordwood/cordwoodlaw55.ApprovalEnough", spec := "approvalEnough", inPlace := ["internal/bytealg.IndexByteString", "internal/bytealg.IndexString", "internal/abi.NoEscape", "internal/bytealg.MakeNoZero"], unfollowed := true, recurses := true, named := ["unicode/utf8.first", "unicode/utf8.acceptRanges", "internal/bytealg.MaxLen"], apart := false, laid := [("unicode/utf8.acceptRanges", laid_unicode_utf8_acceptRanges), ("unicode/utf8.first", laid_unicode_utf8_first)], narrowed := true }
def ApprovalEnoughUptoSaid : Prop := approvalEnoughUptoRow.holds Tryz.pinned (OpenSpec.upto approvalEnoughSpec)

/-- 'cordwoodlaw55.ApprovalMissing', WHERE WHAT IT READS IS OF BULK AT MOST 1048576: true; the input reads as it did. -/
def approvalMissingUptoRow : OpenClaim := { program := "ytidkpnabdfiilaagreatdoor", sum := "69333ac75a018afaccc6dff992c9c514dc372f30e046239f1f1d90249b1fb864", func := "cordwood/cordwoodlaw55.ApprovalMissing", spec := "approvalMissing", inPlace := ["internal/bytealg.IndexByteString", "internal/bytealg.IndexString", "internal/abi.NoEscape", "internal/bytealg.MakeNoZero"], unfollowed := true, recurses := true, named := ["unicode/utf8.first", "unicode/utf8.acceptRanges", "internal/bytealg.MaxLen"], apart := false, laid := [("unicode/utf8.acceptRanges", laid_unicode_utf8_acceptRanges), ("unicode/utf8.first", laid_unicode_utf8_first)], narrowed := true }
def ApprovalMissingUptoSaid : Prop := approvalMissingUptoRow.holds Tryz.pinned (OpenSpec.upto approvalMissingSpec)

/-- 'cordwoodlaw55.ApprovalAll', WHERE WHAT IT READS IS OF BULK AT MOST 1048576: true; the input reads as it did. -/
def approvalAllUptoRow : OpenClaim := { program := "ytidkpnabdfiilaagreatdoor", sum := "69333ac75a018afaccc6dff992c9c514dc372f30e046239f1f1d90249b1fb864", func := "cordwood/cordwoodlaw55.ApprovalAll", spec := "approvalAll", inPlace := ["internal/bytealg.IndexByteString", "internal/bytealg.IndexString", "internal/abi.NoEscape", "internal/bytealg.MakeNoZero"], unfollowed := true, recurses := true, named := ["unicode/utf8.first", "unicode/utf8.acceptRanges", "internal/bytealg.MaxLen"], apart := false, laid := [("unicode/utf8.acceptRanges", laid_unicode_utf8_acceptRanges), ("unicode/utf8.first", laid_unicode_utf8_first)], narrowed := true }
def ApprovalAllUptoSaid : Prop := approvalAllUptoRow.holds Tryz.pinned (OpenSpec.upto approvalAllSpec)

/-- 'cordwoodlaw55.ApprovalFalls', WHERE WHAT IT READS IS OF BULK AT MOST 1048576: true; the input reads as it did. -/
def approvalFallsUptoRow : OpenClaim := { program := "ytidkpnabdfiilaagreatdoor", sum := "69333ac75a018afaccc6dff992c9c514dc372f30e046239f1f1d90249b1fb864", func := "cordwood/cordwoodlaw55.ApprovalFalls", spec := "approvalFalls", inPlace := ["internal/bytealg.IndexByteString", "internal/bytealg.IndexString", "internal/abi.NoEscape", "internal/bytealg.MakeNoZero"], unfollowed := true, recurses := true, named := ["unicode/utf8.first", "unicode/utf8.acceptRanges", "internal/bytealg.MaxLen"], apart := false, laid := [("unicode/utf8.acceptRanges", laid_unicode_utf8_acceptRanges), ("unicode/utf8.first", laid_unicode_utf8_first)], narrowed := true }
def ApprovalFallsUptoSaid : Prop := approvalFallsUptoRow.holds Tryz.pinned (OpenSpec.upto approvalFallsSpec)

/-- 'cordwoodlaw54.OwnersNearest', WHERE WHAT IT READS IS OF BULK AT MOST 1048576: true; the input reads as it did. -/
def ownersNearestUptoRow : OpenClaim := { program := "ytidkpnabdfiilaagreatdoor", sum := "69333ac75a018afaccc6dff992c9c514dc372f30e046239f1f1d90249b1fb864", func := "cordwood/cordwoodlaw54.OwnersNearest", spec := "ownersNearest", inPlace := ["internal/bytealg.IndexByteString", "internal/bytealg.IndexString", "internal/abi.NoEscape", "internal/bytealg.abigen_runtime_cmpstring", "internal/bytealg.MakeNoZero"], unfollowed := true, recurses := true, named := ["unicode/utf8.first", "unicode/utf8.acceptRanges", "internal/bytealg.MaxLen"], apart := false, laid := [("unicode/utf8.acceptRanges", laid_unicode_utf8_acceptRanges), ("unicode/utf8.first", laid_unicode_utf8_first)], narrowed := true }
def OwnersNearestUptoSaid : Prop := ownersNearestUptoRow.holds Tryz.pinned (OpenSpec.upto ownersNearestSpec)

end Rows
end Go.Proofs.YtidkpnabdfiilaaGreatDoor
