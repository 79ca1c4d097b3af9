/-
  NARROWER THAN 'FOR EVERY INPUT', by the rows' own cells (each row's printed sentence says how): OwnersGroups: laid · OwnersRequired: laid · OwnersApproval: laid · OwnersNearest: laid.
  DERIVED. THE GIVEN ROWS OF THIS SEAT. 4 by the template 'for every input the law returns true; each argument reads behind the call as it read before'; 0 by the template 'total and deterministic' (their statements: YtgknclplheldmaaGreatDoorTotals.lean).
  GIVEN WITH THE SEED: the statements are not yours to turn. If you find one false, say at which input.
  Laid BY PROGRAM, IN A SANDBOX (cutbox-rows.mjs): the forced cells as the released guide's own fill.sh prints them over the translation b307869d2e409d26… (all of the seat's roots in one cut). By AI agents, Wed Nov 11 2026. No macro, syntax, notation, axiom, sorry.
-/
import Derived.Test.YtgknclplheldmaaGreatDoorChecked
import GoSem.PinnedTables
import GoSem.Claim
import GoSem.ClaimJoined
import GoSem.ClaimMapViews
import Derived.JoinedTies
import Derived.KernelRfl
namespace Go.Proofs.YtgknclplheldmaaGreatDoor
/- THE CELL 'sum', in the pinned program and in every row, IS THE sha256 OF THE DUMP (.gsa) THAT YtgknclplheldmaaGreatDoorProg.lean LOADS. Nothing in Lean hashes anything: it is a label: what it is worth is what the hold of that sum in a sandbox is worth. -/
noncomputable def Tryz.pinned : Pinned := { name := "ytgknclplheldmaagreatdoor", sum := "b307869d2e409d26659a45982545c30c269c61b7518cd9da38a9b168801386e2", checked := Tryz.checked }
namespace Rows
def none {H : Type} : Left H := { results := [], args := [] }

/- WHAT THE LISTED PACKAGE-LEVEL VARIABLES READ AS WHEN THE CALL BEGINS. Each datum BY PROGRAM (the guide's laid-datum.mjs) off the statement by which the dump's own 'gosem.cut.vars' lays the variable. In a bare row this is a premise. The card (YtgknclplheldmaaGreatDoorCards.lean) ties it to the program's text. -/
def laid_unicode_utf8_acceptRanges {H : Type} : DataW H := .agg [.agg [.lit (.int .u8 128), .lit (.int .u8 191)], .agg [.lit (.int .u8 160), .lit (.int .u8 191)], .agg [.lit (.int .u8 128), .lit (.int .u8 159)], .agg [.lit (.int .u8 144), .lit (.int .u8 191)], .agg [.lit (.int .u8 128), .lit (.int .u8 143)], .agg [.lit (.int .u8 0), .lit (.int .u8 0)], .agg [.lit (.int .u8 0), .lit (.int .u8 0)], .agg [.lit (.int .u8 0), .lit (.int .u8 0)], .agg [.lit (.int .u8 0), .lit (.int .u8 0)], .agg [.lit (.int .u8 0), .lit (.int .u8 0)], .agg [.lit (.int .u8 0), .lit (.int .u8 0)], .agg [.lit (.int .u8 0), .lit (.int .u8 0)], .agg [.lit (.int .u8 0), .lit (.int .u8 0)], .agg [.lit (.int .u8 0), .lit (.int .u8 0)], .agg [.lit (.int .u8 0), .lit (.int .u8 0)], .agg [.lit (.int .u8 0), .lit (.int .u8 0)]]
/-- One of Go's own tables, pinned by name: the form's constant. -/
def laid_unicode_utf8_first : DataW Unit := Go.Pinned.utf8First

/-- 'cordwoodlaw54.OwnersGroups': WHATEVER THE INPUT: true; the input reads as it did. -/
def ownersGroupsSpec : ChangeSpec := { name := "ownersGroups", fn := fun _ => fun
  | [d1, d2] => { results := [.lit (.bool true)], args := [d1, d2] }
  | _ => none }
def ownersGroupsRow : OpenClaim := { program := "ytgknclplheldmaagreatdoor", sum := "b307869d2e409d26659a45982545c30c269c61b7518cd9da38a9b168801386e2", func := "cordwood/cordwoodlaw54.OwnersGroups", spec := "ownersGroups", inPlace := ["internal/bytealg.IndexByteString", "internal/bytealg.IndexString", "internal/abi.NoEscape", "internal/bytealg.MakeNoZero"], unfollowed := true, recurses := true, named := ["unicode/utf8.first", "unicode/utf8.acceptRanges", "internal/bytealg.MaxLen"], apart := false, laid := [("unicode/utf8.acceptRanges", laid_unicode_utf8_acceptRanges), ("unicode/utf8.first", laid_unicode_utf8_first)] }
def OwnersGroupsSaid : Prop := ownersGroupsRow.holds Tryz.pinned (OpenSpec.ofChange ownersGroupsSpec)

/-- ITS FALSE NEIGHBOUR: 'it returns false'. Refute it at one input. -/
def ownersGroupsWrong : ChangeSpec := { name := "ownersGroups", fn := fun _ => fun
  | [d1, d2] => { results := [.lit (.bool false)], args := [d1, d2] }
  | _ => none }
def OwnersGroupsWrongFalsely : Prop := ownersGroupsRow.holds Tryz.pinned (OpenSpec.ofChange ownersGroupsWrong)

/-- 'cordwoodlaw54.OwnersRequired': WHATEVER THE INPUT: true; the input reads as it did. -/
def ownersRequiredSpec : ChangeSpec := { name := "ownersRequired", fn := fun _ => fun
  | [d1, d2, d3] => { results := [.lit (.bool true)], args := [d1, d2, d3] }
  | _ => none }
def ownersRequiredRow : OpenClaim := { program := "ytgknclplheldmaagreatdoor", sum := "b307869d2e409d26659a45982545c30c269c61b7518cd9da38a9b168801386e2", func := "cordwood/cordwoodlaw54.OwnersRequired", spec := "ownersRequired", inPlace := ["internal/bytealg.IndexByteString", "internal/bytealg.IndexString", "internal/abi.NoEscape", "internal/bytealg.MakeNoZero"], unfollowed := true, recurses := true, named := ["unicode/utf8.first", "unicode/utf8.acceptRanges", "internal/bytealg.MaxLen"], apart := false, laid := [("unicode/utf8.acceptRanges", laid_unicode_utf8_acceptRanges), ("unicode/utf8.first", laid_unicode_utf8_first)] }
def OwnersRequiredSaid : Prop := ownersRequiredRow.holds Tryz.pinned (OpenSpec.ofChange ownersRequiredSpec)

/-- ITS FALSE NEIGHBOUR: 'it returns false'. Refute it at one input. -/
def ownersRequiredWrong : ChangeSpec := { name := "ownersRequired", fn := fun _ => fun
  | [d1, d2, d3] => { results := [.lit (.bool false)], args := [d1, d2, d3] }
  | _ => none }
def OwnersRequiredWrongFalsely : Prop := ownersRequiredRow.holds Tryz.pinned (OpenSpec.ofChange ownersRequiredWrong)

/-- 'cordwoodlaw54.OwnersApproval': WHATEVER THE INPUT: true; the input reads as it did. -/
def ownersApprovalSpec : ChangeSpec := { name := "ownersApproval", fn := fun _ => fun
  | [d] => { results := [.lit (.bool true)], args := [d] }
  | _ => none }
def ownersApprovalRow : OpenClaim := { program := "ytgknclplheldmaagreatdoor", sum := "b307869d2e409d26659a45982545c30c269c61b7518cd9da38a9b168801386e2", func := "cordwood/cordwoodlaw54.OwnersApproval", spec := "ownersApproval", inPlace := ["internal/bytealg.IndexByteString", "internal/bytealg.IndexString", "internal/abi.NoEscape", "internal/bytealg.MakeNoZero"], unfollowed := true, recurses := true, named := ["unicode/utf8.first", "unicode/utf8.acceptRanges", "internal/bytealg.MaxLen"], apart := false, laid := [("unicode/utf8.acceptRanges", laid_unicode_utf8_acceptRanges), ("unicode/utf8.first", laid_unicode_utf8_first)] }
def OwnersApprovalSaid : Prop := ownersApprovalRow.holds Tryz.pinned (OpenSpec.ofChange ownersApprovalSpec)

/-- ITS FALSE NEIGHBOUR: 'it returns false'. Refute it at one input. -/
def ownersApprovalWrong : ChangeSpec := { name := "ownersApproval", fn := fun _ => fun
  | [d] => { results := [.lit (.bool false)], args := [d] }
  | _ => none }
def OwnersApprovalWrongFalsely : Prop := ownersApprovalRow.holds Tryz.pinned (OpenSpec.ofChange ownersApprovalWrong)

/-- 'cordwoodlaw54.OwnersNearest': WHATEVER THE INPUT: true; the input reads as it did. -/
def ownersNearestSpec : ChangeSpec := { name := "ownersNearest", fn := fun _ => fun
  | [d1, d2, d3] => { results := [.lit (.bool true)], args := [d1, d2, d3] }
  | _ => none }
def ownersNearestRow : OpenClaim := { program := "ytgknclplheldmaagreatdoor", sum := "b307869d2e409d26659a45982545c30c269c61b7518cd9da38a9b168801386e2", func := "cordwood/cordwoodlaw54.OwnersNearest", spec := "ownersNearest", inPlace := ["internal/bytealg.IndexByteString", "internal/bytealg.IndexString", "internal/abi.NoEscape", "internal/bytealg.abigen_runtime_cmpstring", "internal/bytealg.MakeNoZero"], unfollowed := true, recurses := true, named := ["unicode/utf8.first", "unicode/utf8.acceptRanges", "internal/bytealg.MaxLen"], apart := false, laid := [("unicode/utf8.acceptRanges", laid_unicode_utf8_acceptRanges), ("unicode/utf8.first", laid_unicode_utf8_first)] }
def OwnersNearestSaid : Prop := ownersNearestRow.holds Tryz.pinned (OpenSpec.ofChange ownersNearestSpec)

/-- ITS FALSE NEIGHBOUR: 'it returns false'. Refute it at one input. -/
def ownersNearestWrong : ChangeSpec := { name := "ownersNearest", fn := fun _ => fun
  | [d1, d2, d3] => { results := [.lit (.bool false)], args := [d1, d2, d3] }
  | _ => none }
def OwnersNearestWrongFalsely : Prop := ownersNearestRow.holds Tryz.pinned (OpenSpec.ofChange ownersNearestWrong)

/- THE SECOND FORM. 'bulk': how many values and letters a reading holds, each counted each time it is reached (what is shared counts as often as it is met; a slice's spare places count too). A statement '..UptoSaid' is the law's where the arguments, and the package variables that the reading takes, are together of bulk at most 1048576: NARROWER than '..Said'. Prove '..Said' where nothing that the law and all that it calls make is longer than what came in: it says more and counts as full. Else prove '..UptoSaid'. A law counts once. -/
mutual
def uptoBulk {H : Type} : DataW H → Nat
  | .lit (.string bytes) => bytes.length + 1
  | .lit _ => 1
  | .nil => 1
  | .ptr d => uptoBulk d + 1
  | .slice elems spare => uptoBulkAll elems + uptoBulkAll spare + 1
  | .agg parts => uptoBulkAll parts + 1
  | .iface _ d => uptoBulk d + 1
  | .map entries => uptoBulkEntries entries + 1
  | .held _ => 1
def uptoBulkAll {H : Type} : List (DataW H) → Nat
  | [] => 0
  | d :: r => uptoBulk d + uptoBulkAll r
def uptoBulkEntries {H : Type} : List (Lit × DataW H) → Nat
  | [] => 0
  | x :: r => uptoBulkEntry x + uptoBulkEntries r
def uptoBulkEntry {H : Type} : Lit × DataW H → Nat
  | (.string bytes, d) => bytes.length + uptoBulk d + 1
  | (_, d) => uptoBulk d + 1
 end
def uptoSmall : (H : Type) → List (DataW H) → Bool := fun _ ds => decide (uptoBulkAll ds ≤ 1048576)
def OpenSpec.upto (s : _root_.Go.ChangeSpec) : _root_.Go.OpenSpec := { _root_.Go.OpenSpec.ofChange s with cond := some uptoSmall }

/-- 'cordwoodlaw54.OwnersGroups', WHERE WHAT IT READS IS OF BULK AT MOST 1048576: true; the input reads as it did. -/
def ownersGroupsUptoRow : OpenClaim := { program := "ytgknclplheldmaagreatdoor", sum := "b307869d2e409d26659a45982545c30c269c61b7518cd9da38a9b168801386e2", func := "cordwood/cordwoodlaw54.OwnersGroups", spec := "ownersGroups", inPlace := ["internal/bytealg.IndexByteString", "internal/bytealg.IndexString", "internal/abi.NoEscape", "internal/bytealg.MakeNoZero"], unfollowed := true, recurses := true, named := ["unicode/utf8.first", "unicode/utf8.acceptRanges", "internal/bytealg.MaxLen"], apart := false, laid := [("unicode/utf8.acceptRanges", laid_unicode_utf8_acceptRanges), ("unicode/utf8.first", laid_unicode_utf8_first)], narrowed := true }
def OwnersGroupsUptoSaid : Prop := ownersGroupsUptoRow.holds Tryz.pinned (OpenSpec.upto ownersGroupsSpec)

/-- 'cordwoodlaw54.OwnersRequired', WHERE WHAT IT READS IS OF BULK AT MOST 1048576: true; the input reads as it did. -/
def ownersRequiredUptoRow : OpenClaim := { program := "ytgknclplheldmaagreatdoor", sum := "b307869d2e409d26659a45982545c30c269c61b7518cd9da38a9b168801386e2", func := "cordwood/cordwoodlaw54.OwnersRequired", spec := "ownersRequired", inPlace := ["internal/bytealg.IndexByteString", "internal/bytealg.IndexString", "internal/abi.NoEscape", "internal/bytealg.MakeNoZero"], unfollowed := true, recurses := true, named := ["unicode/utf8.first", "unicode/utf8.acceptRanges", "internal/bytealg.MaxLen"], apart := false, laid := [("unicode/utf8.acceptRanges", laid_unicode_utf8_acceptRanges), ("unicode/utf8.first", laid_unicode_utf8_first)], narrowed := true }
def OwnersRequiredUptoSaid : Prop := ownersRequiredUptoRow.holds Tryz.pinned (OpenSpec.upto ownersRequiredSpec)

/-- 'cordwoodlaw54.OwnersApproval', WHERE WHAT IT READS IS OF BULK AT MOST 1048576: true; the input reads as it did. -/
def ownersApprovalUptoRow : OpenClaim := { program := "ytgknclplheldmaagreatdoor", sum := "b307869d2e409d26659a45982545c30c269c61b7518cd9da38a9b168801386e2", func := "cordwood/cordwoodlaw54.OwnersApproval", spec := "ownersApproval", inPlace := ["internal/bytealg.IndexByteString", "internal/bytealg.IndexString", "internal/abi.NoEscape", "internal/bytealg.MakeNoZero"], unfollowed := true, recurses := true, named := ["unicode/utf8.first", "unicode/utf8.acceptRanges", "internal/bytealg.MaxLen"], apart := false, laid := [("unicode/utf8.acceptRanges", laid_unicode_utf8_acceptRanges), ("unicode/utf8.first", laid_unicode_utf8_first)], narrowed := true }
def OwnersApprovalUptoSaid : Prop := ownersApprovalUptoRow.holds Tryz.pinned (OpenSpec.upto ownersApprovalSpec)

/-- 'cordwoodlaw54.OwnersNearest', WHERE WHAT IT READS IS OF BULK AT MOST 1048576: true; the input reads as it did. -/
def ownersNearestUptoRow : OpenClaim := { program := "ytgknclplheldmaagreatdoor", sum := "b307869d2e409d26659a45982545c30c269c61b7518cd9da38a9b168801386e2", func := "cordwood/cordwoodlaw54.OwnersNearest", spec := "ownersNearest", inPlace := ["internal/bytealg.IndexByteString", "internal/bytealg.IndexString", "internal/abi.NoEscape", "internal/bytealg.abigen_runtime_cmpstring", "internal/bytealg.MakeNoZero"], unfollowed := true, recurses := true, named := ["unicode/utf8.first", "unicode/utf8.acceptRanges", "internal/bytealg.MaxLen"], apart := false, laid := [("unicode/utf8.acceptRanges", laid_unicode_utf8_acceptRanges), ("unicode/utf8.first", laid_unicode_utf8_first)], narrowed := true }
def OwnersNearestUptoSaid : Prop := ownersNearestUptoRow.holds Tryz.pinned (OpenSpec.upto ownersNearestSpec)

end Rows
end Go.Proofs.YtgknclplheldmaaGreatDoor
