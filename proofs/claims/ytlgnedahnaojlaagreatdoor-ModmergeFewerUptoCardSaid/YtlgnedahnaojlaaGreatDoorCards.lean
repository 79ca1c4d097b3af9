/-
  DERIVED. GIVEN WITH THE SEED: THE CARDS: each row of YtlgnedahnaojlaaGreatDoorRows.lean that lists a variable, with what it lists TIED to the program's text (the seventh form; the later family's looks); each row that meets fmt, with fmt's text TOLD by the authors' own Lean function (tested against real Go, not proved from fmt's source: count such statements apart). THE CARD IS WHAT COUNTS. Prove the row's statement (the work); the ties are given (YtlgnedahnaojlaaGreatDoorTie.lean); close each card by the builder's one call (the guide's Derived/Test/ToyasCard.lean, 'card_holds'). Laid BY PROGRAM, IN A SANDBOX (cutbox-door.mjs). By AI agents, Wed Nov 11 2026. No macro, syntax, notation, axiom, sorry.
-/
import Derived.Test.YtlgnedahnaojlaaGreatDoorRows
import GoSem.ClaimSeven
namespace Go.Proofs.YtlgnedahnaojlaaGreatDoor
namespace Rows

/-- THE TIED CARD OF 'cordwoodlaw33.ModmergeMerge'. -/
def modmergeMergeCard : Claim7 := { stood := { row := modmergeMergeRow, standIns := [], harness := (true, "039baf9df9c1bd4b7dc723abb2a15e15520ec50a2d14b96d4cebc2561dff1a6e"), looks := false }, kinds := [], alts := [], laidByText := true, laidKinds := [.data, .pinned], laidTests := true, laidLooks := .later }
def ModmergeMergeCardSaid : Prop := Claim7.holds Tryz.pinned (.plain (OpenSpec.ofChange modmergeMergeSpec)) modmergeMergeCard

/-- THE TIED CARD OF 'cordwoodlaw33.ModmergeOneSide'. -/
def modmergeOneSideCard : Claim7 := { stood := { row := modmergeOneSideRow, standIns := [], harness := (true, "039baf9df9c1bd4b7dc723abb2a15e15520ec50a2d14b96d4cebc2561dff1a6e"), looks := false }, kinds := [], alts := [], laidByText := true, laidKinds := [.data, .pinned], laidTests := true, laidLooks := .later }
def ModmergeOneSideCardSaid : Prop := Claim7.holds Tryz.pinned (.plain (OpenSpec.ofChange modmergeOneSideSpec)) modmergeOneSideCard

/-- THE TIED CARD OF 'cordwoodlaw33.ModmergeSymmetry'. -/
def modmergeSymmetryCard : Claim7 := { stood := { row := modmergeSymmetryRow, standIns := [], harness := (true, "039baf9df9c1bd4b7dc723abb2a15e15520ec50a2d14b96d4cebc2561dff1a6e"), looks := false }, kinds := [], alts := [], laidByText := true, laidKinds := [.data, .pinned], laidTests := true, laidLooks := .later }
def ModmergeSymmetryCardSaid : Prop := Claim7.holds Tryz.pinned (.plain (OpenSpec.ofChange modmergeSymmetrySpec)) modmergeSymmetryCard

/-- THE TIED CARD OF 'cordwoodlaw33.ModmergeDecls'. -/
def modmergeDeclsCard : Claim7 := { stood := { row := modmergeDeclsRow, standIns := [], harness := (true, "039baf9df9c1bd4b7dc723abb2a15e15520ec50a2d14b96d4cebc2561dff1a6e"), looks := false }, kinds := [], alts := [], laidByText := true, laidKinds := [.data, .pinned], laidTests := true, laidLooks := .later }
def ModmergeDeclsCardSaid : Prop := Claim7.holds Tryz.pinned (.plain (OpenSpec.ofChange modmergeDeclsSpec)) modmergeDeclsCard

/-- THE TIED CARD OF 'cordwoodlaw33.ModmergeAgain'. -/
def modmergeAgainCard : Claim7 := { stood := { row := modmergeAgainRow, standIns := [], harness := (true, "039baf9df9c1bd4b7dc723abb2a15e15520ec50a2d14b96d4cebc2561dff1a6e"), looks := false }, kinds := [], alts := [], laidByText := true, laidKinds := [.data, .pinned], laidTests := true, laidLooks := .later }
def ModmergeAgainCardSaid : Prop := Claim7.holds Tryz.pinned (.plain (OpenSpec.ofChange modmergeAgainSpec)) modmergeAgainCard

/-- THE TIED CARD OF 'cordwoodlaw33.ModmergeFields'. -/
def modmergeFieldsCard : Claim7 := { stood := { row := modmergeFieldsRow, standIns := [], harness := (true, "039baf9df9c1bd4b7dc723abb2a15e15520ec50a2d14b96d4cebc2561dff1a6e"), looks := false }, kinds := [], alts := [], laidByText := true, laidKinds := [.data, .pinned], laidTests := true, laidLooks := .later }
def ModmergeFieldsCardSaid : Prop := Claim7.holds Tryz.pinned (.plain (OpenSpec.ofChange modmergeFieldsSpec)) modmergeFieldsCard

/-- THE TIED CARD OF 'cordwoodlaw33.ModmergeSettle'. -/
def modmergeSettleCard : Claim7 := { stood := { row := modmergeSettleRow, standIns := [], harness := (true, "039baf9df9c1bd4b7dc723abb2a15e15520ec50a2d14b96d4cebc2561dff1a6e"), looks := false }, kinds := [], alts := [], laidByText := true, laidKinds := [.data, .data, .data, .data, .pinned], laidTests := true, laidLooks := .later }
def ModmergeSettleCardSaid : Prop := Claim7.holds Tryz.pinned (.plain (OpenSpec.ofChange modmergeSettleSpec)) modmergeSettleCard

/-- THE TIED CARD OF 'cordwoodlaw33.ModmergeFewer'. -/
def modmergeFewerCard : Claim7 := { stood := { row := modmergeFewerRow, standIns := [], harness := (true, "039baf9df9c1bd4b7dc723abb2a15e15520ec50a2d14b96d4cebc2561dff1a6e"), looks := false }, kinds := [], alts := [], laidByText := true, laidKinds := [.data, .data, .data, .data, .pinned], laidTests := true, laidLooks := .later }
def ModmergeFewerCardSaid : Prop := Claim7.holds Tryz.pinned (.plain (OpenSpec.ofChange modmergeFewerSpec)) modmergeFewerCard

/-- THE TIED CARD OF 'cordwoodlaw33.ModmergeRemoved'. -/
def modmergeRemovedCard : Claim7 := { stood := { row := modmergeRemovedRow, standIns := [], harness := (true, "039baf9df9c1bd4b7dc723abb2a15e15520ec50a2d14b96d4cebc2561dff1a6e"), looks := false }, kinds := [], alts := [], laidByText := true, laidKinds := [.data, .data, .data, .data, .pinned], laidTests := true, laidLooks := .later }
def ModmergeRemovedCardSaid : Prop := Claim7.holds Tryz.pinned (.plain (OpenSpec.ofChange modmergeRemovedSpec)) modmergeRemovedCard

/-- THE SECOND FORM's CARD OF 'cordwoodlaw33.ModmergeMerge'. -/
def modmergeMergeUptoCard : Claim7 := { stood := { row := modmergeMergeUptoRow, standIns := [], harness := (true, "039baf9df9c1bd4b7dc723abb2a15e15520ec50a2d14b96d4cebc2561dff1a6e"), looks := false }, kinds := [], alts := [], laidByText := true, laidKinds := [.data, .pinned], laidTests := true, laidLooks := .later }
def ModmergeMergeUptoCardSaid : Prop := Claim7.holds Tryz.pinned (.plain (OpenSpec.upto modmergeMergeSpec)) modmergeMergeUptoCard

/-- THE SECOND FORM's CARD OF 'cordwoodlaw33.ModmergeOneSide'. -/
def modmergeOneSideUptoCard : Claim7 := { stood := { row := modmergeOneSideUptoRow, standIns := [], harness := (true, "039baf9df9c1bd4b7dc723abb2a15e15520ec50a2d14b96d4cebc2561dff1a6e"), looks := false }, kinds := [], alts := [], laidByText := true, laidKinds := [.data, .pinned], laidTests := true, laidLooks := .later }
def ModmergeOneSideUptoCardSaid : Prop := Claim7.holds Tryz.pinned (.plain (OpenSpec.upto modmergeOneSideSpec)) modmergeOneSideUptoCard

/-- THE SECOND FORM's CARD OF 'cordwoodlaw33.ModmergeSymmetry'. -/
def modmergeSymmetryUptoCard : Claim7 := { stood := { row := modmergeSymmetryUptoRow, standIns := [], harness := (true, "039baf9df9c1bd4b7dc723abb2a15e15520ec50a2d14b96d4cebc2561dff1a6e"), looks := false }, kinds := [], alts := [], laidByText := true, laidKinds := [.data, .pinned], laidTests := true, laidLooks := .later }
def ModmergeSymmetryUptoCardSaid : Prop := Claim7.holds Tryz.pinned (.plain (OpenSpec.upto modmergeSymmetrySpec)) modmergeSymmetryUptoCard

/-- THE SECOND FORM's CARD OF 'cordwoodlaw33.ModmergeDecls'. -/
def modmergeDeclsUptoCard : Claim7 := { stood := { row := modmergeDeclsUptoRow, standIns := [], harness := (true, "039baf9df9c1bd4b7dc723abb2a15e15520ec50a2d14b96d4cebc2561dff1a6e"), looks := false }, kinds := [], alts := [], laidByText := true, laidKinds := [.data, .pinned], laidTests := true, laidLooks := .later }
def ModmergeDeclsUptoCardSaid : Prop := Claim7.holds Tryz.pinned (.plain (OpenSpec.upto modmergeDeclsSpec)) modmergeDeclsUptoCard

/-- THE SECOND FORM's CARD OF 'cordwoodlaw33.ModmergeAgain'. -/
def modmergeAgainUptoCard : Claim7 := { stood := { row := modmergeAgainUptoRow, standIns := [], harness := (true, "039baf9df9c1bd4b7dc723abb2a15e15520ec50a2d14b96d4cebc2561dff1a6e"), looks := false }, kinds := [], alts := [], laidByText := true, laidKinds := [.data, .pinned], laidTests := true, laidLooks := .later }
def ModmergeAgainUptoCardSaid : Prop := Claim7.holds Tryz.pinned (.plain (OpenSpec.upto modmergeAgainSpec)) modmergeAgainUptoCard

/-- THE SECOND FORM's CARD OF 'cordwoodlaw33.ModmergeFields'. -/
def modmergeFieldsUptoCard : Claim7 := { stood := { row := modmergeFieldsUptoRow, standIns := [], harness := (true, "039baf9df9c1bd4b7dc723abb2a15e15520ec50a2d14b96d4cebc2561dff1a6e"), looks := false }, kinds := [], alts := [], laidByText := true, laidKinds := [.data, .pinned], laidTests := true, laidLooks := .later }
def ModmergeFieldsUptoCardSaid : Prop := Claim7.holds Tryz.pinned (.plain (OpenSpec.upto modmergeFieldsSpec)) modmergeFieldsUptoCard

/-- THE SECOND FORM's CARD OF 'cordwoodlaw33.ModmergeSettle'. -/
def modmergeSettleUptoCard : Claim7 := { stood := { row := modmergeSettleUptoRow, standIns := [], harness := (true, "039baf9df9c1bd4b7dc723abb2a15e15520ec50a2d14b96d4cebc2561dff1a6e"), looks := false }, kinds := [], alts := [], laidByText := true, laidKinds := [.data, .data, .data, .data, .pinned], laidTests := true, laidLooks := .later }
def ModmergeSettleUptoCardSaid : Prop := Claim7.holds Tryz.pinned (.plain (OpenSpec.upto modmergeSettleSpec)) modmergeSettleUptoCard

/-- THE SECOND FORM's CARD OF 'cordwoodlaw33.ModmergeFewer'. -/
def modmergeFewerUptoCard : Claim7 := { stood := { row := modmergeFewerUptoRow, standIns := [], harness := (true, "039baf9df9c1bd4b7dc723abb2a15e15520ec50a2d14b96d4cebc2561dff1a6e"), looks := false }, kinds := [], alts := [], laidByText := true, laidKinds := [.data, .data, .data, .data, .pinned], laidTests := true, laidLooks := .later }
def ModmergeFewerUptoCardSaid : Prop := Claim7.holds Tryz.pinned (.plain (OpenSpec.upto modmergeFewerSpec)) modmergeFewerUptoCard

/-- THE SECOND FORM's CARD OF 'cordwoodlaw33.ModmergeRemoved'. -/
def modmergeRemovedUptoCard : Claim7 := { stood := { row := modmergeRemovedUptoRow, standIns := [], harness := (true, "039baf9df9c1bd4b7dc723abb2a15e15520ec50a2d14b96d4cebc2561dff1a6e"), looks := false }, kinds := [], alts := [], laidByText := true, laidKinds := [.data, .data, .data, .data, .pinned], laidTests := true, laidLooks := .later }
def ModmergeRemovedUptoCardSaid : Prop := Claim7.holds Tryz.pinned (.plain (OpenSpec.upto modmergeRemovedSpec)) modmergeRemovedUptoCard
end Rows
end Go.Proofs.YtlgnedahnaojlaaGreatDoor
