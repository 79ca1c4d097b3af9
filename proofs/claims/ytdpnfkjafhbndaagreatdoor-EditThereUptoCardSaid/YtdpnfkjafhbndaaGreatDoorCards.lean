/-
  DERIVED. GIVEN WITH THE SEED: THE CARDS: each row of YtdpnfkjafhbndaaGreatDoorRows.lean that lists a variable, with what it lists TIED to the program's text (the seventh form; the later family's looks); each row that meets fmt, with fmt's text TOLD by the authors' own Lean function (tested against real Go, not proved from fmt's source: count such statements apart). THE CARD IS WHAT COUNTS. Prove the row's statement (the work); the ties are given (YtdpnfkjafhbndaaGreatDoorTie.lean); close each card by the builder's one call (the guide's Derived/Test/ToyasCard.lean, 'card_holds'). Laid BY PROGRAM, IN A SANDBOX (cutbox-door.mjs). By AI agents, Wed Nov 11 2026. No macro, syntax, notation, axiom, sorry.
-/
import Derived.Test.YtdpnfkjafhbndaaGreatDoorRows
import GoSem.ClaimSeven
namespace Go.Proofs.YtdpnfkjafhbndaaGreatDoor
namespace Rows

/-- THE TIED CARD OF 'cordwoodlaw34.EditApply'. -/
def editApplyCard : Claim7 := { stood := { row := editApplyRow, standIns := [], harness := (true, "b0a0f6c8c1fcdf02122f2bf5015794d62a438abecac28c27a776cdbfc4104286"), looks := false }, kinds := [], alts := [], laidByText := true, laidKinds := [.data, .pinned], laidTests := true, laidLooks := .later }
def EditApplyCardSaid : Prop := Claim7.holds Tryz.pinned (.plain (OpenSpec.ofChange editApplySpec)) editApplyCard

/-- THE TIED CARD OF 'cordwoodlaw34.EditSteps'. -/
def editStepsCard : Claim7 := { stood := { row := editStepsRow, standIns := [], harness := (true, "b0a0f6c8c1fcdf02122f2bf5015794d62a438abecac28c27a776cdbfc4104286"), looks := false }, kinds := [], alts := [], laidByText := true, laidKinds := [.data, .pinned], laidTests := true, laidLooks := .later }
def EditStepsCardSaid : Prop := Claim7.holds Tryz.pinned (.plain (OpenSpec.ofChange editStepsSpec)) editStepsCard

/-- THE TIED CARD OF 'cordwoodlaw35.CommuteOrder'. -/
def commuteOrderCard : Claim7 := { stood := { row := commuteOrderRow, standIns := [], harness := (true, "b0a0f6c8c1fcdf02122f2bf5015794d62a438abecac28c27a776cdbfc4104286"), looks := false }, kinds := [], alts := [], laidByText := true, laidKinds := [.data, .pinned], laidTests := true, laidLooks := .later }
def CommuteOrderCardSaid : Prop := Claim7.holds Tryz.pinned (.plain (OpenSpec.ofChange commuteOrderSpec)) commuteOrderCard

/-- THE TIED CARD OF 'cordwoodlaw35.CommutePicks'. -/
def commutePicksCard : Claim7 := { stood := { row := commutePicksRow, standIns := [], harness := (true, "b0a0f6c8c1fcdf02122f2bf5015794d62a438abecac28c27a776cdbfc4104286"), looks := false }, kinds := [], alts := [], laidByText := true, laidKinds := [.data, .pinned], laidTests := true, laidLooks := .later }
def CommutePicksCardSaid : Prop := Claim7.holds Tryz.pinned (.plain (OpenSpec.ofChange commutePicksSpec)) commutePicksCard

/-- THE TIED CARD OF 'cordwoodlaw34.EditDiff'. -/
def editDiffCard : Claim7 := { stood := { row := editDiffRow, standIns := [], harness := (true, "b0a0f6c8c1fcdf02122f2bf5015794d62a438abecac28c27a776cdbfc4104286"), looks := false }, kinds := [], alts := [], laidByText := true, laidKinds := [.data, .pinned], laidTests := true, laidLooks := .later }
def EditDiffCardSaid : Prop := Claim7.holds Tryz.pinned (.plain (OpenSpec.ofChange editDiffSpec)) editDiffCard

/-- THE TIED CARD OF 'cordwoodlaw34.EditThere'. -/
def editThereCard : Claim7 := { stood := { row := editThereRow, standIns := [], harness := (true, "b0a0f6c8c1fcdf02122f2bf5015794d62a438abecac28c27a776cdbfc4104286"), looks := false }, kinds := [], alts := [], laidByText := true, laidKinds := [.data, .pinned], laidTests := true, laidLooks := .later }
def EditThereCardSaid : Prop := Claim7.holds Tryz.pinned (.plain (OpenSpec.ofChange editThereSpec)) editThereCard

/-- THE TIED CARD OF 'cordwoodlaw34.EditTwice'. -/
def editTwiceCard : Claim7 := { stood := { row := editTwiceRow, standIns := [], harness := (true, "b0a0f6c8c1fcdf02122f2bf5015794d62a438abecac28c27a776cdbfc4104286"), looks := false }, kinds := [], alts := [], laidByText := true, laidKinds := [.data, .pinned], laidTests := true, laidLooks := .later }
def EditTwiceCardSaid : Prop := Claim7.holds Tryz.pinned (.plain (OpenSpec.ofChange editTwiceSpec)) editTwiceCard

/-- THE TIED CARD OF 'cordwoodlaw35.CommuteDrops'. -/
def commuteDropsCard : Claim7 := { stood := { row := commuteDropsRow, standIns := [], harness := (true, "b0a0f6c8c1fcdf02122f2bf5015794d62a438abecac28c27a776cdbfc4104286"), looks := false }, kinds := [], alts := [], laidByText := true, laidKinds := [.data, .pinned], laidTests := true, laidLooks := .later }
def CommuteDropsCardSaid : Prop := Claim7.holds Tryz.pinned (.plain (OpenSpec.ofChange commuteDropsSpec)) commuteDropsCard

/-- THE TIED CARD OF 'cordwoodlaw35.CommuteMoves'. -/
def commuteMovesCard : Claim7 := { stood := { row := commuteMovesRow, standIns := [], harness := (true, "b0a0f6c8c1fcdf02122f2bf5015794d62a438abecac28c27a776cdbfc4104286"), looks := false }, kinds := [], alts := [], laidByText := true, laidKinds := [.data, .pinned], laidTests := true, laidLooks := .later }
def CommuteMovesCardSaid : Prop := Claim7.holds Tryz.pinned (.plain (OpenSpec.ofChange commuteMovesSpec)) commuteMovesCard

/-- THE TIED CARD OF 'cordwoodlaw33.ModmergeSettle'. -/
def modmergeSettleCard : Claim7 := { stood := { row := modmergeSettleRow, standIns := [], harness := (true, "b0a0f6c8c1fcdf02122f2bf5015794d62a438abecac28c27a776cdbfc4104286"), looks := false }, kinds := [], alts := [], laidByText := true, laidKinds := [.data, .data, .data, .data, .pinned], laidTests := true, laidLooks := .later }
def ModmergeSettleCardSaid : Prop := Claim7.holds Tryz.pinned (.plain (OpenSpec.ofChange modmergeSettleSpec)) modmergeSettleCard

/-- THE TIED CARD OF 'cordwoodlaw33.ModmergeRemoved'. -/
def modmergeRemovedCard : Claim7 := { stood := { row := modmergeRemovedRow, standIns := [], harness := (true, "b0a0f6c8c1fcdf02122f2bf5015794d62a438abecac28c27a776cdbfc4104286"), looks := false }, kinds := [], alts := [], laidByText := true, laidKinds := [.data, .data, .data, .data, .pinned], laidTests := true, laidLooks := .later }
def ModmergeRemovedCardSaid : Prop := Claim7.holds Tryz.pinned (.plain (OpenSpec.ofChange modmergeRemovedSpec)) modmergeRemovedCard

/-- THE SECOND FORM's CARD OF 'cordwoodlaw34.EditApply'. -/
def editApplyUptoCard : Claim7 := { stood := { row := editApplyUptoRow, standIns := [], harness := (true, "b0a0f6c8c1fcdf02122f2bf5015794d62a438abecac28c27a776cdbfc4104286"), looks := false }, kinds := [], alts := [], laidByText := true, laidKinds := [.data, .pinned], laidTests := true, laidLooks := .later }
def EditApplyUptoCardSaid : Prop := Claim7.holds Tryz.pinned (.plain (OpenSpec.upto editApplySpec)) editApplyUptoCard

/-- THE SECOND FORM's CARD OF 'cordwoodlaw34.EditSteps'. -/
def editStepsUptoCard : Claim7 := { stood := { row := editStepsUptoRow, standIns := [], harness := (true, "b0a0f6c8c1fcdf02122f2bf5015794d62a438abecac28c27a776cdbfc4104286"), looks := false }, kinds := [], alts := [], laidByText := true, laidKinds := [.data, .pinned], laidTests := true, laidLooks := .later }
def EditStepsUptoCardSaid : Prop := Claim7.holds Tryz.pinned (.plain (OpenSpec.upto editStepsSpec)) editStepsUptoCard

/-- THE SECOND FORM's CARD OF 'cordwoodlaw35.CommuteOrder'. -/
def commuteOrderUptoCard : Claim7 := { stood := { row := commuteOrderUptoRow, standIns := [], harness := (true, "b0a0f6c8c1fcdf02122f2bf5015794d62a438abecac28c27a776cdbfc4104286"), looks := false }, kinds := [], alts := [], laidByText := true, laidKinds := [.data, .pinned], laidTests := true, laidLooks := .later }
def CommuteOrderUptoCardSaid : Prop := Claim7.holds Tryz.pinned (.plain (OpenSpec.upto commuteOrderSpec)) commuteOrderUptoCard

/-- THE SECOND FORM's CARD OF 'cordwoodlaw35.CommutePicks'. -/
def commutePicksUptoCard : Claim7 := { stood := { row := commutePicksUptoRow, standIns := [], harness := (true, "b0a0f6c8c1fcdf02122f2bf5015794d62a438abecac28c27a776cdbfc4104286"), looks := false }, kinds := [], alts := [], laidByText := true, laidKinds := [.data, .pinned], laidTests := true, laidLooks := .later }
def CommutePicksUptoCardSaid : Prop := Claim7.holds Tryz.pinned (.plain (OpenSpec.upto commutePicksSpec)) commutePicksUptoCard

/-- THE SECOND FORM's CARD OF 'cordwoodlaw34.EditDiff'. -/
def editDiffUptoCard : Claim7 := { stood := { row := editDiffUptoRow, standIns := [], harness := (true, "b0a0f6c8c1fcdf02122f2bf5015794d62a438abecac28c27a776cdbfc4104286"), looks := false }, kinds := [], alts := [], laidByText := true, laidKinds := [.data, .pinned], laidTests := true, laidLooks := .later }
def EditDiffUptoCardSaid : Prop := Claim7.holds Tryz.pinned (.plain (OpenSpec.upto editDiffSpec)) editDiffUptoCard

/-- THE SECOND FORM's CARD OF 'cordwoodlaw34.EditThere'. -/
def editThereUptoCard : Claim7 := { stood := { row := editThereUptoRow, standIns := [], harness := (true, "b0a0f6c8c1fcdf02122f2bf5015794d62a438abecac28c27a776cdbfc4104286"), looks := false }, kinds := [], alts := [], laidByText := true, laidKinds := [.data, .pinned], laidTests := true, laidLooks := .later }
def EditThereUptoCardSaid : Prop := Claim7.holds Tryz.pinned (.plain (OpenSpec.upto editThereSpec)) editThereUptoCard

/-- THE SECOND FORM's CARD OF 'cordwoodlaw34.EditTwice'. -/
def editTwiceUptoCard : Claim7 := { stood := { row := editTwiceUptoRow, standIns := [], harness := (true, "b0a0f6c8c1fcdf02122f2bf5015794d62a438abecac28c27a776cdbfc4104286"), looks := false }, kinds := [], alts := [], laidByText := true, laidKinds := [.data, .pinned], laidTests := true, laidLooks := .later }
def EditTwiceUptoCardSaid : Prop := Claim7.holds Tryz.pinned (.plain (OpenSpec.upto editTwiceSpec)) editTwiceUptoCard

/-- THE SECOND FORM's CARD OF 'cordwoodlaw35.CommuteDrops'. -/
def commuteDropsUptoCard : Claim7 := { stood := { row := commuteDropsUptoRow, standIns := [], harness := (true, "b0a0f6c8c1fcdf02122f2bf5015794d62a438abecac28c27a776cdbfc4104286"), looks := false }, kinds := [], alts := [], laidByText := true, laidKinds := [.data, .pinned], laidTests := true, laidLooks := .later }
def CommuteDropsUptoCardSaid : Prop := Claim7.holds Tryz.pinned (.plain (OpenSpec.upto commuteDropsSpec)) commuteDropsUptoCard

/-- THE SECOND FORM's CARD OF 'cordwoodlaw35.CommuteMoves'. -/
def commuteMovesUptoCard : Claim7 := { stood := { row := commuteMovesUptoRow, standIns := [], harness := (true, "b0a0f6c8c1fcdf02122f2bf5015794d62a438abecac28c27a776cdbfc4104286"), looks := false }, kinds := [], alts := [], laidByText := true, laidKinds := [.data, .pinned], laidTests := true, laidLooks := .later }
def CommuteMovesUptoCardSaid : Prop := Claim7.holds Tryz.pinned (.plain (OpenSpec.upto commuteMovesSpec)) commuteMovesUptoCard

/-- THE SECOND FORM's CARD OF 'cordwoodlaw33.ModmergeSettle'. -/
def modmergeSettleUptoCard : Claim7 := { stood := { row := modmergeSettleUptoRow, standIns := [], harness := (true, "b0a0f6c8c1fcdf02122f2bf5015794d62a438abecac28c27a776cdbfc4104286"), looks := false }, kinds := [], alts := [], laidByText := true, laidKinds := [.data, .data, .data, .data, .pinned], laidTests := true, laidLooks := .later }
def ModmergeSettleUptoCardSaid : Prop := Claim7.holds Tryz.pinned (.plain (OpenSpec.upto modmergeSettleSpec)) modmergeSettleUptoCard

/-- THE SECOND FORM's CARD OF 'cordwoodlaw33.ModmergeRemoved'. -/
def modmergeRemovedUptoCard : Claim7 := { stood := { row := modmergeRemovedUptoRow, standIns := [], harness := (true, "b0a0f6c8c1fcdf02122f2bf5015794d62a438abecac28c27a776cdbfc4104286"), looks := false }, kinds := [], alts := [], laidByText := true, laidKinds := [.data, .data, .data, .data, .pinned], laidTests := true, laidLooks := .later }
def ModmergeRemovedUptoCardSaid : Prop := Claim7.holds Tryz.pinned (.plain (OpenSpec.upto modmergeRemovedSpec)) modmergeRemovedUptoCard
end Rows
end Go.Proofs.YtdpnfkjafhbndaaGreatDoor
