/-
  DERIVED. GIVEN WITH THE SEED: THE CARDS: each row of YtidkpnabdfiilaaGreatDoorRows.lean that lists a variable, with what it lists TIED to the program's text (the seventh form; the later family's looks); each row that meets fmt, with fmt's text TOLD by the authors' own Lean function (tested against real Go, not proved from fmt's source: count such statements apart). THE CARD IS WHAT COUNTS. Prove the row's statement (the work); the ties are given (YtidkpnabdfiilaaGreatDoorTie.lean); close each card by the builder's one call (the guide's Derived/Test/ToyasCard.lean, 'card_holds'). Laid BY PROGRAM, IN A SANDBOX (cutbox-door.mjs). By AI agents, Wed Nov 11 2026. No macro, syntax, notation, axiom, sorry.
-/
import Derived.Test.YtidkpnabdfiilaaGreatDoorRows
import GoSem.ClaimSeven
namespace Go.Proofs.YtidkpnabdfiilaaGreatDoor
namespace Rows

/-- THE TIED CARD OF 'cordwoodlaw54.OwnersRequired'. -/
def ownersRequiredCard : Claim7 := { stood := { row := ownersRequiredRow, standIns := [], harness := (true, "3aca6b8205a7262dc2c056fa4c83f9a058cdffa875d37d2d7c8ff9d8cb27dc42"), looks := false }, kinds := [], alts := [], laidByText := true, laidKinds := [.data, .pinned], laidTests := true, laidLooks := .later }
def OwnersRequiredCardSaid : Prop := Claim7.holds Tryz.pinned (.plain (OpenSpec.ofChange ownersRequiredSpec)) ownersRequiredCard

/-- THE TIED CARD OF 'cordwoodlaw54.OwnersApproval'. -/
def ownersApprovalCard : Claim7 := { stood := { row := ownersApprovalRow, standIns := [], harness := (true, "3aca6b8205a7262dc2c056fa4c83f9a058cdffa875d37d2d7c8ff9d8cb27dc42"), looks := false }, kinds := [], alts := [], laidByText := true, laidKinds := [.data, .pinned], laidTests := true, laidLooks := .later }
def OwnersApprovalCardSaid : Prop := Claim7.holds Tryz.pinned (.plain (OpenSpec.ofChange ownersApprovalSpec)) ownersApprovalCard

/-- THE TIED CARD OF 'cordwoodlaw55.ApprovalSeen'. -/
def approvalSeenCard : Claim7 := { stood := { row := approvalSeenRow, standIns := [], harness := (true, "3aca6b8205a7262dc2c056fa4c83f9a058cdffa875d37d2d7c8ff9d8cb27dc42"), looks := false }, kinds := [], alts := [], laidByText := true, laidKinds := [.data, .pinned], laidTests := true, laidLooks := .later }
def ApprovalSeenCardSaid : Prop := Claim7.holds Tryz.pinned (.plain (OpenSpec.ofChange approvalSeenSpec)) approvalSeenCard

/-- THE TIED CARD OF 'cordwoodlaw55.ApprovalStands'. -/
def approvalStandsCard : Claim7 := { stood := { row := approvalStandsRow, standIns := [], harness := (true, "3aca6b8205a7262dc2c056fa4c83f9a058cdffa875d37d2d7c8ff9d8cb27dc42"), looks := false }, kinds := [], alts := [], laidByText := true, laidKinds := [.data, .pinned], laidTests := true, laidLooks := .later }
def ApprovalStandsCardSaid : Prop := Claim7.holds Tryz.pinned (.plain (OpenSpec.ofChange approvalStandsSpec)) approvalStandsCard

/-- THE TIED CARD OF 'cordwoodlaw55.ApprovalElsewhere'. -/
def approvalElsewhereCard : Claim7 := { stood := { row := approvalElsewhereRow, standIns := [], harness := (true, "3aca6b8205a7262dc2c056fa4c83f9a058cdffa875d37d2d7c8ff9d8cb27dc42"), looks := false }, kinds := [], alts := [], laidByText := true, laidKinds := [.data, .pinned], laidTests := true, laidLooks := .later }
def ApprovalElsewhereCardSaid : Prop := Claim7.holds Tryz.pinned (.plain (OpenSpec.ofChange approvalElsewhereSpec)) approvalElsewhereCard

/-- THE TIED CARD OF 'cordwoodlaw55.ApprovalEnough'. -/
def approvalEnoughCard : Claim7 := { stood := { row := approvalEnoughRow, standIns := [], harness := (true, "3aca6b8205a7262dc2c056fa4c83f9a058cdffa875d37d2d7c8ff9d8cb27dc42"), looks := false }, kinds := [], alts := [], laidByText := true, laidKinds := [.data, .pinned], laidTests := true, laidLooks := .later }
def ApprovalEnoughCardSaid : Prop := Claim7.holds Tryz.pinned (.plain (OpenSpec.ofChange approvalEnoughSpec)) approvalEnoughCard

/-- THE TIED CARD OF 'cordwoodlaw55.ApprovalMissing'. -/
def approvalMissingCard : Claim7 := { stood := { row := approvalMissingRow, standIns := [], harness := (true, "3aca6b8205a7262dc2c056fa4c83f9a058cdffa875d37d2d7c8ff9d8cb27dc42"), looks := false }, kinds := [], alts := [], laidByText := true, laidKinds := [.data, .pinned], laidTests := true, laidLooks := .later }
def ApprovalMissingCardSaid : Prop := Claim7.holds Tryz.pinned (.plain (OpenSpec.ofChange approvalMissingSpec)) approvalMissingCard

/-- THE TIED CARD OF 'cordwoodlaw55.ApprovalAll'. -/
def approvalAllCard : Claim7 := { stood := { row := approvalAllRow, standIns := [], harness := (true, "3aca6b8205a7262dc2c056fa4c83f9a058cdffa875d37d2d7c8ff9d8cb27dc42"), looks := false }, kinds := [], alts := [], laidByText := true, laidKinds := [.data, .pinned], laidTests := true, laidLooks := .later }
def ApprovalAllCardSaid : Prop := Claim7.holds Tryz.pinned (.plain (OpenSpec.ofChange approvalAllSpec)) approvalAllCard

/-- THE TIED CARD OF 'cordwoodlaw55.ApprovalFalls'. -/
def approvalFallsCard : Claim7 := { stood := { row := approvalFallsRow, standIns := [], harness := (true, "3aca6b8205a7262dc2c056fa4c83f9a058cdffa875d37d2d7c8ff9d8cb27dc42"), looks := false }, kinds := [], alts := [], laidByText := true, laidKinds := [.data, .pinned], laidTests := true, laidLooks := .later }
def ApprovalFallsCardSaid : Prop := Claim7.holds Tryz.pinned (.plain (OpenSpec.ofChange approvalFallsSpec)) approvalFallsCard

/-- THE TIED CARD OF 'cordwoodlaw54.OwnersNearest'. -/
def ownersNearestCard : Claim7 := { stood := { row := ownersNearestRow, standIns := [], harness := (true, "3aca6b8205a7262dc2c056fa4c83f9a058cdffa875d37d2d7c8ff9d8cb27dc42"), looks := false }, kinds := [], alts := [], laidByText := true, laidKinds := [.data, .pinned], laidTests := true, laidLooks := .later }
def OwnersNearestCardSaid : Prop := Claim7.holds Tryz.pinned (.plain (OpenSpec.ofChange ownersNearestSpec)) ownersNearestCard

/-- THE SECOND FORM's CARD OF 'cordwoodlaw54.OwnersRequired'. -/
def ownersRequiredUptoCard : Claim7 := { stood := { row := ownersRequiredUptoRow, standIns := [], harness := (true, "3aca6b8205a7262dc2c056fa4c83f9a058cdffa875d37d2d7c8ff9d8cb27dc42"), looks := false }, kinds := [], alts := [], laidByText := true, laidKinds := [.data, .pinned], laidTests := true, laidLooks := .later }
def OwnersRequiredUptoCardSaid : Prop := Claim7.holds Tryz.pinned (.plain (OpenSpec.upto ownersRequiredSpec)) ownersRequiredUptoCard

/-- THE SECOND FORM's CARD OF 'cordwoodlaw54.OwnersApproval'. -/
def ownersApprovalUptoCard : Claim7 := { stood := { row := ownersApprovalUptoRow, standIns := [], harness := (true, "3aca6b8205a7262dc2c056fa4c83f9a058cdffa875d37d2d7c8ff9d8cb27dc42"), looks := false }, kinds := [], alts := [], laidByText := true, laidKinds := [.data, .pinned], laidTests := true, laidLooks := .later }
def OwnersApprovalUptoCardSaid : Prop := Claim7.holds Tryz.pinned (.plain (OpenSpec.upto ownersApprovalSpec)) ownersApprovalUptoCard

/-- THE SECOND FORM's CARD OF 'cordwoodlaw55.ApprovalSeen'. -/
def approvalSeenUptoCard : Claim7 := { stood := { row := approvalSeenUptoRow, standIns := [], harness := (true, "3aca6b8205a7262dc2c056fa4c83f9a058cdffa875d37d2d7c8ff9d8cb27dc42"), looks := false }, kinds := [], alts := [], laidByText := true, laidKinds := [.data, .pinned], laidTests := true, laidLooks := .later }
def ApprovalSeenUptoCardSaid : Prop := Claim7.holds Tryz.pinned (.plain (OpenSpec.upto approvalSeenSpec)) approvalSeenUptoCard

/-- THE SECOND FORM's CARD OF 'cordwoodlaw55.ApprovalStands'. -/
def approvalStandsUptoCard : Claim7 := { stood := { row := approvalStandsUptoRow, standIns := [], harness := (true, "3aca6b8205a7262dc2c056fa4c83f9a058cdffa875d37d2d7c8ff9d8cb27dc42"), looks := false }, kinds := [], alts := [], laidByText := true, laidKinds := [.data, .pinned], laidTests := true, laidLooks := .later }
def ApprovalStandsUptoCardSaid : Prop := Claim7.holds Tryz.pinned (.plain (OpenSpec.upto approvalStandsSpec)) approvalStandsUptoCard

/-- THE SECOND FORM's CARD OF 'cordwoodlaw55.ApprovalElsewhere'. -/
def approvalElsewhereUptoCard : Claim7 := { stood := { row := approvalElsewhereUptoRow, standIns := [], harness := (true, "3aca6b8205a7262dc2c056fa4c83f9a058cdffa875d37d2d7c8ff9d8cb27dc42"), looks := false }, kinds := [], alts := [], laidByText := true, laidKinds := [.data, .pinned], laidTests := true, laidLooks := .later }
def ApprovalElsewhereUptoCardSaid : Prop := Claim7.holds Tryz.pinned (.plain (OpenSpec.upto approvalElsewhereSpec)) approvalElsewhereUptoCard

/-- THE SECOND FORM's CARD OF 'cordwoodlaw55.ApprovalEnough'. -/
def approvalEnoughUptoCard : Claim7 := { stood := { row := approvalEnoughUptoRow, standIns := [], harness := (true, "3aca6b8205a7262dc2c056fa4c83f9a058cdffa875d37d2d7c8ff9d8cb27dc42"), looks := false }, kinds := [], alts := [], laidByText := true, laidKinds := [.data, .pinned], laidTests := true, laidLooks := .later }
def ApprovalEnoughUptoCardSaid : Prop := Claim7.holds Tryz.pinned (.plain (OpenSpec.upto approvalEnoughSpec)) approvalEnoughUptoCard

/-- THE SECOND FORM's CARD OF 'cordwoodlaw55.ApprovalMissing'. -/
def approvalMissingUptoCard : Claim7 := { stood := { row := approvalMissingUptoRow, standIns := [], harness := (true, "3aca6b8205a7262dc2c056fa4c83f9a058cdffa875d37d2d7c8ff9d8cb27dc42"), looks := false }, kinds := [], alts := [], laidByText := true, laidKinds := [.data, .pinned], laidTests := true, laidLooks := .later }
def ApprovalMissingUptoCardSaid : Prop := Claim7.holds Tryz.pinned (.plain (OpenSpec.upto approvalMissingSpec)) approvalMissingUptoCard

/-- THE SECOND FORM's CARD OF 'cordwoodlaw55.ApprovalAll'. -/
def approvalAllUptoCard : Claim7 := { stood := { row := approvalAllUptoRow, standIns := [], harness := (true, "3aca6b8205a7262dc2c056fa4c83f9a058cdffa875d37d2d7c8ff9d8cb27dc42"), looks := false }, kinds := [], alts := [], laidByText := true, laidKinds := [.data, .pinned], laidTests := true, laidLooks := .later }
def ApprovalAllUptoCardSaid : Prop := Claim7.holds Tryz.pinned (.plain (OpenSpec.upto approvalAllSpec)) approvalAllUptoCard

/-- THE SECOND FORM's CARD OF 'cordwoodlaw55.ApprovalFalls'. -/
def approvalFallsUptoCard : Claim7 := { stood := { row := approvalFallsUptoRow, standIns := [], harness := (true, "3aca6b8205a7262dc2c056fa4c83f9a058cdffa875d37d2d7c8ff9d8cb27dc42"), looks := false }, kinds := [], alts := [], laidByText := true, laidKinds := [.data, .pinned], laidTests := true, laidLooks := .later }
def ApprovalFallsUptoCardSaid : Prop := Claim7.holds Tryz.pinned (.plain (OpenSpec.upto approvalFallsSpec)) approvalFallsUptoCard

/-- THE SECOND FORM's CARD OF 'cordwoodlaw54.OwnersNearest'. -/
def ownersNearestUptoCard : Claim7 := { stood := { row := ownersNearestUptoRow, standIns := [], harness := (true, "3aca6b8205a7262dc2c056fa4c83f9a058cdffa875d37d2d7c8ff9d8cb27dc42"), looks := false }, kinds := [], alts := [], laidByText := true, laidKinds := [.data, .pinned], laidTests := true, laidLooks := .later }
def OwnersNearestUptoCardSaid : Prop := Claim7.holds Tryz.pinned (.plain (OpenSpec.upto ownersNearestSpec)) ownersNearestUptoCard
end Rows
end Go.Proofs.YtidkpnabdfiilaaGreatDoor
