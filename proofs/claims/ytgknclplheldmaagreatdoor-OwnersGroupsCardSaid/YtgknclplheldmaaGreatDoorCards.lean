/-
  DERIVED. GIVEN WITH THE SEED: THE CARDS: each row of YtgknclplheldmaaGreatDoorRows.lean that lists a variable, with what it lists TIED to the program's text (the seventh form; the later family's looks); each row that meets fmt, with fmt's text TOLD by the authors' own Lean function (tested against real Go, not proved from fmt's source: count such statements apart). THE CARD IS WHAT COUNTS. Prove the row's statement (the work); the ties are given (YtgknclplheldmaaGreatDoorTie.lean); close each card by the builder's one call (the guide's Derived/Test/ToyasCard.lean, 'card_holds'). Laid BY PROGRAM, IN A SANDBOX (cutbox-door.mjs). By AI agents, Wed Nov 11 2026. No macro, syntax, notation, axiom, sorry.
-/
import Derived.Test.YtgknclplheldmaaGreatDoorRows
import GoSem.ClaimSeven
namespace Go.Proofs.YtgknclplheldmaaGreatDoor
namespace Rows

/-- THE TIED CARD OF 'cordwoodlaw54.OwnersGroups'. -/
def ownersGroupsCard : Claim7 := { stood := { row := ownersGroupsRow, standIns := [], harness := (true, "c7f497fcef28e15b549bd76f2043d2dbc2e19b05445a43df83aefbe0ce97b539"), looks := false }, kinds := [], alts := [], laidByText := true, laidKinds := [.data, .pinned], laidTests := true, laidLooks := .later }
def OwnersGroupsCardSaid : Prop := Claim7.holds Tryz.pinned (.plain (OpenSpec.ofChange ownersGroupsSpec)) ownersGroupsCard

/-- THE TIED CARD OF 'cordwoodlaw54.OwnersRequired'. -/
def ownersRequiredCard : Claim7 := { stood := { row := ownersRequiredRow, standIns := [], harness := (true, "c7f497fcef28e15b549bd76f2043d2dbc2e19b05445a43df83aefbe0ce97b539"), looks := false }, kinds := [], alts := [], laidByText := true, laidKinds := [.data, .pinned], laidTests := true, laidLooks := .later }
def OwnersRequiredCardSaid : Prop := Claim7.holds Tryz.pinned (.plain (OpenSpec.ofChange ownersRequiredSpec)) ownersRequiredCard

/-- THE TIED CARD OF 'cordwoodlaw54.OwnersApproval'. -/
def ownersApprovalCard : Claim7 := { stood := { row := ownersApprovalRow, standIns := [], harness := (true, "c7f497fcef28e15b549bd76f2043d2dbc2e19b05445a43df83aefbe0ce97b539"), looks := false }, kinds := [], alts := [], laidByText := true, laidKinds := [.data, .pinned], laidTests := true, laidLooks := .later }
def OwnersApprovalCardSaid : Prop := Claim7.holds Tryz.pinned (.plain (OpenSpec.ofChange ownersApprovalSpec)) ownersApprovalCard

/-- THE TIED CARD OF 'cordwoodlaw54.OwnersNearest'. -/
def ownersNearestCard : Claim7 := { stood := { row := ownersNearestRow, standIns := [], harness := (true, "c7f497fcef28e15b549bd76f2043d2dbc2e19b05445a43df83aefbe0ce97b539"), looks := false }, kinds := [], alts := [], laidByText := true, laidKinds := [.data, .pinned], laidTests := true, laidLooks := .later }
def OwnersNearestCardSaid : Prop := Claim7.holds Tryz.pinned (.plain (OpenSpec.ofChange ownersNearestSpec)) ownersNearestCard

/-- THE SECOND FORM's CARD OF 'cordwoodlaw54.OwnersGroups'. -/
def ownersGroupsUptoCard : Claim7 := { stood := { row := ownersGroupsUptoRow, standIns := [], harness := (true, "c7f497fcef28e15b549bd76f2043d2dbc2e19b05445a43df83aefbe0ce97b539"), looks := false }, kinds := [], alts := [], laidByText := true, laidKinds := [.data, .pinned], laidTests := true, laidLooks := .later }
def OwnersGroupsUptoCardSaid : Prop := Claim7.holds Tryz.pinned (.plain (OpenSpec.upto ownersGroupsSpec)) ownersGroupsUptoCard

/-- THE SECOND FORM's CARD OF 'cordwoodlaw54.OwnersRequired'. -/
def ownersRequiredUptoCard : Claim7 := { stood := { row := ownersRequiredUptoRow, standIns := [], harness := (true, "c7f497fcef28e15b549bd76f2043d2dbc2e19b05445a43df83aefbe0ce97b539"), looks := false }, kinds := [], alts := [], laidByText := true, laidKinds := [.data, .pinned], laidTests := true, laidLooks := .later }
def OwnersRequiredUptoCardSaid : Prop := Claim7.holds Tryz.pinned (.plain (OpenSpec.upto ownersRequiredSpec)) ownersRequiredUptoCard

/-- THE SECOND FORM's CARD OF 'cordwoodlaw54.OwnersApproval'. -/
def ownersApprovalUptoCard : Claim7 := { stood := { row := ownersApprovalUptoRow, standIns := [], harness := (true, "c7f497fcef28e15b549bd76f2043d2dbc2e19b05445a43df83aefbe0ce97b539"), looks := false }, kinds := [], alts := [], laidByText := true, laidKinds := [.data, .pinned], laidTests := true, laidLooks := .later }
def OwnersApprovalUptoCardSaid : Prop := Claim7.holds Tryz.pinned (.plain (OpenSpec.upto ownersApprovalSpec)) ownersApprovalUptoCard

/-- THE SECOND FORM's CARD OF 'cordwoodlaw54.OwnersNearest'. -/
def ownersNearestUptoCard : Claim7 := { stood := { row := ownersNearestUptoRow, standIns := [], harness := (true, "c7f497fcef28e15b549bd76f2043d2dbc2e19b05445a43df83aefbe0ce97b539"), looks := false }, kinds := [], alts := [], laidByText := true, laidKinds := [.data, .pinned], laidTests := true, laidLooks := .later }
def OwnersNearestUptoCardSaid : Prop := Claim7.holds Tryz.pinned (.plain (OpenSpec.upto ownersNearestSpec)) ownersNearestUptoCard
end Rows
end Go.Proofs.YtgknclplheldmaaGreatDoor
