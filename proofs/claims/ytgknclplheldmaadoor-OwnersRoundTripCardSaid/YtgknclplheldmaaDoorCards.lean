/-
  DERIVED. GIVEN WITH THE SEED: THE CARDS: each row of YtgknclplheldmaaDoorRows.lean that lists a variable, with what it lists TIED to the program's text (the seventh form; the later family's looks); each row that meets fmt, with fmt's text TOLD by the authors' own Lean function (tested against real Go, not proved from fmt's source: count such statements apart). THE CARD IS WHAT COUNTS. Prove the row's statement (the work); the ties are given (YtgknclplheldmaaDoorTie.lean); close each card by the builder's one call (the guide's Derived/Test/ToyasCard.lean, 'card_holds'). Laid BY PROGRAM, IN A SANDBOX (cutbox-door.mjs). By AI agents, Wed Nov 11 2026. No macro, syntax, notation, axiom, sorry.
-/
import Derived.Test.YtgknclplheldmaaDoorRows
import GoSem.ClaimSeven
namespace Go.Proofs.YtgknclplheldmaaDoor
namespace Rows

/-- THE TIED CARD OF 'cordwoodlaw54.OwnersParse'. -/
def ownersParseCard : Claim7 := { stood := { row := ownersParseRow, standIns := [], harness := (true, "d557586d3fe52852dc5604610469c36f34e22bcdc163a1b5aafa0427fe7a2ef7"), looks := false }, kinds := [], alts := [], laidByText := true, laidKinds := [.data, .pinned], laidTests := true, laidLooks := .later }
def OwnersParseCardSaid : Prop := Claim7.holds Tryd.pinned (.plain (OpenSpec.ofChange ownersParseSpec)) ownersParseCard

/-- THE TIED CARD OF 'cordwoodlaw54.OwnersFiles'. -/
def ownersFilesCard : Claim7 := { stood := { row := ownersFilesRow, standIns := [], harness := (true, "d557586d3fe52852dc5604610469c36f34e22bcdc163a1b5aafa0427fe7a2ef7"), looks := false }, kinds := [], alts := [], laidByText := true, laidKinds := [.data, .pinned], laidTests := true, laidLooks := .later }
def OwnersFilesCardSaid : Prop := Claim7.holds Tryd.pinned (.plain (OpenSpec.ofChange ownersFilesSpec)) ownersFilesCard

/-- THE TIED CARD OF 'cordwoodlaw54.OwnersPrint'. -/
def ownersPrintCard : Claim7 := { stood := { row := ownersPrintRow, standIns := [], harness := (true, "d557586d3fe52852dc5604610469c36f34e22bcdc163a1b5aafa0427fe7a2ef7"), looks := false }, kinds := [], alts := [], laidByText := true, laidKinds := [.data, .pinned], laidTests := true, laidLooks := .later }
def OwnersPrintCardSaid : Prop := Claim7.holds Tryd.pinned (.plain (OpenSpec.ofChange ownersPrintSpec)) ownersPrintCard

/-- THE TIED CARD OF 'cordwoodlaw54.OwnersValid'. -/
def ownersValidCard : Claim7 := { stood := { row := ownersValidRow, standIns := [], harness := (true, "d557586d3fe52852dc5604610469c36f34e22bcdc163a1b5aafa0427fe7a2ef7"), looks := false }, kinds := [], alts := [], laidByText := true, laidKinds := [.data, .pinned], laidTests := true, laidLooks := .later }
def OwnersValidCardSaid : Prop := Claim7.holds Tryd.pinned (.plain (OpenSpec.ofChange ownersValidSpec)) ownersValidCard

/-- THE TIED CARD OF 'cordwoodlaw54.OwnersRoundTrip'. -/
def ownersRoundTripCard : Claim7 := { stood := { row := ownersRoundTripRow, standIns := [], harness := (true, "d557586d3fe52852dc5604610469c36f34e22bcdc163a1b5aafa0427fe7a2ef7"), looks := false }, kinds := [], alts := [], laidByText := true, laidKinds := [.data, .listed, .data, .pinned], laidTests := true, laidLooks := .later }
def OwnersRoundTripCardSaid : Prop := Claim7.holds Tryd.pinned (.plain (OpenSpec.ofChange ownersRoundTripSpec)) ownersRoundTripCard

/-- THE SECOND FORM's CARD OF 'cordwoodlaw54.OwnersParse'. -/
def ownersParseUptoCard : Claim7 := { stood := { row := ownersParseUptoRow, standIns := [], harness := (true, "d557586d3fe52852dc5604610469c36f34e22bcdc163a1b5aafa0427fe7a2ef7"), looks := false }, kinds := [], alts := [], laidByText := true, laidKinds := [.data, .pinned], laidTests := true, laidLooks := .later }
def OwnersParseUptoCardSaid : Prop := Claim7.holds Tryd.pinned (.plain (OpenSpec.upto ownersParseSpec)) ownersParseUptoCard

/-- THE SECOND FORM's CARD OF 'cordwoodlaw54.OwnersFiles'. -/
def ownersFilesUptoCard : Claim7 := { stood := { row := ownersFilesUptoRow, standIns := [], harness := (true, "d557586d3fe52852dc5604610469c36f34e22bcdc163a1b5aafa0427fe7a2ef7"), looks := false }, kinds := [], alts := [], laidByText := true, laidKinds := [.data, .pinned], laidTests := true, laidLooks := .later }
def OwnersFilesUptoCardSaid : Prop := Claim7.holds Tryd.pinned (.plain (OpenSpec.upto ownersFilesSpec)) ownersFilesUptoCard

/-- THE SECOND FORM's CARD OF 'cordwoodlaw54.OwnersPrint'. -/
def ownersPrintUptoCard : Claim7 := { stood := { row := ownersPrintUptoRow, standIns := [], harness := (true, "d557586d3fe52852dc5604610469c36f34e22bcdc163a1b5aafa0427fe7a2ef7"), looks := false }, kinds := [], alts := [], laidByText := true, laidKinds := [.data, .pinned], laidTests := true, laidLooks := .later }
def OwnersPrintUptoCardSaid : Prop := Claim7.holds Tryd.pinned (.plain (OpenSpec.upto ownersPrintSpec)) ownersPrintUptoCard

/-- THE SECOND FORM's CARD OF 'cordwoodlaw54.OwnersValid'. -/
def ownersValidUptoCard : Claim7 := { stood := { row := ownersValidUptoRow, standIns := [], harness := (true, "d557586d3fe52852dc5604610469c36f34e22bcdc163a1b5aafa0427fe7a2ef7"), looks := false }, kinds := [], alts := [], laidByText := true, laidKinds := [.data, .pinned], laidTests := true, laidLooks := .later }
def OwnersValidUptoCardSaid : Prop := Claim7.holds Tryd.pinned (.plain (OpenSpec.upto ownersValidSpec)) ownersValidUptoCard

/-- THE SECOND FORM's CARD OF 'cordwoodlaw54.OwnersRoundTrip'. -/
def ownersRoundTripUptoCard : Claim7 := { stood := { row := ownersRoundTripUptoRow, standIns := [], harness := (true, "d557586d3fe52852dc5604610469c36f34e22bcdc163a1b5aafa0427fe7a2ef7"), looks := false }, kinds := [], alts := [], laidByText := true, laidKinds := [.data, .listed, .data, .pinned], laidTests := true, laidLooks := .later }
def OwnersRoundTripUptoCardSaid : Prop := Claim7.holds Tryd.pinned (.plain (OpenSpec.upto ownersRoundTripSpec)) ownersRoundTripUptoCard
end Rows
end Go.Proofs.YtgknclplheldmaaDoor
