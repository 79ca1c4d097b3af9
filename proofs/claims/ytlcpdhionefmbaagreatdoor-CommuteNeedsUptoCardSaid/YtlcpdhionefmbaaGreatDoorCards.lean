/-
  DERIVED. GIVEN WITH THE SEED: THE CARDS: each row of YtlcpdhionefmbaaGreatDoorRows.lean that lists a variable, with what it lists TIED to the program's text (the seventh form; the later family's looks); each row that meets fmt, with fmt's text TOLD by the authors' own Lean function (tested against real Go, not proved from fmt's source: count such statements apart). THE CARD IS WHAT COUNTS. Prove the row's statement (the work); the ties are given (YtlcpdhionefmbaaGreatDoorTie.lean); close each card by the builder's one call (the guide's Derived/Test/ToyasCard.lean, 'card_holds'). Laid BY PROGRAM, IN A SANDBOX (cutbox-door.mjs). By AI agents, Wed Nov 11 2026. No macro, syntax, notation, axiom, sorry.
-/
import Derived.Test.YtlcpdhionefmbaaGreatDoorRows
import GoSem.ClaimSeven
namespace Go.Proofs.YtlcpdhionefmbaaGreatDoor
namespace Rows

/-- THE TIED CARD OF 'cordwoodlaw35.CommuteInverse'. -/
def commuteInverseCard : Claim7 := { stood := { row := commuteInverseRow, standIns := [], harness := (true, "5e22f9067ed20e24b63604e8217ecec5823ee86cdf9c45904f9b7f49627c13ef"), looks := false }, kinds := [], alts := [], laidByText := true, laidKinds := [.data, .pinned], laidTests := true, laidLooks := .later }
def CommuteInverseCardSaid : Prop := Claim7.holds Tryz.pinned (.plain (OpenSpec.ofChange commuteInverseSpec)) commuteInverseCard

/-- THE TIED CARD OF 'cordwoodlaw35.CommuteSwap'. -/
def commuteSwapCard : Claim7 := { stood := { row := commuteSwapRow, standIns := [], harness := (true, "5e22f9067ed20e24b63604e8217ecec5823ee86cdf9c45904f9b7f49627c13ef"), looks := false }, kinds := [], alts := [], laidByText := true, laidKinds := [.data, .pinned], laidTests := true, laidLooks := .later }
def CommuteSwapCardSaid : Prop := Claim7.holds Tryz.pinned (.plain (OpenSpec.ofChange commuteSwapSpec)) commuteSwapCard

/-- THE TIED CARD OF 'cordwoodlaw35.CommuteNeeds'. -/
def commuteNeedsCard : Claim7 := { stood := { row := commuteNeedsRow, standIns := [], harness := (true, "5e22f9067ed20e24b63604e8217ecec5823ee86cdf9c45904f9b7f49627c13ef"), looks := false }, kinds := [], alts := [], laidByText := true, laidKinds := [.data, .pinned], laidTests := true, laidLooks := .later }
def CommuteNeedsCardSaid : Prop := Claim7.holds Tryz.pinned (.plain (OpenSpec.ofChange commuteNeedsSpec)) commuteNeedsCard

/-- THE SECOND FORM's CARD OF 'cordwoodlaw35.CommuteInverse'. -/
def commuteInverseUptoCard : Claim7 := { stood := { row := commuteInverseUptoRow, standIns := [], harness := (true, "5e22f9067ed20e24b63604e8217ecec5823ee86cdf9c45904f9b7f49627c13ef"), looks := false }, kinds := [], alts := [], laidByText := true, laidKinds := [.data, .pinned], laidTests := true, laidLooks := .later }
def CommuteInverseUptoCardSaid : Prop := Claim7.holds Tryz.pinned (.plain (OpenSpec.upto commuteInverseSpec)) commuteInverseUptoCard

/-- THE SECOND FORM's CARD OF 'cordwoodlaw35.CommuteSwap'. -/
def commuteSwapUptoCard : Claim7 := { stood := { row := commuteSwapUptoRow, standIns := [], harness := (true, "5e22f9067ed20e24b63604e8217ecec5823ee86cdf9c45904f9b7f49627c13ef"), looks := false }, kinds := [], alts := [], laidByText := true, laidKinds := [.data, .pinned], laidTests := true, laidLooks := .later }
def CommuteSwapUptoCardSaid : Prop := Claim7.holds Tryz.pinned (.plain (OpenSpec.upto commuteSwapSpec)) commuteSwapUptoCard

/-- THE SECOND FORM's CARD OF 'cordwoodlaw35.CommuteNeeds'. -/
def commuteNeedsUptoCard : Claim7 := { stood := { row := commuteNeedsUptoRow, standIns := [], harness := (true, "5e22f9067ed20e24b63604e8217ecec5823ee86cdf9c45904f9b7f49627c13ef"), looks := false }, kinds := [], alts := [], laidByText := true, laidKinds := [.data, .pinned], laidTests := true, laidLooks := .later }
def CommuteNeedsUptoCardSaid : Prop := Claim7.holds Tryz.pinned (.plain (OpenSpec.upto commuteNeedsSpec)) commuteNeedsUptoCard
end Rows
end Go.Proofs.YtlcpdhionefmbaaGreatDoor
