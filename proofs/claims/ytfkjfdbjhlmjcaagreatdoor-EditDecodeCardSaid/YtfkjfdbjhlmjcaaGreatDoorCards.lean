/-
  DERIVED. GIVEN WITH THE SEED: THE CARDS: each row of YtfkjfdbjhlmjcaaGreatDoorRows.lean that lists a variable, with what it lists TIED to the program's text (the seventh form; the later family's looks); each row that meets fmt, with fmt's text TOLD by the authors' own Lean function (tested against real Go, not proved from fmt's source: count such statements apart). THE CARD IS WHAT COUNTS. Prove the row's statement (the work); the ties are given (YtfkjfdbjhlmjcaaGreatDoorTie.lean); close each card by the builder's one call (the guide's Derived/Test/ToyasCard.lean, 'card_holds'). Laid BY PROGRAM, IN A SANDBOX (cutbox-door.mjs). By AI agents, Wed Nov 11 2026. No macro, syntax, notation, axiom, sorry.
-/
import Derived.Test.YtfkjfdbjhlmjcaaGreatDoorRows
import GoSem.ClaimSeven
namespace Go.Proofs.YtfkjfdbjhlmjcaaGreatDoor
namespace Rows

/-- THE TIED CARD OF 'cordwoodlaw34.EditApply'. -/
def editApplyCard : Claim7 := { stood := { row := editApplyRow, standIns := [], harness := (true, "1fb8da77f8e7aef279c9b7c8ad99d5a834d5845fd7ca813e77431b624d38dd9b"), looks := false }, kinds := [], alts := [], laidByText := true, laidKinds := [.data, .pinned], laidTests := true, laidLooks := .later }
def EditApplyCardSaid : Prop := Claim7.holds Tryz.pinned (.plain (OpenSpec.ofChange editApplySpec)) editApplyCard

/-- THE TIED CARD OF 'cordwoodlaw34.EditDiff'. -/
def editDiffCard : Claim7 := { stood := { row := editDiffRow, standIns := [], harness := (true, "1fb8da77f8e7aef279c9b7c8ad99d5a834d5845fd7ca813e77431b624d38dd9b"), looks := false }, kinds := [], alts := [], laidByText := true, laidKinds := [.data, .pinned], laidTests := true, laidLooks := .later }
def EditDiffCardSaid : Prop := Claim7.holds Tryz.pinned (.plain (OpenSpec.ofChange editDiffSpec)) editDiffCard

/-- THE TIED CARD OF 'cordwoodlaw34.EditCheck'. -/
def editCheckCard : Claim7 := { stood := { row := editCheckRow, standIns := [], harness := (true, "1fb8da77f8e7aef279c9b7c8ad99d5a834d5845fd7ca813e77431b624d38dd9b"), looks := false }, kinds := [], alts := [], laidByText := true, laidKinds := [.data, .pinned], laidTests := true, laidLooks := .later }
def EditCheckCardSaid : Prop := Claim7.holds Tryz.pinned (.plain (OpenSpec.ofChange editCheckSpec)) editCheckCard

/-- THE TIED CARD OF 'cordwoodlaw34.EditDecode'. -/
def editDecodeCard : Claim7 := { stood := { row := editDecodeRow, standIns := [], harness := (true, "1fb8da77f8e7aef279c9b7c8ad99d5a834d5845fd7ca813e77431b624d38dd9b"), looks := false }, kinds := [], alts := [], laidByText := true, laidKinds := [.data, .pinned], laidTests := true, laidLooks := .later }
def EditDecodeCardSaid : Prop := Claim7.holds Tryz.pinned (.plain (OpenSpec.ofChange editDecodeSpec)) editDecodeCard

/-- THE TIED CARD OF 'cordwoodlaw34.EditEncoding'. -/
def editEncodingCard : Claim7 := { stood := { row := editEncodingRow, standIns := [], harness := (true, "1fb8da77f8e7aef279c9b7c8ad99d5a834d5845fd7ca813e77431b624d38dd9b"), looks := false }, kinds := [], alts := [], laidByText := true, laidKinds := [.data, .pinned], laidTests := true, laidLooks := .later }
def EditEncodingCardSaid : Prop := Claim7.holds Tryz.pinned (.plain (OpenSpec.ofChange editEncodingSpec)) editEncodingCard

/-- THE SECOND FORM's CARD OF 'cordwoodlaw34.EditApply'. -/
def editApplyUptoCard : Claim7 := { stood := { row := editApplyUptoRow, standIns := [], harness := (true, "1fb8da77f8e7aef279c9b7c8ad99d5a834d5845fd7ca813e77431b624d38dd9b"), looks := false }, kinds := [], alts := [], laidByText := true, laidKinds := [.data, .pinned], laidTests := true, laidLooks := .later }
def EditApplyUptoCardSaid : Prop := Claim7.holds Tryz.pinned (.plain (OpenSpec.upto editApplySpec)) editApplyUptoCard

/-- THE SECOND FORM's CARD OF 'cordwoodlaw34.EditDiff'. -/
def editDiffUptoCard : Claim7 := { stood := { row := editDiffUptoRow, standIns := [], harness := (true, "1fb8da77f8e7aef279c9b7c8ad99d5a834d5845fd7ca813e77431b624d38dd9b"), looks := false }, kinds := [], alts := [], laidByText := true, laidKinds := [.data, .pinned], laidTests := true, laidLooks := .later }
def EditDiffUptoCardSaid : Prop := Claim7.holds Tryz.pinned (.plain (OpenSpec.upto editDiffSpec)) editDiffUptoCard

/-- THE SECOND FORM's CARD OF 'cordwoodlaw34.EditCheck'. -/
def editCheckUptoCard : Claim7 := { stood := { row := editCheckUptoRow, standIns := [], harness := (true, "1fb8da77f8e7aef279c9b7c8ad99d5a834d5845fd7ca813e77431b624d38dd9b"), looks := false }, kinds := [], alts := [], laidByText := true, laidKinds := [.data, .pinned], laidTests := true, laidLooks := .later }
def EditCheckUptoCardSaid : Prop := Claim7.holds Tryz.pinned (.plain (OpenSpec.upto editCheckSpec)) editCheckUptoCard

/-- THE SECOND FORM's CARD OF 'cordwoodlaw34.EditDecode'. -/
def editDecodeUptoCard : Claim7 := { stood := { row := editDecodeUptoRow, standIns := [], harness := (true, "1fb8da77f8e7aef279c9b7c8ad99d5a834d5845fd7ca813e77431b624d38dd9b"), looks := false }, kinds := [], alts := [], laidByText := true, laidKinds := [.data, .pinned], laidTests := true, laidLooks := .later }
def EditDecodeUptoCardSaid : Prop := Claim7.holds Tryz.pinned (.plain (OpenSpec.upto editDecodeSpec)) editDecodeUptoCard

/-- THE SECOND FORM's CARD OF 'cordwoodlaw34.EditEncoding'. -/
def editEncodingUptoCard : Claim7 := { stood := { row := editEncodingUptoRow, standIns := [], harness := (true, "1fb8da77f8e7aef279c9b7c8ad99d5a834d5845fd7ca813e77431b624d38dd9b"), looks := false }, kinds := [], alts := [], laidByText := true, laidKinds := [.data, .pinned], laidTests := true, laidLooks := .later }
def EditEncodingUptoCardSaid : Prop := Claim7.holds Tryz.pinned (.plain (OpenSpec.upto editEncodingSpec)) editEncodingUptoCard
end Rows
end Go.Proofs.YtfkjfdbjhlmjcaaGreatDoor
