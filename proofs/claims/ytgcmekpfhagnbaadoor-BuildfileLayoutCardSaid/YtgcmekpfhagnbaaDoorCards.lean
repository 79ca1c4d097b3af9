/-
  DERIVED. GIVEN WITH THE SEED: THE CARDS: each row of YtgcmekpfhagnbaaDoorRows.lean that lists a variable, with what it lists TIED to the program's text (the seventh form; the later family's looks); each row that meets fmt, with fmt's text TOLD by the authors' own Lean function (tested against real Go, not proved from fmt's source: count such statements apart). THE CARD IS WHAT COUNTS. Prove the row's statement (the work); the ties are given (YtgcmekpfhagnbaaDoorTie.lean); close each card by the builder's one call (the guide's Derived/Test/ToyasCard.lean, 'card_holds'). Laid BY PROGRAM, IN A SANDBOX (cutbox-door.mjs). By AI agents, Wed Nov 11 2026. No macro, syntax, notation, axiom, sorry.
-/
import Derived.Test.YtgcmekpfhagnbaaDoorRows
import GoSem.ClaimSeven
namespace Go.Proofs.YtgcmekpfhagnbaaDoor
namespace Rows

/-- THE TIED CARD OF 'cordwoodlaw38.BuildfileParse'. -/
def buildfileParseCard : Claim7 := { stood := { row := buildfileParseRow, standIns := [], harness := (true, "1c2a386d73e9bfa4cc88ae812b5aaf5a2a228037392ca6deef30a3b4b436fe94"), looks := false }, kinds := [], alts := [], laidByText := true, laidKinds := [.data, .pinned], laidTests := true, laidLooks := .later }
def BuildfileParseCardSaid : Prop := Claim7.holds Tryd.pinned (.plain (OpenSpec.ofChange buildfileParseSpec)) buildfileParseCard

/-- THE TIED CARD OF 'cordwoodlaw38.BuildfilePrefixes'. -/
def buildfilePrefixesCard : Claim7 := { stood := { row := buildfilePrefixesRow, standIns := [], harness := (true, "1c2a386d73e9bfa4cc88ae812b5aaf5a2a228037392ca6deef30a3b4b436fe94"), looks := false }, kinds := [], alts := [], laidByText := true, laidKinds := [.data, .pinned], laidTests := true, laidLooks := .later }
def BuildfilePrefixesCardSaid : Prop := Claim7.holds Tryd.pinned (.plain (OpenSpec.ofChange buildfilePrefixesSpec)) buildfilePrefixesCard

/-- THE TIED CARD OF 'cordwoodlaw38.BuildfileJoin'. -/
def buildfileJoinCard : Claim7 := { stood := { row := buildfileJoinRow, standIns := [], harness := (true, "1c2a386d73e9bfa4cc88ae812b5aaf5a2a228037392ca6deef30a3b4b436fe94"), looks := false }, kinds := [], alts := [], laidByText := true, laidKinds := [.data, .pinned], laidTests := true, laidLooks := .later }
def BuildfileJoinCardSaid : Prop := Claim7.holds Tryd.pinned (.plain (OpenSpec.ofChange buildfileJoinSpec)) buildfileJoinCard

/-- THE TIED CARD OF 'cordwoodlaw38.BuildfileLabels'. -/
def buildfileLabelsCard : Claim7 := { stood := { row := buildfileLabelsRow, standIns := [], harness := (true, "1c2a386d73e9bfa4cc88ae812b5aaf5a2a228037392ca6deef30a3b4b436fe94"), looks := false }, kinds := [], alts := [], laidByText := true, laidKinds := [.data, .pinned], laidTests := true, laidLooks := .later }
def BuildfileLabelsCardSaid : Prop := Claim7.holds Tryd.pinned (.plain (OpenSpec.ofChange buildfileLabelsSpec)) buildfileLabelsCard

/-- THE TIED CARD OF 'cordwoodlaw38.BuildfileCheck'. -/
def buildfileCheckCard : Claim7 := { stood := { row := buildfileCheckRow, standIns := [], harness := (true, "1c2a386d73e9bfa4cc88ae812b5aaf5a2a228037392ca6deef30a3b4b436fe94"), looks := false }, kinds := [], alts := [], laidByText := true, laidKinds := [.data, .pinned], laidTests := true, laidLooks := .later }
def BuildfileCheckCardSaid : Prop := Claim7.holds Tryd.pinned (.plain (OpenSpec.ofChange buildfileCheckSpec)) buildfileCheckCard

/-- THE TIED CARD OF 'cordwoodlaw38.BuildfileRoundTrip'. -/
def buildfileRoundTripCard : Claim7 := { stood := { row := buildfileRoundTripRow, standIns := [], harness := (true, "1c2a386d73e9bfa4cc88ae812b5aaf5a2a228037392ca6deef30a3b4b436fe94"), looks := false }, kinds := [], alts := [], laidByText := true, laidKinds := [.data, .pinned], laidTests := true, laidLooks := .later }
def BuildfileRoundTripCardSaid : Prop := Claim7.holds Tryd.pinned (.plain (OpenSpec.ofChange buildfileRoundTripSpec)) buildfileRoundTripCard

/-- THE TIED CARD OF 'cordwoodlaw38.BuildfileValid'. -/
def buildfileValidCard : Claim7 := { stood := { row := buildfileValidRow, standIns := [], harness := (true, "1c2a386d73e9bfa4cc88ae812b5aaf5a2a228037392ca6deef30a3b4b436fe94"), looks := false }, kinds := [], alts := [], laidByText := true, laidKinds := [.data, .pinned], laidTests := true, laidLooks := .later }
def BuildfileValidCardSaid : Prop := Claim7.holds Tryd.pinned (.plain (OpenSpec.ofChange buildfileValidSpec)) buildfileValidCard

/-- THE TIED CARD OF 'cordwoodlaw38.BuildfileLayout'. -/
def buildfileLayoutCard : Claim7 := { stood := { row := buildfileLayoutRow, standIns := [], harness := (true, "1c2a386d73e9bfa4cc88ae812b5aaf5a2a228037392ca6deef30a3b4b436fe94"), looks := false }, kinds := [], alts := [], laidByText := true, laidKinds := [.data, .listed, .data, .pinned], laidTests := true, laidLooks := .later }
def BuildfileLayoutCardSaid : Prop := Claim7.holds Tryd.pinned (.plain (OpenSpec.ofChange buildfileLayoutSpec)) buildfileLayoutCard

/-- THE SECOND FORM's CARD OF 'cordwoodlaw38.BuildfileParse'. -/
def buildfileParseUptoCard : Claim7 := { stood := { row := buildfileParseUptoRow, standIns := [], harness := (true, "1c2a386d73e9bfa4cc88ae812b5aaf5a2a228037392ca6deef30a3b4b436fe94"), looks := false }, kinds := [], alts := [], laidByText := true, laidKinds := [.data, .pinned], laidTests := true, laidLooks := .later }
def BuildfileParseUptoCardSaid : Prop := Claim7.holds Tryd.pinned (.plain (OpenSpec.upto buildfileParseSpec)) buildfileParseUptoCard

/-- THE SECOND FORM's CARD OF 'cordwoodlaw38.BuildfilePrefixes'. -/
def buildfilePrefixesUptoCard : Claim7 := { stood := { row := buildfilePrefixesUptoRow, standIns := [], harness := (true, "1c2a386d73e9bfa4cc88ae812b5aaf5a2a228037392ca6deef30a3b4b436fe94"), looks := false }, kinds := [], alts := [], laidByText := true, laidKinds := [.data, .pinned], laidTests := true, laidLooks := .later }
def BuildfilePrefixesUptoCardSaid : Prop := Claim7.holds Tryd.pinned (.plain (OpenSpec.upto buildfilePrefixesSpec)) buildfilePrefixesUptoCard

/-- THE SECOND FORM's CARD OF 'cordwoodlaw38.BuildfileJoin'. -/
def buildfileJoinUptoCard : Claim7 := { stood := { row := buildfileJoinUptoRow, standIns := [], harness := (true, "1c2a386d73e9bfa4cc88ae812b5aaf5a2a228037392ca6deef30a3b4b436fe94"), looks := false }, kinds := [], alts := [], laidByText := true, laidKinds := [.data, .pinned], laidTests := true, laidLooks := .later }
def BuildfileJoinUptoCardSaid : Prop := Claim7.holds Tryd.pinned (.plain (OpenSpec.upto buildfileJoinSpec)) buildfileJoinUptoCard

/-- THE SECOND FORM's CARD OF 'cordwoodlaw38.BuildfileLabels'. -/
def buildfileLabelsUptoCard : Claim7 := { stood := { row := buildfileLabelsUptoRow, standIns := [], harness := (true, "1c2a386d73e9bfa4cc88ae812b5aaf5a2a228037392ca6deef30a3b4b436fe94"), looks := false }, kinds := [], alts := [], laidByText := true, laidKinds := [.data, .pinned], laidTests := true, laidLooks := .later }
def BuildfileLabelsUptoCardSaid : Prop := Claim7.holds Tryd.pinned (.plain (OpenSpec.upto buildfileLabelsSpec)) buildfileLabelsUptoCard

/-- THE SECOND FORM's CARD OF 'cordwoodlaw38.BuildfileCheck'. -/
def buildfileCheckUptoCard : Claim7 := { stood := { row := buildfileCheckUptoRow, standIns := [], harness := (true, "1c2a386d73e9bfa4cc88ae812b5aaf5a2a228037392ca6deef30a3b4b436fe94"), looks := false }, kinds := [], alts := [], laidByText := true, laidKinds := [.data, .pinned], laidTests := true, laidLooks := .later }
def BuildfileCheckUptoCardSaid : Prop := Claim7.holds Tryd.pinned (.plain (OpenSpec.upto buildfileCheckSpec)) buildfileCheckUptoCard

/-- THE SECOND FORM's CARD OF 'cordwoodlaw38.BuildfileRoundTrip'. -/
def buildfileRoundTripUptoCard : Claim7 := { stood := { row := buildfileRoundTripUptoRow, standIns := [], harness := (true, "1c2a386d73e9bfa4cc88ae812b5aaf5a2a228037392ca6deef30a3b4b436fe94"), looks := false }, kinds := [], alts := [], laidByText := true, laidKinds := [.data, .pinned], laidTests := true, laidLooks := .later }
def BuildfileRoundTripUptoCardSaid : Prop := Claim7.holds Tryd.pinned (.plain (OpenSpec.upto buildfileRoundTripSpec)) buildfileRoundTripUptoCard

/-- THE SECOND FORM's CARD OF 'cordwoodlaw38.BuildfileValid'. -/
def buildfileValidUptoCard : Claim7 := { stood := { row := buildfileValidUptoRow, standIns := [], harness := (true, "1c2a386d73e9bfa4cc88ae812b5aaf5a2a228037392ca6deef30a3b4b436fe94"), looks := false }, kinds := [], alts := [], laidByText := true, laidKinds := [.data, .pinned], laidTests := true, laidLooks := .later }
def BuildfileValidUptoCardSaid : Prop := Claim7.holds Tryd.pinned (.plain (OpenSpec.upto buildfileValidSpec)) buildfileValidUptoCard

/-- THE SECOND FORM's CARD OF 'cordwoodlaw38.BuildfileLayout'. -/
def buildfileLayoutUptoCard : Claim7 := { stood := { row := buildfileLayoutUptoRow, standIns := [], harness := (true, "1c2a386d73e9bfa4cc88ae812b5aaf5a2a228037392ca6deef30a3b4b436fe94"), looks := false }, kinds := [], alts := [], laidByText := true, laidKinds := [.data, .listed, .data, .pinned], laidTests := true, laidLooks := .later }
def BuildfileLayoutUptoCardSaid : Prop := Claim7.holds Tryd.pinned (.plain (OpenSpec.upto buildfileLayoutSpec)) buildfileLayoutUptoCard
end Rows
end Go.Proofs.YtgcmekpfhagnbaaDoor
