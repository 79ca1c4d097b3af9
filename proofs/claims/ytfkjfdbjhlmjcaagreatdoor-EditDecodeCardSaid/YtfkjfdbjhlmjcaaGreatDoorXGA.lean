/- Lists of edits that came in, read, with how much they hold. -/
import Derived.Test.YtfkjfdbjhlmjcaaGreatDoorXG5
namespace Go.Proofs.YtfkjfdbjhlmjcaaGreatDoor
open Go.RowKit Go.ChangeShapes Go.WideShapes
section
variable {H:Type} {enc:TypeId×Value→H} {P:Program} {w:World} {base:Nat} {spare:Nat→Bool} {held:Bool}
end
section
variable {H:Type} {enc:TypeId×Value→H} {w:World} {base:Nat} {held:Bool}
end
end Go.Proofs.YtfkjfdbjhlmjcaaGreatDoor
