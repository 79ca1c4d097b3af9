/- Arguments that came in, read, with how much they hold; append of a whole slice onto a. -/
import Derived.Test.YtfkjfdbjhlmjcaaGreatDoorRows
import Derived.Deep.Strs
import Derived.Test.YtfkjfdbjhlmjcaaGreatDoorXSEr
namespace Go.Proofs.YtfkjfdbjhlmjcaaGreatDoor
open Go.RowKit Go.ChangeShapes Go.WideShapes
section
variable {H:Type} {enc:TypeId×Value→H} {w:World} {base:Nat} {held:Bool}
end
section
variable {H:Type} {enc:TypeId×Value→H} {w:World} {base:Nat} {held:Bool}
end
end Go.Proofs.YtfkjfdbjhlmjcaaGreatDoor
