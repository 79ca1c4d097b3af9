/- The reference's shaped. -/
import Derived.Test.YtfkjfdbjhlmjcaaGreatDoorYSEi
namespace Go.Proofs.YtfkjfdbjhlmjcaaGreatDoor
open Go.RowKit Go.Shelf
attribute [local go_sem] Oper.semAt_some
end Go.Proofs.YtfkjfdbjhlmjcaaGreatDoor
