/- Reference 34: -/
import Derived.Test.YtfkjfdbjhlmjcaaGreatDoorDBP
namespace Go.Proofs.YtfkjfdbjhlmjcaaGreatDoor
open Go.RowKit Go.Shelf
attribute [local go_sem] Oper.semAt_some
end Go.Proofs.YtfkjfdbjhlmjcaaGreatDoor
