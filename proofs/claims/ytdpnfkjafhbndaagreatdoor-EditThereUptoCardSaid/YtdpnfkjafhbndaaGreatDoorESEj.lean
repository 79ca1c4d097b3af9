/- The reference's shaped. -/
import Derived.Test.YtdpnfkjafhbndaaGreatDoorESEi
namespace Go.Proofs.YtdpnfkjafhbndaaGreatDoor
open Go.RowKit Go.Shelf
attribute [local go_sem] Oper.semAt_some
end Go.Proofs.YtdpnfkjafhbndaaGreatDoor

