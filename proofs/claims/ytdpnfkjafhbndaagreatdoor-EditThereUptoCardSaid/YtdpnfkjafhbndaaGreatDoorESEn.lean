/- The reference's Check of chapter 34. commute.Swap. -/
import Derived.Test.YtdpnfkjafhbndaaGreatDoorEShG
import Derived.Test.YtdpnfkjafhbndaaGreatDoorESEj
import Derived.Test.YtdpnfkjafhbndaaGreatDoorESEo
namespace Go.Proofs.YtdpnfkjafhbndaaGreatDoor
open Go.RowKit Go.Shelf
attribute [local go_sem] Oper.semAt_some
def swapB (e f:OEdit):Bool:=(editErr e == 0) && ((editErr f == 0) && indepB e f)
def noEdit:OEdit:=⟨0,⟨#[]⟩,⟨#[]⟩,[],[]⟩
end Go.Proofs.YtdpnfkjafhbndaaGreatDoor

