/- The reference's Check of chapter 34. -/
import Derived.Test.YtfkjfdbjhlmjcaaGreatDoorYShG
import Derived.Test.YtfkjfdbjhlmjcaaGreatDoorYSEj
import Derived.Test.YtfkjfdbjhlmjcaaGreatDoorYSEo
namespace Go.Proofs.YtfkjfdbjhlmjcaaGreatDoor
open Go.RowKit Go.Shelf
attribute [local go_sem] Oper.semAt_some
def swapB (e f:OEdit):Bool:=(editErr e==0) && ((editErr f==0) && indepB e f)
def noEdit:OEdit:=⟨0,⟨#[]⟩,⟨#[]⟩,[],[]⟩
end Go.Proofs.YtfkjfdbjhlmjcaaGreatDoor
