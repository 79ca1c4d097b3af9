/- The reference's put, PutInt, PutText, number, text and truth. -/
import Derived.Test.YtfkjfdbjhlmjcaaGreatDoorYShW
namespace Go.Proofs.YtfkjfdbjhlmjcaaGreatDoor
open Go.RowKit Go.Shelf
attribute [local go_sem] Oper.semAt_some
section
variable {o:Oper} {fa:Act} {w:World} {K:Act→World→Prop} {Q:Exit→Act→World→Prop}
end
end Go.Proofs.YtfkjfdbjhlmjcaaGreatDoor
