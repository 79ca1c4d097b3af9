/- only of the laws of chapter 33. -/
import Derived.Test.YtdpnfkjafhbndaaGreatDoorRYH
namespace Go.Proofs.YtdpnfkjafhbndaaGreatDoor
open Go.RowKit Go.Shelf
attribute [local go_sem] Oper.semAt_some
theorem ModIn.owned {w:World} {X:List Nat} {m:OMod} {au:Option Addr} {cu:Nat} {ad:Option Addr} {cd:Nat} (h:ModIn w X m au cu ad cd) (v:Value) (hv:∀ g,v.ownBlock = some g→w.heap.size≤g):ModIn w (v.ownBlock.toList ++ X) m au cu ad cd:=by
 cases hb:v.ownBlock with
 | none => exact h
 | some g => exact h.more (hv g hb)
end Go.Proofs.YtdpnfkjafhbndaaGreatDoor

