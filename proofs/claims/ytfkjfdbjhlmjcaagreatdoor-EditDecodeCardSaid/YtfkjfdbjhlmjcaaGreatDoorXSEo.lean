/- commute.concerns, commute.independent. -/
import Derived.Test.YtfkjfdbjhlmjcaaGreatDoorXSEi
import Derived.Test.YtfkjfdbjhlmjcaaGreatDoorXG8
namespace Go.Proofs.YtfkjfdbjhlmjcaaGreatDoor
open Go.RowKit Go.Shelf
attribute [local go_sem] Oper.semAt_some
def concT (e:OEdit):ByteArray:=if e.kind=3∨e.kind=4 then e.text else ⟨#[]⟩
def concI (e:OEdit):Int:=if e.kind≤4 then 0 else if e.kind=5 then (dAt e.fresh 0).id else (dAt e.old 0).id
def concP (e:OEdit):Int:=if e.kind≤6 then 0 else e.kind
def zeroC (e:OEdit):Bool:=eqS (concT e) ⟨#[]⟩ && (concI e==0 && concP e==0)
def sameC (a b:OEdit):Bool:=eqS (concT a) (concT b) && (concI a==concI b && concP a==concP b)
def indepB (a b:OEdit):Bool:=
 if eqS a.pack b.pack then (if zeroC a || zeroC b || sameC a b then false else if concI a != concI b || !(eqS (concT a) (concT b)) then true else (concP a != 0 && concP b != 0)) else true
-- GEN
end Go.Proofs.YtfkjfdbjhlmjcaaGreatDoor
