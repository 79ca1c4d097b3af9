/- Lists of modules that came in, read, with how much they hold. -/
import Derived.Test.YtfkjfdbjhlmjcaaGreatDoorXGA
import Derived.Test.YtfkjfdbjhlmjcaaGreatDoorXBI
namespace Go.Proofs.YtfkjfdbjhlmjcaaGreatDoor
open Go.RowKit Go.ChangeShapes Go.WideShapes
section
variable {H:Type} {enc:TypeId×Value→H} {w:World} {base:Nat} {held:Bool}
end
structure ModIn (w:World) (X:List Nat) (m:OMod) (au:Option Addr) (cu:Nat) (ad:Option Addr) (cd:Nat):Prop where
  uses:Reads w X (strsT m.uses) (.slice au m.uses.length cu)
  decls:Reads w X (declsT m.decls) (.slice ad m.decls.length cd)
  hu1:m.uses.length≤cu
  hu2:cu≤9223372036854775807
  hd1:m.decls.length≤cd
  hd2:cd≤9223372036854775807
theorem ModIn.below {w w':World} {X:List Nat} {m:OMod} {au:Option Addr} {cu:Nat} {ad:Option Addr} {cd:Nat} (h:ModIn w X m au cu ad cd) (k:Bw w w'):ModIn w' X m au cu ad cd:=⟨h.uses.below k,h.decls.below k,h.hu1,h.hu2,h.hd1,h.hd2⟩
end Go.Proofs.YtfkjfdbjhlmjcaaGreatDoor
