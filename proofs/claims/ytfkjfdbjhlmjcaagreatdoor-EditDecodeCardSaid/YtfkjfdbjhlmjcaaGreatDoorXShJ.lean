/- The library's contract of strings.Compare at this program, as the kit's shelf lays them. -/
import Derived.Shelf.Small.Strs
import Derived.Test.YtfkjfdbjhlmjcaaGreatDoorProg
namespace Go.Proofs
open Go.Shelf
def Tryz.cmpS_ren:Go.Shelf.Ren:=⟨fun|106=>134|213=>172|265=>197|n=>n,fun|9=>9|3=>3|n=>n,fun|n=>n⟩
theorem Tryz.cmpS:Go.Proofs.Lays.n106 Tryz.prog Tryz.cmpS_ren:={
 mixed:=by kernel_rfl
 f106:=Tryz.func134.trans (congrArg some (by kernel_rfl))
 f213:=Tryz.func172.trans (congrArg some (by kernel_rfl))
 f265:=Tryz.func197.trans (congrArg some (by kernel_rfl))
 t3:=Tryz.underlying3
 a3:=Tryz.isAgg3
 z3:=Tryz.sizeOf3
 v3:=Tryz.zeroValue3
 t9:=Tryz.underlying9
 a9:=Tryz.isAgg9
 z9:=Tryz.sizeOf9
 v9:=Tryz.zeroValue9 }
end Go.Proofs
