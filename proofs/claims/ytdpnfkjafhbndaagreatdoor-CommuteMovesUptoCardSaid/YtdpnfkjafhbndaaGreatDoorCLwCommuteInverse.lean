/- The law CommuteInverse. -/
import Derived.Test.YtdpnfkjafhbndaaGreatDoorCW1
import Derived.Test.YtdpnfkjafhbndaaGreatDoorCSEr
namespace Go.Proofs.YtdpnfkjafhbndaaGreatDoor
open Go.RowKit Go.Shelf
attribute [local go_sem] Oper.semAt_some
theorem swap_shape (e f:OEdit) (ao:Option Addr) (co:Nat) (af:Option Addr) (cf:Nat) (bo:Option Addr) (do':Nat) (bf:Option Addr) (df:Nat) :
  ∃ (k:Int) (p t:ByteArray) (a1:Option Addr) (n1 c1:Nat) (a2:Option Addr) (n2 c2:Nat) (k':Int) (p' t':ByteArray) (a3:Option Addr) (n3 c3:Nat) (a4:Option Addr) (n4 c4:Nat),
   swapV e f ao co af cf bo do' bf df = .tuple #[.agg #[.int .i64 k,.string p,.string t,.slice a1 n1 c1,.slice a2 n2 c2],.agg #[.int .i64 k',.string p',.string t',.slice a3 n3 c3,.slice a4 n4 c4],.bool (swapB e f)]:=by
 unfold swapV
 cases swapB e f with
 | true => exact ⟨_,_,_,_,_,_,_,_,_,_,_,_,_,_,_,_,_,_,rfl⟩
 | false => exact ⟨_,_,_,_,_,_,_,_,_,_,_,_,_,_,_,_,_,_,rfl⟩
end Go.Proofs.YtdpnfkjafhbndaaGreatDoor

