/- The closed facts of the row of CommutePicks, one by one. -/
import Derived.Test.YtdpnfkjafhbndaaGreatDoorCFin
import Derived.Deep.DeepHandedRow
import Derived.Lib.LaidTab
import Derived.Stop.LaidErr
namespace Go.Proofs.YtdpnfkjafhbndaaGreatDoor
open Go.RowKit Go.ChangeShapes Go.WideShapes Go.ChangeAt
theorem commutePicks_and {a b:Bool} (ha:a = true) (hb:b = true):(a && b) = true:=by rw [ha,hb];rfl
set_option maxRecDepth 100000 in
set_option maxHeartbeats 4000000 in
theorem commutePicks_closed:joinedFacts Tryz.pinned.checked.prog 6 Tryz.f6 (Rows.OpenSpec.upto Rows.commutePicksSpec).bare Rows.commutePicksUptoRow = true:=by
 unfold joinedFacts
 refine commutePicks_and (commutePicks_and (commutePicks_and (commutePicks_and (commutePicks_and (commutePicks_and (commutePicks_and (commutePicks_and (commutePicks_and (commutePicks_and (commutePicks_and (commutePicks_and (commutePicks_and (commutePicks_and (commutePicks_and (commutePicks_and (commutePicks_and (commutePicks_and (commutePicks_and (commutePicks_and (commutePicks_and (commutePicks_and (commutePicks_and (commutePicks_and (commutePicks_and (commutePicks_and (commutePicks_and (commutePicks_and (commutePicks_and (commutePicks_and (commutePicks_and ?_ ?_) ?_) ?_) ?_) ?_) ?_) ?_) ?_) ?_) ?_) ?_) ?_) ?_) ?_) ?_) ?_) ?_) ?_) ?_) ?_) ?_) ?_) ?_) ?_) ?_) ?_) ?_) ?_) ?_) ?_) ?_
 all_goals as_aux_lemma => kernel_rfl
end Go.Proofs.YtdpnfkjafhbndaaGreatDoor

