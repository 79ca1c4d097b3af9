/- The closed facts of the row of CommuteDrops, one by one. -/
import Derived.Test.YtdpnfkjafhbndaaGreatDoorCFin
import Derived.Deep.DeepHandedRow
import Derived.Lib.LaidTab
import Derived.Stop.LaidErr
namespace Go.Proofs.YtdpnfkjafhbndaaGreatDoor
open Go.RowKit Go.ChangeShapes Go.WideShapes Go.ChangeAt
theorem commuteDrops_and {a b:Bool} (ha:a = true) (hb:b = true):(a && b) = true:=by rw [ha,hb];rfl
set_option maxRecDepth 100000 in
set_option maxHeartbeats 4000000 in
theorem commuteDrops_closed:joinedFacts Tryz.pinned.checked.prog 10 Tryz.f10 (Rows.OpenSpec.upto Rows.commuteDropsSpec).bare Rows.commuteDropsUptoRow = true:=by
 unfold joinedFacts
 refine commuteDrops_and (commuteDrops_and (commuteDrops_and (commuteDrops_and (commuteDrops_and (commuteDrops_and (commuteDrops_and (commuteDrops_and (commuteDrops_and (commuteDrops_and (commuteDrops_and (commuteDrops_and (commuteDrops_and (commuteDrops_and (commuteDrops_and (commuteDrops_and (commuteDrops_and (commuteDrops_and (commuteDrops_and (commuteDrops_and (commuteDrops_and (commuteDrops_and (commuteDrops_and (commuteDrops_and (commuteDrops_and (commuteDrops_and (commuteDrops_and (commuteDrops_and (commuteDrops_and (commuteDrops_and (commuteDrops_and ?_ ?_) ?_) ?_) ?_) ?_) ?_) ?_) ?_) ?_) ?_) ?_) ?_) ?_) ?_) ?_) ?_) ?_) ?_) ?_) ?_) ?_) ?_) ?_) ?_) ?_) ?_) ?_) ?_) ?_) ?_) ?_
 all_goals as_aux_lemma => kernel_rfl
end Go.Proofs.YtdpnfkjafhbndaaGreatDoor

