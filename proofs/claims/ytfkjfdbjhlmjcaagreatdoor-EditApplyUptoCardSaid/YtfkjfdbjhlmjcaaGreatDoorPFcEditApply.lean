/- The closed facts of the row of EditApply, one by one. -/
import Derived.Test.YtfkjfdbjhlmjcaaGreatDoorPFin
import Derived.Deep.DeepHandedRow
import Derived.Lib.LaidTab
import Derived.Stop.LaidErr
namespace Go.Proofs.YtfkjfdbjhlmjcaaGreatDoor
open Go.RowKit Go.ChangeShapes Go.WideShapes Go.ChangeAt
theorem zAi {a b:Bool} (ha:a=true) (hb:b=true):(a && b)=true:=by rw [ha,hb];rfl
set_option maxRecDepth 100000 in
set_option maxHeartbeats 4000000 in
theorem zJa:joinedFacts Tryz.pinned.checked.prog 3 Tryz.f3 (Rows.OpenSpec.upto Rows.editApplySpec).bare Rows.editApplyUptoRow=true:=by
 unfold joinedFacts
 refine zAi (zAi (zAi (zAi (zAi (zAi (zAi (zAi (zAi (zAi (zAi (zAi (zAi (zAi (zAi (zAi (zAi (zAi (zAi (zAi (zAi (zAi (zAi (zAi (zAi (zAi (zAi (zAi (zAi (zAi (zAi ?_ ?_) ?_) ?_) ?_) ?_) ?_) ?_) ?_) ?_) ?_) ?_) ?_) ?_) ?_) ?_) ?_) ?_) ?_) ?_) ?_) ?_) ?_) ?_) ?_) ?_) ?_) ?_) ?_) ?_) ?_) ?_
 all_goals as_aux_lemma=>kernel_rfl
end Go.Proofs.YtfkjfdbjhlmjcaaGreatDoor

