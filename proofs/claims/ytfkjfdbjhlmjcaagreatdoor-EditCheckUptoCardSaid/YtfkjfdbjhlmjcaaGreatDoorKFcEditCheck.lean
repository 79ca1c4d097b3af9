/- The closed facts of the row of EditCheck, one by one. -/
import Derived.Test.YtfkjfdbjhlmjcaaGreatDoorKFin
import Derived.Deep.DeepHandedRow
import Derived.Lib.LaidTab
import Derived.Stop.LaidErr
set_option maxRecDepth 100000
set_option maxHeartbeats 16000000
namespace Go.Proofs.YtfkjfdbjhlmjcaaGreatDoor
open Go.RowKit Go.ChangeShapes Go.WideShapes Go.ChangeAt
theorem zAf {a b:Bool} (ha:a=true) (hb:b=true):(a && b)=true:=by rw [ha,hb];rfl
theorem zIs:joinedFacts Tryz.pinned.checked.prog 5 Tryz.f5 (Rows.OpenSpec.upto Rows.editCheckSpec).bare Rows.editCheckUptoRow=true:=by
 unfold joinedFacts
 refine zAf (zAf (zAf (zAf (zAf (zAf (zAf (zAf (zAf (zAf (zAf (zAf (zAf (zAf (zAf (zAf (zAf (zAf (zAf (zAf (zAf (zAf (zAf (zAf (zAf (zAf (zAf (zAf (zAf (zAf (zAf ?_ ?_) ?_) ?_) ?_) ?_) ?_) ?_) ?_) ?_) ?_) ?_) ?_) ?_) ?_) ?_) ?_) ?_) ?_) ?_) ?_) ?_) ?_) ?_) ?_) ?_) ?_) ?_) ?_) ?_) ?_) ?_
 all_goals as_aux_lemma=>kernel_rfl
end Go.Proofs.YtfkjfdbjhlmjcaaGreatDoor
