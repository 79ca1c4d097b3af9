/- The closed facts of the row of EditDiff, one by one. -/
import Derived.Test.YtfkjfdbjhlmjcaaGreatDoorDFin
import Derived.Deep.DeepHandedRow
import Derived.Lib.LaidTab
import Derived.Stop.LaidErr
set_option maxRecDepth 100000
set_option maxHeartbeats 16000000
namespace Go.Proofs.YtfkjfdbjhlmjcaaGreatDoor
open Go.RowKit Go.ChangeShapes Go.WideShapes Go.ChangeAt
theorem zAi {a b:Bool} (ha:a=true) (hb:b=true):(a && b)=true:=by rw [ha,hb];rfl
theorem zKf:joinedFacts Tryz.pinned.checked.prog 4 Tryz.f4 (Rows.OpenSpec.upto Rows.editDiffSpec).bare Rows.editDiffUptoRow=true:=by
 unfold joinedFacts;refine zAi (zAi (zAi (zAi (zAi (zAi (zAi (zAi (zAi (zAi (zAi (zAi (zAi (zAi (zAi (zAi (zAi (zAi (zAi (zAi (zAi (zAi (zAi (zAi (zAi (zAi (zAi (zAi (zAi (zAi (zAi ?_ ?_) ?_) ?_) ?_) ?_) ?_) ?_) ?_) ?_) ?_) ?_) ?_) ?_) ?_) ?_) ?_) ?_) ?_) ?_) ?_) ?_) ?_) ?_) ?_) ?_) ?_) ?_) ?_) ?_) ?_) ?_
 all_goals as_aux_lemma=>kernel_rfl
end Go.Proofs.YtfkjfdbjhlmjcaaGreatDoor
