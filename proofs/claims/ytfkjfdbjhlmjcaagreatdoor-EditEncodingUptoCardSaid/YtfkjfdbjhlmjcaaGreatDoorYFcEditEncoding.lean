/- The closed facts of the row of EditEncoding, one by one. -/
import Derived.Test.YtfkjfdbjhlmjcaaGreatDoorYFin
import Derived.Deep.DeepHandedRow
import Derived.Lib.LaidTab
import Derived.Stop.LaidErr
set_option maxRecDepth 100000
set_option maxHeartbeats 16000000
namespace Go.Proofs.YtfkjfdbjhlmjcaaGreatDoor
open Go.RowKit Go.ChangeShapes Go.WideShapes Go.ChangeAt
theorem zAc {a b:Bool} (ha:a=true) (hb:b=true):(a && b)=true:=by rw [ha,hb];rfl
theorem zFl:joinedFacts Tryz.pinned.checked.prog 7 Tryz.f7 (Rows.OpenSpec.upto Rows.editEncodingSpec).bare Rows.editEncodingUptoRow=true:=by
 unfold joinedFacts
 refine zAc (zAc (zAc (zAc (zAc (zAc (zAc (zAc (zAc (zAc (zAc (zAc (zAc (zAc (zAc (zAc (zAc (zAc (zAc (zAc (zAc (zAc (zAc (zAc (zAc (zAc (zAc (zAc (zAc (zAc (zAc ?_ ?_) ?_) ?_) ?_) ?_) ?_) ?_) ?_) ?_) ?_) ?_) ?_) ?_) ?_) ?_) ?_) ?_) ?_) ?_) ?_) ?_) ?_) ?_) ?_) ?_) ?_) ?_) ?_) ?_) ?_) ?_
 all_goals as_aux_lemma=>kernel_rfl
end Go.Proofs.YtfkjfdbjhlmjcaaGreatDoor
