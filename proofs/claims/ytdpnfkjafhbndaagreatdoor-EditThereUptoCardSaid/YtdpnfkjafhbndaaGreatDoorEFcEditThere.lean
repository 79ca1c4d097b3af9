/- The closed facts of the row of EditThere, one by one. -/
import Derived.Test.YtdpnfkjafhbndaaGreatDoorEFin
import Derived.Deep.DeepHandedRow
import Derived.Lib.LaidTab
import Derived.Stop.LaidErr
namespace Go.Proofs.YtdpnfkjafhbndaaGreatDoor
open Go.RowKit Go.ChangeShapes Go.WideShapes Go.ChangeAt
theorem editThere_and {a b:Bool} (ha:a = true) (hb:b = true):(a && b) = true:=by rw [ha,hb];rfl
set_option maxRecDepth 100000 in
set_option maxHeartbeats 4000000 in
theorem editThere_closed:joinedFacts Tryz.pinned.checked.prog 8 Tryz.f8 (Rows.OpenSpec.upto Rows.editThereSpec).bare Rows.editThereUptoRow = true:=by
 unfold joinedFacts
 refine editThere_and (editThere_and (editThere_and (editThere_and (editThere_and (editThere_and (editThere_and (editThere_and (editThere_and (editThere_and (editThere_and (editThere_and (editThere_and (editThere_and (editThere_and (editThere_and (editThere_and (editThere_and (editThere_and (editThere_and (editThere_and (editThere_and (editThere_and (editThere_and (editThere_and (editThere_and (editThere_and (editThere_and (editThere_and (editThere_and (editThere_and ?_ ?_) ?_) ?_) ?_) ?_) ?_) ?_) ?_) ?_) ?_) ?_) ?_) ?_) ?_) ?_) ?_) ?_) ?_) ?_) ?_) ?_) ?_) ?_) ?_) ?_) ?_) ?_) ?_) ?_) ?_) ?_
 all_goals as_aux_lemma => kernel_rfl
end Go.Proofs.YtdpnfkjafhbndaaGreatDoor

