/- The law BuildfileJoin: it returns true for every input. -/
import Derived.Test.YtgcmekpfhagnbaaDoorJnA
import Derived.Test.YtgcmekpfhagnbaaDoorAwA
namespace Go.Proofs.YtgcmekpfhagnbaaDoor
open Go.RowKit

set_option maxRecDepth 100000 in
set_option maxHeartbeats 1000000 in
theorem LJoin_any (d n l : ByteArray) (w : World) (hd : d.size ≤ 9223372036854775807) (hn : n.size ≤ 9223372036854775807) (hl : l.size ≤ 9223372036854775807) :
    Calls Tryd.prog 5 #[.string d, .string n, .string l] w fun e w' => e = .returned (.bool true) ∧ Below w.heap.size w w' := by
  have hcs : (100 < d.size) ∨ (¬ 100 < d.size ∧ 100 < n.size) ∨ (¬ 100 < d.size ∧ ¬ 100 < n.size ∧ 100 < l.size) ∨ (¬ 100 < d.size ∧ ¬ 100 < n.size ∧ ¬ 100 < l.size) := by omega
  rcases hcs with h1 | ⟨h1, h2⟩ | ⟨h1, h2, h3⟩ | ⟨h1, h2, h3⟩
  · go_enter Tryd.func5, Tryd.ntmps5
    go_wp2_with (go_at_call 11; refine (awake_any _).mono ?_; rintro e w1 ⟨rfl, hb1⟩)
    go_ret
    exact ⟨rfl, hb1⟩
  · go_enter Tryd.func5, Tryd.ntmps5
    go_wp2_with (go_at_call 11; refine (awake_any _).mono ?_; rintro e w1 ⟨rfl, hb1⟩)
    go_ret
    exact ⟨rfl, hb1⟩
  · go_enter Tryd.func5, Tryd.ntmps5
    go_wp2_with (go_at_call 11; refine (awake_any _).mono ?_; rintro e w1 ⟨rfl, hb1⟩)
    go_ret
    exact ⟨rfl, hb1⟩
  · go_enter Tryd.func5, Tryd.ntmps5
    go_wp2_with (first | (go_at_call 15; refine (Join_any _ _ _ (by omega) (by omega)).mono ?_; rintro e w1 ⟨rfl, hb1⟩) | (go_at_call 16; refine (rJoin_any _ _ _ (by omega) (by omega)).mono ?_; rintro e w2 ⟨rfl, hb2⟩) | (go_at_call 17; refine (Split_any _ _ (by omega)).mono ?_; rintro e w3 ⟨rfl, hb3⟩) | (go_at_call 18; refine (rSplit_any _ _ (by omega)).mono ?_; rintro e w4 ⟨rfl, hb4⟩) | (go_at_call 11; refine (awake_any _).mono ?_; rintro e w5 ⟨rfl, hb5⟩))
    go_ret
    exact ⟨rfl, qtrans (qtrans (qtrans (qtrans hb1 hb2) hb3) hb4) hb5⟩
end Go.Proofs.YtgcmekpfhagnbaaDoor
