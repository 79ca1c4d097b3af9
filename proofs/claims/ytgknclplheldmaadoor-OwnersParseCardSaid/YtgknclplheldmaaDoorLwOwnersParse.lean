/- The law OwnersParse: it returns true for every input. -/
import Derived.Test.YtgknclplheldmaaDoorQ16
import Derived.Test.YtgknclplheldmaaDoorQ14
namespace Go.Proofs.YtgknclplheldmaaDoor
open Go.RowKit

set_option maxRecDepth 100000 in
set_option maxHeartbeats 1000000 in
theorem LOwnersParse_any (s : ByteArray) (w : World) (hs : s.size ≤ 9223372036854775807) :
    Calls Tryd.prog 3 #[.string s] w fun e w' => e = .returned (.bool true) ∧ Below w.heap.size w w' := by
  by_cases h1 : 400 < s.size
  · go_enter Tryd.func3, Tryd.ntmps3
    go_wp2_with (go_at_call 8; refine (awake_any _).mono ?_; rintro e w1 ⟨rfl, hb1⟩)
    go_ret
    exact ⟨rfl, hb1⟩
  have HP := Lib.hid (fun W => Parse_any s (by omega) W)
  have HR := Lib.hid (fun W => rParse_any s (by omega) W)
  have hd3 : decide ((400 : Int) < (s.size : Int)) = false := decide_eq_false (by omega)
  generalize oparse s = x at HP HR
  obtain ⟨xl, xp, xc⟩ := x
  go_enter Tryd.func3, Tryd.ntmps3
  go_wp2_with (fail)
  refine (HP.out _).mono ?_
  rintro e w1 ⟨v1, rfl, hr1, hb1⟩
  obtain ⟨a1, c1, rfl, -⟩ := rules_val hr1
  go_wp2_with (fail)
  refine (HR.out _).mono ?_
  rintro e w2 ⟨v2, rfl, hr2, hb2⟩
  obtain ⟨a2, c2, rfl, -⟩ := rules_val hr2
  have H1 := Lib.hid (hr1.below hb2)
  have H2 := Lib.hid hr2
  clear hr1 hr2 HP HR
  simp only at H1 H2
  go_wp2_with (fail)
  refine (rSame_eq _ _ xl _ H1.out H2.out).mono ?_
  rintro e w3 ⟨rfl, n, rfl⟩
  have hB := below_drewN (qtrans hb1 hb2) n
  clear H1 H2
  generalize w2.drewN n = w3 at *
  go_wp2_with (go_at_call 8; refine (awake_any _).mono ?_; rintro e w4 ⟨rfl, hb4⟩)
  go_ret
  exact ⟨by simp, qtrans hB hb4⟩
end Go.Proofs.YtgknclplheldmaaDoor
