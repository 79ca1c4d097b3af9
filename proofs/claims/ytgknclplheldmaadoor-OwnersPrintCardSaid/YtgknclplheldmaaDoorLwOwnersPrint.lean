/- The law OwnersPrint: it returns true for every input. -/
import Derived.Test.YtgknclplheldmaaDoorRpO
namespace Go.Proofs.YtgknclplheldmaaDoor
open Go.RowKit

set_option maxRecDepth 100000 in
set_option maxHeartbeats 1000000 in
theorem LOwnersPrint_any (v : Value) (rs : List ORule) (w : World) (hv : Reads w [] (rulesT rs) v) (hz : SizedR rs) :
    Calls Tryd.prog 5 #[v] w fun e w' => e = .returned (.bool true) ∧ Below w.heap.size w w' := by
  have HG := Lib.hid (rGreat_any v rs w hv hz)
  have HV := Lib.hid hv
  obtain ⟨a, cap, rfl, -, -⟩ := rules_val hv
  clear hv hz
  cases hg : greatR rs with
  | true =>
    rw [hg] at HG
    go_enter Tryd.func5, Tryd.ntmps5
    go_wp2_with (first | (go_at_call 16; refine HG.out.mono ?_; rintro e w1 ⟨rfl, rfl⟩) | (go_at_call 8; refine (awake_any _).mono ?_; rintro e w1 ⟨rfl, hb1⟩))
    go_ret
    exact ⟨rfl, hb1⟩
  | false =>
    rw [hg] at HG
    have hsm := greatR_SmallR hg
    have HP := Lib.hid (fun W h => Print_any (.slice a rs.length cap) rs W h hsm)
    have HQ := Lib.hid (fun W h => rPrint_any (.slice a rs.length cap) rs W h hsm)
    clear hg hsm
    generalize printO rs = x at *
    obtain ⟨xs, xe⟩ := x
    go_enter Tryd.func5, Tryd.ntmps5
    go_wp2_with (fail)
    refine HG.out.mono ?_
    rintro e w1 ⟨rfl, rfl⟩
    go_wp2_with (fail)
    refine (HP.out _ HV.out).mono ?_
    rintro e w2 ⟨rfl, hb2⟩
    go_wp2_with (fail)
    refine (HQ.out _ (HV.out.below hb2)).mono ?_
    rintro e w3 ⟨rfl, hb3⟩
    clear HG HP HQ HV
    have hB := qtrans hb2 hb3
    go_wp2_with (go_at_call 8; refine (awake_any _).mono ?_; rintro e w4 ⟨rfl, hb4⟩)
    go_ret
    exact ⟨by simp, qtrans hB hb4⟩
end Go.Proofs.YtgknclplheldmaaDoor
