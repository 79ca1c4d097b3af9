/- OwnersGroups: the walk. -/
import Derived.Test.YtgknclplheldmaaGreatDoorRgG
import Derived.Test.YtgknclplheldmaaGreatDoorGtA
namespace Go.Proofs.YtgknclplheldmaaGreatDoor
open Go.RowKit

set_option maxHeartbeats 1000000 in
theorem LOwnersGroups_any (v : Value) (fs : List OFile) (p : ByteArray) (w : World) (hv : Reads w [] (filesT fs) v) (hz : SizedF fs) (hps : p.size ≤ 9223372036854775807) :
    Calls Tryz.prog 3 #[v, .string p] w fun e w' => e = .returned (.bool true) ∧ Below w.heap.size w w' := by
  have HG := Lib.hid (rGreat09_any v fs w hv hz)
  obtain ⟨a, cap, rfl, hc1, hc2⟩ := files_val hv
  have HV := Lib.hid hv
  clear hv hz
  cases hg : greatF fs with
  | true =>
    rw [hg] at HG
    go_enter Tryz.func3, Tryz.ntmps3
    go_wp2_with (first | (go_at_call 7; refine HG.out.mono ?_; rintro e w1 ⟨rfl, rfl⟩) | (go_at_call 8; refine (awake_any _).mono ?_; rintro e w1 ⟨rfl, hb1⟩))
    go_ret
    exact ⟨rfl, hb1⟩
  | false =>
  rw [hg] at HG
  obtain ⟨h10, hall⟩ := greatF_small hg
  clear hg
  by_cases hp : 120 < p.size
  · have hpd : decide (120 < (p.size : Int)) = true := decide_eq_true (by omega)
    go_enter Tryz.func3, Tryz.ntmps3
    go_wp2_with (first | (go_at_call 7; refine HG.out.mono ?_; rintro e w1 ⟨rfl, rfl⟩) | (go_at_call 8; refine (awake_any _).mono ?_; rintro e w1 ⟨rfl, hb1⟩))
    go_ret
    exact ⟨rfl, hb1⟩
  have hpd : decide (120 < (p.size : Int)) = false := decide_eq_false (by omega)
  have hsm : SmallF fs := ⟨by omega, fun f hf => by have := hall f hf; omega⟩
  have HGR := Lib.hid (Groups_any (.slice a fs.length cap) fs p w HV.out hsm (by omega))
  have HRG := Lib.hid (fun W h => rGroups_any (.slice a fs.length cap) fs p W h hsm (fun f hf => by have := hall f hf; omega) (by omega))
  generalize groupsOf fs p = x at *
  obtain ⟨xg, xe⟩ := x
  clear hsm hall
  go_enter Tryz.func3, Tryz.ntmps3
  go_wp2_with (fail)
  refine HG.out.mono ?_
  rintro e w1 ⟨rfl, rfl⟩
  go_wp2_with (fail)
  refine HGR.out.mono ?_
  rintro e w2 ⟨gv, rfl, hgv, hb2⟩
  simp only [] at hgv
  obtain ⟨ga, gc, rfl, -, -⟩ := groups_val hgv
  have HGV := Lib.hid hgv
  have HR2 := Lib.hid (HRG.out w2 (HV.out.below hb2))
  clear hgv HRG HGR HG
  go_wp2_with (fail)
  refine HR2.out.mono ?_
  rintro e w3 ⟨rv, rfl, hrv, hb3⟩
  simp only [] at hrv
  obtain ⟨ra, rc, rfl, -, -⟩ := groups_val hrv
  have HSG := Lib.hid (rSameGroups_eq _ _ xg w3 (HGV.out.below hb3) hrv)
  have hee : (xe == xe) = true := by simp
  have hb23 := qtrans hb2 hb3
  clear hrv HGV HR2 hb2 hb3
  go_wp2_with (fail)
  refine HSG.out.mono ?_
  rintro e w4 ⟨rfl, n4, rfl⟩
  have hb4 := below_drewN hb23 n4
  clear HSG hb23
  generalize w3.drewN n4 = W at *
  go_wp2_with (go_at_call 8; refine (awake_any _).mono ?_; rintro e w5 ⟨rfl, hb5⟩)
  go_ret
  exact ⟨rfl, qtrans hb4 hb5⟩
end Go.Proofs.YtgknclplheldmaaGreatDoor
