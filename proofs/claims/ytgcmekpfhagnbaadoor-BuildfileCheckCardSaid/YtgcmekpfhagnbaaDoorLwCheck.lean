/- The law BuildfileCheck: it returns true for every slice of rules. -/
import Derived.Test.YtgcmekpfhagnbaaDoorPrC
import Derived.Test.YtgcmekpfhagnbaaDoorGrA
import Derived.Test.YtgcmekpfhagnbaaDoorAwA
namespace Go.Proofs.YtgcmekpfhagnbaaDoor
open Go.RowKit

theorem great_smallC {rs : List Rule} (hg : greatB rs = false) : SmallRs rs := ⟨fun r hr => by
  obtain ⟨_, hall⟩ := greatB_small hg
  obtain ⟨h1, h2, h3, _⟩ := hall r hr
  exact ⟨by omega, fun s hs => by have := h2 s hs; omega, fun s hs => by have := h3 s hs; omega⟩⟩
set_option maxRecDepth 100000 in
set_option maxHeartbeats 2000000 in
theorem LCheck_any (v : Value) (rs : List Rule) (w : World) (hr : IsRules w v rs) (hz : ∀ r ∈ rs, Sized r) :
    Calls Tryd.prog 7 #[v] w fun e w' => e = .returned (.bool true) ∧ Below w.heap.size w w' := by
  have HR := Lib.hid hr
  have HG := Lib.hid (rGreat_any v rs w hr hz)
  obtain ⟨a, cap, rfl, h1, h2⟩ := hr.val
  clear hr hz
  cases hg : greatB rs with
  | true =>
    rw [hg] at HG
    clear hg
    go_enter Tryd.func7, Tryd.ntmps7
    go_wp2_with (first | (go_at_call 19; refine HG.out.mono ?_; rintro e w1 ⟨rfl, rfl⟩) | (go_at_call 11; refine (awake_any _).mono ?_; rintro e w1 ⟨rfl, hb1⟩))
    go_ret
    exact ⟨rfl, hb1⟩
  | false =>
    rw [hg] at HG
    have hsm := great_smallC hg
    have h8 := (greatB_small hg).1
    have HP1 := Lib.hid (fun (v : Value) (W : World) (h : IsRules W v rs) => Print_any v rs W h hsm (by omega))
    have HP2 := Lib.hid (fun (v : Value) (W : World) (h : IsRules W v rs) => rPrint_any v rs W h hsm (by omega))
    have HC1 := Lib.hid (fun (v : Value) (W : World) (h : IsRules W v rs) => Check_any v rs W h hsm (by omega))
    have HC2 := Lib.hid (fun (v : Value) (W : World) (h : IsRules W v rs) => rCheck_any v rs W h hsm (by omega))
    clear hg
    generalize printR rs = pr at *
    generalize checkErr rs = ce at *
    obtain ⟨tx, pe⟩ := pr
    go_enter Tryd.func7, Tryd.ntmps7
    go_wp2_with (go_at_call 19; refine HG.out.mono ?_; rintro e w1 ⟨rfl, rfl⟩)
    refine (HP1.out _ _ HR.out).mono ?_
    rintro e w2 ⟨rfl, hb2⟩
    go_wp2_with (fail)
    refine (HP2.out _ _ (HR.out.below hb2)).mono ?_
    rintro e w3 ⟨rfl, hb3⟩
    have hB3 := qtrans hb2 hb3
    go_wp2_with (fail)
    refine (HC1.out _ _ (HR.out.below hB3)).mono ?_
    rintro e w4 ⟨rfl, hb4⟩
    have hB4 := qtrans hB3 hb4
    go_wp2_with (fail)
    refine (HC2.out _ _ (HR.out.below hB4)).mono ?_
    rintro e w5 ⟨rfl, hb5⟩
    have hB5 := qtrans hB4 hb5
    clear HR HP1 HP2 HC1 HC2 HG
    go_wp2_with (go_at_call 11; refine (awake_any _).mono ?_; rintro e w6 ⟨rfl, hb6⟩)
    go_ret
    exact ⟨by simp, qtrans hB5 hb6⟩
end Go.Proofs.YtgcmekpfhagnbaaDoor
