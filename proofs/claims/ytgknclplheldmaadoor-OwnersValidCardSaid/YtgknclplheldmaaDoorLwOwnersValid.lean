/- The law OwnersValid: it returns true for every input. -/
import Derived.Test.YtgknclplheldmaaDoorVvO
import Derived.Test.YtgknclplheldmaaDoorPrO
namespace Go.Proofs.YtgknclplheldmaaDoor
open Go.RowKit

set_option maxRecDepth 100000 in
set_option maxHeartbeats 1000000 in
theorem LOwnersValid_any (s : ByteArray) (w : World) (hs : s.size ≤ 9223372036854775807) :
    Calls Tryd.prog 6 #[.string s] w fun e w' => e = .returned (.bool true) ∧ Below w.heap.size w w' := by
  by_cases h1 : 400 < s.size
  · go_enter Tryd.func6, Tryd.ntmps6
    go_wp2_with (go_at_call 8; refine (awake_any _).mono ?_; rintro e w1 ⟨rfl, hb1⟩)
    go_ret
    exact ⟨rfl, hb1⟩
  have hd3 : decide ((400 : Int) < (s.size : Int)) = false := decide_eq_false (by omega)
  have HP := Lib.hid (fun W => Parse_any s (by omega) W)
  by_cases hok : (oparse s).2.2 = 0
  · obtain ⟨rs, e1, hc, hra⟩ := oparse_okay s hok
    have htl := text_short (by omega) hra
    have hsm := oparse_small (s := s) (by omega)
    rw [e1] at HP hsm
    have HPR : Hid (∀ (v : Value) (W : World), Reads W [] (rulesT rs) v → Calls Tryd.prog 17 #[v] W (PrintPost (bOf (textO rs), 0) W)) := fun v W h => by
      have := Print_any v rs W h hsm
      rwa [show printO rs = (bOf (textO rs), 0) by unfold printO; rw [if_pos hc]] at this
    have HPT : Hid (∀ W, Calls Tryd.prog 9 #[.string (bOf (textO rs))] W (ParsePost (rs, 0, 0) W)) := fun W => by
      have := Parse_any (bOf (textO rs)) (by rw [← sz, data_bOf]; omega) W
      rwa [parse_text hc] at this
    clear hok e1 hc hra htl hsm
    generalize bOf (textO rs) = tx at *
    go_enter Tryd.func6, Tryd.ntmps6
    go_wp2_with (fail)
    refine (HP.out _).mono ?_
    rintro e w1 ⟨v1, rfl, hr1, hb1⟩
    simp only [] at hr1
    obtain ⟨a1, c1, rfl, -⟩ := rules_val hr1
    have H1 := Lib.hid hr1
    clear hr1
    go_wp2_with (fail)
    refine (HPR.out _ _ H1.out).mono ?_
    rintro e w2 ⟨rfl, hb2⟩
    go_wp2_with (fail)
    refine (HPT.out _).mono ?_
    rintro e w3 ⟨v3, rfl, hr3, hb3⟩
    simp only [] at hr3
    obtain ⟨a3, c3, rfl, -⟩ := rules_val hr3
    have H3 := Lib.hid hr3
    have H1' := Lib.hid (H1.out.below (qtrans hb2 hb3))
    clear hr3 HP HPR HPT
    go_wp2_with (fail)
    refine (rSame_eq _ _ rs _ H3.out H1'.out).mono ?_
    rintro e w4 ⟨rfl, n, rfl⟩
    have hB := below_drewN (qtrans hb1 (qtrans hb2 hb3)) n
    clear H1 H3 H1'
    generalize w3.drewN n = w4 at *
    go_wp2_with (go_at_call 8; refine (awake_any _).mono ?_; rintro e w5 ⟨rfl, hb5⟩)
    go_ret
    exact ⟨rfl, qtrans hB hb5⟩
  · obtain ⟨h2, h3, h4, h5⟩ := oparse_error s hok
    generalize oparse s = x at *
    obtain ⟨xl, xp, xe⟩ := x
    simp only [] at hok h2 h3 h4 h5
    subst h2
    have hxe : (xe != 0) = true := by simp [hok]
    have hdp : decide (0 ≤ xp) = true := decide_eq_true h3
    have hdq : decide (xp ≤ (s.size : Int)) = true := decide_eq_true h4
    by_cases h33 : xe = 3
    · have hx3 : (xe == 3) = true := by simp [h33]
      clear h33 h5 hok
      go_enter Tryd.func6, Tryd.ntmps6
      go_wp2_with (fail)
      refine (HP.out _).mono ?_
      rintro e w1 ⟨v1, rfl, hr1, hb1⟩
      simp only [] at hr1
      obtain ⟨a1, c1, rfl, -⟩ := rules_val hr1
      clear hr1 HP
      go_wp2_with (go_at_call 8; refine (awake_any _).mono ?_; rintro e w5 ⟨rfl, hb5⟩)
      go_ret
      exact ⟨rfl, qtrans hb1 hb5⟩
    · have hx3 : (xe == 3) = false := by simp [h33]
      have hx0 : xp = 0 := by rcases h5 with h5 | h5; exact absurd h5 h33; exact h5
      subst hx0
      clear h33 h5 hok
      go_enter Tryd.func6, Tryd.ntmps6
      go_wp2_with (fail)
      refine (HP.out _).mono ?_
      rintro e w1 ⟨v1, rfl, hr1, hb1⟩
      simp only [] at hr1
      obtain ⟨a1, c1, rfl, -⟩ := rules_val hr1
      clear hr1 HP
      go_wp2_with (go_at_call 8; refine (awake_any _).mono ?_; rintro e w5 ⟨rfl, hb5⟩)
      go_ret
      exact ⟨rfl, qtrans hb1 hb5⟩
end Go.Proofs.YtgknclplheldmaaDoor
