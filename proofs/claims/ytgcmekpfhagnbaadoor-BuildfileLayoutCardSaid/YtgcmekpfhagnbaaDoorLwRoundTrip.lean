/- The law BuildfileRoundTrip: it returns true for every slice of rules. -/
import Derived.Test.YtgcmekpfhagnbaaDoorPlC
import Derived.Test.YtgcmekpfhagnbaaDoorPrB
import Derived.Test.YtgcmekpfhagnbaaDoorGrA
import Derived.Test.YtgcmekpfhagnbaaDoorAwA
namespace Go.Proofs.YtgcmekpfhagnbaaDoor
open Go.RowKit

theorem sumW_le (m : Nat) : ∀ (l : List (List UInt8)), (∀ x ∈ l, x.length ≤ m) → sumW l ≤ l.length * (m + 1)
  | [], _ => by simp [sumW]
  | x :: l, h => by
    have ih := sumW_le m l (fun y hy => h y (List.mem_cons_of_mem _ hy))
    have hx := h x (List.mem_cons_self ..)
    have e : sumW (x :: l) = x.length + 1 + sumW l := by simp [sumW]
    rw [e, List.length_cons, Nat.add_mul, Nat.one_mul]
    omega
theorem sec_sum (txt : ByteArray) (l : List ByteArray) (ht : txt.size ≤ 100) (h : ∀ s ∈ l, s.size ≤ 100) (hl : l.length ≤ 20) : sumW ((secOf txt l).map (·.data.toList)) ≤ 2121 := by
  have h1 := sumW_le 100 ((secOf txt l).map (·.data.toList)) (fun x hx => by
    obtain ⟨y, hy, rfl⟩ := List.mem_map.1 hx
    rw [sz]
    unfold secOf at hy
    split at hy
    · cases hy
    · rcases List.mem_cons.1 hy with rfl | hy
      · exact ht
      · exact h y hy)
  have h2 : ((secOf txt l).map (·.data.toList)).length ≤ 21 := by rw [List.length_map]; unfold secOf; split <;> simp <;> omega
  have : ((secOf txt l).map (·.data.toList)).length * (100 + 1) ≤ 21 * (100 + 1) := Nat.mul_le_mul_right _ h2
  omega
theorem line_small {r : Rule} (h : ruleErr r = 0) (hn : r.name.size ≤ 100) (hd : ∀ s ∈ r.deps, s.size ≤ 100) (hv : ∀ s ∈ r.vis, s.size ≤ 100) : (lineOf r).length ≤ 4350 := by
  obtain ⟨h1, h2⟩ := ruleErr_len h
  rw [line_len]
  unfold wordsR
  rw [List.map_append, List.map_append, List.map_append, sumW_app, sumW_app, sumW_app]
  have a1 := sec_sum bb_deps r.deps (by decide) hd h1
  have a2 := sec_sum bb_visible r.vis (by decide) hv h2
  have a3 : sumW (List.map (·.data.toList) [kindB r.kind, r.name]) ≤ 106 := by
    have : (kindB r.kind).data.toList.length ≤ 4 := by unfold kindB; split <;> decide
    have hn' : r.name.data.toList.length ≤ 100 := by rw [sz]; exact hn
    simp only [sumW, List.map_cons, List.map_nil, List.sum_cons, List.sum_nil]
    omega
  have a4 : sumW (List.map (·.data.toList) [b_semi]) = 2 := rfl
  omega
theorem text_small : ∀ {rs : List Rule}, (∀ r ∈ rs, (lineOf r).length ≤ 4350) → (textOf rs).length ≤ rs.length * 4350
  | [], _ => by simp [textOf]
  | r :: rs, h => by
    have ih := text_small (rs := rs) (fun q hq => h q (List.mem_cons_of_mem _ hq))
    have hr := h r (List.mem_cons_self ..)
    have e : textOf (r :: rs) = lineOf r ++ textOf rs := by simp [textOf]
    rw [e, List.length_append, List.length_cons, Nat.add_mul, Nat.one_mul]
    omega
theorem great_text {rs : List Rule} (hg : greatB rs = false) (hc : checkErr rs = 0) : (textOf rs).length ≤ 34800 := by
  obtain ⟨h8, hall⟩ := greatB_small hg
  have := text_small (rs := rs) (fun r hr => line_small ((checkErr_ok hc).2 r hr) (hall r hr).1 (hall r hr).2.1 (hall r hr).2.2.1)
  have h3 : rs.length * 4350 ≤ 8 * 4350 := Nat.mul_le_mul_right _ h8
  omega
theorem great_small {rs : List Rule} (hg : greatB rs = false) : SmallRs rs := ⟨fun r hr => by
  obtain ⟨_, hall⟩ := greatB_small hg
  obtain ⟨h1, h2, h3, _⟩ := hall r hr
  exact ⟨by omega, fun s hs => by have := h2 s hs; omega, fun s hs => by have := h3 s hs; omega⟩⟩
set_option maxRecDepth 100000 in
set_option maxHeartbeats 2000000 in
theorem LRoundTrip_any (v : Value) (rs : List Rule) (w : World) (hr : IsRules w v rs) (hz : ∀ r ∈ rs, Sized r) :
    Calls Tryd.prog 8 #[v] w fun e w' => e = .returned (.bool true) ∧ Below w.heap.size w w' := by
  have HR := Lib.hid hr
  have HG := Lib.hid (rGreat_any v rs w hr hz)
  obtain ⟨a, cap, rfl, h1, h2⟩ := hr.val
  clear hr hz
  cases hg : greatB rs with
  | true =>
    rw [hg] at HG
    clear hg
    go_enter Tryd.func8, Tryd.ntmps8
    go_wp2_with (first | (go_at_call 19; refine HG.out.mono ?_; rintro e w1 ⟨rfl, rfl⟩) | (go_at_call 11; refine (awake_any _).mono ?_; rintro e w1 ⟨rfl, hb1⟩))
    go_ret
    exact ⟨rfl, hb1⟩
  | false =>
    rw [hg] at HG
    have hsm := great_small hg
    have h8 := (greatB_small hg).1
    by_cases hc : checkErr rs = 0
    · have htx := great_text hg hc
      have hpr : printR rs = (⟨(textOf rs).toArray⟩, 0) := by unfold printR; rw [if_pos hc]
      have HPR : Hid (∀ (v : Value) (W : World), IsRules W v rs → Calls Tryd.prog 20 #[v] W (PrintPost (⟨(textOf rs).toArray⟩, 0) W)) := fun v W h => by rw [← hpr]; exact Print_any v rs W h hsm (by omega)
      have HPT : Hid (∀ W, Calls Tryd.prog 12 #[.string ⟨(textOf rs).toArray⟩] W (ParsePost (rs, 0, 0) W)) := fun W => by
        rw [← parse_text hc]
        exact Parse_any _ (by rw [show (⟨(textOf rs).toArray⟩ : ByteArray).size = (textOf rs).length by rw [← sz]]; omega) W
      clear hpr hc hg
      generalize (⟨(textOf rs).toArray⟩ : ByteArray) = tx at *
      go_enter Tryd.func8, Tryd.ntmps8
      go_wp2_with (go_at_call 19; refine HG.out.mono ?_; rintro e w1 ⟨rfl, rfl⟩)
      refine (HPR.out _ _ HR.out).mono ?_
      rintro e w2 ⟨rfl, hb2⟩
      go_wp2_with (fail)
      refine (HPT.out _).mono ?_
      rintro e w3 ⟨v3, rfl, hr3, hb3⟩
      obtain ⟨a3, c3, rfl, -⟩ := hr3.val
      simp only at hr3
      have HR3 := Lib.hid hr3
      clear hr3
      have hB3 := qtrans hb2 hb3
      go_wp2_with (fail)
      refine (rSame_eq _ _ rs _ HR3.out (HR.out.below hB3)).mono ?_
      rintro e w5 ⟨rfl, n, rfl⟩
      have hB5 := below_drewN hB3 n
      clear HR HR3 HPR HPT HG
      generalize w3.drewN n = w5 at *
      go_wp2_with (go_at_call 11; refine (awake_any _).mono ?_; rintro e w6 ⟨rfl, hb6⟩)
      go_ret
      exact ⟨rfl, qtrans hB5 hb6⟩
    · have hpr : printR rs = (⟨#[]⟩, checkErr rs) := by unfold printR; rw [if_neg hc]
      have HPR : Hid (∀ (v : Value) (W : World), IsRules W v rs → Calls Tryd.prog 20 #[v] W (PrintPost (⟨#[]⟩, checkErr rs) W)) := fun v W h => by rw [← hpr]; exact Print_any v rs W h hsm (by omega)
      have HCK : Hid (∀ (v : Value) (W : World), IsRules W v rs → Calls Tryd.prog 22 #[v] W fun e w' => e = .returned (.int .i64 (checkErr rs)) ∧ Below W.heap.size W w') := fun v W h => Check_any v rs W h hsm (by omega)
      generalize checkErr rs = ce at *
      have hc1 : (ce != 0) = true := by simp [hc]
      clear hpr hc hg
      go_enter Tryd.func8, Tryd.ntmps8
      go_wp2_with (go_at_call 19; refine HG.out.mono ?_; rintro e w1 ⟨rfl, rfl⟩)
      refine (HPR.out _ _ HR.out).mono ?_
      rintro e w2 ⟨rfl, hb2⟩
      go_wp2_with (fail)
      refine (HCK.out _ _ (HR.out.below hb2)).mono ?_
      rintro e w3 ⟨rfl, hb3⟩
      clear HR HPR HCK HG
      go_wp2_with (go_at_call 11; refine (awake_any _).mono ?_; rintro e w6 ⟨rfl, hb6⟩)
      go_ret
      exact ⟨by simp, qtrans (qtrans hb2 hb3) hb6⟩
end Go.Proofs.YtgcmekpfhagnbaaDoor
