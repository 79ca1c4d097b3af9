/- The law BuildfileValid: it returns true for every input. -/
import Derived.Test.YtgcmekpfhagnbaaDoorPlC
import Derived.Test.YtgcmekpfhagnbaaDoorPrB
import Derived.Test.YtgcmekpfhagnbaaDoorAwA
namespace Go.Proofs.YtgcmekpfhagnbaaDoor
open Go.RowKit

theorem part_small {txt : ByteArray} {vb : ByteArray → Bool} {D : Words} {l : List ByteArray} (h : PartOf txt vb D l) (hs : ∀ x ∈ D, x.1.size ≤ 40000) : ∀ s ∈ l, s.size ≤ 40000 := by
  rcases h with ⟨rfl, rfl⟩ | ⟨k, L, rfl, _, _, _, rfl⟩
  · intro s h; cases h
  · intro s h
    obtain ⟨x, hx, rfl⟩ := List.mem_map.1 h
    exact hs x (List.mem_cons_of_mem _ hx)
theorem rules_small : ∀ {rs : List Rule} {ws : Words}, RulesW ws rs → (∀ x ∈ ws, x.1.size ≤ 40000) → ∀ r ∈ rs, SmallR r
  | r :: rs, ws, h, hs, q, hq => by
    obtain ⟨W, ws', rfl, hW, h1⟩ := h
    rcases List.mem_cons.1 hq with rfl | hq
    · obtain ⟨K, N, D, V, S, rfl, _, _, hN, hD, hV, _⟩ := hW
      refine ⟨by rw [← hN]; exact hs N (by simp), part_small hD (fun x hx => hs x (by simp [hx])), part_small hV (fun x hx => hs x (by simp [hx]))⟩
    · exact rules_small h1 (fun x hx => hs x (List.mem_append_right _ hx)) q hq
/-- What Parse gives, in two cases. -/
theorem parse_shape (s : ByteArray) (hs : s.size ≤ 30000) : (∃ rs, parseR s = (rs, 0, 0) ∧ checkErr rs = 0 ∧ (textOf rs).length ≤ s.size + 1 ∧ SmallRs rs) ∨
    (∃ k e : Int, parseR s = ([], k, e) ∧ e ≠ 0 ∧ 0 ≤ k ∧ k ≤ s.size ∧ (e = 3 ∨ k = 0)) := by
  rcases parse_inv (wordsOf s).length ⟨wordsOf s, 0, ⟨#[]⟩, [], []⟩ [] (Nat.le_refl _) with ⟨rs, h1, h2⟩ | ⟨P, rs', Q, suf, h1, h2, h3, h4⟩
  · rw [List.nil_append] at h2
    by_cases hc : checkErr rs = 0
    · left
      refine ⟨rs, ?_, hc, ?_, ⟨rules_small h1 (fun x hx => by have := toks_small s _ _ x hx; omega)⟩⟩
      · unfold parseR; rw [h2]; simp only; rw [if_pos hc]
      · rw [text_sum h1]
        have := tk_sum _ s.data.toList 0 (Nat.le_refl _)
        rw [← wordsOf_tk, sz] at this
        exact this
    · right
      exact ⟨0, checkErr rs, by unfold parseR; rw [h2]; simp only; rw [if_neg hc], hc, Int.le_refl _, by omega, .inr rfl⟩
  · right
    unfold parseR
    rw [h4]
    cases suf with
    | nil => exact ⟨s.size, 3, rfl, by decide, by omega, Int.le_refl _, .inl rfl⟩
    | cons x r =>
      have hx : x ∈ wordsOf s := by
        have h1' : wordsOf s = P ++ (Q ++ x :: r) := h1
        rw [h1']; simp
      have := (toks_small s _ _ x hx).2
      exact ⟨x.2, 3, rfl, by decide, by omega, by omega, .inl rfl⟩
set_option maxRecDepth 100000 in
set_option maxHeartbeats 2000000 in
theorem LValid_any (s : ByteArray) (w : World) (hs : s.size ≤ 9223372036854775807) :
    Calls Tryd.prog 9 #[.string s] w fun e w' => e = .returned (.bool true) ∧ Below w.heap.size w w' := by
  by_cases h1 : 400 < s.size
  · go_enter Tryd.func9, Tryd.ntmps9
    go_wp2_with (go_at_call 11; refine (awake_any _).mono ?_; rintro e w1 ⟨rfl, hb1⟩)
    go_ret
    exact ⟨rfl, hb1⟩
  have HP := Lib.hid (fun W => Parse_any s (by omega) W)
  have hd3 : decide ((400 : Int) < (s.size : Int)) = false := decide_eq_false (by omega)
  rcases parse_shape s (by omega) with ⟨rs, hp, hc, ht, hsm⟩ | ⟨k, e, hp, he, hk0, hk1, hek⟩
  · rw [hp] at HP
    have hlen := (checkErr_ok hc).1
    have hpr : printR rs = (⟨(textOf rs).toArray⟩, 0) := by unfold printR; rw [if_pos hc]
    have HPR : Hid (∀ (v : Value) (W : World), IsRules W v rs → Calls Tryd.prog 20 #[v] W (PrintPost (⟨(textOf rs).toArray⟩, 0) W)) := fun v W h => by rw [← hpr]; exact Print_any v rs W h hsm (by omega)
    have HCK : Hid (∀ (v : Value) (W : World), IsRules W v rs → Calls Tryd.prog 22 #[v] W fun e w' => e = .returned (.int .i64 0) ∧ Below W.heap.size W w') := fun v W h => by rw [← hc]; exact Check_any v rs W h hsm (by omega)
    have HPT : Hid (∀ W, Calls Tryd.prog 12 #[.string ⟨(textOf rs).toArray⟩] W (ParsePost (rs, 0, 0) W)) := fun W => by
      rw [← parse_text hc]
      exact Parse_any _ (by rw [show (⟨(textOf rs).toArray⟩ : ByteArray).size = (textOf rs).length by rw [← sz]]; omega) W
    clear hp hc hpr
    generalize (⟨(textOf rs).toArray⟩ : ByteArray) = tx at *
    go_enter Tryd.func9, Tryd.ntmps9
    go_wp2_with (fail)
    refine (HP.out _).mono ?_
    rintro e w1 ⟨v1, rfl, hr1, hb1⟩
    obtain ⟨a1, c1, rfl, -⟩ := hr1.val
    simp only at hr1
    have HR1 := Lib.hid hr1
    clear hr1 HP
    go_wp2_with (fail)
    refine (HPR.out _ _ HR1.out).mono ?_
    rintro e w2 ⟨rfl, hb2⟩
    go_wp2_with (fail)
    refine (HPT.out _).mono ?_
    rintro e w3 ⟨v3, rfl, hr3, hb3⟩
    obtain ⟨a3, c3, rfl, -⟩ := hr3.val
    simp only at hr3
    have HR3 := Lib.hid hr3
    clear hr3
    have hB3 := qtrans hb2 hb3
    go_wp2_with (fail)
    refine (HCK.out _ _ (HR1.out.below hB3)).mono ?_
    rintro e w4 ⟨rfl, hb4⟩
    have hB4 := qtrans hB3 hb4
    go_wp2_with (fail)
    refine (rSame_eq _ _ rs _ (HR3.out.below hb4) (HR1.out.below hB4)).mono ?_
    rintro e w5 ⟨rfl, n, rfl⟩
    have hB5 := below_drewN (qtrans hb1 hB4) n
    clear HR1 HR3 HPR HCK HPT
    generalize w4.drewN n = w5 at *
    go_wp2_with (go_at_call 11; refine (awake_any _).mono ?_; rintro e w6 ⟨rfl, hb6⟩)
    go_ret
    exact ⟨rfl, qtrans hB5 hb6⟩
  · rw [hp] at HP
    have he1 : (e != 0) = true := by simp [he]
    have hd1 : decide (0 ≤ k) = true := decide_eq_true hk0
    have hd2 : decide (k ≤ (s.size : Int)) = true := decide_eq_true hk1
    have hee : ((e == 3) = true) ∨ ((e == 3) = false ∧ (k == 0) = true) := by
      by_cases e3 : e = 3
      · left; simp [e3]
      · right; rcases hek with h | h
        · exact absurd h e3
        · exact ⟨by simp [e3], by simp [h]⟩
    clear hp he hek
    rcases hee with q1 | ⟨q1, q2⟩ <;>
    · go_enter Tryd.func9, Tryd.ntmps9
      go_wp2_with (fail)
      refine (HP.out _).mono ?_
      rintro e' w1 ⟨v1, rfl, hr1, hb1⟩
      obtain ⟨a1, c1, rfl, -⟩ := hr1.val
      clear hr1 HP
      go_wp2_with (go_at_call 11; refine (awake_any _).mono ?_; rintro e w2 ⟨rfl, hb2⟩)
      go_ret
      exact ⟨rfl, qtrans hb1 hb2⟩
end Go.Proofs.YtgcmekpfhagnbaaDoor
