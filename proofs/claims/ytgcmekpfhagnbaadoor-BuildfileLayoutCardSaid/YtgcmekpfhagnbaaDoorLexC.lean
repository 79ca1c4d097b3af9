/- The reference's Label, slash (layer 38), Name, label, seen, for every string of up to 40000 bytes. -/
import Derived.Test.YtgcmekpfhagnbaaDoorLexA
import Derived.Test.YtgcmekpfhagnbaaDoorLibA
namespace Go.Proofs.YtgcmekpfhagnbaaDoor
open Go.RowKit

def strLen : Value → Nat | .string s => s.size | _ => 0

theorem rLabel_any (s : ByteArray) (w : World) (hs : s.size ≤ 40000) :
    Calls Tryd.prog 37 #[.string s] w fun e w' => e = .returned (.bool (labelS s)) ∧ w = w' := by
  by_cases h1 : 90 < s.size
  · have H : Hid (labelS s = false) := labelB_long (by rw [sz]; omega)
    go_enter Tryd.func37, Tryd.ntmps37
    go_wp2
    go_ret
    exact ⟨ret_bool (by rw [H.out]), rfl⟩
  have hd90 : decide (90 < (s.size : Int)) = false := by simp; omega
  have H90 : Hid (labelS s = (split s.data.toList).all (wordN 20)) := by
    show _ = _; simp [labelS, labelB]; intro; omega
  go_enter Tryd.func37, Tryd.ntmps37
  go_wp2_with (go_at_call 68; refine (rslash20_any _ _ (by omega)).mono ?_; rintro e w' ⟨rfl, rfl⟩)
  go_loop [0, 3] (fun v i => ∃ t : ByteArray, v = .string t ∧ i = .int .i64 (slashS t) ∧ t.size ≤ 90 ∧ Hid (labelS s = (split t.data.toList).all (wordN 20))) (fun v _ => strLen v)
  case atStart => exact ⟨s, rfl, rfl, by omega, H90⟩
  case round =>
    obtain ⟨t, rfl, rfl, ht, HT⟩ := hrel
    have hle : slashS t ≤ t.size := by rw [← sz]; exact slashAt_le _
    by_cases hlt : slashS t < t.size
    · have HS : Hid (split t.data.toList = t.data.toList.take (slashS t) :: split (t.data.toList.drop (slashS t + 1))) := split_some (by rw [sz]; exact hlt)
      generalize hk : slashS t = k at *
      have HK := Lib.hid hk
      clear hk
      cases hw : wordS 20 (t.extract 0 k) with
      | true =>
        go_wp2_with (first | (go_at_call 69; refine (rword_any _ _ _ (by simp; omega) (by omega)).mono ?_; rintro e w' ⟨rfl, rfl⟩) | (go_at_call 68; refine (rslash20_any _ _ (by simp; omega)).mono ?_; rintro e w' ⟨rfl, rfl⟩))
        go_round
        case rel =>
          refine ⟨_, rfl, rfl, by simp; omega, ?_⟩
          show _ = _
          rw [wordS, ex_take] at hw; rw [HT.out, HS.out, ex_end, List.all_cons, hw]; simp
        case measure => simp [strLen]; omega
      | false =>
        have HF : Hid (labelS s = false) := by
          show _ = _
          rw [HT.out, HS.out, List.all_cons, ← ex_take]; rw [wordS] at hw; rw [hw]; simp
        go_wp2_with (go_at_call 69; refine (rword_any _ _ _ (by simp; omega) (by omega)).mono ?_; rintro e w' ⟨rfl, rfl⟩)
        go_ret
        exact ⟨ret_bool (by rw [HF.out]), rfl⟩
    · have HS : Hid (labelS s = wordS 20 t) := by
        show _ = _
        rw [HT.out, split_none (by rw [sz]; show slashS t = _; omega)]; simp [wordS]
      go_wp2_with (go_at_call 69; refine (rword_any _ _ _ (by omega) (by omega)).mono ?_; rintro e w' ⟨rfl, rfl⟩)
      go_ret
      exact ⟨ret_bool (by rw [HS.out]), rfl⟩

theorem rslash_any (s : ByteArray) (w : World) (hs : s.size ≤ 40000) :
    Calls Tryd.prog 40 #[.string s] w fun e w' => e = .returned (.int .i64 (lastSlS s)) ∧ w = w' := by
  go_enter Tryd.func40, Tryd.ntmps40
  go_wp2
  go_loop [3] (fun i => ∃ k : Nat, k ≤ s.size ∧ i = .int .i64 ((k : Int) - 1) ∧ Hid (lastSlS s = lastSlFrom s.data.toList k)) (fun i => (intOf i + 1).toNat)
  case atStart => exact ⟨s.size, Nat.le_refl _, rfl, rfl⟩
  case round =>
    obtain ⟨k, hk, rfl, HK⟩ := hrel
    cases k with
    | zero =>
      go_wp2
      go_ret
      exact ⟨ret_int (by rw [HK.out]; rfl), rfl⟩
    | succ k =>
      have hlt : k < s.size := by omega
      have ek : (((k + 1 : Nat) : Int) - 1) = (k : Int) := by omega
      rw [ek]
      clear ek
      have hg := getD_at s k hlt
      by_cases hc : s[k] = 47
      · have hb : ((s[k].toNat : Int) == 47) = true := by rw [byteb]; simp [hc]
        have HF : Hid (lastSlS s = k) := by show _ = _; rw [HK.out, lastSlFrom, if_pos (by rw [hg, hc])]
        clear hg hc
        go_wp2
        go_ret
        exact ⟨ret_int (by rw [HF.out]), rfl⟩
      · have hb : ((s[k].toNat : Int) == 47) = false := by rw [byteb]; simp [hc]
        have HF : Hid (lastSlS s = lastSlFrom s.data.toList k) := by show _ = _; rw [HK.out, lastSlFrom, if_neg (by rw [hg]; exact hc)]
        clear hg hc
        go_wp2
        go_round
        case rel => exact ⟨k, by omega, rfl, HF⟩
        case measure => simp [intOf]
theorem rName_any (s : ByteArray) (w : World) (hs : s.size ≤ 40000) :
    Calls Tryd.prog 38 #[.string s] w fun e w' => e = .returned (.bool (nameS s)) ∧ w = w' := by
  cases hl : labelS s with
  | false =>
    have H : Hid (nameS s = false) := by show _ = _; rw [labelS] at hl; simp [nameS, nameB, hl]
    go_enter Tryd.func38, Tryd.ntmps38
    go_wp2_with (go_at_call 37; refine (rLabel_any _ _ hs).mono ?_; rintro e w' ⟨rfl, rfl⟩)
    go_ret
    exact ⟨ret_bool (by rw [H.out]), rfl⟩
  | true =>
    have H : Hid (nameS s = decide (lastSlS s < 0)) := by
      show _ = _
      rw [labelS] at hl
      rw [nameS, nameB, hl, lastSl_neg]; simp
    go_enter Tryd.func38, Tryd.ntmps38
    go_wp2_with (first | (go_at_call 37; refine (rLabel_any _ _ hs).mono ?_; rintro e w' ⟨rfl, rfl⟩) | (go_at_call 40; refine (rslash_any _ _ hs).mono ?_; rintro e w' ⟨rfl, rfl⟩))
    all_goals go_ret
    all_goals exact ⟨ret_bool (by rw [H.out]), rfl⟩
theorem rlabel_any (s : ByteArray) (w : World) (hs : s.size ≤ 40000) :
    Calls Tryd.prog 80 #[.string s] w fun e w' => e = .returned (.bool (freeLabelS s)) ∧ w = w' := by
  have H : Hid (freeLabelS s = (labelS s && !reservedS s)) := rfl
  cases hl : labelS s <;> rw [hl] at H <;>
  · go_enter Tryd.func80, Tryd.ntmps80
    go_wp2_with (first | (go_at_call 37; refine (rLabel_any _ _ hs).mono ?_; rintro e w' ⟨rfl, rfl⟩) | (go_at_call 63; refine (rreserved_any _ _).mono ?_; rintro e w' ⟨rfl, rfl⟩))
    go_ret
    exact ⟨ret_bool (by rw [H.out]; simp), rfl⟩

theorem last_at {s : ByteArray} (h : 1 ≤ s.size) : ((s[s.size - 1].toNat : Int) == 47) = endsS s := by
  rw [byteb, ← ends_beq s h, tl, ex_data]
  rw [← getD_at s (s.size - 1) (by omega)]
  have hne : s.data.toList ≠ [] := by intro e; have := congrArg List.length e; rw [sz] at this; exact absurd this (by simp only [List.length_nil]; omega)
  rw [← sz]
  generalize s.data.toList = l at *
  obtain ⟨L, b, rfl⟩ : ∃ L b, l = L ++ [b] := by
    rcases List.eq_nil_or_concat l with h' | ⟨L, b, h'⟩
    · exact absurd h' hne
    · exact ⟨L, b, by simpa using h'⟩
  rw [Bool.eq_iff_iff]
  simp
theorem star_ends {s : ByteArray} (h : endsS s = true) : (s.toList == [42]) = false := by
  rw [beq_eq_false_iff_ne]
  intro e
  rw [tl] at e
  rw [endsS, e] at h
  cases h
set_option maxHeartbeats 400000 in
theorem rseen_any (s : ByteArray) (w : World) (hs : s.size ≤ 40000) :
    Calls Tryd.prog 79 #[.string s] w fun e w' => e = .returned (.bool (viewerS s)) ∧ w = w' := by
  cases hE : endsS s with
  | true =>
    have h1 : 1 ≤ s.size := endsS_pos hE
    have HV := Lib.hid (viewerS_ends hE)
    have hst := star_ends hE
    have hfl := freeLabelS_ends hE
    have hla := last_at h1
    rw [hE] at hla
    by_cases h2 : 2 ≤ s.size
    · go_enter Tryd.func79, Tryd.ntmps79
      go_wp2_with (first | (go_at_call 80; refine (rlabel_any _ _ hs).mono ?_; rintro e w' ⟨rfl, rfl⟩) | (go_at_call 37; refine (rLabel_any _ _ (by simp; omega)).mono ?_; rintro e w' ⟨rfl, rfl⟩))
      go_ret
      exact ⟨ret_bool (by rw [HV.out]), rfl⟩
    · have h3 : s.size = 1 := by omega
      have HF : Hid (viewerS s = false) := by
        show _ = _
        rw [HV.out, labelS, ex_take, h3]; exact labelB_nil
      clear h2
      go_enter Tryd.func79, Tryd.ntmps79
      go_wp2_with (go_at_call 80; refine (rlabel_any _ _ hs).mono ?_; rintro e w' ⟨rfl, rfl⟩)
      go_ret
      exact ⟨ret_bool (by rw [HF.out]), rfl⟩
  | false =>
    have HV := Lib.hid (viewerS_not hE)
    cases hst : (s.toList == [42]) with
    | true =>
      have HF : Hid (viewerS s = true) := by show _ = _; rw [HV.out, ← tl, hst]; rfl
      go_enter Tryd.func79, Tryd.ntmps79
      go_wp2
      go_ret
      exact ⟨ret_bool (by rw [HF.out]), rfl⟩
    | false =>
      cases hfl : freeLabelS s with
      | true =>
        have HF : Hid (viewerS s = true) := by show _ = _; rw [HV.out, hfl]; simp
        go_enter Tryd.func79, Tryd.ntmps79
        go_wp2_with (go_at_call 80; refine (rlabel_any _ _ hs).mono ?_; rintro e w' ⟨rfl, rfl⟩)
        go_ret
        exact ⟨ret_bool (by rw [HF.out]), rfl⟩
      | false =>
        have HF : Hid (viewerS s = false) := by show _ = _; rw [HV.out, ← tl, hst, hfl]; rfl
        by_cases h2 : 2 ≤ s.size
        · have hla := last_at (s := s) (by omega)
          rw [hE] at hla
          go_enter Tryd.func79, Tryd.ntmps79
          go_wp2_with (go_at_call 80; refine (rlabel_any _ _ hs).mono ?_; rintro e w' ⟨rfl, rfl⟩)
          go_ret
          exact ⟨ret_bool (by rw [HF.out]), rfl⟩
        · go_enter Tryd.func79, Tryd.ntmps79
          go_wp2_with (go_at_call 80; refine (rlabel_any _ _ hs).mono ?_; rintro e w' ⟨rfl, rfl⟩)
          go_ret
          exact ⟨ret_bool (by rw [HF.out]), rfl⟩
end Go.Proofs.YtgcmekpfhagnbaaDoor
