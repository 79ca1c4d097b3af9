/- buildfile's tests on names: targetName, freeName, freeLabel, viewer. For every string of up to 40000 bytes. -/
import Derived.Test.YtgcmekpfhagnbaaDoorLexE
import Derived.Test.YtgcmekpfhagnbaaDoorLexC
namespace Go.Proofs.YtgcmekpfhagnbaaDoor
open Go.RowKit

theorem contains_slash (s : ByteArray) : s.data.toList.contains 47 = decide (slashS s < s.size) := by
  rw [Bool.eq_iff_iff]
  rw [← sz, slashS, slashAt, decide_eq_true_eq, List.findIdx_lt_length]
  simp
theorem targetName_any (s : ByteArray) (w : World) (hs : s.size ≤ 40000) :
    Calls Tryd.prog 36 #[.string s] w fun e w' => e = .returned (.bool (nameS s)) ∧ Below w.heap.size w w' := by
  have H : Hid (nameS s = (labelS s && !decide (slashS s < s.size))) := by show _ = _; rw [nameS, nameB, contains_slash]; rfl
  cases hl : labelS s <;> rw [hl] at H <;>
  · go_enter Tryd.func36, Tryd.ntmps36
    go_wp2_with (first | (go_at_call 35; refine (Label_any _ _ hs).mono ?_; rintro e w' ⟨rfl, hb⟩) | (go_at_call 67; refine (Contains_slash _ _).mono ?_; rintro e w' ⟨rfl, rfl⟩))
    all_goals go_ret
    all_goals exact ⟨ret_bool (by rw [H.out]; simp), hb⟩
theorem freeName_any (s : ByteArray) (w : World) (hs : s.size ≤ 40000) :
    Calls Tryd.prog 56 #[.string s] w fun e w' => e = .returned (.bool (freeNameS s)) ∧ Below w.heap.size w w' := by
  have H : Hid (freeNameS s = (nameS s && !reservedS s)) := rfl
  cases hl : nameS s <;> rw [hl] at H <;>
  · go_enter Tryd.func56, Tryd.ntmps56
    go_wp2_with (first | (go_at_call 36; refine (targetName_any _ _ hs).mono ?_; rintro e w' ⟨rfl, hb⟩) | (go_at_call 77; refine (reserved_any _ _).mono ?_; rintro e w' ⟨rfl, rfl⟩))
    all_goals go_ret
    all_goals exact ⟨ret_bool (by rw [H.out]; simp), hb⟩
theorem freeLabel_any (s : ByteArray) (w : World) (hs : s.size ≤ 40000) :
    Calls Tryd.prog 58 #[.string s] w fun e w' => e = .returned (.bool (freeLabelS s)) ∧ Below w.heap.size w w' := by
  have H : Hid (freeLabelS s = (labelS s && !reservedS s)) := rfl
  cases hl : labelS s <;> rw [hl] at H <;>
  · go_enter Tryd.func58, Tryd.ntmps58
    go_wp2_with (first | (go_at_call 35; refine (Label_any _ _ hs).mono ?_; rintro e w' ⟨rfl, hb⟩) | (go_at_call 77; refine (reserved_any _ _).mono ?_; rintro e w' ⟨rfl, rfl⟩))
    all_goals go_ret
    all_goals exact ⟨ret_bool (by rw [H.out]; simp), hb⟩
theorem viewer_any (s : ByteArray) (w : World) (hs : s.size ≤ 40000) :
    Calls Tryd.prog 59 #[.string s] w fun e w' => e = .returned (.bool (viewerS s)) ∧ Below w.heap.size w w' := by
  cases hE : endsS s with
  | true =>
    have HV := Lib.hid (viewerS_ends hE)
    go_enter Tryd.func59, Tryd.ntmps59
    go_wp2_with (first | (go_at_call 78; refine (CutSuffix_yes _ _ hs hE).mono ?_; rintro e w' ⟨rfl, rfl⟩) | (go_at_call 35; refine (Label_any _ _ (by simp; omega)).mono ?_; rintro e w' ⟨rfl, hb⟩))
    go_ret
    exact ⟨ret_bool (by rw [HV.out]), hb⟩
  | false =>
    have HV := Lib.hid (viewerS_not hE)
    cases hst : (s.toList == [42]) with
    | true =>
      have HF : Hid (viewerS s = true) := by show _ = _; rw [HV.out, ← tl, hst]; rfl
      go_enter Tryd.func59, Tryd.ntmps59
      go_wp2_with (first | (go_at_call 78; refine (CutSuffix_no _ _ hs hE).mono ?_; rintro e w' ⟨rfl, rfl⟩))
      go_ret
      exact ⟨ret_bool (by rw [HF.out]), qrefl _⟩
    | false =>
      have HF : Hid (viewerS s = freeLabelS s) := by show _ = _; rw [HV.out, ← tl, hst]; rfl
      go_enter Tryd.func59, Tryd.ntmps59
      go_wp2_with (first | (go_at_call 78; refine (CutSuffix_no _ _ hs hE).mono ?_; rintro e w' ⟨rfl, rfl⟩) | (go_at_call 58; refine (freeLabel_any _ _ hs).mono ?_; rintro e w' ⟨rfl, hb⟩))
      go_ret
      exact ⟨ret_bool (by rw [HF.out]), hb⟩
end Go.Proofs.YtgcmekpfhagnbaaDoor
