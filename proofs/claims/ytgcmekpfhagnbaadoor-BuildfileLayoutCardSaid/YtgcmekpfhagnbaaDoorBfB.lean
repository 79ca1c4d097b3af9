/- buildfile.checkElements and the reference's elements. -/
import Derived.Test.YtgcmekpfhagnbaaDoorSlA
import Derived.Test.YtgcmekpfhagnbaaDoorBfA
namespace Go.Proofs.YtgcmekpfhagnbaaDoor
open Go.RowKit

/-- Why the elements after 'pre' are not valid (6) or not different (7), or 0. -/
def elemsErr (vb : ByteArray → Bool) (pre : List ByteArray) : List ByteArray → Int
  | [] => 0
  | s :: r => if vb s then (if memS s pre then 7 else elemsErr vb (pre ++ [s]) r) else 6
theorem elemsErr_at (vb : ByteArray → Bool) {ss : List ByteArray} {k : Nat} {s : ByteArray} (hk : k < ss.length) (hs : ss.getD k ByteArray.empty = s) :
    elemsErr vb (ss.take k) (ss.drop k) = if vb s then (if memS s (ss.take k) then 7 else elemsErr vb (ss.take (k + 1)) (ss.drop (k + 1))) else 6 := by
  have e : ss[k] = s := by rw [← hs, List.getD_eq_getElem?_getD, List.getElem?_eq_getElem hk]; rfl
  rw [List.drop_eq_getElem_cons hk, elemsErr, e, List.take_succ_eq_append_getElem hk, e]
theorem small_at {ss : List ByteArray} {k m : Nat} {s : ByteArray} (hss : ∀ s ∈ ss, s.size ≤ m) (hk : k < ss.length) (hs : ss.getD k ByteArray.empty = s) : s.size ≤ m := by
  rw [← hs, List.getD_eq_getElem?_getD, List.getElem?_eq_getElem hk]
  exact hss _ (List.getElem_mem hk)

theorem checkElements_freeLabel (v : Value) (ss : List ByteArray) (w : World) (hv : Strs w v ss) (hn : ss.length ≤ 40000) (hss : ∀ s ∈ ss, s.size ≤ 40000) :
    Calls Tryd.prog 73 #[v, .func (.func 58) #[] #[]] w fun e w' => e = .returned (.int .i64 (elemsErr freeLabelS [] ss)) ∧ Below w.heap.size w w' := by
  have HSS := Lib.hid hss
  have HV := Lib.hid hv
  obtain ⟨a, cap, rfl, h1, h2, _⟩ := hv.shape
  clear hss hv
  unfold maxLen at h2
  go_enter Tryd.func73, Tryd.ntmps73
  go_wp2
  go_loopw [9] (fun i wr => ∃ k : Nat, k ≤ ss.length ∧ i = .int .i64 k ∧ Below w.heap.size w wr ∧ Hid (elemsErr freeLabelS [] ss = elemsErr freeLabelS (ss.take k) (ss.drop k))) (fun i _ => ss.length - (intOf i).toNat)
  case atStart => exact ⟨0, Nat.zero_le _, rfl, qrefl _, rfl⟩
  case round =>
    obtain ⟨k, hk, rfl, hb, HE⟩ := hrel
    by_cases hlt : k < ss.length
    · have HVr : Hid (Strs wr (.slice a ss.length cap) ss) := HV.out.below hb
      obtain ⟨a', cap', e, _, _, h3⟩ := HVr.out.shape
      cases e
      obtain ⟨b, o, rfl, hbb, hc⟩ := h3 k hlt
      have hcell := hc k hlt
      clear hc h3
      generalize ht : ss.getD k ByteArray.empty = t at *
      have HE2 := Lib.hid (HE.out.trans (elemsErr_at freeLabelS hlt ht))
      have hts := small_at HSS.out hlt ht
      clear ht HE
      have HTK : Hid (Strs wr (.slice (some ⟨b, o, none⟩) k cap) (ss.take k)) := HVr.out.take (Nat.le_of_lt hlt)
      cases hvb : freeLabelS t with
      | false =>
        have HF : Hid (elemsErr freeLabelS [] ss = 6) := by show _ = _; rw [HE2.out, hvb]; rfl
        go_wp2_with (go_at_call 58; refine (freeLabel_any _ _ hts).mono ?_; rintro e w1 ⟨rfl, hb1⟩)
        go_ret
        exact ⟨ret_int (by rw [HF.out]), qtrans hb hb1⟩
      | true =>
        cases hm : memS t (ss.take k) with
        | true =>
          have HF : Hid (elemsErr freeLabelS [] ss = 7) := by show _ = _; rw [HE2.out, hvb, hm]; rfl
          go_wp2_with (first | (go_at_call 58; refine (freeLabel_any _ _ hts).mono ?_; rintro e w1 ⟨rfl, hb1⟩) | (go_at_call 89; refine (SContains_any _ _ (ss.take k) _ (HTK.out.below hb1) (by rw [List.length_take]; omega)).mono ?_; rintro e w2 ⟨rfl, rfl⟩))
          go_ret
          exact ⟨ret_int (by rw [HF.out]), qtrans hb hb1⟩
        | false =>
          have HF : Hid (elemsErr freeLabelS [] ss = elemsErr freeLabelS (ss.take (k + 1)) (ss.drop (k + 1))) := by show _ = _; rw [HE2.out, hvb, hm]; rfl
          go_wp2_with (first | (go_at_call 58; refine (freeLabel_any _ _ hts).mono ?_; rintro e w1 ⟨rfl, hb1⟩) | (go_at_call 89; refine (SContains_any _ _ (ss.take k) _ (HTK.out.below hb1) (by rw [List.length_take]; omega)).mono ?_; rintro e w2 ⟨rfl, rfl⟩))
          go_roundw
          case rel => exact ⟨k + 1, by omega, by go_num, qtrans hb hb1, HF⟩
          case measure => simp [intOf]; omega
    · have HF : Hid (elemsErr freeLabelS [] ss = 0) := by
        show _ = _
        rw [HE.out, List.drop_eq_nil_of_le (by omega)]; rfl
      go_wp2
      go_ret
      exact ⟨ret_int (by rw [HF.out]), hb⟩
theorem checkElements_viewer (v : Value) (ss : List ByteArray) (w : World) (hv : Strs w v ss) (hn : ss.length ≤ 40000) (hss : ∀ s ∈ ss, s.size ≤ 40000) :
    Calls Tryd.prog 73 #[v, .func (.func 59) #[] #[]] w fun e w' => e = .returned (.int .i64 (elemsErr viewerS [] ss)) ∧ Below w.heap.size w w' := by
  have HSS := Lib.hid hss
  have HV := Lib.hid hv
  obtain ⟨a, cap, rfl, h1, h2, _⟩ := hv.shape
  clear hss hv
  unfold maxLen at h2
  go_enter Tryd.func73, Tryd.ntmps73
  go_wp2
  go_loopw [9] (fun i wr => ∃ k : Nat, k ≤ ss.length ∧ i = .int .i64 k ∧ Below w.heap.size w wr ∧ Hid (elemsErr viewerS [] ss = elemsErr viewerS (ss.take k) (ss.drop k))) (fun i _ => ss.length - (intOf i).toNat)
  case atStart => exact ⟨0, Nat.zero_le _, rfl, qrefl _, rfl⟩
  case round =>
    obtain ⟨k, hk, rfl, hb, HE⟩ := hrel
    by_cases hlt : k < ss.length
    · have HVr : Hid (Strs wr (.slice a ss.length cap) ss) := HV.out.below hb
      obtain ⟨a', cap', e, _, _, h3⟩ := HVr.out.shape
      cases e
      obtain ⟨b, o, rfl, hbb, hc⟩ := h3 k hlt
      have hcell := hc k hlt
      clear hc h3
      generalize ht : ss.getD k ByteArray.empty = t at *
      have HE2 := Lib.hid (HE.out.trans (elemsErr_at viewerS hlt ht))
      have hts := small_at HSS.out hlt ht
      clear ht HE
      have HTK : Hid (Strs wr (.slice (some ⟨b, o, none⟩) k cap) (ss.take k)) := HVr.out.take (Nat.le_of_lt hlt)
      cases hvb : viewerS t with
      | false =>
        have HF : Hid (elemsErr viewerS [] ss = 6) := by show _ = _; rw [HE2.out, hvb]; rfl
        go_wp2_with (go_at_call 59; refine (viewer_any _ _ hts).mono ?_; rintro e w1 ⟨rfl, hb1⟩)
        go_ret
        exact ⟨ret_int (by rw [HF.out]), qtrans hb hb1⟩
      | true =>
        cases hm : memS t (ss.take k) with
        | true =>
          have HF : Hid (elemsErr viewerS [] ss = 7) := by show _ = _; rw [HE2.out, hvb, hm]; rfl
          go_wp2_with (first | (go_at_call 59; refine (viewer_any _ _ hts).mono ?_; rintro e w1 ⟨rfl, hb1⟩) | (go_at_call 89; refine (SContains_any _ _ (ss.take k) _ (HTK.out.below hb1) (by rw [List.length_take]; omega)).mono ?_; rintro e w2 ⟨rfl, rfl⟩))
          go_ret
          exact ⟨ret_int (by rw [HF.out]), qtrans hb hb1⟩
        | false =>
          have HF : Hid (elemsErr viewerS [] ss = elemsErr viewerS (ss.take (k + 1)) (ss.drop (k + 1))) := by show _ = _; rw [HE2.out, hvb, hm]; rfl
          go_wp2_with (first | (go_at_call 59; refine (viewer_any _ _ hts).mono ?_; rintro e w1 ⟨rfl, hb1⟩) | (go_at_call 89; refine (SContains_any _ _ (ss.take k) _ (HTK.out.below hb1) (by rw [List.length_take]; omega)).mono ?_; rintro e w2 ⟨rfl, rfl⟩))
          go_roundw
          case rel => exact ⟨k + 1, by omega, by go_num, qtrans hb hb1, HF⟩
          case measure => simp [intOf]; omega
    · have HF : Hid (elemsErr viewerS [] ss = 0) := by
        show _ = _
        rw [HE.out, List.drop_eq_nil_of_le (by omega)]; rfl
      go_wp2
      go_ret
      exact ⟨ret_int (by rw [HF.out]), hb⟩
end Go.Proofs.YtgcmekpfhagnbaaDoor
