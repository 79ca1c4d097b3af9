/- The reference's elements. -/
import Derived.Test.YtgcmekpfhagnbaaDoorBfB
namespace Go.Proofs.YtgcmekpfhagnbaaDoor
open Go.RowKit

theorem quietS {P : Program} {f : FuncId} {args : Array Value} {w : World} {n : Nat} {v : Value}
    (h : Calls P f args (w.drewN n) fun e w' => e = .returned v ∧ w.drewN n = w') : Calls P f args (w.drewN n) fun e w'' => e = .returned v ∧ ∃ m, w'' = w.drewN m :=
  h.mono fun _ _ ⟨he, hm⟩ => ⟨he, n, hm.symm⟩
theorem Strs.drewN {w : World} {v : Value} {ss : List ByteArray} (h : Strs w v ss) (n : Nat) : Strs (w.drewN n) v ss := h.below (below_drewN (qrefl w) n)
theorem relements_true (v : Value) (ss : List ByteArray) (w : World) (hv : Strs w v ss) (hn : ss.length ≤ 40000) (hss : ∀ s ∈ ss, s.size ≤ 40000) :
    Calls Tryd.prog 75 #[v, .bool true] w fun e w' => e = .returned (.int .i64 (elemsErr viewerS [] ss)) ∧ Below w.heap.size w w' := by
  have HSS := Lib.hid hss
  have HV := Lib.hid hv
  obtain ⟨a, cap, rfl, h1, h2, _⟩ := hv.shape
  clear hss hv
  unfold maxLen at h2
  go_enter Tryd.func75, Tryd.ntmps75
  go_wp2
  go_loopw [5] (fun i wr => ∃ k : Nat, k ≤ ss.length ∧ i = .int .i64 k ∧ Below w.heap.size w wr ∧ Hid (elemsErr viewerS [] ss = elemsErr viewerS (ss.take k) (ss.drop k))) (fun i _ => ss.length - (intOf i).toNat)
  case atStart => exact ⟨0, Nat.zero_le _, rfl, qrefl _, rfl⟩
  case round =>
    obtain ⟨k, hk, rfl, hb, HE⟩ := hrel
    by_cases hlt : k < ss.length
    · have HVr : Hid (Strs wr (.slice a ss.length cap) ss) := HV.out.below hb
      obtain ⟨a', cap', e, _, _, h3⟩ := HVr.out.shape
      cases e
      obtain ⟨b, o, rfl, hbb, hc⟩ := h3 k hlt
      have hcell := hc k hlt
      clear hc h3
      generalize ht : ss.getD k ByteArray.empty = t at *
      have HE2 := Lib.hid (HE.out.trans (elemsErr_at viewerS hlt ht))
      have hts := small_at HSS.out hlt ht
      clear ht HE
      have HTK : Hid (Strs wr (.slice (some ⟨b, o, none⟩) k cap) (ss.take k)) := HVr.out.take (Nat.le_of_lt hlt)
      cases hvb : viewerS t with
      | false =>
        have HF : Hid (elemsErr viewerS [] ss = 6) := by show _ = _; rw [HE2.out, hvb]; rfl
        go_wp2_with (go_at_call 79; refine (rseen_any _ _ hts).mono ?_; rintro e w1 ⟨rfl, rfl⟩)
        go_ret
        exact ⟨ret_int (by rw [HF.out]), hb⟩
      | true =>
        cases hm : memS t (ss.take k) with
        | true =>
          have HF : Hid (elemsErr viewerS [] ss = 7) := by show _ = _; rw [HE2.out, hvb, hm]; rfl
          go_wp2_with (first | (go_at_call 79; refine (rseen_any _ _ hts).mono ?_; rintro e w1 ⟨rfl, rfl⟩))
          go_quiet ((go_at_call 90; exact quietS (v := .bool true) ((rHas_any _ _ (ss.take k) _ (HTK.out.drewN _) (by rw [List.length_take]; omega)).mono fun _ _ h => by rw [hm] at h; exact h)))
          go_wp2
          go_ret
          exact ⟨ret_int (by rw [HF.out]), below_drewN hb _⟩
        | false =>
          have HF : Hid (elemsErr viewerS [] ss = elemsErr viewerS (ss.take (k + 1)) (ss.drop (k + 1))) := by show _ = _; rw [HE2.out, hvb, hm]; rfl
          go_wp2_with (first | (go_at_call 79; refine (rseen_any _ _ hts).mono ?_; rintro e w1 ⟨rfl, rfl⟩))
          go_quiet ((go_at_call 90; exact quietS (v := .bool false) ((rHas_any _ _ (ss.take k) _ (HTK.out.drewN _) (by rw [List.length_take]; omega)).mono fun _ _ h => by rw [hm] at h; exact h)))
          go_wp2
          go_roundw
          case rel => exact ⟨k + 1, by omega, by go_num, below_drewN hb _, HF⟩
          case measure => simp [intOf]; omega
    · have HF : Hid (elemsErr viewerS [] ss = 0) := by
        show _ = _
        rw [HE.out, List.drop_eq_nil_of_le (by omega)]; rfl
      go_wp2
      go_ret
      exact ⟨ret_int (by rw [HF.out]), hb⟩
theorem relements_false (v : Value) (ss : List ByteArray) (w : World) (hv : Strs w v ss) (hn : ss.length ≤ 40000) (hss : ∀ s ∈ ss, s.size ≤ 40000) :
    Calls Tryd.prog 75 #[v, .bool false] w fun e w' => e = .returned (.int .i64 (elemsErr freeLabelS [] ss)) ∧ Below w.heap.size w w' := by
  have HSS := Lib.hid hss
  have HV := Lib.hid hv
  obtain ⟨a, cap, rfl, h1, h2, _⟩ := hv.shape
  clear hss hv
  unfold maxLen at h2
  go_enter Tryd.func75, Tryd.ntmps75
  go_wp2
  go_loopw [5] (fun i wr => ∃ k : Nat, k ≤ ss.length ∧ i = .int .i64 k ∧ Below w.heap.size w wr ∧ Hid (elemsErr freeLabelS [] ss = elemsErr freeLabelS (ss.take k) (ss.drop k))) (fun i _ => ss.length - (intOf i).toNat)
  case atStart => exact ⟨0, Nat.zero_le _, rfl, qrefl _, rfl⟩
  case round =>
    obtain ⟨k, hk, rfl, hb, HE⟩ := hrel
    by_cases hlt : k < ss.length
    · have HVr : Hid (Strs wr (.slice a ss.length cap) ss) := HV.out.below hb
      obtain ⟨a', cap', e, _, _, h3⟩ := HVr.out.shape
      cases e
      obtain ⟨b, o, rfl, hbb, hc⟩ := h3 k hlt
      have hcell := hc k hlt
      clear hc h3
      generalize ht : ss.getD k ByteArray.empty = t at *
      have HE2 := Lib.hid (HE.out.trans (elemsErr_at freeLabelS hlt ht))
      have hts := small_at HSS.out hlt ht
      clear ht HE
      have HTK : Hid (Strs wr (.slice (some ⟨b, o, none⟩) k cap) (ss.take k)) := HVr.out.take (Nat.le_of_lt hlt)
      cases hvb : freeLabelS t with
      | false =>
        have HF : Hid (elemsErr freeLabelS [] ss = 6) := by show _ = _; rw [HE2.out, hvb]; rfl
        go_wp2_with (go_at_call 80; refine (rlabel_any _ _ hts).mono ?_; rintro e w1 ⟨rfl, rfl⟩)
        go_ret
        exact ⟨ret_int (by rw [HF.out]), hb⟩
      | true =>
        cases hm : memS t (ss.take k) with
        | true =>
          have HF : Hid (elemsErr freeLabelS [] ss = 7) := by show _ = _; rw [HE2.out, hvb, hm]; rfl
          go_wp2_with (first | (go_at_call 80; refine (rlabel_any _ _ hts).mono ?_; rintro e w1 ⟨rfl, rfl⟩))
          go_quiet ((go_at_call 90; exact quietS (v := .bool true) ((rHas_any _ _ (ss.take k) _ (HTK.out.drewN _) (by rw [List.length_take]; omega)).mono fun _ _ h => by rw [hm] at h; exact h)))
          go_wp2
          go_ret
          exact ⟨ret_int (by rw [HF.out]), below_drewN hb _⟩
        | false =>
          have HF : Hid (elemsErr freeLabelS [] ss = elemsErr freeLabelS (ss.take (k + 1)) (ss.drop (k + 1))) := by show _ = _; rw [HE2.out, hvb, hm]; rfl
          go_wp2_with (first | (go_at_call 80; refine (rlabel_any _ _ hts).mono ?_; rintro e w1 ⟨rfl, rfl⟩))
          go_quiet ((go_at_call 90; exact quietS (v := .bool false) ((rHas_any _ _ (ss.take k) _ (HTK.out.drewN _) (by rw [List.length_take]; omega)).mono fun _ _ h => by rw [hm] at h; exact h)))
          go_wp2
          go_roundw
          case rel => exact ⟨k + 1, by omega, by go_num, below_drewN hb _, HF⟩
          case measure => simp [intOf]; omega
    · have HF : Hid (elemsErr freeLabelS [] ss = 0) := by
        show _ = _
        rw [HE.out, List.drop_eq_nil_of_le (by omega)]; rfl
      go_wp2
      go_ret
      exact ⟨ret_int (by rw [HF.out]), hb⟩
end Go.Proofs.YtgcmekpfhagnbaaDoor
