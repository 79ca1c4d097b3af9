/- The reference's rule. -/
import Derived.Test.YtgcmekpfhagnbaaDoorBfD
namespace Go.Proofs.YtgcmekpfhagnbaaDoor
open Go.RowKit

set_option maxHeartbeats 1000000 in
theorem rrule_any (r : Rule) (dv vv : Value) (w : World) (hd : Strs w dv r.deps) (hv : Strs w vv r.vis) (hs : SmallR r) :
    Calls Tryd.prog 49 #[.agg #[.int .i64 r.kind, .string r.name, dv, vv]] w fun e w' => e = .returned (.int .i64 (ruleErr r)) ∧ Below w.heap.size w w' := by
  obtain ⟨ad, cd, rfl, ld1, ld2, _⟩ := hd.shape
  obtain ⟨av, cv, rfl, lv1, lv2, _⟩ := hv.shape
  have HD := Lib.hid hd
  have HVv := Lib.hid hv
  obtain ⟨hn, hds, hvs⟩ := hs
  have HDS := Lib.hid hds
  have HVS := Lib.hid hvs
  clear hd hv hds hvs
  unfold maxLen at ld2 lv2
  obtain ⟨kd, nm, ds, vs⟩ := r
  simp only at *
  by_cases hk : kd ≠ 1 ∧ kd ≠ 2
  · have k1 : (kd != 1) = true := by simpa using hk.1
    have k2 : (kd != 2) = true := by simpa using hk.2
    have HF : Hid (ruleErr ⟨kd, nm, ds, vs⟩ = 9) := by show _ = _; unfold ruleErr; rw [if_pos hk]
    clear hk
    go_enter Tryd.func49, Tryd.ntmps49
    go_wp2
    go_ret
    exact ⟨ret_int (by rw [HF.out]), qalloc _ _⟩
  have HK := Lib.hid hk
  have hkk : ((kd != 1) = false) ∨ ((kd != 1) = true ∧ (kd != 2) = false) := by
    by_cases e : kd = 1
    · left; simp [e]
    · right
      by_cases e2 : kd = 2
      · subst e2; exact ⟨rfl, rfl⟩
      · exact absurd ⟨e, e2⟩ hk
  clear hk
  have HFN : Hid (freeNameS nm = (nameS nm && !reservedS nm)) := rfl
  have hq := qalloc w (.cells #[.int .i64 kd, .string nm, .slice ad ds.length cd, .slice av vs.length cv] 42)
  have HQ := Lib.hid hq
  clear hq
  cases hfn : nameS nm with
  | false =>
    have HF : Hid (ruleErr ⟨kd, nm, ds, vs⟩ = 6) := by show _ = _; unfold ruleErr; rw [if_neg HK.out, if_pos (by rw [HFN.out, hfn]; rfl)]
    rcases hkk with k1 | ⟨k1, k2⟩ <;>
    · go_enter Tryd.func49, Tryd.ntmps49
      go_wp2_with (go_at_call 38; refine (rName_any _ _ hn).mono ?_; rintro e w1 ⟨rfl, rfl⟩)
      go_ret
      exact ⟨ret_int (by rw [HF.out]), qalloc _ _⟩
  | true =>
  cases hrs : reservedS nm with
  | true =>
    have HF : Hid (ruleErr ⟨kd, nm, ds, vs⟩ = 6) := by show _ = _; unfold ruleErr; rw [if_neg HK.out, if_pos (by rw [HFN.out, hfn, hrs]; rfl)]
    rcases hkk with k1 | ⟨k1, k2⟩ <;>
    · go_enter Tryd.func49, Tryd.ntmps49
      go_wp2_with (first | (go_at_call 38; refine (rName_any _ _ hn).mono ?_; rintro e w1 ⟨rfl, rfl⟩) | (go_at_call 63; refine (rreserved_any _ _).mono ?_; rintro e w1 ⟨rfl, rfl⟩))
      go_ret
      exact ⟨ret_int (by rw [HF.out]), qalloc _ _⟩
  | false =>
    have hff : freeNameS nm = true := by rw [HFN.out, hfn, hrs]; rfl
    have HFF := Lib.hid hff
    clear hff
    by_cases hl : 20 < ds.length ∨ 20 < vs.length
    · have HF : Hid (ruleErr ⟨kd, nm, ds, vs⟩ = 4) := by show _ = _; unfold ruleErr; rw [if_neg HK.out, if_neg (by rw [HFF.out]; simp), if_pos hl]
      have hll : (20 < ds.length) ∨ (¬ 20 < ds.length ∧ 20 < vs.length) := by omega
      clear hl
      rcases hkk with k1 | ⟨k1, k2⟩ <;> rcases hll with h20 | ⟨h20, h21⟩ <;>
      · go_enter Tryd.func49, Tryd.ntmps49
        go_wp2_with (first | (go_at_call 38; refine (rName_any _ _ hn).mono ?_; rintro e w1 ⟨rfl, rfl⟩) | (go_at_call 63; refine (rreserved_any _ _).mono ?_; rintro e w1 ⟨rfl, rfl⟩))
        go_ret
        exact ⟨ret_int (by rw [HF.out]), qalloc _ _⟩
    · have hl1 : ds.length ≤ 20 := by omega
      have hl2 : vs.length ≤ 20 := by omega
      have HL := Lib.hid hl
      clear hl
      by_cases he : elemsErr freeLabelS [] ds = 0
      · have HF : Hid (ruleErr ⟨kd, nm, ds, vs⟩ = elemsErr viewerS [] vs) := by show _ = _; unfold ruleErr; rw [if_neg HK.out, if_neg (by rw [HFF.out]; simp), if_neg HL.out, if_neg (by simpa using he)]
        have he' : (elemsErr freeLabelS [] ds == 0) = true := by simp [he]
        clear he
        rcases hkk with k1 | ⟨k1, k2⟩ <;>
        · go_enter Tryd.func49, Tryd.ntmps49
          go_wp2_with (first | (go_at_call 38; refine (rName_any _ _ hn).mono ?_; rintro e w1 ⟨rfl, rfl⟩) | (go_at_call 63; refine (rreserved_any _ _).mono ?_; rintro e w1 ⟨rfl, rfl⟩))
          refine (relements_false _ _ _ (HD.out.below HQ.out) (by omega) HDS.out).mono ?_
          rintro e w2 ⟨rfl, hb2⟩
          obtain ⟨hc2, _⟩ := bcell hb2
          have hB2 := qtrans HQ.out hb2
          go_wp2_with (fail)
          refine (relements_true _ _ _ (HVv.out.below hB2) (by omega) HVS.out).mono ?_
          rintro e w3 ⟨rfl, hb3⟩
          go_wp2
          go_ret
          exact ⟨ret_int (by rw [HF.out]), qtrans hB2 hb3⟩
      · have HF : Hid (ruleErr ⟨kd, nm, ds, vs⟩ = elemsErr freeLabelS [] ds) := by show _ = _; unfold ruleErr; rw [if_neg HK.out, if_neg (by rw [HFF.out]; simp), if_neg HL.out, if_pos he]
        have he' : (elemsErr freeLabelS [] ds == 0) = false := by simp [he]
        clear he
        rcases hkk with k1 | ⟨k1, k2⟩ <;>
        · go_enter Tryd.func49, Tryd.ntmps49
          go_wp2_with (first | (go_at_call 38; refine (rName_any _ _ hn).mono ?_; rintro e w1 ⟨rfl, rfl⟩) | (go_at_call 63; refine (rreserved_any _ _).mono ?_; rintro e w1 ⟨rfl, rfl⟩))
          refine (relements_false _ _ _ (HD.out.below HQ.out) (by omega) HDS.out).mono ?_
          rintro e w2 ⟨rfl, hb2⟩
          go_wp2
          go_ret
          exact ⟨ret_int (by rw [HF.out]), qtrans HQ.out hb2⟩
end Go.Proofs.YtgcmekpfhagnbaaDoor
