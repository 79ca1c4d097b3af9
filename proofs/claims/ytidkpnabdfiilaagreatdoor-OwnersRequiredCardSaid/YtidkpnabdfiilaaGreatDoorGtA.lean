/- How great files, groups and rules may be: the reference's Great, GreatGroups of chapter 54, Great of chapter 9. -/
import Derived.Test.YtidkpnabdfiilaaGreatDoorOpO
namespace Go.Proofs.YtidkpnabdfiilaaGreatDoor
open Go.RowKit

def greatF (fs : List OFile) : Bool := decide (10 < fs.length) || fs.any fun f => decide (120 < f.path.size) || decide (200 < f.data.size)
theorem greatF_small {fs : List OFile} (h : greatF fs = false) : fs.length ≤ 10 ∧ ∀ f ∈ fs, f.path.size ≤ 120 ∧ f.data.size ≤ 200 := by
  simp only [greatF, Bool.or_eq_false_iff, decide_eq_false_iff_not, List.any_eq_false] at h
  refine ⟨by omega, fun f hf => ?_⟩
  have := h.2 f hf
  simp at this
  omega
theorem greatF_at {fs : List OFile} (_h0 : ¬ 10 < fs.length) {k : Nat} {f : OFile} (hf : fs[k]? = some f) (h : 120 < f.path.size ∨ 200 < f.data.size) : greatF fs = true := by
  simp only [greatF, Bool.or_eq_true, List.any_eq_true, decide_eq_true_eq]
  exact .inr ⟨f, List.mem_of_getElem? hf, h⟩
theorem greatF_none {fs : List OFile} (h0 : ¬ 10 < fs.length) (h : ∀ (k : Nat) (f : OFile), fs[k]? = some f → ¬ 120 < f.path.size ∧ ¬ 200 < f.data.size) : greatF fs = false := by
  simp only [greatF, Bool.or_eq_false_iff, decide_eq_false_iff_not, List.any_eq_false]
  refine ⟨h0, fun f hf => ?_⟩
  obtain ⟨k, hk, rfl⟩ := List.getElem_of_mem hf
  have := h k _ (List.getElem?_eq_getElem hk)
  simp
  omega
set_option maxHeartbeats 1000000 in
theorem rGreat09_any (v : Value) (fs : List OFile) (w : World) (hv : Reads w [] (filesT fs) v) (hz : SizedF fs) :
    Calls Tryz.prog 13 #[v] w fun e w' => e = .returned (.bool (greatF fs)) ∧ w = w' := by
  obtain ⟨a, cap, rfl, hc1, hc2⟩ := files_val hv
  have HV := Lib.hid hv
  have HZ := Lib.hid hz
  clear hv hz
  by_cases h10 : 10 < fs.length
  · have H : Hid (greatF fs = true) := by show _ = _; rw [greatF, decide_eq_true h10, Bool.true_or]
    go_enter Tryz.func13, Tryz.ntmps13
    go_wp2
    go_ret
    exact ⟨ret_bool (by rw [H.out]), rfl⟩
  have hd10 : decide (10 < (fs.length : Int)) = false := decide_eq_false (by omega)
  go_enter Tryz.func13, Tryz.ntmps13
  go_wp2
  go_loop [3] (fun i => ∃ k : Nat, k ≤ fs.length ∧ i = .int .i64 k ∧ Hid (∀ (j : Nat) (f : OFile), j < k → fs[j]? = some f → ¬ 120 < f.path.size ∧ ¬ 200 < f.data.size)) (fun i => fs.length - (intOf i).toNat)
  case atStart => exact ⟨0, Nat.zero_le _, rfl, fun j f hj => by omega⟩
  case round =>
    obtain ⟨k, hk, rfl, HN⟩ := hrel
    by_cases hlt : k < fs.length
    · obtain ⟨f, hf⟩ : ∃ f, fs[k]? = some f := ⟨_, List.getElem?_eq_getElem hlt⟩
      obtain ⟨b, o, rfl, hb, hcp, hcd⟩ := files_elem HV.out hf
      have hsz := HZ.out f (List.mem_of_getElem? hf)
      have hi0 : (0 : Int) ≤ (k : Int) := by omega
      have hi1 : (k : Int) < (fs.length : Int) := by omega
      by_cases h1 : 120 < f.path.size
      · have H : Hid (greatF fs = true) := greatF_at h10 hf (.inl h1)
        have hd : decide (120 < (f.path.size : Int)) = true := decide_eq_true (by omega)
        clear hf
        go_wp2
        go_ret
        exact ⟨ret_bool (by rw [H.out]), rfl⟩
      · have hd : decide (120 < (f.path.size : Int)) = false := decide_eq_false (by omega)
        by_cases h2 : 200 < f.data.size
        · have H : Hid (greatF fs = true) := greatF_at h10 hf (.inr h2)
          have hd2 : decide (200 < (f.data.size : Int)) = true := decide_eq_true (by omega)
          clear hf
          go_wp2
          go_ret
          exact ⟨ret_bool (by rw [H.out]), rfl⟩
        · have hd2 : decide (200 < (f.data.size : Int)) = false := decide_eq_false (by omega)
          have HN2 : Hid (∀ (j : Nat) (f : OFile), j < k + 1 → fs[j]? = some f → ¬ 120 < f.path.size ∧ ¬ 200 < f.data.size) := fun j g hj hg => by
            by_cases e : j = k
            · rw [e, hf] at hg; cases hg; exact ⟨h1, h2⟩
            · exact HN.out j g (by omega) hg
          clear hf
          go_wp2
          go_round
          case rel => exact ⟨k + 1, by omega, by go_num, HN2⟩
          case measure => simp [intOf]; omega
    · have H : Hid (greatF fs = false) := greatF_none h10 (fun j f hj => HN.out j f (by have := (List.getElem?_eq_some_iff.1 hj).1; omega) hj)
      go_wp2
      go_ret
      exact ⟨ret_bool (by rw [H.out]), rfl⟩
/-! Groups. -/
def greatG1 (g : List ByteArray) : Bool := g.any (fun s => decide (40 < s.size)) || decide (22 < g.length)
def greatG (gs : List (List ByteArray)) : Bool := gs.any greatG1 || decide (10 < gs.length)
theorem greatG_small {gs : List (List ByteArray)} (h : greatG gs = false) : gs.length ≤ 10 ∧ ∀ g ∈ gs, g.length ≤ 22 ∧ ∀ s ∈ g, s.size ≤ 40 := by
  simp only [greatG, Bool.or_eq_false_iff, decide_eq_false_iff_not, List.any_eq_false] at h
  refine ⟨by omega, fun g hg => ?_⟩
  have := h.1 g hg
  simp only [greatG1, Bool.or_eq_true, List.any_eq_true, decide_eq_true_eq, not_or, not_exists] at this
  refine ⟨by omega, fun s hs => ?_⟩
  have := this.1 s
  simp at this
  have := this hs
  omega
set_option maxHeartbeats 1000000 in
theorem rGreatGroups_any (v : Value) (gs : List (List ByteArray)) (w : World) (hv : Reads w [] (groupsT gs) v) (hz : SizedG gs) :
    Calls Tryz.prog 14 #[v] w fun e w' => e = .returned (.bool (greatG gs)) ∧ w = w' := by
  obtain ⟨a, cap, rfl, hc1, hc2⟩ := groups_val hv
  have HV := Lib.hid hv
  have HZ := Lib.hid hz
  clear hv hz
  go_enter Tryz.func14, Tryz.ntmps14
  go_wp2
  go_loop [3] (fun i => ∃ k : Nat, k ≤ gs.length ∧ i = .int .i64 k ∧ Hid (∀ (j : Nat) (g : List ByteArray), j < k → gs[j]? = some g → greatG1 g = false)) (fun i => gs.length - (intOf i).toNat)
  case atStart => exact ⟨0, Nat.zero_le _, rfl, fun j f hj => by omega⟩
  case round =>
    obtain ⟨k, hk, rfl, HN⟩ := hrel
    by_cases hlt : k < gs.length
    · obtain ⟨g, hg⟩ : ∃ g, gs[k]? = some g := ⟨_, List.getElem?_eq_getElem hlt⟩
      obtain ⟨b, o, ag, cg, rfl, hb, hcg, hg1, hg2, HS⟩ := groups_elem HV.out hg
      have hsz := HZ.out g (List.mem_of_getElem? hg)
      have HSZ := Lib.hid hsz
      have hi0 : (0 : Int) ≤ (k : Int) := by omega
      have hi1 : (k : Int) < (gs.length : Int) := by omega
      have HG := Lib.hid hg
      have HT : Hid (greatG1 g = true → greatG gs = true) := fun h => by
        rw [greatG, Bool.or_eq_true]; exact .inl (List.any_eq_true.2 ⟨g, List.mem_of_getElem? hg, h⟩)
      clear hg hsz
      go_wp2
      go_loop [4] (fun i => ∃ q : Nat, q ≤ g.length ∧ i = .int .i64 q ∧ Hid (∀ j, j < q → (g.getD j ByteArray.empty).size ≤ 40)) (fun i => g.length - (intOf i).toNat)
      case atStart => exact ⟨0, Nat.zero_le _, rfl, fun j hj => by omega⟩
      case round =>
        obtain ⟨q, hq, rfl, HQ⟩ := hrel
        by_cases hql : q < g.length
        · obtain ⟨a', cap', e, _, _, h3⟩ := HS.out.shape
          cases e
          obtain ⟨bg, og, rfl, hbg, hc⟩ := h3 q hql
          have hcq := hc q hql
          have hq0 : (0 : Int) ≤ (q : Int) := by omega
          have hq1 : (q : Int) < (g.length : Int) := by omega
          clear hc h3
          have hmem : g.getD q ByteArray.empty ∈ g := by rw [List.getD_eq_getElem?_getD, List.getElem?_eq_getElem hql]; exact List.getElem_mem hql
          have hts := HSZ.out _ hmem
          generalize ht : g.getD q ByteArray.empty = t at *
          have HTT := Lib.hid ht
          clear ht
          by_cases h40 : 40 < t.size
          · have H : Hid (greatG gs = true) := HT.out (by rw [greatG1, Bool.or_eq_true]; exact .inl (List.any_eq_true.2 ⟨t, hmem, decide_eq_true h40⟩))
            have hd : decide (40 < (t.size : Int)) = true := decide_eq_true (by omega)
            go_wp2
            go_ret
            exact ⟨ret_bool (by rw [H.out]), rfl⟩
          · have hd : decide (40 < (t.size : Int)) = false := decide_eq_false (by omega)
            have HQ2 : Hid (∀ j, j < q + 1 → (g.getD j ByteArray.empty).size ≤ 40) := fun j hj => by
              by_cases e : j = q
              · rw [e, HTT.out]; omega
              · exact HQ.out j (by omega)
            go_wp2
            go_round
            case rel => exact ⟨q + 1, by omega, by go_num, HQ2⟩
            case measure => simp [intOf]; omega
        · by_cases h22 : 22 < g.length
          · have H : Hid (greatG gs = true) := HT.out (by rw [greatG1, Bool.or_eq_true]; exact .inr (decide_eq_true h22))
            have hd : decide (22 < (g.length : Int)) = true := decide_eq_true (by omega)
            go_wp2
            go_ret
            exact ⟨ret_bool (by rw [H.out]), rfl⟩
          · have hd : decide (22 < (g.length : Int)) = false := decide_eq_false (by omega)
            have HN2 : Hid (∀ (j : Nat) (g : List ByteArray), j < k + 1 → gs[j]? = some g → greatG1 g = false) := fun j g' hj hg' => by
              by_cases e : j = k
              · rw [e, HG.out] at hg'; cases hg'
                rw [greatG1, decide_eq_false h22, Bool.or_false, List.any_eq_false]
                intro s hs
                obtain ⟨i, hi, rfl⟩ := List.getElem_of_mem hs
                have := HQ.out i (by omega)
                rw [List.getD_eq_getElem?_getD, List.getElem?_eq_getElem hi] at this
                simp at this ⊢; omega
              · exact HN.out j g' (by omega) hg'
            go_wp2
            go_round
            case rel => exact ⟨k + 1, by omega, by go_num, HN2⟩
            case measure => simp [intOf]; omega
    · have H : Hid (greatG gs = decide (10 < (gs.length : Int))) := by
        show _ = _
        rw [greatG]
        have : gs.any greatG1 = false := by
          rw [List.any_eq_false]
          intro g hg
          obtain ⟨i, hi, rfl⟩ := List.getElem_of_mem hg
          rw [HN.out i _ (by omega) (List.getElem?_eq_getElem hi)]; simp
        rw [this, Bool.false_or, decide_eq_decide]
        omega
      go_wp2
      go_ret
      exact ⟨ret_bool (by rw [H.out]), rfl⟩
def greatR (rs : List ORule) : Bool := rs.any (fun r => decide (120 < r.pre.size) || greatG r.groups) || decide (6 < rs.length)
theorem greatR_small {rs : List ORule} (h : greatR rs = false) : rs.length ≤ 6 ∧ ∀ r ∈ rs, r.pre.size ≤ 120 ∧ greatG r.groups = false := by
  simp only [greatR, Bool.or_eq_false_iff, decide_eq_false_iff_not, List.any_eq_false] at h
  refine ⟨by omega, fun r hr => ?_⟩
  have := h.1 r hr
  simp at this
  exact ⟨by omega, this.2⟩
theorem greatR_SmallR {rs : List ORule} (h : greatR rs = false) : SmallR rs := by
  obtain ⟨h1, h2⟩ := greatR_small h
  refine ⟨by omega, fun r hr => ⟨by have := (h2 r hr).1; omega, ?_⟩⟩
  obtain ⟨g1, g2⟩ := greatG_small (h2 r hr).2
  exact ⟨by omega, fun g hg => ⟨by have := (g2 g hg).1; omega, fun s hs => by have := (g2 g hg).2 s hs; omega⟩⟩
end Go.Proofs.YtidkpnabdfiilaaGreatDoor
