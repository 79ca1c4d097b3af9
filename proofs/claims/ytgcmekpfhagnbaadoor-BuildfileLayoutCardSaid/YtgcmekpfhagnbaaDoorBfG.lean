/- The reference's Check. -/
import Derived.Test.YtgcmekpfhagnbaaDoorBfF
namespace Go.Proofs.YtgcmekpfhagnbaaDoor
open Go.RowKit

/-- Where the inner loop stands: m earlier names have been held against the rule's. -/
def InnerAt (r : Rule) (pre : List Rule) (m : Nat) (q : Int) : Prop :=
  (ruleErr r ≠ 0 ∧ q = ruleErr r) ∨ (ruleErr r = 0 ∧ q = 0 ∧ ∀ (j : Nat) (p : Rule), j < m → pre[j]? = some p → (p.name.toList == r.name.toList) = false) ∨ (ruleErr r = 0 ∧ q = 7 ∧ nameIn r.name pre = true)

set_option maxHeartbeats 1000000 in
theorem rCheck_any (v : Value) (rs : List Rule) (w : World) (hr : IsRules w v rs) (hs : SmallRs rs) (hn : rs.length ≤ 40000) :
    Calls Tryd.prog 23 #[v] w fun e w' => e = .returned (.int .i64 (checkErr rs)) ∧ Below w.heap.size w w' := by
  obtain ⟨a, cap, rfl, h1, h2⟩ := hr.val
  have HR := Lib.hid hr
  clear hr
  by_cases h100 : 100 < rs.length
  · have HF : Hid (checkErr rs = 4) := by show _ = _; unfold checkErr; rw [if_pos h100]
    go_enter Tryd.func23, Tryd.ntmps23
    go_wp2
    go_ret
    exact ⟨ret_int (by rw [HF.out]), qrefl _⟩
  have HC : Hid (checkErr rs = checkFrom [] rs) := by show _ = _; unfold checkErr; rw [if_neg h100]
  have hd100 : decide (100 < (rs.length : Int)) = false := by simp; omega
  go_enter Tryd.func23, Tryd.ntmps23
  go_wp2
  go_loopw [3] (fun i wr => ∃ k : Nat, k ≤ rs.length ∧ i = .int .i64 k ∧ Below w.heap.size w wr ∧ Hid (checkErr rs = checkFrom (rs.take k) (rs.drop k))) (fun i _ => rs.length - (intOf i).toNat)
  case atStart => exact ⟨0, Nat.zero_le _, rfl, qrefl _, HC⟩
  case round =>
    obtain ⟨k, hk, rfl, hb, HE⟩ := hrel
    by_cases hlt : k < rs.length
    · obtain ⟨r, hrk⟩ : ∃ r, rs[k]? = some r := ⟨_, List.getElem?_eq_getElem hlt⟩
      have HRr := Lib.hid (HR.out.below hb)
      obtain ⟨b, o, ad, cd, av, cv, rfl, hbb, c0, c1, c2, c3, sd, sv⟩ := HRr.out.elem hrk
      have HE2 := Lib.hid (HE.out.trans (checkFrom_at hrk))
      have HRK := Lib.hid hrk
      have hsr := hs.at hrk
      clear hrk
      go_wp2_with (go_at_call 49; refine (rrule_any r _ _ _ sd.out sv.out hsr).mono ?_; rintro e w1 ⟨rfl, hb1⟩)
      have hB := qtrans hb hb1
      have HRn := Lib.hid (HR.out.below hB)
      clear c0 c1 c2 c3 hbb sd sv HRr hb1 hb
      clear wr
      go_loopw [4, 5] (fun ev kv wi => ∃ (m : Nat) (q : Int), m ≤ k ∧ kv = .int .i64 m ∧ ev = .int .i64 q ∧ Below w.heap.size w wi ∧ Hid (InnerAt r (rs.take k) m q)) (fun _ kv _ => k - (intOf kv).toNat)
      case atStart =>
        refine ⟨0, ruleErr r, Nat.zero_le _, rfl, rfl, hB, ?_⟩
        show InnerAt _ _ _ _
        by_cases e : ruleErr r = 0
        · exact .inr (.inl ⟨e, e, fun j _ hj => by omega⟩)
        · exact .inl ⟨e, rfl⟩
      case round =>
        obtain ⟨m, q, hm, rfl, rfl, hbi, HI⟩ := hrel
        by_cases hq : q = 0
        · have hq1 : (q == 0) = true := by simp [hq]
          have hq2 : (q != 0) = false := by simp [hq]
          have HI2 : Hid (ruleErr r = 0 ∧ ∀ (j : Nat) (p : Rule), j < m → (rs.take k)[j]? = some p → (p.name.toList == r.name.toList) = false) := by
            rcases HI.out with ⟨h1, h2⟩ | ⟨h1, _, h3⟩ | ⟨_, h2, _⟩
            · exact absurd (h2.symm.trans hq) h1
            · exact ⟨h1, h3⟩
            · rw [hq] at h2; cases h2
          clear HI
          subst hq
          by_cases hmk : m < k
          · obtain ⟨p, hpm⟩ : ∃ p, rs[m]? = some p := ⟨_, List.getElem?_eq_getElem (by omega)⟩
            obtain ⟨b1, o1, _, _, _, _, e1, hbb, _, c1, _, _, _, _⟩ := (HR.out.below hbi).elem hpm
            cases e1
            obtain ⟨b2, o2, _, _, _, _, e2, _, _, d1, _, _, _, _⟩ := (HR.out.below hbi).elem HRK.out
            cases e2
            have HP : Hid ((rs.take k)[m]? = some p) := by show _ = _; rw [List.getElem?_take, if_pos hmk]; exact hpm
            clear hpm
            cases he : (p.name.toList == r.name.toList) with
            | true =>
              have HN : Hid (InnerAt r (rs.take k) (m + 1) 7) := .inr (.inr ⟨HI2.out.1, rfl, nameIn_at HP.out he⟩)
              go_wp2
              go_quiet (fail)
              go_wp2
              go_roundw
              case rel => exact ⟨m + 1, 7, by omega, by go_num, rfl, below_drewN hbi _, HN⟩
              case measure => simp [intOf]; omega
            | false =>
              have HN : Hid (InnerAt r (rs.take k) (m + 1) 0) := .inr (.inl ⟨HI2.out.1, rfl, fun j p' hj hp' => by
                by_cases e : j = m
                · subst e; have := HP.out.symm.trans hp'; cases this; exact he
                · exact HI2.out.2 j p' (by omega) hp'⟩)
              go_wp2
              go_quiet (fail)
              go_wp2
              go_roundw
              case rel => exact ⟨m + 1, 0, by omega, by go_num, rfl, below_drewN hbi _, HN⟩
              case measure => simp [intOf]; omega
          · have HF : Hid (checkErr rs = checkFrom (rs.take (k + 1)) (rs.drop (k + 1))) := by
              show _ = _
              rw [HE2.out, if_pos HI2.out.1, nameIn_none (fun j p hp => HI2.out.2 j p (by have := (List.getElem?_eq_some_iff.1 hp).1; rw [List.length_take] at this; omega) hp)]; rfl
            go_wp2
            go_roundw
            case rel => exact ⟨k + 1, by omega, by go_num, hbi, HF⟩
            case measure => simp [intOf]; omega
        · have hq1 : (q == 0) = false := by simp [hq]
          have hq2 : (q != 0) = true := by simp [hq]
          have HF : Hid (checkErr rs = q) := by
            show _ = _
            rcases HI.out with ⟨h1, h2⟩ | ⟨h1, h2, _⟩ | ⟨h1, h2, h3⟩
            · rw [HE2.out, if_neg h1, h2]
            · exact absurd h2 hq
            · rw [HE2.out, if_pos h1, if_pos h3, h2]
          clear HI hq
          by_cases hmk : m < k <;>
          · go_wp2
            go_ret
            exact ⟨ret_int (by rw [HF.out]), hbi⟩
    · have HF : Hid (checkErr rs = 0) := by
        show _ = _
        rw [HE.out, List.drop_eq_nil_of_le (by omega)]; rfl
      go_wp2
      go_ret
      exact ⟨ret_int (by rw [HF.out]), hb⟩
end Go.Proofs.YtgcmekpfhagnbaaDoor
