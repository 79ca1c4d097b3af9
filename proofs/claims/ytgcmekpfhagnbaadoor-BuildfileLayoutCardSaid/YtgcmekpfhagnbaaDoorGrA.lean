/- The reference's long and Great: whether rules are more or greater than the statements use. -/
import Derived.Test.YtgcmekpfhagnbaaDoorBfH
namespace Go.Proofs.YtgcmekpfhagnbaaDoor
open Go.RowKit

def longB (ss : List ByteArray) : Bool := ss.any (fun s => decide (100 < s.size)) || decide (22 < ss.length)
def greatB (rs : List Rule) : Bool := rs.any (fun r => longB r.deps || longB r.vis || decide (100 < r.name.size)) || decide (8 < rs.length)
theorem longB_at {ss : List ByteArray} {k : Nat} (hk : k < ss.length) (h : 100 < (ss.getD k ByteArray.empty).size) : longB ss = true := by
  unfold longB
  rw [Bool.or_eq_true]
  left
  rw [List.any_eq_true]
  refine ⟨ss[k], List.getElem_mem hk, ?_⟩
  rw [List.getD_eq_getElem?_getD, List.getElem?_eq_getElem hk] at h
  exact decide_eq_true h
theorem longB_end {ss : List ByteArray} (h : ∀ k, k < ss.length → ¬ 100 < (ss.getD k ByteArray.empty).size) : longB ss = decide (22 < ss.length) := by
  unfold longB
  have : ss.any (fun s => decide (100 < s.size)) = false := by
    rw [List.any_eq_false]
    intro s hs
    obtain ⟨k, hk, rfl⟩ := List.getElem_of_mem hs
    have := h k hk
    rw [List.getD_eq_getElem?_getD, List.getElem?_eq_getElem hk] at this
    simpa using this
  rw [this]; rfl
theorem rlong_any (v : Value) (ss : List ByteArray) (w : World) (hv : Strs w v ss) (hz : ∀ s ∈ ss, s.size ≤ 9223372036854775807) :
    Calls Tryd.prog 41 #[v] w fun e w' => e = .returned (.bool (longB ss)) ∧ w = w' := by
  obtain ⟨a, cap, rfl, h1, h2, h3⟩ := hv.shape
  have HV := Lib.hid h3
  have HZ := Lib.hid hz
  clear h3 hv hz
  unfold maxLen at h2
  go_enter Tryd.func41, Tryd.ntmps41
  go_wp2
  go_loop [3] (fun i => ∃ k : Nat, k ≤ ss.length ∧ i = .int .i64 k ∧ Hid (∀ j, j < k → ¬ 100 < (ss.getD j ByteArray.empty).size)) (fun i => ss.length - (intOf i).toNat)
  case atStart => exact ⟨0, Nat.zero_le _, rfl, fun j hj => by omega⟩
  case round =>
    obtain ⟨k, hk, rfl, HK⟩ := hrel
    by_cases hlt : k < ss.length
    · obtain ⟨b, o, rfl, hb, hc⟩ := HV.out k hlt
      have hcell := hc k hlt
      clear hc
      have hsz : (ss.getD k ByteArray.empty).size ≤ 9223372036854775807 := by
        rw [List.getD_eq_getElem?_getD, List.getElem?_eq_getElem hlt]; exact HZ.out _ (List.getElem_mem hlt)
      by_cases hg : 100 < (ss.getD k ByteArray.empty).size
      · have HM : Hid (longB ss = true) := longB_at hlt hg
        generalize ss.getD k ByteArray.empty = t at *
        go_wp2
        go_ret
        exact ⟨ret_bool (by rw [HM.out]), rfl⟩
      · have HN : Hid (∀ j, j < k + 1 → ¬ 100 < (ss.getD j ByteArray.empty).size) := fun j hj => by
          by_cases e : j = k
          · rw [e]; exact hg
          · exact HK.out j (by omega)
        generalize ss.getD k ByteArray.empty = t at *
        go_wp2
        go_round
        case rel => exact ⟨k + 1, by omega, by go_num, HN⟩
        case measure => simp [intOf]; omega
    · have HM : Hid (longB ss = decide (22 < ss.length)) := longB_end (fun j hj => HK.out j (by omega))
      go_wp2
      go_ret
      exact ⟨ret_bool (by rw [HM.out, Bool.eq_iff_iff, decide_eq_true_eq, decide_eq_true_eq]; omega), rfl⟩
structure Sized (r : Rule) : Prop where
  name : r.name.size ≤ 9223372036854775807
  deps : ∀ s ∈ r.deps, s.size ≤ 9223372036854775807
  vis : ∀ s ∈ r.vis, s.size ≤ 9223372036854775807
def bigR (r : Rule) : Bool := longB r.deps || longB r.vis || decide (100 < r.name.size)
theorem greatB_at {rs : List Rule} {k : Nat} {r : Rule} (hr : rs[k]? = some r) (h : bigR r = true) : greatB rs = true := by
  obtain ⟨hk, e⟩ := List.getElem?_eq_some_iff.1 hr
  unfold greatB
  rw [Bool.or_eq_true]
  left
  rw [List.any_eq_true]
  exact ⟨r, by rw [← e]; exact List.getElem_mem hk, h⟩
theorem greatB_end {rs : List Rule} (h : ∀ (k : Nat) (r : Rule), rs[k]? = some r → bigR r = false) : greatB rs = decide (8 < rs.length) := by
  unfold greatB
  have : rs.any (fun r => longB r.deps || longB r.vis || decide (100 < r.name.size)) = false := by
    rw [List.any_eq_false]
    intro r hr
    obtain ⟨k, hk, rfl⟩ := List.getElem_of_mem hr
    rw [Bool.not_eq_true]
    exact h k _ (List.getElem?_eq_getElem hk)
  rw [this]; rfl
set_option maxHeartbeats 1000000 in
theorem rGreat_any (v : Value) (rs : List Rule) (w : World) (hr : IsRules w v rs) (hz : ∀ r ∈ rs, Sized r) :
    Calls Tryd.prog 19 #[v] w fun e w' => e = .returned (.bool (greatB rs)) ∧ w = w' := by
  obtain ⟨a, cap, rfl, h1, h2⟩ := hr.val
  have HR := Lib.hid hr
  have HZ := Lib.hid hz
  clear hr hz
  go_enter Tryd.func19, Tryd.ntmps19
  go_wp2
  go_loop [3] (fun i => ∃ k : Nat, k ≤ rs.length ∧ i = .int .i64 k ∧ Hid (∀ (j : Nat) (r : Rule), j < k → rs[j]? = some r → bigR r = false)) (fun i => rs.length - (intOf i).toNat)
  case atStart => exact ⟨0, Nat.zero_le _, rfl, fun j _ hj => by omega⟩
  case round =>
    obtain ⟨k, hk, rfl, HK⟩ := hrel
    by_cases hlt : k < rs.length
    · obtain ⟨r, hrk⟩ : ∃ r, rs[k]? = some r := ⟨_, List.getElem?_eq_getElem hlt⟩
      obtain ⟨b, o, ad, cd, av, cv, rfl, hbb, c0, c1, c2, c3, sd, sv⟩ := HR.out.elem hrk
      obtain ⟨z1, z2, z3⟩ := HZ.out r (by obtain ⟨hk', e⟩ := List.getElem?_eq_some_iff.1 hrk; rw [← e]; exact List.getElem_mem hk')
      have HL1 := Lib.hid (rlong_any _ r.deps w sd.out z2)
      have HL2 := Lib.hid (rlong_any _ r.vis w sv.out z3)
      have HBG : Hid (bigR r = (longB r.deps || longB r.vis || decide (100 < r.name.size))) := rfl
      have HAT : Hid (bigR r = true → greatB rs = true) := fun h => greatB_at hrk h
      have HNX : Hid (bigR r = false → ∀ (j : Nat) (q : Rule), j < k + 1 → rs[j]? = some q → bigR q = false) := fun h j q hj hq => by
        by_cases e : j = k
        · subst e; rw [hrk] at hq; cases hq; exact h
        · exact HK.out j q (by omega) hq
      clear hrk z2 z3 sd sv
      generalize longB r.deps = l1 at *
      generalize longB r.vis = l2 at *
      cases l1 with
      | true =>
        have HM : Hid (greatB rs = true) := HAT.out (by rw [HBG.out]; rfl)
        go_wp2_with (fail)
        refine HL1.out.mono ?_
        rintro e w' ⟨rfl, rfl⟩
        go_wp2
        go_ret
        exact ⟨ret_bool (by rw [HM.out]), rfl⟩
      | false =>
        cases l2 with
        | true =>
          have HM : Hid (greatB rs = true) := HAT.out (by rw [HBG.out]; rfl)
          go_wp2_with (fail)
          refine HL1.out.mono ?_
          rintro e w' ⟨rfl, rfl⟩
          go_wp2_with (fail)
          refine HL2.out.mono ?_
          rintro e w' ⟨rfl, rfl⟩
          go_wp2
          go_ret
          exact ⟨ret_bool (by rw [HM.out]), rfl⟩
        | false =>
          by_cases hg : 100 < r.name.size
          · have HM : Hid (greatB rs = true) := HAT.out (by rw [HBG.out]; simp [hg])
            have hd : decide (100 < r.name.size) = true := decide_eq_true hg
            go_wp2_with (fail)
            refine HL1.out.mono ?_
            rintro e w' ⟨rfl, rfl⟩
            go_wp2_with (fail)
            refine HL2.out.mono ?_
            rintro e w' ⟨rfl, rfl⟩
            go_wp2
            go_ret
            exact ⟨ret_bool (by rw [HM.out]), rfl⟩
          · have HN := Lib.hid (HNX.out (by rw [HBG.out]; simp [hg]))
            have hd : decide (100 < r.name.size) = false := decide_eq_false hg
            go_wp2_with (fail)
            refine HL1.out.mono ?_
            rintro e w' ⟨rfl, rfl⟩
            go_wp2_with (fail)
            refine HL2.out.mono ?_
            rintro e w' ⟨rfl, rfl⟩
            go_wp2
            go_round
            case rel => exact ⟨k + 1, by omega, by go_num, HN⟩
            case measure => simp [intOf]; omega
    · have HM : Hid (greatB rs = decide (8 < rs.length)) := greatB_end (fun j r hj => HK.out j r (by have := (List.getElem?_eq_some_iff.1 hj).1; omega) hj)
      go_wp2
      go_ret
      exact ⟨ret_bool (by rw [HM.out, Bool.eq_iff_iff, decide_eq_true_eq, decide_eq_true_eq]; omega), rfl⟩
/-- What is not great. -/
theorem greatB_small {rs : List Rule} (h : greatB rs = false) : rs.length ≤ 8 ∧ ∀ r ∈ rs, r.name.size ≤ 100 ∧ (∀ s ∈ r.deps, s.size ≤ 100) ∧ (∀ s ∈ r.vis, s.size ≤ 100) ∧ r.deps.length ≤ 22 ∧ r.vis.length ≤ 22 := by
  unfold greatB at h
  rw [Bool.or_eq_false_iff, List.any_eq_false] at h
  refine ⟨by simpa using h.2, fun r hr => ?_⟩
  have := h.1 r hr
  rw [Bool.not_eq_true, Bool.or_eq_false_iff, Bool.or_eq_false_iff] at this
  obtain ⟨⟨h1, h2⟩, h3⟩ := this
  unfold longB at h1 h2
  rw [Bool.or_eq_false_iff, List.any_eq_false] at h1 h2
  exact ⟨by simpa using h3, fun s hs => by simpa using h1.1 s hs, fun s hs => by simpa using h2.1 s hs, by simpa using h1.2, by simpa using h2.2⟩
end Go.Proofs.YtgcmekpfhagnbaaDoor
