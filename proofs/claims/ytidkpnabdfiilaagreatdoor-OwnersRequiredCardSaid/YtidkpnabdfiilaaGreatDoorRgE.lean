/- The reference of chapter 54: up, fitting. -/
import Derived.Test.YtidkpnabdfiilaaGreatDoorRgD
namespace Go.Proofs.YtidkpnabdfiilaaGreatDoor
open Go.RowKit Go.Shelf
attribute [local go_sem] Oper.semAt_some

theorem reads_noGroups (w : World) (X : List Nat) (a : Option Addr) : Reads w X (groupsT []) (.slice a 0 0) := by
  rw [groupsT, rowT, Reads]
  exact ⟨[], ⟨by simp, a, 0, rfl, Nat.le_refl _, Nat.zero_le _, fun h => absurd h (Nat.lt_irrefl _)⟩, fun h => absurd h (Nat.lt_irrefl _), by simp [ReadsL]⟩
theorem rup_any (s : ByteArray) (w : World) (h0 : 0 < s.size) (hs : s.size ≤ 40000) :
    Calls Tryz.prog 85 #[.string s] w fun e w' => e = .returned (.int .i64 (upF s.data.toList (s.size - 1))) ∧ w = w' := by
  have hwr : IntKind.i64.wrap ((s.size : Int) - 1) = ((s.size - 1 : Nat) : Int) := by simp [IntKind.wrap, IntKind.signed, IntKind.bits]; omega
  go_enter Tryz.func85, Tryz.ntmps85
  go_wp2
  go_loop [3] (fun i => ∃ k : Nat, k ≤ s.size - 1 ∧ i = .int .i64 k ∧ Hid (upF s.data.toList (s.size - 1) = upF s.data.toList k)) (fun i => (intOf i).toNat)
  case atStart => exact ⟨s.size - 1, Nat.le_refl _, rfl, rfl⟩
  case round =>
    obtain ⟨k, hk, rfl, HK⟩ := hrel
    cases k with
    | zero =>
      have H : Hid (upF s.data.toList (s.size - 1) = 0) := by show _ = _; rw [HK.out]; rfl
      go_wp2
      go_ret
      exact ⟨ret_int (by rw [H.out]; rfl), rfl⟩
    | succ k =>
      have hlt : k < s.size := by omega
      have hg := getD_at s k hlt
      have hi0 : (0 : Int) ≤ (k : Int) := by omega
      have hi1 : (k : Int) < (s.size : Int) := by omega
      have hd : decide (0 < ((k : Int) + 1)) = true := decide_eq_true (by omega)
      have hw1 : IntKind.i64.wrap ((k : Int) + 1 - 1) = (k : Int) := by rw [Int.add_sub_cancel]; exact IntWalk.i64_in _ (by omega)
      by_cases hc : s[k] = 47
      · have hb : ((s[k].toNat : Int) == 47) = true := by rw [byteb]; simp [hc]
        have H : Hid (upF s.data.toList (s.size - 1) = k + 1) := by show _ = _; rw [HK.out, upF, if_pos (by rw [hg, hc])]
        clear hg hc
        go_wp2
        go_ret
        exact ⟨ret_int (by rw [H.out]; omega), rfl⟩
      · have hb : ((s[k].toNat : Int) == 47) = false := by rw [byteb]; simp [hc]
        have H : Hid (upF s.data.toList (s.size - 1) = upF s.data.toList k) := by show _ = _; rw [HK.out, upF, if_neg (by rw [hg]; exact hc)]
        clear hg hc
        go_wp2
        go_round
        case rel => exact ⟨k, by omega, rfl, H⟩
        case measure => simp [intOf]
def fitG (o : Option ORule) : List (List ByteArray) := match o with | some r => r.groups | none => []
theorem fitsB_no {rest : List UInt8} {best : Option ORule} {r : ORule} (h : preOf r.pre.data.toList rest = false) : fitsB rest best r = false := by unfold fitsB; rw [h]; rfl
theorem fitsB_first {rest : List UInt8} {r : ORule} (h : preOf r.pre.data.toList rest = true) : fitsB rest none r = true := by rw [fitsB, h]; rfl
theorem fitsB_more {rest : List UInt8} {b r : ORule} (h : preOf r.pre.data.toList rest = true) : fitsB rest (some b) r = decide (b.pre.size < r.pre.size) := by rw [fitsB, h]; rfl
set_option maxHeartbeats 2000000 in
theorem rfitting_any {X : List Nat} (v : Value) (rs : List ORule) (rest : ByteArray) (w : World) (hv : Reads w X (rulesT rs) v) (hs : SmallR rs) :
    Calls Tryz.prog 88 #[v, .string rest] w fun e w' => ∃ gv, e = .returned (.tuple #[gv, .bool (fit rs rest.data.toList).isSome]) ∧ Reads w' X (groupsT (fitG (fit rs rest.data.toList))) gv ∧ Below w.heap.size w w' := by
  obtain ⟨a, cap, rfl, hc1, hc2⟩ := rules_val hv
  have HV := Lib.hid hv
  have HS := Lib.hid hs
  have hlen := hs.len
  clear hv hs
  go_enter Tryz.func88, Tryz.ntmps88
  go_wp2
  go_loop [7, 6] (fun i bv => ∃ (k : Nat) (best : Option ORule), k ≤ rs.length ∧ i = .int .i64 k ∧ BestIs rs best bv ∧ Hid (fit rs rest.data.toList = fitFrom rest.data.toList best (rs.drop k))) (fun i _ => rs.length - (intOf i).toNat)
  case atStart => exact ⟨0, none, Nat.zero_le _, rfl, .inl ⟨rfl, rfl⟩, rfl⟩
  case round =>
    obtain ⟨k, best, hk, rfl, hB, HE⟩ := hrel
    by_cases hlt : k < rs.length
    · obtain ⟨r, hrk⟩ : ∃ r, rs[k]? = some r := ⟨_, List.getElem?_eq_getElem hlt⟩
      have HE2 := Lib.hid (HE.out.trans (fitFrom_at hrk))
      have hsr := (HS.out.each r (List.mem_of_getElem? hrk)).1
      obtain ⟨b, o, ag, cg, rfl, hb, hcp, -, -, -, -⟩ := rules_elem HV.out hrk
      have hi0 : (0 : Int) ≤ (k : Int) := by omega
      have hi1 : (k : Int) < (rs.length : Int) := by omega
      have HRK := Lib.hid hrk
      clear HE hrk
      have HA : Hid (∀ best', (if fitsB rest.data.toList best r then some r else best) = best' → fit rs rest.data.toList = fitFrom rest.data.toList best' (rs.drop (k + 1))) := fun b' e => by rw [HE2.out, e]
      clear HE2
      by_cases h1 : r.pre.size ≤ rest.size
      · have hd1 : decide ((r.pre.size : Int) ≤ (rest.size : Int)) = true := decide_eq_true (by omega)
        have hz0 : (0 : Int) ≤ (r.pre.size : Int) := by omega
        have hz1 : (r.pre.size : Int) ≤ (rest.size : Int) := by omega
        have HPE : Hid (preOf r.pre.data.toList rest.data.toList = ((rest.extract 0 r.pre.size).toList == r.pre.toList)) := by
          show _ = _; rw [preOf, sz, sz, tl, tl, ex_take, decide_eq_true h1, Bool.true_and]
        cases he : ((rest.extract 0 r.pre.size).toList == r.pre.toList) with
        | false =>
          have HF := Lib.hid (HA.out best (by rw [fitsB_no (by rw [HPE.out, he])]; rfl))
          have HBI := Lib.hid hB
          rcases hB with ⟨-, rfl⟩ | ⟨j, rb, -, -, rfl⟩
          · go_wp2
            go_round
            case rel => exact ⟨k + 1, best, by omega, by go_num, HBI.out, HF⟩
            case measure => simp [intOf]; omega
          · go_wp2
            go_round
            case rel => exact ⟨k + 1, best, by omega, by go_num, HBI.out, HF⟩
            case measure => simp [intOf]; omega
        | true =>
          rcases hB with ⟨rfl, rfl⟩ | ⟨j, rb, rfl, hj, rfl⟩
          · have HF := Lib.hid (HA.out (some r) (by rw [fitsB_first (by rw [HPE.out, he])]; rfl))
            go_wp2
            go_round
            case rel => exact ⟨k + 1, some r, by omega, by go_num, .inr ⟨k, r, rfl, HRK.out, rfl⟩, HF⟩
            case measure => simp [intOf]; omega
          · obtain ⟨b', o', ag', cg', e', hb', hcp', -, -, -, -⟩ := rules_elem HV.out hj
            cases e'
            have hjl : j < rs.length := (List.getElem?_eq_some_iff.1 hj).1
            have hj0 : (0 : Int) ≤ (j : Int) := by omega
            have hj1 : (j : Int) < (rs.length : Int) := by omega
            have hdj : decide ((j : Int) < 0) = false := decide_eq_false (by omega)
            have hsb := (HS.out.each rb (List.mem_of_getElem? hj)).1
            have HJ := Lib.hid hj
            clear hj
            by_cases h2 : rb.pre.size < r.pre.size
            · have hd2 : decide ((rb.pre.size : Int) < (r.pre.size : Int)) = true := decide_eq_true (by omega)
              have HF := Lib.hid (HA.out (some r) (by rw [fitsB_more (by rw [HPE.out, he]), decide_eq_true h2]; rfl))
              go_wp2
              go_round
              case rel => exact ⟨k + 1, some r, by omega, by go_num, .inr ⟨k, r, rfl, HRK.out, rfl⟩, HF⟩
              case measure => simp [intOf]; omega
            · have hd2 : decide ((rb.pre.size : Int) < (r.pre.size : Int)) = false := decide_eq_false (by omega)
              have HF := Lib.hid (HA.out (some rb) (by rw [fitsB_more (by rw [HPE.out, he]), decide_eq_false h2]; rfl))
              go_wp2
              go_round
              case rel => exact ⟨k + 1, some rb, by omega, by go_num, .inr ⟨j, rb, rfl, HJ.out, rfl⟩, HF⟩
              case measure => simp [intOf]; omega
      · have hd1 : decide ((r.pre.size : Int) ≤ (rest.size : Int)) = false := decide_eq_false (by omega)
        have HF := Lib.hid (HA.out best (by rw [fitsB_no (by rw [preOf, sz, sz, decide_eq_false h1]; rfl)]; rfl))
        have HBI := Lib.hid hB
        rcases hB with ⟨-, rfl⟩ | ⟨j, rb, -, -, rfl⟩
        · go_wp2
          go_round
          case rel => exact ⟨k + 1, best, by omega, by go_num, HBI.out, HF⟩
          case measure => simp [intOf]; omega
        · go_wp2
          go_round
          case rel => exact ⟨k + 1, best, by omega, by go_num, HBI.out, HF⟩
          case measure => simp [intOf]; omega
    · have HF : Hid (fit rs rest.data.toList = best) := by show _ = _; rw [HE.out, List.drop_eq_nil_of_le (by omega)]; rfl
      rcases hB with ⟨rfl, rfl⟩ | ⟨j, rb, rfl, hj, rfl⟩
      · go_wp2
        go_ret2
        exact ⟨_, by rw [HF.out]; rfl, by rw [HF.out]; exact reads_noGroups _ _ _, qalloc _ _⟩
      · obtain ⟨b', o', ag', cg', rfl, hb', -, hcg', hg1, hg2, HG⟩ := rules_elem HV.out hj
        have hjl : j < rs.length := (List.getElem?_eq_some_iff.1 hj).1
        have hj0 : (0 : Int) ≤ (j : Int) := by omega
        have hj1 : (j : Int) < (rs.length : Int) := by omega
        have hdj : decide ((j : Int) < 0) = false := decide_eq_false (by omega)
        clear hj
        go_wp2
        go_ret2
        exact ⟨_, by rw [HF.out]; rfl, by rw [HF.out]; exact HG.out, qrefl _⟩
end Go.Proofs.YtidkpnabdfiilaaGreatDoor
