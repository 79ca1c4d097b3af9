/- owners.isPerson; slices.ContainsFunc over groups; owners.checkRule. owners.checkRule. owners.check. -/
import Derived.Test.YtidkpnabdfiilaaGreatDoorQ10
import Derived.Test.YtidkpnabdfiilaaGreatDoorQ05
import Derived.Test.YtidkpnabdfiilaaGreatDoorQ02
namespace Go.Proofs.YtidkpnabdfiilaaGreatDoor
open Go.RowKit

theorem isPerson_any (s : ByteArray) (hs : s.size ≤ 40000) (w : World) : Calls Tryz.prog 118 #[.string s] w fun e w' => e = .returned (.bool (personS s)) ∧ Below w.heap.size w w' := by
  cases h : (s.toList == [103, 114, 111, 117, 112]) with
  | true =>
    have H := Lib.hid (personS_group h)
    go_enter Tryz.func118, Tryz.ntmps118
    go_wp2
    go_ret
    exact ⟨ret_bool (by rw [H.out]), qrefl _⟩
  | false =>
    have H := Lib.hid (personS_name h)
    go_enter Tryz.func118, Tryz.ntmps118
    go_wp2_with (go_at_call 149; refine (isName_any _ hs _).mono ?_; rintro e w' ⟨rfl, hb⟩)
    go_ret
    exact ⟨ret_bool (by rw [H.out]), hb⟩
theorem someBig_at {gs : List (List ByteArray)} {i : Nat} {g : List ByteArray} (hi : gs[i]? = some g) (h : 20 < g.length) : someBig gs = true := by
  obtain ⟨hl, e⟩ := List.getElem?_eq_some_iff.1 hi
  rw [someBig, List.any_eq_true]
  exact ⟨g, e ▸ List.getElem_mem hl, by simp [h]⟩
theorem someBig_none {gs : List (List ByteArray)} (h : ∀ (i : Nat) (g : List ByteArray), gs[i]? = some g → ¬ 20 < g.length) : someBig gs = false := by
  rw [someBig, List.any_eq_false]
  intro g hg
  obtain ⟨i, hi, rfl⟩ := List.getElem_of_mem hg
  simpa using h i _ (List.getElem?_eq_getElem hi)
theorem checkRule1_any (g : List ByteArray) (a : Option Addr) (c : Nat) (w : World) : Calls Tryz.prog 150 #[.slice a g.length c] w fun e w' => e = .returned (.bool ((g.length : Int) == 0)) ∧ w = w' := by
  go_enter Tryz.func150, Tryz.ntmps150
  go_wp2
  go_ret
  exact ⟨rfl, rfl⟩
set_option maxHeartbeats 1000000 in
theorem IndexFunc_checkRule1 (v : Value) (gs : List (List ByteArray)) (w : World) (hv : Reads w [] (groupsT gs) v) (_hl : gs.length ≤ 40000) :
    Calls Tryz.prog 137 #[v, .func (.func 150) #[] #[]] w fun e w' => ∃ r : Int, e = .returned (.int .i64 r) ∧ decide (0 ≤ r) = someEmpty gs ∧ w = w' := by
  obtain ⟨a, cap, rfl, hc1, hc2⟩ := groups_val hv
  have HV := Lib.hid hv
  clear hv
  go_enter Tryz.func137, Tryz.ntmps137
  go_wp2
  go_loop [8] (fun i => ∃ k : Nat, k ≤ gs.length ∧ i = .int .i64 k ∧ Hid (∀ (j : Nat) (g : List ByteArray), j < k → gs[j]? = some g → ¬ g.length = 0)) (fun i => gs.length - (intOf i).toNat)
  case atStart => exact ⟨0, Nat.zero_le _, rfl, fun j g hj => by omega⟩
  case round =>
    obtain ⟨k, hk, rfl, HK⟩ := hrel
    by_cases hlt : k < gs.length
    · obtain ⟨g, hg⟩ : ∃ g, gs[k]? = some g := ⟨_, List.getElem?_eq_getElem hlt⟩
      obtain ⟨b, o, ag, cg, rfl, hb, hcell, hg1, hg2, -⟩ := groups_elem HV.out hg
      by_cases ht : g.length = 0
      · have HT : Hid (((g.length : Int) == 0) = true) := by show _ = _; first | (rw [beq_iff_eq]; omega) | (rw [decide_eq_true_eq]; omega)
        have HM : Hid (someEmpty gs = true) := someEmpty_at hg ht
        clear hg ht
        go_wp2_with (go_at_call 150; refine (checkRule1_any g _ _ _).mono ?_; rintro e w' ⟨rfl, rfl⟩; rw [HT.out])
        go_ret
        exact ⟨k, rfl, by rw [HM.out]; simp, rfl⟩
      · have HT : Hid (((g.length : Int) == 0) = false) := by show _ = _; first | (rw [beq_eq_false_iff_ne]; omega) | (rw [decide_eq_false_iff_not]; omega)
        have HN : Hid (∀ (j : Nat) (g : List ByteArray), j < k + 1 → gs[j]? = some g → ¬ g.length = 0) := fun j g' hj hg' => by
          by_cases e : j = k
          · rw [e, hg] at hg'; cases hg'; exact ht
          · exact HK.out j g' (by omega) hg'
        clear hg ht
        go_wp2_with (go_at_call 150; refine (checkRule1_any g _ _ _).mono ?_; rintro e w' ⟨rfl, rfl⟩; rw [HT.out])
        go_round
        case rel => exact ⟨k + 1, by omega, by go_num, HN⟩
        case measure => simp [intOf]; omega
    · have HM : Hid (someEmpty gs = false) := someEmpty_none (fun j g hj => HK.out j g (by have := (List.getElem?_eq_some_iff.1 hj).1; omega) hj)
      go_wp2
      go_ret
      exact ⟨-1, rfl, by rw [HM.out]; rfl, rfl⟩
theorem ContainsFunc_checkRule1 (v : Value) (gs : List (List ByteArray)) (w : World) (hv : Reads w [] (groupsT gs) v) (hl : gs.length ≤ 40000) :
    Calls Tryz.prog 98 #[v, .func (.func 150) #[] #[]] w fun e w' => e = .returned (.bool (someEmpty gs)) ∧ w = w' := by
  have HV := Lib.hid hv
  clear hv
  go_enter Tryz.func98, Tryz.ntmps98
  go_wp2_with (go_at_call 137; refine (IndexFunc_checkRule1 _ _ _ HV.out hl).mono ?_; rintro e w' ⟨r, rfl, hr, rfl⟩)
  go_ret
  exact ⟨rfl, rfl⟩
theorem checkRule2_any (g : List ByteArray) (a : Option Addr) (c : Nat) (w : World) : Calls Tryz.prog 151 #[.slice a g.length c] w fun e w' => e = .returned (.bool (decide (20 < (g.length : Int)))) ∧ w = w' := by
  go_enter Tryz.func151, Tryz.ntmps151
  go_wp2
  go_ret
  exact ⟨rfl, rfl⟩
set_option maxHeartbeats 1000000 in
theorem IndexFunc_checkRule2 (v : Value) (gs : List (List ByteArray)) (w : World) (hv : Reads w [] (groupsT gs) v) (_hl : gs.length ≤ 40000) :
    Calls Tryz.prog 137 #[v, .func (.func 151) #[] #[]] w fun e w' => ∃ r : Int, e = .returned (.int .i64 r) ∧ decide (0 ≤ r) = someBig gs ∧ w = w' := by
  obtain ⟨a, cap, rfl, hc1, hc2⟩ := groups_val hv
  have HV := Lib.hid hv
  clear hv
  go_enter Tryz.func137, Tryz.ntmps137
  go_wp2
  go_loop [8] (fun i => ∃ k : Nat, k ≤ gs.length ∧ i = .int .i64 k ∧ Hid (∀ (j : Nat) (g : List ByteArray), j < k → gs[j]? = some g → ¬ 20 < g.length)) (fun i => gs.length - (intOf i).toNat)
  case atStart => exact ⟨0, Nat.zero_le _, rfl, fun j g hj => by omega⟩
  case round =>
    obtain ⟨k, hk, rfl, HK⟩ := hrel
    by_cases hlt : k < gs.length
    · obtain ⟨g, hg⟩ : ∃ g, gs[k]? = some g := ⟨_, List.getElem?_eq_getElem hlt⟩
      obtain ⟨b, o, ag, cg, rfl, hb, hcell, hg1, hg2, -⟩ := groups_elem HV.out hg
      by_cases ht : 20 < g.length
      · have HT : Hid ((decide (20 < (g.length : Int))) = true) := by show _ = _; first | (rw [beq_iff_eq]; omega) | (rw [decide_eq_true_eq]; omega)
        have HM : Hid (someBig gs = true) := someBig_at hg ht
        clear hg ht
        go_wp2_with (go_at_call 151; refine (checkRule2_any g _ _ _).mono ?_; rintro e w' ⟨rfl, rfl⟩; rw [HT.out])
        go_ret
        exact ⟨k, rfl, by rw [HM.out]; simp, rfl⟩
      · have HT : Hid ((decide (20 < (g.length : Int))) = false) := by show _ = _; first | (rw [beq_eq_false_iff_ne]; omega) | (rw [decide_eq_false_iff_not]; omega)
        have HN : Hid (∀ (j : Nat) (g : List ByteArray), j < k + 1 → gs[j]? = some g → ¬ 20 < g.length) := fun j g' hj hg' => by
          by_cases e : j = k
          · rw [e, hg] at hg'; cases hg'; exact ht
          · exact HK.out j g' (by omega) hg'
        clear hg ht
        go_wp2_with (go_at_call 151; refine (checkRule2_any g _ _ _).mono ?_; rintro e w' ⟨rfl, rfl⟩; rw [HT.out])
        go_round
        case rel => exact ⟨k + 1, by omega, by go_num, HN⟩
        case measure => simp [intOf]; omega
    · have HM : Hid (someBig gs = false) := someBig_none (fun j g hj => HK.out j g (by have := (List.getElem?_eq_some_iff.1 hj).1; omega) hj)
      go_wp2
      go_ret
      exact ⟨-1, rfl, by rw [HM.out]; rfl, rfl⟩
theorem ContainsFunc_checkRule2 (v : Value) (gs : List (List ByteArray)) (w : World) (hv : Reads w [] (groupsT gs) v) (hl : gs.length ≤ 40000) :
    Calls Tryz.prog 98 #[v, .func (.func 151) #[] #[]] w fun e w' => e = .returned (.bool (someBig gs)) ∧ w = w' := by
  have HV := Lib.hid hv
  clear hv
  go_enter Tryz.func98, Tryz.ntmps98
  go_wp2_with (go_at_call 137; refine (IndexFunc_checkRule2 _ _ _ HV.out hl).mono ?_; rintro e w' ⟨r, rfl, hr, rfl⟩)
  go_ret
  exact ⟨rfl, rfl⟩
end Go.Proofs.YtidkpnabdfiilaaGreatDoor

namespace Go.Proofs.YtidkpnabdfiilaaGreatDoor
open Go.RowKit

set_option maxRecDepth 100000 in
set_option maxHeartbeats 2000000 in
theorem checkRule_any (r : ORule) (gv : Value) (w : World) (hg : Reads w [] (groupsT r.groups) gv) (hp : r.pre.size ≤ 40000) (hs : SmallG r.groups) :
    Calls Tryz.prog 119 #[.agg #[.string r.pre, gv]] w fun e w' => e = .returned (.int .i64 (oruleErr r)) ∧ Below w.heap.size w w' := by
  obtain ⟨a, cap, rfl, hc1, hc2⟩ := groups_val hg
  have HB := Lib.hid (CBox.new w 75 #[.string r.pre, .slice a r.groups.length cap])
  have hA := qalloc w (.cells #[.string r.pre, .slice a r.groups.length cap] 75)
  have HV := Lib.hid (hg.below hA)
  have HS := Lib.hid hs
  have hlen := hs.len
  clear hg hs
  cases hpre : preS r.pre with
  | false =>
    have H : Hid (oruleErr r = 6) := by show _ = _; rw [oruleErr_eq, hpre]; rfl
    go_enter Tryz.func119, Tryz.ntmps119
    go_wp2_with (go_at_call 117; refine (isPrefix_any _ _ hp).mono ?_; rintro e w1 ⟨rfl, rfl⟩; rw [hpre])
    go_ret
    exact ⟨ret_int (by rw [H.out]), hA⟩
  | true =>
  have HR : Hid (oruleErr r = groupsE r.groups) := by show _ = _; rw [oruleErr_eq, hpre]; rfl
  by_cases h0 : r.groups.length = 0
  · have hb0 : ((r.groups.length : Int) == 0) = true := by rw [h0]; rfl
    have H : Hid (oruleErr r = 1) := by show _ = _; rw [HR.out]; unfold groupsE; rw [h0]; rfl
    go_enter Tryz.func119, Tryz.ntmps119
    go_wp2_with (go_at_call 117; refine (isPrefix_any _ _ hp).mono ?_; rintro e w1 ⟨rfl, rfl⟩; rw [hpre])
    go_ret
    exact ⟨ret_int (by rw [H.out]), qalloc _ _⟩
  have hb0 : ((r.groups.length : Int) == 0) = false := by rw [beq_eq_false_iff_ne]; omega
  have H0 : Hid ((r.groups.length == 0) = false) := by show _ = _; rw [beq_eq_false_iff_ne]; exact h0
  cases he : someEmpty r.groups with
  | true =>
    have H : Hid (oruleErr r = 1) := by show _ = _; rw [HR.out]; unfold groupsE; rw [H0.out, he]; rfl
    go_enter Tryz.func119, Tryz.ntmps119
    go_wp2_with (first | (go_at_call 117; refine (isPrefix_any _ _ hp).mono ?_; rintro e w1 ⟨rfl, rfl⟩; rw [hpre]) | (go_at_call 98; refine (ContainsFunc_checkRule1 _ _ _ HV.out hlen).mono ?_; rintro e w1 ⟨rfl, rfl⟩; rw [he]))
    go_ret
    exact ⟨ret_int (by rw [H.out]), hA⟩
  | false =>
  by_cases h8 : 8 < r.groups.length
  · have H : Hid (oruleErr r = 4) := by show _ = _; rw [HR.out]; unfold groupsE; rw [H0.out, he, decide_eq_true h8]; rfl
    go_enter Tryz.func119, Tryz.ntmps119
    go_wp2_with (first | (go_at_call 117; refine (isPrefix_any _ _ hp).mono ?_; rintro e w1 ⟨rfl, rfl⟩; rw [hpre]) | (go_at_call 98; refine (ContainsFunc_checkRule1 _ _ _ HV.out hlen).mono ?_; rintro e w1 ⟨rfl, rfl⟩; rw [he]))
    go_ret
    exact ⟨ret_int (by rw [H.out]), hA⟩
  cases hbig : someBig r.groups with
  | true =>
    have H : Hid (oruleErr r = 4) := by show _ = _; rw [HR.out]; unfold groupsE; rw [H0.out, he, hbig]; simp
    go_enter Tryz.func119, Tryz.ntmps119
    go_wp2_with (fail)
    refine (isPrefix_any _ _ hp).mono ?_
    rintro e w1 ⟨rfl, rfl⟩
    rw [hpre]
    go_wp2_with (fail)
    refine (ContainsFunc_checkRule1 _ _ _ HV.out hlen).mono ?_
    rintro e w1 ⟨rfl, rfl⟩
    rw [he]
    go_wp2_with (fail)
    refine (ContainsFunc_checkRule2 _ _ _ HV.out hlen).mono ?_
    rintro e w1 ⟨rfl, rfl⟩
    rw [hbig]
    go_wp2
    go_ret
    exact ⟨ret_int (by rw [H.out]), hA⟩
  | false =>
    have H : Hid (oruleErr r = groupsErr r.groups) := by show _ = _; rw [HR.out]; unfold groupsE; rw [H0.out, he, hbig, decide_eq_false h8]; rfl
    clear HR H0
    generalize r.groups = gs at *
    go_enter Tryz.func119, Tryz.ntmps119
    go_wp2_with (fail)
    refine (isPrefix_any _ _ hp).mono ?_
    rintro e w1 ⟨rfl, rfl⟩
    rw [hpre]
    go_wp2_with (fail)
    refine (ContainsFunc_checkRule1 _ _ _ HV.out hlen).mono ?_
    rintro e w1 ⟨rfl, rfl⟩
    rw [he]
    go_wp2_with (fail)
    refine (ContainsFunc_checkRule2 _ _ _ HV.out hlen).mono ?_
    rintro e w1 ⟨rfl, rfl⟩
    rw [hbig]
    clear he hbig hpre h8
    go_wp2
    clear HB
    generalize w.alloc (.cells #[.string r.pre, .slice a gs.length cap] 75) = W0 at *
    go_loopw [34] (fun i wr => ∃ k : Nat, k ≤ gs.length ∧ i = .int .i64 k ∧ Below W0.heap.size W0 wr ∧ Hid (groupsErr gs = groupsErr (gs.drop k))) (fun i _ => gs.length - (intOf i).toNat)
    case atStart => exact ⟨0, Nat.zero_le _, rfl, qrefl _, rfl⟩
    case round =>
      obtain ⟨k, hk, rfl, hb, HE⟩ := hrel
      by_cases hlt : k < gs.length
      · obtain ⟨g, hg⟩ : ∃ g, gs[k]? = some g := ⟨_, List.getElem?_eq_getElem hlt⟩
        have HE2 := Lib.hid (HE.out.trans (groupsErr_at hg))
        have HSG := Lib.hid (HS.out.each g (List.mem_of_getElem? hg))
        have hgl := HSG.out.1
        obtain ⟨b, o, ag, cg, rfl, hbb, hcell, hg1, hg2, HG⟩ := groups_elem (HV.out.below hb) hg
        clear HE hg
        generalize wr = wo at *
        go_wp2
        go_loopw [40] (fun i wr => ∃ q : Nat, q ≤ g.length ∧ i = .int .i64 q ∧ Below wo.heap.size wo wr ∧ Hid (groupErr [] g = groupErr (g.take q) (g.drop q))) (fun i _ => g.length - (intOf i).toNat)
        case atStart => exact ⟨0, Nat.zero_le _, rfl, qrefl _, rfl⟩
        case round =>
          obtain ⟨q, hq, rfl, hb', HE3⟩ := hrel
          by_cases hql : q < g.length
          · have HVr : Hid (Strs wr (.slice ag g.length cg) g) := HG.out.below hb'
            obtain ⟨a', cap', e, _, _, h3⟩ := HVr.out.shape
            cases e
            obtain ⟨bg, og, rfl, hbg, hc⟩ := h3 q hql
            have hcellq := hc q hql
            clear hc h3 hcell
            have hts : (g.getD q ByteArray.empty).size ≤ 40000 := by
              rw [List.getD_eq_getElem?_getD, List.getElem?_eq_getElem hql]; exact HSG.out.2 _ (List.getElem_mem hql)
            generalize ht : g.getD q ByteArray.empty = t at *
            have HE4 := Lib.hid (HE3.out.trans (groupErr_at hql ht))
            clear ht HE3
            have HTK : Hid (Strs wr (.slice (some ⟨bg, og, none⟩) q cg) (g.take q)) := HVr.out.take (Nat.le_of_lt hql)
            cases hvb : personS t with
            | false =>
              have HF : Hid (groupsErr gs = 6) := by show _ = _; rw [HE2.out, HE4.out, hvb]; rfl
              go_wp2_with (go_at_call 118; refine (isPerson_any _ hts _).mono ?_; rintro e w1 ⟨rfl, hb1⟩; rw [hvb])
              go_ret
              exact ⟨ret_int (by rw [H.out, HF.out]), qtrans hA (qtrans hb (qtrans hb' hb1))⟩
            | true =>
              cases hm : memS t (g.take q) with
              | true =>
                have HF : Hid (groupsErr gs = 7) := by show _ = _; rw [HE2.out, HE4.out, hvb, hm]; rfl
                go_wp2_with (fail)
                refine (isPerson_any _ hts _).mono ?_
                rintro e w1 ⟨rfl, hb1⟩
                rw [hvb]
                go_wp2_with (go_at_call 100; refine (SContains_any _ _ (g.take q) _ (HTK.out.below hb1) (by rw [List.length_take]; omega)).mono ?_; rintro e w2 ⟨rfl, rfl⟩; rw [hm])
                go_ret
                exact ⟨ret_int (by rw [H.out, HF.out]), qtrans hA (qtrans hb (qtrans hb' hb1))⟩
              | false =>
                have HF : Hid (groupErr [] g = groupErr (g.take (q + 1)) (g.drop (q + 1))) := by show _ = _; rw [HE4.out, hvb, hm]; rfl
                go_wp2_with (fail)
                refine (isPerson_any _ hts _).mono ?_
                rintro e w1 ⟨rfl, hb1⟩
                rw [hvb]
                go_wp2_with (go_at_call 100; refine (SContains_any _ _ (g.take q) _ (HTK.out.below hb1) (by rw [List.length_take]; omega)).mono ?_; rintro e w2 ⟨rfl, rfl⟩; rw [hm])
                go_roundw
                case rel => exact ⟨q + 1, by omega, by go_num, qtrans hb' hb1, HF⟩
                case measure => simp [intOf]; omega
          · have HF : Hid (groupsErr gs = groupsErr (gs.drop (k + 1))) := by
              show _ = _
              rw [HE2.out, HE3.out, List.drop_eq_nil_of_le (by omega)]; rfl
            go_wp2
            go_roundw
            case rel => exact ⟨k + 1, by omega, by go_num, qtrans hb hb', HF⟩
            case measure => simp [intOf]; omega
      · have HF : Hid (groupsErr gs = 0) := by
          show _ = _
          rw [HE.out, List.drop_eq_nil_of_le (by omega)]; rfl
        go_wp2
        go_ret
        exact ⟨ret_int (by rw [H.out, HF.out]), qtrans hA hb⟩
end Go.Proofs.YtidkpnabdfiilaaGreatDoor

namespace Go.Proofs.YtidkpnabdfiilaaGreatDoor
open Go.RowKit

theorem strKeyed : Maps.Keyed Tryz.prog 9 := Maps.string_keyed Tryz.underlying9
theorem key_str (p : ByteArray) (hp : p.size ≤ 40000) : keyOf Tryz.prog 9 (.string p) = some (.string p.data.toList) := by
  have h : p.size ≤ maxLen := by unfold maxLen; omega
  simp [keyOf, mapKey, Tryz.underlying9, h]
theorem run_mkMap (t : TypeId) (w : World) : (Instr.makeMap t none).run Tryz.prog w = .ok (.map (some w.heap.size)) (w.alloc (.map #[] 0)) := rfl
attribute [local go_sem] run_mkMap
def metF (rs : List ORule) (x : List UInt8) : Option Value := if rs.any (fun o => o.pre.data.toList == x) then some (.bool true) else none
theorem metF_snoc (rs : List ORule) (r : ORule) : (fun x => if x = r.pre.data.toList then some (Value.bool true) else metF rs x) = metF (rs ++ [r]) := by
  funext x
  unfold metF
  rw [List.any_append]
  by_cases h : x = r.pre.data.toList
  · subst h; simp
  · rw [if_neg h]
    have : (r.pre.data.toList == x) = false := by rw [beq_eq_false_iff_ne]; exact fun e => h e.symm
    simp [this]
theorem metF_get (rs : List ORule) (p : ByteArray) : (metF rs p.data.toList).getD (.bool false) = .bool (preIn p rs) := by
  unfold metF preIn
  cases h : rs.any (fun o => o.pre.data.toList == p.data.toList) <;> simp
set_option maxRecDepth 100000 in
set_option maxHeartbeats 2000000 in
theorem check_any (v : Value) (rs : List ORule) (w : World) (hv : Reads w [] (rulesT rs) v) (hs : SmallR rs) :
    Calls Tryz.prog 75 #[v] w fun e w' => e = .returned (.int .i64 (ocheckErr rs)) ∧ Below w.heap.size w w' := by
  obtain ⟨a, cap, rfl, hc1, hc2⟩ := rules_val hv
  have HV := Lib.hid hv
  have HS := Lib.hid hs
  have hlen := hs.len
  clear hv hs
  by_cases h0 : 100 < rs.length
  · have H : Hid (ocheckErr rs = 4) := by show _ = _; unfold ocheckErr; rw [if_pos h0]
    go_enter Tryz.func75, Tryz.ntmps75
    go_wp2
    go_ret
    exact ⟨ret_int (by rw [H.out]), qrefl _⟩
  have H : Hid (ocheckErr rs = ocheckFrom [] rs) := by show _ = _; unfold ocheckErr; rw [if_neg h0]
  go_enter Tryz.func75, Tryz.ntmps75
  go_wp2
  go_loopw [13] (fun i wr => ∃ k : Nat, k ≤ rs.length ∧ i = .int .i64 k ∧ Below w.heap.size w wr ∧ Hid (IsMapS Tryz.prog 9 wr w.heap.size k (metF (rs.take k))) ∧ Hid (ocheckFrom [] rs = ocheckFrom (rs.take k) (rs.drop k))) (fun i _ => rs.length - (intOf i).toNat)
  case atStart => exact ⟨0, Nat.zero_le _, rfl, qalloc _ _, IsMapS.made _ _ _, rfl⟩
  case round =>
    obtain ⟨k, hk, rfl, hb, HM, HE⟩ := hrel
    by_cases hlt : k < rs.length
    · obtain ⟨r, hr⟩ : ∃ r, rs[k]? = some r := ⟨_, List.getElem?_eq_getElem hlt⟩
      have HE2 := Lib.hid (HE.out.trans (ocheckFrom_at hr))
      have hsr := (HS.out.each r (List.mem_of_getElem? hr)).1
      have HSG := Lib.hid (HS.out.each r (List.mem_of_getElem? hr)).2
      obtain ⟨b, o, ag, cg, rfl, hbb, hcp, hcg, hg1, hg2, HG⟩ := rules_elem (HV.out.below hb) hr
      have HTK := Lib.hid (take_at hr)
      have hA := qalloc wr (.cells #[.string r.pre, .slice ag r.groups.length cg] 75)
      have HCB := Lib.hid (CBox.new wr 75 #[.string r.pre, .slice ag r.groups.length cg])
      have HC := Lib.hid (checkRule_any r _ _ (HG.out.below hA) hsr HSG.out)
      clear HE hr HG
      generalize hq : oruleErr r = q at *
      have HQ := Lib.hid hq
      clear hq
      by_cases hq0 : q = 0
      · have hqn : (q != 0) = false := by simp [hq0]
        go_wp2_with (fail)
        refine HC.out.mono ?_
        rintro e w2 ⟨rfl, hb2⟩
        have HM2 := Lib.hid ((HM.out.below hA).below hb2)
        have hcb := (HCB.out.below hb2).cell (i := 0) rfl
        have hcl := (HCB.out.below hb2).lt
        have hlook := HM2.out.look strKeyed Tryz.underlying82 (Tryz.zeroValue4 w2) (key_str r.pre hsr)
        rw [metF_get] at hlook
        have hbw : Below w.heap.size w w2 := qtrans hb (qtrans hA hb2)
        cases hin : preIn r.pre (rs.take k) with
        | true =>
          have HF : Hid (ocheckFrom [] rs = 7) := by show _ = _; rw [HE2.out, hq0, hin]; rfl
          rw [hin] at hlook
          go_wp2
          go_ret
          exact ⟨ret_int (by rw [H.out, HF.out]), hbw⟩
        | false =>
          have HF : Hid (ocheckFrom [] rs = ocheckFrom (rs.take (k + 1)) (rs.drop (k + 1))) := by show _ = _; rw [HE2.out, hq0, hin]; rfl
          rw [hin] at hlook
          obtain ⟨w3, hput, hm3, hg3⟩ := HM2.out.put strKeyed Tryz.underlying82 (by unfold maxLen; omega) (key_str r.pre hsr) (.bool true)
          rw [metF_snoc, ← HTK.out] at hm3
          have HM3 := Lib.hid hm3
          have hb3 : Below w.heap.size w w3 := hbw.grown hg3 hbw.size (fun k e => by cases e; exact Nat.le_refl _)
          clear hm3 hg3
          go_wp2
          go_roundw
          case rel => exact ⟨k + 1, by omega, by go_num, hb3, HM3, HF⟩
          case measure => simp [intOf]; omega
      · have hqn : (q != 0) = true := by simp [hq0]
        have HF : Hid (ocheckFrom [] rs = q) := by show _ = _; rw [HE2.out, if_neg hq0]
        go_wp2_with (fail)
        refine HC.out.mono ?_
        rintro e w2 ⟨rfl, hb2⟩
        go_wp2
        go_ret
        exact ⟨ret_int (by rw [H.out, HF.out]), qtrans hb (qtrans hA hb2)⟩
    · have HF : Hid (ocheckFrom [] rs = 0) := by
        show _ = _
        rw [HE.out, List.drop_eq_nil_of_le (by omega)]; rfl
      go_wp2
      go_ret
      exact ⟨ret_int (by rw [H.out, HF.out]), hb⟩
end Go.Proofs.YtidkpnabdfiilaaGreatDoor
