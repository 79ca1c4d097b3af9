/- The reference's person and groups. The reference's groups. The reference's groups: the walk. Rules of owners in memory. The reference's Check. -/
import Derived.Test.YtidkpnabdfiilaaGreatDoorQ04
import Derived.Test.YtidkpnabdfiilaaGreatDoorQ02
import Derived.Deep.QuietTactic
namespace Go.Proofs.YtidkpnabdfiilaaGreatDoor
open Go.RowKit

theorem personS_group {s : ByteArray} (h : (s.toList == [103, 114, 111, 117, 112]) = true) : personS s = false := by
  unfold personS personB wGroup; rw [tl] at h; rw [h]; rfl
theorem personS_name {s : ByteArray} (h : (s.toList == [103, 114, 111, 117, 112]) = false) : personS s = nameS s := by
  unfold personS personB nameS wGroup; rw [tl] at h; rw [h]; rfl
theorem rperson_any (s : ByteArray) (w : World) (hs : s.size ≤ 40000) :
    Calls Tryz.prog 161 #[.string s] w fun e w' => e = .returned (.bool (personS s)) ∧ w = w' := by
  cases h : (s.toList == [103, 114, 111, 117, 112]) with
  | true =>
    have H := Lib.hid (personS_group h)
    go_enter Tryz.func161, Tryz.ntmps161
    go_wp2
    go_ret
    exact ⟨ret_bool (by rw [H.out]), rfl⟩
  | false =>
    have H := Lib.hid (personS_name h)
    go_enter Tryz.func161, Tryz.ntmps161
    go_wp2_with (go_at_call 91; refine (rValidName_any _ _ hs).mono ?_; rintro e w' ⟨rfl, rfl⟩)
    go_ret
    exact ⟨ret_bool (by rw [H.out]), rfl⟩

/-! Groups in memory. -/
def groupsT (gs : List (List ByteArray)) : Tree := rowT 1 (fun g => [strsT g]) gs
/-- The groups' sizes: as many, and as many members, as the walks take; each member's bytes. -/
structure SmallG (gs : List (List ByteArray)) : Prop where
  len : gs.length ≤ 40000
  each : ∀ g ∈ gs, g.length ≤ 40000 ∧ ∀ s ∈ g, s.size ≤ 40000
theorem groups_val {w : World} {X : List Nat} {gs : List (List ByteArray)} {v : Value} (h : Reads w X (groupsT gs) v) : ∃ (a : Option Addr) (cap : Nat), v = .slice a gs.length cap ∧ gs.length ≤ cap ∧ cap ≤ 9223372036854775807 := h.val
theorem groups_elem {w : World} {X : List Nat} {gs : List (List ByteArray)} {a : Option Addr} {cap : Nat} (h : Reads w X (groupsT gs) (.slice a gs.length cap)) {i : Nat} {g : List ByteArray} (hi : gs[i]? = some g) :
    ∃ (b o : Nat) (ag : Option Addr) (cg : Nat), a = some ⟨b, o, none⟩ ∧ b < w.heap.size ∧ w.cell? ⟨b, o + i, none⟩ = some (.slice ag g.length cg) ∧ g.length ≤ cg ∧ cg ≤ 9223372036854775807 ∧ Hid (Strs w (.slice ag g.length cg) g) := by
  obtain ⟨b, o, rfl, hb, hc⟩ := Reads.elem (size := 1) (f := fun g : List ByteArray => [strsT g]) (fun _ => rfl) h hi
  obtain ⟨u, hu, hr⟩ := hc 0 _ rfl
  obtain ⟨ag, cg, rfl, h1, h2⟩ := Reads.val hr
  refine ⟨b, o, ag, cg, rfl, hb, by simpa using hu, h1, h2, (reads_strs.1 hr).1⟩
end Go.Proofs.YtidkpnabdfiilaaGreatDoor

namespace Go.Proofs.YtidkpnabdfiilaaGreatDoor
open Go.RowKit

def groupsE (gs : List (List ByteArray)) : Int := if gs.length == 0 || someEmpty gs then 1 else if decide (8 < gs.length) || someBig gs then 4 else groupsErr gs
theorem groupErr_at {g : List ByteArray} {k : Nat} {s : ByteArray} (hk : k < g.length) (hs : g.getD k ByteArray.empty = s) :
    groupErr (g.take k) (g.drop k) = if personS s then (if memS s (g.take k) then 7 else groupErr (g.take (k + 1)) (g.drop (k + 1))) else 6 := by
  have e : g[k] = s := by rw [← hs, List.getD_eq_getElem?_getD, List.getElem?_eq_getElem hk]; rfl
  rw [List.drop_eq_getElem_cons hk, groupErr, e, List.take_succ_eq_append_getElem hk, e]; rfl
theorem groupsErr_at {gs : List (List ByteArray)} {i : Nat} {g : List ByteArray} (hi : gs[i]? = some g) : groupsErr (gs.drop i) = if groupErr [] g = 0 then groupsErr (gs.drop (i + 1)) else groupErr [] g := by
  obtain ⟨h, e⟩ := List.getElem?_eq_some_iff.1 hi
  rw [List.drop_eq_getElem_cons h, groupsErr, e]
theorem someEmpty_at {gs : List (List ByteArray)} {i : Nat} {g : List ByteArray} (hi : gs[i]? = some g) (h : g.length = 0) : someEmpty gs = true := by
  obtain ⟨hl, e⟩ := List.getElem?_eq_some_iff.1 hi
  rw [someEmpty, List.any_eq_true]
  exact ⟨g, e ▸ List.getElem_mem hl, by simp [h]⟩
theorem someEmpty_none {gs : List (List ByteArray)} (h : ∀ (i : Nat) (g : List ByteArray), gs[i]? = some g → g.length ≠ 0) : someEmpty gs = false := by
  rw [someEmpty, List.any_eq_false]
  intro g hg
  obtain ⟨i, hi, rfl⟩ := List.getElem_of_mem hg
  simpa using h i _ (List.getElem?_eq_getElem hi)
theorem someBig_step {gs : List (List ByteArray)} {i : Nat} {g : List ByteArray} (hi : gs[i]? = some g) : someBig (gs.take (i + 1)) = (someBig (gs.take i) || decide (20 < g.length)) := by
  obtain ⟨hl, e⟩ := List.getElem?_eq_some_iff.1 hi
  rw [someBig, someBig, List.take_succ_eq_append_getElem hl, List.any_append, e]; simp
end Go.Proofs.YtidkpnabdfiilaaGreatDoor

namespace Go.Proofs.YtidkpnabdfiilaaGreatDoor
open Go.RowKit

theorem quietS {P : Program} {f : Nat} {args : Array Value} {v : Value} {w : World} {n : Nat} (h : Calls P f args (w.drewN n) fun e w' => e = .returned v ∧ w.drewN n = w') : Calls P f args (w.drewN n) fun e w' => e = .returned v ∧ ∃ m, w' = w.drewN m :=
  h.mono fun _ _ ⟨he, hm⟩ => ⟨he, n, hm.symm⟩
theorem Strs.drewN {w : World} {v : Value} {ss : List ByteArray} (h : Strs w v ss) (n : Nat) : Strs (w.drewN n) v ss := h.below (below_drewN (qrefl w) n)
set_option maxHeartbeats 1000000 in
theorem rgroups_any (v : Value) (gs : List (List ByteArray)) (w : World) (hv : Reads w [] (groupsT gs) v) (hs : SmallG gs) :
    Calls Tryz.prog 162 #[v] w fun e w' => e = .returned (.int .i64 (groupsE gs)) ∧ Below w.heap.size w w' := by
  obtain ⟨a, cap, rfl, hc1, hc2⟩ := groups_val hv
  have HV := Lib.hid hv
  have HS := Lib.hid hs
  have hlen := hs.len
  clear hv hs
  by_cases h0 : gs.length = 0
  · have hb0 : ((gs.length : Int) == 0) = true := by rw [h0]; rfl
    have H : Hid (groupsE gs = 1) := by show _ = _; unfold groupsE; rw [h0]; rfl
    go_enter Tryz.func162, Tryz.ntmps162
    go_wp2
    go_ret
    exact ⟨ret_int (by rw [H.out]), qrefl _⟩
  have hb0 : ((gs.length : Int) == 0) = false := by rw [beq_eq_false_iff_ne]; omega
  have H0 : Hid ((gs.length == 0) = false) := by show _ = _; rw [beq_eq_false_iff_ne]; exact h0
  go_enter Tryz.func162, Tryz.ntmps162
  go_wp2
  go_loop [3, 4] (fun m i => ∃ k : Nat, k ≤ gs.length ∧ i = .int .i64 k ∧ m = .bool (decide (8 < (gs.length : Int)) || someBig (gs.take k)) ∧ Hid (∀ j g, j < k → gs[j]? = some g → g.length ≠ 0)) (fun _ i => gs.length - (intOf i).toNat)
  case atStart => exact ⟨0, Nat.zero_le _, rfl, by simp [someBig], fun j g hj => by omega⟩
  case round =>
    obtain ⟨k, hk, rfl, rfl, HK⟩ := hrel
    by_cases hlt : k < gs.length
    · obtain ⟨g, hg⟩ : ∃ g, gs[k]? = some g := ⟨_, List.getElem?_eq_getElem hlt⟩
      obtain ⟨b, o, ag, cg, rfl, hb, hcell, hg1, hg2, HG⟩ := groups_elem HV.out hg
      by_cases hg0 : g.length = 0
      · have hgb : ((g.length : Int) == 0) = true := by rw [hg0]; rfl
        have H : Hid (groupsE gs = 1) := by show _ = _; unfold groupsE; rw [H0.out, someEmpty_at hg hg0]; rfl
        go_wp2
        go_ret
        exact ⟨ret_int (by rw [H.out]), qrefl _⟩
      · have hgb : ((g.length : Int) == 0) = false := by rw [beq_eq_false_iff_ne]; omega
        have HK2 : Hid (∀ j g, j < k + 1 → gs[j]? = some g → g.length ≠ 0) := fun j g' hj hg' => by
          by_cases e : j = k
          · rw [e, hg] at hg'; cases hg'; exact hg0
          · exact HK.out j g' (by omega) hg'
        have HB := Lib.hid (someBig_step hg)
        generalize hm : (decide (8 < (gs.length : Int)) || someBig (gs.take k)) = m at *
        have HM := Lib.hid hm
        clear hm hg
        cases m with
        | true =>
          go_wp2
          go_round
          case rel => exact ⟨k + 1, by omega, by go_num, by rw [HB.out, ← Bool.or_assoc, HM.out]; rfl, HK2⟩
          case measure => simp [intOf]; omega
        | false =>
          go_wp2
          go_round
          case rel => exact ⟨k + 1, by omega, by go_num, by rw [HB.out, ← Bool.or_assoc, HM.out]; simp <;> omega, HK2⟩
          case measure => simp [intOf]; omega
    · have hkk : k = gs.length := by omega
      subst hkk
      have HE : Hid (someEmpty gs = false) := someEmpty_none (fun j g hj => HK.out j g (List.getElem?_eq_some_iff.1 hj).1 hj)
      have HT : Hid (gs.take gs.length = gs) := List.take_length
      rw [HT.out]
      cases hm : (decide (8 < (gs.length : Int)) || someBig gs) with
      | true =>
        have H : Hid (groupsE gs = 4) := by
          show _ = _
          unfold groupsE
          rw [H0.out, HE.out, show (decide (8 < gs.length) || someBig gs) = true by rw [← hm]; congr 1; simp <;> omega]; rfl
        go_wp2
        go_ret
        exact ⟨ret_int (by rw [H.out]), qrefl _⟩
      | false =>
        have H : Hid (groupsE gs = groupsErr gs) := by
          show _ = _
          unfold groupsE
          rw [H0.out, HE.out, show (decide (8 < gs.length) || someBig gs) = false by rw [← hm]; congr 1; simp <;> omega]; rfl
        clear hm HK HE HT H0
        go_wp2
        go_loopw [5] (fun i wr => ∃ k : Nat, k ≤ gs.length ∧ i = .int .i64 k ∧ Below w.heap.size w wr ∧ Hid (groupsErr gs = groupsErr (gs.drop k))) (fun i _ => gs.length - (intOf i).toNat)
        case atStart => exact ⟨0, Nat.zero_le _, rfl, qrefl _, rfl⟩
        case round =>
          obtain ⟨k, hk, rfl, hb, HE⟩ := hrel
          by_cases hlt : k < gs.length
          · obtain ⟨g, hg⟩ : ∃ g, gs[k]? = some g := ⟨_, List.getElem?_eq_getElem hlt⟩
            have HE2 := Lib.hid (HE.out.trans (groupsErr_at hg))
            have HSG := Lib.hid (HS.out.each g (List.mem_of_getElem? hg))
            have hgl := HSG.out.1
            obtain ⟨b, o, ag, cg, rfl, hbb, hcell0, hg1, hg2, HG⟩ := groups_elem HV.out hg
            have HC0 := Lib.hid hcell0
            have hcellr : wr.cell? ⟨b, o + k, none⟩ = some (.slice ag g.length cg) := (hb.cell (p := ⟨b, o + k, none⟩) hbb).trans hcell0
            clear HE hcell0
            go_wp2
            go_loopw [6] (fun i wr' => ∃ q : Nat, q ≤ g.length ∧ i = .int .i64 q ∧ Below w.heap.size w wr' ∧ Hid (groupErr [] g = groupErr (g.take q) (g.drop q))) (fun i _ => g.length - (intOf i).toNat)
            case atStart => exact ⟨0, Nat.zero_le _, rfl, hb, rfl⟩
            case round =>
              clear hcellr
              obtain ⟨q, hq, rfl, hb', HE3⟩ := hrel
              have hbw : b < wr.heap.size := Nat.lt_of_lt_of_le hbb hb'.size
              have hcell : wr.cell? ⟨b, o + k, none⟩ = some (.slice ag g.length cg) := (hb'.cell (p := ⟨b, o + k, none⟩) hbb).trans HC0.out
              by_cases hql : q < g.length
              · have HVr : Hid (Strs wr (.slice ag g.length cg) g) := HG.out.below hb'
                obtain ⟨a', cap', e, _, _, h3⟩ := HVr.out.shape
                cases e
                obtain ⟨bg, og, rfl, hbg, hc⟩ := h3 q hql
                have hcellq := hc q hql
                clear hc h3
                have hts : (g.getD q ByteArray.empty).size ≤ 40000 := by
                  rw [List.getD_eq_getElem?_getD, List.getElem?_eq_getElem hql]; exact HSG.out.2 _ (List.getElem_mem hql)
                generalize ht : g.getD q ByteArray.empty = t at *
                have HE4 := Lib.hid (HE3.out.trans (groupErr_at hql ht))
                clear ht HE3
                have HTK : Hid (Strs wr (.slice (some ⟨bg, og, none⟩) q cg) (g.take q)) := HVr.out.take (Nat.le_of_lt hql)
                cases hvb : personS t with
                | false =>
                  have HF : Hid (groupsErr gs = 6) := by show _ = _; rw [HE2.out, HE4.out, hvb]; rfl
                  go_wp2_with (go_at_call 161; refine (rperson_any _ _ hts).mono ?_; rintro e w1 ⟨rfl, rfl⟩)
                  go_ret
                  exact ⟨ret_int (by rw [H.out, HF.out]), hb'⟩
                | true =>
                  cases hm : memS t (g.take q) with
                  | true =>
                    have HF : Hid (groupsErr gs = 7) := by show _ = _; rw [HE2.out, HE4.out, hvb, hm]; rfl
                    go_wp2_with (first | (go_at_call 161; refine (rperson_any _ _ hts).mono ?_; rintro e w1 ⟨rfl, rfl⟩))
                    go_quiet ((go_at_call 34; exact quietS (v := .bool true) ((rHas_any _ _ (g.take q) _ (HTK.out.drewN _) (by rw [List.length_take]; omega)).mono fun _ _ h => by rw [hm] at h; exact h)))
                    go_wp2
                    go_ret
                    exact ⟨ret_int (by rw [H.out, HF.out]), below_drewN hb' _⟩
                  | false =>
                    have HF : Hid (groupErr [] g = groupErr (g.take (q + 1)) (g.drop (q + 1))) := by show _ = _; rw [HE4.out, hvb, hm]; rfl
                    go_wp2_with (first | (go_at_call 161; refine (rperson_any _ _ hts).mono ?_; rintro e w1 ⟨rfl, rfl⟩))
                    go_quiet ((go_at_call 34; exact quietS (v := .bool false) ((rHas_any _ _ (g.take q) _ (HTK.out.drewN _) (by rw [List.length_take]; omega)).mono fun _ _ h => by rw [hm] at h; exact h)))
                    go_wp2
                    go_roundw
                    case rel => exact ⟨q + 1, by omega, by go_num, below_drewN hb' _, HF⟩
                    case measure => simp [intOf]; omega
              · have HF : Hid (groupsErr gs = groupsErr (gs.drop (k + 1))) := by
                  show _ = _
                  rw [HE2.out, HE3.out, List.drop_eq_nil_of_le (by omega)]; rfl
                go_wp2
                go_roundw
                case rel => exact ⟨k + 1, by omega, by go_num, hb', HF⟩
                case measure => simp [intOf]; omega
          · have HF : Hid (groupsErr gs = 0) := by
              show _ = _
              rw [HE.out, List.drop_eq_nil_of_le (by omega)]; rfl
            go_wp2
            go_ret
            exact ⟨ret_int (by rw [H.out, HF.out]), hb⟩
end Go.Proofs.YtidkpnabdfiilaaGreatDoor

namespace Go.Proofs.YtidkpnabdfiilaaGreatDoor
open Go.RowKit

def ruleT (r : ORule) : List Tree := [strT r.pre, groupsT r.groups]
def rulesT (rs : List ORule) : Tree := rowT 2 ruleT rs
structure SmallR (rs : List ORule) : Prop where
  len : rs.length ≤ 40000
  each : ∀ r ∈ rs, r.pre.size ≤ 40000 ∧ SmallG r.groups
theorem rules_val {w : World} {X : List Nat} {rs : List ORule} {v : Value} (h : Reads w X (rulesT rs) v) : ∃ (a : Option Addr) (cap : Nat), v = .slice a rs.length cap ∧ rs.length ≤ cap ∧ cap ≤ 9223372036854775807 := h.val
theorem rules_elem {w : World} {X : List Nat} {rs : List ORule} {a : Option Addr} {cap : Nat} (h : Reads w X (rulesT rs) (.slice a rs.length cap)) {i : Nat} {r : ORule} (hi : rs[i]? = some r) :
    ∃ (b o : Nat) (ag : Option Addr) (cg : Nat), a = some ⟨b, o, none⟩ ∧ b < w.heap.size ∧ w.cell? ⟨b, o + i * 2, none⟩ = some (.string r.pre) ∧ w.cell? ⟨b, o + i * 2 + 1, none⟩ = some (.slice ag r.groups.length cg) ∧ r.groups.length ≤ cg ∧ cg ≤ 9223372036854775807 ∧ Hid (Reads w X (groupsT r.groups) (.slice ag r.groups.length cg)) := by
  obtain ⟨b, o, rfl, hb, hc⟩ := Reads.elem (size := 2) (f := ruleT) (fun _ => rfl) h hi
  obtain ⟨u, hu, hr⟩ := hc 0 _ rfl
  obtain ⟨u1, hu1, hr1⟩ := hc 1 _ rfl
  obtain ⟨ag, cg, rfl, h1, h2⟩ := groups_val hr1
  rw [Reads.leafv hr] at hu
  exact ⟨b, o, ag, cg, rfl, hb, by simpa using hu, hu1, h1, h2, hr1⟩
/-! Plain. -/
theorem ocheckFrom_at {rs : List ORule} {k : Nat} {r : ORule} (hr : rs[k]? = some r) :
    ocheckFrom (rs.take k) (rs.drop k) = if oruleErr r = 0 then (if preIn r.pre (rs.take k) then 7 else ocheckFrom (rs.take (k + 1)) (rs.drop (k + 1))) else oruleErr r := by
  obtain ⟨hk, e⟩ := List.getElem?_eq_some_iff.1 hr
  rw [List.drop_eq_getElem_cons hk, ocheckFrom, e, List.take_succ_eq_append_getElem hk, e]
theorem oruleErr_eq (r : ORule) : oruleErr r = if preS r.pre then groupsE r.groups else 6 := rfl
theorem preIn_at {p : ByteArray} {rs : List ORule} {k : Nat} {r : ORule} (hr : rs[k]? = some r) (h : (r.pre.toList == p.toList) = true) : preIn p rs = true := by
  obtain ⟨hk, e⟩ := List.getElem?_eq_some_iff.1 hr
  rw [preIn, List.any_eq_true]
  refine ⟨r, by rw [← e]; exact List.getElem_mem hk, ?_⟩
  rw [tl, tl] at h
  exact h
theorem preIn_none {p : ByteArray} {rs : List ORule} (h : ∀ (k : Nat) (r : ORule), rs[k]? = some r → (r.pre.toList == p.toList) = false) : preIn p rs = false := by
  rw [preIn, List.any_eq_false]
  intro r hr
  obtain ⟨k, hk, rfl⟩ := List.getElem_of_mem hr
  have := h k rs[k] (List.getElem?_eq_getElem hk)
  rw [tl, tl] at this
  rw [Bool.not_eq_true]
  exact this
end Go.Proofs.YtidkpnabdfiilaaGreatDoor

namespace Go.Proofs.YtidkpnabdfiilaaGreatDoor
open Go.RowKit

theorem Reads.drewN {w : World} {X : List Nat} {d : Tree} {v : Value} (h : Reads w X d v) (n : Nat) : Reads (w.drewN n) X d v := h.below (below_drewN (qrefl w) n)
set_option maxHeartbeats 1000000 in
theorem rCheck_any (v : Value) (rs : List ORule) (w : World) (hv : Reads w [] (rulesT rs) v) (hs : SmallR rs) :
    Calls Tryz.prog 130 #[v] w fun e w' => e = .returned (.int .i64 (ocheckErr rs)) ∧ Below w.heap.size w w' := by
  obtain ⟨a, cap, rfl, hc1, hc2⟩ := rules_val hv
  have HV := Lib.hid hv
  have HS := Lib.hid hs
  have hlen := hs.len
  clear hv hs
  by_cases h0 : 100 < rs.length
  · have H : Hid (ocheckErr rs = 4) := by show _ = _; unfold ocheckErr; rw [if_pos h0]
    go_enter Tryz.func130, Tryz.ntmps130
    go_wp2
    go_ret
    exact ⟨ret_int (by rw [H.out]), qrefl _⟩
  have H : Hid (ocheckErr rs = ocheckFrom [] rs) := by show _ = _; unfold ocheckErr; rw [if_neg h0]
  go_enter Tryz.func130, Tryz.ntmps130
  go_wp2
  go_loopw [3] (fun i wr => ∃ k : Nat, k ≤ rs.length ∧ i = .int .i64 k ∧ Below w.heap.size w wr ∧ Hid (ocheckFrom [] rs = ocheckFrom (rs.take k) (rs.drop k))) (fun i _ => rs.length - (intOf i).toNat)
  case atStart => exact ⟨0, Nat.zero_le _, rfl, qrefl _, rfl⟩
  case round =>
    obtain ⟨k, hk, rfl, hb, HE⟩ := hrel
    by_cases hlt : k < rs.length
    · obtain ⟨r, hr⟩ : ∃ r, rs[k]? = some r := ⟨_, List.getElem?_eq_getElem hlt⟩
      have HE2 := Lib.hid (HE.out.trans (ocheckFrom_at hr))
      have hsr := (HS.out.each r (List.mem_of_getElem? hr)).1
      have HSG := Lib.hid (HS.out.each r (List.mem_of_getElem? hr)).2
      have HVr : Hid (Reads wr [] (rulesT rs) (.slice a rs.length cap)) := HV.out.below hb
      obtain ⟨b, o, ag, cg, rfl, hbb, hcp, hcg, hg1, hg2, HG⟩ := rules_elem HVr.out hr
      clear HE
      cases hp : preS r.pre with
      | false =>
        have HF : Hid (ocheckFrom [] rs = 6) := by show _ = _; rw [HE2.out, oruleErr_eq, hp]; rfl
        go_wp2_with (go_at_call 160; refine (rprefix_any _ _ hsr).mono ?_; rintro e w1 ⟨rfl, rfl⟩)
        go_ret
        exact ⟨ret_int (by rw [H.out, HF.out]), hb⟩
      | true =>
        have HQ : Hid (oruleErr r = groupsE r.groups) := by show _ = _; rw [oruleErr_eq, hp]; rfl
        generalize hq : groupsE r.groups = q at *
        have HQQ := Lib.hid hq
        clear hq
        by_cases hq0 : q = 0
        · subst hq0
          have HE3 : Hid (ocheckFrom [] rs = if preIn r.pre (rs.take k) then 7 else ocheckFrom (rs.take (k + 1)) (rs.drop (k + 1))) := by
            show _ = _; rw [HE2.out, HQ.out]; rfl
          have HRK := Lib.hid hr
          clear HE2 hr
          go_wp2_with (first | (go_at_call 160; refine (rprefix_any _ _ hsr).mono ?_; rintro e w1 ⟨rfl, rfl⟩) | (go_at_call 162; refine (rgroups_any _ _ _ HG.out HSG.out).mono ?_; rintro e w1 ⟨rfl, hb1⟩; rw [HQQ.out]))
          go_loopw [5] (fun i wi => ∃ m : Nat, m ≤ k ∧ i = .int .i64 m ∧ Below w.heap.size w wi ∧ Hid (∀ (j : Nat) (p : ORule), j < m → (rs.take k)[j]? = some p → (p.pre.toList == r.pre.toList) = false)) (fun i _ => k - (intOf i).toNat)
          case atStart => exact ⟨0, Nat.zero_le _, rfl, qtrans hb hb1, fun j p hj => by omega⟩
          case round =>
            obtain ⟨m, hm, rfl, hbi, HI⟩ := hrel
            by_cases hmk : m < k
            · obtain ⟨p, hpm⟩ : ∃ p, rs[m]? = some p := ⟨_, List.getElem?_eq_getElem (by omega)⟩
              obtain ⟨b1, o1, _, _, e1, hb1', c1, _, _, _, _⟩ := rules_elem (HV.out.below hbi) hpm
              cases e1
              obtain ⟨b2, o2, _, _, e2, _, d1, _, _, _, _⟩ := rules_elem (HV.out.below hbi) HRK.out
              cases e2
              have HP : Hid ((rs.take k)[m]? = some p) := by show _ = _; rw [List.getElem?_take, if_pos hmk]; exact hpm
              clear hpm
              cases he : (p.pre.toList == r.pre.toList) with
              | true =>
                have HF : Hid (ocheckFrom [] rs = 7) := by show _ = _; rw [HE3.out, preIn_at HP.out he]; rfl
                go_wp2
                go_quiet (fail)
                go_wp2
                go_ret
                exact ⟨ret_int (by rw [H.out, HF.out]), below_drewN hbi _⟩
              | false =>
                have HN : Hid (∀ (j : Nat) (p : ORule), j < m + 1 → (rs.take k)[j]? = some p → (p.pre.toList == r.pre.toList) = false) := fun j p' hj hp' => by
                  by_cases e : j = m
                  · subst e; have := HP.out.symm.trans hp'; cases this; exact he
                  · exact HI.out j p' (by omega) hp'
                go_wp2
                go_quiet (fail)
                go_wp2
                go_roundw
                case rel => exact ⟨m + 1, by omega, by go_num, below_drewN hbi _, HN⟩
                case measure => simp [intOf]; omega
            · have HF : Hid (ocheckFrom [] rs = ocheckFrom (rs.take (k + 1)) (rs.drop (k + 1))) := by
                show _ = _
                rw [HE3.out, preIn_none (fun j p hp => HI.out j p (by have := (List.getElem?_eq_some_iff.1 hp).1; rw [List.length_take] at this; omega) hp)]; rfl
              go_wp2
              go_roundw
              case rel => exact ⟨k + 1, by omega, by go_num, hbi, HF⟩
              case measure => simp [intOf]; omega
        · have hq2 : (q != 0) = true := by simp [hq0]
          have HF : Hid (ocheckFrom [] rs = q) := by show _ = _; rw [HE2.out, HQ.out, if_neg hq0]
          go_wp2_with (first | (go_at_call 160; refine (rprefix_any _ _ hsr).mono ?_; rintro e w1 ⟨rfl, rfl⟩) | (go_at_call 162; refine (rgroups_any _ _ _ HG.out HSG.out).mono ?_; rintro e w1 ⟨rfl, hb1⟩; rw [HQQ.out]))
          go_ret
          exact ⟨ret_int (by rw [H.out, HF.out]), qtrans hb hb1⟩
    · have HF : Hid (ocheckFrom [] rs = 0) := by
        show _ = _
        rw [HE.out, List.drop_eq_nil_of_le (by omega)]; rfl
      go_wp2
      go_ret
      exact ⟨ret_int (by rw [H.out, HF.out]), hb⟩
end Go.Proofs.YtidkpnabdfiilaaGreatDoor
