/- The reference of chapter 54: SameStrings at any two lists, HasGroup. -/
import Derived.Test.YtidkpnabdfiilaaGreatDoorRgG
namespace Go.Proofs.YtidkpnabdfiilaaGreatDoor
open Go.RowKit Go.Shelf

def sameS (a b : List ByteArray) : Bool := a.map (·.data.toList) == b.map (·.data.toList)
theorem sameS_true {a b : List ByteArray} (hl : a.length = b.length) (h : ∀ i, i < a.length → (a.getD i ByteArray.empty).data.toList = (b.getD i ByteArray.empty).data.toList) : sameS a b = true := by
  rw [sameS, beq_iff_eq]
  refine List.ext_getElem (by simpa using hl) fun i h1 h2 => ?_
  have h1' : i < a.length := by simpa using h1
  have h2' : i < b.length := by simpa using h2
  have := h i h1'
  rw [List.getD_eq_getElem?_getD, List.getD_eq_getElem?_getD, List.getElem?_eq_getElem h1', List.getElem?_eq_getElem h2'] at this
  simpa using this
theorem sameS_len {a b : List ByteArray} (hl : a.length ≠ b.length) : sameS a b = false := by
  rw [sameS, beq_eq_false_iff_ne]
  intro e
  have := congrArg List.length e
  simp at this; exact hl this
theorem sameS_at {a b : List ByteArray} {i : Nat} (h1 : i < a.length) (h2 : i < b.length) (h : (a.getD i ByteArray.empty).data.toList ≠ (b.getD i ByteArray.empty).data.toList) : sameS a b = false := by
  rw [sameS, beq_eq_false_iff_ne]
  intro e
  apply h
  have := congrArg (fun l => l[i]?) e
  simp only [List.getElem?_map, List.getElem?_eq_getElem h1, List.getElem?_eq_getElem h2, Option.map_some, Option.some.injEq] at this
  rw [List.getD_eq_getElem?_getD, List.getD_eq_getElem?_getD, List.getElem?_eq_getElem h1, List.getElem?_eq_getElem h2]
  exact this
set_option maxHeartbeats 1000000 in
theorem rSameStrings_any (v1 v2 : Value) (ss ts : List ByteArray) (w : World) (h1 : Strs w v1 ss) (h2 : Strs w v2 ts) :
    Calls Tryz.prog 52 #[v1, v2] w fun e w' => e = .returned (.bool (sameS ss ts)) ∧ ∃ n, w' = w.drewN n := by
  obtain ⟨a1, cap1, rfl, l1, m1⟩ := h1.len
  obtain ⟨a2, cap2, rfl, l2, m2⟩ := h2.len
  have H1 := Lib.hid h1
  have H2 := Lib.hid h2
  clear h1 h2
  by_cases hl : ss.length = ts.length
  · have hne0 : ((ss.length : Int) == (ts.length : Int)) = true := by simp [hl]
    go_enter Tryz.func52, Tryz.ntmps52
    go_wp2
    go_loopw [5] (fun i wr => ∃ k : Nat, k ≤ ss.length ∧ i = .int .i64 k ∧ Hid (∃ n, wr = w.drewN n) ∧ Hid (∀ i, i < k → (ss.getD i ByteArray.empty).data.toList = (ts.getD i ByteArray.empty).data.toList)) (fun i _ => ss.length - (intOf i).toNat)
    case atStart => exact ⟨0, Nat.zero_le _, rfl, ⟨0, rfl⟩, fun i hi => by omega⟩
    case round =>
      obtain ⟨k, hk, rfl, HW, HK⟩ := hrel
      by_cases hlt : k < ss.length
      · have hs1 : Strs wr (.slice a1 ss.length cap1) ss := by obtain ⟨n, rfl⟩ := HW.out; exact H1.out.drewN n
        have hs2 : Strs wr (.slice a2 ts.length cap2) ts := by obtain ⟨n, rfl⟩ := HW.out; exact H2.out.drewN n
        obtain ⟨b1, o1, rfl, hb1, c1⟩ := hs1.elem hlt
        obtain ⟨b2, o2, rfl, hb2, c2⟩ := hs2.elem (i := k) (by omega)
        have HA : Hid ((ss.getD k ByteArray.empty).data.toList ≠ (ts.getD k ByteArray.empty).data.toList → sameS ss ts = false) := sameS_at hlt (by omega)
        have HB : Hid ((ss.getD k ByteArray.empty).data.toList = (ts.getD k ByteArray.empty).data.toList → ∀ i, i < k + 1 → (ss.getD i ByteArray.empty).data.toList = (ts.getD i ByteArray.empty).data.toList) := fun h i hi => by
          by_cases e : i = k
          · rw [e]; exact h
          · exact HK.out i (by omega)
        generalize ss.getD k ByteArray.empty = t at *
        generalize ts.getD k ByteArray.empty = u at *
        have hk1 : (k : Int) < (ts.length : Int) := by omega
        clear hs1 hs2
        cases he : (t.toList == u.toList) with
        | true =>
          have HK2 : Hid (∀ i, i < k + 1 → (ss.getD i ByteArray.empty).data.toList = (ts.getD i ByteArray.empty).data.toList) := HB.out (by rw [tl, tl] at he; simpa using he)
          go_wp2
          go_quiet (fail)
          go_wp2
          go_roundw
          case rel => exact ⟨k + 1, by omega, by go_num, by obtain ⟨n, rfl⟩ := HW.out; exact ⟨_, World.drewN_drewN _ _ _⟩, HK2⟩
          case measure => simp [intOf]; omega
        | false =>
          have HF : Hid (sameS ss ts = false) := HA.out (by rw [tl, tl] at he; simpa using he)
          go_wp2
          go_quiet (fail)
          go_wp2
          go_ret
          exact ⟨ret_bool (by rw [HF.out]), by obtain ⟨n, rfl⟩ := HW.out; exact ⟨_, World.drewN_drewN _ _ _⟩⟩
      · have HF : Hid (sameS ss ts = true) := sameS_true hl (fun i hi => HK.out i (by omega))
        go_wp2
        go_ret
        exact ⟨ret_bool (by rw [HF.out]), HW.out⟩
  · have hne0 : ((ss.length : Int) == (ts.length : Int)) = false := by simp; omega
    have HF : Hid (sameS ss ts = false) := sameS_len hl
    go_enter Tryz.func52, Tryz.ntmps52
    go_wp2
    go_ret
    exact ⟨ret_bool (by rw [HF.out]), 0, rfl⟩
def hasG (gs : List (List ByteArray)) (g : List ByteArray) : Bool := gs.any fun h => sameS h g
set_option maxHeartbeats 1000000 in
theorem rHasGroup_any (v gv : Value) (gs : List (List ByteArray)) (g : List ByteArray) (w : World) (hv : Reads w [] (groupsT gs) v) (hg : Strs w gv g) :
    Calls Tryz.prog 24 #[v, gv] w fun e w' => e = .returned (.bool (hasG gs g)) ∧ ∃ n, w' = w.drewN n := by
  obtain ⟨a, cap, rfl, l1, m1⟩ := groups_val hv
  obtain ⟨a2, cap2, rfl, l2, m2⟩ := hg.len
  have HV := Lib.hid hv
  have HG := Lib.hid hg
  clear hv hg
  go_enter Tryz.func24, Tryz.ntmps24
  go_wp2
  go_loopw [5] (fun i wr => ∃ k : Nat, k ≤ gs.length ∧ i = .int .i64 k ∧ Hid (∃ n, wr = w.drewN n) ∧ Hid (∀ (j : Nat) (h : List ByteArray), j < k → gs[j]? = some h → sameS h g = false)) (fun i _ => gs.length - (intOf i).toNat)
  case atStart => exact ⟨0, Nat.zero_le _, rfl, ⟨0, rfl⟩, fun j h hj => by omega⟩
  case round =>
    obtain ⟨k, hk, rfl, HW, HN⟩ := hrel
    by_cases hlt : k < gs.length
    · obtain ⟨h, hh⟩ : ∃ h, gs[k]? = some h := ⟨_, List.getElem?_eq_getElem hlt⟩
      have hs1 : Reads wr [] (groupsT gs) (.slice a gs.length cap) := by obtain ⟨n, rfl⟩ := HW.out; exact HV.out.drewN n
      have hs2 : Strs wr (.slice a2 g.length cap2) g := by obtain ⟨n, rfl⟩ := HW.out; exact HG.out.drewN n
      obtain ⟨b1, o1, ag1, cg1, rfl, hb1, c1, _, _, s1⟩ := groups_elem hs1 hh
      have hi0 : (0 : Int) ≤ (k : Int) := by omega
      have hi1 : (k : Int) < (gs.length : Int) := by omega
      have HS2 := Lib.hid hs2
      have HC := Lib.hid (rSameStrings_any _ _ h g wr s1.out hs2)
      have HT : Hid (sameS h g = true → hasG gs g = true) := fun e => by rw [hasG, List.any_eq_true]; exact ⟨h, List.mem_of_getElem? hh, e⟩
      have HF : Hid (sameS h g = false → ∀ (j : Nat) (h : List ByteArray), j < k + 1 → gs[j]? = some h → sameS h g = false) := fun e j h' hj hj' => by
        by_cases ej : j = k
        · rw [ej, hh] at hj'; cases hj'; exact e
        · exact HN.out j h' (by omega) hj'
      clear hs1 hs2 hh
      generalize sameS h g = b at *
      go_wp2_with (fail)
      refine HC.out.mono ?_
      rintro e w1 ⟨rfl, n1, rfl⟩
      have HW1 : Hid (∃ n, wr.drewN n1 = w.drewN n) := by obtain ⟨n, rfl⟩ := HW.out; exact ⟨_, World.drewN_drewN _ _ _⟩
      cases b with
      | true =>
        have H := Lib.hid (HT.out rfl)
        go_wp2
        go_ret
        exact ⟨ret_bool (by rw [H.out]), HW1.out⟩
      | false =>
        have H := Lib.hid (HF.out rfl)
        go_wp2
        go_roundw
        case rel => exact ⟨k + 1, by omega, by go_num, HW1, H⟩
        case measure => simp [intOf]; omega
    · have H : Hid (hasG gs g = false) := by
        show _ = _
        rw [hasG, List.any_eq_false]
        intro h hh
        obtain ⟨i, hi, rfl⟩ := List.getElem_of_mem hh
        rw [HN.out i _ (by omega) (List.getElem?_eq_getElem hi)]; simp
      go_wp2
      go_ret
      exact ⟨ret_bool (by rw [H.out]), HW.out⟩
/-! Enough. -/
def someIn (who g : List ByteArray) : Bool := g.any fun s => memS s who
def enoughB (gs : List (List ByteArray)) (who : List ByteArray) : Bool := gs.all (someIn who)
theorem someIn_at {who g : List ByteArray} {k : Nat} {s : ByteArray} (h : g[k]? = some s) : someIn who (g.take (k + 1)) = (someIn who (g.take k) || memS s who) := by
  rw [take_at h, someIn, someIn, List.any_append]; simp
set_option maxHeartbeats 1000000 in
theorem rEnough_any (v wv : Value) (gs : List (List ByteArray)) (who : List ByteArray) (w : World) (hv : Reads w [] (groupsT gs) v) (hg : Strs w wv who) (hn : who.length ≤ 40000) :
    Calls Tryz.prog 20 #[v, wv] w fun e w' => e = .returned (.bool (enoughB gs who)) ∧ w = w' := by
  obtain ⟨a, cap, rfl, l1, m1⟩ := groups_val hv
  obtain ⟨a2, cap2, rfl, l2, m2⟩ := hg.len
  have HV := Lib.hid hv
  have HH := Lib.hid (fun s => rHas_any _ s who w hg hn)
  clear hv hg
  go_enter Tryz.func20, Tryz.ntmps20
  go_wp2
  go_loop [5] (fun i => ∃ k : Nat, k ≤ gs.length ∧ i = .int .i64 k ∧ Hid (∀ (j : Nat) (h : List ByteArray), j < k → gs[j]? = some h → someIn who h = true)) (fun i => gs.length - (intOf i).toNat)
  case atStart => exact ⟨0, Nat.zero_le _, rfl, fun j h hj => by omega⟩
  case round =>
    obtain ⟨k, hk, rfl, HN⟩ := hrel
    by_cases hlt : k < gs.length
    · obtain ⟨g, hg⟩ : ∃ h, gs[k]? = some h := ⟨_, List.getElem?_eq_getElem hlt⟩
      obtain ⟨b1, o1, ag1, cg1, rfl, hb1, c1, q1, q2, s1⟩ := groups_elem HV.out hg
      have hi0 : (0 : Int) ≤ (k : Int) := by omega
      have hi1 : (k : Int) < (gs.length : Int) := by omega
      have HT : Hid (someIn who g = false → enoughB gs who = false) := fun e => by
        rw [enoughB, List.all_eq_false]; exact ⟨g, List.mem_of_getElem? hg, by rw [e]; simp⟩
      have HF : Hid (someIn who g = true → ∀ (j : Nat) (h : List ByteArray), j < k + 1 → gs[j]? = some h → someIn who h = true) := fun e j h' hj hj' => by
        by_cases ej : j = k
        · rw [ej, hg] at hj'; cases hj'; exact e
        · exact HN.out j h' (by omega) hj'
      clear hg
      go_wp2
      go_loop [7, 6] (fun i sv => ∃ q : Nat, q ≤ g.length ∧ i = .int .i64 q ∧ ∃ bb : Bool, sv = .bool bb ∧ Hid (bb = someIn who (g.take q))) (fun i _ => g.length - (intOf i).toNat)
      case atStart => exact ⟨0, Nat.zero_le _, rfl, false, rfl, rfl⟩
      case round =>
        obtain ⟨q, hq, rfl, bb, rfl, HB⟩ := hrel
        by_cases hql : q < g.length
        · obtain ⟨b3, o3, rfl, hb3, c3⟩ := s1.out.elem hql
          have hgq : g[q]? = some (g.getD q ByteArray.empty) := by rw [List.getD_eq_getElem?_getD, List.getElem?_eq_getElem hql]; rfl
          have HB2 := Lib.hid (someIn_at (who := who) hgq)
          clear hgq
          generalize g.getD q ByteArray.empty = t at *
          have hq0 : (0 : Int) ≤ (q : Int) := by omega
          have hq1 : (q : Int) < (g.length : Int) := by omega
          cases bb with
          | true =>
            go_wp2
            go_round
            case rel => exact ⟨q + 1, by omega, by go_num, true, rfl, by show _ = _; rw [HB2.out, ← HB.out]; rfl⟩
            case measure => simp [intOf]; omega
          | false =>
            go_wp2_with (go_at_call 34; refine (HH.out _).mono ?_; rintro e w1 ⟨rfl, rfl⟩)
            go_round
            case rel => exact ⟨q + 1, by omega, by go_num, _, rfl, by show _ = _; rw [HB2.out, ← HB.out]; rfl⟩
            case measure => simp [intOf]; omega
        · have e : someIn who g = bb := by rw [HB.out, List.take_of_length_le (by omega)]
          cases bb with
          | true =>
            have H := Lib.hid (HF.out e)
            go_wp2
            go_round
            case rel => exact ⟨k + 1, by omega, by go_num, H⟩
            case measure => simp [intOf]; omega
          | false =>
            have H := Lib.hid (HT.out e)
            go_wp2
            go_ret
            exact ⟨ret_bool (by rw [H.out]), rfl⟩
    · have H : Hid (enoughB gs who = true) := by
        show _ = _
        rw [enoughB, List.all_eq_true]
        intro h hh
        obtain ⟨i, hi, rfl⟩ := List.getElem_of_mem hh
        exact HN.out i _ (by omega) (List.getElem?_eq_getElem hi)
      go_wp2
      go_ret
      exact ⟨ret_bool (by rw [H.out]), rfl⟩
end Go.Proofs.YtidkpnabdfiilaaGreatDoor
