/- The reference of chapter 54: SameStrings at any two lists, HasGroup. owners.Enough: the map of people, the closure, slices.ContainsFunc over strings. owners.Enough. -/
import Derived.Test.YtidkpnabdfiilaaGreatDoorQ21
namespace Go.Proofs.YtidkpnabdfiilaaGreatDoor
open Go.RowKit Go.Shelf

def sameS (a b : List ByteArray) : Bool := a.map (·.data.toList) == b.map (·.data.toList)
theorem sameS_true {a b : List ByteArray} (hl : a.length = b.length) (h : ∀ i, i < a.length → (a.getD i ByteArray.empty).data.toList = (b.getD i ByteArray.empty).data.toList) : sameS a b = true := by
  rw [sameS, beq_iff_eq]
  refine List.ext_getElem (by simpa using hl) fun i h1 h2 => ?_
  have h1' : i < a.length := by simpa using h1
  have h2' : i < b.length := by simpa using h2
  have := h i h1'
  rw [List.getD_eq_getElem?_getD, List.getD_eq_getElem?_getD, List.getElem?_eq_getElem h1', List.getElem?_eq_getElem h2'] at this
  simpa using this
theorem sameS_len {a b : List ByteArray} (hl : a.length ≠ b.length) : sameS a b = false := by
  rw [sameS, beq_eq_false_iff_ne]
  intro e
  have := congrArg List.length e
  simp at this; exact hl this
theorem sameS_at {a b : List ByteArray} {i : Nat} (h1 : i < a.length) (h2 : i < b.length) (h : (a.getD i ByteArray.empty).data.toList ≠ (b.getD i ByteArray.empty).data.toList) : sameS a b = false := by
  rw [sameS, beq_eq_false_iff_ne]
  intro e
  apply h
  have := congrArg (fun l => l[i]?) e
  simp only [List.getElem?_map, List.getElem?_eq_getElem h1, List.getElem?_eq_getElem h2, Option.map_some, Option.some.injEq] at this
  rw [List.getD_eq_getElem?_getD, List.getD_eq_getElem?_getD, List.getElem?_eq_getElem h1, List.getElem?_eq_getElem h2]
  exact this
set_option maxHeartbeats 1000000 in
theorem rSameStrings_any (v1 v2 : Value) (ss ts : List ByteArray) (w : World) (h1 : Strs w v1 ss) (h2 : Strs w v2 ts) :
    Calls Tryz.prog 52 #[v1, v2] w fun e w' => e = .returned (.bool (sameS ss ts)) ∧ ∃ n, w' = w.drewN n := by
  obtain ⟨a1, cap1, rfl, l1, m1⟩ := h1.len
  obtain ⟨a2, cap2, rfl, l2, m2⟩ := h2.len
  have H1 := Lib.hid h1
  have H2 := Lib.hid h2
  clear h1 h2
  by_cases hl : ss.length = ts.length
  · have hne0 : ((ss.length : Int) == (ts.length : Int)) = true := by simp [hl]
    go_enter Tryz.func52, Tryz.ntmps52
    go_wp2
    go_loopw [5] (fun i wr => ∃ k : Nat, k ≤ ss.length ∧ i = .int .i64 k ∧ Hid (∃ n, wr = w.drewN n) ∧ Hid (∀ i, i < k → (ss.getD i ByteArray.empty).data.toList = (ts.getD i ByteArray.empty).data.toList)) (fun i _ => ss.length - (intOf i).toNat)
    case atStart => exact ⟨0, Nat.zero_le _, rfl, ⟨0, rfl⟩, fun i hi => by omega⟩
    case round =>
      obtain ⟨k, hk, rfl, HW, HK⟩ := hrel
      by_cases hlt : k < ss.length
      · have hs1 : Strs wr (.slice a1 ss.length cap1) ss := by obtain ⟨n, rfl⟩ := HW.out; exact H1.out.drewN n
        have hs2 : Strs wr (.slice a2 ts.length cap2) ts := by obtain ⟨n, rfl⟩ := HW.out; exact H2.out.drewN n
        obtain ⟨b1, o1, rfl, hb1, c1⟩ := hs1.elem hlt
        obtain ⟨b2, o2, rfl, hb2, c2⟩ := hs2.elem (i := k) (by omega)
        have HA : Hid ((ss.getD k ByteArray.empty).data.toList ≠ (ts.getD k ByteArray.empty).data.toList → sameS ss ts = false) := sameS_at hlt (by omega)
        have HB : Hid ((ss.getD k ByteArray.empty).data.toList = (ts.getD k ByteArray.empty).data.toList → ∀ i, i < k + 1 → (ss.getD i ByteArray.empty).data.toList = (ts.getD i ByteArray.empty).data.toList) := fun h i hi => by
          by_cases e : i = k
          · rw [e]; exact h
          · exact HK.out i (by omega)
        generalize ss.getD k ByteArray.empty = t at *
        generalize ts.getD k ByteArray.empty = u at *
        have hk1 : (k : Int) < (ts.length : Int) := by omega
        clear hs1 hs2
        cases he : (t.toList == u.toList) with
        | true =>
          have HK2 : Hid (∀ i, i < k + 1 → (ss.getD i ByteArray.empty).data.toList = (ts.getD i ByteArray.empty).data.toList) := HB.out (by rw [tl, tl] at he; simpa using he)
          go_wp2
          go_quiet (fail)
          go_wp2
          go_roundw
          case rel => exact ⟨k + 1, by omega, by go_num, by obtain ⟨n, rfl⟩ := HW.out; exact ⟨_, World.drewN_drewN _ _ _⟩, HK2⟩
          case measure => simp [intOf]; omega
        | false =>
          have HF : Hid (sameS ss ts = false) := HA.out (by rw [tl, tl] at he; simpa using he)
          go_wp2
          go_quiet (fail)
          go_wp2
          go_ret
          exact ⟨ret_bool (by rw [HF.out]), by obtain ⟨n, rfl⟩ := HW.out; exact ⟨_, World.drewN_drewN _ _ _⟩⟩
      · have HF : Hid (sameS ss ts = true) := sameS_true hl (fun i hi => HK.out i (by omega))
        go_wp2
        go_ret
        exact ⟨ret_bool (by rw [HF.out]), HW.out⟩
  · have hne0 : ((ss.length : Int) == (ts.length : Int)) = false := by simp; omega
    have HF : Hid (sameS ss ts = false) := sameS_len hl
    go_enter Tryz.func52, Tryz.ntmps52
    go_wp2
    go_ret
    exact ⟨ret_bool (by rw [HF.out]), 0, rfl⟩
def hasG (gs : List (List ByteArray)) (g : List ByteArray) : Bool := gs.any fun h => sameS h g
set_option maxHeartbeats 1000000 in
theorem rHasGroup_any (v gv : Value) (gs : List (List ByteArray)) (g : List ByteArray) (w : World) (hv : Reads w [] (groupsT gs) v) (hg : Strs w gv g) :
    Calls Tryz.prog 24 #[v, gv] w fun e w' => e = .returned (.bool (hasG gs g)) ∧ ∃ n, w' = w.drewN n := by
  obtain ⟨a, cap, rfl, l1, m1⟩ := groups_val hv
  obtain ⟨a2, cap2, rfl, l2, m2⟩ := hg.len
  have HV := Lib.hid hv
  have HG := Lib.hid hg
  clear hv hg
  go_enter Tryz.func24, Tryz.ntmps24
  go_wp2
  go_loopw [5] (fun i wr => ∃ k : Nat, k ≤ gs.length ∧ i = .int .i64 k ∧ Hid (∃ n, wr = w.drewN n) ∧ Hid (∀ (j : Nat) (h : List ByteArray), j < k → gs[j]? = some h → sameS h g = false)) (fun i _ => gs.length - (intOf i).toNat)
  case atStart => exact ⟨0, Nat.zero_le _, rfl, ⟨0, rfl⟩, fun j h hj => by omega⟩
  case round =>
    obtain ⟨k, hk, rfl, HW, HN⟩ := hrel
    by_cases hlt : k < gs.length
    · obtain ⟨h, hh⟩ : ∃ h, gs[k]? = some h := ⟨_, List.getElem?_eq_getElem hlt⟩
      have hs1 : Reads wr [] (groupsT gs) (.slice a gs.length cap) := by obtain ⟨n, rfl⟩ := HW.out; exact HV.out.drewN n
      have hs2 : Strs wr (.slice a2 g.length cap2) g := by obtain ⟨n, rfl⟩ := HW.out; exact HG.out.drewN n
      obtain ⟨b1, o1, ag1, cg1, rfl, hb1, c1, _, _, s1⟩ := groups_elem hs1 hh
      have hi0 : (0 : Int) ≤ (k : Int) := by omega
      have hi1 : (k : Int) < (gs.length : Int) := by omega
      have HS2 := Lib.hid hs2
      have HC := Lib.hid (rSameStrings_any _ _ h g wr s1.out hs2)
      have HT : Hid (sameS h g = true → hasG gs g = true) := fun e => by rw [hasG, List.any_eq_true]; exact ⟨h, List.mem_of_getElem? hh, e⟩
      have HF : Hid (sameS h g = false → ∀ (j : Nat) (h : List ByteArray), j < k + 1 → gs[j]? = some h → sameS h g = false) := fun e j h' hj hj' => by
        by_cases ej : j = k
        · rw [ej, hh] at hj'; cases hj'; exact e
        · exact HN.out j h' (by omega) hj'
      clear hs1 hs2 hh
      generalize sameS h g = b at *
      go_wp2_with (fail)
      refine HC.out.mono ?_
      rintro e w1 ⟨rfl, n1, rfl⟩
      have HW1 : Hid (∃ n, wr.drewN n1 = w.drewN n) := by obtain ⟨n, rfl⟩ := HW.out; exact ⟨_, World.drewN_drewN _ _ _⟩
      cases b with
      | true =>
        have H := Lib.hid (HT.out rfl)
        go_wp2
        go_ret
        exact ⟨ret_bool (by rw [H.out]), HW1.out⟩
      | false =>
        have H := Lib.hid (HF.out rfl)
        go_wp2
        go_roundw
        case rel => exact ⟨k + 1, by omega, by go_num, HW1, H⟩
        case measure => simp [intOf]; omega
    · have H : Hid (hasG gs g = false) := by
        show _ = _
        rw [hasG, List.any_eq_false]
        intro h hh
        obtain ⟨i, hi, rfl⟩ := List.getElem_of_mem hh
        rw [HN.out i _ (by omega) (List.getElem?_eq_getElem hi)]; simp
      go_wp2
      go_ret
      exact ⟨ret_bool (by rw [H.out]), HW.out⟩
/-! Enough. -/
def someIn (who g : List ByteArray) : Bool := g.any fun s => memS s who
def enoughB (gs : List (List ByteArray)) (who : List ByteArray) : Bool := gs.all (someIn who)
theorem someIn_at {who g : List ByteArray} {k : Nat} {s : ByteArray} (h : g[k]? = some s) : someIn who (g.take (k + 1)) = (someIn who (g.take k) || memS s who) := by
  rw [take_at h, someIn, someIn, List.any_append]; simp
set_option maxHeartbeats 1000000 in
theorem rEnough_any (v wv : Value) (gs : List (List ByteArray)) (who : List ByteArray) (w : World) (hv : Reads w [] (groupsT gs) v) (hg : Strs w wv who) (hn : who.length ≤ 40000) :
    Calls Tryz.prog 20 #[v, wv] w fun e w' => e = .returned (.bool (enoughB gs who)) ∧ w = w' := by
  obtain ⟨a, cap, rfl, l1, m1⟩ := groups_val hv
  obtain ⟨a2, cap2, rfl, l2, m2⟩ := hg.len
  have HV := Lib.hid hv
  have HH := Lib.hid (fun s => rHas_any _ s who w hg hn)
  clear hv hg
  go_enter Tryz.func20, Tryz.ntmps20
  go_wp2
  go_loop [5] (fun i => ∃ k : Nat, k ≤ gs.length ∧ i = .int .i64 k ∧ Hid (∀ (j : Nat) (h : List ByteArray), j < k → gs[j]? = some h → someIn who h = true)) (fun i => gs.length - (intOf i).toNat)
  case atStart => exact ⟨0, Nat.zero_le _, rfl, fun j h hj => by omega⟩
  case round =>
    obtain ⟨k, hk, rfl, HN⟩ := hrel
    by_cases hlt : k < gs.length
    · obtain ⟨g, hg⟩ : ∃ h, gs[k]? = some h := ⟨_, List.getElem?_eq_getElem hlt⟩
      obtain ⟨b1, o1, ag1, cg1, rfl, hb1, c1, q1, q2, s1⟩ := groups_elem HV.out hg
      have hi0 : (0 : Int) ≤ (k : Int) := by omega
      have hi1 : (k : Int) < (gs.length : Int) := by omega
      have HT : Hid (someIn who g = false → enoughB gs who = false) := fun e => by
        rw [enoughB, List.all_eq_false]; exact ⟨g, List.mem_of_getElem? hg, by rw [e]; simp⟩
      have HF : Hid (someIn who g = true → ∀ (j : Nat) (h : List ByteArray), j < k + 1 → gs[j]? = some h → someIn who h = true) := fun e j h' hj hj' => by
        by_cases ej : j = k
        · rw [ej, hg] at hj'; cases hj'; exact e
        · exact HN.out j h' (by omega) hj'
      clear hg
      go_wp2
      go_loop [7, 6] (fun i sv => ∃ q : Nat, q ≤ g.length ∧ i = .int .i64 q ∧ ∃ bb : Bool, sv = .bool bb ∧ Hid (bb = someIn who (g.take q))) (fun i _ => g.length - (intOf i).toNat)
      case atStart => exact ⟨0, Nat.zero_le _, rfl, false, rfl, rfl⟩
      case round =>
        obtain ⟨q, hq, rfl, bb, rfl, HB⟩ := hrel
        by_cases hql : q < g.length
        · obtain ⟨b3, o3, rfl, hb3, c3⟩ := s1.out.elem hql
          have hgq : g[q]? = some (g.getD q ByteArray.empty) := by rw [List.getD_eq_getElem?_getD, List.getElem?_eq_getElem hql]; rfl
          have HB2 := Lib.hid (someIn_at (who := who) hgq)
          clear hgq
          generalize g.getD q ByteArray.empty = t at *
          have hq0 : (0 : Int) ≤ (q : Int) := by omega
          have hq1 : (q : Int) < (g.length : Int) := by omega
          cases bb with
          | true =>
            go_wp2
            go_round
            case rel => exact ⟨q + 1, by omega, by go_num, true, rfl, by show _ = _; rw [HB2.out, ← HB.out]; rfl⟩
            case measure => simp [intOf]; omega
          | false =>
            go_wp2_with (go_at_call 34; refine (HH.out _).mono ?_; rintro e w1 ⟨rfl, rfl⟩)
            go_round
            case rel => exact ⟨q + 1, by omega, by go_num, _, rfl, by show _ = _; rw [HB2.out, ← HB.out]; rfl⟩
            case measure => simp [intOf]; omega
        · have e : someIn who g = bb := by rw [HB.out, List.take_of_length_le (by omega)]
          cases bb with
          | true =>
            have H := Lib.hid (HF.out e)
            go_wp2
            go_round
            case rel => exact ⟨k + 1, by omega, by go_num, H⟩
            case measure => simp [intOf]; omega
          | false =>
            have H := Lib.hid (HT.out e)
            go_wp2
            go_ret
            exact ⟨ret_bool (by rw [H.out]), rfl⟩
    · have H : Hid (enoughB gs who = true) := by
        show _ = _
        rw [enoughB, List.all_eq_true]
        intro h hh
        obtain ⟨i, hi, rfl⟩ := List.getElem_of_mem hh
        exact HN.out i _ (by omega) (List.getElem?_eq_getElem hi)
      go_wp2
      go_ret
      exact ⟨ret_bool (by rw [H.out]), rfl⟩
end Go.Proofs.YtidkpnabdfiilaaGreatDoor

namespace Go.Proofs.YtidkpnabdfiilaaGreatDoor
open Go.RowKit Go.Shelf

def peopleF (ws : List ByteArray) (x : List UInt8) : Option Value := if (ws.any fun g => x == g.data.toList) = true then some (.bool true) else none
theorem peopleF_get (ws : List ByteArray) (s : ByteArray) : (peopleF ws s.data.toList).getD (.bool false) = .bool (memS s ws) := by
  unfold peopleF memS
  cases ws.any fun g => s.data.toList == g.data.toList <;> rfl
theorem Enough1_any (s : ByteArray) (hs : s.size ≤ 40000) (who : List ByteArray) (c b n : Nat) (w : World) (hc : w.cell? ⟨c, 0, none⟩ = some (.map (some b))) (hm : IsMapS Tryz.prog 9 w b n (peopleF who)) :
    Calls Tryz.prog 54 #[.string s, .pointer (some ⟨c, 0, none⟩)] w fun e w' => e = .returned (.bool (memS s who)) ∧ w = w' := by
  have hlook := hm.look strKeyed Tryz.underlying82 (Tryz.zeroValue4 w) (key_str s hs)
  rw [peopleF_get] at hlook
  clear hm
  go_enter Tryz.func54, Tryz.ntmps54
  go_wp2
  go_ret
  exact ⟨rfl, rfl⟩
theorem someIn_none {who g : List ByteArray} (h : ∀ i, i < g.length → memS (g.getD i ByteArray.empty) who = false) : someIn who g = false := by
  rw [someIn, List.any_eq_false]
  intro s hs
  obtain ⟨i, hi, rfl⟩ := List.getElem_of_mem hs
  have := h i hi
  rw [List.getD_eq_getElem?_getD, List.getElem?_eq_getElem hi] at this
  have e : memS g[i] who = false := this
  rw [e]; simp
theorem someIn_yes {who g : List ByteArray} {k : Nat} (hk : k < g.length) (h : memS (g.getD k ByteArray.empty) who = true) : someIn who g = true := by
  rw [someIn, List.any_eq_true]
  refine ⟨g[k], List.getElem_mem hk, ?_⟩
  rw [List.getD_eq_getElem?_getD, List.getElem?_eq_getElem hk] at h
  exact h
set_option maxHeartbeats 1000000 in
theorem IndexFuncS_any (v : Value) (g who : List ByteArray) (c b n : Nat) (w : World) (hv : Strs w v g) (hz : ∀ s ∈ g, s.size ≤ 40000) (hc : w.cell? ⟨c, 0, none⟩ = some (.map (some b))) (hm : IsMapS Tryz.prog 9 w b n (peopleF who)) :
    Calls Tryz.prog 89 #[v, .func (.func 54) #[] #[.pointer (some ⟨c, 0, none⟩)]] w fun e w' => ∃ r : Int, e = .returned (.int .i64 r) ∧ decide (0 ≤ r) = someIn who g ∧ w = w' := by
  obtain ⟨a, cap, rfl, hc1, hc2⟩ := hv.len
  have HV := Lib.hid hv
  have HZ := Lib.hid hz
  have HC := Lib.hid (fun s hs => Enough1_any s hs who c b n w hc hm)
  clear hv hz hc hm
  go_enter Tryz.func89, Tryz.ntmps89
  go_wp2
  go_loop [8] (fun i => ∃ k : Nat, k ≤ g.length ∧ i = .int .i64 k ∧ Hid (∀ j, j < k → memS (g.getD j ByteArray.empty) who = false)) (fun i => g.length - (intOf i).toNat)
  case atStart => exact ⟨0, Nat.zero_le _, rfl, fun j hj => by omega⟩
  case round =>
    obtain ⟨k, hk, rfl, HK⟩ := hrel
    by_cases hlt : k < g.length
    · obtain ⟨b1, o1, rfl, hb1, c1⟩ := HV.out.elem hlt
      have hts := HZ.out (g.getD k ByteArray.empty) (by rw [List.getD_eq_getElem?_getD, List.getElem?_eq_getElem hlt]; exact List.getElem_mem hlt)
      have HY : Hid (memS (g.getD k ByteArray.empty) who = true → someIn who g = true) := someIn_yes hlt
      have HN : Hid (memS (g.getD k ByteArray.empty) who = false → ∀ j, j < k + 1 → memS (g.getD j ByteArray.empty) who = false) := fun h j hj => by
        by_cases e : j = k
        · rw [e]; exact h
        · exact HK.out j (by omega)
      generalize g.getD k ByteArray.empty = t at *
      have hi0 : (0 : Int) ≤ (k : Int) := by omega
      have hi1 : (k : Int) < (g.length : Int) := by omega
      have HCT := Lib.hid (HC.out t hts)
      cases hmm : memS t who with
      | true =>
        have H := Lib.hid (HY.out hmm)
        rw [hmm] at HCT
        go_wp2_with (go_at_call 54; refine HCT.out.mono ?_; rintro e w' ⟨rfl, rfl⟩)
        go_ret
        exact ⟨k, rfl, by rw [H.out]; simp, rfl⟩
      | false =>
        have H := Lib.hid (HN.out hmm)
        rw [hmm] at HCT
        go_wp2_with (go_at_call 54; refine HCT.out.mono ?_; rintro e w' ⟨rfl, rfl⟩)
        go_round
        case rel => exact ⟨k + 1, by omega, by go_num, H⟩
        case measure => simp [intOf]; omega
    · have H : Hid (someIn who g = false) := someIn_none (fun i hi => HK.out i (by omega))
      go_wp2
      go_ret
      exact ⟨-1, rfl, by rw [H.out]; rfl, rfl⟩
theorem ContainsFuncS_any (v : Value) (g who : List ByteArray) (c b n : Nat) (w : World) (hv : Strs w v g) (hz : ∀ s ∈ g, s.size ≤ 40000) (hc : w.cell? ⟨c, 0, none⟩ = some (.map (some b))) (hm : IsMapS Tryz.prog 9 w b n (peopleF who)) :
    Calls Tryz.prog 53 #[v, .func (.func 54) #[] #[.pointer (some ⟨c, 0, none⟩)]] w fun e w' => e = .returned (.bool (someIn who g)) ∧ w = w' := by
  have HI := Lib.hid (IndexFuncS_any v g who c b n w hv hz hc hm)
  obtain ⟨a, cap, rfl, hc1, hc2⟩ := hv.len
  clear hv hz hc hm
  go_enter Tryz.func53, Tryz.ntmps53
  go_wp2_with (go_at_call 89; refine HI.out.mono ?_; rintro e w' ⟨r, rfl, hr, rfl⟩)
  go_ret
  exact ⟨rfl, rfl⟩
end Go.Proofs.YtidkpnabdfiilaaGreatDoor

namespace Go.Proofs.YtidkpnabdfiilaaGreatDoor
open Go.RowKit Go.Shelf
attribute [local go_sem] run_mkMap

theorem peopleF_snoc (ws : List ByteArray) (s : ByteArray) : (fun x => if x = s.data.toList then some (Value.bool true) else peopleF ws x) = peopleF (ws ++ [s]) := by
  funext x
  unfold peopleF
  rw [List.any_append]
  by_cases e : x = s.data.toList
  · simp [e]
  · simp [e]
set_option maxRecDepth 100000 in
set_option maxHeartbeats 1000000 in
theorem Enough_any (v wv : Value) (gs : List (List ByteArray)) (who : List ByteArray) (w : World) (hv : Reads w [] (groupsT gs) v) (hg : Strs w wv who) (hn : who.length ≤ 40000) (hz : ∀ s ∈ who, s.size ≤ 40000) (hzg : ∀ g ∈ gs, ∀ s ∈ g, s.size ≤ 40000) :
    Calls Tryz.prog 19 #[v, wv] w fun e w' => e = .returned (.bool (enoughB gs who)) ∧ Below w.heap.size w w' := by
  obtain ⟨a, cap, rfl, l1, m1⟩ := groups_val hv
  obtain ⟨a2, cap2, rfl, l2, m2⟩ := hg.len
  have HV := Lib.hid hv
  have HW := Lib.hid hg
  have HZ := Lib.hid hz
  have HZG := Lib.hid hzg
  clear hv hg hz hzg
  go_enter Tryz.func19, Tryz.ntmps19
  go_wp2
  generalize hW0 : (w.alloc (.map #[] 0)).alloc (.cells #[.map (some w.heap.size)] 82) = W0
  have hb0 : Below w.heap.size w W0 := by rw [← hW0]; exact qtrans (qalloc _ _) (qalloc _ _)
  have HM0 : Hid (IsMapS Tryz.prog 9 W0 w.heap.size 0 (peopleF [])) := by
    rw [← hW0]; exact (IsMapS.made _ _ _).below (qalloc _ _)
  have HC0 : Hid (CBox W0 (w.heap.size + 1) 82 #[.map (some w.heap.size)]) := by
    refine Lib.hid ?_; rw [← hW0]; have := CBox.new (w.alloc (.map #[] 0)) 82 #[.map (some w.heap.size)]; simpa using this
  clear hW0
  go_loopw [13] (fun i wr => ∃ k : Nat, k ≤ who.length ∧ i = .int .i64 k ∧ Below w.heap.size w wr ∧ Hid (CBox wr (w.heap.size + 1) 82 #[.map (some w.heap.size)]) ∧ Hid (IsMapS Tryz.prog 9 wr w.heap.size k (peopleF (who.take k)))) (fun i _ => who.length - (intOf i).toNat)
  case atStart => exact ⟨0, Nat.zero_le _, rfl, hb0, HC0, HM0⟩
  case round =>
    obtain ⟨k, hk, rfl, hb, HC, HM⟩ := hrel
    have hc0 := HC.out.cell (i := 0) rfl
    have hcl := HC.out.lt
    by_cases hlt : k < who.length
    · obtain ⟨b1, o1, rfl, hb1, c1⟩ := (HW.out.below hb).elem hlt
      have hgk : who[k]? = some (who.getD k ByteArray.empty) := by rw [List.getD_eq_getElem?_getD, List.getElem?_eq_getElem hlt]; rfl
      have hts := HZ.out _ (List.mem_of_getElem? hgk)
      have HTK := Lib.hid (take_at hgk)
      clear hgk
      generalize who.getD k ByteArray.empty = t at *
      have hi0 : (0 : Int) ≤ (k : Int) := by omega
      have hi1 : (k : Int) < (who.length : Int) := by omega
      obtain ⟨w5, hput, hm5, hg5⟩ := HM.out.put strKeyed Tryz.underlying82 (by unfold maxLen; omega) (key_str t hts) (.bool true)
      rw [peopleF_snoc, ← HTK.out] at hm5
      have HM5 := Lib.hid hm5
      have hb5 : Below w.heap.size w w5 := hb.grown hg5 hb.size (fun k e => by cases e; exact Nat.le_refl _)
      have HC5 := Lib.hid (HC.out.own hg5 HM.out.noCells)
      clear hm5 hg5
      go_wp2
      go_roundw
      case rel => exact ⟨k + 1, by omega, by go_num, hb5, HC5, HM5⟩
      case measure => simp [intOf]; omega
    · have hkl : k = who.length := by omega
      rw [hkl, List.take_length] at HM
      clear hkl
      generalize wr = wo at *
      have HVo := Lib.hid (HV.out.below hb)
      go_wp2
      go_loop [22] (fun i => ∃ q : Nat, q ≤ gs.length ∧ i = .int .i64 q ∧ Hid (∀ (j : Nat) (h : List ByteArray), j < q → gs[j]? = some h → someIn who h = true)) (fun i => gs.length - (intOf i).toNat)
      case atStart => exact ⟨0, Nat.zero_le _, rfl, fun j h hj => by omega⟩
      case round =>
        obtain ⟨q, hq, rfl, HN⟩ := hrel
        by_cases hql : q < gs.length
        · obtain ⟨g, hg⟩ : ∃ h, gs[q]? = some h := ⟨_, List.getElem?_eq_getElem hql⟩
          obtain ⟨b1, o1, ag1, cg1, rfl, hb1, c1, q1, q2, s1⟩ := groups_elem HVo.out hg
          have hi0 : (0 : Int) ≤ (q : Int) := by omega
          have hi1 : (q : Int) < (gs.length : Int) := by omega
          have HCF := Lib.hid (ContainsFuncS_any _ g who (w.heap.size + 1) w.heap.size _ wo s1.out (HZG.out g (List.mem_of_getElem? hg)) hc0 HM.out)
          have HT : Hid (someIn who g = false → enoughB gs who = false) := fun e => by
            rw [enoughB, List.all_eq_false]; exact ⟨g, List.mem_of_getElem? hg, by rw [e]; simp⟩
          have HF : Hid (someIn who g = true → ∀ (j : Nat) (h : List ByteArray), j < q + 1 → gs[j]? = some h → someIn who h = true) := fun e j h' hj hj' => by
            by_cases ej : j = q
            · rw [ej, hg] at hj'; cases hj'; exact e
            · exact HN.out j h' (by omega) hj'
          clear hg
          cases hs : someIn who g with
          | false =>
            have H := Lib.hid (HT.out hs)
            rw [hs] at HCF
            go_wp2_with (go_at_call 53; refine HCF.out.mono ?_; rintro e w' ⟨rfl, rfl⟩)
            go_ret
            exact ⟨ret_bool (by rw [H.out]), hb⟩
          | true =>
            have H := Lib.hid (HF.out hs)
            rw [hs] at HCF
            go_wp2_with (go_at_call 53; refine HCF.out.mono ?_; rintro e w' ⟨rfl, rfl⟩)
            go_round
            case rel => exact ⟨q + 1, by omega, by go_num, H⟩
            case measure => simp [intOf]; omega
        · have H : Hid (enoughB gs who = true) := by
            show _ = _
            rw [enoughB, List.all_eq_true]
            intro h hh
            obtain ⟨i, hi, rfl⟩ := List.getElem_of_mem hh
            exact HN.out i _ (by omega) (List.getElem?_eq_getElem hi)
          go_wp2
          go_ret
          exact ⟨ret_bool (by rw [H.out]), hb⟩
end Go.Proofs.YtidkpnabdfiilaaGreatDoor
