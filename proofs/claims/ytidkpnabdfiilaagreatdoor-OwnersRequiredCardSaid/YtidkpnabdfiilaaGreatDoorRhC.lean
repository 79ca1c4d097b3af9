/- owners.Enough. -/
import Derived.Test.YtidkpnabdfiilaaGreatDoorRhB
namespace Go.Proofs.YtidkpnabdfiilaaGreatDoor
open Go.RowKit Go.Shelf
attribute [local go_sem] run_mkMap

theorem peopleF_snoc (ws : List ByteArray) (s : ByteArray) : (fun x => if x = s.data.toList then some (Value.bool true) else peopleF ws x) = peopleF (ws ++ [s]) := by
  funext x
  unfold peopleF
  rw [List.any_append]
  by_cases e : x = s.data.toList
  · simp [e]
  · simp [e]
set_option maxRecDepth 100000 in
set_option maxHeartbeats 1000000 in
theorem Enough_any (v wv : Value) (gs : List (List ByteArray)) (who : List ByteArray) (w : World) (hv : Reads w [] (groupsT gs) v) (hg : Strs w wv who) (hn : who.length ≤ 40000) (hz : ∀ s ∈ who, s.size ≤ 40000) (hzg : ∀ g ∈ gs, ∀ s ∈ g, s.size ≤ 40000) :
    Calls Tryz.prog 19 #[v, wv] w fun e w' => e = .returned (.bool (enoughB gs who)) ∧ Below w.heap.size w w' := by
  obtain ⟨a, cap, rfl, l1, m1⟩ := groups_val hv
  obtain ⟨a2, cap2, rfl, l2, m2⟩ := hg.len
  have HV := Lib.hid hv
  have HW := Lib.hid hg
  have HZ := Lib.hid hz
  have HZG := Lib.hid hzg
  clear hv hg hz hzg
  go_enter Tryz.func19, Tryz.ntmps19
  go_wp2
  generalize hW0 : (w.alloc (.map #[] 0)).alloc (.cells #[.map (some w.heap.size)] 82) = W0
  have hb0 : Below w.heap.size w W0 := by rw [← hW0]; exact qtrans (qalloc _ _) (qalloc _ _)
  have HM0 : Hid (IsMapS Tryz.prog 9 W0 w.heap.size 0 (peopleF [])) := by
    rw [← hW0]; exact (IsMapS.made _ _ _).below (qalloc _ _)
  have HC0 : Hid (CBox W0 (w.heap.size + 1) 82 #[.map (some w.heap.size)]) := by
    refine Lib.hid ?_; rw [← hW0]; have := CBox.new (w.alloc (.map #[] 0)) 82 #[.map (some w.heap.size)]; simpa using this
  clear hW0
  go_loopw [13] (fun i wr => ∃ k : Nat, k ≤ who.length ∧ i = .int .i64 k ∧ Below w.heap.size w wr ∧ Hid (CBox wr (w.heap.size + 1) 82 #[.map (some w.heap.size)]) ∧ Hid (IsMapS Tryz.prog 9 wr w.heap.size k (peopleF (who.take k)))) (fun i _ => who.length - (intOf i).toNat)
  case atStart => exact ⟨0, Nat.zero_le _, rfl, hb0, HC0, HM0⟩
  case round =>
    obtain ⟨k, hk, rfl, hb, HC, HM⟩ := hrel
    have hc0 := HC.out.cell (i := 0) rfl
    have hcl := HC.out.lt
    by_cases hlt : k < who.length
    · obtain ⟨b1, o1, rfl, hb1, c1⟩ := (HW.out.below hb).elem hlt
      have hgk : who[k]? = some (who.getD k ByteArray.empty) := by rw [List.getD_eq_getElem?_getD, List.getElem?_eq_getElem hlt]; rfl
      have hts := HZ.out _ (List.mem_of_getElem? hgk)
      have HTK := Lib.hid (take_at hgk)
      clear hgk
      generalize who.getD k ByteArray.empty = t at *
      have hi0 : (0 : Int) ≤ (k : Int) := by omega
      have hi1 : (k : Int) < (who.length : Int) := by omega
      obtain ⟨w5, hput, hm5, hg5⟩ := HM.out.put strKeyed Tryz.underlying82 (by unfold maxLen; omega) (key_str t hts) (.bool true)
      rw [peopleF_snoc, ← HTK.out] at hm5
      have HM5 := Lib.hid hm5
      have hb5 : Below w.heap.size w w5 := hb.grown hg5 hb.size (fun k e => by cases e; exact Nat.le_refl _)
      have HC5 := Lib.hid (HC.out.own hg5 HM.out.noCells)
      clear hm5 hg5
      go_wp2
      go_roundw
      case rel => exact ⟨k + 1, by omega, by go_num, hb5, HC5, HM5⟩
      case measure => simp [intOf]; omega
    · have hkl : k = who.length := by omega
      rw [hkl, List.take_length] at HM
      clear hkl
      generalize wr = wo at *
      have HVo := Lib.hid (HV.out.below hb)
      go_wp2
      go_loop [22] (fun i => ∃ q : Nat, q ≤ gs.length ∧ i = .int .i64 q ∧ Hid (∀ (j : Nat) (h : List ByteArray), j < q → gs[j]? = some h → someIn who h = true)) (fun i => gs.length - (intOf i).toNat)
      case atStart => exact ⟨0, Nat.zero_le _, rfl, fun j h hj => by omega⟩
      case round =>
        obtain ⟨q, hq, rfl, HN⟩ := hrel
        by_cases hql : q < gs.length
        · obtain ⟨g, hg⟩ : ∃ h, gs[q]? = some h := ⟨_, List.getElem?_eq_getElem hql⟩
          obtain ⟨b1, o1, ag1, cg1, rfl, hb1, c1, q1, q2, s1⟩ := groups_elem HVo.out hg
          have hi0 : (0 : Int) ≤ (q : Int) := by omega
          have hi1 : (q : Int) < (gs.length : Int) := by omega
          have HCF := Lib.hid (ContainsFuncS_any _ g who (w.heap.size + 1) w.heap.size _ wo s1.out (HZG.out g (List.mem_of_getElem? hg)) hc0 HM.out)
          have HT : Hid (someIn who g = false → enoughB gs who = false) := fun e => by
            rw [enoughB, List.all_eq_false]; exact ⟨g, List.mem_of_getElem? hg, by rw [e]; simp⟩
          have HF : Hid (someIn who g = true → ∀ (j : Nat) (h : List ByteArray), j < q + 1 → gs[j]? = some h → someIn who h = true) := fun e j h' hj hj' => by
            by_cases ej : j = q
            · rw [ej, hg] at hj'; cases hj'; exact e
            · exact HN.out j h' (by omega) hj'
          clear hg
          cases hs : someIn who g with
          | false =>
            have H := Lib.hid (HT.out hs)
            rw [hs] at HCF
            go_wp2_with (go_at_call 53; refine HCF.out.mono ?_; rintro e w' ⟨rfl, rfl⟩)
            go_ret
            exact ⟨ret_bool (by rw [H.out]), hb⟩
          | true =>
            have H := Lib.hid (HF.out hs)
            rw [hs] at HCF
            go_wp2_with (go_at_call 53; refine HCF.out.mono ?_; rintro e w' ⟨rfl, rfl⟩)
            go_round
            case rel => exact ⟨q + 1, by omega, by go_num, H⟩
            case measure => simp [intOf]; omega
        · have H : Hid (enoughB gs who = true) := by
            show _ = _
            rw [enoughB, List.all_eq_true]
            intro h hh
            obtain ⟨i, hi, rfl⟩ := List.getElem_of_mem hh
            exact HN.out i _ (by omega) (List.getElem?_eq_getElem hi)
          go_wp2
          go_ret
          exact ⟨ret_bool (by rw [H.out]), hb⟩
end Go.Proofs.YtidkpnabdfiilaaGreatDoor
