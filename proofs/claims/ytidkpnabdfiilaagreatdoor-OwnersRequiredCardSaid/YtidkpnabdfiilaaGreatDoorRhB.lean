/- owners.Enough: the map of people, the closure, slices.ContainsFunc over strings. -/
import Derived.Test.YtidkpnabdfiilaaGreatDoorRhA
namespace Go.Proofs.YtidkpnabdfiilaaGreatDoor
open Go.RowKit Go.Shelf

def peopleF (ws : List ByteArray) (x : List UInt8) : Option Value := if (ws.any fun g => x == g.data.toList) = true then some (.bool true) else none
theorem peopleF_get (ws : List ByteArray) (s : ByteArray) : (peopleF ws s.data.toList).getD (.bool false) = .bool (memS s ws) := by
  unfold peopleF memS
  cases ws.any fun g => s.data.toList == g.data.toList <;> rfl
theorem Enough1_any (s : ByteArray) (hs : s.size ≤ 40000) (who : List ByteArray) (c b n : Nat) (w : World) (hc : w.cell? ⟨c, 0, none⟩ = some (.map (some b))) (hm : IsMapS Tryz.prog 9 w b n (peopleF who)) :
    Calls Tryz.prog 54 #[.string s, .pointer (some ⟨c, 0, none⟩)] w fun e w' => e = .returned (.bool (memS s who)) ∧ w = w' := by
  have hlook := hm.look strKeyed Tryz.underlying82 (Tryz.zeroValue4 w) (key_str s hs)
  rw [peopleF_get] at hlook
  clear hm
  go_enter Tryz.func54, Tryz.ntmps54
  go_wp2
  go_ret
  exact ⟨rfl, rfl⟩
theorem someIn_none {who g : List ByteArray} (h : ∀ i, i < g.length → memS (g.getD i ByteArray.empty) who = false) : someIn who g = false := by
  rw [someIn, List.any_eq_false]
  intro s hs
  obtain ⟨i, hi, rfl⟩ := List.getElem_of_mem hs
  have := h i hi
  rw [List.getD_eq_getElem?_getD, List.getElem?_eq_getElem hi] at this
  have e : memS g[i] who = false := this
  rw [e]; simp
theorem someIn_yes {who g : List ByteArray} {k : Nat} (hk : k < g.length) (h : memS (g.getD k ByteArray.empty) who = true) : someIn who g = true := by
  rw [someIn, List.any_eq_true]
  refine ⟨g[k], List.getElem_mem hk, ?_⟩
  rw [List.getD_eq_getElem?_getD, List.getElem?_eq_getElem hk] at h
  exact h
set_option maxHeartbeats 1000000 in
theorem IndexFuncS_any (v : Value) (g who : List ByteArray) (c b n : Nat) (w : World) (hv : Strs w v g) (hz : ∀ s ∈ g, s.size ≤ 40000) (hc : w.cell? ⟨c, 0, none⟩ = some (.map (some b))) (hm : IsMapS Tryz.prog 9 w b n (peopleF who)) :
    Calls Tryz.prog 89 #[v, .func (.func 54) #[] #[.pointer (some ⟨c, 0, none⟩)]] w fun e w' => ∃ r : Int, e = .returned (.int .i64 r) ∧ decide (0 ≤ r) = someIn who g ∧ w = w' := by
  obtain ⟨a, cap, rfl, hc1, hc2⟩ := hv.len
  have HV := Lib.hid hv
  have HZ := Lib.hid hz
  have HC := Lib.hid (fun s hs => Enough1_any s hs who c b n w hc hm)
  clear hv hz hc hm
  go_enter Tryz.func89, Tryz.ntmps89
  go_wp2
  go_loop [8] (fun i => ∃ k : Nat, k ≤ g.length ∧ i = .int .i64 k ∧ Hid (∀ j, j < k → memS (g.getD j ByteArray.empty) who = false)) (fun i => g.length - (intOf i).toNat)
  case atStart => exact ⟨0, Nat.zero_le _, rfl, fun j hj => by omega⟩
  case round =>
    obtain ⟨k, hk, rfl, HK⟩ := hrel
    by_cases hlt : k < g.length
    · obtain ⟨b1, o1, rfl, hb1, c1⟩ := HV.out.elem hlt
      have hts := HZ.out (g.getD k ByteArray.empty) (by rw [List.getD_eq_getElem?_getD, List.getElem?_eq_getElem hlt]; exact List.getElem_mem hlt)
      have HY : Hid (memS (g.getD k ByteArray.empty) who = true → someIn who g = true) := someIn_yes hlt
      have HN : Hid (memS (g.getD k ByteArray.empty) who = false → ∀ j, j < k + 1 → memS (g.getD j ByteArray.empty) who = false) := fun h j hj => by
        by_cases e : j = k
        · rw [e]; exact h
        · exact HK.out j (by omega)
      generalize g.getD k ByteArray.empty = t at *
      have hi0 : (0 : Int) ≤ (k : Int) := by omega
      have hi1 : (k : Int) < (g.length : Int) := by omega
      have HCT := Lib.hid (HC.out t hts)
      cases hmm : memS t who with
      | true =>
        have H := Lib.hid (HY.out hmm)
        rw [hmm] at HCT
        go_wp2_with (go_at_call 54; refine HCT.out.mono ?_; rintro e w' ⟨rfl, rfl⟩)
        go_ret
        exact ⟨k, rfl, by rw [H.out]; simp, rfl⟩
      | false =>
        have H := Lib.hid (HN.out hmm)
        rw [hmm] at HCT
        go_wp2_with (go_at_call 54; refine HCT.out.mono ?_; rintro e w' ⟨rfl, rfl⟩)
        go_round
        case rel => exact ⟨k + 1, by omega, by go_num, H⟩
        case measure => simp [intOf]; omega
    · have H : Hid (someIn who g = false) := someIn_none (fun i hi => HK.out i (by omega))
      go_wp2
      go_ret
      exact ⟨-1, rfl, by rw [H.out]; rfl, rfl⟩
theorem ContainsFuncS_any (v : Value) (g who : List ByteArray) (c b n : Nat) (w : World) (hv : Strs w v g) (hz : ∀ s ∈ g, s.size ≤ 40000) (hc : w.cell? ⟨c, 0, none⟩ = some (.map (some b))) (hm : IsMapS Tryz.prog 9 w b n (peopleF who)) :
    Calls Tryz.prog 53 #[v, .func (.func 54) #[] #[.pointer (some ⟨c, 0, none⟩)]] w fun e w' => e = .returned (.bool (someIn who g)) ∧ w = w' := by
  have HI := Lib.hid (IndexFuncS_any v g who c b n w hv hz hc hm)
  obtain ⟨a, cap, rfl, hc1, hc2⟩ := hv.len
  clear hv hz hc hm
  go_enter Tryz.func53, Tryz.ntmps53
  go_wp2_with (go_at_call 89; refine HI.out.mono ?_; rintro e w' ⟨r, rfl, hr, rfl⟩)
  go_ret
  exact ⟨rfl, rfl⟩
end Go.Proofs.YtidkpnabdfiilaaGreatDoor
