/- slices.Index, slices.Contains over strings, and the reference's Has. -/
import Derived.Test.YtgcmekpfhagnbaaDoorMem
namespace Go.Proofs.YtgcmekpfhagnbaaDoor
open Go.RowKit

def memS (s : ByteArray) (ss : List ByteArray) : Bool := ss.any fun t => s.data.toList == t.data.toList
def IdxPost (s : ByteArray) (ss : List ByteArray) (w : World) (e : Ending) (w' : World) : Prop := ∃ r : Int, e = .returned (.int .i64 r) ∧ decide (0 ≤ r) = memS s ss ∧ w = w'
theorem memS_at {s : ByteArray} {ss : List ByteArray} {k : Nat} (hk : k < ss.length) (h : (s.toList == (ss.getD k ByteArray.empty).toList) = true) : memS s ss = true := by
  rw [memS, List.any_eq_true]
  refine ⟨ss[k], List.getElem_mem hk, ?_⟩
  rw [List.getD_eq_getElem?_getD, List.getElem?_eq_getElem hk, tl, tl] at h
  exact h
theorem memS_none {s : ByteArray} {ss : List ByteArray} (h : ∀ k, k < ss.length → (s.toList == (ss.getD k ByteArray.empty).toList) = false) : memS s ss = false := by
  rw [memS, List.any_eq_false]
  intro t ht
  obtain ⟨k, hk, rfl⟩ := List.getElem_of_mem ht
  have := h k hk
  rw [List.getD_eq_getElem?_getD, List.getElem?_eq_getElem hk, tl, tl] at this
  rw [Bool.not_eq_true]
  exact this

theorem SIndex_any (v : Value) (s : ByteArray) (ss : List ByteArray) (w : World) (hv : Strs w v ss) (hn : ss.length ≤ 40000) :
    Calls Tryd.prog 98 #[v, .string s] w (IdxPost s ss w) := by
  obtain ⟨a, cap, rfl, h1, h2, h3⟩ := hv.shape
  have HV := Lib.hid h3
  clear h3 hv
  go_enter Tryd.func98, Tryd.ntmps98
  go_wp2
  go_loop [8] (fun i => ∃ k : Nat, k ≤ ss.length ∧ i = .int .i64 k ∧ Hid (∀ j, j < k → (s.toList == (ss.getD j ByteArray.empty).toList) = false)) (fun i => ss.length - (intOf i).toNat)
  case atStart => exact ⟨0, Nat.zero_le _, rfl, fun j hj => by omega⟩
  case round =>
    obtain ⟨k, hk, rfl, HK⟩ := hrel
    by_cases hlt : k < ss.length
    · obtain ⟨b, o, rfl, hb, hc⟩ := HV.out k hlt
      have hcell := hc k hlt
      clear hc
      generalize ht : ss.getD k ByteArray.empty = t at *
      have HT := Lib.hid ht
      clear ht
      cases he : (s.toList == t.toList) with
      | true =>
        have HM : Hid (memS s ss = true) := memS_at hlt (by rw [HT.out, he])
        go_wp2
        go_ret
        exact ⟨k, rfl, by rw [HM.out]; simp, rfl⟩
      | false =>
        have HN : Hid (∀ j, j < k + 1 → (s.toList == (ss.getD j ByteArray.empty).toList) = false) := fun j hj => by
          by_cases e : j = k
          · rw [e, HT.out, he]
          · exact HK.out j (by omega)
        go_wp2
        go_round
        case rel => exact ⟨k + 1, by omega, by go_num, HN⟩
        case measure => simp [intOf]; omega
    · have HM : Hid (memS s ss = false) := memS_none (fun j hj => HK.out j (by omega))
      go_wp2
      go_ret
      exact ⟨-1, rfl, by rw [HM.out]; rfl, rfl⟩
theorem SContains_any (v : Value) (s : ByteArray) (ss : List ByteArray) (w : World) (hv : Strs w v ss) (hn : ss.length ≤ 40000) :
    Calls Tryd.prog 89 #[v, .string s] w fun e w' => e = .returned (.bool (memS s ss)) ∧ w = w' := by
  have HV := Lib.hid hv
  clear hv
  go_enter Tryd.func89, Tryd.ntmps89
  go_wp2_with (go_at_call 98; refine (SIndex_any _ _ _ _ HV.out hn).mono ?_; rintro e w' ⟨r, rfl, hr, rfl⟩)
  go_ret
  exact ⟨rfl, rfl⟩
theorem rHas_any (v : Value) (s : ByteArray) (ss : List ByteArray) (w : World) (hv : Strs w v ss) (hn : ss.length ≤ 40000) :
    Calls Tryd.prog 90 #[v, .string s] w fun e w' => e = .returned (.bool (memS s ss)) ∧ w = w' := by
  obtain ⟨a, cap, rfl, h1, h2, h3⟩ := hv.shape
  have HV := Lib.hid h3
  clear h3 hv
  go_enter Tryd.func90, Tryd.ntmps90
  go_wp2
  go_loop [5] (fun i => ∃ k : Nat, k ≤ ss.length ∧ i = .int .i64 k ∧ Hid (∀ j, j < k → (s.toList == (ss.getD j ByteArray.empty).toList) = false)) (fun i => ss.length - (intOf i).toNat)
  case atStart => exact ⟨0, Nat.zero_le _, rfl, fun j hj => by omega⟩
  case round =>
    obtain ⟨k, hk, rfl, HK⟩ := hrel
    by_cases hlt : k < ss.length
    · obtain ⟨b, o, rfl, hb, hc⟩ := HV.out k hlt
      have hcell := hc k hlt
      clear hc
      generalize ht : ss.getD k ByteArray.empty = t at *
      have HT := Lib.hid ht
      clear ht
      cases he : (t.toList == s.toList) with
      | true =>
        have HM : Hid (memS s ss = true) := memS_at hlt (by rw [HT.out, Bool.beq_comm]; exact he)
        go_wp2
        go_ret
        exact ⟨ret_bool (by rw [HM.out]), rfl⟩
      | false =>
        have HN : Hid (∀ j, j < k + 1 → (s.toList == (ss.getD j ByteArray.empty).toList) = false) := fun j hj => by
          by_cases e : j = k
          · rw [e, HT.out, Bool.beq_comm]; exact he
          · exact HK.out j (by omega)
        go_wp2
        go_round
        case rel => exact ⟨k + 1, by omega, by go_num, HN⟩
        case measure => simp [intOf]; omega
    · have HM : Hid (memS s ss = false) := memS_none (fun j hj => HK.out j (by omega))
      go_wp2
      go_ret
      exact ⟨ret_bool (by rw [HM.out]), rfl⟩
end Go.Proofs.YtgcmekpfhagnbaaDoor
