/- objectname.letter, objectname.Valid, the reference's ValidName; owners.isPrefix, the reference's prefix. For strings of up to 40000 bytes. The reference's ValidName; owners.isPrefix, the reference's prefix. For strings of up to 40000 bytes. owners.isPrefix. For strings of up to 40000 bytes. The reference's prefix. For strings of up to 40000 bytes. -/
import Derived.Test.YtidkpnabdfiilaaGreatDoorQ02
import Derived.Deep.DeepCutAuto
namespace Go.Proofs.YtidkpnabdfiilaaGreatDoor
open Go.RowKit

theorem allU_iff {p : UInt8 → Bool} (s : ByteArray) : s.data.toList.all p = true ↔ ∀ i, i < s.size → p (s.data.toList.getD i 0) = true := by
  rw [List.all_eq_true]
  constructor
  · intro h i hi
    rw [List.getD_eq_getElem?_getD, List.getElem?_eq_getElem (by rw [sz]; exact hi)]
    exact h _ (List.getElem_mem _)
  · intro h x hx
    obtain ⟨i, hi, rfl⟩ := List.getElem_of_mem hx
    have := h i (by rw [sz] at hi; exact hi)
    rw [List.getD_eq_getElem?_getD, List.getElem?_eq_getElem hi] at this
    exact this
theorem allU_bad {p : UInt8 → Bool} {s : ByteArray} {i : Nat} (hi : i < s.size) (h : p (s.data.toList.getD i 0) = false) : s.data.toList.all p = false := by
  rw [Bool.eq_false_iff]
  intro e
  rw [(allU_iff s).1 e i hi] at h
  cases h
def nameS (s : ByteArray) : Bool := nameB s.data.toList
def preS (s : ByteArray) : Bool := preB s.data.toList
def personS (s : ByteArray) : Bool := personB s.data.toList
theorem letter_any (c : Int) (w : World) :
    Calls Tryz.prog 155 #[.int .u8 c] w fun e w' => e = .returned (.bool (letN c)) ∧ w = w' := by
  by_cases h1 : 97 ≤ c <;> by_cases h2 : c ≤ 122 <;> by_cases h3 : 65 ≤ c <;> by_cases h4 : c ≤ 90 <;> by_cases h5 : 48 ≤ c <;> by_cases h6 : c ≤ 57 <;> first | (exfalso; omega) | skip
  all_goals
  · go_enter Tryz.func155, Tryz.ntmps155
    go_wp2
    all_goals
    · go_ret
      exact ⟨ret_bool (by rw [letN, Bool.eq_iff_iff]; simp <;> omega), rfl⟩
theorem Valid_any (s : ByteArray) (w : World) (hs : s.size ≤ 40000) :
    Calls Tryz.prog 123 #[.string s] w fun e w' => e = .returned (.bool (nameS s)) ∧ w = w' := by
  by_cases h1 : s.size < 1
  · have H : Hid (nameS s = false) := by show _ = _; unfold nameS nameB; rw [sz]; simp; omega
    go_enter Tryz.func123, Tryz.ntmps123
    go_wp2
    go_ret
    exact ⟨ret_bool (by rw [H.out]), rfl⟩
  by_cases h2 : 24 < s.size
  · have H : Hid (nameS s = false) := by show _ = _; unfold nameS nameB; rw [sz]; simp; omega
    go_enter Tryz.func123, Tryz.ntmps123
    go_wp2
    go_ret
    exact ⟨ret_bool (by rw [H.out]), rfl⟩
  cases h3 : (s.toList == [46]) with
  | true =>
    have H : Hid (nameS s = false) := by show _ = _; unfold nameS nameB; rw [tl] at h3; simp [h3]
    go_enter Tryz.func123, Tryz.ntmps123
    go_wp2
    go_ret
    exact ⟨ret_bool (by rw [H.out]), rfl⟩
  | false =>
  cases h4 : (s.toList == [46, 46]) with
  | true =>
    have H : Hid (nameS s = false) := by show _ = _; unfold nameS nameB; rw [tl] at h4; simp [h4]
    go_enter Tryz.func123, Tryz.ntmps123
    go_wp2
    go_ret
    exact ⟨ret_bool (by rw [H.out]), rfl⟩
  | false =>
  have HN : Hid (nameS s = s.data.toList.all letU) := by
    show _ = _
    unfold nameS nameB
    rw [tl] at h3 h4
    rw [sz, h3, h4]
    simp; omega
  go_enter Tryz.func123, Tryz.ntmps123
  go_wp2
  go_loop [22] (fun i => ∃ k : Nat, k ≤ s.size ∧ i = .int .i64 k ∧ Hid (∀ i, i < k → letU (s.data.toList.getD i 0) = true)) (fun i => s.size - (intOf i).toNat)
  case atStart => exact ⟨0, Nat.zero_le _, rfl, fun i hi => by omega⟩
  case round =>
    obtain ⟨k, hk, rfl, HK⟩ := hrel
    by_cases hlt : k < s.size
    · have hg := getD_at s k hlt
      cases hl : letN (s[k].toNat : Int) with
      | true =>
        have HK2 : Hid (∀ i, i < k + 1 → letU (s.data.toList.getD i 0) = true) := fun i hi => by
          by_cases e : i = k
          · rw [e, hg]; exact hl
          · exact HK.out i (by omega)
        clear hg
        go_wp2_with (go_at_call 155; refine (letter_any _ _).mono ?_; rintro e w' ⟨rfl, rfl⟩)
        go_round
        case rel => exact ⟨k + 1, by omega, by go_num, HK2⟩
        case measure => simp [intOf]; omega
      | false =>
        have HF : Hid (nameS s = false) := by show _ = _; rw [HN.out]; exact allU_bad hlt (by rw [hg]; exact hl)
        clear hg
        go_wp2_with (go_at_call 155; refine (letter_any _ _).mono ?_; rintro e w' ⟨rfl, rfl⟩)
        go_ret
        exact ⟨ret_bool (by rw [HF.out]), rfl⟩
    · have HT : Hid (nameS s = true) := by show _ = _; rw [HN.out]; exact (allU_iff s).2 (fun i hi => HK.out i (by omega))
      go_wp2
      go_ret
      exact ⟨ret_bool (by rw [HT.out]), rfl⟩
end Go.Proofs.YtidkpnabdfiilaaGreatDoor

namespace Go.Proofs.YtidkpnabdfiilaaGreatDoor
open Go.RowKit

theorem letN_yes {c : Int} (h : (97 ≤ c ∧ c ≤ 122) ∨ (65 ≤ c ∧ c ≤ 90) ∨ (48 ≤ c ∧ c ≤ 57) ∨ c = 46 ∨ c = 95 ∨ c = 45) : letN c = true := by
  rw [letN]; simp; omega
theorem letN_no {c : Int} (h : ¬ ((97 ≤ c ∧ c ≤ 122) ∨ (65 ≤ c ∧ c ≤ 90) ∨ (48 ≤ c ∧ c ≤ 57) ∨ c = 46 ∨ c = 95 ∨ c = 45)) : letN c = false := by
  rw [Bool.eq_false_iff]; intro e; rw [letN] at e; simp at e; omega
theorem nameS_short {s : ByteArray} (h1 : s.size < 1) : nameS s = false := by unfold nameS nameB; rw [sz]; simp; omega
theorem nameS_long {s : ByteArray} (h1 : 24 < s.size) : nameS s = false := by unfold nameS nameB; rw [sz]; simp; omega
theorem nameS_dot {s : ByteArray} (h3 : (s.toList == [46]) = true) : nameS s = false := by unfold nameS nameB; rw [tl] at h3; simp [h3]
theorem nameS_dots {s : ByteArray} (h3 : (s.toList == [46, 46]) = true) : nameS s = false := by unfold nameS nameB; rw [tl] at h3; simp [h3]
theorem nameS_all {s : ByteArray} (h1 : ¬ s.size < 1) (h2 : ¬ 24 < s.size) (h3 : (s.toList == [46]) = false) (h4 : (s.toList == [46, 46]) = false) : nameS s = s.data.toList.all letU := by
  unfold nameS nameB
  rw [tl] at h3 h4
  rw [sz, h3, h4]
  simp; omega
theorem rValidName_any (s : ByteArray) (w : World) (hs : s.size ≤ 40000) :
    Calls Tryz.prog 91 #[.string s] w fun e w' => e = .returned (.bool (nameS s)) ∧ w = w' := by
  by_cases h1 : s.size < 1
  · have H := Lib.hid (nameS_short h1)
    go_enter Tryz.func91, Tryz.ntmps91
    go_wp2
    go_ret
    exact ⟨ret_bool (by rw [H.out]), rfl⟩
  by_cases h2 : 24 < s.size
  · have H := Lib.hid (nameS_long h2)
    go_enter Tryz.func91, Tryz.ntmps91
    go_wp2
    go_ret
    exact ⟨ret_bool (by rw [H.out]), rfl⟩
  cases h3 : (s.toList == [46]) with
  | true =>
    have H := Lib.hid (nameS_dot h3)
    go_enter Tryz.func91, Tryz.ntmps91
    go_wp2
    go_ret
    exact ⟨ret_bool (by rw [H.out]), rfl⟩
  | false =>
  cases h4 : (s.toList == [46, 46]) with
  | true =>
    have H := Lib.hid (nameS_dots h4)
    go_enter Tryz.func91, Tryz.ntmps91
    go_wp2
    go_ret
    exact ⟨ret_bool (by rw [H.out]), rfl⟩
  | false =>
  have HN := Lib.hid (nameS_all h1 h2 h3 h4)
  go_enter Tryz.func91, Tryz.ntmps91
  go_wp2
  go_loop [3] (fun i => ∃ k : Nat, k ≤ s.size ∧ i = .int .i64 k ∧ Hid (∀ i, i < k → letU (s.data.toList.getD i 0) = true)) (fun i => s.size - (intOf i).toNat)
  case atStart => exact ⟨0, Nat.zero_le _, rfl, fun i hi => by omega⟩
  case round =>
    obtain ⟨k, hk, rfl, HK⟩ := hrel
    by_cases hlt : k < s.size
    · have hg := getD_at s k hlt
      have HY : Hid (letN (s[k].toNat : Int) = true → ∀ i, i < k + 1 → letU (s.data.toList.getD i 0) = true) := fun hl i hi => by
        by_cases e : i = k
        · rw [e, hg]; exact hl
        · exact HK.out i (by omega)
      have HF : Hid (letN (s[k].toNat : Int) = false → nameS s = false) := fun hl => by rw [HN.out]; exact allU_bad hlt (by rw [hg]; exact hl)
      clear hg
      go_upto_region 7 with (fail)
      go_cut [64] from 21 to 64 (fun c wx => c = .bool (!letN (s[k].toNat : Int)) ∧ wx = w)
      case first =>
        by_cases h1 : 97 ≤ (s[k].toNat : Int) <;> by_cases h2 : (s[k].toNat : Int) ≤ 122 <;> by_cases h3 : 65 ≤ (s[k].toNat : Int) <;> by_cases h4 : (s[k].toNat : Int) ≤ 90 <;> by_cases h5 : 48 ≤ (s[k].toNat : Int) <;> by_cases h6 : (s[k].toNat : Int) ≤ 57 <;> first | (exfalso; omega) | skip
        all_goals
        · cases q1 : ((s[k].toNat : Int) == 46) <;> cases q2 : ((s[k].toNat : Int) == 95) <;> cases q3 : ((s[k].toNat : Int) == 45) <;> first | (exfalso; simp at q1 q2 q3; omega) | skip
          all_goals
          · go_wp2
            go_meet
            case rel => exact ⟨congrArg Value.bool (by rw [letN, q1, q2, q3]; simp <;> omega), rfl⟩
      case rest =>
        obtain ⟨rfl, rfl⟩ := hcut
        cases hl : letN (s[k].toNat : Int) with
        | true =>
          have HY2 := Lib.hid (HY.out hl)
          go_wp2
          go_round
          case rel => exact ⟨k + 1, by omega, by go_num, HY2⟩
          case measure => simp [intOf]; omega
        | false =>
          have HF2 := Lib.hid (HF.out hl)
          go_wp2
          go_ret
          exact ⟨ret_bool (by rw [HF2.out]), rfl⟩
    · have HT : Hid (nameS s = true) := by show _ = _; rw [HN.out]; exact (allU_iff s).2 (fun i hi => HK.out i (by omega))
      go_wp2
      go_ret
      exact ⟨ret_bool (by rw [HT.out]), rfl⟩

theorem preS_long {s : ByteArray} (h : 100 < s.size) : preS s = false := by unfold preS preB; rw [sz]; simp; omega
theorem preS_all {s : ByteArray} (h : ¬ 100 < s.size) : preS s = s.data.toList.all preC := by unfold preS preB; rw [sz]; simp; omega
theorem preC_yes {c : UInt8} (h : (97 ≤ (c.toNat : Int) ∧ (c.toNat : Int) ≤ 122) ∨ (65 ≤ (c.toNat : Int) ∧ (c.toNat : Int) ≤ 90) ∨ (48 ≤ (c.toNat : Int) ∧ (c.toNat : Int) ≤ 57) ∨ (c.toNat : Int) = 46 ∨ (c.toNat : Int) = 95 ∨ (c.toNat : Int) = 45 ∨ (c.toNat : Int) = 47) : preC c = true := by
  unfold preC letU
  rw [show (c == 47) = ((c.toNat : Int) == 47) from (byteN c 47).symm, letN]; simp; omega
theorem preC_no {c : UInt8} (h : ¬ ((97 ≤ (c.toNat : Int) ∧ (c.toNat : Int) ≤ 122) ∨ (65 ≤ (c.toNat : Int) ∧ (c.toNat : Int) ≤ 90) ∨ (48 ≤ (c.toNat : Int) ∧ (c.toNat : Int) ≤ 57) ∨ (c.toNat : Int) = 46 ∨ (c.toNat : Int) = 95 ∨ (c.toNat : Int) = 45 ∨ (c.toNat : Int) = 47)) : preC c = false := by
  unfold preC letU
  rw [show (c == 47) = ((c.toNat : Int) == 47) from (byteN c 47).symm, Bool.eq_false_iff, letN]; intro e; simp at e; omega
end Go.Proofs.YtidkpnabdfiilaaGreatDoor

namespace Go.Proofs.YtidkpnabdfiilaaGreatDoor
open Go.RowKit

def alphaN (c : Int) : Bool := (decide (97 ≤ c) && decide (c ≤ 122)) || (decide (65 ≤ c) && decide (c ≤ 90))
theorem preC_eq (c : UInt8) : preC c = (alphaN (c.toNat : Int) || (decide (48 ≤ (c.toNat : Int)) && decide ((c.toNat : Int) ≤ 57)) || (c.toNat : Int) == 46 || (c.toNat : Int) == 95 || (c.toNat : Int) == 45 || (c.toNat : Int) == 47) := by
  unfold preC letU letN alphaN
  rw [show (c == 47) = ((c.toNat : Int) == 47) from (byteN c 47).symm]
theorem isPrefix_any (s : ByteArray) (w : World) (hs : s.size ≤ 40000) :
    Calls Tryz.prog 117 #[.string s] w fun e w' => e = .returned (.bool (preS s)) ∧ w = w' := by
  by_cases h2 : 100 < s.size
  · have H := Lib.hid (preS_long h2)
    go_enter Tryz.func117, Tryz.ntmps117
    go_wp2
    go_ret
    exact ⟨ret_bool (by rw [H.out]), rfl⟩
  have HN := Lib.hid (preS_all h2)
  go_enter Tryz.func117, Tryz.ntmps117
  go_wp2
  go_loop [11] (fun i => ∃ k : Nat, k ≤ s.size ∧ i = .int .i64 k ∧ Hid (∀ i, i < k → preC (s.data.toList.getD i 0) = true)) (fun i => s.size - (intOf i).toNat)
  case atStart => exact ⟨0, Nat.zero_le _, rfl, fun i hi => by omega⟩
  case round =>
    obtain ⟨k, hk, rfl, HK⟩ := hrel
    by_cases hlt : k < s.size
    · have hg := getD_at s k hlt
      have HY : Hid (preC s[k] = true → ∀ i, i < k + 1 → preC (s.data.toList.getD i 0) = true) := fun hl i hi => by
        by_cases e : i = k
        · rw [e, hg]; exact hl
        · exact HK.out i (by omega)
      have HF : Hid (preC s[k] = false → preS s = false) := fun hl => by rw [HN.out]; exact allU_bad hlt (by rw [hg]; exact hl)
      clear hg
      go_upto_region 7 with (fail)
      go_cut [5] from 12 to 58 (fun c wx => c = .bool (alphaN (s[k].toNat : Int)) ∧ w = wx)
      case first =>
        by_cases h1 : 97 ≤ (s[k].toNat : Int) <;> by_cases h2 : (s[k].toNat : Int) ≤ 122 <;> by_cases h3 : 65 ≤ (s[k].toNat : Int) <;> by_cases h4 : (s[k].toNat : Int) ≤ 90 <;> first | (exfalso; omega) | skip
        all_goals
        · go_wp2
          go_meet
          case rel => exact ⟨congrArg Value.bool (by rw [alphaN]; simp <;> omega), rfl⟩
      case rest =>
      obtain ⟨rfl, rfl⟩ := hcut
      go_upto_region 8 with (fail)
      go_cut [5, 57] from 12 to 58 (fun _ c wx => c = .bool (!preC s[k]) ∧ w = wx)
      case first =>
        have HE : Hid (preC s[k] = (alphaN (s[k].toNat : Int) || (decide (48 ≤ (s[k].toNat : Int)) && decide ((s[k].toNat : Int) ≤ 57)) || (s[k].toNat : Int) == 46 || (s[k].toNat : Int) == 95 || (s[k].toNat : Int) == 45 || (s[k].toNat : Int) == 47)) := preC_eq _
        cases ha : alphaN (s[k].toNat : Int) with
        | true =>
          go_wp2
          go_meet
          case rel => exact ⟨congrArg Value.bool (by rw [HE.out, ha]; simp), rfl⟩
        | false =>
          by_cases h5 : 48 ≤ (s[k].toNat : Int) <;> by_cases h6 : (s[k].toNat : Int) ≤ 57 <;> first | (exfalso; omega) | skip
          all_goals
          · cases q1 : ((s[k].toNat : Int) != 46) <;> cases q2 : ((s[k].toNat : Int) != 95) <;> cases q3 : ((s[k].toNat : Int) != 45) <;> cases q4 : ((s[k].toNat : Int) != 47) <;> first | (exfalso; simp at q1 q2 q3 q4; omega) | skip
            all_goals
            · go_wp2
              go_meet
              case rel => exact ⟨congrArg Value.bool (by rw [HE.out, ha]; simp at q1 q2 q3 q4; simp [h5, h6, q1, q2, q3, q4]), rfl⟩
      case rest =>
        obtain ⟨rfl, rfl⟩ := hcut
        cases hl : preC s[k] with
        | true =>
          have HY2 := Lib.hid (HY.out hl)
          go_wp2
          go_round
          case rel => exact ⟨k + 1, by omega, by go_num, HY2⟩
          case measure => simp [intOf]; omega
        | false =>
          have HF2 := Lib.hid (HF.out hl)
          go_wp2
          go_ret
          exact ⟨ret_bool (by rw [HF2.out]), rfl⟩
    · have HT : Hid (preS s = true) := by show _ = _; rw [HN.out]; exact (allU_iff s).2 (fun i hi => HK.out i (by omega))
      go_wp2
      go_ret
      exact ⟨ret_bool (by rw [HT.out]), rfl⟩
end Go.Proofs.YtidkpnabdfiilaaGreatDoor

namespace Go.Proofs.YtidkpnabdfiilaaGreatDoor
open Go.RowKit

theorem one_data (s : ByteArray) (k : Nat) (h : k < s.size) : (s.extract k (k + 1)).data.toList = [s[k]] := by
  rw [ex_data, show k + 1 - k = 1 by omega, List.drop_eq_getElem_cons (by rw [sz]; exact h)]
  simp; rfl
theorem nameS_one (s : ByteArray) (k : Nat) (h : k < s.size) (hd : s[k] ≠ 46) : nameS (s.extract k (k + 1)) = letU s[k] := by
  unfold nameS nameB
  rw [one_data s k h]
  simp [hd]
theorem rprefix_any (s : ByteArray) (w : World) (hs : s.size ≤ 40000) :
    Calls Tryz.prog 160 #[.string s] w fun e w' => e = .returned (.bool (preS s)) ∧ w = w' := by
  have HD : Hid (preS s = (decide (s.size ≤ 100) && s.data.toList.all preC)) := by show _ = _; unfold preS preB; rw [sz]
  go_enter Tryz.func160, Tryz.ntmps160
  go_wp2
  go_loop [3] (fun i => ∃ k : Nat, k ≤ s.size ∧ i = .int .i64 k ∧ Hid (∀ i, i < k → preC (s.data.toList.getD i 0) = true)) (fun i => s.size - (intOf i).toNat)
  case atStart => exact ⟨0, Nat.zero_le _, rfl, fun i hi => by omega⟩
  case round =>
    obtain ⟨k, hk, rfl, HK⟩ := hrel
    by_cases hlt : k < s.size
    · have hg := getD_at s k hlt
      have HY : Hid (preC s[k] = true → ∀ i, i < k + 1 → preC (s.data.toList.getD i 0) = true) := fun hl i hi => by
        by_cases e : i = k
        · rw [e, hg]; exact hl
        · exact HK.out i (by omega)
      have HF : Hid (preC s[k] = false → preS s = false) := fun hl => by rw [HD.out, allU_bad hlt (by rw [hg]; exact hl), Bool.and_false]
      clear hg
      cases q1 : ((s[k].toNat : Int) != 47) with
      | false =>
        have HY2 := Lib.hid (HY.out (preC_yes (by simp at q1; omega)))
        go_wp2
        go_round
        case rel => exact ⟨k + 1, by omega, by go_num, HY2⟩
        case measure => simp [intOf]; omega
      | true =>
        cases q2 : ((s[k].toNat : Int) != 46) with
        | false =>
          have HY2 := Lib.hid (HY.out (preC_yes (by simp at q2; omega)))
          go_wp2
          go_round
          case rel => exact ⟨k + 1, by omega, by go_num, HY2⟩
          case measure => simp [intOf]; omega
        | true =>
          have HO : Hid (nameS (s.extract k (k + 1)) = preC s[k]) := by
            show _ = _
            have h46 : s[k] ≠ 46 := by intro e; rw [e] at q2; revert q2; decide
            have h47 : (s[k] == 47) = false := by
              rw [show (s[k] == 47) = ((s[k].toNat : Int) == 47) from (byteN s[k] 47).symm]; simpa using q1
            rw [nameS_one s k hlt h46]; unfold preC; rw [h47, Bool.or_false]
          have hx : (s.extract k (k + 1)).size ≤ 40000 := by simp; omega
          cases hl : preC s[k] with
          | true =>
            have HY2 := Lib.hid (HY.out hl)
            go_wp2_with (go_at_call 91; refine (rValidName_any _ _ hx).mono ?_; rintro e w' ⟨rfl, rfl⟩; rw [HO.out, hl])
            go_round
            case rel => exact ⟨k + 1, by omega, by go_num, HY2⟩
            case measure => simp [intOf]; omega
          | false =>
            have HF2 := Lib.hid (HF.out hl)
            go_wp2_with (go_at_call 91; refine (rValidName_any _ _ hx).mono ?_; rintro e w' ⟨rfl, rfl⟩; rw [HO.out, hl])
            go_ret
            exact ⟨ret_bool (by rw [HF2.out]), rfl⟩
    · have HT : Hid (preS s = decide (s.size ≤ 100)) := by show _ = _; rw [HD.out, (allU_iff s).2 (fun i hi => HK.out i (by omega)), Bool.and_true]
      go_wp2
      go_ret
      exact ⟨ret_bool (by rw [HT.out, Bool.eq_iff_iff]; simp <;> omega), rfl⟩
end Go.Proofs.YtidkpnabdfiilaaGreatDoor
