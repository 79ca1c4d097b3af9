/- The reference of chapter 9: cut, Path, Below. -/
import Derived.Test.YtidkpnabdfiilaaGreatDoorRgB
import Derived.Test.YtidkpnabdfiilaaGreatDoorRgP
namespace Go.Proofs.YtidkpnabdfiilaaGreatDoor
open Go.RowKit Go.Shelf

def firstS (s : ByteArray) : ByteArray := s.extract 0 (slashAt s.data.toList)
def restS (s : ByteArray) : ByteArray := s.extract (slashAt s.data.toList + 1) s.size
def moreS (s : ByteArray) : Bool := decide (slashAt s.data.toList < s.size)
theorem firstS_none {s : ByteArray} (h : slashAt s.data.toList = s.size) : firstS s = s := by
  apply bOf_inj; rw [firstS, ex_take, h, ← sz, List.take_length]
theorem restS_none {s : ByteArray} (h : slashAt s.data.toList = s.size) : restS s = ⟨#[]⟩ := by
  apply bOf_inj; rw [restS, ex_end, h, List.drop_of_length_le (by rw [sz]; omega)]
theorem firstS_size (s : ByteArray) : (firstS s).size ≤ s.size := by
  rw [← sz, ← sz, firstS, ex_take, List.length_take]; omega
theorem restS_size {s : ByteArray} (h : moreS s = true) : (restS s).size < s.size := by
  rw [moreS, decide_eq_true_eq] at h
  rw [← sz, ← sz, restS, ex_end, List.length_drop, sz]; omega
theorem split_cut (s : ByteArray) : (split s.data.toList).all nameB = (nameS (firstS s) && (!moreS s || (split (restS s).data.toList).all nameB)) := by
  by_cases h : slashAt s.data.toList < s.size
  · have hm : moreS s = true := decide_eq_true h
    rw [split_some (by rw [sz]; exact h), List.all_cons, hm, nameS, firstS, restS, ex_take, ex_end]
    simp
  · have e : slashAt s.data.toList = s.size := by have := slashAt_le s.data.toList; rw [sz] at this; omega
    have hm : moreS s = false := decide_eq_false h
    rw [split_none (by rw [sz]; exact e), hm, firstS_none e, nameS]
    simp
theorem r9cut_any (s : ByteArray) (w : World) (hs : s.size ≤ 40000) :
    Calls Tryz.prog 90 #[.string s] w fun e w' => e = .returned (.tuple #[.string (firstS s), .string (restS s), .bool (moreS s)]) ∧ ∃ n, w' = w.drewN n := by
  go_enter Tryz.func90, Tryz.ntmps90
  go_wp2
  go_loop [5] (fun i => ∃ k : Nat, k ≤ s.size ∧ i = .int .i64 k ∧ Hid (k ≤ slashAt s.data.toList)) (fun i => s.size - (intOf i).toNat)
  case atStart => exact ⟨0, Nat.zero_le _, rfl, Nat.zero_le _⟩
  case round =>
    obtain ⟨k, hk, rfl, HK⟩ := hrel
    by_cases hlt : k < s.size
    · have hg := getD_at s k hlt
      have hi0 : (0 : Int) ≤ (k : Int) := by omega
      have hi1 : (k : Int) < (s.size : Int) := by omega
      by_cases hc : s[k] = 47
      · have hb : ((s[k].toNat : Int) == 47) = true := by rw [byteb]; simp [hc]
        have e : slashAt s.data.toList = k := slashAt_at HK.out (by rw [sz]; exact hlt) (by rw [hg, hc])
        have H1 : Hid (firstS s = s.extract 0 k) := by show _ = _; rw [firstS, e]
        have H2 : Hid (restS s = s.extract (k + 1) s.size) := by show _ = _; rw [restS, e]
        have H3 : Hid (moreS s = true) := by show _ = _; rw [moreS, e]; exact decide_eq_true hlt
        clear hg hc e HK
        have hw1 : IntKind.i64.wrap ((k : Int) + 1) = ((k + 1 : Nat) : Int) := by simp [IntKind.wrap, IntKind.signed, IntKind.bits]; omega
        go_wp2
        go_quiet (fail)
        go_wp2
        refine bodyPost_ret (v := .tuple #[.string (s.extract 0 k), .string (s.extract (k + 1) s.size), .bool true]) (by simp [results, Tryz.results90, go_sem]) rfl ?_
        exact ⟨by rw [H1.out, H2.out, H3.out], _, rfl⟩
      · have hb : ((s[k].toNat : Int) == 47) = false := by rw [byteb]; simp [hc]
        have HK2 : Hid (k + 1 ≤ slashAt s.data.toList) := slashAt_next HK.out (by rw [sz]; exact hlt) (by rw [hg]; exact hc)
        clear hg hc
        go_wp2
        go_round
        case rel => exact ⟨k + 1, by omega, by go_num, HK2⟩
        case measure => simp [intOf]; omega
    · have e : slashAt s.data.toList = s.size := by have := slashAt_le s.data.toList; have := HK.out; rw [sz] at *; omega
      have H1 : Hid (firstS s = s) := firstS_none e
      have H2 : Hid (restS s = ⟨#[]⟩) := restS_none e
      have H3 : Hid (moreS s = false) := by show _ = _; rw [moreS, e]; exact decide_eq_false (by omega)
      clear e
      go_wp2
      refine bodyPost_ret (v := .tuple #[.string s, .string ⟨#[]⟩, .bool false]) (by simp [results, Tryz.results90, go_sem]) rfl ?_
      exact ⟨by rw [H1.out, H2.out, H3.out], 0, rfl⟩
def strSz : Value → Nat
  | .string s => s.size
  | _ => 0
theorem r9Path_any (s : ByteArray) (w : World) (hs : s.size ≤ 40000) :
    Calls Tryz.prog 55 #[.string s] w fun e w' => e = .returned (.bool (pathS s)) ∧ ∃ n, w' = w.drewN n := by
  by_cases h100 : 100 < s.size
  · have H : Hid (pathS s = false) := path_long h100
    have hd : decide (100 < (s.size : Int)) = true := decide_eq_true (by omega)
    go_enter Tryz.func55, Tryz.ntmps55
    go_wp2
    go_ret
    exact ⟨ret_bool (by rw [H.out]), 0, rfl⟩
  have hd : decide (100 < (s.size : Int)) = false := decide_eq_false (by omega)
  have H0 : Hid (pathS s = (split s.data.toList).all nameB) := by
    show _ = _; rw [pathS, pathB, sz, decide_eq_true (by omega), Bool.true_and]
  go_enter Tryz.func55, Tryz.ntmps55
  go_wp2
  go_loopw [0] (fun i wr => ∃ t : ByteArray, i = .string t ∧ t.size ≤ 100 ∧ Hid (pathS s = (split t.data.toList).all nameB) ∧ Hid (∃ n, wr = w.drewN n)) (fun i _ => strSz i)
  case atStart => exact ⟨s, rfl, by omega, H0, 0, rfl⟩
  case round =>
    obtain ⟨t, rfl, ht, HP, HW⟩ := hrel
    have HC := Lib.hid (split_cut t)
    have hfs := firstS_size t
    have HR : Hid (moreS t = true → (restS t).size < t.size) := restS_size
    go_wp2_with (fail)
    refine (r9cut_any t _ (by omega)).mono ?_
    rintro e w1 ⟨rfl, n1, rfl⟩
    have HW1 : Hid (∃ n, wr.drewN n1 = w.drewN n) := by obtain ⟨n, rfl⟩ := HW.out; exact ⟨_, World.drewN_drewN _ _ _⟩
    clear HW
    generalize firstS t = a at *
    generalize restS t = r at *
    cases hn : nameS a with
    | false =>
      have H : Hid (pathS s = false) := by show _ = _; rw [HP.out, HC.out, hn]; rfl
      have HN := Lib.hid hn
      clear hn
      go_wp2_with (go_at_call 91; refine (rValidName_any a _ (by omega)).mono ?_; rintro e w' ⟨rfl, rfl⟩; rw [HN.out])
      go_ret
      exact ⟨ret_bool (by rw [H.out]), HW1.out⟩
    | true =>
      have HN := Lib.hid hn
      cases hm : moreS t with
      | false =>
        have H : Hid (pathS s = true) := by show _ = _; rw [HP.out, HC.out, hn, hm]; rfl
        clear hn hm
        go_wp2_with (go_at_call 91; refine (rValidName_any a _ (by omega)).mono ?_; rintro e w' ⟨rfl, rfl⟩; rw [HN.out])
        go_ret
        exact ⟨ret_bool (by rw [H.out]), HW1.out⟩
      | true =>
        have H : Hid (pathS s = (split r.data.toList).all nameB) := by show _ = _; rw [HP.out, HC.out, hn, hm]; rfl
        have hrs := HR.out hm
        clear hn hm
        go_wp2_with (go_at_call 91; refine (rValidName_any a _ (by omega)).mono ?_; rintro e w' ⟨rfl, rfl⟩; rw [HN.out])
        go_roundw
        case rel => exact ⟨r, rfl, by omega, H, HW1⟩
        case measure => simp [strSz]; omega
theorem r9Below_any (d p : ByteArray) (w : World) (hd : d.size ≤ 40000) :
    Calls Tryz.prog 58 #[.string d, .string p] w fun e w' => e = .returned (.bool (belowB d.data.toList p.data.toList)) ∧ w = w' := by
  by_cases hlt : d.size < p.size
  · have hg := getD_at p d.size hlt
    have hi0 : (0 : Int) ≤ (d.size : Int) := by omega
    have hi1 : (d.size : Int) < (p.size : Int) := by omega
    have hi2 : (d.size : Int) ≤ (p.size : Int) := by omega
    cases he : ((p.extract 0 d.size).toList == d.toList) with
    | false =>
      have H : Hid (belowB d.data.toList p.data.toList = false) := by
        show _ = _
        rw [tl, tl, ex_take] at he
        rw [belowB, sz, he]; simp
      clear hg
      go_enter Tryz.func58, Tryz.ntmps58
      go_wp2
      go_ret
      exact ⟨ret_bool (by rw [H.out]), rfl⟩
    | true =>
      have H : Hid (belowB d.data.toList p.data.toList = ((p[d.size].toNat : Int) == 47)) := by
        show _ = _
        rw [tl, tl, ex_take] at he
        rw [belowB, sz, sz, he, hg, decide_eq_true hlt, byteb]; rfl
      clear hg
      go_enter Tryz.func58, Tryz.ntmps58
      go_wp2
      go_ret
      exact ⟨ret_bool (by rw [H.out]), rfl⟩
  · have H : Hid (belowB d.data.toList p.data.toList = false) := by
      show _ = _
      rw [belowB, sz, sz, decide_eq_false hlt]; rfl
    go_enter Tryz.func58, Tryz.ntmps58
    go_wp2
    go_ret
    exact ⟨ret_bool (by rw [H.out]), rfl⟩
end Go.Proofs.YtidkpnabdfiilaaGreatDoor
