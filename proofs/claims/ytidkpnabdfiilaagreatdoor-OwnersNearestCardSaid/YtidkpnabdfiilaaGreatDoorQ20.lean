/- The reference of chapters 9 and 54, plainly: the order of texts, paths below others, the first name of a path, the directories of a path, the file of a path. The reference of chapter 9: cut, Path, Below. The reference of chapter 9: Check, find, Find. -/
import Derived.Test.YtidkpnabdfiilaaGreatDoorQ16
import Derived.Test.YtidkpnabdfiilaaGreatDoorQ19
namespace Go.Proofs.YtidkpnabdfiilaaGreatDoor
open Go.RowKit

/-! The order of texts. -/
theorem less_irrefl : ∀ a : List UInt8, Op.bytesLess a a = false
  | [] => by simp [Op.bytesLess]
  | x :: a => by simp [Op.bytesLess, less_irrefl a]
theorem less_trans : ∀ {a b c : List UInt8}, Op.bytesLess a b = true → Op.bytesLess b c = true → Op.bytesLess a c = true
  | [], [], _, h, _ => by simp [Op.bytesLess] at h
  | _, _ :: _, [], _, h => by simp [Op.bytesLess] at h
  | [], _ :: _, _ :: _, _, _ => by simp [Op.bytesLess]
  | _ :: _, [], _, h, _ => by simp [Op.bytesLess] at h
  | x :: a, y :: b, z :: c, h1, h2 => by
    simp only [Op.bytesLess, Bool.or_eq_true, decide_eq_true_eq, Bool.and_eq_true, beq_iff_eq] at h1 h2 ⊢
    rcases h1 with h1 | ⟨rfl, h1⟩
    · rcases h2 with h2 | ⟨rfl, h2⟩
      · exact .inl (UInt8.lt_trans h1 h2)
      · exact .inl h1
    · rcases h2 with h2 | ⟨rfl, h2⟩
      · exact .inl h2
      · exact .inr ⟨rfl, less_trans h1 h2⟩
theorem less_total : ∀ a b : List UInt8, Op.bytesLess a b = true ∨ a = b ∨ Op.bytesLess b a = true
  | [], [] => .inr (.inl rfl)
  | [], _ :: _ => .inl (by simp [Op.bytesLess])
  | _ :: _, [] => .inr (.inr (by simp [Op.bytesLess]))
  | x :: a, y :: b => by
    simp only [Op.bytesLess, Bool.or_eq_true, decide_eq_true_eq, Bool.and_eq_true, beq_iff_eq]
    rcases Nat.lt_trichotomy x.toNat y.toNat with h | h | h
    · exact .inl (.inl (UInt8.lt_iff_toNat_lt.2 h))
    · have e : x = y := UInt8.toNat_inj.1 h
      subst e
      rcases less_total a b with h | h | h
      · exact .inl (.inr ⟨rfl, h⟩)
      · exact .inr (.inl (by rw [h]))
      · exact .inr (.inr (.inr ⟨rfl, h⟩))
    · exact .inr (.inr (.inl (UInt8.lt_iff_toNat_lt.2 h)))
theorem leB_not (a b : List UInt8) : leB a b = !(Op.bytesLess b a) := by
  unfold leB
  rcases less_total a b with h | h | h
  · rw [h, Bool.true_or]
    cases h2 : Op.bytesLess b a with
    | false => rfl
    | true => have := less_trans h h2; rw [less_irrefl] at this; cases this
  · subst h; simp [less_irrefl]
  · rw [h]
    cases h1 : Op.bytesLess a b with
    | true => have := less_trans h h1; rw [less_irrefl] at this; cases this
    | false =>
      have : (a == b) = false := by
        rw [beq_eq_false_iff_ne]; rintro rfl; rw [less_irrefl] at h; cases h
      rw [this]; rfl
/-! Paths below others. -/
def belowB (d p : List UInt8) : Bool := decide (d.length < p.length) && p.take d.length == d && p.getD d.length 0 == 47
theorem someDir_below (fs gs : List OFile) : someDir fs gs = fs.any fun f => gs.any fun g => belowB f.path.data.toList g.path.data.toList := by
  rw [Bool.eq_iff_iff]
  simp only [someDir, dirIn, dirAt, inPaths, belowB, List.any_eq_true, Bool.and_eq_true, decide_eq_true_eq, beq_iff_eq, List.mem_range]
  constructor
  · rintro ⟨g, hg, i, hi, h1, f, hf, h2⟩
    refine ⟨f, hf, g, hg, ?_⟩
    have hl : f.path.data.toList.length = i := by rw [h2, List.length_take]; omega
    rw [hl]
    exact ⟨⟨hi, h2.symm⟩, h1⟩
  · rintro ⟨f, hf, g, hg, ⟨h1, h2⟩, h3⟩
    exact ⟨g, hg, f.path.data.toList.length, h1, h3, f, hf, h2.symm⟩
/-! The directories of a path. -/
def upF (p : List UInt8) : Nat → Nat
  | 0 => 0
  | m + 1 => if p.getD m 0 = 47 then m + 1 else upF p m
theorem upF_le (p : List UInt8) : ∀ n, upF p n ≤ n
  | 0 => Nat.le_refl _
  | n + 1 => by
    rw [upF]; split
    · exact Nat.le_refl _
    · exact Nat.le_succ_of_le (upF_le p n)
theorem dirEnds_up (p : List UInt8) : ∀ n, dirEnds p n = upF p n :: (if upF p n = 0 then [] else dirEnds p (upF p n - 1))
  | 0 => rfl
  | n + 1 => by
    rw [dirEnds, upF]
    split
    · simp
    · exact dirEnds_up p n
theorem upF_sl (p : List UInt8) : ∀ n, upF p n = 0 ∨ p.getD (upF p n - 1) 0 = 47
  | 0 => .inl rfl
  | n + 1 => by
    rw [upF]; split
    · rename_i h; exact .inr h
    · exact upF_sl p n
end Go.Proofs.YtidkpnabdfiilaaGreatDoor

namespace Go.Proofs.YtidkpnabdfiilaaGreatDoor
open Go.RowKit Go.Shelf

def firstS (s : ByteArray) : ByteArray := s.extract 0 (slashAt s.data.toList)
def restS (s : ByteArray) : ByteArray := s.extract (slashAt s.data.toList + 1) s.size
def moreS (s : ByteArray) : Bool := decide (slashAt s.data.toList < s.size)
theorem firstS_none {s : ByteArray} (h : slashAt s.data.toList = s.size) : firstS s = s := by
  apply bOf_inj; rw [firstS, ex_take, h, ← sz, List.take_length]
theorem restS_none {s : ByteArray} (h : slashAt s.data.toList = s.size) : restS s = ⟨#[]⟩ := by
  apply bOf_inj; rw [restS, ex_end, h, List.drop_of_length_le (by rw [sz]; omega)]
theorem firstS_size (s : ByteArray) : (firstS s).size ≤ s.size := by
  rw [← sz, ← sz, firstS, ex_take, List.length_take]; omega
theorem restS_size {s : ByteArray} (h : moreS s = true) : (restS s).size < s.size := by
  rw [moreS, decide_eq_true_eq] at h
  rw [← sz, ← sz, restS, ex_end, List.length_drop, sz]; omega
theorem split_cut (s : ByteArray) : (split s.data.toList).all nameB = (nameS (firstS s) && (!moreS s || (split (restS s).data.toList).all nameB)) := by
  by_cases h : slashAt s.data.toList < s.size
  · have hm : moreS s = true := decide_eq_true h
    rw [split_some (by rw [sz]; exact h), List.all_cons, hm, nameS, firstS, restS, ex_take, ex_end]
    simp
  · have e : slashAt s.data.toList = s.size := by have := slashAt_le s.data.toList; rw [sz] at this; omega
    have hm : moreS s = false := decide_eq_false h
    rw [split_none (by rw [sz]; exact e), hm, firstS_none e, nameS]
    simp
theorem r9cut_any (s : ByteArray) (w : World) (hs : s.size ≤ 40000) :
    Calls Tryz.prog 90 #[.string s] w fun e w' => e = .returned (.tuple #[.string (firstS s), .string (restS s), .bool (moreS s)]) ∧ ∃ n, w' = w.drewN n := by
  go_enter Tryz.func90, Tryz.ntmps90
  go_wp2
  go_loop [5] (fun i => ∃ k : Nat, k ≤ s.size ∧ i = .int .i64 k ∧ Hid (k ≤ slashAt s.data.toList)) (fun i => s.size - (intOf i).toNat)
  case atStart => exact ⟨0, Nat.zero_le _, rfl, Nat.zero_le _⟩
  case round =>
    obtain ⟨k, hk, rfl, HK⟩ := hrel
    by_cases hlt : k < s.size
    · have hg := getD_at s k hlt
      have hi0 : (0 : Int) ≤ (k : Int) := by omega
      have hi1 : (k : Int) < (s.size : Int) := by omega
      by_cases hc : s[k] = 47
      · have hb : ((s[k].toNat : Int) == 47) = true := by rw [byteb]; simp [hc]
        have e : slashAt s.data.toList = k := slashAt_at HK.out (by rw [sz]; exact hlt) (by rw [hg, hc])
        have H1 : Hid (firstS s = s.extract 0 k) := by show _ = _; rw [firstS, e]
        have H2 : Hid (restS s = s.extract (k + 1) s.size) := by show _ = _; rw [restS, e]
        have H3 : Hid (moreS s = true) := by show _ = _; rw [moreS, e]; exact decide_eq_true hlt
        clear hg hc e HK
        have hw1 : IntKind.i64.wrap ((k : Int) + 1) = ((k + 1 : Nat) : Int) := by simp [IntKind.wrap, IntKind.signed, IntKind.bits]; omega
        go_wp2
        go_quiet (fail)
        go_wp2
        refine bodyPost_ret (v := .tuple #[.string (s.extract 0 k), .string (s.extract (k + 1) s.size), .bool true]) (by simp [results, Tryz.results90, go_sem]) rfl ?_
        exact ⟨by rw [H1.out, H2.out, H3.out], _, rfl⟩
      · have hb : ((s[k].toNat : Int) == 47) = false := by rw [byteb]; simp [hc]
        have HK2 : Hid (k + 1 ≤ slashAt s.data.toList) := slashAt_next HK.out (by rw [sz]; exact hlt) (by rw [hg]; exact hc)
        clear hg hc
        go_wp2
        go_round
        case rel => exact ⟨k + 1, by omega, by go_num, HK2⟩
        case measure => simp [intOf]; omega
    · have e : slashAt s.data.toList = s.size := by have := slashAt_le s.data.toList; have := HK.out; rw [sz] at *; omega
      have H1 : Hid (firstS s = s) := firstS_none e
      have H2 : Hid (restS s = ⟨#[]⟩) := restS_none e
      have H3 : Hid (moreS s = false) := by show _ = _; rw [moreS, e]; exact decide_eq_false (by omega)
      clear e
      go_wp2
      refine bodyPost_ret (v := .tuple #[.string s, .string ⟨#[]⟩, .bool false]) (by simp [results, Tryz.results90, go_sem]) rfl ?_
      exact ⟨by rw [H1.out, H2.out, H3.out], 0, rfl⟩
def strSz : Value → Nat
  | .string s => s.size
  | _ => 0
theorem r9Path_any (s : ByteArray) (w : World) (hs : s.size ≤ 40000) :
    Calls Tryz.prog 55 #[.string s] w fun e w' => e = .returned (.bool (pathS s)) ∧ ∃ n, w' = w.drewN n := by
  by_cases h100 : 100 < s.size
  · have H : Hid (pathS s = false) := path_long h100
    have hd : decide (100 < (s.size : Int)) = true := decide_eq_true (by omega)
    go_enter Tryz.func55, Tryz.ntmps55
    go_wp2
    go_ret
    exact ⟨ret_bool (by rw [H.out]), 0, rfl⟩
  have hd : decide (100 < (s.size : Int)) = false := decide_eq_false (by omega)
  have H0 : Hid (pathS s = (split s.data.toList).all nameB) := by
    show _ = _; rw [pathS, pathB, sz, decide_eq_true (by omega), Bool.true_and]
  go_enter Tryz.func55, Tryz.ntmps55
  go_wp2
  go_loopw [0] (fun i wr => ∃ t : ByteArray, i = .string t ∧ t.size ≤ 100 ∧ Hid (pathS s = (split t.data.toList).all nameB) ∧ Hid (∃ n, wr = w.drewN n)) (fun i _ => strSz i)
  case atStart => exact ⟨s, rfl, by omega, H0, 0, rfl⟩
  case round =>
    obtain ⟨t, rfl, ht, HP, HW⟩ := hrel
    have HC := Lib.hid (split_cut t)
    have hfs := firstS_size t
    have HR : Hid (moreS t = true → (restS t).size < t.size) := restS_size
    go_wp2_with (fail)
    refine (r9cut_any t _ (by omega)).mono ?_
    rintro e w1 ⟨rfl, n1, rfl⟩
    have HW1 : Hid (∃ n, wr.drewN n1 = w.drewN n) := by obtain ⟨n, rfl⟩ := HW.out; exact ⟨_, World.drewN_drewN _ _ _⟩
    clear HW
    generalize firstS t = a at *
    generalize restS t = r at *
    cases hn : nameS a with
    | false =>
      have H : Hid (pathS s = false) := by show _ = _; rw [HP.out, HC.out, hn]; rfl
      have HN := Lib.hid hn
      clear hn
      go_wp2_with (go_at_call 91; refine (rValidName_any a _ (by omega)).mono ?_; rintro e w' ⟨rfl, rfl⟩; rw [HN.out])
      go_ret
      exact ⟨ret_bool (by rw [H.out]), HW1.out⟩
    | true =>
      have HN := Lib.hid hn
      cases hm : moreS t with
      | false =>
        have H : Hid (pathS s = true) := by show _ = _; rw [HP.out, HC.out, hn, hm]; rfl
        clear hn hm
        go_wp2_with (go_at_call 91; refine (rValidName_any a _ (by omega)).mono ?_; rintro e w' ⟨rfl, rfl⟩; rw [HN.out])
        go_ret
        exact ⟨ret_bool (by rw [H.out]), HW1.out⟩
      | true =>
        have H : Hid (pathS s = (split r.data.toList).all nameB) := by show _ = _; rw [HP.out, HC.out, hn, hm]; rfl
        have hrs := HR.out hm
        clear hn hm
        go_wp2_with (go_at_call 91; refine (rValidName_any a _ (by omega)).mono ?_; rintro e w' ⟨rfl, rfl⟩; rw [HN.out])
        go_roundw
        case rel => exact ⟨r, rfl, by omega, H, HW1⟩
        case measure => simp [strSz]; omega
theorem r9Below_any (d p : ByteArray) (w : World) (hd : d.size ≤ 40000) :
    Calls Tryz.prog 58 #[.string d, .string p] w fun e w' => e = .returned (.bool (belowB d.data.toList p.data.toList)) ∧ w = w' := by
  by_cases hlt : d.size < p.size
  · have hg := getD_at p d.size hlt
    have hi0 : (0 : Int) ≤ (d.size : Int) := by omega
    have hi1 : (d.size : Int) < (p.size : Int) := by omega
    have hi2 : (d.size : Int) ≤ (p.size : Int) := by omega
    cases he : ((p.extract 0 d.size).toList == d.toList) with
    | false =>
      have H : Hid (belowB d.data.toList p.data.toList = false) := by
        show _ = _
        rw [tl, tl, ex_take] at he
        rw [belowB, sz, he]; simp
      clear hg
      go_enter Tryz.func58, Tryz.ntmps58
      go_wp2
      go_ret
      exact ⟨ret_bool (by rw [H.out]), rfl⟩
    | true =>
      have H : Hid (belowB d.data.toList p.data.toList = ((p[d.size].toNat : Int) == 47)) := by
        show _ = _
        rw [tl, tl, ex_take] at he
        rw [belowB, sz, sz, he, hg, decide_eq_true hlt, byteb]; rfl
      clear hg
      go_enter Tryz.func58, Tryz.ntmps58
      go_wp2
      go_ret
      exact ⟨ret_bool (by rw [H.out]), rfl⟩
  · have H : Hid (belowB d.data.toList p.data.toList = false) := by
      show _ = _
      rw [belowB, sz, sz, decide_eq_false hlt]; rfl
    go_enter Tryz.func58, Tryz.ntmps58
    go_wp2
    go_ret
    exact ⟨ret_bool (by rw [H.out]), rfl⟩
end Go.Proofs.YtidkpnabdfiilaaGreatDoor

namespace Go.Proofs.YtidkpnabdfiilaaGreatDoor
open Go.RowKit Go.Shelf
attribute [local go_sem] Oper.semAt_some

theorem r9Below_q (d p : ByteArray) (w : World) (hd : d.size ≤ 40000) {x : Bool} (hx : belowB d.data.toList p.data.toList = x) :
    Calls Tryz.prog 58 #[.string d, .string p] w fun e w' => e = .returned (.bool x) ∧ ∃ n, w' = w.drewN n :=
  (r9Below_any d p w hd).mono fun _ _ h => ⟨by rw [h.1, hx], 0, h.2.symm⟩
set_option maxRecDepth 100000 in
set_option maxHeartbeats 2000000 in
theorem r9Check_any (v : Value) (fs : List OFile) (w : World) (hv : Reads w [] (filesT fs) v) (hs : SmallF fs) (hdt : ∀ f ∈ fs, f.data.size ≤ 16000) :
    Calls Tryz.prog 21 #[v] w fun e w' => e = .returned (.int .i64 (treeErr fs)) ∧ Below w.heap.size w w' := by
  obtain ⟨a, cap, rfl, hc1, hc2⟩ := files_val hv
  have HV := Lib.hid hv
  have HS := Lib.hid hs
  have HD := Lib.hid hdt
  have hlen := hs.len
  clear hv hs hdt
  by_cases h0 : 200 < fs.length
  · have H : Hid (treeErr fs = 4) := by show _ = _; unfold treeErr; rw [if_pos h0]
    go_enter Tryz.func21, Tryz.ntmps21
    go_wp2
    go_ret
    exact ⟨ret_int (by rw [H.out]), qrefl _⟩
  have H : Hid (treeErr fs = if treeFrom [] fs = 0 then (if someDir fs fs then 7 else 0) else treeFrom [] fs) := by show _ = _; unfold treeErr; rw [if_neg h0]
  go_enter Tryz.func21, Tryz.ntmps21
  go_wp2
  go_loopw [3] (fun i wr => ∃ k : Nat, k ≤ fs.length ∧ i = .int .i64 k ∧ Below w.heap.size w wr ∧ Hid (treeFrom [] fs = treeFrom (fs.take k) (fs.drop k))) (fun i _ => fs.length - (intOf i).toNat)
  case atStart => exact ⟨0, Nat.zero_le _, rfl, qrefl _, rfl⟩
  case round =>
    obtain ⟨k, hk, rfl, hb, HE⟩ := hrel
    by_cases hlt : k < fs.length
    · obtain ⟨f, hf⟩ : ∃ f, fs[k]? = some f := ⟨_, List.getElem?_eq_getElem hlt⟩
      have HE2 := Lib.hid (HE.out.trans (treeFrom_at hf))
      have hsf := HS.out.each f (List.mem_of_getElem? hf)
      have hdf := HD.out f (List.mem_of_getElem? hf)
      obtain ⟨b, o, rfl, hbb, hcp, hcd⟩ := files_elem (HV.out.below hb) hf
      have hi0 : (0 : Int) ≤ (k : Int) := by omega
      have hi1 : (k : Int) < (fs.length : Int) := by omega
      have HO : Hid (orderBad (fs.take k) f = false ∧ k = 0 ∨ ∃ j g, k = j + 1 ∧ fs[j]? = some g ∧ orderBad (fs.take k) f = leB f.path.data.toList g.path.data.toList) := by
        cases k with
        | zero => exact .inl ⟨orderBad_zero _ _, rfl⟩
        | succ j =>
          obtain ⟨g, hg⟩ : ∃ g, fs[j]? = some g := ⟨_, List.getElem?_eq_getElem (by omega)⟩
          exact .inr ⟨j, g, rfl, hg, orderBad_succ hg⟩
      clear HE hf
      cases hp : pathS f.path with
      | false =>
        have HF : Hid (treeFrom [] fs = 6) := by show _ = _; rw [HE2.out, hp]; rfl
        go_wp2_with (fail)
        refine (r9Path_any _ _ hsf.1).mono ?_
        rintro e w2 ⟨rfl, n2, rfl⟩
        rw [hp]
        go_wp2
        go_ret
        exact ⟨ret_int (by rw [H.out, HF.out]; rfl), below_drewN hb _⟩
      | true =>
        go_wp2_with (fail)
        refine (r9Path_any _ _ hsf.1).mono ?_
        rintro e w2 ⟨rfl, n2, rfl⟩
        rw [hp]
        have hb2 := below_drewN hb n2
        have hcd2 : (wr.drewN n2).cell? ⟨b, o + k * 2 + 1, none⟩ = some (.string f.data) := by simpa using hcd
        have hcp2 : (wr.drewN n2).cell? ⟨b, o + k * 2, none⟩ = some (.string f.path) := by simpa using hcp
        have hbb2 : b < (wr.drewN n2).heap.size := by simpa using hbb
        clear hcd hcp hbb hb
        generalize wr.drewN n2 = w2 at *
        go_wp2_with (fail)
        refine (r9blob_any _ _).mono ?_
        rintro e w3 ⟨rfl, hb3⟩
        go_wp2_with (fail)
        refine (r7Check_blob _ hdf _).mono ?_
        rintro e w4 ⟨rfl, hb4⟩
        have hb24 := qtrans hb3 hb4
        have hcp4 : w4.cell? ⟨b, o + k * 2, none⟩ = some (.string f.path) := ((bcell hb24).1 _ _ hbb2).trans hcp2
        have hbw : Below w.heap.size w w4 := qtrans hb2 hb24
        clear hcd2 hcp2 hb2 hb3 hb4 hbb2 hb24
        go_wp2_with (fail)
        rcases HO.out with ⟨ho, hk0⟩ | ⟨j, g, rfl, hg, ho⟩
        · have HF : Hid (treeFrom [] fs = treeFrom (fs.take (k + 1)) (fs.drop (k + 1))) := by show _ = _; rw [HE2.out, hp, ho]; rfl
          have hkd : decide (0 < (k : Int)) = false := by simp [hk0]
          have hkn : ¬ 0 < k := by omega
          clear ho hk0 HO
          go_quiet (fail)
          go_wp2
          go_roundw
          case rel => exact ⟨_, by omega, by go_num, below_drewN hbw _, HF⟩
          case measure => simp [intOf]; omega
        · obtain ⟨b', o', e', hbb', hgp, -⟩ := files_elem (HV.out.below hbw) hg
          cases e'
          have hkd : decide (0 < ((j : Int) + 1)) = true := decide_eq_true (by omega)
          have hj0 : (0 : Int) ≤ (j : Int) := by omega
          have hj1 : (j : Int) < (fs.length : Int) := by omega
          have hw1 : IntKind.i64.wrap ((j : Int) + 1 - 1) = (j : Int) := by rw [Int.add_sub_cancel]; exact IntWalk.i64_in _ (by omega)
          have HLE : Hid (orderBad (fs.take (j + 1)) f = !(Op.bytesLess g.path.toList f.path.toList)) := by show _ = _; rw [ho, leB_not, tl, tl]
          clear ho HO hg
          cases hle : (Op.bytesLess g.path.toList f.path.toList) with
          | false =>
            have HF : Hid (treeFrom [] fs = 10) := by show _ = _; rw [HE2.out, hp, HLE.out, hle]; rfl
            go_quiet (fail)
            go_wp2
            go_ret
            exact ⟨ret_int (by rw [H.out, HF.out]; rfl), below_drewN hbw _⟩
          | true =>
            have HF : Hid (treeFrom [] fs = treeFrom (fs.take (j + 1 + 1)) (fs.drop (j + 1 + 1))) := by show _ = _; rw [HE2.out, hp, HLE.out, hle]; rfl
            go_quiet (fail)
            go_wp2
            go_roundw
            case rel => exact ⟨_, by omega, by go_num, below_drewN hbw _, HF⟩
            case measure => simp [intOf]; omega
    · have HF : Hid (treeFrom [] fs = 0) := by
        show _ = _
        rw [HE.out, List.drop_eq_nil_of_le (by omega)]; rfl
      have H2 : Hid (treeErr fs = if someDir fs fs then 7 else 0) := by show _ = _; rw [H.out, HF.out, if_pos rfl]
      clear HE HF H
      generalize wr = wo at *
      have HVo := Lib.hid (HV.out.below hb)
      go_wp2
      go_loopw [4] (fun i wr => ∃ q : Nat, q ≤ fs.length ∧ i = .int .i64 q ∧ Hid (∃ n, wr = wo.drewN n) ∧ Hid (∀ (j : Nat) (f : OFile), j < q → fs[j]? = some f → (fs.any fun g => belowB f.path.data.toList g.path.data.toList) = false)) (fun i _ => fs.length - (intOf i).toNat)
      case atStart => exact ⟨0, Nat.zero_le _, rfl, ⟨0, rfl⟩, fun j f hj => by omega⟩
      case round =>
        obtain ⟨q, hq, rfl, HW, HN⟩ := hrel
        by_cases hql : q < fs.length
        · obtain ⟨f, hf⟩ : ∃ f, fs[q]? = some f := ⟨_, List.getElem?_eq_getElem hql⟩
          have hsf := HS.out.each f (List.mem_of_getElem? hf)
          have HFQ := Lib.hid hf
          clear hf
          obtain ⟨nw, rfl⟩ := HW.out
          have HVn := Lib.hid (HVo.out.drewN nw)
          have HB := Lib.hid (below_drewN hb nw)
          have HWP : Hid (∃ n, wo.drewN nw = wo.drewN n) := ⟨nw, rfl⟩
          generalize wo.drewN nw = wp at *
          go_wp2
          go_loopw [5] (fun i wr => ∃ r : Nat, r ≤ fs.length ∧ i = .int .i64 r ∧ Hid (∃ n, wr = wp.drewN n) ∧ Hid (∀ (j : Nat) (g : OFile), j < r → fs[j]? = some g → belowB f.path.data.toList g.path.data.toList = false)) (fun i _ => fs.length - (intOf i).toNat)
          case atStart => exact ⟨0, Nat.zero_le _, rfl, ⟨0, rfl⟩, fun j f hj => by omega⟩
          case round =>
            obtain ⟨r, hr, rfl, HW1, HN1⟩ := hrel
            by_cases hrl : r < fs.length
            · obtain ⟨g, hg⟩ : ∃ g, fs[r]? = some g := ⟨_, List.getElem?_eq_getElem hrl⟩
              obtain ⟨nw, rfl⟩ := HW1.out
              have HR := Lib.hid (HVn.out.drewN nw)
              have HWR : Hid (∃ n, wp.drewN nw = wp.drewN n) := ⟨nw, rfl⟩
              have HBR := Lib.hid (below_drewN HB.out nw)
              generalize wp.drewN nw = wx at *
              obtain ⟨b1, o1, rfl, hb1, hp1, -⟩ := files_elem HR.out HFQ.out
              obtain ⟨b2, o2, e2, hb2, hp2, -⟩ := files_elem HR.out hg
              cases e2
              have hq0 : (0 : Int) ≤ (q : Int) := by omega
              have hq1 : (q : Int) < (fs.length : Int) := by omega
              have hr0 : (0 : Int) ≤ (r : Int) := by omega
              have hr1 : (r : Int) < (fs.length : Int) := by omega
              cases hbw : belowB f.path.data.toList g.path.data.toList with
              | true =>
                have HF : Hid (treeErr fs = 7) := by
                  show _ = _
                  rw [H2.out, someDir_below]
                  have : (fs.any fun f => fs.any fun g => belowB f.path.data.toList g.path.data.toList) = true := by
                    rw [List.any_eq_true]
                    refine ⟨f, List.mem_of_getElem? HFQ.out, ?_⟩
                    rw [List.any_eq_true]
                    exact ⟨g, List.mem_of_getElem? hg, hbw⟩
                  rw [this]; rfl
                clear hg
                go_wp2
                go_quiet ((go_at_call 58; exact Calls.quiet_of (r9Below_q f.path g.path _ hsf.1 hbw)))
                go_wp2
                go_ret
                exact ⟨ret_int (by rw [HF.out]), below_drewN HBR.out _⟩
              | false =>
                have HN2 : Hid (∀ (j : Nat) (g : OFile), j < r + 1 → fs[j]? = some g → belowB f.path.data.toList g.path.data.toList = false) := fun j g' hj hg' => by
                  by_cases e : j = r
                  · rw [e, hg] at hg'; cases hg'; exact hbw
                  · exact HN1.out j g' (by omega) hg'
                clear hg
                go_wp2
                go_quiet ((go_at_call 58; exact Calls.quiet_of (r9Below_q f.path g.path _ hsf.1 hbw)))
                go_wp2
                go_roundw
                case rel => exact ⟨r + 1, by omega, by go_num, by obtain ⟨n, hn⟩ := HWR.out; rw [hn]; exact ⟨_, World.drewN_drewN _ _ _⟩, HN2⟩
                case measure => simp [intOf]; omega
            · have HN2 : Hid (∀ (j : Nat) (f : OFile), j < q + 1 → fs[j]? = some f → (fs.any fun g => belowB f.path.data.toList g.path.data.toList) = false) := fun j f' hj hf' => by
                by_cases e : j = q
                · rw [e, HFQ.out] at hf'; cases hf'
                  rw [List.any_eq_false]
                  intro g hg
                  obtain ⟨i, hi, rfl⟩ := List.getElem_of_mem hg
                  rw [HN1.out i _ (by omega) (List.getElem?_eq_getElem hi)]; simp
                · exact HN.out j f' (by omega) hf'
              go_wp2
              go_roundw
              case rel => exact ⟨q + 1, by omega, by go_num, by obtain ⟨n, hn⟩ := HWP.out; obtain ⟨m, hm⟩ := HW1.out; rw [hm, hn]; exact ⟨_, World.drewN_drewN _ _ _⟩, HN2⟩
              case measure => simp [intOf]; omega
        · have HF : Hid (treeErr fs = 0) := by
            show _ = _
            rw [H2.out, someDir_below]
            have : (fs.any fun f => fs.any fun g => belowB f.path.data.toList g.path.data.toList) = false := by
              rw [List.any_eq_false]
              intro f hf
              obtain ⟨i, hi, rfl⟩ := List.getElem_of_mem hf
              rw [HN.out i _ (by omega) (List.getElem?_eq_getElem hi)]; simp
            rw [this]; rfl
          go_wp2
          go_ret
          exact ⟨ret_int (by rw [HF.out]), by obtain ⟨m, rfl⟩ := HW.out; exact below_drewN hb _⟩
/-! The file of a path. -/
def findF (fs : List OFile) (x : List UInt8) : Option OFile := fs.find? fun f => f.path.data.toList == x
def findD (fs : List OFile) (x : List UInt8) : ByteArray := match findF fs x with | some f => f.data | none => ⟨#[]⟩
def findB (fs : List OFile) (x : List UInt8) : Bool := (findF fs x).isSome
theorem findF_at {fs : List OFile} {k : Nat} {f : OFile} {x : List UInt8} (hf : fs[k]? = some f) (h : ∀ (j : Nat) (g : OFile), j < k → fs[j]? = some g → (g.path.data.toList == x) = false) (hx : (f.path.data.toList == x) = true) : findF fs x = some f := by
  obtain ⟨hk, rfl⟩ := List.getElem?_eq_some_iff.1 hf
  rw [findF, List.find?_eq_some_iff_getElem]
  refine ⟨hx, k, hk, rfl, fun j hj => ?_⟩
  rw [h j _ hj (List.getElem?_eq_getElem (by omega))]; rfl
theorem findF_none {fs : List OFile} {x : List UInt8} (h : ∀ (j : Nat) (g : OFile), fs[j]? = some g → (g.path.data.toList == x) = false) : findF fs x = none := by
  rw [findF, List.find?_eq_none]
  intro f hf
  obtain ⟨i, hi, rfl⟩ := List.getElem_of_mem hf
  rw [h i _ (List.getElem?_eq_getElem hi)]; simp
set_option maxHeartbeats 1000000 in
theorem r9find_any (v : Value) (fs : List OFile) (p : ByteArray) (w : World) (hv : Reads w [] (filesT fs) v) :
    Calls Tryz.prog 59 #[v, .string p] w fun e w' => e = .returned (.tuple #[.string (findD fs p.data.toList), .bool (findB fs p.data.toList)]) ∧ w' = w := by
  obtain ⟨a, cap, rfl, hc1, hc2⟩ := files_val hv
  have HV := Lib.hid hv
  clear hv
  go_enter Tryz.func59, Tryz.ntmps59
  go_wp2
  go_loop [6] (fun i => ∃ k : Nat, k ≤ fs.length ∧ i = .int .i64 k ∧ Hid (∀ (j : Nat) (g : OFile), j < k → fs[j]? = some g → (g.path.data.toList == p.data.toList) = false)) (fun i => fs.length - (intOf i).toNat)
  case atStart => exact ⟨0, Nat.zero_le _, rfl, fun j f hj => by omega⟩
  case round =>
    obtain ⟨k, hk, rfl, HN⟩ := hrel
    by_cases hlt : k < fs.length
    · obtain ⟨f, hf⟩ : ∃ f, fs[k]? = some f := ⟨_, List.getElem?_eq_getElem hlt⟩
      obtain ⟨b, o, rfl, hb, hcp, hcd⟩ := files_elem HV.out hf
      have hi0 : (0 : Int) ≤ (k : Int) := by omega
      have hi1 : (k : Int) < (fs.length : Int) := by omega
      cases he : (f.path.toList == p.toList) with
      | true =>
        have HF := Lib.hid (findF_at hf HN.out (by rw [tl, tl] at he; exact he))
        clear hf
        go_wp2
        go_ret2
        exact ⟨by rw [findD, findB, HF.out]; rfl, rfl⟩
      | false =>
        have HN2 : Hid (∀ (j : Nat) (g : OFile), j < k + 1 → fs[j]? = some g → (g.path.data.toList == p.data.toList) = false) := fun j g hj hg => by
          by_cases e : j = k
          · rw [e, hf] at hg; cases hg; rw [tl, tl] at he; exact he
          · exact HN.out j g (by omega) hg
        clear hf
        go_wp2
        go_round
        case rel => exact ⟨k + 1, by omega, by go_num, HN2⟩
        case measure => simp [intOf]; omega
    · have HF := Lib.hid (findF_none (fs := fs) (x := p.data.toList) (fun j f hj => HN.out j f (by have := (List.getElem?_eq_some_iff.1 hj).1; omega) hj))
      go_wp2
      go_ret2
      exact ⟨by rw [findD, findB, HF.out]; rfl, rfl⟩
theorem r9Find_any (v : Value) (fs : List OFile) (p : ByteArray) (w : World) (hv : Reads w [] (filesT fs) v) :
    Calls Tryz.prog 86 #[v, .string p] w fun e w' => e = .returned (.tuple #[.string (findD fs p.data.toList), .bool (findB fs p.data.toList)]) ∧ w' = w := by
  have HF := Lib.hid (r9find_any v fs p w hv)
  obtain ⟨a, cap, rfl, hc1, hc2⟩ := files_val hv
  go_enter Tryz.func86, Tryz.ntmps86
  go_wp2_with (fail)
  refine HF.out.mono ?_
  rintro e w' ⟨rfl, rfl⟩
  go_wp2
  go_ret2
  exact ⟨rfl, rfl⟩
end Go.Proofs.YtidkpnabdfiilaaGreatDoor
