/- The names of a declaration: bind.checkNames. bind.checkUse. The reference's uses (of layer 24). The reference's CheckDecl. -/
import Derived.Test.YtlcpdhionefmbaaGreatDoorT1
import Derived.Test.YtlcpdhionefmbaaGreatDoorSyH
namespace Go.Proofs.YtlcpdhionefmbaaGreatDoor
open Go.RowKit Go.Shelf
attribute [local go_sem] Oper.semAt_some

def badNm (n : Nat) (s : ByteArray) : Bool := !nmS s && (n == 1 || !isE s)
def nmAt (l : List ByteArray) (i : Nat) : Int := if badNm l.length (sAt l i) then 6 else 0
def namesErr (l : List ByteArray) : Int := if l.length ≠ 1 ∧ l.length ≠ 3 then 1 else nzFrom (nmAt l) l.length 0
set_option maxHeartbeats 4000000 in
theorem bNames_any (l : List ByteArray) (a : Option Addr) (c : Nat) (w : World) (hr : Strs w (.slice a l.length c) l) (hs : ∀ s ∈ l, s.size ≤ 40000) (hl : l.length ≤ 1000000) :
    Calls Tryz.prog 67 #[.slice a l.length c] w fun e w' => e = .returned (.int .i64 (namesErr l)) ∧ Below w.heap.size w w' := by
  have HS := Lib.hid (sAt_size hs)
  have HR := Lib.hid hr
  clear hr hs
  by_cases h13 : l.length ≠ 1 ∧ l.length ≠ 3
  · have HE : Hid (namesErr l = 1) := if_pos h13
    have h1 : ((l.length : Int) != 1) = true := by simp; omega
    have h3 : ((l.length : Int) != 3) = true := by simp; omega
    clear h13
    go_enter Tryz.func67, Tryz.ntmps67
    go_wp2
    go_ret
    exact ⟨ret_int HE.out.symm, qrefl _⟩
  · have HE : Hid (namesErr l = nzFrom (nmAt l) l.length 0) := if_neg h13
    by_cases hq : l.length = 1
    · have h1 : ((l.length : Int) != 1) = false := by simp; omega
      have h3 : ((l.length : Int) == 1) = true := by simp; omega
      have hB : Hid (∀ s, badNm l.length s = !nmS s) := fun s => by rw [badNm, hq]; cases nmS s <;> rfl
      clear h13 hq
      go_enter Tryz.func67, Tryz.ntmps67
      go_wp2
      go_loopw [15] (fun iv wr => ∃ k : Nat, k ≤ l.length ∧ iv = .int .i64 k ∧ Hid (namesErr l = nzFrom (nmAt l) l.length k) ∧ Below w.heap.size w wr) (fun iv _ => l.length - (intOf iv).toNat)
      case atStart => exact ⟨0, Nat.zero_le _, rfl, HE, qrefl _⟩
      case round =>
        obtain ⟨k, hk, rfl, HK, hb⟩ := hrel
        by_cases hkl : k < l.length
        · have hd : decide ((k : Int) < (l.length : Int)) = true := decide_eq_true (by omega)
          obtain ⟨_, _, e, _, _, hcell⟩ := (HR.out.below hb).shape
          obtain ⟨b, o, e', hbl, hc⟩ := hcell k hkl
          cases e
          subst e'
          have ck : wr.cell? ⟨b, o + k, none⟩ = some (.string (sAt l k)) := hc k hkl
          have HL := Lib.hid (isName_any (sAt l k) wr (HS.out k))
          have HN := Lib.hid (nzFrom_at (nmAt l) hkl)
          have HU : Hid (nmAt l k = if badNm l.length (sAt l k) then 6 else 0) := rfl
          have HBk := Lib.hid (hB.out (sAt l k))
          have hEk := isE_tl (sAt l k)
          cases hnm : nmS (sAt l k) with
          | true =>
            rw [hnm] at HL HBk
            have HF : Hid (namesErr l = nzFrom (nmAt l) l.length (k + 1)) := by show _ = _; rw [HK.out, HN.out, HU.out, HBk.out]; rfl
            clear HK HN HU hc hcell hEk
            generalize sAt l k = s at *
            go_wp2_with (fail)
            refine HL.out.mono ?_
            rintro e w1 ⟨rfl, hb1⟩
            go_wp2
            go_roundw
            case rel => exact ⟨k + 1, by omega, by go_num, HF, hb.trans (hb1.mono hb.size)⟩
            case measure => simp [intOf]; omega
          | false =>
            rw [hnm] at HL HBk
            have HF : Hid (namesErr l = 6) := by show _ = _; rw [HK.out, HN.out, HU.out, HBk.out]; rfl
            clear HK HN HU hc hcell hEk
            generalize sAt l k = s at *
            go_wp2_with (fail)
            refine HL.out.mono ?_
            rintro e w1 ⟨rfl, hb1⟩
            go_wp2
            go_ret
            exact ⟨ret_int HF.out.symm, hb.trans (hb1.mono hb.size)⟩
        · have hd : decide ((k : Int) < (l.length : Int)) = false := decide_eq_false (by omega)
          have HF : Hid (namesErr l = 0) := by show _ = _; rw [HK.out, nzFrom_end _ (by omega)]
          go_wp2
          go_ret
          exact ⟨ret_int HF.out.symm, hb⟩
    · have h1 : ((l.length : Int) != 1) = true := by simp; omega
      have h2 : ((l.length : Int) != 3) = false := by simp; omega
      have h3 : ((l.length : Int) == 1) = false := by simp; omega
      have hB : Hid (∀ s, badNm l.length s = (!nmS s && !isE s)) := fun s => by rw [badNm, show (l.length == 1) = false from beq_eq_false_iff_ne.2 hq, Bool.false_or]
      clear h13 hq
      go_enter Tryz.func67, Tryz.ntmps67
      go_wp2
      go_loopw [15] (fun iv wr => ∃ k : Nat, k ≤ l.length ∧ iv = .int .i64 k ∧ Hid (namesErr l = nzFrom (nmAt l) l.length k) ∧ Below w.heap.size w wr) (fun iv _ => l.length - (intOf iv).toNat)
      case atStart => exact ⟨0, Nat.zero_le _, rfl, HE, qrefl _⟩
      case round =>
        obtain ⟨k, hk, rfl, HK, hb⟩ := hrel
        by_cases hkl : k < l.length
        · have hd : decide ((k : Int) < (l.length : Int)) = true := decide_eq_true (by omega)
          obtain ⟨_, _, e, _, _, hcell⟩ := (HR.out.below hb).shape
          obtain ⟨b, o, e', hbl, hc⟩ := hcell k hkl
          cases e
          subst e'
          have ck : wr.cell? ⟨b, o + k, none⟩ = some (.string (sAt l k)) := hc k hkl
          have HL := Lib.hid (isName_any (sAt l k) wr (HS.out k))
          have HN := Lib.hid (nzFrom_at (nmAt l) hkl)
          have HU : Hid (nmAt l k = if badNm l.length (sAt l k) then 6 else 0) := rfl
          have HBk := Lib.hid (hB.out (sAt l k))
          have hEk := isE_tl (sAt l k)
          cases hnm : nmS (sAt l k) with
          | true =>
            rw [hnm] at HL HBk
            have HF : Hid (namesErr l = nzFrom (nmAt l) l.length (k + 1)) := by show _ = _; rw [HK.out, HN.out, HU.out, HBk.out]; rfl
            clear HK HN HU hc hcell hEk
            generalize sAt l k = s at *
            go_wp2_with (fail)
            refine HL.out.mono ?_
            rintro e w1 ⟨rfl, hb1⟩
            go_wp2
            go_roundw
            case rel => exact ⟨k + 1, by omega, by go_num, HF, hb.trans (hb1.mono hb.size)⟩
            case measure => simp [intOf]; omega
          | false =>
            rw [hnm] at HL HBk
            cases hE : isE (sAt l k) with
            | true =>
              rw [hE] at HBk hEk
              have hE2 := hEk.symm
              have HF : Hid (namesErr l = nzFrom (nmAt l) l.length (k + 1)) := by show _ = _; rw [HK.out, HN.out, HU.out, HBk.out]; rfl
              clear HK HN HU hc hcell hEk
              generalize sAt l k = s at *
              go_wp2_with (fail)
              refine HL.out.mono ?_
              rintro e w1 ⟨rfl, hb1⟩
              go_wp2
              go_roundw
              case rel => exact ⟨k + 1, by omega, by go_num, HF, hb.trans (hb1.mono hb.size)⟩
              case measure => simp [intOf]; omega
            | false =>
              rw [hE] at HBk hEk
              have hE2 := hEk.symm
              have HF : Hid (namesErr l = 6) := by show _ = _; rw [HK.out, HN.out, HU.out, HBk.out]; rfl
              clear HK HN HU hc hcell hEk
              generalize sAt l k = s at *
              go_wp2_with (fail)
              refine HL.out.mono ?_
              rintro e w1 ⟨rfl, hb1⟩
              go_wp2
              go_ret
              exact ⟨ret_int HF.out.symm, hb.trans (hb1.mono hb.size)⟩
        · have hd : decide ((k : Int) < (l.length : Int)) = false := decide_eq_false (by omega)
          have HF : Hid (namesErr l = 0) := by show _ = _; rw [HK.out, nzFrom_end _ (by omega)]
          go_wp2
          go_ret
          exact ⟨ret_int HF.out.symm, hb⟩
end Go.Proofs.YtlcpdhionefmbaaGreatDoor

namespace Go.Proofs.YtlcpdhionefmbaaGreatDoor
open Go.RowKit Go.Shelf
attribute [local go_sem] Oper.semAt_some

def aliasEq (l : List ByteArray) (i k : Nat) : Bool := (aliasS (sAt l k)).toList == (aliasS (sAt l i)).toList
def dupB (l : List ByteArray) (i : Nat) : Bool := (List.range i).any (aliasEq l i)
def useErr (label : ByteArray) (l : List ByteArray) (i : Nat) : Int := if nmS (aliasS (sAt l i)) then (if dupB l i then 7 else if (sAt l i).toList == label.toList then 23 else 0) else 6
theorem range_any_at {f : Nat → Bool} {n k : Nat} (h : k < n) : (((List.range n).drop k).any f) = (f k || ((List.range n).drop (k + 1)).any f) := by
  rw [List.drop_eq_getElem_cons (by rw [List.length_range]; exact h), List.any_cons, List.getElem_range]
theorem range_any_end {f : Nat → Bool} {n k : Nat} (h : n ≤ k) : (((List.range n).drop k).any f) = false := by
  rw [List.drop_eq_nil_of_le (by rw [List.length_range]; exact h)]; rfl
set_option maxHeartbeats 4000000 in
theorem checkUse_any (label : ByteArray) (l : List ByteArray) (i : Nat) (hi : i < l.length) (a : Option Addr) (c : Nat) (w : World) (hr : Strs w (.slice a l.length c) l) (hs : ∀ s ∈ l, s.size ≤ 40000) (hl : l.length ≤ 1000000) :
    Calls Tryz.prog 51 #[.string label, .slice a l.length c, .int .i64 i] w fun e w' => e = .returned (.int .i64 (useErr label l i)) ∧ Below w.heap.size w w' := by
  have HS := Lib.hid (sAt_size hs)
  have HR := Lib.hid hr
  obtain ⟨_, _, e, hlc, hcm, hcell⟩ := hr.shape
  obtain ⟨b, o, e', hbl, hc⟩ := hcell i hi
  cases e
  subst e'
  have HC := Lib.hid hc
  have ci : w.cell? ⟨b, o + i, none⟩ = some (.string (sAt l i)) := hc i hi
  have HA := Lib.hid (Alias_any (sAt l i) w (HS.out i))
  have hasz := Nat.le_trans (aliasS_size (sAt l i)) (HS.out i)
  have HN := Lib.hid (fun w => isName_any (aliasS (sAt l i)) w hasz)
  have hU : Hid (useErr label l i = if nmS (aliasS (sAt l i)) then (if dupB l i then 7 else if (sAt l i).toList == label.toList then 23 else 0) else 6) := rfl
  have HD : Hid (dupB l i = ((List.range i).drop 0).any (aliasEq l i)) := rfl
  have HQ : Hid (∀ k, aliasEq l i k = ((aliasS (sAt l k)).toList == (aliasS (sAt l i)).toList)) := fun _ => rfl
  clear hr hs hc hcell
  generalize aliasS (sAt l i) = al at *
  cases hn : nmS al with
  | false =>
    rw [hn] at HN hU
    clear HD HQ
    generalize sAt l i = s at *
    go_enter Tryz.func51, Tryz.ntmps51
    go_wp2_with (fail)
    refine HA.out.mono ?_
    rintro e w1 ⟨rfl, hb1⟩
    go_wp2_with (fail)
    refine (HN.out _).mono ?_
    rintro e w2 ⟨rfl, hb2⟩
    go_wp2
    go_ret
    exact ⟨ret_int (by rw [hU.out]; rfl), qtrans hb1 hb2⟩
  | true =>
    rw [hn, if_pos rfl] at hU
    rw [hn] at HN
    go_enter Tryz.func51, Tryz.ntmps51
    go_wp2_with (fail)
    refine HA.out.mono ?_
    rintro e w1 ⟨rfl, hb1⟩
    go_wp2_with (fail)
    refine (HN.out _).mono ?_
    rintro e w2 ⟨rfl, hb2⟩
    have hic : (i : Int) ≤ (c : Int) := by omega
    go_wp2
    go_loopw [22] (fun iv wr => ∃ k : Nat, k ≤ i ∧ iv = .int .i64 k ∧ Hid (dupB l i = ((List.range i).drop k).any (aliasEq l i)) ∧ Below w.heap.size w wr) (fun iv _ => i - (intOf iv).toNat)
    case atStart => exact ⟨0, Nat.zero_le _, rfl, HD, qtrans hb1 hb2⟩
    case round =>
      obtain ⟨k, hk, rfl, HK, hb⟩ := hrel
      by_cases hkl : k < i
      · have hd : decide ((k : Int) < (i : Int)) = true := decide_eq_true (by omega)
        have ck : wr.cell? ⟨b, o + k, none⟩ = some (.string (sAt l k)) := (hb.cell (p := ⟨b, o + k, none⟩) hbl).trans (HC.out k (by omega))
        have hbl2 : b < wr.heap.size := Nat.lt_of_lt_of_le hbl hb.size
        have HL := Lib.hid (Alias_any (sAt l k) wr (HS.out k))
        have HT := Lib.hid (HK.out.trans (range_any_at (f := aliasEq l i) hkl))
        have hq := HQ.out k
        generalize aliasS (sAt l k) = bl at *
        generalize sAt l k = s at *
        cases he : (bl.toList == al.toList) with
        | true =>
          have HF : Hid (dupB l i = true) := by show _ = _; rw [HT.out, hq, he]; rfl
          clear hq HT HK
          go_wp2_with (fail)
          refine HL.out.mono ?_
          rintro e w3 ⟨rfl, hb3⟩
          go_wp2
          go_ret
          exact ⟨ret_int (by rw [hU.out, HF.out]; rfl), hb.trans (hb3.mono hb.size)⟩
        | false =>
          have HF : Hid (dupB l i = ((List.range i).drop (k + 1)).any (aliasEq l i)) := by show _ = _; rw [HT.out, hq, he]; rfl
          clear hq HT HK
          go_wp2_with (fail)
          refine HL.out.mono ?_
          rintro e w3 ⟨rfl, hb3⟩
          go_wp2
          go_roundw
          case rel => exact ⟨k + 1, by omega, by go_num, HF, hb.trans (hb3.mono hb.size)⟩
          case measure => simp [intOf]; omega
      · have hd : decide ((k : Int) < (i : Int)) = false := decide_eq_false (by omega)
        have HF : Hid (dupB l i = false) := by show _ = _; rw [HK.out, range_any_end (by omega)]
        have ci2 : wr.cell? ⟨b, o + i, none⟩ = some (.string (sAt l i)) := (hb.cell (p := ⟨b, o + i, none⟩) hbl).trans (HC.out i hi)
        have hbl2 : b < wr.heap.size := Nat.lt_of_lt_of_le hbl hb.size
        rw [HF.out] at hU
        generalize sAt l i = s at *
        cases he : (s.toList == label.toList) with
        | true =>
          rw [he] at hU
          go_wp2
          go_ret
          exact ⟨ret_int (by rw [hU.out]; rfl), hb⟩
        | false =>
          rw [he] at hU
          go_wp2
          go_ret
          exact ⟨ret_int (by rw [hU.out]; rfl), hb⟩
end Go.Proofs.YtlcpdhionefmbaaGreatDoor

namespace Go.Proofs.YtlcpdhionefmbaaGreatDoor
open Go.RowKit Go.Shelf
attribute [local go_sem] Oper.semAt_some

theorem rAlias_q (s : ByteArray) (w : World) (hs : s.size ≤ 40000) :
    Calls Tryz.prog 94 #[.string s] w fun e w' => e = .returned (.string (aliasS s)) ∧ w' = w :=
  (rAlias_any s w hs).mono fun _ _ h => ⟨h.1, h.2.symm⟩
attribute [local irreducible] aliasS
set_option maxRecDepth 100000 in
set_option maxHeartbeats 1000000 in
theorem r24uses_any (label : ByteArray) (l : List ByteArray) (a : Option Addr) (c : Nat) (w : World) (hr : Strs w (.slice a l.length c) l) (hs : ∀ s ∈ l, s.size ≤ 40000) (hl : l.length ≤ 1000000) :
    Calls Tryz.prog 76 #[.string label, .slice a l.length c] w fun e w' => e = .returned (.int .i64 (nzFrom (useErr label l) l.length 0)) ∧ Below w.heap.size w w' := by
  have HS := Lib.hid (sAt_size hs)
  have HR := Lib.hid hr
  have HE : Hid (nzFrom (useErr label l) l.length 0 = nzFrom (useErr label l) l.length 0) := rfl
  clear hr hs
  generalize hT : nzFrom (useErr label l) l.length 0 = T at *
  have HT := Lib.hid hT
  clear hT
  go_enter Tryz.func76, Tryz.ntmps76
  go_wp2
  go_loopw [5] (fun iv wr => ∃ i : Nat, i ≤ l.length ∧ iv = .int .i64 i ∧ Hid (nzFrom (useErr label l) l.length i = T) ∧ Below w.heap.size w wr) (fun iv _ => l.length - (intOf iv).toNat)
  case atStart => exact ⟨0, Nat.zero_le _, rfl, HT, qrefl _⟩
  case round =>
    obtain ⟨i, hil, rfl, HI, hb⟩ := hrel
    generalize wr = wo at *
    by_cases hi : i < l.length
    · have hd : decide ((i : Int) < (l.length : Int)) = true := decide_eq_true (by omega)
      obtain ⟨_, _, e, hlc, hcm, hcell⟩ := (HR.out.below hb).shape
      obtain ⟨b, o, e', hbl, hc⟩ := hcell i hi
      cases e
      subst e'
      have HC := Lib.hid hc
      have ci : wo.cell? ⟨b, o + i, none⟩ = some (.string (sAt l i)) := hc i hi
      have hsi := HS.out i
      have HA := Lib.hid (rAlias_any (sAt l i) wo hsi)
      have hasz := Nat.le_trans (aliasS_size (sAt l i)) hsi
      have HN := Lib.hid (fun w => rName_any (aliasS (sAt l i)) w hasz)
      have hU : Hid (useErr label l i = if nmS (aliasS (sAt l i)) then (if dupB l i then 7 else if (sAt l i).toList == label.toList then 23 else 0) else 6) := rfl
      have HZ := Lib.hid (HI.out.symm.trans (nzFrom_at (useErr label l) hi))
      have HD : Hid (dupB l i = ((List.range i).drop 0).any (aliasEq l i)) := rfl
      have HQ : Hid (∀ k, aliasEq l i k = ((aliasS (sAt l k)).toList == (aliasS (sAt l i)).toList)) := fun _ => rfl
      have HAi : Hid (aliasS (sAt l i) = aliasS (sAt l i)) := rfl
      clear hc hcell
      generalize hal : aliasS (sAt l i) = al at *
      have HAL := Lib.hid hal
      clear hal HAi
      cases hn : nmS al with
      | false =>
        rw [hn] at HN hU
        have HF : Hid (T = 6) := by show _ = _; rw [HZ.out, hU.out]; rfl
        clear HD HQ HZ hU HI
        generalize sAt l i = s at *
        go_wp2_with (fail)
        refine HA.out.mono ?_
        rintro e w1 ⟨rfl, rfl⟩
        go_wp2_with (fail)
        refine (HN.out _).mono ?_
        rintro e w2 ⟨rfl, hb2⟩
        go_wp2
        go_ret
        exact ⟨ret_int HF.out.symm, hb.trans (hb2.mono hb.size)⟩
      | true =>
        rw [hn, if_pos rfl] at hU
        rw [hn] at HN
        go_wp2_with (fail)
        refine HA.out.mono ?_
        rintro e w1 ⟨rfl, rfl⟩
        go_wp2_with (fail)
        refine (HN.out _).mono ?_
        rintro e w2 ⟨rfl, hb2⟩
        go_wp2
        go_loopw [6] (fun iv wr => ∃ k : Nat, k ≤ i ∧ iv = .int .i64 k ∧ Hid (dupB l i = ((List.range i).drop k).any (aliasEq l i)) ∧ Below wo.heap.size wo wr) (fun iv _ => i - (intOf iv).toNat)
        case atStart => exact ⟨0, Nat.zero_le _, rfl, HD, hb2⟩
        case round =>
          obtain ⟨k, hk, rfl, HK, hbk⟩ := hrel
          have hbb := hb.trans (hbk.mono hb.size)
          have ci2 : wr.cell? ⟨b, o + i, none⟩ = some (.string (sAt l i)) := (hbk.cell (p := ⟨b, o + i, none⟩) hbl).trans (HC.out i hi)
          have hbl2 : b < wr.heap.size := Nat.lt_of_lt_of_le hbl hbk.size
          by_cases hkl : k < i
          · have hd : decide ((k : Int) < (i : Int)) = true := decide_eq_true (by omega)
            have ck : wr.cell? ⟨b, o + k, none⟩ = some (.string (sAt l k)) := (hbk.cell (p := ⟨b, o + k, none⟩) hbl).trans (HC.out k (by omega))
            have hkn : (k : Int) < (l.length : Int) := by omega
            have HT2 := Lib.hid (HK.out.trans (range_any_at (f := aliasEq l i) hkl))
            have hq := HQ.out k
            have hsk := HS.out k
            rw [← HAL.out] at hq
            generalize sAt l k = s at *
            generalize sAt l i = t at *
            cases he : ((aliasS s).toList == (aliasS t).toList) with
            | true =>
              have HF : Hid (dupB l i = true) := by show _ = _; rw [HT2.out, hq, he]; rfl
              have HFT : Hid (T = 7) := by show _ = _; rw [HZ.out, hU.out, HF.out]; rfl
              clear hq HT2 HK
              go_wp2_with (fail)
              go_quiet ((go_at_call 94; exact Calls.quiet_of_same (rAlias_q _ _ (by assumption))))
              go_wp2
              go_ret
              exact ⟨ret_int HFT.out.symm, below_drewN hbb _⟩
            | false =>
              have HF : Hid (dupB l i = ((List.range i).drop (k + 1)).any (aliasEq l i)) := by show _ = _; rw [HT2.out, hq, he]; rfl
              clear hq HT2 HK
              go_wp2_with (fail)
              go_quiet ((go_at_call 94; exact Calls.quiet_of_same (rAlias_q _ _ (by assumption))))
              go_wp2
              go_roundw
              case rel => exact ⟨k + 1, by omega, by go_num, HF, below_drewN hbk _⟩
              case measure => simp [intOf]; omega
          · have hd : decide ((k : Int) < (i : Int)) = false := decide_eq_false (by omega)
            have HF : Hid (dupB l i = false) := by show _ = _; rw [HK.out, range_any_end (by omega)]
            rw [HF.out] at hU
            generalize sAt l i = s at *
            cases he : (s.toList == label.toList) with
            | true =>
              rw [he] at hU
              have HFT : Hid (T = 23) := by show _ = _; rw [HZ.out, hU.out]; rfl
              go_wp2
              go_ret
              exact ⟨ret_int HFT.out.symm, hbb⟩
            | false =>
              rw [he] at hU
              have HFT : Hid (nzFrom (useErr label l) l.length (i + 1) = T) := by show _ = _; rw [HZ.out, hU.out]; rfl
              go_wp2
              go_roundw
              case rel => exact ⟨i + 1, by omega, by go_num, HFT, hbb⟩
              case measure => simp [intOf]; omega
    · have hd : decide ((i : Int) < (l.length : Int)) = false := decide_eq_false (by omega)
      have HF : Hid (T = 0) := by show _ = _; rw [← HI.out, nzFrom_end _ (by omega)]
      go_wp2
      go_ret
      exact ⟨ret_int HF.out.symm, hb⟩
end Go.Proofs.YtlcpdhionefmbaaGreatDoor

namespace Go.Proofs.YtlcpdhionefmbaaGreatDoor
open Go.RowKit Go.Shelf
attribute [local go_sem] Oper.semAt_some

def rDeclErr (d : ODecl) : Int := if d.id < 0 ∨ 999999 < d.id then 2 else if d.kind < 1 ∨ 3 < d.kind then 9 else if namesErr d.names = 0 then exprErr d.body else namesErr d.names
set_option maxHeartbeats 4000000 in
theorem rCheckDecl_any (d : ODecl) (an : Option Addr) (cn : Nat) (sa : Option Addr) (cs : Nat) (w : World) (hn : Strs w (.slice an d.names.length cn) d.names) (hr : Reads w [] (subsT d.body.subs) (.slice sa d.body.subs.length cs)) (hs : ∀ s ∈ d.names, s.size ≤ 40000) (hl : d.names.length ≤ 1000000)
    (hsm : SmX 40000 d.body) (hN : nodesN d.body ≤ 4000000) :
    Calls Tryz.prog 95 #[declV d an cn sa cs] w fun e w' => e = .returned (.int .i64 (rDeclErr d)) ∧ Below w.heap.size w w' := by
  have HX := Lib.hid (fun w h => rCheckExpr_any d.body sa cs w h hsm hN)
  have HSR := Lib.hid hr
  have HS := Lib.hid (sAt_size hs)
  have HR := Lib.hid hn
  have HE : Hid (rDeclErr d = if d.id < 0 ∨ 999999 < d.id then 2 else if d.kind < 1 ∨ 3 < d.kind then 9 else if namesErr d.names = 0 then exprErr d.body else namesErr d.names) := rfl
  generalize rDeclErr d = T at *
  clear hr hn hs hsm
  unfold declV exV at *
  have HB := Lib.hid (CBox.new w 50 #[.int .i64 d.id, .int .i64 d.kind, .bool d.pub, .slice an d.names.length cn, .bool d.doubt, .int .i64 d.body.kind, .string d.body.name, .string d.body.more, .int .i64 d.body.num, .int .i64 d.body.den, .slice sa d.body.subs.length cs])
  have hA := qalloc w (.cells #[.int .i64 d.id, .int .i64 d.kind, .bool d.pub, .slice an d.names.length cn, .bool d.doubt, .int .i64 d.body.kind, .string d.body.name, .string d.body.more, .int .i64 d.body.num, .int .i64 d.body.den, .slice sa d.body.subs.length cs] 50)
  by_cases hi0 : d.id < 0
  · have hd0 : decide (d.id < 0) = true := decide_eq_true hi0
    have HF : Hid (T = 2) := by show _ = _; rw [HE.out, if_pos (.inl hi0)]
    clear HE HX
    go_enter Tryz.func95, Tryz.ntmps95
    go_wp2
    go_ret
    exact ⟨ret_int HF.out.symm, hA⟩
  have hd0 : decide (d.id < 0) = false := decide_eq_false hi0
  by_cases hi1 : 999999 < d.id
  · have hd1 : decide (999999 < d.id) = true := decide_eq_true hi1
    have HF : Hid (T = 2) := by show _ = _; rw [HE.out, if_pos (.inr hi1)]
    clear HE HX
    go_enter Tryz.func95, Tryz.ntmps95
    go_wp2
    go_ret
    exact ⟨ret_int HF.out.symm, hA⟩
  have hd1 : decide (999999 < d.id) = false := decide_eq_false hi1
  rw [if_neg (by omega)] at HE
  by_cases hk0 : d.kind < 1
  · have hd2 : decide (d.kind < 1) = true := decide_eq_true hk0
    have HF : Hid (T = 9) := by show _ = _; rw [HE.out, if_pos (.inl hk0)]
    clear HE HX
    go_enter Tryz.func95, Tryz.ntmps95
    go_wp2
    go_ret
    exact ⟨ret_int HF.out.symm, hA⟩
  have hd2 : decide (d.kind < 1) = false := decide_eq_false hk0
  by_cases hk1 : 3 < d.kind
  · have hd3 : decide (3 < d.kind) = true := decide_eq_true hk1
    have HF : Hid (T = 9) := by show _ = _; rw [HE.out, if_pos (.inr hk1)]
    clear HE HX
    go_enter Tryz.func95, Tryz.ntmps95
    go_wp2
    go_ret
    exact ⟨ret_int HF.out.symm, hA⟩
  have hd3 : decide (3 < d.kind) = false := decide_eq_false hk1
  rw [if_neg (by omega)] at HE
  clear hi0 hi1 hk0 hk1
  by_cases h13 : d.names.length ≠ 1 ∧ d.names.length ≠ 3
  · have h1 : ((d.names.length : Int) != 1) = true := by simp; omega
    have h3 : ((d.names.length : Int) != 3) = true := by simp; omega
    have hne : namesErr d.names = 1 := if_pos h13
    clear h13
    have HF : Hid (T = 1) := by show _ = _; rw [HE.out, hne]; rfl
    clear HE HX
    go_enter Tryz.func95, Tryz.ntmps95
    go_wp2
    go_ret
    exact ⟨ret_int HF.out.symm, hA⟩
  have HM : Hid (namesErr d.names = nzFrom (nmAt d.names) d.names.length 0) := if_neg h13
  generalize hl' : d.names = l at *
  clear hl'
  by_cases hq : l.length = 1
  · have h1 : ((l.length : Int) != 1) = false := by simp; omega
    have h3 : ((l.length : Int) == 1) = true := by simp; omega
    have hB : Hid (∀ s, badNm l.length s = !nmS s) := fun s => by rw [badNm, hq]; cases nmS s <;> rfl
    clear h13 hq
    go_enter Tryz.func95, Tryz.ntmps95
    go_wp2
    go_loopw [3] (fun iv wr => ∃ k : Nat, k ≤ l.length ∧ iv = .int .i64 k ∧ Hid (namesErr l = nzFrom (nmAt l) l.length k) ∧ CBox wr w.heap.size 50 #[.int .i64 d.id, .int .i64 d.kind, .bool d.pub, .slice an l.length cn, .bool d.doubt, .int .i64 d.body.kind, .string d.body.name, .string d.body.more, .int .i64 d.body.num, .int .i64 d.body.den, .slice sa d.body.subs.length cs] ∧ Below w.heap.size w wr) (fun iv _ => l.length - (intOf iv).toNat)
    case atStart => exact ⟨0, Nat.zero_le _, rfl, HM, HB.out, hA⟩
    case round =>
      obtain ⟨k, hk, rfl, HK, hbox, hb⟩ := hrel
      have c3 := hbox.cell (i := 3) (v := .slice an l.length cn) rfl
      have lb := hbox.lt
      by_cases hkl : k < l.length
      · have hd : decide ((k : Int) < (l.length : Int)) = true := decide_eq_true (by omega)
        obtain ⟨_, _, e, _, _, hcell⟩ := (HR.out.below hb).shape
        obtain ⟨b, o, e', hbl, hc⟩ := hcell k hkl
        cases e
        subst e'
        have ck : wr.cell? ⟨b, o + k, none⟩ = some (.string (sAt l k)) := hc k hkl
        have HL := Lib.hid (rName_any (sAt l k) wr (HS.out k))
        have HN := Lib.hid (nzFrom_at (nmAt l) hkl)
        have HU : Hid (nmAt l k = if badNm l.length (sAt l k) then 6 else 0) := rfl
        have HBk := Lib.hid (hB.out (sAt l k))
        have hEk := isE_tl (sAt l k)
        cases hnm : nmS (sAt l k) with
        | true =>
          rw [hnm] at HL HBk
          have HF : Hid (namesErr l = nzFrom (nmAt l) l.length (k + 1)) := by show _ = _; rw [HK.out, HN.out, HU.out, HBk.out]; rfl
          clear HK HN HU hc hcell hEk HE HX
          generalize sAt l k = s at *
          go_wp2_with (fail)
          refine HL.out.mono ?_
          rintro e w1 ⟨rfl, hb1⟩
          have hbox1 := hbox.below hb1
          go_wp2
          go_roundw
          case rel => exact ⟨k + 1, by omega, by go_num, HF, hbox1, hb.trans (hb1.mono hb.size)⟩
          case measure => simp [intOf]; omega
        | false =>
          rw [hnm] at HL HBk
          have HF : Hid (T = 6) := by show _ = _; rw [HE.out, HK.out, HN.out, HU.out, HBk.out]; rfl
          clear HK HN HU hc hcell hEk HE HX
          generalize sAt l k = s at *
          go_wp2_with (fail)
          refine HL.out.mono ?_
          rintro e w1 ⟨rfl, hb1⟩
          have hbox1 := hbox.below hb1
          have c31 := hbox1.cell (i := 3) (v := .slice (some ⟨b, o, none⟩) l.length cn) rfl
          have lb1 := hbox1.lt
          go_wp2
          go_ret
          exact ⟨ret_int HF.out.symm, hb.trans (hb1.mono hb.size)⟩
      · have hd : decide ((k : Int) < (l.length : Int)) = false := decide_eq_false (by omega)
        have HF : Hid (T = exprErr d.body) := by show _ = _; rw [HE.out, HK.out, nzFrom_end _ (by omega), if_pos rfl]
        have HX2 := Lib.hid (HX.out wr (HSR.out.below hb))
        have x5 := hbox.cell (i := 5) (v := .int .i64 d.body.kind) rfl
        have x6 := hbox.cell (i := 6) (v := .string d.body.name) rfl
        have x7 := hbox.cell (i := 7) (v := .string d.body.more) rfl
        have x8 := hbox.cell (i := 8) (v := .int .i64 d.body.num) rfl
        have x9 := hbox.cell (i := 9) (v := .int .i64 d.body.den) rfl
        have x10 := hbox.cell (i := 10) (v := .slice sa d.body.subs.length cs) rfl
        clear HE HK HX
        go_wp2_with (fail)
        refine HX2.out.mono ?_
        rintro e w1 ⟨rfl, hb1⟩
        go_wp2
        go_ret
        exact ⟨ret_int HF.out.symm, hb.trans (hb1.mono hb.size)⟩
  · have h1 : ((l.length : Int) != 1) = true := by simp; omega
    have h2 : ((l.length : Int) != 3) = false := by simp; omega
    have h3 : ((l.length : Int) == 1) = false := by simp; omega
    have hB : Hid (∀ s, badNm l.length s = (!nmS s && !isE s)) := fun s => by rw [badNm, show (l.length == 1) = false from beq_eq_false_iff_ne.2 hq, Bool.false_or]
    clear h13 hq
    go_enter Tryz.func95, Tryz.ntmps95
    go_wp2
    go_loopw [3] (fun iv wr => ∃ k : Nat, k ≤ l.length ∧ iv = .int .i64 k ∧ Hid (namesErr l = nzFrom (nmAt l) l.length k) ∧ CBox wr w.heap.size 50 #[.int .i64 d.id, .int .i64 d.kind, .bool d.pub, .slice an l.length cn, .bool d.doubt, .int .i64 d.body.kind, .string d.body.name, .string d.body.more, .int .i64 d.body.num, .int .i64 d.body.den, .slice sa d.body.subs.length cs] ∧ Below w.heap.size w wr) (fun iv _ => l.length - (intOf iv).toNat)
    case atStart => exact ⟨0, Nat.zero_le _, rfl, HM, HB.out, hA⟩
    case round =>
      obtain ⟨k, hk, rfl, HK, hbox, hb⟩ := hrel
      have c3 := hbox.cell (i := 3) (v := .slice an l.length cn) rfl
      have lb := hbox.lt
      by_cases hkl : k < l.length
      · have hd : decide ((k : Int) < (l.length : Int)) = true := decide_eq_true (by omega)
        obtain ⟨_, _, e, _, _, hcell⟩ := (HR.out.below hb).shape
        obtain ⟨b, o, e', hbl, hc⟩ := hcell k hkl
        cases e
        subst e'
        have ck : wr.cell? ⟨b, o + k, none⟩ = some (.string (sAt l k)) := hc k hkl
        have HL := Lib.hid (rName_any (sAt l k) wr (HS.out k))
        have HN := Lib.hid (nzFrom_at (nmAt l) hkl)
        have HU : Hid (nmAt l k = if badNm l.length (sAt l k) then 6 else 0) := rfl
        have HBk := Lib.hid (hB.out (sAt l k))
        have hEk := isE_tl (sAt l k)
        cases hnm : nmS (sAt l k) with
        | true =>
          rw [hnm] at HL HBk
          have HF : Hid (namesErr l = nzFrom (nmAt l) l.length (k + 1)) := by show _ = _; rw [HK.out, HN.out, HU.out, HBk.out]; rfl
          clear HK HN HU hc hcell hEk HE HX
          generalize sAt l k = s at *
          go_wp2_with (fail)
          refine HL.out.mono ?_
          rintro e w1 ⟨rfl, hb1⟩
          have hbox1 := hbox.below hb1
          go_wp2
          go_roundw
          case rel => exact ⟨k + 1, by omega, by go_num, HF, hbox1, hb.trans (hb1.mono hb.size)⟩
          case measure => simp [intOf]; omega
        | false =>
          rw [hnm] at HL HBk
          cases hE : isE (sAt l k) with
          | true =>
            rw [hE] at HBk hEk
            have hE2 := hEk.symm
            have HF : Hid (namesErr l = nzFrom (nmAt l) l.length (k + 1)) := by show _ = _; rw [HK.out, HN.out, HU.out, HBk.out]; rfl
            clear HK HN HU hc hcell hEk HE HX
            generalize sAt l k = s at *
            go_wp2_with (fail)
            refine HL.out.mono ?_
            rintro e w1 ⟨rfl, hb1⟩
            have hbox1 := hbox.below hb1
            have c31 := hbox1.cell (i := 3) (v := .slice (some ⟨b, o, none⟩) l.length cn) rfl
            have lb1 := hbox1.lt
            have ck1 := (hb1.cell (p := ⟨b, _, none⟩) hbl).trans ck
            have hbl1 : b < w1.heap.size := Nat.lt_of_lt_of_le hbl hb1.size
            go_wp2
            go_roundw
            case rel => exact ⟨k + 1, by omega, by go_num, HF, hbox1, hb.trans (hb1.mono hb.size)⟩
            case measure => simp [intOf]; omega
          | false =>
            rw [hE] at HBk hEk
            have hE2 := hEk.symm
            have HF : Hid (T = 6) := by show _ = _; rw [HE.out, HK.out, HN.out, HU.out, HBk.out]; rfl
            clear HK HN HU hc hcell hEk HE HX
            generalize sAt l k = s at *
            go_wp2_with (fail)
            refine HL.out.mono ?_
            rintro e w1 ⟨rfl, hb1⟩
            have hbox1 := hbox.below hb1
            have c31 := hbox1.cell (i := 3) (v := .slice (some ⟨b, o, none⟩) l.length cn) rfl
            have lb1 := hbox1.lt
            have ck1 := (hb1.cell (p := ⟨b, _, none⟩) hbl).trans ck
            have hbl1 : b < w1.heap.size := Nat.lt_of_lt_of_le hbl hb1.size
            go_wp2
            go_ret
            exact ⟨ret_int HF.out.symm, hb.trans (hb1.mono hb.size)⟩
      · have hd : decide ((k : Int) < (l.length : Int)) = false := decide_eq_false (by omega)
        have HF : Hid (T = exprErr d.body) := by show _ = _; rw [HE.out, HK.out, nzFrom_end _ (by omega), if_pos rfl]
        have HX2 := Lib.hid (HX.out wr (HSR.out.below hb))
        have x5 := hbox.cell (i := 5) (v := .int .i64 d.body.kind) rfl
        have x6 := hbox.cell (i := 6) (v := .string d.body.name) rfl
        have x7 := hbox.cell (i := 7) (v := .string d.body.more) rfl
        have x8 := hbox.cell (i := 8) (v := .int .i64 d.body.num) rfl
        have x9 := hbox.cell (i := 9) (v := .int .i64 d.body.den) rfl
        have x10 := hbox.cell (i := 10) (v := .slice sa d.body.subs.length cs) rfl
        clear HE HK HX
        go_wp2_with (fail)
        refine HX2.out.mono ?_
        rintro e w1 ⟨rfl, hb1⟩
        go_wp2
        go_ret
        exact ⟨ret_int HF.out.symm, hb.trans (hb1.mono hb.size)⟩
end Go.Proofs.YtlcpdhionefmbaaGreatDoor
