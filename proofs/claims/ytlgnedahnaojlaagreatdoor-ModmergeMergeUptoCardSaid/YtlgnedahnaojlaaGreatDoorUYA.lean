/- The reference's small functions of chapter 33: aliases. -/
import Derived.Test.YtlgnedahnaojlaaGreatDoorUXL
namespace Go.Proofs.YtlgnedahnaojlaaGreatDoor
open Go.RowKit Go.Shelf
attribute [local go_sem] Oper.semAt_some

theorem rHas_q (v : Value) (s : ByteArray) (ss : List ByteArray) (w : World) (hv : Strs w v ss) (hn : ss.length ≤ 40000) :
  Calls Tryz.prog 21 #[v, .string s] w fun e w' => e = .returned (.bool (memS s ss)) ∧ w' = w := (rHas_any v s ss w hv hn).mono fun _ _ h => ⟨h.1, h.2.symm⟩
section
attribute [local irreducible] aliasS
set_option maxRecDepth 100000 in
set_option maxHeartbeats 4000000 in
theorem r33aliases_any (l : List ByteArray) (a : Option Addr) (c : Nat) (w : World) (hr : Strs w (.slice a l.length c) l) (hs : ∀ s ∈ l, s.size ≤ 40000) (hl : l.length ≤ 1000000) :
  Calls Tryz.prog 46 #[.slice a l.length c] w fun e w' => e = .returned (.bool (aliasDup l)) ∧ Bw w w' := by
 have HS := lH (sAt_size hs); have HR := lH hr; have HT : Hid (aliasDup l = ((List.range l.length).drop 0).any (dupB l)) := rfl; clear hr hs
 go_enter Tryz.func46, Tryz.ntmps46
 go_wp2
 go_loopw [3] (fun iv wr => ∃ i : Nat, i ≤ l.length ∧ iv = .int .i64 i ∧ Hid (aliasDup l = ((List.range l.length).drop i).any (dupB l)) ∧ Bw w wr) (fun iv _ => l.length - (intOf iv).toNat)
 case atStart => exact ⟨0, Nat.zero_le _, rfl, HT, qrefl _⟩
 case round =>
  obtain ⟨i, hil, rfl, HI, hb⟩ := hrel; clear HT; generalize wr = wo at *
  by_cases hi : i < l.length
  ·have hd : decide ((i : Int) < (l.length : Int)) = true := decide_eq_true (by omega)
   obtain ⟨_, _, e, hlc, hcm, hcell⟩ := (HR.out.below hb).shape; obtain ⟨b, o, e', hbl, hc⟩ := hcell i hi
   cases e
   subst e'; have HC := lH hc; have hsi := HS.out i; have HZ := lH (HI.out.trans (range_any_at (f := dupB l) hi)); have HD : Hid (dupB l i = ((List.range i).drop 0).any (aliasEq l i)) := rfl; have HQ : Hid (∀ k, aliasEq l i k = ((aliasS (sAt l k)).toList == (aliasS (sAt l i)).toList)) := fun _ => rfl; clear hc hcell HI; go_wp2
   go_loopw [4] (fun iv wr => ∃ k : Nat, k ≤ i ∧ iv = .int .i64 k ∧ Hid (dupB l i = ((List.range i).drop k).any (aliasEq l i)) ∧ Bw wo wr) (fun iv _ => i - (intOf iv).toNat)
   case atStart => exact ⟨0, Nat.zero_le _, rfl, HD, qrefl _⟩
   case round =>
    obtain ⟨k, hk, rfl, HK, hbk⟩ := hrel; have hbb := hb.trans (hbk.mono hb.size); have ci2 : wr.cell? ⟨b, o + i, none⟩ = some (.string (sAt l i)) := (hbk.cell (p := ⟨b, o + i, none⟩) hbl).trans (HC.out i hi); have hbl2 : b < wr.heap.size := Nat.lt_of_lt_of_le hbl hbk.size
    by_cases hkl : k < i
    ·have hd2 : decide ((k : Int) < (i : Int)) = true := decide_eq_true (by omega)
     have ck : wr.cell? ⟨b, o + k, none⟩ = some (.string (sAt l k)) := (hbk.cell (p := ⟨b, o + k, none⟩) hbl).trans (HC.out k (by omega)); have hkn : (k : Int) < (l.length : Int) := by omega
     have hin : (i : Int) < (l.length : Int) := by omega
     have HT2 := lH (HK.out.trans (range_any_at (f := aliasEq l i) hkl)); have hq := HQ.out k; have hsk := HS.out k; generalize sAt l k = s at *; generalize sAt l i = t at *
     cases he : ((aliasS t).toList == (aliasS s).toList) with
     | true =>
      have HF : Hid (dupB l i = true) := by show _ = _; rw [HT2.out, hq, Bool.beq_comm, he]; rfl
      have HFT : Hid (aliasDup l = true) := by show _ = _; rw [HZ.out, HF.out]; rfl
      clear hq HT2 HK; go_wp2_with (fail)
      go_quiet ((go_at_call 84; exact Calls.quiet_of_same (rAlias_q _ _ (by assumption))))
      go_wp2; go_ret; exact ⟨ret_bool HFT.out.symm, below_drewN hbb _⟩
     | false =>
      have HF : Hid (dupB l i = ((List.range i).drop (k + 1)).any (aliasEq l i)) := by show _ = _; rw [HT2.out, hq, Bool.beq_comm, he]; rfl
      clear hq HT2 HK; go_wp2_with (fail)
      go_quiet ((go_at_call 84; exact Calls.quiet_of_same (rAlias_q _ _ (by assumption))))
      go_wp2; go_roundw
      case rel => exact ⟨k + 1, by omega, by go_num, HF, below_drewN hbk _⟩
      case measure => simp [intOf]; omega
    ·have hd2 : decide ((k : Int) < (i : Int)) = false := decide_eq_false (by omega)
     have HF : Hid (dupB l i = false) := by show _ = _; rw [HK.out, range_any_end (by omega)]
     have HFT : Hid (aliasDup l = ((List.range l.length).drop (i + 1)).any (dupB l)) := by show _ = _; rw [HZ.out, HF.out]; rfl
     go_wp2; go_roundw
     case rel => exact ⟨i + 1, by omega, by go_num, HFT, hbb⟩
     case measure => simp [intOf]; omega
  ·have hd : decide ((i : Int) < (l.length : Int)) = false := decide_eq_false (by omega)
   have HF : Hid (aliasDup l = false) := by show _ = _; rw [HI.out, range_any_end (by omega)]
   go_wp2; go_ret; exact ⟨ret_bool HF.out.symm, hb⟩
end
theorem withAll_take {l0 l : List ByteArray} {i : Nat} {s : ByteArray} (h : l[i]? = some s) : withAll l0 (l.take (i + 1)) = withL (withAll l0 (l.take i)) s := by
 rw [take_at h, withAll_app]; rfl
end Go.Proofs.YtlgnedahnaojlaaGreatDoor

