/- The reference's Uses of chapter 33. -/
import Derived.Test.YtlgnedahnaojlaaGreatDoorUYA
import Derived.BigQuiet
namespace Go.Proofs.YtlgnedahnaojlaaGreatDoor
open Go.RowKit Go.Shelf
attribute [local go_sem] Oper.semAt_some

theorem usesM_len (b l r : List ByteArray) : (usesM b l r).length ≤ l.length + r.length := by
 have h := withAll_len [] (l ++ r); have h2 := List.length_filter_le (fun s => truthB (memS s b) (memS s l) (memS s r)) (withAll [] (l ++ r)); rw [List.length_append] at h; unfold usesM; simp only [List.length_nil] at h
 omega
set_option maxRecDepth 100000 in
set_option maxHeartbeats 8000000 in
theorem r33Uses_any (b l r : List ByteArray) (ab al ar : Option Addr) (cb cl cr : Nat) (X : List Nat) (w : World) (hX : ∀ k, k ∈ X → k < w.heap.size) (hb : Strs w (.slice ab b.length cb) b) (hl : Strs w (.slice al l.length cl) l) (hr : Strs w (.slice ar r.length cr) r)
  (nb : b.length ≤ 1000) (nl : l.length ≤ 1000) (nr : r.length ≤ 1000) :
  Calls Tryz.prog 45 #[.slice ab b.length cb, .slice al l.length cl, .slice ar r.length cr] w fun e w' => ∃ a c, e = .returned (.slice a (usesM b l r).length c) ∧ Reads w' X (strsT (usesM b l r)) (.slice a (usesM b l r).length c) ∧ (usesM b l r).length ≤ c ∧ c ≤ 9223372036854775807 ∧ Below w.heap.size w w' := by
 have HX := lH hX; have HB := lH hb; have HL := lH hl; have HR := lH hr; clear hX hb hl hr; obtain ⟨i0, hi0, hz0, hz1, hz2⟩ := info_parts infoStr; have HUE : Hid ((withAll [] (l ++ r)).filter (fun s => truthB (memS s b) (memS s l) (memS s r)) = usesM b l r) := rfl; have HKN := lH (withAll_len [] (l ++ r))
 go_enter Tryz.func45, Tryz.ntmps45
 have HA0 := lH (qalloc w (.cells #[] 9)); go_upto_region 2 with (fail)
 generalize World.alloc w _ = w1 at *
 have HV0 : Hid (Strs w1 (.slice (some ⟨w.heap.size, 0, none⟩) 0 0) (withAll [] (l.take 0))) := by
  show Strs _ _ _
  rw [List.take_zero]; exact Strs.nil _ _ _ (by unfold maxLen; omega)
 obtain ⟨B0, hB0⟩ : ∃ B, w.heap.size = B := ⟨_, rfl⟩; rw [hB0] at HV0 ⊢; unfold Bw at HA0; rw [hB0] at HA0; have HBX : Hid (∀ k, k ∈ X → k < B0) := by show ∀ k, _; rw [← hB0]; exact HX.out
 clear HX; go_wp2
 go_loopw [7, 8] (fun av iv wr => ∃ i : Nat, i ≤ l.length ∧ iv = .int .i64 i ∧ Hid (Strs wr av (withAll [] (l.take i))) ∧ Hid (Below B0 w wr)) (fun _ iv _ => l.length - (intOf iv).toNat)
 case atStart => exact ⟨0, Nat.zero_le _, rfl, HV0, HA0⟩
 case round =>
  obtain ⟨i, hil, rfl, HS, HBR⟩ := hrel; have hlen := withAll_len [] (l.take i); have hbr : Below w.heap.size w wr := by rw [hB0]; exact HBR.out
  obtain ⟨a, c, rfl, -, -, -⟩ := HS.out.shape
  by_cases hi : i < l.length
  ·have hd : decide ((i : Int) < (l.length : Int)) = true := decide_eq_true (by omega)
   have hir : (i : Int) < (l.length : Int) := by omega
   obtain ⟨s, hs⟩ : ∃ s, l[i]? = some s := ⟨_, List.getElem?_eq_getElem hi⟩; obtain ⟨sb, so, rfl, hsb, hsc⟩ := strs_at (HL.out.below hbr) hs; have HTK := lH (withAll_take (l0 := []) hs); rw [List.length_take, List.length_nil] at hlen; generalize withAll [] (l.take i) = K at *; have HC := lH (With_any K s a c wr HS.out (by omega)); clear hs HV0 HS; go_wp2_with (fail)
   refine HC.out.mono ?_; rintro e w5 ⟨v5, rfl, hs5, hb5⟩; have HS5 : Hid (Strs w5 v5 (withAll [] (l.take (i + 1)))) := by show Strs _ _ _; rw [HTK.out]; exact hs5
   have HB5 : Hid (Below B0 w w5) := HBR.out.trans (hb5.mono (by rw [← hB0]; exact hbr.size)); clear HC hb5 hs5 hbr; go_wp2; go_roundw
   case rel => exact ⟨i + 1, by omega, by go_num, HS5, HB5⟩
   case measure => simp [intOf]; omega
  ·have hd : decide ((i : Int) < (l.length : Int)) = false := decide_eq_false (by omega)
   have HS1 : Hid (Strs wr (.slice a (withAll [] (l.take i)).length c) (withAll [] (l ++ r.take 0))) := by
    show Strs _ _ _
    rw [List.take_zero, List.append_nil]; have := HS.out; rwa [List.take_of_length_le (by omega)] at this ⊢
   clear HS HV0; generalize (withAll [] (l.take i)).length = n1 at *; generalize wr = wo at *; go_wp2
   go_loopw [7, 9] (fun av iv wr => ∃ i : Nat, i ≤ r.length ∧ iv = .int .i64 i ∧ Hid (Strs wr av (withAll [] (l ++ r.take i))) ∧ Hid (Below B0 w wr)) (fun _ iv _ => r.length - (intOf iv).toNat)
   case atStart => exact ⟨0, Nat.zero_le _, rfl, HS1, HBR⟩
   case round =>
    clear hd hi hil hlen hbr HBR HS1; obtain ⟨j, hjl, rfl, HS, HBR⟩ := hrel; have hlen := withAll_len [] (l ++ r.take j); have hbr : Below w.heap.size w wr := by rw [hB0]; exact HBR.out
    obtain ⟨a2, c2, rfl, -, -, -⟩ := HS.out.shape
    by_cases hj : j < r.length
    ·have hd : decide ((j : Int) < (r.length : Int)) = true := decide_eq_true (by omega)
     have hir : (j : Int) < (r.length : Int) := by omega
     obtain ⟨s, hs⟩ : ∃ s, r[j]? = some s := ⟨_, List.getElem?_eq_getElem hj⟩; obtain ⟨sb, so, rfl, hsb, hsc⟩ := strs_at (HR.out.below hbr) hs
     have HTK : Hid (withAll [] (l ++ r.take (j + 1)) = withL (withAll [] (l ++ r.take j)) s) := by
      show _ = _
      rw [withAll_app, withAll_take hs, ← withAll_app]
     rw [List.length_append, List.length_take, List.length_nil] at hlen; generalize withAll [] (l ++ r.take j) = K at *; have HC := lH (With_any K s a2 c2 wr HS.out (by omega)); clear hs HS; go_wp2_with (fail)
     refine HC.out.mono ?_; rintro e w5 ⟨v5, rfl, hs5, hb5⟩; have HS5 : Hid (Strs w5 v5 (withAll [] (l ++ r.take (j + 1)))) := by show Strs _ _ _; rw [HTK.out]; exact hs5
     have HB5 : Hid (Below B0 w w5) := HBR.out.trans (hb5.mono (by rw [← hB0]; exact hbr.size)); clear HC hb5 hs5 hbr; go_wp2; go_roundw
     case rel => exact ⟨j + 1, by omega, by go_num, HS5, HB5⟩
     case measure => simp [intOf]; omega
    ·have hd : decide ((j : Int) < (r.length : Int)) = false := decide_eq_false (by omega)
     rw [List.take_of_length_le (show r.length ≤ j by omega)] at HS hlen; rw [List.take_of_length_le (show r.length ≤ j by omega)]; rw [List.length_append, List.length_nil] at hlen; have hUl := usesM_len b l r; obtain ⟨P, hP⟩ : ∃ P : ByteArray → Bool, (fun s => truthB (memS s b) (memS s l) (memS s r)) = P := ⟨_, rfl⟩; rw [hP] at HUE; have HPP : Hid (∀ s, truthB (memS s b) (memS s l) (memS s r) = P s) := fun s => congrFun hP s; clear hP HKN; generalize withAll [] (l ++ r) = LL at *; obtain ⟨U, hU⟩ : ∃ U, usesM b l r = U := ⟨_, rfl⟩; rw [hU] at HUE hUl; have HU := lH hU; clear hU
     have HAL := lH (qalloc wr (.cells #[] 9)); have HO0 : Hid ((wr.alloc (.cells #[] 9)).ownsRow wr.heap.size 9 1 (.slice (some ⟨wr.heap.size, 0, none⟩) 0 0) 0 []) := World.ownsRow_made wr #[] 0 (Nat.le_refl _) (Nat.zero_le _) rfl; go_upto_region 11 with (fail)
     have HSZ : Hid (B0 ≤ wr.heap.size) := by show _ ≤ _; rw [← hB0]; exact hbr.size
     have HW4 := lH HBR.out; have HST := lH HS.out; clear HS HBR hbr; generalize World.alloc wr _ = w4 at *; generalize wr = wp at *; obtain ⟨B4, hB4⟩ : ∃ B, wp.heap.size = B := ⟨_, rfl⟩; rw [hB4] at HO0 ⊢; go_wp2
     go_loopw [10, 11] (fun sv iv wr => ∃ i : Nat, i ≤ LL.length ∧ iv = .int .i64 i ∧ Hid (wr.ownsRow B4 9 1 sv ((LL.take i).filter P).length (((LL.take i).filter P).map .string)) ∧ Hid (Below wp.heap.size wp wr)) (fun _ iv _ => LL.length - (intOf iv).toNat)
     case atStart => exact ⟨0, Nat.zero_le _, rfl, HO0, HAL⟩
     case round =>
      clear hd hj HO0 HAL; obtain ⟨i, hil, rfl, HO, HBR⟩ := hrel; have hw4 := HW4.out; have hbr : Below B0 w wr := hw4.trans (HBR.out.mono (by rw [← hB0]; exact hw4.size)); have hwr : Below w.heap.size w wr := by rw [hB0]; exact hbr
      clear hw4
      by_cases hi : i < LL.length
      ·have hd : decide ((i : Int) < (LL.length : Int)) = true := decide_eq_true (by omega)
       have hir : (i : Int) < (LL.length : Int) := by omega
       obtain ⟨s, hs⟩ : ∃ s, LL[i]? = some s := ⟨_, List.getElem?_eq_getElem hi⟩; obtain ⟨sb, so, rfl, hsb, hsc⟩ := strs_at (HST.out.below HBR.out) hs; have HFT := lH (filter_take_succ (p := P) hs); have hlf : ((LL.take i).filter P).length ≤ 2000 := Nat.le_trans (List.length_filter_le _ _) (by rw [List.length_take]; omega); have hps := HPP.out s; clear hs; generalize ((LL.take i).filter P) = K0 at *; go_upto_region 14 with (fail)
       obtain ⟨p, hp⟩ : ∃ p, P s = p := ⟨_, rfl⟩; have HPS := lH (hps.trans hp); rw [hp] at HFT; clear hps hp
       go_cut [62] from 44 to 62 (fun u wx => u = .bool p ∧ Below wr.heap.size wr wx)
       case first =>
        have SB : ∀ n, Strs (wr.drewN n) (.slice ab b.length cb) b := fun n => (HB.out.below hwr).below (below_drewN (qrefl wr) n); have SL : ∀ n, Strs (wr.drewN n) (.slice al l.length cl) l := fun n => (HL.out.below hwr).below (below_drewN (qrefl wr) n); have SR : ∀ n, Strs (wr.drewN n) (.slice ar r.length cr) r := fun n => (HR.out.below hwr).below (below_drewN (qrefl wr) n)
        go_quiet (first | (go_at_call 21; exact Calls.quiet_of_same (rHas_q _ _ _ _ (by first | exact SB _ | exact SL _ | exact SR _) (by omega))) | (go_at_call 83; exact Calls.quiet_of_same (r33truth_any _ _ _ _)))
        go_wp2; go_meet
        case rel => exact ⟨by rw [HPS.out], below_drewN (qrefl wr) _⟩
       case rest =>
       obtain ⟨rfl, hbc⟩ := hcut; have HO2 := lH (owns_below HO.out hbc); have HB2 : Hid (Below wp.heap.size wp wc) := HBR.out.trans (hbc.mono HBR.out.size); have hsc2 := (hbc.cell (p := ⟨sb, so + i, none⟩) hsb).trans hsc; have hsb2 : sb < wc.heap.size := Nat.lt_of_lt_of_le hsb hbc.size; clear hbr hwr HO HBR hbc HPS hsc hsb
       cases p with
       | false =>
        rw [if_neg Bool.false_ne_true, List.append_nil] at HFT; go_wp2; go_roundw
        case rel => exact ⟨i + 1, by omega, by go_num, by rw [HFT.out]; exact HO2, HB2⟩
        case measure => simp [intOf]; omega
       | true =>
        rw [if_pos rfl] at HFT; have hrow := owns_row (own_one wc wc.heap.size (Nat.le_refl _) (.string s) 9); have hown := HO2.out; have hal := qalloc wc (.cells #[.string s] 9); have hsz := HB2.out.size; have hsz2 := hal.size; go_wp2_with (at_builtin; refine wpList_append_row rfl _ _ 22 rfl B4 9 i0 _ 1 16 Tryz.underlying22 hi0 hz0 hz1 hz2 rfl (by decide) _ _ _ rfl (hown.alloc _) _ 1 [.string s] rfl hrow (strs_one [s]) (by unfold maxLen; omega) (by omega) (by omega) ?_; rintro v' w7 ho7 hg7 -)
        have HB7 : Hid (Below wp.heap.size wp w7) := (HB2.out.trans (hal.mono HB2.out.size)).grown hg7 (by omega) (fun k hk => by rw [hB4]; exact (hown.lt k hk).1)
        have HO7 : Hid (w7.ownsRow B4 9 1 v' ((LL.take (i + 1)).filter P).length (((LL.take (i + 1)).filter P).map .string)) := by
         show World.ownsRow _ _ _ _ _ _ _
         rw [HFT.out]
         simpa using ho7
        clear hrow hown hal ho7 hg7; go_roundw
        case rel => exact ⟨i + 1, by omega, by go_num, HO7, HB7⟩
        case measure => simp [intOf]; omega
      ·have hd : decide ((i : Int) < (LL.length : Int)) = false := decide_eq_false (by omega)
       have HO' := HO.out; rw [List.take_of_length_le (by omega), HUE.out] at HO'; obtain ⟨av, cv, rfl⟩ := owns_val HO'; have HRD : Hid (Reads wr X (strsT U) (.slice av U.length cv)) := reads_strs.2 ⟨owns_row HO', fun _ k hk hx => by have := owns_block HO' hk; have := HBX.out k hx; have := HSZ.out; omega⟩; obtain ⟨a0, c0, ev, hcv1, hcv2⟩ := strs_val HRD.out
       injection ev with e1 e2 e3
       rw [← e3] at hcv1 hcv2; clear e1 e2 e3 HO HO' HBR; go_wp2; go_ret; exact ⟨av, cv, by rw [HU.out]; rfl, by rw [HU.out]; exact HRD.out, by rw [HU.out]; exact hcv1, hcv2, hwr⟩
end Go.Proofs.YtlgnedahnaojlaaGreatDoor

