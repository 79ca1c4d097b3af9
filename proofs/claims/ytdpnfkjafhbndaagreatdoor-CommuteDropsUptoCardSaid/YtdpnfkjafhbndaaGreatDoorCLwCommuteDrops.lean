/- The law CommuteDrops. -/
import Derived.Test.YtdpnfkjafhbndaaGreatDoorCCA
import Derived.Test.YtdpnfkjafhbndaaGreatDoorCW1
namespace Go.Proofs.YtdpnfkjafhbndaaGreatDoor
open Go.RowKit Go.Shelf
attribute [local go_sem] Oper.semAt_some
theorem d_plain {L:List OMod} {l:List OEdit} {i:Nat} (hz:SzB 10 L) (hs:∀ e∈l,SmE e) (hn:l.length≤20) (hd:l.Nodup) (h0:checkErr l (i:Int) = 0) :
    ((appR L l).2 = 0→(dropOf l i ++ restG l (dropOf l i)).length = l.length∧(appR L (dropOf l i ++ restG l (dropOf l i))).2 = 0∧(appR L l).1 = (appR L (dropOf l i ++ restG l (dropOf l i))).1∧((appR L (dropOf l i)).2 = 0∨(((appR L (dropOf l i)).2 = 7∨(appR L (dropOf l i)).2 = 4)∧addsB (dropOf l i) = true))) ∧
    (∀ e∈dropOf l i,SmE e)∧(∀ e∈dropOf l i ++ restG l (dropOf l i),SmE e)∧(dropOf l i).length≤l.length∧(dropOf l i).length < l.length:=by
  obtain ⟨hE,_,hi⟩:=check_zero h0
  have hi':i < l.length:=by omega
  have e0:dropOf l i = partE l (keepB l i) l.length:=by unfold dropOf;rw [if_pos h0,Int.toNat_natCast];rfl
  have hm:∀ e∈dropOf l i,SmE e:=by rw [e0];exact partE_mem hs
  refine ⟨fun h => ?_,hm,fun e he => ?_,by rw [e0];exact partE_len _ _ _,by rw [e0];exact part_less hi' (keepB_same hi')⟩
  · have:=leads_plain (p:=keepB l i) hz hs (by omega) hd (drop_closed hi' hE) h
    rw [← e0] at this
    exact this
  · rcases List.mem_append.1 he with he | he
    · exact hm e he
    · rw [e0,restG_part _ hd] at he
      exact partE_mem hs e he
set_option maxRecDepth 100000 in
set_option maxHeartbeats 16000000 in
theorem LCommuteDrops_any (L:List OMod) (l:List OEdit) (i:Nat) (ma:Option Addr) (mc:Nat) (la:Option Addr) (lc:Nat) (w:World) (hm:Reads w [] (modsT L) (.slice ma L.length mc)) (hl:Reads w [] (editsT l) (.slice la l.length lc)) (hbm:∀ x∈L,BigM x) (hbl:∀ x∈l,BigE x) (hmn:L.length≤4000000) (hln:l.length≤4000000) (hi:i≤255) :
  Calls Tryz.prog 10 #[.slice ma L.length mc,.slice la l.length lc,.int .u8 i] w fun r w' => r = .returned (.bool true)∧Below w.heap.size w w':=by
 have HGM:=lH (r34Great_any L ma mc w hm hbm hmn);have HGL:=lH (fun W (h:Below w.heap.size w W) => rGreatEdits_any l la lc W (hl.below h) (fun x hx => ⟨⟨(hbl x hx).pack,(hbl x hx).text⟩,(hbl x hx).old,(hbl x hx).fresh⟩) hln);have HSM:Hid (greatMs L = false→SzB 10 L):=fun h => szB_of hbm h;have HSL:Hid (greatEs l = false→(∀ x∈l,SmE x)∧l.length≤20):=fun h => smEs_of hbl h;have HM:=lH hm;have HL:=lH hl;clear hm hl hbm hbl hmn hln;generalize greatMs L = gm at *;generalize greatEs l = gl at *
 go_enter Tryz.func10,Tryz.ntmps10
 go_wp2_with (fail)
 refine HGM.out.mono ?_;rintro r w1 ⟨rfl,hb1⟩;have HB1:=lH hb1;clear hb1 HGM
 cases gm with
 | true =>
  go_wp2_with (fail)
  refine (awake35_any _).mono ?_;rintro r w9 ⟨rfl,hb9⟩;have HF9:=lH (qtrans HB1.out hb9);clear hb9;go_wp2;go_ret;exact ⟨rfl,HF9.out⟩
 | false =>
 go_wp2_with (fail)
 refine (HGL.out w1 HB1.out).mono ?_;rintro r w2 ⟨rfl,hb2⟩;have HB2:=lH (qtrans HB1.out hb2);clear hb2 HGL HB1
 cases gl with
 | true =>
  go_wp2_with (fail)
  refine (awake35_any _).mono ?_;rintro r w9 ⟨rfl,hb9⟩;have HF9:=lH (qtrans HB2.out hb9);clear hb9;go_wp2;go_ret;exact ⟨rfl,HF9.out⟩
 | false =>
 have hzm:=HSM.out (by first | exact rfl | exact trivial);obtain ⟨hsl,hll⟩:=HSL.out (by first | exact rfl | exact trivial);have HZM:=lH hzm;have HSE:=lH hsl;have HLL:=lH hll;clear HSM HSL hzm hsl
 by_cases hnil:l.length = 0
 ·have q1:((l.length:Int) == 0) = true:=by rw [hnil];rfl
  clear hnil hll;go_wp2_with (fail)
  refine (awake35_any _).mono ?_;rintro r w9 ⟨rfl,hb9⟩;have HF9:=lH (qtrans HB2.out hb9);clear hb9;go_wp2;go_ret;exact ⟨rfl,HF9.out⟩
 have q1:((l.length:Int) == 0) = false:=by simp;exact fun c => hnil (by rw [c];rfl)
 have HT:=lH (twice35_any l la lc w2 (HL.out.below HB2.out) HSE.out (by omega));have HND:Hid (twiceB l = false→l.Nodup):=fun h => nodup_of h;generalize twiceB l = tb at *;clear hll;go_wp2_with (fail)
 refine HT.out.mono ?_;rintro r w3 ⟨rfl,hb3⟩;have HB3:=lH (qtrans HB2.out hb3);clear hb3 HT HB2
 cases tb with
 | true =>
  go_wp2_with (fail)
  refine (awake35_any _).mono ?_;rintro r w9 ⟨rfl,hb9⟩;have HF9:=lH (qtrans HB3.out hb9);clear hb9;go_wp2;go_ret;exact ⟨rfl,HF9.out⟩
 | false =>
 have HD:=lH (HND.out (by first | exact rfl | exact trivial));clear HND;obtain ⟨j,hj⟩:∃ j,j = i % l.length:=⟨_,rfl⟩;have hrm:((i:Int)).tmod (l.length:Int) = (j:Int):=by rw [hj];exact (Int.ofNat_tmod i l.length).symm
 have hpos:0 < l.length:=by omega
 have hjl:j < l.length:=by rw [hj];exact Nat.mod_lt _ hpos
 have hne:¬ (l.length:Int) = 0:=by omega
 have hll2:=HLL.out;have hwi:IntKind.i64.wrap (i:Int) = (i:Int):=IntWalk.i64_in _ (by omega);have hwj:IntKind.i64.wrap (j:Int) = (j:Int):=IntWalk.i64_in _ (by omega);have HP:=lH (cDrop_any l (j:Int) la lc w3 (HL.out.below HB3.out) HSE.out (by omega));have HPL:Hid (checkErr l (j:Int) = 0→_):=fun h => d_plain HZM.out HSE.out HLL.out HD.out h;have HPN:Hid (checkErr l (j:Int)≠0→dropOf l j = []):=fun h => by unfold dropOf;rw [if_neg h]
 clear hj hnil hjl;generalize dropOf l j = so at *;generalize checkErr l (j:Int) = E at *;go_wp2_with (fail)
 refine HP.out.mono ?_;rintro r w4 ⟨v,rfl,⟨a4,c4,rfl⟩,hr4,hb4⟩;have HR4:=lH hr4;have HB4:=lH (qtrans HB3.out hb4);clear hb4 hr4 HP HB3
 by_cases h0:E = 0
 rotate_left
 ·have q2:(E != 0) = true:=by simp [h0]
  have hso:=HPN.out h0;subst hso;clear h0;simp only [List.length_nil]
  go_wp2_with (fail)
  refine (awake35_any _).mono ?_;rintro r w9 ⟨rfl,hb9⟩;have HF9:=lH (qtrans HB4.out hb9);clear hb9;go_wp2;go_ret;exact ⟨rfl,HF9.out⟩
 obtain ⟨p1,p2,p3,p4,p5⟩:=HPL.out h0;have q2:(E != 0) = false:=by rw [h0];rfl
 have q3:decide ((so.length:Int) < (l.length:Int)) = true:=decide_eq_true (by omega);have HLD:=lH (leads35_any L l so ma la a4 mc lc c4 w4 (HM.out.below HB4.out) (HL.out.below HB4.out) HR4.out HZM.out HSE.out HLL.out p2 (by omega) p1 p3);clear h0 HPL HPN p1 p2 p3 HR4;go_wp2_with (fail)
 refine HLD.out.mono ?_;rintro r w5 ⟨rfl,hb5⟩;have HB5:=lH (qtrans HB4.out hb5);clear hb5 HLD HB4;go_wp2_with (fail)
 refine (awake35_any _).mono ?_;rintro r w9 ⟨rfl,hb9⟩;have HF9:=lH (qtrans HB5.out hb9);clear hb9;go_wp2;go_ret;exact ⟨rfl,HF9.out⟩
end Go.Proofs.YtdpnfkjafhbndaaGreatDoor

