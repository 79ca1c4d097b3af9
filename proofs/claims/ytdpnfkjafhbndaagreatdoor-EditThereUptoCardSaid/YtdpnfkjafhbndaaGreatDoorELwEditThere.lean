/- The law EditThere. -/
import Derived.Test.YtdpnfkjafhbndaaGreatDoorEPG
import Derived.Test.YtdpnfkjafhbndaaGreatDoorECA
namespace Go.Proofs.YtdpnfkjafhbndaaGreatDoor
open Go.RowKit Go.Shelf
attribute [local go_sem] Oper.semAt_some
theorem there_plain {A B:List OMod} (ha:SzB 10 A) (hb:SzB 10 B) (h:diffErr A B = 0):appR A (diffR A B) = (B,0)∧appR B (invL (diffR A B)) = (A,0)∧diffErr A A = 0∧diffR A A = []∧(diffR A B).length≤2000:=by
  have hd:diffR A B = diffL A B:=by unfold diffR;rw [if_pos h]
  unfold diffErr at h
  split at h
  case isFalse c => exact (c h).elim
  case isTrue h1 =>
    have haa:diffErr A A = 0:=by unfold diffErr;rw [if_pos h1];exact h1
    have h2:=app_diff h1 h
    refine ⟨by rw [hd];exact h2,by rw [hd];exact app_back h2,haa,?_,by rw [hd];exact diffL_len ha hb⟩
    unfold diffR
    rw [if_pos haa,diff_self]
set_option maxRecDepth 100000 in
set_option maxHeartbeats 16000000 in
theorem LEditThere_any (A B:List OMod) (aa ab:Option Addr) (ca cb:Nat) (w:World) (ha:Reads w [] (modsT A) (.slice aa A.length ca)) (hb:Reads w [] (modsT B) (.slice ab B.length cb)) (hba:∀ x∈A,BigM x) (hbb:∀ x∈B,BigM x) (han:A.length≤4000000) (hbn:B.length≤4000000) :
  Calls Tryz.prog 8 #[.slice aa A.length ca,.slice ab B.length cb] w fun r w' => r = .returned (.bool true)∧Below w.heap.size w w':=by
 have HGA:=lH (r34Great_any A aa ca w ha hba han);have HGB:=lH (fun W (h:Below w.heap.size w W) => r34Great_any B ab cb W (hb.below h) hbb hbn);have HSA:Hid (greatMs A = false→SzB 10 A):=fun h => szB_of hba h;have HSB:Hid (greatMs B = false→SzB 10 B):=fun h => szB_of hbb h;have HA:=lH ha;have HB:=lH hb;clear ha hb hba hbb han hbn;generalize greatMs A = gm at *;generalize greatMs B = gl at *
 go_enter Tryz.func8,Tryz.ntmps8
 go_wp2_with (fail)
 refine HGA.out.mono ?_;rintro r w1 ⟨rfl,hb1⟩;have HB1:=lH hb1;clear hb1 HGA
 cases gm with
 | true =>
  go_wp2_with (fail)
  refine (awake34_any _).mono ?_;rintro r w19 ⟨rfl,hb19⟩;have HF19:=lH (qtrans HB1.out hb19);clear hb19;go_wp2;go_ret;exact ⟨rfl,HF19.out⟩
 | false =>
 go_wp2_with (fail)
 refine (HGB.out w1 HB1.out).mono ?_;rintro r w2 ⟨rfl,hb2⟩;have HB2:=lH (qtrans HB1.out hb2);clear hb2 HGB HB1
 cases gl with
 | true =>
  go_wp2_with (fail)
  refine (awake34_any _).mono ?_;rintro r w19 ⟨rfl,hb19⟩;have HF19:=lH (qtrans HB2.out hb19);clear hb19;go_wp2;go_ret;exact ⟨rfl,HF19.out⟩
 | false =>
 have HZA:=lH (HSA.out (by first | exact rfl | exact trivial));have HZB:=lH (HSB.out (by first | exact rfl | exact trivial));clear HSA HSB;have HD:=lH (eDiff_any A B aa ab ca cb 10 w2 (HA.out.below HB2.out) (HB.out.below HB2.out) HZA.out HZB.out (by omega));have HPL:Hid (diffErr A B = 0→_):=fun h => there_plain HZA.out HZB.out h;have HSD:=lH (diffR_sm HZA.out HZB.out);have HP0:Hid (diffErr A B≠0→diffR A B = []):=fun h => by unfold diffR;rw [if_neg h]
 go_wp2_with (fail)
 refine HD.out.mono ?_;rintro r w3 ⟨v3,rfl,hr3,hb3⟩;have HR3:=lH hr3;have HB3:=lH (qtrans HB2.out hb3);clear hr3 hb3 HD HB2;obtain ⟨x1,x2,rfl,hc1,hc2⟩:=edits_val HR3.out;generalize diffErr A B = E1 at *;generalize diffR A B = l at *
 by_cases h0:E1 = 0
 rotate_left
 ·have q2:(E1 != 0) = true:=by simp [h0]
  have hm0:=HP0.out h0;clear HPL HP0 h0;subst hm0;simp only [List.length_nil]
  go_wp2_with (fail)
  refine (awake34_any _).mono ?_;rintro r w19 ⟨rfl,hb19⟩;have HF19:=lH (qtrans HB3.out hb19);clear hb19;go_wp2;go_ret;exact ⟨rfl,HF19.out⟩
 have q2:(E1 != 0) = false:=by rw [h0];rfl
 obtain ⟨p1,p2,p3,p4,hln⟩:=HPL.out h0;have P1:=lH p1;have P2:=lH p2;have P3:=lH p3;have P4:=lH p4;clear HPL HP0 h0 p1 p2 p3 p4;have HAw:=lH (HA.out.below HB3.out);have HBw:=lH (HB.out.below HB3.out);have HA1:=lH (eApply_any A l aa ca x1 x2 10 w3 HAw.out HR3.out HZA.out (by omega) HSD.out);go_wp2_with (fail)
 refine HA1.out.mono ?_;rintro r w4 ⟨v4,rfl,hr4,hb4⟩;rw [P1.out];rw [P1.out] at hr4;have HB4:=lH (qtrans HB3.out hb4);have HX:=lH hr4;have HR4:=lH (HR3.out.below hb4);clear hr4 hb4 HA1 HB3 HAw HBw HR3 P1;obtain ⟨u1,u2,rfl,-,-⟩:=mods_slice HX.out;have HI:=lH (Invert_any l x1 x2 w4 HR4.out (by omega));go_wp2_with (fail)
 refine HI.out.mono ?_;rintro r w5 ⟨rfl,hr5,hb5⟩;have HB5:=lH (qtrans HB4.out hb5);have HX5:=lH (HX.out.below hb5);have HR5:=lH (HR4.out.below hb5);have HV5:=lH hr5;clear hr5 hb5 HI HB4 HX HR4;have hil:(invL l).length = l.length:=by unfold invL;rw [List.length_reverse,List.length_map]
 have HA2:Hid (Calls Tryz.prog 17 #[.slice ab B.length cb,.slice (some ⟨w4.heap.size,0,none⟩) l.length l.length] w5 fun r w' => AppPost w5 B (invL l) r w'):=by
  have:=eApply_any B (invL l) ab cb (some ⟨w4.heap.size,0,none⟩) l.length 10 w5 (HB.out.below HB5.out) (by rw [hil];exact HV5.out) HZB.out (by rw [hil];omega) (invL_sm HSD.out);rwa [hil] at this
 clear hil HV5;generalize w4.heap.size = B4 at *;go_wp2_with (fail)
 refine HA2.out.mono ?_;rintro r w6 ⟨v6,rfl,hr6,hb6⟩;rw [P2.out];rw [P2.out] at hr6;have HB6:=lH (qtrans HB5.out hb6);have HX6:=lH (HX5.out.below hb6);have HR6:=lH (HR5.out.below hb6);have HY:=lH hr6;clear hr6 hb6 HA2 HB5 HX5 HR5 P2;obtain ⟨y1,y2,rfl,-,-⟩:=mods_slice HY.out;have HD2:=lH (eDiff_any A A aa aa ca ca 10 w6 (HA.out.below HB6.out) (HA.out.below HB6.out) HZA.out HZA.out (by omega));go_wp2_with (fail)
 refine HD2.out.mono ?_;rintro r w7 ⟨v7,rfl,hr7,hb7⟩;rw [P4.out] at hr7;rw [P3.out];obtain ⟨n1,n2,rfl,-,-⟩:=edits_val hr7;have HB7:=lH (qtrans HB6.out hb7);have HX7:=lH (HX6.out.below hb7);have HR7:=lH (HR6.out.below hb7);have HY7:=lH (HY.out.below hb7);clear hr7 hb7 HD2 HB6 HX6 HR6 HY P3 P4;simp only [List.length_nil]
 have HSA:Hid (∀ m∈A,(∀ x∈m.decls,x.names.length≤1000000∧nodesN x.body≤1000000)∧m.uses.length≤1000000∧m.decls.length≤1000000):=fun m hm => by
  have k:=HZA.out.mods m hm;exact ⟨fun x hx => ⟨(k.2 x hx).1.len,(k.2 x hx).2⟩,Nat.le_trans k.1.2.2.1 (by omega),Nat.le_trans k.1.2.2.2 (by omega)⟩
 have HSB:Hid (∀ m∈B,(∀ x∈m.decls,x.names.length≤1000000∧nodesN x.body≤1000000)∧m.uses.length≤1000000∧m.decls.length≤1000000):=fun m hm => by
  have k:=HZB.out.mods m hm;exact ⟨fun x hx => ⟨(k.2 x hx).1.len,(k.2 x hx).2⟩,Nat.le_trans k.1.2.2.1 (by omega),Nat.le_trans k.1.2.2.2 (by omega)⟩
 have hal:=HZA.out.len;have hbl:=HZB.out.len;have HM1:=lH (r24SameMods_any B B u1 ab u2 cb w7 HX7.out (HB.out.below HB7.out) HSB.out (by omega));rw [sameMs_iff.2 (rfl:B = B)] at HM1;clear HX7 HSB;go_wp2_with (fail)
 refine HM1.out.mono ?_;rintro r w8 ⟨rfl,hb8⟩;have HB8:=lH (qtrans HB7.out hb8);have HR8:=lH (HR7.out.below hb8);have HY8:=lH (HY7.out.below hb8);clear hb8 HM1 HB7 HR7 HY7;have HM2:=lH (r24SameMods_any A A y1 aa y2 ca w8 HY8.out (HA.out.below HB8.out) HSA.out (by omega));rw [sameMs_iff.2 (rfl:A = A)] at HM2;clear HY8 HSA;go_wp2_with (fail)
 refine HM2.out.mono ?_;rintro r w9 ⟨rfl,hb9⟩;have HB9:=lH (qtrans HB8.out hb9);have HR9:=lH (HR8.out.below hb9);clear hb9 HM2 HB8 HR8;have HI1:=lH (Invert_any l x1 x2 w9 HR9.out (by omega));go_wp2_with (fail)
 refine HI1.out.mono ?_;rintro r w10 ⟨rfl,hr10,hb10⟩;have HB10:=lH (qtrans HB9.out hb10);have HR10:=lH (HR9.out.below hb10);clear hb10 HI1 HB9 HR9;have hil:(invL l).length = l.length:=by unfold invL;rw [List.length_reverse,List.length_map]
 have HI2:Hid (Calls Tryz.prog 28 #[.slice (some ⟨w9.heap.size,0,none⟩) l.length l.length] w10 fun r w' => r = .returned (.slice (some ⟨w10.heap.size,0,none⟩) l.length l.length)∧Reads w' [] (editsT l) (.slice (some ⟨w10.heap.size,0,none⟩) l.length l.length)∧Below w10.heap.size w10 w'):=by
  have:=Invert_any (invL l) (some ⟨w9.heap.size,0,none⟩) l.length w10 (by rw [hil];exact hr10) (by omega);rwa [hil,invL_invL] at this
 clear hr10 hil;generalize w9.heap.size = B9 at *;go_wp2_with (fail)
 refine HI2.out.mono ?_;rintro r w11 ⟨rfl,hr11,hb11⟩;have HB11:=lH (qtrans HB10.out hb11);have HSS:=lH (r34SameAll_any l l (some ⟨w10.heap.size,0,none⟩) x1 l.length x2 w11 hr11 (HR10.out.below hb11) HSD.out (by omega));rw [sameEs_iff.2 (rfl:l = l)] at HSS;clear hb11 hr11 HI2 HB10 HR10;generalize w10.heap.size = B10 at *;go_wp2_with (fail)
 refine HSS.out.mono ?_;rintro r w12 ⟨rfl,hb12⟩;have HB12:=lH (qtrans HB11.out hb12);clear hb12 HSS HB11;go_wp2_with (fail)
 refine (awake34_any _).mono ?_;rintro r w19 ⟨rfl,hb19⟩;have HF19:=lH (qtrans HB12.out hb19);clear hb19;go_wp2;go_ret;exact ⟨rfl,HF19.out⟩
end Go.Proofs.YtdpnfkjafhbndaaGreatDoor

