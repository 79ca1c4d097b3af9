/- The law EditTwice. -/
import Derived.Test.YtdpnfkjafhbndaaGreatDoorEPG
import Derived.Test.YtdpnfkjafhbndaaGreatDoorECA
namespace Go.Proofs.YtdpnfkjafhbndaaGreatDoor
open Go.RowKit Go.Shelf
attribute [local go_sem] Oper.semAt_some
set_option maxRecDepth 100000 in
set_option maxHeartbeats 16000000 in
theorem LEditTwice_any (L:List OMod) (e:OEdit) (ao:Option Addr) (co:Nat) (af:Option Addr) (cf:Nat) (ma:Option Addr) (mc:Nat) (w:World) (hm:Reads w [] (modsT L) (.slice ma L.length mc)) (he:EditIn w e ao co af cf) (hbm:∀ x∈L,BigM x) (hbe:BigE e) (hmn:L.length≤4000000) :
  Calls Tryz.prog 9 #[.slice ma L.length mc,editV e ao co af cf] w fun r w' => r = .returned (.bool true)∧Below w.heap.size w w':=by
 have HRD:=lH (fun W (h:Below w.heap.size w W) => edits_single W e ao co af cf (he.below h));have HGM:=lH (fun W (h:Below w.heap.size w W) => r34Great_any L ma mc W (hm.below h) hbm hmn)
 have HGR:=lH (fun W (h:Below w.heap.size w W) => rGreatEdits_any [e] (some ⟨W.heap.size,0,none⟩) 1 _ (HRD.out W h) (fun x hx => by
  rw [List.mem_singleton] at hx;subst hx
  exact ⟨⟨hbe.pack,hbe.text⟩,hbe.old,hbe.fresh⟩) (by simp))
 have HG:=lH (CBox.new w 35 #[.int .i64 e.kind,.string e.pack,.string e.text,.slice ao e.old.length co,.slice af e.fresh.length cf]);have HA:=lH (qalloc w (.cells #[.int .i64 e.kind,.string e.pack,.string e.text,.slice ao e.old.length co,.slice af e.fresh.length cf] 35))
 have HSE:Hid (greatEs [e] = false→∀ x∈[e],SmE x):=fun h x hx => by
  unfold greatEs at h;simp only [List.any_cons,List.any_nil,Bool.or_false,Bool.or_eq_false_iff] at h
  rw [List.mem_singleton] at hx;subst hx;exact smE_of hbe h.1
 have HSM:Hid (greatMs L = false→SzB 10 L):=fun h => szB_of hbm h;have HM:=lH hm;have HE:=lH he;clear he hm hbe hbm hmn;unfold editV
 go_enter Tryz.func9,Tryz.ntmps9
 go_upto_region 1 with (fail)
 generalize w.alloc (.cells #[.int .i64 e.kind,.string e.pack,.string e.text,.slice ao e.old.length co,.slice af e.fresh.length cf] 35) = w0 at *;generalize greatEs [e] = ge at *;generalize greatMs L = gm at *;have HC0:=lH (HGM.out w0 HA.out);go_wp2_with (fail)
 refine HC0.out.mono ?_;rintro r w1 ⟨rfl,hb1⟩;have HB1:=lH hb1;have HW1:=lH (qtrans HA.out hb1);clear hb1 HC0 HGM
 cases gm with
 | true =>
  go_wp2_with (fail)
  refine (awake34_any _).mono ?_;rintro r w19 ⟨rfl,hb19⟩;have HF19:=lH (qtrans HW1.out hb19);clear hb19;go_wp2;go_ret;exact ⟨rfl,HF19.out⟩
 | false =>
 have e0:=(HG.out.below HB1.out).cell (i:=0) (v:=.int .i64 e.kind) rfl;have e1:=(HG.out.below HB1.out).cell (i:=1) (v:=.string e.pack) rfl;have e2:=(HG.out.below HB1.out).cell (i:=2) (v:=.string e.text) rfl;have e3:=(HG.out.below HB1.out).cell (i:=3) (v:=.slice ao e.old.length co) rfl;have e4:=(HG.out.below HB1.out).cell (i:=4) (v:=.slice af e.fresh.length cf) rfl;have el:=(HG.out.below HB1.out).lt;have HC1:=lH (HGR.out w1 HW1.out);go_wp2_with (fail)
 refine HC1.out.mono ?_;rintro r w2 ⟨rfl,hb2⟩;have HB2:=lH (qtrans HB1.out (qtrans (qalloc _ _) hb2));clear hb2 HC1 HGR;clear e0 e1 e2 e3 e4 el;have HW2:=lH (qtrans HA.out HB2.out);clear HB1 HW1
 cases ge with
 | true =>
  go_wp2_with (fail)
  refine (awake34_any _).mono ?_;rintro r w19 ⟨rfl,hb19⟩;have HF19:=lH (qtrans HW2.out hb19);clear hb19;go_wp2;go_ret;exact ⟨rfl,HF19.out⟩
 | false =>
 have HSX:=lH (HSE.out (by first | exact rfl | exact trivial));have hzm:=HSM.out (by first | exact rfl | exact trivial);have HZM:=lH hzm;have HX1:=lH (appR_sz HZM.out HSX.out);have hx1l:=HX1.out.len;have HP1:Hid ((appR L [e]).2≠0→(appR L [e]).1 = []):=appR_bad;have HP2:Hid ((appR L [e]).2 = 0→((appR (appR L [e]).1 [e]).2 = 7∨(appR (appR L [e]).1 [e]).2 = 8∨(appR (appR L [e]).1 [e]).2 = 17)∧appR (appR L [e]).1 (invL [e]) = (L,0)):=fun h => ⟨app_twice (appR_pair h),app_back (appR_pair h)⟩;clear HSE HSM hzm
 have e0:=(HG.out.below HB2.out).cell (i:=0) (v:=.int .i64 e.kind) rfl;have e1:=(HG.out.below HB2.out).cell (i:=1) (v:=.string e.pack) rfl;have e2:=(HG.out.below HB2.out).cell (i:=2) (v:=.string e.text) rfl;have e3:=(HG.out.below HB2.out).cell (i:=3) (v:=.slice ao e.old.length co) rfl;have e4:=(HG.out.below HB2.out).cell (i:=4) (v:=.slice af e.fresh.length cf) rfl;have el:=(HG.out.below HB2.out).lt
 have HA1:=lH (eApply_any L [e] ma mc (some ⟨w2.heap.size,0,none⟩) 1 10 _ (HM.out.below (qtrans HW2.out (qalloc w2 _))) (HRD.out w2 HW2.out) HZM.out (by simp) HSX.out);go_wp2_with (fail)
 refine HA1.out.mono ?_;rintro r w3 ⟨v3,rfl,hr3,hb3⟩;have HR3:=lH hr3;have HB3:=lH (qtrans HB2.out (qtrans (qalloc _ _) hb3));clear hr3 hb3 HA1;clear e0 e1 e2 e3 e4 el;have HW3:=lH (qtrans HA.out HB3.out);clear HB2 HW2;obtain ⟨x1,x2,rfl,hc1,hc2⟩:=mods_slice HR3.out;generalize (appR L [e]).1 = M at *;generalize (appR L [e]).2 = E1 at *
 by_cases h0:E1 = 0
 rotate_left
 ·have q2:(E1 != 0) = true:=by simp [h0]
  have hm0:=HP1.out h0;clear HP1 HP2 h0;subst hm0;simp only [List.length_nil]
  go_wp2_with (fail)
  refine (awake34_any _).mono ?_;rintro r w19 ⟨rfl,hb19⟩;have HF19:=lH (qtrans HW3.out hb19);clear hb19;go_wp2;go_ret;exact ⟨rfl,HF19.out⟩
 have q2:(E1 != 0) = false:=by rw [h0];rfl
 obtain ⟨p1,p2⟩:=HP2.out h0;have HPB:=lH p2;clear HP1 HP2 h0 p2;have e0:=(HG.out.below HB3.out).cell (i:=0) (v:=.int .i64 e.kind) rfl;have e1:=(HG.out.below HB3.out).cell (i:=1) (v:=.string e.pack) rfl;have e2:=(HG.out.below HB3.out).cell (i:=2) (v:=.string e.text) rfl;have e3:=(HG.out.below HB3.out).cell (i:=3) (v:=.slice ao e.old.length co) rfl;have e4:=(HG.out.below HB3.out).cell (i:=4) (v:=.slice af e.fresh.length cf) rfl;have el:=(HG.out.below HB3.out).lt
 have HA2:=lH (eApply_any M [e] x1 x2 (some ⟨w3.heap.size,0,none⟩) 1 11 _ (HR3.out.below (qalloc w3 _)) (HRD.out w3 HW3.out) HX1.out.b (by simp) HSX.out);go_wp2_with (fail)
 refine HA2.out.mono ?_;rintro r w4 ⟨v4,rfl,hr4,hb4⟩;have HR3b:=lH (HR3.out.below (qtrans (qalloc _ _) hb4));have HB4:=lH (qtrans HB3.out (qtrans (qalloc _ _) hb4));clear hb4 HA2 HR3;clear e0 e1 e2 e3 e4 el;have HW4:=lH (qtrans HA.out HB4.out);clear HB3 HW3;obtain ⟨y1,y2,rfl,-,-⟩:=mods_slice hr4;clear hr4;generalize (appR M [e]).2 = E2 at *;generalize (appR M [e]).1.length = M2 at *;have e0:=(HG.out.below HB4.out).cell (i:=0) (v:=.int .i64 e.kind) rfl;have e1:=(HG.out.below HB4.out).cell (i:=1) (v:=.string e.pack) rfl
 have e2:=(HG.out.below HB4.out).cell (i:=2) (v:=.string e.text) rfl;have e3:=(HG.out.below HB4.out).cell (i:=3) (v:=.slice ao e.old.length co) rfl;have e4:=(HG.out.below HB4.out).cell (i:=4) (v:=.slice af e.fresh.length cf) rfl;have el:=(HG.out.below HB4.out).lt;have HI:=lH (Invert_any [e] (some ⟨w4.heap.size,0,none⟩) 1 _ (HRD.out w4 HW4.out) (by simp));go_wp2_with (fail)
 refine HI.out.mono ?_;rintro r w5 ⟨rfl,hr5,hb5⟩;rw [show (w4.alloc (.cells #[.int .i64 e.kind,.string e.pack,.string e.text,.slice ao e.old.length co,.slice af e.fresh.length cf] 35)).heap.size = w4.heap.size + 1 from Array.size_push ..] at hr5;have HR5:=lH hr5;have HR3c:=lH (HR3b.out.below (qtrans (qalloc _ _) hb5));have HB5:=lH (qtrans HB4.out (qtrans (qalloc _ _) hb5));clear hb5 hr5 HI HR3b;clear e0 e1 e2 e3 e4 el;have HW5:=lH (qtrans HA.out HB5.out);clear HB4 HW4;have hil:(invL [e]).length = 1:=rfl
 have HA3:=lH (eApply_any M (invL [e]) x1 x2 _ 1 11 w5 HR3c.out HR5.out HX1.out.b (by simp [hil]) (invL_sm HSX.out));rw [hil] at HA3;clear hil;go_wp2_with (fail)
 refine HA3.out.mono ?_;rintro r w6 ⟨v6,rfl,hr6,hb6⟩;rw [HPB.out];rw [HPB.out] at hr6;have HW6:=lH (qtrans HW5.out hb6);have HMW:=lH (HM.out.below HW6.out);have HR6:=lH hr6;clear hr6 hb6 HA3 HB5 HW5 HPB HR3c HR5;obtain ⟨z1,z2,rfl,-,-⟩:=mods_slice HR6.out
 have HSMM:=lH (r24SameMods_any L L z1 ma z2 mc w6 HR6.out HMW.out (fun m hm => by
  have k:=HZM.out.mods m hm
  exact ⟨fun x hx => ⟨(k.2 x hx).1.len,(k.2 x hx).2⟩,Nat.le_trans k.1.2.2.1 (by omega),Nat.le_trans k.1.2.2.2 (by omega)⟩) (by have:=HZM.out.len;omega))
 rw [sameMs_iff.2 (rfl:L = L)] at HSMM;clear HMW HR6
 rcases p1 with rfl | rfl | rfl
 ·go_wp2_with (fail)
  refine HSMM.out.mono ?_;rintro r w7 ⟨rfl,hb7⟩;have HW7:=lH (qtrans HW6.out hb7);clear hb7 HSMM HW6;go_wp2_with (fail)
  refine (awake34_any _).mono ?_;rintro r w19 ⟨rfl,hb19⟩;have HF19:=lH (qtrans HW7.out hb19);clear hb19;go_wp2;go_ret;exact ⟨rfl,HF19.out⟩
 ·go_wp2_with (fail)
  refine HSMM.out.mono ?_;rintro r w7 ⟨rfl,hb7⟩;have HW7:=lH (qtrans HW6.out hb7);clear hb7 HSMM HW6;go_wp2_with (fail)
  refine (awake34_any _).mono ?_;rintro r w19 ⟨rfl,hb19⟩;have HF19:=lH (qtrans HW7.out hb19);clear hb19;go_wp2;go_ret;exact ⟨rfl,HF19.out⟩
 ·go_wp2_with (fail)
  refine HSMM.out.mono ?_;rintro r w7 ⟨rfl,hb7⟩;have HW7:=lH (qtrans HW6.out hb7);clear hb7 HSMM HW6;go_wp2_with (fail)
  refine (awake34_any _).mono ?_;rintro r w19 ⟨rfl,hb19⟩;have HF19:=lH (qtrans HW7.out hb19);clear hb19;go_wp2;go_ret;exact ⟨rfl,HF19.out⟩
end Go.Proofs.YtdpnfkjafhbndaaGreatDoor

