/- The law EditSteps. -/
import Derived.Test.YtdpnfkjafhbndaaGreatDoorEPG
import Derived.Test.YtdpnfkjafhbndaaGreatDoorECA
namespace Go.Proofs.YtdpnfkjafhbndaaGreatDoor
open Go.RowKit Go.Shelf
attribute [local go_sem] Oper.semAt_some
set_option maxRecDepth 100000 in
set_option maxHeartbeats 16000000 in
theorem LEditSteps_any (L:List OMod) (l:List OEdit) (i:Nat) (ma:Option Addr) (mc:Nat) (la:Option Addr) (lc:Nat) (w:World) (hm:Reads w [] (modsT L) (.slice ma L.length mc)) (hl:Reads w [] (editsT l) (.slice la l.length lc)) (hbm:∀ x∈L,BigM x) (hbl:∀ x∈l,BigE x) (hmn:L.length≤4000000) (hln:l.length≤4000000) (hi:i≤255) :
  Calls Tryz.prog 4 #[.slice ma L.length mc,.slice la l.length lc,.int .u8 i] w fun r w' => r = .returned (.bool true)∧Below w.heap.size w w':=by
 have HGM:=lH (r34Great_any L ma mc w hm hbm hmn);have HGL:=lH (fun W (h:Below w.heap.size w W) => rGreatEdits_any l la lc W (hl.below h) (fun x hx => ⟨⟨(hbl x hx).pack,(hbl x hx).text⟩,(hbl x hx).old,(hbl x hx).fresh⟩) hln);have HSM:Hid (greatMs L = false→SzB 10 L):=fun h => szB_of hbm h;have HSL:Hid (greatEs l = false→(∀ x∈l,SmE x)∧l.length≤20):=fun h => smEs_of hbl h;obtain ⟨la2,lc2,elc,hlc,hlc2⟩:=edits_val hl
 injection elc with e1 _ e3
 subst e1 e3;have HM:=lH hm;have HL:=lH hl;clear hm hl hbm hbl hmn hln;generalize greatMs L = gm at *;generalize greatEs l = gl at *
 go_enter Tryz.func4,Tryz.ntmps4
 go_wp2_with (fail)
 refine HGM.out.mono ?_;rintro r w1 ⟨rfl,hb1⟩;have HB1:=lH hb1;clear hb1 HGM
 cases gm with
 | true =>
  go_wp2_with (fail)
  refine (awake34_any _).mono ?_;rintro r w19 ⟨rfl,hb19⟩;have HF19:=lH (qtrans HB1.out hb19);clear hb19;go_wp2;go_ret;exact ⟨rfl,HF19.out⟩
 | false =>
 go_wp2_with (fail)
 refine (HGL.out w1 HB1.out).mono ?_;rintro r w2 ⟨rfl,hb2⟩;have HB2:=lH (qtrans HB1.out hb2);clear hb2 HGL HB1
 cases gl with
 | true =>
  go_wp2_with (fail)
  refine (awake34_any _).mono ?_;rintro r w19 ⟨rfl,hb19⟩;have HF19:=lH (qtrans HB2.out hb19);clear hb19;go_wp2;go_ret;exact ⟨rfl,HF19.out⟩
 | false =>
 have hzm:=HSM.out (by first | exact rfl | exact trivial);obtain ⟨hsl,hll⟩:=HSL.out (by first | exact rfl | exact trivial);have HZM:=lH hzm;have HSE:=lH hsl;clear HSM HSL hzm hsl;obtain ⟨k,hk⟩:∃ k,k = i % (l.length + 1):=⟨_,rfl⟩;have hrm:((i:Int)).tmod ((l.length:Int) + 1) = (k:Int):=by rw [hk];exact (Int.ofNat_tmod i (l.length + 1)).symm
 have hkl:k≤l.length:=by have:=Nat.mod_lt i (show 0 < l.length + 1 by omega);omega
 have hne:¬ (l.length:Int) + 1 = 0:=by omega
 have hwi:IntKind.i64.wrap (i:Int) = (i:Int):=IntWalk.i64_in _ (by omega);have hwk:IntKind.i64.wrap (k:Int) = (k:Int):=IntWalk.i64_in _ (by omega);have hwl:IntKind.i64.wrap ((l.length:Int) + 1) = (l.length:Int) + 1:=IntWalk.i64_in _ (by omega);have hlp:(l.take k).length = k:=by rw [List.length_take];omega
 have hls:(l.drop k).length = l.length - k:=List.length_drop ..;have hsp:∀ e∈l.take k,SmE e:=fun e he => HSE.out e (List.mem_of_mem_take he);have hss:∀ e∈l.drop k,SmE e:=fun e he => HSE.out e (List.mem_of_mem_drop he);have HA1:=lH (eApply_any L (l.take k) ma mc la lc 10 w2 (HM.out.below HB2.out) (by rw [hlp];exact reads_pre (size:=5) (f:=editT) (fun _ => rfl) (HL.out.below HB2.out) hkl) HZM.out (by omega) hsp);rw [hlp] at HA1;have hx1:=(appR_sz HZM.out hsp).b;have hm1:=hx1.len;rw [hlp] at hx1 hm1;have HZ1:=lH hx1
 have HSP:Hid ((appR L (l.take k)).2 = 0→appR (appR L (l.take k)).1 (l.drop k) = appR L l):=fun h => by
  have:=app_steps (fs:=l.drop k) (appR_pair h);rwa [List.take_append_drop] at this
 have HA3:=lH (fun W (h:Below w.heap.size w W) => eApply_any L l ma mc la lc 10 W (HM.out.below h) (HL.out.below h) HZM.out (by omega) HSE.out);have HX3:=lH ((appR_sz HZM.out HSE.out).three (by omega));have hx3l:=(appR_sz HZM.out HSE.out).len;have HSUF:Hid (∀ W,Below w.heap.size w W→∀ a':Option Addr,(∀ b o,k < l.length→la = some ⟨b,o,none⟩→a' = some ⟨b,o + k * 5,none⟩)→Reads W [] (editsT (l.drop k)) (.slice a' (l.length - k) (lc - k))):=fun W h a' ha => reads_suf (size:=5) (f:=editT) (fun _ => rfl) (HL.out.below h) hkl a' ha;have HSS:=lH hss
 clear hk hsp hss hx1;go_wp2_with (fail)
 refine HA1.out.mono ?_;rintro r w3 ⟨v3,rfl,hr3,hb3⟩;have HR3:=lH hr3;have HB3:=lH (qtrans HB2.out hb3);clear hr3 hb3 HA1 HB2;obtain ⟨x1,x2,rfl,hc1,hc2⟩:=mods_slice HR3.out;generalize (appR L (l.take k)).2 = E1 at *;generalize (appR L (l.take k)).1 = M at *
 by_cases h0:E1 = 0
 rotate_left
 ·have q2:(E1 != 0) = true:=by simp [h0]
  clear h0;go_wp2_with (fail)
  refine (awake34_any _).mono ?_;rintro r w19 ⟨rfl,hb19⟩;have HF19:=lH (qtrans HB3.out hb19);clear hb19;go_wp2;go_ret;exact ⟨rfl,HF19.out⟩
 have q2:(E1 != 0) = false:=by rw [h0];rfl
 have HST:=lH (HSP.out h0);clear HSP h0
 have HA2:Hid (∀ a':Option Addr,(∀ b o,k < l.length→la = some ⟨b,o,none⟩→a' = some ⟨b,o + k * 5,none⟩)→Calls Tryz.prog 17 #[.slice x1 M.length x2,.slice a' (l.length - k) (lc - k)] w3 fun r w' => AppPost w3 M (l.drop k) r w'):=fun a' ha => by
  have:=eApply_any M (l.drop k) x1 x2 a' (lc - k) (10 + k) w3 HR3.out (by rw [hls];exact HSUF.out w3 HB3.out a' ha) HZ1.out (by omega) HSS.out;rwa [hls] at this
 clear HSUF HSS hls;generalize l.drop k = S at *
 cases la with
 | none =>
  go_wp2_with (fail)
  refine (HA2.out none (fun b o _ h => by cases h)).mono ?_;rintro r w4 ⟨v4,rfl,hr4,hb4⟩;rw [HST.out];rw [HST.out] at hr4;have HR4:=lH hr4;have HB4:=lH (qtrans HB3.out hb4);clear hr4 hb4 HA2 HB3;have HA4:=lH (HA3.out w4 HB4.out);clear HA3 HST;obtain ⟨y1,y2,rfl,-,-⟩:=mods_slice HR4.out;go_wp2_with (fail)
  refine HA4.out.mono ?_;rintro r w5 ⟨v5,rfl,hr5,hb5⟩;have HR4b:=lH (HR4.out.below hb5);have HR5:=lH hr5;have HB5:=lH (qtrans HB4.out hb5);clear hr5 hb5 HA4 HB4 HR4;obtain ⟨z1,z2,rfl,-,-⟩:=mods_slice HR5.out;generalize (appR L l).2 = E2 at *;generalize (appR L l).1 = R at *;have HSM:=lH (r24SameMods_any R R y1 z1 y2 z2 w5 HR4b.out HR5.out HX3.out (by omega));rw [sameMs_iff.2 (rfl:R = R)] at HSM;clear HR4b HR5;go_wp2_with (fail)
  refine HSM.out.mono ?_;rintro r w6 ⟨rfl,hb6⟩;have HB6:=lH (qtrans HB5.out hb6);clear hb6 HSM HB5;go_wp2_with (fail)
  refine (awake34_any _).mono ?_;rintro r w19 ⟨rfl,hb19⟩;have HF19:=lH (qtrans HB6.out hb19);clear hb19;go_wp2;go_ret;exact ⟨rfl,HF19.out⟩
 | some ad =>
  rcases Nat.eq_or_lt_of_le (show k≤lc by omega) with hcp | hcp
  ·subst hcp
   have HAX:=lH (HA2.out (some ad) (fun b o h _ => by omega));rw [Nat.sub_self,show l.length - k = 0 by omega] at HAX;go_wp2_with (fail)
   refine (HAX.out).mono ?_;rintro r w4 ⟨v4,rfl,hr4,hb4⟩;rw [HST.out];rw [HST.out] at hr4;have HR4:=lH hr4;have HB4:=lH (qtrans HB3.out hb4);clear hr4 hb4 HAX HA2 HB3;have HA4:=lH (HA3.out w4 HB4.out);clear HA3 HST;obtain ⟨y1,y2,rfl,-,-⟩:=mods_slice HR4.out;go_wp2_with (fail)
   refine HA4.out.mono ?_;rintro r w5 ⟨v5,rfl,hr5,hb5⟩;have HR4b:=lH (HR4.out.below hb5);have HR5:=lH hr5;have HB5:=lH (qtrans HB4.out hb5);clear hr5 hb5 HA4 HB4 HR4;obtain ⟨z1,z2,rfl,-,-⟩:=mods_slice HR5.out;generalize (appR L l).2 = E2 at *;generalize (appR L l).1 = R at *;have HSM:=lH (r24SameMods_any R R y1 z1 y2 z2 w5 HR4b.out HR5.out HX3.out (by omega));rw [sameMs_iff.2 (rfl:R = R)] at HSM;clear HR4b HR5;go_wp2_with (fail)
   refine HSM.out.mono ?_;rintro r w6 ⟨rfl,hb6⟩;have HB6:=lH (qtrans HB5.out hb6);clear hb6 HSM HB5;go_wp2_with (fail)
   refine (awake34_any _).mono ?_;rintro r w19 ⟨rfl,hb19⟩;have HF19:=lH (qtrans HB6.out hb19);clear hb19;go_wp2;go_ret;exact ⟨rfl,HF19.out⟩
  ·have hcp2:¬ lc = k:=by omega
   go_wp2_with (fail)
   refine (HA2.out (some (ad.add (k * 5))) (fun b o _ h => by injection h with h;rw [h,Addr.add_lit])).mono ?_;rintro r w4 ⟨v4,rfl,hr4,hb4⟩;rw [HST.out];rw [HST.out] at hr4;have HR4:=lH hr4;have HB4:=lH (qtrans HB3.out hb4);clear hr4 hb4 HA2 HB3;have HA4:=lH (HA3.out w4 HB4.out);clear HA3 HST;obtain ⟨y1,y2,rfl,-,-⟩:=mods_slice HR4.out;go_wp2_with (fail)
   refine HA4.out.mono ?_;rintro r w5 ⟨v5,rfl,hr5,hb5⟩;have HR4b:=lH (HR4.out.below hb5);have HR5:=lH hr5;have HB5:=lH (qtrans HB4.out hb5);clear hr5 hb5 HA4 HB4 HR4;obtain ⟨z1,z2,rfl,-,-⟩:=mods_slice HR5.out;generalize (appR L l).2 = E2 at *;generalize (appR L l).1 = R at *;have HSM:=lH (r24SameMods_any R R y1 z1 y2 z2 w5 HR4b.out HR5.out HX3.out (by omega));rw [sameMs_iff.2 (rfl:R = R)] at HSM;clear HR4b HR5;go_wp2_with (fail)
   refine HSM.out.mono ?_;rintro r w6 ⟨rfl,hb6⟩;have HB6:=lH (qtrans HB5.out hb6);clear hb6 HSM HB5;go_wp2_with (fail)
   refine (awake34_any _).mono ?_;rintro r w19 ⟨rfl,hb19⟩;have HF19:=lH (qtrans HB6.out hb19);clear hb19;go_wp2;go_ret;exact ⟨rfl,HF19.out⟩
end Go.Proofs.YtdpnfkjafhbndaaGreatDoor

