/- The law CommuteMoves. -/
import Derived.Test.YtdpnfkjafhbndaaGreatDoorCCA
import Derived.Test.YtdpnfkjafhbndaaGreatDoorCPA
import Derived.Test.YtdpnfkjafhbndaaGreatDoorCU6
import Derived.Test.YtdpnfkjafhbndaaGreatDoorCW1
namespace Go.Proofs.YtdpnfkjafhbndaaGreatDoor
open Go.RowKit Go.Shelf
attribute [local go_sem] Oper.semAt_some
theorem moveUp_mem {P:OEdit→Prop}:∀ (d:Nat) {l m:List OEdit} {f:Nat},f + d < l.length→(∀ e∈l,P e)→moveUp d l f = some m→(∀ e∈m,P e)∧m.length = l.length
 | 0,l,m,f,_,h,hm => by
  rw [moveUp] at hm
  cases hm
  exact ⟨h,rfl⟩
 | d + 1,l,m,f,hd,h,hm => by
  rw [moveUp] at hm;split at hm
  ·obtain ⟨h1,h2⟩:=moveUp_mem d (l:=swapAt l f) (f:=f + 1) (by rw [swapAt_len];omega) (mem_swapAt (by omega) h) hm
   exact ⟨h1,by rw [h2,swapAt_len]⟩
  ·cases hm
theorem moveDown_mem {P:OEdit→Prop}:∀ (d:Nat) {l m:List OEdit} {f:Nat},d≤f→f < l.length→(∀ e∈l,P e)→moveDown d l f = some m→(∀ e∈m,P e)∧m.length = l.length
 | 0,l,m,f,_,_,h,hm => by
  rw [moveDown] at hm
  cases hm
  exact ⟨h,rfl⟩
 | d + 1,l,m,f,hd,hf,h,hm => by
  rw [moveDown] at hm;split at hm
  ·obtain ⟨h1,h2⟩:=moveDown_mem d (l:=swapAt l (f - 1)) (f:=f - 1) (by omega) (by rw [swapAt_len];omega) (mem_swapAt (by omega) h) hm
   exact ⟨h1,by rw [h2,swapAt_len]⟩
  ·cases hm
theorem moveL_mem {P:OEdit→Prop} {l:List OEdit} {f t:Int} (h:∀ e∈l,P e):(∀ e∈(moveL l f t).getD [],P e)∧((moveL l f t).getD []).length≤l.length:=by
 unfold moveL;split
 ·exact ⟨fun e he => by simp at he,by simp⟩
 ·rename_i hr
  cases hm:mv l f.toNat t.toNat with
  | none => exact ⟨fun e he => by simp at he,by simp⟩
  | some m =>
   unfold mv at hm;split at hm
   ·obtain ⟨h1,h2⟩:=moveUp_mem _ (by omega) h hm
    exact ⟨h1,by rw [Option.getD_some,h2];exact Nat.le_refl _⟩
   ·obtain ⟨h1,h2⟩:=moveDown_mem _ (by omega) (by omega) h hm
    exact ⟨h1,by rw [Option.getD_some,h2];exact Nat.le_refl _⟩
theorem moves_plain {l m:List OEdit} {i j:Int} (h:moveL l i j = some m) (L:List OMod):moveL m j i = some l∧((appR L l).2 = 0↔(appR L m).2 = 0)∧(appR L l).1 = (appR L m).1:=
  have k:=moveL_run h
  ⟨k.1,app_same k.2⟩
set_option maxRecDepth 100000 in
set_option maxHeartbeats 16000000 in
theorem LCommuteMoves_any (L:List OMod) (l:List OEdit) (i j:Int) (ma:Option Addr) (mc:Nat) (la:Option Addr) (lc:Nat) (w:World) (hm:Reads w [] (modsT L) (.slice ma L.length mc)) (hl:Reads w [] (editsT l) (.slice la l.length lc)) (hbm:∀ x∈L,BigM x) (hbl:∀ x∈l,BigE x) (hmn:L.length≤4000000) (hln:l.length≤4000000) :
  Calls Tryz.prog 11 #[.slice ma L.length mc,.slice la l.length lc,.int .i64 i,.int .i64 j] w fun r w' => r = .returned (.bool true)∧Below w.heap.size w w':=by
 have HGM:=lH (r34Great_any L ma mc w hm hbm hmn);have HGL:=lH (fun W (h:Below w.heap.size w W) => rGreatEdits_any l la lc W (hl.below h) (fun x hx => ⟨⟨(hbl x hx).pack,(hbl x hx).text⟩,(hbl x hx).old,(hbl x hx).fresh⟩) hln);have HSM:Hid (greatMs L = false→SzB 10 L):=fun h => szB_of hbm h;have HSL:Hid (greatEs l = false→(∀ x∈l,SmE x)∧l.length≤20):=fun h => smEs_of hbl h;have HM:=lH hm;have HL:=lH hl;clear hm hl hbm hbl hmn hln;generalize greatMs L = gm at *;generalize greatEs l = gl at *
 go_enter Tryz.func11,Tryz.ntmps11
 go_wp2_with (fail)
 refine HGM.out.mono ?_;rintro r w1 ⟨rfl,hb1⟩;have HB1:=lH hb1;clear hb1 HGM
 cases gm with
 | true =>
  go_wp2_with (fail)
  refine (awake35_any _).mono ?_;rintro r w9 ⟨rfl,hb9⟩;have HF9:=lH (qtrans HB1.out hb9);clear hb9;go_wp2;go_ret;exact ⟨rfl,HF9.out⟩
 | false =>
 go_wp2_with (fail)
 refine (HGL.out w1 HB1.out).mono ?_;rintro r w2 ⟨rfl,hb2⟩;have HB2:=lH (qtrans HB1.out hb2);clear hb2 HGL HB1
 cases gl with
 | true =>
  go_wp2_with (fail)
  refine (awake35_any _).mono ?_;rintro r w9 ⟨rfl,hb9⟩;have HF9:=lH (qtrans HB2.out hb9);clear hb9;go_wp2;go_ret;exact ⟨rfl,HF9.out⟩
 | false =>
 have hzm:=HSM.out (by first | exact rfl | exact trivial);obtain ⟨hsl,hll⟩:=HSL.out (by first | exact rfl | exact trivial);have HZM:=lH hzm;have HSE:=lH hsl;obtain ⟨hml,hmn⟩:=moveL_mem (P:=SmE) (f:=i) (t:=j) hsl;have HML:=lH hml;have hmn2:((moveL l i j).getD []).length≤20:=by omega
 have HM1:=lH (cMove_any l la lc i j w2 (HL.out.below HB2.out) hsl (by omega));have HPL:Hid (∀ m,moveL l i j = some m→moveL m j i = some l∧((appR L l).2 = 0↔(appR L m).2 = 0)∧(appR L l).1 = (appR L m).1):=fun m h => moves_plain h L;clear HSM HSL hzm hsl hml hmn;obtain ⟨q,hq⟩:∃ q,moveL l i j = q:=⟨_,rfl⟩;rw [hq] at HML hmn2 HM1 HPL;clear hq;go_wp2_with (fail)
 refine HM1.out.mono ?_;rintro r w3 ⟨a3,c3,rfl,hr3,hb3⟩;have HB3:=lH (qtrans HB2.out hb3);have HR3:=lH hr3;clear hb3 hr3 HM1 HB2
 cases q with
 | none =>
  simp only [Option.getD_none,Option.isSome_none,List.length_nil]
  go_wp2_with (fail)
  refine (awake35_any _).mono ?_;rintro r w9 ⟨rfl,hb9⟩;have HF9:=lH (qtrans HB3.out hb9);clear hb9;go_wp2;go_ret;exact ⟨rfl,HF9.out⟩
 | some m =>
 obtain ⟨hbk,hiff,heq⟩:=HPL.out m rfl;have HBK:=lH hbk;have HEQ:=lH heq;have HIF:=lH hiff;simp only [Option.getD_some,Option.isSome_some] at *
 clear HPL hbk hiff heq;have HM2:=lH (cMove_any m a3 c3 j i w3 HR3.out HML.out (by omega));rw [HBK.out] at HM2;simp only [Option.getD_some,Option.isSome_some] at HM2
 go_wp2_with (fail)
 refine HM2.out.mono ?_;rintro r w4 ⟨a4,c4,rfl,hr4,hb4⟩;have HR4:=lH hr4;have HR3b:=lH (HR3.out.below hb4);have HB4:=lH (qtrans HB3.out hb4);clear hr4 hb4 HM2 HR3 HB3;have HA1:=lH (eApply_any L l ma mc la lc 10 w4 (HM.out.below HB4.out) (HL.out.below HB4.out) HZM.out (by omega) HSE.out);have HX1:=lH ((appR_sz HZM.out HSE.out).three (by omega));have hx1l:=(appR_sz HZM.out HSE.out).len;go_wp2_with (fail)
 refine HA1.out.mono ?_;rintro r w5 ⟨v5,rfl,hr5,hb5⟩;have HR5:=lH hr5;have HB5:=lH (qtrans HB4.out hb5);have HR3c:=lH (HR3b.out.below hb5);have HR4c:=lH (HR4.out.below hb5);clear hr5 hb5 HA1 HB4 HR3b HR4;have HA2:=lH (eApply_any L m ma mc a3 c3 10 w5 (HM.out.below HB5.out) HR3c.out HZM.out (by omega) HML.out);go_wp2_with (fail)
 refine HA2.out.mono ?_;rintro r w6 ⟨v6,rfl,hr6,hb6⟩;rw [← HEQ.out] at hr6;have HR6:=lH hr6;have HR5c:=lH (HR5.out.below hb6);have HB6:=lH (qtrans HB5.out hb6);have HSA:=lH (r34SameAll_any l l a4 la c4 lc w6 (HR4c.out.below hb6) (HL.out.below HB6.out) HSE.out (by omega));rw [sameEs_iff.2 (rfl:l = l)] at HSA;have hx:=eqOk_of HIF.out;clear hr6 hb6 HA2 HB5 HR5 HR3c HR4c HEQ HIF;obtain ⟨x1,x2,rfl,-,-⟩:=mods_slice HR5c.out;obtain ⟨y1,y2,rfl,-,-⟩:=mods_slice HR6.out;generalize (appR L m).2 = E2 at *;generalize (appR L l).2 = E1 at *
 generalize (appR L l).1 = M at *;go_wp2_with (fail)
 refine HSA.out.mono ?_;rintro r w7 ⟨rfl,hb7⟩;have HB7:=lH (qtrans HB6.out hb7);have HSM:=lH (r24SameMods_any M M x1 y1 x2 y2 w7 (HR5c.out.below hb7) (HR6.out.below hb7) HX1.out (by omega));rw [sameMs_iff.2 (rfl:M = M)] at HSM;clear hb7 HSA HB6 HR5c HR6;go_wp2_with (fail)
 refine HSM.out.mono ?_;rintro r w8 ⟨rfl,hb8⟩;have HB8:=lH (qtrans HB7.out hb8);clear hb8 HSM HB7;go_wp2_with (fail)
 refine (awake35_any _).mono ?_;rintro r w9 ⟨rfl,hb9⟩;have HF9:=lH (qtrans HB8.out hb9);clear hb9;go_wp2;go_ret;exact ⟨rfl,HF9.out⟩
end Go.Proofs.YtdpnfkjafhbndaaGreatDoor

