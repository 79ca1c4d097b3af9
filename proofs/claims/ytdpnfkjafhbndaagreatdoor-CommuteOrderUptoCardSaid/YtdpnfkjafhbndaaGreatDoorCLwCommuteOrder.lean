/- The law CommuteOrder. -/
import Derived.Test.YtdpnfkjafhbndaaGreatDoorCCA
import Derived.Test.YtdpnfkjafhbndaaGreatDoorCW1
namespace Go.Proofs.YtdpnfkjafhbndaaGreatDoor
open Go.RowKit Go.Shelf
attribute [local go_sem] Oper.semAt_some
set_option maxRecDepth 100000 in
set_option maxHeartbeats 16000000 in
theorem LCommuteOrder_any (L:List OMod) (e f:OEdit) (ao:Option Addr) (co:Nat) (af:Option Addr) (cf:Nat) (bo:Option Addr) (do':Nat) (bf:Option Addr) (df:Nat) (ma:Option Addr) (mc:Nat) (w:World) (hm:Reads w [] (modsT L) (.slice ma L.length mc)) (he:EditIn w e ao co af cf) (hf:EditIn w f bo do' bf df) (hbm:∀ x∈L,BigM x) (hbe:BigE e) (hbf:BigE f) (hmn:L.length≤4000000) :
  Calls Tryz.prog 5 #[.slice ma L.length mc,editV e ao co af cf,editV f bo do' bf df] w fun r w' => r = .returned (.bool true)∧Below w.heap.size w w':=by
 have HRD:=lH (fun W (h:Below w.heap.size w W) => edits_two W e f ao co af cf bo do' bf df (he.below h) (hf.below h));have HRF:=lH (fun W (h:Below w.heap.size w W) => edits_two W f e bo do' bf df ao co af cf (hf.below h) (he.below h));have HGM:=lH (fun W (h:Below w.heap.size w W) => r34Great_any L ma mc W (hm.below h) hbm hmn)
 have HGR:=lH (fun W (h:Below w.heap.size w W) => rGreatEdits_any [e,f] (some ⟨W.heap.size,0,none⟩) 2 _ (HRD.out W h) (fun x hx => by
  simp only [List.mem_cons,List.not_mem_nil,or_false] at hx
  rcases hx with rfl | rfl
  ·exact ⟨⟨hbe.pack,hbe.text⟩,hbe.old,hbe.fresh⟩
  ·exact ⟨⟨hbf.pack,hbf.text⟩,hbf.old,hbf.fresh⟩) (by simp))
 obtain ⟨g1,g2,g3⟩:=two_boxes w 35 #[.int .i64 e.kind,.string e.pack,.string e.text,.slice ao e.old.length co,.slice af e.fresh.length cf] #[.int .i64 f.kind,.string f.pack,.string f.text,.slice bo f.old.length do',.slice bf f.fresh.length df];have G1:=lH g1;have G2:=lH g2;have HA:=lH g3
 have HSE:Hid (greatEs [e,f] = false→SmE e∧SmE f):=fun h => by
  unfold greatEs at h;simp only [List.any_cons,List.any_nil,Bool.or_false,Bool.or_eq_false_iff] at h
  exact ⟨smE_of hbe h.1.1,smE_of hbf h.1.2⟩
 have HSM:Hid (greatMs L = false→SzB 10 L):=fun h => szB_of hbm h;have HM:=lH hm;have HE:=lH he;have HF:=lH hf;clear g1 g2 g3 he hf hm hbe hbf hbm hmn;unfold editV
 go_enter Tryz.func5,Tryz.ntmps5
 go_upto_region 1 with (fail)
 generalize (w.alloc (.cells #[.int .i64 e.kind,.string e.pack,.string e.text,.slice ao e.old.length co,.slice af e.fresh.length cf] 35)).alloc (.cells #[.int .i64 f.kind,.string f.pack,.string f.text,.slice bo f.old.length do',.slice bf f.fresh.length df] 35) = w0 at *;generalize hb2:w.heap.size + 1 = B2 at *;clear hb2;generalize greatEs [e,f] = ge at *;generalize greatMs L = gm at *;have HC0:=lH (HGM.out w0 HA.out);go_wp2_with (fail)
 refine HC0.out.mono ?_;rintro r w1 ⟨rfl,hb1⟩;have HB1:=lH hb1;have HW1:=lH (qtrans HA.out hb1);clear hb1 HC0 HGM
 cases gm with
 | true =>
  go_wp2_with (fail)
  refine (awake35_any _).mono ?_;rintro r w9 ⟨rfl,hb9⟩;have HF9:=lH (qtrans HW1.out hb9);clear hb9;go_wp2;go_ret;exact ⟨rfl,HF9.out⟩
 | false =>
 have e0:=(G1.out.below HB1.out).cell (i:=0) (v:=.int .i64 e.kind) rfl;have e1:=(G1.out.below HB1.out).cell (i:=1) (v:=.string e.pack) rfl;have e2:=(G1.out.below HB1.out).cell (i:=2) (v:=.string e.text) rfl;have e3:=(G1.out.below HB1.out).cell (i:=3) (v:=.slice ao e.old.length co) rfl;have e4:=(G1.out.below HB1.out).cell (i:=4) (v:=.slice af e.fresh.length cf) rfl;have el:=(G1.out.below HB1.out).lt;have f0:=(G2.out.below HB1.out).cell (i:=0) (v:=.int .i64 f.kind) rfl;have f1:=(G2.out.below HB1.out).cell (i:=1) (v:=.string f.pack) rfl
 have f2:=(G2.out.below HB1.out).cell (i:=2) (v:=.string f.text) rfl;have f3:=(G2.out.below HB1.out).cell (i:=3) (v:=.slice bo f.old.length do') rfl;have f4:=(G2.out.below HB1.out).cell (i:=4) (v:=.slice bf f.fresh.length df) rfl;have fl:=(G2.out.below HB1.out).lt;have HC1:=lH (HGR.out w1 HW1.out);go_wp2_with (fail)
 refine HC1.out.mono ?_;rintro r w2 ⟨rfl,hb2⟩;have HB2:=lH (qtrans HB1.out (qtrans (qalloc _ _) hb2));clear hb2 HC1 HGR;clear e0 e1 e2 e3 e4 el f0 f1 f2 f3 f4 fl;have HW2:=lH (qtrans HA.out HB2.out);clear HB1 HW1
 cases ge with
 | true =>
  go_wp2_with (fail)
  refine (awake35_any _).mono ?_;rintro r w9 ⟨rfl,hb9⟩;have HF9:=lH (qtrans HW2.out hb9);clear hb9;go_wp2;go_ret;exact ⟨rfl,HF9.out⟩
 | false =>
 obtain ⟨hse,hsf⟩:=HSE.out (by first | exact rfl | exact trivial);have hzm:=HSM.out (by first | exact rfl | exact trivial);have HZM:=lH hzm;have HS1:=lH (cSwap_any e f ao co af cf bo do' bf df w2 (HE.out.below HW2.out) (HF.out.below HW2.out) hse hsf);have HPL:Hid (swapB e f = true→((appR L [e,f]).2 = 0↔(appR L [f,e]).2 = 0)∧(appR L [e,f]).1 = (appR L [f,e]).1):=fun h => app_order h
 have HSX:Hid (∀ x∈[e,f],SmE x):=fun x hx => by
  simp only [List.mem_cons,List.not_mem_nil,or_false] at hx
  rcases hx with rfl | rfl
  ·exact hse
  ·exact hsf
 have HSY:Hid (∀ x∈[f,e],SmE x):=fun x hx => by
  simp only [List.mem_cons,List.not_mem_nil,or_false] at hx
  rcases hx with rfl | rfl
  ·exact hsf
  ·exact hse
 clear hse hsf HSE HSM hzm;obtain ⟨q,hq⟩:∃ q,swapB e f = q:=⟨_,rfl⟩;unfold swapV at HS1;rw [hq] at HS1 HPL;clear hq;unfold editV at HS1;have e0:=(G1.out.below HB2.out).cell (i:=0) (v:=.int .i64 e.kind) rfl;have e1:=(G1.out.below HB2.out).cell (i:=1) (v:=.string e.pack) rfl;have e2:=(G1.out.below HB2.out).cell (i:=2) (v:=.string e.text) rfl;have e3:=(G1.out.below HB2.out).cell (i:=3) (v:=.slice ao e.old.length co) rfl;have e4:=(G1.out.below HB2.out).cell (i:=4) (v:=.slice af e.fresh.length cf) rfl;have el:=(G1.out.below HB2.out).lt
 have f0:=(G2.out.below HB2.out).cell (i:=0) (v:=.int .i64 f.kind) rfl;have f1:=(G2.out.below HB2.out).cell (i:=1) (v:=.string f.pack) rfl;have f2:=(G2.out.below HB2.out).cell (i:=2) (v:=.string f.text) rfl;have f3:=(G2.out.below HB2.out).cell (i:=3) (v:=.slice bo f.old.length do') rfl;have f4:=(G2.out.below HB2.out).cell (i:=4) (v:=.slice bf f.fresh.length df) rfl;have fl:=(G2.out.below HB2.out).lt
 cases q with
 | false =>
  simp only [Bool.false_eq_true,if_false] at HS1
  unfold noEdit at HS1;simp only [List.length_nil] at HS1
  go_wp2_with (fail)
  refine HS1.out.mono ?_;rintro r w3 ⟨rfl,hb3⟩;have HW3:=lH (qtrans HA.out (qtrans HB2.out hb3));clear hb3 HS1 HB2 HW2;clear e0 e1 e2 e3 e4 el f0 f1 f2 f3 f4 fl;go_upto_region 4 with (fail)
  have hq4:=two_boxes w3 35 #[.int .i64 0,.string ⟨#[]⟩,.string ⟨#[]⟩,.slice none 0 0,.slice none 0 0] #[.int .i64 0,.string ⟨#[]⟩,.string ⟨#[]⟩,.slice none 0 0,.slice none 0 0];have HW4:=lH (qtrans HW3.out hq4.2.2);clear hq4;generalize (w3.alloc (.cells #[.int .i64 0,.string ⟨#[]⟩,.string ⟨#[]⟩,.slice none 0 0,.slice none 0 0] 35)).alloc (.cells #[.int .i64 0,.string ⟨#[]⟩,.string ⟨#[]⟩,.slice none 0 0,.slice none 0 0] 35) = w4 at *;go_wp2_with (fail)
  refine (awake35_any _).mono ?_;rintro r w9 ⟨rfl,hb9⟩;have HF9:=lH (qtrans HW4.out hb9);clear hb9;go_wp2;go_ret;exact ⟨rfl,HF9.out⟩
 | true =>
 simp only [if_true] at HS1
 obtain ⟨hiff,heq⟩:=HPL.out rfl;have HEQ:=lH heq;have HIF:=lH hiff;clear HPL hiff heq;go_wp2_with (fail)
 refine HS1.out.mono ?_;rintro r w3 ⟨rfl,hb3⟩;have HB3:=lH (qtrans HB2.out hb3);clear hb3 HS1 HB2 HW2;clear e0 e1 e2 e3 e4 el f0 f1 f2 f3 f4 fl;go_upto_region 4 with (fail)
 obtain ⟨z1,z2,z3⟩:=two_boxes w3 35 #[.int .i64 f.kind,.string f.pack,.string f.text,.slice bo f.old.length do',.slice bf f.fresh.length df] #[.int .i64 e.kind,.string e.pack,.string e.text,.slice ao e.old.length co,.slice af e.fresh.length cf];have HB4:=lH (qtrans HB3.out z3);have X1:=lH z1;have Y1:=lH z2;clear z1 z2 z3
 generalize (w3.alloc (.cells #[.int .i64 f.kind,.string f.pack,.string f.text,.slice bo f.old.length do',.slice bf f.fresh.length df] 35)).alloc (.cells #[.int .i64 e.kind,.string e.pack,.string e.text,.slice ao e.old.length co,.slice af e.fresh.length cf] 35) = w4 at *;obtain ⟨C2,hC2⟩:∃ C2,w3.heap.size + 1 = C2:=⟨_,rfl⟩;rw [hC2] at Y1 ⊢;obtain ⟨C1,hC1⟩:∃ C1,w3.heap.size = C1:=⟨_,rfl⟩;rw [hC1] at X1 ⊢;clear hC1 hC2;have HW4:=lH (qtrans HA.out HB4.out);clear HB3;have e0:=(G1.out.below HB4.out).cell (i:=0) (v:=.int .i64 e.kind) rfl
 have e1:=(G1.out.below HB4.out).cell (i:=1) (v:=.string e.pack) rfl;have e2:=(G1.out.below HB4.out).cell (i:=2) (v:=.string e.text) rfl;have e3:=(G1.out.below HB4.out).cell (i:=3) (v:=.slice ao e.old.length co) rfl;have e4:=(G1.out.below HB4.out).cell (i:=4) (v:=.slice af e.fresh.length cf) rfl;have el:=(G1.out.below HB4.out).lt;have f0:=(G2.out.below HB4.out).cell (i:=0) (v:=.int .i64 f.kind) rfl;have f1:=(G2.out.below HB4.out).cell (i:=1) (v:=.string f.pack) rfl;have f2:=(G2.out.below HB4.out).cell (i:=2) (v:=.string f.text) rfl
 have f3:=(G2.out.below HB4.out).cell (i:=3) (v:=.slice bo f.old.length do') rfl;have f4:=(G2.out.below HB4.out).cell (i:=4) (v:=.slice bf f.fresh.length df) rfl;have fl:=(G2.out.below HB4.out).lt;have HQ5:=lH (qalloc w4 (.cells #[.int .i64 e.kind,.string e.pack,.string e.text,.slice ao e.old.length co,.slice af e.fresh.length cf,.int .i64 f.kind,.string f.pack,.string f.text,.slice bo f.old.length do',.slice bf f.fresh.length df] 35));have HW5:=lH (qtrans HW4.out HQ5.out)
 have HA1:=lH (eApply_any L [e,f] ma mc (some ⟨w4.heap.size,0,none⟩) 2 10 _ (HM.out.below HW5.out) (HRD.out w4 HW4.out) HZM.out (by simp) HSX.out);have HX1:=lH ((appR_sz HZM.out HSX.out).three (by simp));have hx1l:(appR L [e,f]).1.length≤1000000:=by have:=(appR_sz HZM.out HSX.out).len;simp at this;omega
 simp only [List.length_cons,List.length_nil,Nat.zero_add,Nat.reduceAdd] at HA1
 go_wp2_with (fail)
 refine HA1.out.mono ?_;rintro r w6 ⟨v6,rfl,hr6,hb6⟩;have HR6:=lH hr6;have HB6:=lH (qtrans HQ5.out hb6);have HW6:=lH (qtrans HW5.out hb6);clear hr6 hb6 HA1 HQ5 HW5 HB4;clear e0 e1 e2 e3 e4 el f0 f1 f2 f3 f4 fl;have f0:=(X1.out.below HB6.out).cell (i:=0) (v:=.int .i64 f.kind) rfl;have f1:=(X1.out.below HB6.out).cell (i:=1) (v:=.string f.pack) rfl;have f2:=(X1.out.below HB6.out).cell (i:=2) (v:=.string f.text) rfl;have f3:=(X1.out.below HB6.out).cell (i:=3) (v:=.slice bo f.old.length do') rfl
 have f4:=(X1.out.below HB6.out).cell (i:=4) (v:=.slice bf f.fresh.length df) rfl;have fl:=(X1.out.below HB6.out).lt;have e0:=(Y1.out.below HB6.out).cell (i:=0) (v:=.int .i64 e.kind) rfl;have e1:=(Y1.out.below HB6.out).cell (i:=1) (v:=.string e.pack) rfl;have e2:=(Y1.out.below HB6.out).cell (i:=2) (v:=.string e.text) rfl;have e3:=(Y1.out.below HB6.out).cell (i:=3) (v:=.slice ao e.old.length co) rfl;have e4:=(Y1.out.below HB6.out).cell (i:=4) (v:=.slice af e.fresh.length cf) rfl;have el:=(Y1.out.below HB6.out).lt
 have HQ7:=lH (qalloc w6 (.cells #[.int .i64 f.kind,.string f.pack,.string f.text,.slice bo f.old.length do',.slice bf f.fresh.length df,.int .i64 e.kind,.string e.pack,.string e.text,.slice ao e.old.length co,.slice af e.fresh.length cf] 35));have HW7:=lH (qtrans HW6.out HQ7.out);have HA2:=lH (eApply_any L [f,e] ma mc (some ⟨w6.heap.size,0,none⟩) 2 10 _ (HM.out.below HW7.out) (HRF.out w6 HW6.out) HZM.out (by simp) HSY.out);simp only [List.length_cons,List.length_nil,Nat.zero_add,Nat.reduceAdd] at HA2
 go_wp2_with (fail)
 refine HA2.out.mono ?_;rintro r w8 ⟨v8,rfl,hr8,hb8⟩;rw [← HEQ.out] at hr8;have HR8:=lH hr8;have HR6c:=lH (HR6.out.below (qtrans HQ7.out hb8));have HW8:=lH (qtrans HW7.out hb8);have hx:=eqOk_of HIF.out;clear hr8 hb8 HA2 HQ7 HW7 HR6 HEQ HIF;clear e0 e1 e2 e3 e4 el f0 f1 f2 f3 f4 fl;obtain ⟨x1,x2,rfl,-,-⟩:=mods_slice HR6c.out;obtain ⟨y1,y2,rfl,-,-⟩:=mods_slice HR8.out;generalize (appR L [f,e]).2 = E2 at *;generalize (appR L [e,f]).2 = E1 at *;generalize (appR L [e,f]).1 = M at *
 have HSM:=lH (r24SameMods_any M M x1 y1 x2 y2 w8 HR6c.out HR8.out HX1.out hx1l);rw [sameMs_iff.2 (rfl:M = M)] at HSM;clear HR6c HR8;go_wp2_with (fail)
 refine HSM.out.mono ?_;rintro r w9 ⟨rfl,hb9⟩;have HB8:=lH (qtrans HW8.out hb9);clear hb9 HSM HW8;go_wp2_with (fail)
 refine (awake35_any _).mono ?_;rintro r w10 ⟨rfl,hb10⟩;have HF9:=lH (qtrans HB8.out hb10);clear hb10;go_wp2;go_ret;exact ⟨rfl,HF9.out⟩
end Go.Proofs.YtdpnfkjafhbndaaGreatDoor

