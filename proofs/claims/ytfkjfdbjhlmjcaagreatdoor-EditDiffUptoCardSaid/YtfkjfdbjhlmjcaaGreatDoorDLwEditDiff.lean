/- The law EditDiff. -/
import Derived.Test.YtfkjfdbjhlmjcaaGreatDoorDDK
set_option maxRecDepth 100000
set_option maxHeartbeats 16000000
namespace Go.Proofs.YtfkjfdbjhlmjcaaGreatDoor
open Go.RowKit Go.Shelf
attribute [local go_sem] Oper.semAt_some
theorem zOu (A B:List OMod) (es:List OEdit) (aa ab ea:Option Addr) (ca cb ec:Nat) (w:World) (ha:Reads w [] (modsT A) (.slice aa A.length ca)) (hb:Reads w [] (modsT B) (.slice ab B.length cb)) (he:Reads w [] (editsT es) (.slice ea es.length ec)) (hba:∀x∈A,BigM x) (hbb:∀x∈B,BigM x) (hbe:∀x∈es,BigE x) (han:A.length≤4000000) (hbn:B.length≤4000000) (hen:es.length≤4000000) :
  Calls Tryz.prog 4 #[.slice aa A.length ca,.slice ab B.length cb,.slice ea es.length ec] w fun r w'=>r=.returned (.bool true)∧Bw w w':=by
 have HGA:=lH (zJk A aa ca w ha hba han);have HGB:=lH (fun W (h:Bw w W)=>zJk B ab cb W (hb.below h) hbb hbn);have HGE:=lH (fun W (h:Bw w W)=>zLb es ea ec W (he.below h) (fun x hx=>⟨⟨(hbe x hx).pack,(hbe x hx).text⟩,(hbe x hx).old,(hbe x hx).fresh⟩) hen);have HSA:Hid (greatMs A=false→SzB 10 A):=fun h=>yCg hba h;have HSB:Hid (greatMs B=false→SzB 10 B):=fun h=>yCg hbb h;have HSE:Hid (greatEs es=false→(∀x∈es,SmE x)∧es.length≤20):=fun h=>yDg hbe h;have HA:=lH ha;have HB:=lH hb
 have HE:=lH he;clear ha hb he hba hbb hbe han hbn hen;generalize greatMs A=gm at *;generalize greatMs B=gl at *;generalize greatEs es=ge at *
 go_enter Tryz.func4,Tryz.ntmps4
 go_wp2_with (fail)
 refine HGA.o.mono ?_;rintro r w1 ⟨rfl,hb1⟩;have HB1:=lH hb1;clear hb1 HGA
 cases gm with
 | true=>
  go_wp2_with (fail)
  refine (zFf _).mono ?_;rintro r w19 ⟨rfl,hb19⟩;have HF19:=lH (zA HB1.o hb19);clear hb19;go_wp2;go_ret;exact ⟨rfl,HF19.o⟩
 | false=>
 go_wp2_with (fail)
 refine (HGB.o w1 HB1.o).mono ?_;rintro r w2 ⟨rfl,hb2⟩;have HB2:=lH (zA HB1.o hb2);clear hb2 HGB HB1
 cases gl with
 | true=>
  go_wp2_with (fail)
  refine (zFf _).mono ?_;rintro r w19 ⟨rfl,hb19⟩;have HF19:=lH (zA HB2.o hb19);clear hb19;go_wp2;go_ret;exact ⟨rfl,HF19.o⟩
 | false=>
 go_wp2_with (fail)
 refine (HGE.o w2 HB2.o).mono ?_;rintro r w2b ⟨rfl,hb2⟩;have HB2b:=lH (zA HB2.o hb2);clear hb2 HGE HB2
 cases ge with
 | true=>
  go_wp2_with (fail)
  refine (zFf _).mono ?_;rintro r w19 ⟨rfl,hb19⟩;have HF19:=lH (zA HB2b.o hb19);clear hb19;go_wp2;go_ret;exact ⟨rfl,HF19.o⟩
 | false=>
 have HZA:=lH (HSA.o (by first|exact rfl|exact trivial));have HZB:=lH (HSB.o (by first|exact rfl|exact trivial));obtain ⟨hse,hel⟩:=HSE.o (by first|exact rfl|exact trivial);have HZE:=lH hse;clear HSA HSB HSE hse;have HD:=lH (zQs A B aa ab ca cb 10 w2b (HA.o.below HB2b.o) (HB.o.below HB2b.o) HZA.o HZB.o (by omega));have HRD:=lH (fun W (h:Bw w W)=>zZd A B aa ab ca cb 10 W (HA.o.below h) (HB.o.below h) HZA.o HZB.o (by omega));have HSD:=lH (yBy HZA.o HZB.o)
 have hln:(diffR A B).length≤2000:=by
  unfold diffR;split
  ·exact zZa HZA.o HZB.o
  ·exact Nat.zero_le _
 go_wp2_with (fail)
 refine HD.o.mono ?_;rintro r w3 ⟨v3,rfl,hr3,hb3⟩;have HR3:=lH hr3;have HB3:=lH (zA HB2b.o hb3);clear hr3 hb3 HD HB2b;obtain ⟨x1,x2,rfl,-,-⟩:=zEu HR3.o;go_wp2_with (fail)
 refine (HRD.o w3 HB3.o).mono ?_;rintro r w4 ⟨v4,rfl,hr4,hb4⟩;have HR3b:=lH (HR3.o.below hb4);have HR4:=lH hr4;have HB4:=lH (zA HB3.o hb4);clear hr4 hb4 HRD HB3 HR3;obtain ⟨y1,y2,rfl,-,-⟩:=zEu HR4.o;generalize diffErr A B=E1 at *;generalize diffR A B=l at *;have HS1:=lH (zGy l l x1 y1 x2 y2 w4 HR3b.o HR4.o HSD.o (by omega));rw [zGl.2 (rfl:l=l)] at HS1;clear HR3b HR4;go_wp2_with (fail)
 refine HS1.o.mono ?_;rintro r w5 ⟨rfl,hb5⟩;have HB5:=lH (zA HB4.o hb5);clear hb5 HS1 HB4;have HI1:=lH (zVb es ea ec w5 (HE.o.below HB5.o) (by omega));go_wp2_with (fail)
 refine HI1.o.mono ?_;rintro r w6 ⟨rfl,hr6,hb6⟩;have HB6:=lH (zA HB5.o hb6);have HR6:=lH hr6;clear hr6 hb6 HI1 HB5;generalize w5.heap.size=B6 at *;have HI2:=lH (zOr es ea ec w6 (HE.o.below HB6.o) (by omega));go_wp2_with (fail)
 refine HI2.o.mono ?_;rintro r w7 ⟨v7,rfl,hr7,hb7⟩;have HR6b:=lH (HR6.o.below hb7);have HB7:=lH (zA HB6.o hb7);have hil:(invL es).length=es.length:=by unfold invL;rw [List.length_reverse,List.length_map]
 obtain ⟨z1,z2,rfl,-,-⟩:=zEu hr7
 have HS2:Hid (Calls Tryz.prog 16 #[.slice (some ⟨B6,0,none⟩) es.length es.length,.slice z1 es.length z2] w7 fun e w'=>e=.returned (.bool true)∧Bw w7 w'):=by
  have:=zGy (invL es) (invL es) (some ⟨B6,0,none⟩) z1 es.length z2 w7 (by rw [hil];exact HR6b.o) hr7 (yDs HZE.o) (by rw [hil];omega);rwa [hil,zGl.2 (rfl:invL es=invL es)] at this
 rw [hil];clear hil hr7 hb7 HI2 HB6 HR6 HR6b;go_wp2_with (fail)
 refine HS2.o.mono ?_;rintro r w8 ⟨rfl,hb8⟩;have HB8:=lH (zA HB7.o hb8);clear hb8 HS2 HB7;go_wp2_with (fail)
 refine (zFf _).mono ?_;rintro r w19 ⟨rfl,hb19⟩;have HF19:=lH (zA HB8.o hb19);clear hb19;go_wp2;go_ret;exact ⟨rfl,HF19.o⟩
end Go.Proofs.YtfkjfdbjhlmjcaaGreatDoor
