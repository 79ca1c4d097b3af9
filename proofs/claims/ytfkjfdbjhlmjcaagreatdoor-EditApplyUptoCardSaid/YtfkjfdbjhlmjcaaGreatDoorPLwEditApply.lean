/- The law EditApply. -/
import Derived.Test.YtfkjfdbjhlmjcaaGreatDoorPDEX
import Derived.Test.YtfkjfdbjhlmjcaaGreatDoorPCA
import Derived.Test.YtfkjfdbjhlmjcaaGreatDoorPBZ
namespace Go.Proofs.YtfkjfdbjhlmjcaaGreatDoor
open Go.RowKit Go.Shelf
attribute [local go_sem] Oper.semAt_some
set_option maxRecDepth 100000 in
set_option maxHeartbeats 16000000 in
theorem zLm (L:List OMod) (l:List OEdit) (ma:Option Addr) (mc:Nat) (la:Option Addr) (lc:Nat) (w:World) (hm:Reads w [] (modsT L) (.slice ma L.length mc)) (hl:Reads w [] (editsT l) (.slice la l.length lc)) (hbm:∀x∈L,BigM x) (hbl:∀x∈l,BigE x) (hmn:L.length≤4000000) (hln:l.length≤4000000) :
  Calls Tryz.prog 3 #[.slice ma L.length mc,.slice la l.length lc] w fun r w'=>r=.returned (.bool true)∧Bw w w':=by
 have HGM:=lH (zPp L ma mc w hm hbm hmn);have HGL:=lH (fun W (h:Bw w W)=>zKj l la lc W (hl.below h) (fun x hx=>⟨⟨(hbl x hx).pack,(hbl x hx).text⟩,(hbl x hx).old,(hbl x hx).fresh⟩) hln);have HSM:Hid (greatMs L=false→SzB 10 L):=fun h=>yCe hbm h;have HSL:Hid (greatEs l=false→(∀x∈l,SmE x)∧l.length≤20):=fun h=>yBm hbl h;have HM:=lH hm;have HL:=lH hl;clear hm hl hbm hbl hmn hln;generalize greatMs L=gm at *;generalize greatEs l=gl at *
 go_enter Tryz.func3,Tryz.ntmps3
 go_wp2_with (fail)
 refine HGM.o.mono ?_;rintro r w1 ⟨rfl,hb1⟩;have HB1:=lH hb1;clear hb1 HGM
 cases gm with
 | true=>
  go_wp2_with (fail)
  refine (zGs _).mono ?_;rintro r w19 ⟨rfl,hb19⟩;have HF19:=lH (zA HB1.o hb19);clear hb19;go_wp2;go_ret;exact ⟨rfl,HF19.o⟩
 | false=>
 go_wp2_with (fail)
 refine (HGL.o w1 HB1.o).mono ?_;rintro r w2 ⟨rfl,hb2⟩;have HB2:=lH (zA HB1.o hb2);clear hb2 HGL HB1
 cases gl with
 | true=>
  go_wp2_with (fail)
  refine (zGs _).mono ?_;rintro r w19 ⟨rfl,hb19⟩;have HF19:=lH (zA HB2.o hb19);clear hb19;go_wp2;go_ret;exact ⟨rfl,HF19.o⟩
 | false=>
 have hzm:=HSM.o (by first|exact rfl|exact trivial);obtain ⟨hsl,hll⟩:=HSL.o (by first|exact rfl|exact trivial);have HZM:=lH hzm;have HSE:=lH hsl;clear HSM HSL hzm hsl;have HA1:=lH (zMr L l ma mc la lc 10 w2 (HM.o.below HB2.o) (HL.o.below HB2.o) HZM.o (by omega) HSE.o);have HX3:=lH ((zWz HZM.o HSE.o).three (by omega));have hx3l:=(zWz HZM.o HSE.o).len;go_wp2_with (fail)
 refine HA1.o.mono ?_;rintro r w3 ⟨v3,rfl,hr3,hb3⟩;have HR3:=lH hr3;have HB3:=lH (zA HB2.o hb3);clear hr3 hb3 HA1 HB2;have HA2:=lH (zPx L l ma mc la lc 10 w3 (HM.o.below HB3.o) (HL.o.below HB3.o) HZM.o (by omega) HSE.o);go_wp2_with (fail)
 refine HA2.o.mono ?_;rintro r w4 ⟨v4,rfl,hr4,hb4⟩;have HR4:=lH hr4;have HR3b:=lH (HR3.o.below hb4);have HB4:=lH (zA HB3.o hb4);clear hr4 hb4 HA2 HB3 HR3;obtain ⟨x1,x2,rfl,-,-⟩:=zMs HR3b.o;obtain ⟨y1,y2,rfl,-,-⟩:=zMs HR4.o;generalize (appR L l).2=E2 at *;generalize (appR L l).1=R at *;have HSM:=lH (zFm R R x1 y1 x2 y2 w4 HR3b.o HR4.o HX3.o (by omega));rw [zGf.2 (rfl:R=R)] at HSM;clear HR3b HR4;go_wp2_with (fail)
 refine HSM.o.mono ?_;rintro r w5 ⟨rfl,hb5⟩;have HB5:=lH (zA HB4.o hb5);clear hb5 HSM HB4;go_wp2_with (fail)
 refine (zGs _).mono ?_;rintro r w19 ⟨rfl,hb19⟩;have HF19:=lH (zA HB5.o hb19);clear hb19;go_wp2;go_ret;exact ⟨rfl,HF19.o⟩
end Go.Proofs.YtfkjfdbjhlmjcaaGreatDoor

