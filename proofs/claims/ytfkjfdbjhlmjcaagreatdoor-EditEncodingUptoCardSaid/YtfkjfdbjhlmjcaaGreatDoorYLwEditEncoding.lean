/- The law EditEncoding. -/
import Derived.Test.YtfkjfdbjhlmjcaaGreatDoorYLwEditCheck
import Derived.Test.YtfkjfdbjhlmjcaaGreatDoorYKL
set_option maxRecDepth 100000
set_option maxHeartbeats 16000000
namespace Go.Proofs.YtfkjfdbjhlmjcaaGreatDoor
open Go.RowKit Go.Shelf
attribute [local go_sem] Oper.semAt_some
theorem zHf (e:OEdit) (ao:Option Addr) (co:Nat) (af:Option Addr) (cf:Nat) (s:ByteArray) (w:World) (he:EditIn w e ao co af cf) (hbe:BigE e) (hs:s.size≤4000000) :
  Calls Tryz.prog 7 #[editV e ao co af cf,.string s] w fun r w'=>r=.returned (.bool true)∧Bw w w':=by
 have HRD:=lH (fun W (h:Bw w W)=>zUg W e ao co af cf (he.below h))
 have HGR:=lH (fun W (h:Bw w W)=>zJl [e] (some ⟨W.heap.size,0,none⟩) 1 _ (HRD.o W h) (fun x hx=>by
  rw [List.mem_singleton] at hx;subst hx
  exact ⟨⟨hbe.pack,hbe.text⟩,hbe.old,hbe.fresh⟩) (by simp))
 have HG:=lH (CBox.new w 39 #[.int .i64 e.kind,.string e.pack,.string e.text,.slice ao e.old.length co,.slice af e.fresh.length cf]);have HA:=lH (zAa w (.cells #[.int .i64 e.kind,.string e.pack,.string e.text,.slice ao e.old.length co,.slice af e.fresh.length cf] 39))
 have HSE:Hid (greatEs [e]=false→SmE e∧greatE e=false):=fun h=>by
  unfold greatEs at h;simp only [List.any_cons,List.any_nil,Bool.or_false,Bool.or_eq_false_iff] at h
  exact ⟨yDb hbe h.1,h.1⟩
 have HE:=lH he;clear he hbe;unfold editV
 go_enter Tryz.func7,Tryz.ntmps7
 go_upto_region 1 with (fail)
 obtain ⟨Z,hZ⟩:∃Z,w.heap.size=Z:=⟨_,rfl⟩;have HZ:=lH hZ;rw [hZ] at HG ⊢;clear hZ;generalize World.alloc w _=w0 at *;generalize greatEs [e]=ge at *;have e0:=HG.o.cell (i:=0) (v:=.int .i64 e.kind) rfl;have e1:=HG.o.cell (i:=1) (v:=.string e.pack) rfl;have e2:=HG.o.cell (i:=2) (v:=.string e.text) rfl;have e3:=HG.o.cell (i:=3) (v:=.slice ao e.old.length co) rfl;have e4:=HG.o.cell (i:=4) (v:=.slice af e.fresh.length cf) rfl;have el:=HG.o.lt;have HC1:=lH (HGR.o w0 HA.o);go_wp2_with (fail)
 refine HC1.o.mono ?_;rintro r w2 ⟨rfl,hb2⟩;have HB2:=lH (zA (zAa w0 _) hb2);clear hb2 HC1 HGR HRD e0 e1 e2 e3 e4 el;have HW2:=lH (zA HA.o HB2.o);have HG2:=lH (HG.o.below HB2.o);clear HB2 HG HA
 cases ge with
 | true=>
  go_wp2_with (fail)
  refine (zCn _).mono ?_;rintro r w19 ⟨rfl,hb19⟩;have HF19:=lH (zA HW2.o hb19);clear hb19;go_wp2;go_ret;exact ⟨rfl,HF19.o⟩
 | false=>
 by_cases hl:300<s.size
 ·have h1:decide ((300:Int)<(s.size:Int))=true:=decide_eq_true (by omega)
  have h2:decide (300<s.size)=true:=decide_eq_true hl;go_wp2_with (fail)
  refine (zCn _).mono ?_;rintro r w19 ⟨rfl,hb19⟩;have HF19:=lH (zA HW2.o hb19);clear hb19;go_wp2;go_ret;exact ⟨rfl,HF19.o⟩
 have h1:decide ((300:Int)<(s.size:Int))=false:=decide_eq_false (by omega);have h2:decide (300<s.size)=false:=decide_eq_false hl;obtain ⟨hsm,hgr⟩:=HSE.o (by first|exact rfl|exact trivial);have HSX:=lH hsm;have HC1:=lH (fun W (h:Bw w W)=>zFi e ao co af cf W (HE.o.below h) HSX.o);have HK1:=lH (fun W (h:Bw w W)=>zGx e ao co af cf W (HE.o.below h) HSX.o)
 have HOK:Hid (editErr e=0→encS e=⟨(encE e).toArray⟩∧(encE e).length≤40000∧decP (encE e)=(e,0)):=fun h=>by
  have ho:=zNo h hsm;exact ⟨by unfold encS;rw [if_pos h],yAw hgr ho.olen ho.flen,yAv h hsm⟩
 obtain ⟨l,hsl⟩:∃l:List UInt8,s=⟨l.toArray⟩:=⟨s.data.toList,by simp⟩;have hll:l.length≤300:=by rw [hsl] at hl;have:=zEa l;omega
 have HDS:=lH (fun W (_:Bw w W)=>zMe l (by omega) W);have hor:=yCv l (by omega);obtain ⟨P,hP⟩:∃P,decP l=P:=⟨_,rfl⟩;rw [hP] at hor;simp only [hP] at HDS
 obtain ⟨x,er⟩:=P
 have HOR:Hid ((x,er)=(zeroE,13)∨er=0∧SmE x∧editErr x=0∧(⟨(encE x).toArray⟩:ByteArray)=s):=by
  rcases hor with h|⟨y,h3,h4,h5,h6⟩
  ·exact .inl h
  ·obtain ⟨rfl,rfl⟩:=Prod.mk.inj h6
   exact .inr ⟨rfl,h3,h4,by rw [h5,hsl]⟩
 rw [←hsl] at HDS;unfold DecPost editV at HDS;simp only at HDS
 replace HDS:=lH HDS.o;unfold editV at HC1 HK1;have HCE2:=HC1;clear HSE hsm hgr hor hP hll hsl;generalize encS e=S at *;obtain ⟨E,hE⟩:∃E,editErr e=E:=⟨_,rfl⟩;rw [hE] at HC1 HK1 HOK;have HEE:=lH hE;clear hE HCE2;have HCE2:Hid True:=trivial;have e0:=HG2.o.cell (i:=0) (v:=.int .i64 e.kind) rfl;have e1:=HG2.o.cell (i:=1) (v:=.string e.pack) rfl;have e2:=HG2.o.cell (i:=2) (v:=.string e.text) rfl;have e3:=HG2.o.cell (i:=3) (v:=.slice ao e.old.length co) rfl;have e4:=HG2.o.cell (i:=4) (v:=.slice af e.fresh.length cf) rfl
 have el:=HG2.o.lt;go_wp2_with (fail)
 refine (HC1.o w2 HW2.o).mono ?_;rintro r w3 ⟨rfl,hb3⟩;have HW3:=lH (zA HW2.o hb3);have HG3:=lH (HG2.o.below hb3);clear hb3 HC1 HW2 HG2 e0 e1 e2 e3 e4 el
 by_cases h0:E=0
 ·subst h0
  obtain ⟨k1,k2,k3⟩:=HOK.o rfl;have HCD:=zMe (encE e) k2 w3;rw [k3,←k1] at HCD;unfold DecPost editV at HCD;simp only at HCD
  replace HCD:=lH HCD;clear HOK HEE k1 k2 k3;go_wp2_with (fail)
  refine HCD.o.mono ?_;rintro r w4 ⟨bo,bc,bf,bd,rfl,hx4,hb4⟩;have HX4:=lH hx4;have HW4:=lH (zA HW3.o hb4);have HG4:=lH (HG3.o.below hb4);clear hx4 hb4 HCD HW3 HG3;go_upto_region 6 with (fail)
  have hal:=zAa w4 (.cells #[.int .i64 e.kind,.string e.pack,.string e.text,.slice bo e.old.length bc,.slice bf e.fresh.length bd] 39);have HD5:=lH (CBox.new w4 39 #[.int .i64 e.kind,.string e.pack,.string e.text,.slice bo e.old.length bc,.slice bf e.fresh.length bd]);have HX5:=lH (HX4.o.below hal);have HW5:=lH (zA HW4.o hal);have HG5:=lH (HG4.o.below hal);clear hal HX4 HW4 HG4;obtain ⟨D,hD⟩:∃D,w4.heap.size=D:=⟨_,rfl⟩;rw [hD] at HD5
  (try rw [hD])
  clear hD;generalize World.alloc w4 _=w5 at *;have HCS:=zQc e e bo bc bf bd ao co af cf w5 HX5.o (HE.o.below HW5.o) HSX.o;rw [zVm.2 (rfl:e=e)] at HCS;unfold editV at HCS;replace HCS:=lH HCS;have e0:=HG5.o.cell (i:=0) (v:=.int .i64 e.kind) rfl;have e1:=HG5.o.cell (i:=1) (v:=.string e.pack) rfl;have e2:=HG5.o.cell (i:=2) (v:=.string e.text) rfl;have e3:=HG5.o.cell (i:=3) (v:=.slice ao e.old.length co) rfl;have e4:=HG5.o.cell (i:=4) (v:=.slice af e.fresh.length cf) rfl;have el:=HG5.o.lt
  have d0:=HD5.o.cell (i:=0) (v:=.int .i64 e.kind) rfl;have d1:=HD5.o.cell (i:=1) (v:=.string e.pack) rfl;have d2:=HD5.o.cell (i:=2) (v:=.string e.text) rfl;have d3:=HD5.o.cell (i:=3) (v:=.slice bo e.old.length bc) rfl;have d4:=HD5.o.cell (i:=4) (v:=.slice bf e.fresh.length bd) rfl;have dl:=HD5.o.lt;clear HX5 HSX;go_wp2_with (fail)
  refine HCS.o.mono ?_;rintro r w6 ⟨rfl,hb6⟩;have HW6:=lH (zA HW5.o hb6);have HG6:=lH (HG5.o.below hb6);clear hb6 HCS HW5 HG5 HD5 e0 e1 e2 e3 e4 el d0 d1 d2 d3 d4 dl;have e0:=HG6.o.cell (i:=0) (v:=.int .i64 e.kind) rfl;have e1:=HG6.o.cell (i:=1) (v:=.string e.pack) rfl;have e2:=HG6.o.cell (i:=2) (v:=.string e.text) rfl;have e3:=HG6.o.cell (i:=3) (v:=.slice ao e.old.length co) rfl;have e4:=HG6.o.cell (i:=4) (v:=.slice af e.fresh.length cf) rfl;have el:=HG6.o.lt;go_wp2_with (fail)
  refine (HK1.o w6 HW6.o).mono ?_;rintro r w8 ⟨rfl,hb8⟩;have HW8:=lH (zA HW6.o hb8);clear hb8 HK1 HW6 HG6 e0 e1 e2 e3 e4 el HE;go_wp2_with (fail)
  refine (HDS.o w8 HW8.o).mono ?_;rintro r w9 ⟨do_,dc,df,dd,rfl,hx9,hb9⟩;have HX9:=lH hx9;have HW9:=lH (zA HW8.o hb9);clear HDS hx9 hb9 HW8;go_upto_region 9 with (fail)
  have hal:=zAa w9 (.cells #[.int .i64 x.kind,.string x.pack,.string x.text,.slice do_ x.old.length dc,.slice df x.fresh.length dd] 39);have HY:=lH (CBox.new w9 39 #[.int .i64 x.kind,.string x.pack,.string x.text,.slice do_ x.old.length dc,.slice df x.fresh.length dd]);have HX10:=lH (HX9.o.below hal);have HW10:=lH (zA HW9.o hal);clear hal HX9 HW9;obtain ⟨B,hB⟩:∃B,w9.heap.size=B:=⟨_,rfl⟩;rw [hB] at HY
  (try rw [hB])
  clear hB;generalize World.alloc w9 _=w10 at *
  rcases HOR.o with hz|⟨hz,hsx,hex,hen⟩
  ·obtain ⟨rfl,rfl⟩:=Prod.mk.inj hz
   have q1:((13:Int) != 0)=true:=by decide
   have y0:=HY.o.cell (i:=0) (v:=.int .i64 0) rfl;have yl:=HY.o.lt;clear HOR hz HX10 HCE2;go_wp2_with (fail)
   refine (zCn _).mono ?_;rintro r w19 ⟨rfl,hb19⟩;have HF19:=lH (zA HW10.o hb19);clear hb19;go_wp2;go_ret;exact ⟨rfl,HF19.o⟩
  ·subst hz
   have q1:((0:Int) != 0)=false:=by decide
   have HSX:=lH hsx;have HCX:=lH (zFi x do_ dc df dd w10 HX10.o HSX.o);unfold editV at HCX;have hes:encS x=s:=by unfold encS;rw [if_pos hex,hen]
   rw [hex,hes] at HCX;replace HCX:=lH HCX;have hss:(s.toList==s.toList)=true:=beq_self_eq_true _;have y0:=HY.o.cell (i:=0) (v:=.int .i64 x.kind) rfl;have y1:=HY.o.cell (i:=1) (v:=.string x.pack) rfl;have y2:=HY.o.cell (i:=2) (v:=.string x.text) rfl;have y3:=HY.o.cell (i:=3) (v:=.slice do_ x.old.length dc) rfl;have y4:=HY.o.cell (i:=4) (v:=.slice df x.fresh.length dd) rfl;have yl:=HY.o.lt;clear HOR hex hen hes hsx HSX HX10 HCE2;go_wp2_with (fail)
   refine HCX.o.out.mono ?_;rintro r w11 ⟨rfl,hb11⟩;have HW11:=lH (zA HW10.o hb11);clear HCX hb11 HW10 HY y0 y1 y2 y3 y4 yl;go_wp2_with (fail)
   refine (zCn _).mono ?_;rintro r w20 ⟨rfl,hb20⟩;have HF20:=lH (zA HW11.o hb20);clear hb20;go_wp2;go_ret;exact ⟨rfl,HF20.o⟩
 ·have q0:(E==0)=false:=by simp [h0]
  have HW8:=HW3;clear HOK HEE HK1 HG3 HSX HE HW3 h0;generalize w3=w8 at *;go_wp2_with (fail)
  refine (HDS.o w8 HW8.o).mono ?_;rintro r w9 ⟨do_,dc,df,dd,rfl,hx9,hb9⟩;have HX9:=lH hx9;have HW9:=lH (zA HW8.o hb9);clear HDS hx9 hb9 HW8;go_upto_region 9 with (fail)
  have hal:=zAa w9 (.cells #[.int .i64 x.kind,.string x.pack,.string x.text,.slice do_ x.old.length dc,.slice df x.fresh.length dd] 39);have HY:=lH (CBox.new w9 39 #[.int .i64 x.kind,.string x.pack,.string x.text,.slice do_ x.old.length dc,.slice df x.fresh.length dd]);have HX10:=lH (HX9.o.below hal);have HW10:=lH (zA HW9.o hal);clear hal HX9 HW9;obtain ⟨B,hB⟩:∃B,w9.heap.size=B:=⟨_,rfl⟩;rw [hB] at HY
  (try rw [hB])
  clear hB;generalize World.alloc w9 _=w10 at *
  rcases HOR.o with hz|⟨hz,hsx,hex,hen⟩
  ·obtain ⟨rfl,rfl⟩:=Prod.mk.inj hz
   have q1:((13:Int) != 0)=true:=by decide
   have y0:=HY.o.cell (i:=0) (v:=.int .i64 0) rfl;have yl:=HY.o.lt;clear HOR hz HX10 HCE2;go_wp2_with (fail)
   refine (zCn _).mono ?_;rintro r w19 ⟨rfl,hb19⟩;have HF19:=lH (zA HW10.o hb19);clear hb19;go_wp2;go_ret;exact ⟨rfl,HF19.o⟩
  ·subst hz
   have q1:((0:Int) != 0)=false:=by decide
   have HSX:=lH hsx;have HCX:=lH (zFi x do_ dc df dd w10 HX10.o HSX.o);unfold editV at HCX;have hes:encS x=s:=by unfold encS;rw [if_pos hex,hen]
   rw [hex,hes] at HCX;replace HCX:=lH HCX;have hss:(s.toList==s.toList)=true:=beq_self_eq_true _;have y0:=HY.o.cell (i:=0) (v:=.int .i64 x.kind) rfl;have y1:=HY.o.cell (i:=1) (v:=.string x.pack) rfl;have y2:=HY.o.cell (i:=2) (v:=.string x.text) rfl;have y3:=HY.o.cell (i:=3) (v:=.slice do_ x.old.length dc) rfl;have y4:=HY.o.cell (i:=4) (v:=.slice df x.fresh.length dd) rfl;have yl:=HY.o.lt;clear HOR hex hen hes hsx HSX HX10 HCE2;go_wp2_with (fail)
   refine HCX.o.out.mono ?_;rintro r w11 ⟨rfl,hb11⟩;have HW11:=lH (zA HW10.o hb11);clear HCX hb11 HW10 HY y0 y1 y2 y3 y4 yl;go_wp2_with (fail)
   refine (zCn _).mono ?_;rintro r w20 ⟨rfl,hb20⟩;have HF20:=lH (zA HW11.o hb20);clear hb20;go_wp2;go_ret;exact ⟨rfl,HF20.o⟩
end Go.Proofs.YtfkjfdbjhlmjcaaGreatDoor
