/- The closure of edit.change for edits of the kinds 7 and 8. -/
import Derived.Test.YtfkjfdbjhlmjcaaGreatDoorXBL
set_option maxRecDepth 100000
set_option maxHeartbeats 16000000
namespace Go.Proofs.YtfkjfdbjhlmjcaaGreatDoor
open Go.RowKit Go.Shelf
attribute [local go_sem] Oper.semAt_some
theorem zQk (w0 w:World) (g o sS:Nat) (sv:Value) (x:MV) (e:OEdit) (ao:Option Addr) (co:Nat) (af:Option Addr) (cf:Nat) (h:EffIn w0 w g o x e ao co af cf) (hd:EffD x e) (hk6:7≤e.kind) (ho1:e.old.length=1) (hf1:7≤e.kind→e.fresh.length=1)
  (hsS:sS<w.heap.size) (hsv:w.cell? ⟨sS,0,none⟩=some sv) (hset:7≤e.kind→∃F,(F=79∨F=80)∧sv=.func (.func F) #[] #[]∧Setter e.kind F) (hsd:∀d∈x.m.decls,d.names.length≤1000000∧nodesN d.body≤1000000) :
  Calls Tryz.prog 130 #[.pointer (some ⟨g,o,none⟩),editV e ao co af cf,.pointer (some ⟨sS,0,none⟩)] w fun r w'=>EffPost w0 w g o x e r w':=by
 obtain ⟨d,hde⟩:∃d,e.old[0]?=some d:=⟨_,List.getElem?_eq_getElem (show 0<e.old.length by omega)⟩;have hdd:dAt e.old 0=d:=zDi hde;obtain ⟨bo,oo,an,cn,sa,cs,rfl,hbl,hcell,-,hdin⟩:=zMq h.ed.old hde;obtain ⟨B,hB⟩:∃B,B=w.heap.size:=⟨_,rfl⟩;obtain ⟨W0,hW0⟩:∃W0,W0=(w.alloc (.cells #[.int .i64 e.kind,.string e.pack,.string e.text,.slice (some ⟨bo,oo,none⟩) e.old.length co,.slice af e.fresh.length cf] 39)).alloc (.cells (dA d an cn sa cs) 62):=⟨_,rfl⟩;have hb0:Bw w W0:=by rw [hW0];exact zA (zAa _ _) (zAa _ _)
 have hbox:CBox W0 B 39 #[.int .i64 e.kind,.string e.pack,.string e.text,.slice (some ⟨bo,oo,none⟩) e.old.length co,.slice af e.fresh.length cf]:=by rw [hW0,hB];exact CBox.alloc (CBox.new _ _ _) _
 have hbxD:CBox W0 (B+1) 62 (dA d an cn sa cs):=by
  rw [hW0,hB];have:=CBox.new (w.alloc (.cells #[.int .i64 e.kind,.string e.pack,.string e.text,.slice (some ⟨bo,oo,none⟩) e.old.length co,.slice af e.fresh.length cf] 39)) 62 (dA d an cn sa cs);rwa [World.size_alloc] at this
 obtain ⟨D,hD⟩:∃D,D=B+1:=⟨_,rfl⟩;rw [←hD] at hbxD;have hwb:Bw w0 W0:=zA h.old hb0;have HM:=lH h.at_;have HMR:=lH h.mr;have HX:=lH hbox;have HXD:=lH hbxD;have SW:Hid (∀W:World,Bw W0 W→(W.cell? ⟨g,o+2,none⟩=some x.d∧W.cell? ⟨D,0,none⟩=some (.int .i64 d.id)∧g<W.heap.size∧D<W.heap.size)):=fun W hW=>⟨((HM.o.below hb0).below hW).c2,(HXD.o.below hW).cell (i:=0) (v:=.int .i64 d.id) rfl,((HM.o.below hb0).below hW).lt,(HXD.o.below hW).lt⟩;obtain ⟨xs,hxo,hxr⟩:=h.mr.decls;obtain ⟨ad,cd,hu⟩:=zAk hxo
 have HXO:=lH hxo;have HXR:=lH hxr;have HB0:=lH hb0;have HWB:=lH hwb;have HS:=lH h.srt;have HUL:=lH h.dl;have HK6:=lH hk6;have HH:=lH h;have HDD:=lH hd;have HOD:=lH hdd;have HDI:=lH hdin;have HF1:=lH hf1;have HSV:=lH hsv;have HSS:=lH hsS;have HSET:=lH hset;have HSD:=lH hsd;have hf0:(0:Int)<(e.old.length:Int):=by omega
 have hf00:0<e.old.length:=by omega
 have HRO:Hid (inR d.id):=by have:=hd.ro;rw [hdd] at this;exact this
 have HB:Hid (B=w.heap.size):=hB;have HDB:Hid (D=B+1):=hD;have hwo:=h.old;have hbl2:bo<w.heap.size:=Nat.lt_of_lt_of_le hbl hwo.size;have z0:w.cell? ⟨bo,oo,none⟩=some (.int .i64 d.id):=(hwo.cell (p:=⟨bo,_,none⟩) hbl).trans (hcell 0 _ rfl);have z1:w.cell? ⟨bo,oo+1,none⟩=some (.int .i64 d.kind):=(hwo.cell (p:=⟨bo,_,none⟩) hbl).trans (hcell 1 _ rfl);have z2:w.cell? ⟨bo,oo+2,none⟩=some (.bool d.pub):=(hwo.cell (p:=⟨bo,_,none⟩) hbl).trans (hcell 2 _ rfl)
 have z3:w.cell? ⟨bo,oo+3,none⟩=some (.slice an d.names.length cn):=(hwo.cell (p:=⟨bo,_,none⟩) hbl).trans (hcell 3 _ rfl);have z4:w.cell? ⟨bo,oo+4,none⟩=some (.bool d.doubt):=(hwo.cell (p:=⟨bo,_,none⟩) hbl).trans (hcell 4 _ rfl);have z5:w.cell? ⟨bo,oo+5,none⟩=some (.int .i64 d.body.kind):=(hwo.cell (p:=⟨bo,_,none⟩) hbl).trans (hcell 5 _ rfl);have z6:w.cell? ⟨bo,oo+6,none⟩=some (.string d.body.name):=(hwo.cell (p:=⟨bo,_,none⟩) hbl).trans (hcell 6 _ rfl)
 have z7:w.cell? ⟨bo,oo+7,none⟩=some (.string d.body.more):=(hwo.cell (p:=⟨bo,_,none⟩) hbl).trans (hcell 7 _ rfl);have z8:w.cell? ⟨bo,oo+8,none⟩=some (.int .i64 d.body.num):=(hwo.cell (p:=⟨bo,_,none⟩) hbl).trans (hcell 8 _ rfl);have z9:w.cell? ⟨bo,oo+9,none⟩=some (.int .i64 d.body.den):=(hwo.cell (p:=⟨bo,_,none⟩) hbl).trans (hcell 9 _ rfl);have z10:w.cell? ⟨bo,oo+10,none⟩=some (.slice sa d.body.subs.length cs):=(hwo.cell (p:=⟨bo,_,none⟩) hbl).trans (hcell 10 _ rfl)
 clear hbox hbxD hk6 hb0 h hcell hxo hxr hde hd hwb hdd hdin ho1 hf1 hsv hsS hset hsd hwo hbl;unfold editV
 go_enter Tryz.func130,Tryz.ntmps130
 go_upto_region 2 with (fail)
 have hsz1:w.heap.size+1=D:=by rw [hD,hB]
 rw [←hW0,hsz1,←hB];clear hW0 hB hD hsz1 z0 z1 z2 z3 z4 z5 z6 z7 z8 z9 z10;have hb1:Bw W0 W0.drew:=(Mod.refl [] W0).drew.below;refine wp_region_noPanic (zCp (fun W:World=>W.cell? ⟨g,o+2,none⟩=some x.d∧W.cell? ⟨D,0,none⟩=some (.int .i64 d.id)∧g<W.heap.size∧D<W.heap.size) [true,true,true,true,true,true,false,true,true,true,true,true] zBm (by kernel_rfl) (fun _ _ _ _ _ h=>h) (SW.o _ hb1) (fun _=>?_))
 iterate 6 (first|(refine zAo (by rfl) ?_;(try simp only [Act.put,List.setIfInBounds_toArray,List.set_cons_zero,List.set_cons_succ]))|(refine zAw (v:=?_) (by rfl) ?_ ?_;rotate_left;(focus (intro wq hSw;(try dsimp only at hSw);go_simp;(try with_reducible rfl)));(try simp only [Act.put,List.setIfInBounds_toArray,List.set_cons_zero,List.set_cons_succ])))
 (refine zDb (by rfl) (fun K hK=>?_);go_simp)
 have hrW:Reads W0.drew [] (declsT x.m.decls) (.slice ad x.m.decls.length cd):=by rw [←hu];exact (HMR.o.below (zA HB0.o hb1)).reads (zA HWB.o hb1)
 refine (zQe x.m.decls ad cd d.id W0.drew hrW HS.o.decls HDD.o.rng HRO.o (by have:=HUL.o;omega)).mono ?_;rintro r W1 ⟨rfl,hb2⟩;clear hrW;have hb2:=zA hb1 hb2;refine hK.out _ _ (SW.o _ hb2) (fun _=>?_);clear hK K
 (try simp only [Act.put,List.setIfInBounds_toArray,List.set_cons_zero,List.set_cons_succ])
 rcases zCf yDv HS.o.decls d.id with ⟨y,H⟩|H
 rotate_left
 ·have HE:Hid (inMod x.m e=(x.m,8)):=by show _=_;unfold inMod;rw [if_neg (by have:=HK6.o;omega),if_neg (by have:=HK6.o;omega),if_neg (by have:=HK6.o;omega),HOD.o,H.look]
  rw [H.look];simp only [Option.isSome_none]
  generalize plc ltI ODecl.id x.m.decls d.id=p at *
  iterate 5 (first|(refine zAo (by rfl) ?_;(try simp only [Act.put,List.setIfInBounds_toArray,List.set_cons_zero,List.set_cons_succ]))|(refine zAw (v:=?_) (by rfl) ?_ ?_;rotate_left;(focus (intro wq hSw;(try dsimp only at hSw);go_simp;(try with_reducible rfl)));(try simp only [Act.put,List.setIfInBounds_toArray,List.set_cons_zero,List.set_cons_succ])))
  refine zDg ?_;refine NoPanic.normal ?_;go_wp2;go_ret;exact ⟨zAc (k:=.i64) (a:=8) (by rw [HE.o]),fun _=>zA HB0.o hb2,fun c=>by rw [HE.o] at c;cases c⟩
 have HE:Hid (inMod x.m e=if sameD (partD e.kind y) d then (if e.kind=6 then (⟨x.m.label,x.m.uses,delAt x.m.decls (plc ltI ODecl.id x.m.decls d.id)⟩,0) else (⟨x.m.label,x.m.uses,x.m.decls.set (plc ltI ODecl.id x.m.decls d.id) (setPart e.kind y (dAt e.fresh 0))⟩,0)) else (x.m,17)):=by
  show _=_;unfold inMod;rw [if_neg (by have:=HK6.o;omega),if_neg (by have:=HK6.o;omega),if_neg (by have:=HK6.o;omega),HOD.o,H.look]
 have hpl:=H.le;have hpy:=H.elt;rw [H.look];simp only [Option.isSome_some]
 clear H;generalize plc ltI ODecl.id x.m.decls d.id=p at *;have hgl0:p<x.m.decls.length:=hpl
 iterate 5 (first|(refine zAo (by rfl) ?_;(try simp only [Act.put,List.setIfInBounds_toArray,List.set_cons_zero,List.set_cons_succ]))|(refine zAw (v:=?_) (by rfl) ?_ ?_;rotate_left;(focus (intro wq hSw;(try dsimp only at hSw);go_simp;(try with_reducible rfl)));(try simp only [Act.put,List.setIfInBounds_toArray,List.set_cons_zero,List.set_cons_succ])))
 refine zDg ?_;refine NoPanic.normal ?_;obtain ⟨A,R,yn,yc,ys,yk,rfl,hA,hyi,hrs⟩:=yBs HXR.o hpy;obtain ⟨gd,gcur,hgd,hgcell,hgB,hgl,hgf,hgn,hgn2,hgh⟩:=zCo (by rw [hu] at HXO;exact HXO.o) (by omega:0<x.m.decls.length);subst hgd;have HY:=lH hyi;have HRS:=lH hrs;have HA:=lH hA;have HGL:=lH hgl;have HGC:Hid (∀j u,(declL y yn yc ys yk)[j]?=some u→w.cell? ⟨gd,p * 11+j,none⟩=some u):=fun j u hj=>hgcell _ _ (zEv A (declL y yn yc ys yk) R _ j u (by omega) hj);have hymem:y∈x.m.decls:=List.mem_of_getElem? hpy
 have HYS:=lH (HSD.o y hymem);clear hyi hrs hA hgcell hgf hgh hgl hgB hpy hymem
 have S5W:Hid (∀W:World,Bw W0 W→(W.cell? ⟨B,0,none⟩=some (.int .i64 e.kind)∧W.cell? ⟨g,o+2,none⟩=some x.d∧W.cell? ⟨gd,p * 11,none⟩=some (.int .i64 y.id)∧W.cell? ⟨gd,p * 11+1,none⟩=some (.int .i64 y.kind)∧W.cell? ⟨gd,p * 11+2,none⟩=some (.bool y.pub)∧W.cell? ⟨gd,p * 11+3,none⟩=some (.slice yn y.names.length yc)∧W.cell? ⟨gd,p * 11+4,none⟩=some (.bool y.doubt)∧W.cell? ⟨gd,p * 11+5,none⟩=some (.int .i64 y.body.kind)∧W.cell? ⟨gd,p * 11+6,none⟩=some (.string y.body.name)∧W.cell? ⟨gd,p * 11+7,none⟩=some (.string y.body.more)∧W.cell? ⟨gd,p * 11+8,none⟩=some (.int .i64 y.body.num)∧W.cell? ⟨gd,p * 11+9,none⟩=some (.int .i64 y.body.den)∧W.cell? ⟨gd,p * 11+10,none⟩=some (.slice ys y.body.subs.length yk)∧W.cell? ⟨D,0,none⟩=some (.int .i64 d.id)∧W.cell? ⟨D,1,none⟩=some (.int .i64 d.kind)∧W.cell? ⟨D,2,none⟩=some (.bool d.pub)∧W.cell? ⟨D,3,none⟩=some (.slice an d.names.length cn)∧W.cell? ⟨D,4,none⟩=some (.bool d.doubt)∧W.cell? ⟨D,5,none⟩=some (.int .i64 d.body.kind)∧W.cell? ⟨D,6,none⟩=some (.string d.body.name)∧W.cell? ⟨D,7,none⟩=some (.string d.body.more)∧W.cell? ⟨D,8,none⟩=some (.int .i64 d.body.num)∧W.cell? ⟨D,9,none⟩=some (.int .i64 d.body.den)∧W.cell? ⟨D,10,none⟩=some (.slice sa d.body.subs.length cs)∧g<W.heap.size∧B<W.heap.size∧D<W.heap.size∧gd<W.heap.size)):=fun W hW=>⟨(HX.o.below hW).cell (i:=0) (v:=.int .i64 e.kind) rfl,((HM.o.below HB0.o).below hW).c2,((zA HB0.o hW).cell (p:=⟨gd,_,none⟩) HGL.o).trans (HGC.o 0 _ rfl),((zA HB0.o hW).cell (p:=⟨gd,_,none⟩) HGL.o).trans (HGC.o 1 _ rfl),((zA HB0.o hW).cell (p:=⟨gd,_,none⟩) HGL.o).trans (HGC.o 2 _ rfl),((zA HB0.o hW).cell (p:=⟨gd,_,none⟩) HGL.o).trans (HGC.o 3 _ rfl),((zA HB0.o hW).cell (p:=⟨gd,_,none⟩) HGL.o).trans (HGC.o 4 _ rfl),((zA HB0.o hW).cell (p:=⟨gd,_,none⟩) HGL.o).trans (HGC.o 5 _ rfl),((zA HB0.o hW).cell (p:=⟨gd,_,none⟩) HGL.o).trans (HGC.o 6 _ rfl),((zA HB0.o hW).cell (p:=⟨gd,_,none⟩) HGL.o).trans (HGC.o 7 _ rfl),((zA HB0.o hW).cell (p:=⟨gd,_,none⟩) HGL.o).trans (HGC.o 8 _ rfl),((zA HB0.o hW).cell (p:=⟨gd,_,none⟩) HGL.o).trans (HGC.o 9 _ rfl),((zA HB0.o hW).cell (p:=⟨gd,_,none⟩) HGL.o).trans (HGC.o 10 _ rfl),(HXD.o.below hW).cell (i:=0) (v:=.int .i64 d.id) rfl,(HXD.o.below hW).cell (i:=1) (v:=.int .i64 d.kind) rfl,(HXD.o.below hW).cell (i:=2) (v:=.bool d.pub) rfl,(HXD.o.below hW).cell (i:=3) (v:=.slice an d.names.length cn) rfl,(HXD.o.below hW).cell (i:=4) (v:=.bool d.doubt) rfl,(HXD.o.below hW).cell (i:=5) (v:=.int .i64 d.body.kind) rfl,(HXD.o.below hW).cell (i:=6) (v:=.string d.body.name) rfl,(HXD.o.below hW).cell (i:=7) (v:=.string d.body.more) rfl,(HXD.o.below hW).cell (i:=8) (v:=.int .i64 d.body.num) rfl,(HXD.o.below hW).cell (i:=9) (v:=.int .i64 d.body.den) rfl,(HXD.o.below hW).cell (i:=10) (v:=.slice sa d.body.subs.length cs) rfl,((HM.o.below HB0.o).below hW).lt,(HX.o.below hW).lt,(HXD.o.below hW).lt,Nat.lt_of_lt_of_le HGL.o (zA HB0.o hW).size⟩
 have hpi:(p:Int)<(x.m.decls.length:Int):=by omega
 go_upto_region 5 with (fail)
 have hbd:Bw W0 W1.drew:=zA hb2 (Mod.refl [] W1).drew.below;have HMC:=lH (zEr e.kind y yn yc ys yk W1.drew (HY.o.below (zA HWB.o hbd)));unfold declV at HMC
 refine wp_region_noPanic (zBe (fun W:World=>W.cell? ⟨B,0,none⟩=some (.int .i64 e.kind)∧W.cell? ⟨g,o+2,none⟩=some x.d∧W.cell? ⟨gd,p * 11,none⟩=some (.int .i64 y.id)∧W.cell? ⟨gd,p * 11+1,none⟩=some (.int .i64 y.kind)∧W.cell? ⟨gd,p * 11+2,none⟩=some (.bool y.pub)∧W.cell? ⟨gd,p * 11+3,none⟩=some (.slice yn y.names.length yc)∧W.cell? ⟨gd,p * 11+4,none⟩=some (.bool y.doubt)∧W.cell? ⟨gd,p * 11+5,none⟩=some (.int .i64 y.body.kind)∧W.cell? ⟨gd,p * 11+6,none⟩=some (.string y.body.name)∧W.cell? ⟨gd,p * 11+7,none⟩=some (.string y.body.more)∧W.cell? ⟨gd,p * 11+8,none⟩=some (.int .i64 y.body.num)∧W.cell? ⟨gd,p * 11+9,none⟩=some (.int .i64 y.body.den)∧W.cell? ⟨gd,p * 11+10,none⟩=some (.slice ys y.body.subs.length yk)∧W.cell? ⟨D,0,none⟩=some (.int .i64 d.id)∧W.cell? ⟨D,1,none⟩=some (.int .i64 d.kind)∧W.cell? ⟨D,2,none⟩=some (.bool d.pub)∧W.cell? ⟨D,3,none⟩=some (.slice an d.names.length cn)∧W.cell? ⟨D,4,none⟩=some (.bool d.doubt)∧W.cell? ⟨D,5,none⟩=some (.int .i64 d.body.kind)∧W.cell? ⟨D,6,none⟩=some (.string d.body.name)∧W.cell? ⟨D,7,none⟩=some (.string d.body.more)∧W.cell? ⟨D,8,none⟩=some (.int .i64 d.body.num)∧W.cell? ⟨D,9,none⟩=some (.int .i64 d.body.den)∧W.cell? ⟨D,10,none⟩=some (.slice sa d.body.subs.length cs)∧g<W.heap.size∧B<W.heap.size∧D<W.heap.size∧gd<W.heap.size) 12 [(true,0),(true,1),(true,2),(true,3),(true,4),(true,5),(true,6),(true,7),(true,8),(true,10),(false,9),(false,11)] zBm (by kernel_rfl) (fun _ _ _ _ _ h=>h) (S5W.o _ hbd) ?_)
 iterate 10 (refine zAy (v:=?_) rfl (by rfl) ?_ ?_;rotate_left;(focus (intro wq hSw;(try dsimp only at hSw);go_simp;(try rw [if_neg (by first|omega|(simp;omega))]);(try with_reducible rfl)));(try simp only [gA,gB,gC,Act.put,gD,gE,gF]))
 (refine zBo rfl (by rfl) (fun K hK=>?_);go_simp)
 refine HMC.o.mono ?_;rintro r W2 ⟨pn,pc,ps,pk,rfl,hpi2,hb3⟩;have hb3:=zA hbd hb3;have HEC:=lH (zCs (partD e.kind y) d pn pc ps pk an cn sa cs W2 hpi2 (HDI.o.below (zA HWB.o hb3)) (zWb HYS.o.1) (zWc HYS.o.2));generalize hsb:sameD (partD e.kind y) d=sb at *;have HSB:=lH hsb;clear hsb;refine hK.out _ _ (S5W.o _ hb3) ?_;clear hK K HMC
 (try simp only [gA,gB,gC,Act.put,gD,gE,gF])
 (refine zBo rfl (by rfl) (fun K hK=>?_);go_simp)
 unfold declV at HEC;refine HEC.o.mono ?_;rintro r W3 ⟨rfl,hb4⟩;have hb4:=zA hb3 hb4;refine hK.out _ _ (S5W.o _ hb4) ?_;clear hK K HEC hpi2
 (try simp only [gA,gB,gC,Act.put,gD,gE,gF])
 refine zBy ?_;have HB4:=lH hb4
 cases sb with
 | false=>
  have HE2:Hid (inMod x.m e=(x.m,17)):=by show _=_;rw [HE.o];rfl
  clear hb4 hb3 hbd hb2 hb1;go_wp2;refine NoPanic.normal ?_;go_wp2;go_ret;exact ⟨zAc (k:=.i64) (a:=17) (by rw [HE2.o]),fun _=>zA HB0.o HB4.o,fun c=>by rw [HE2.o] at c;cases c⟩
 | true=>
  have eK:=(S5W.o _ hb4).1;have l0:=(HX.o.below hb4).lt;have hbw:Bw w W3:=zA HB0.o hb4;have HBW:=lH hbw;clear hb4 hb3 hbd hb2 hb1;have hk:¬e.kind=6:=by have:=HK6.o;omega
  ·have HE2:Hid (inMod x.m e=(⟨x.m.label,x.m.uses,x.m.decls.set p (setPart e.kind y (dAt e.fresh 0))⟩,0)):=by show _=_;rw [HE.o,if_pos rfl,if_neg hk]
   have hk7:7≤e.kind:=by have:=HK6.o;omega
   obtain ⟨F,hFF,rfl,hF⟩:=HSET.o hk7;have hf1:=HF1.o hk7;obtain ⟨f,hfe⟩:∃f,e.fresh[0]?=some f:=⟨_,List.getElem?_eq_getElem (show 0<e.fresh.length by omega)⟩;have hfd:dAt e.fresh 0=f:=zDi hfe;rw [hfd] at HE2;obtain ⟨bf,of',bn,cm,sb,ct,rfl,hfl,hfc,-,hfi⟩:=zMq HH.o.ed.fresh hfe
   have SAW:(W3.drew.cell? ⟨sS,0,none⟩=some (.func (.func F) #[] #[])∧W3.drew.cell? ⟨g,o+2,none⟩=some x.d∧W3.drew.cell? ⟨B,4,none⟩=some (.slice (some ⟨bf,of',none⟩) e.fresh.length cf)∧W3.drew.cell? ⟨bf,of',none⟩=some (.int .i64 f.id)∧W3.drew.cell? ⟨bf,of'+1,none⟩=some (.int .i64 f.kind)∧W3.drew.cell? ⟨bf,of'+2,none⟩=some (.bool f.pub)∧W3.drew.cell? ⟨bf,of'+3,none⟩=some (.slice bn f.names.length cm)∧W3.drew.cell? ⟨bf,of'+4,none⟩=some (.bool f.doubt)∧W3.drew.cell? ⟨bf,of'+5,none⟩=some (.int .i64 f.body.kind)∧W3.drew.cell? ⟨bf,of'+6,none⟩=some (.string f.body.name)∧W3.drew.cell? ⟨bf,of'+7,none⟩=some (.string f.body.more)∧W3.drew.cell? ⟨bf,of'+8,none⟩=some (.int .i64 f.body.num)∧W3.drew.cell? ⟨bf,of'+9,none⟩=some (.int .i64 f.body.den)∧W3.drew.cell? ⟨bf,of'+10,none⟩=some (.slice sb f.body.subs.length ct)∧sS<W3.drew.heap.size∧g<W3.drew.heap.size∧B<W3.drew.heap.size∧bf<W3.drew.heap.size):=⟨((zA HBW.o (Mod.refl [] W3).drew.below).cell (p:=⟨sS,0,none⟩) HSS.o).trans HSV.o,(((HM.o.below HB0.o).below HB4.o).below (Mod.refl [] W3).drew.below).c2,((HX.o.below HB4.o).below (Mod.refl [] W3).drew.below).cell (i:=4) (v:=.slice (some ⟨bf,of',none⟩) e.fresh.length cf) rfl,((zA (zA HWB.o HB4.o) (Mod.refl [] W3).drew.below).cell (p:=⟨bf,_,none⟩) hfl).trans (hfc 0 _ rfl),((zA (zA HWB.o HB4.o) (Mod.refl [] W3).drew.below).cell (p:=⟨bf,_,none⟩) hfl).trans (hfc 1 _ rfl),((zA (zA HWB.o HB4.o) (Mod.refl [] W3).drew.below).cell (p:=⟨bf,_,none⟩) hfl).trans (hfc 2 _ rfl),((zA (zA HWB.o HB4.o) (Mod.refl [] W3).drew.below).cell (p:=⟨bf,_,none⟩) hfl).trans (hfc 3 _ rfl),((zA (zA HWB.o HB4.o) (Mod.refl [] W3).drew.below).cell (p:=⟨bf,_,none⟩) hfl).trans (hfc 4 _ rfl),((zA (zA HWB.o HB4.o) (Mod.refl [] W3).drew.below).cell (p:=⟨bf,_,none⟩) hfl).trans (hfc 5 _ rfl),((zA (zA HWB.o HB4.o) (Mod.refl [] W3).drew.below).cell (p:=⟨bf,_,none⟩) hfl).trans (hfc 6 _ rfl),((zA (zA HWB.o HB4.o) (Mod.refl [] W3).drew.below).cell (p:=⟨bf,_,none⟩) hfl).trans (hfc 7 _ rfl),((zA (zA HWB.o HB4.o) (Mod.refl [] W3).drew.below).cell (p:=⟨bf,_,none⟩) hfl).trans (hfc 8 _ rfl),((zA (zA HWB.o HB4.o) (Mod.refl [] W3).drew.below).cell (p:=⟨bf,_,none⟩) hfl).trans (hfc 9 _ rfl),((zA (zA HWB.o HB4.o) (Mod.refl [] W3).drew.below).cell (p:=⟨bf,_,none⟩) hfl).trans (hfc 10 _ rfl),Nat.lt_of_lt_of_le HSS.o (zA HBW.o (Mod.refl [] W3).drew.below).size,(((HM.o.below HB0.o).below HB4.o).below (Mod.refl [] W3).drew.below).lt,((HX.o.below HB4.o).below (Mod.refl [] W3).drew.below).lt,Nat.lt_of_lt_of_le hfl (zA (zA HWB.o HB4.o) (Mod.refl [] W3).drew.below).size⟩
   have hO:=zAq HXO.o (zA HBW.o (Mod.refl [] W3).drew.below);rw [hu] at hO;have HCS:=lH (hF w0.heap.size gd cd x.m.decls.length p y f yn yc ys yk bn cm sb ct A R w0 W3.drew hO hgl0 HA.o HY.o hfi);have hf0':(0:Int)<(e.fresh.length:Int):=by omega
   have hf00':0<e.fresh.length:=by omega
   have HK:=lH hk;clear hfe hfd hfl hfc hfi hO hk7 hf1 hF hbw HE;have hkb:(e.kind==6)=false:=by simpa using hk
   clear hk;go_wp2;refine NoPanic.normal ?_;go_wp2;go_upto_region 10 with (fail)
   refine wp_region_noPanic (zBe (fun W:World=>W.cell? ⟨sS,0,none⟩=some (.func (.func F) #[] #[])∧W.cell? ⟨g,o+2,none⟩=some x.d∧W.cell? ⟨B,4,none⟩=some (.slice (some ⟨bf,of',none⟩) e.fresh.length cf)∧W.cell? ⟨bf,of',none⟩=some (.int .i64 f.id)∧W.cell? ⟨bf,of'+1,none⟩=some (.int .i64 f.kind)∧W.cell? ⟨bf,of'+2,none⟩=some (.bool f.pub)∧W.cell? ⟨bf,of'+3,none⟩=some (.slice bn f.names.length cm)∧W.cell? ⟨bf,of'+4,none⟩=some (.bool f.doubt)∧W.cell? ⟨bf,of'+5,none⟩=some (.int .i64 f.body.kind)∧W.cell? ⟨bf,of'+6,none⟩=some (.string f.body.name)∧W.cell? ⟨bf,of'+7,none⟩=some (.string f.body.more)∧W.cell? ⟨bf,of'+8,none⟩=some (.int .i64 f.body.num)∧W.cell? ⟨bf,of'+9,none⟩=some (.int .i64 f.body.den)∧W.cell? ⟨bf,of'+10,none⟩=some (.slice sb f.body.subs.length ct)∧sS<W.heap.size∧g<W.heap.size∧B<W.heap.size∧bf<W.heap.size) 11 [(true,0),(true,1),(true,2),(true,3),(true,4),(true,5),(true,6),(true,7),(true,8),(true,9),(true,10)] zBm (by kernel_rfl) (fun _ _ _ _ _ h=>h) SAW ?_)
   clear SAW
   iterate 11 (refine zAy (v:=?_) rfl (by rfl) ?_ ?_;rotate_left;(focus (intro wq hSw;(try dsimp only at hSw);go_simp;(try rw [if_neg (by first|omega|(simp;omega))]);(try with_reducible rfl)));(try simp only [gA,gB,gC,Act.put,gD,gE,gF]))
   refine zBy ?_;unfold declV at HCS;have HFF:=lH hFF;clear hFF
   rcases HFF.o with rfl|rfl
   ·go_wp2_with (fail)
    refine HCS.o.mono ?_;rintro r W4 ⟨rfl,⟨vs,ho,hrd⟩,hm⟩;have HO4:=lH ho;have HR4:=lH hrd;have HM4:=lH hm;clear ho hrd hm;go_wp2;refine NoPanic.normal ?_;go_wp2;go_ret;exact zMr HE2.o HMR.o (by rw [hu];exact HO4.o) (HRS.o _ _ HR4.o) (zA HBW.o (Mod.refl [] W3).drew.below) (by rw [hu];exact HM4.o) HXO.o
   ·go_wp2_with (fail)
    refine HCS.o.mono ?_;rintro r W4 ⟨rfl,⟨vs,ho,hrd⟩,hm⟩;have HO4:=lH ho;have HR4:=lH hrd;have HM4:=lH hm;clear ho hrd hm;go_wp2;refine NoPanic.normal ?_;go_wp2;go_ret;exact zMr HE2.o HMR.o (by rw [hu];exact HO4.o) (HRS.o _ _ HR4.o) (zA HBW.o (Mod.refl [] W3).drew.below) (by rw [hu];exact HM4.o) HXO.o
theorem zOg (w0 w:World) (B0 M:Nat) (s:Nat→Nat) (v:Value) (ms:List MV) (e:OEdit) (ao:Option Addr) (co:Nat) (af:Option Addr) (cf n:Nat) (hN:NowR w0 w (zB M s) v ms) (hE:EffMap w B0 M s) (hed:EditIn w0 e ao co af cf) (h0:editErr e=0)
  (hs:Srt (ms.map MV.m)) (hz:SzL n (ms.map MV.m)) (hn:n≤100000) (he:SzE e) (h78:e.kind=7∨e.kind=8) :
  Calls Tryz.prog 33 #[v,editV e ao co af cf,.map (some M)] w fun r w'=>OnePost w0 B0 M s ms e r w':=by
 obtain ⟨B,hB⟩:∃B,B=w.heap.size:=⟨_,rfl⟩;obtain ⟨W0,hW0⟩:∃W0,W0=w.alloc (.cells #[.int .i64 e.kind,.string e.pack,.string e.text,.slice ao e.old.length co,.slice af e.fresh.length cf] 39):=⟨_,rfl⟩;have hb0:Bw w W0:=by rw [hW0];exact zAa _ _
 have hbox:CBox W0 B 39 #[.int .i64 e.kind,.string e.pack,.string e.text,.slice ao e.old.length co,.slice af e.fresh.length cf]:=by rw [hW0,hB];exact CBox.new _ _ _
 obtain ⟨av,cv,hv⟩:=zAk hN.own;have HX:=lH hbox;have HNF:Hid (NowR w0 W0 (B::zB M s) v ms):=by show NowR _ _ _ _ _;rw [hB];exact hN.fresh.below hb0
 have HN:=lH (hN.below hb0);have HE:=lH (hE.below hb0);have HED:=lH hed;have H0:=lH h0;have HS:=lH hs;have HZ:=lH hz;have HSE:=lH he;have HLN:=lH hn;have H78:=lH h78;clear h78;have eb:=hbox.cell (i:=1) (v:=.string e.pack) rfl;have lb:=hbox.lt;have hl:ms.length≤100000:=by have:=hz.len;rw [List.length_map] at this;omega
 have hml:(ms.map MV.m).length=ms.length:=List.length_map ..;have HC:=lH (zLo (ms.map MV.m) av cv e.pack W0 (by rw [hml,←hv];exact (hN.below hb0).reads) hs.labels (by omega));rw [hml] at HC;subst hv;clear hbox hN hE hed h0 hs hz hn he hb0;unfold editV
 go_enter Tryz.func33,Tryz.ntmps33
 go_upto_region 1 with (fail)
 rw [←hW0,←hB];clear hW0 hB;go_wp2_with (fail)
 refine HC.o.mono ?_;rintro r W1 ⟨rfl,hb1⟩;clear HC eb lb;have HB1:=lH hb1;have HN1:=lH (HN.o.below hb1);have HF1:=lH (HNF.o.below hb1);have HE1:=lH (HE.o.below hb1);have lb:=(HX.o.below hb1).lt;have eK:=(HX.o.below hb1).cell (i:=0) (v:=.int .i64 e.kind) rfl;have eP:=(HX.o.below hb1).cell (i:=1) (v:=.string e.pack) rfl;clear hb1
 rcases zCf zOa HS.o.labels e.pack with ⟨m,H⟩|H
 ·have HO:Hid (oneL (ms.map MV.m) e=if e.kind=1 then (ms.map MV.m,7) else if e.kind=2 then (if m.uses=[]∧m.decls=[] then (delAt (ms.map MV.m) (plc ltB OMod.label (ms.map MV.m) e.pack),0) else (ms.map MV.m,17)) else ((ms.map MV.m).set (plc ltB OMod.label (ms.map MV.m) e.pack) (inMod m e).1,(inMod m e).2)):=by show _=_;unfold oneL;rw [H.look]
  rw [H.look];simp only [Option.isSome_some]
  have hpl:=H.le;have hpm:=H.elt;clear H;generalize plc ltB OMod.label (ms.map MV.m) e.pack=p at *;rw [hml] at hpl;have hk:¬e.kind=1:=by have:=H78.o;omega
  rw [List.getElem?_map,Option.map_eq_some_iff] at hpm;obtain ⟨x,hx,rfl⟩:=hpm;have HXM:=lH hx;clear hx;obtain ⟨g,c,hv,hat,hgu,hgd⟩:=HN1.o.at_ HXM.o
  injection hv with e1 e2 e3
  subst e1 e3;have hxm:x∈ms:=List.mem_of_getElem? HXM.o;have HR:=lH (HN1.o.mr x hxm);have hszx:=HZ.o.mods x.m (List.mem_map.2 ⟨x,hxm,rfl⟩);have HSX:=lH hszx;have hul:x.m.uses.length≤100000:=by have:=hszx.ulen;have:=HLN.o;omega
  have hdl:x.m.decls.length≤100000:=by have:=hszx.dlen;have:=HLN.o;omega
  clear hszx hxm e2;have hpi:(p:Int)<(ms.length:Int):=by omega
  have hk2:¬e.kind=2:=by have:=H78.o;omega
  ·have HO2:Hid (oneL (ms.map MV.m) e=((ms.map MV.m).set p (inMod x.m e).1,(inMod x.m e).2)):=by show _=_;rw [HO.o,if_neg hk,if_neg hk2]
   have hkb:(e.kind==1)=false:=by simpa using hk
   have hkb2:(e.kind==2)=false:=by simpa using hk2
   have HK9:Hid (3≤e.kind∧e.kind≤9):=by show _∧_;have:=(zBt H0.o).1;omega
   have HEFF:Hid (∀W,Bw W1 W→EffIn w0 W g (p * 3) x e ao co af cf):=fun W hW=>⟨zA HN1.o.old hW,HR.o.below hW,hat.below hW,hgu,hgd,HED.o,HS.o.mods _ (List.mem_map.2 ⟨x,List.mem_of_getElem? HXM.o,rfl⟩),hul,hdl⟩
   have hzl:∀z∈B::zB M s,z<W1.heap.size:=fun z hz=>by
    rcases List.mem_cons.1 hz with rfl|hz
    ·exact lb
    ·exact HE1.o.zlt z hz
   have HEND:Hid (∀r w' W,Bw W1 W→EffPost w0 W g (p * 3) x e r w'→∃q,r=.returned (.int .i64 q)∧OnePost w0 B0 M s ms e (.returned (.tuple #[.slice (some ⟨g,0,none⟩) ms.length cv,.int .i64 q])) w'∧∃X,Mod X W1 w'∧∀b∈X,b∉B::zB M s):=by
    intro r w' W hW hp;obtain ⟨rfl,hp1,hp2⟩:=hp;refine ⟨_,rfl,?_⟩
    by_cases hz0:(inMod x.m e).2=0
    ·obtain ⟨y,V,hy,hs,hm,hr,hu,hd⟩:=hp2 hz0
     obtain ⟨q1,X,q2,q3⟩:=(HF1.o.below hW).upd HXM.o hm hs hr (by rw [hy,zSk]) hu hd (fun z hz=>Nat.lt_of_lt_of_le (hzl z hz) hW.size);rw [hz0];exact ⟨yF (ms':=ms.set p y) (HO2.o.trans (by rw [hz0])) (by rw [yFg,hy]) (q1.less fun z hz=>List.mem_cons_of_mem _ hz) ((HE1.o.below hW).away q2 fun b hb c=>q3 b hb (List.mem_cons_of_mem _ c)),X,(Mod.of hW).trans q2,q3⟩
    ·exact ⟨zYx (by rw [HO2.o]) hz0 (zA (zA HN1.o.old hW) (hp1 hz0)),[],Mod.of (zA hW (hp1 hz0)),fun b hb=>(List.not_mem_nil hb).elim⟩
   clear hzl;clear hk hk2 HO HO2 hat hgu hgd;go_wp2_with (fail)
   -- REGION 12
   go_upto_region 12 with (fail)
   have hbD:Bw W1 W1.drew:=(Mod.refl [] W1).drew.below;have HBD:=lH hbD;have HE9:=lH (HEFF.o _ hbD);have hdE:EffD x e:=yEa HSX.o HSE.o
   have HLK:Hid (∀V,effF s e.kind=some V→∀W X,Mod X W1 W→(∀b∈X,b∉B::zB M s)→(Instr.lookup 63 (.map (some M)) (.int .i64 e.kind) false).run Tryz.prog W=.ok V W):=fun V hV W X hW hx=>by
    have h:=(HE1.o.away hW fun b hb c=>hx b hb (List.mem_cons_of_mem _ c)).map.look zDx Tryz.underlying63 (Tryz.zeroValue116 W) (zFk (x:=e.kind) (by have:=HK9.o;unfold inI;omega));rwa [hV] at h
   clear eK eP;have hk:¬e.kind=3:=by have:=H78.o;omega
   have hk3:=lH hk;clear hk;have hk:¬e.kind=4:=by have:=H78.o;omega
   have hk4:=lH hk;clear hk;have hk:¬e.kind=5:=by have:=H78.o;omega
   have hk5:=lH hk;clear hk
   obtain ⟨i,hi4,hV,hset⟩:∃i,i<4∧effF s e.kind=some (fnV 130 (s i))∧(7≤e.kind→∃F,(F=79∨F=80)∧setV i=.func (.func F) #[] #[]∧Setter e.kind F):=by
    have h9:=HK9.o;have h3:=hk3.out;have h4:=hk4.out;have h5:=hk5.out;have h78:=H78.o
    by_cases h7:e.kind=7
    ·exact ⟨1,by omega,by rw [h7];rfl,fun _=>⟨_,.inl rfl,rfl,by rw [h7];exact yDw⟩⟩
    by_cases h8:e.kind=8
    ·exact ⟨2,by omega,by rw [h8];rfl,fun _=>⟨_,.inr rfl,rfl,by rw [h8];exact yDx⟩⟩
    exact absurd h78 (by omega)
   have h6:7≤e.kind:=by have:=H78.o;have:=HK9.o;have:=hk3.out;have:=hk4.out;have:=hk5.out;omega
   have hbx:=(HE1.o.below hbD).box i hi4;generalize s i=sS at *;unfold fnV at hV
   have SW:Hid (∀(W:World) (X:List Nat),Mod X W1 W→(∀b∈X,b∉B::zB M s)→(W.cell? ⟨B,0,none⟩=some (.int .i64 e.kind)∧W.cell? ⟨B,1,none⟩=some (.string e.pack)∧W.cell? ⟨B,2,none⟩=some (.string e.text)∧W.cell? ⟨B,3,none⟩=some (.slice ao e.old.length co)∧W.cell? ⟨B,4,none⟩=some (.slice af e.fresh.length cf)∧(Instr.lookup 63 (.map (some M)) (.int .i64 e.kind) false).run Tryz.prog W=.ok (.func (.func 130) #[] #[.pointer (some ⟨sS,0,none⟩)]) W∧B<W.heap.size)):=fun W X hW hx=>⟨((HX.o.below HB1.o).mod hW (fun c=>hx B c (List.mem_cons_self ..))).cell (i:=0) (v:=.int .i64 e.kind) rfl,((HX.o.below HB1.o).mod hW (fun c=>hx B c (List.mem_cons_self ..))).cell (i:=1) (v:=.string e.pack) rfl,((HX.o.below HB1.o).mod hW (fun c=>hx B c (List.mem_cons_self ..))).cell (i:=2) (v:=.string e.text) rfl,((HX.o.below HB1.o).mod hW (fun c=>hx B c (List.mem_cons_self ..))).cell (i:=3) (v:=.slice ao e.old.length co) rfl,((HX.o.below HB1.o).mod hW (fun c=>hx B c (List.mem_cons_self ..))).cell (i:=4) (v:=.slice af e.fresh.length cf) rfl,HLK.o _ hV W X hW hx,Nat.lt_of_lt_of_le lb hW.size⟩
   have HCA:=lH (zQk w0 W1.drew g (p * 3) sS (setV i) x e ao co af cf HE9.o hdE h6 (yBt H0.o (by omega)) (fun h7=>zId H0.o (by omega) (by omega)) hbx.lt (hbx.cell (i:=0) rfl) hset (fun d hd=>⟨(HSX.o.decls d hd).sm.len,(HSX.o.decls d hd).nodes⟩));clear h6 hset hbx hV HLK HK9 HEFF hdE
   refine wp_region_noPanic (zBe (fun W:World=>W.cell? ⟨B,0,none⟩=some (.int .i64 e.kind)∧W.cell? ⟨B,1,none⟩=some (.string e.pack)∧W.cell? ⟨B,2,none⟩=some (.string e.text)∧W.cell? ⟨B,3,none⟩=some (.slice ao e.old.length co)∧W.cell? ⟨B,4,none⟩=some (.slice af e.fresh.length cf)∧(Instr.lookup 63 (.map (some M)) (.int .i64 e.kind) false).run Tryz.prog W=.ok (.func (.func 130) #[] #[.pointer (some ⟨sS,0,none⟩)]) W∧B<W.heap.size) 10 [(true,0),(true,1),(true,2),(true,3),(true,4),(true,5),(true,6),(true,7),(true,8),(false,9)] zBm (by kernel_rfl) (fun _ _ _ _ _ h=>h) (SW.o _ [] (Mod.of HBD.o) (fun b hb=>(List.not_mem_nil hb).elim)) ?_)
   iterate 9 (refine zAy (v:=?_) rfl (by rfl) ?_ ?_;rotate_left;(focus (intro wq hSw;(try dsimp only at hSw);go_simp;(try rw [if_neg (by first|omega|(simp;omega))]);(try with_reducible rfl)));(try simp only [gA,gB,gC,Act.put,gD,gE,gF]))
   unfold editV at HCA
   (refine zBo rfl (by rfl) (fun K hK=>?_);go_simp)
   refine HCA.o.mono ?_;rintro r W3 hp;obtain ⟨q,rfl,hq,X,hX1,hX2⟩:=HEND.o _ _ _ HBD.o hp;have HQ:=lH hq;refine hK.out _ _ (SW.o _ X hX1 hX2) ?_;clear hK K hp hq hX1 hX2
   (try simp only [gA,gB,gC,Act.put,gD,gE,gF])
   refine zBy ?_;go_wp2;refine NoPanic.normal ?_;go_wp2;go_ret2;exact HQ.o
   -- END 12
 ·have hpl:plc ltB OMod.label (ms.map MV.m) e.pack≤ms.length:=by rw [←hml];exact zTx _ _
  have HO:Hid (oneL (ms.map MV.m) e=if e.kind=1 then (insAt (ms.map MV.m) (plc ltB OMod.label (ms.map MV.m) e.pack) ⟨e.pack,[],[]⟩,0) else (ms.map MV.m,8)):=by show _=_;unfold oneL;rw [H.look]
  rw [H.look];simp only [Option.isSome_none]
  clear H;generalize plc ltB OMod.label (ms.map MV.m) e.pack=p at *;have hk:¬e.kind=1:=by have:=H78.o;omega
  ·have HO2:Hid (oneL (ms.map MV.m) e=(ms.map MV.m,8)):=by show _=_;rw [HO.o,if_neg hk]
   have hkb:(e.kind==1)=false:=by simpa using hk
   clear hk HO;go_wp2;go_ret2;exact zYx (by rw [HO2.o]) (by decide) HN1.o.old
theorem zSm (l:List OMod) (es:List OEdit) (a:Option Addr) (c:Nat) (b:Option Addr) (d:Nat) (n:Nat) (w:World) (hl:Reads w [] (modsT l) (.slice a l.length c)) (hes:Reads w [] (editsT es) (.slice b es.length d)) (hz:SzB n l) (hn:n+es.length≤100000) (hse:∀e∈es,SmE e) (h78:∀e∈es,e.kind=7∨e.kind=8) :
  Calls Tryz.prog 11 #[.slice a l.length c,.slice b es.length d] w fun r w'=>AppPost w l es r w':=by
 have hll:l.length≤100000:=by have:=hz.len;omega
 have hel:es.length≤100000:=by omega
 have HL:=lH hl;have HES:=lH hes;have HZB:=lH hz;have HN:=lH hn;have HSE:=lH hse;have H78:=lH h78;clear h78;have HCL:=lH (zEx l a c w hl (fun m hm=>hz.sm (by omega) m hm) (by omega));obtain ⟨T,hT⟩:∃T,modsErr l=T:=⟨_,rfl⟩;rw [hT] at HCL;have HT:=lH hT;clear hl hes hz hn hse hT
 go_enter Tryz.func11,Tryz.ntmps11
 go_wp2_with (fail)
 refine HCL.o.mono ?_;rintro r w1 ⟨rfl,hb1⟩;clear HCL
 by_cases h0:T=0
 rotate_left
 ·have q3:(T != 0)=true:=by simp [h0]
  have HE:=lH (zZa (es:=es) (l:=l) (by rw [HT.o];exact h0));rw [HT.o] at HE;clear h0;go_wp2;go_ret2;exact zOf HE.o hb1
 subst h0;have HZ:=lH (HZB.o.valid HT.o);clear HZB;obtain ⟨i0,hi,hz0,hz1,hz2⟩:=zYy yBx;have hmk:=run_make (P:=Tryz.prog) w1 22 52 i0 _ Tryz.underlying22 hi hz0 .i64 .i64 (l.length:Int) (l.length:Int) (by omega) (Int.le_refl _) (by rw [hz2];omega) (by omega);simp only [Int.toNat_natCast,hz1] at hmk
 have HN0:Hid (NowR w (w1.alloc (.cells (madeCells (Value.agg #[.string ⟨#[]⟩,.slice none 0 0,.slice none 0 0]).cells (l.length * 3)) 52)) [] (.slice (some ⟨w1.heap.size,0,none⟩) l.length l.length) (List.replicate l.length noMV)):=NowR.made hb1 l.length (by unfold maxLen;omega);clear hb1 hi hz0 hz1 hz2;generalize World.alloc w1 _=w2 at *;generalize w1.heap.size=g at *;go_wp2
 go_loopw [25] (fun iv wr=>∃(k:Nat) (cs:List MV),k≤l.length∧iv=.int .i64 k∧Hid (cs.length=k∧cs.map MV.m=l.take k)∧Hid (NowR w wr [] (.slice (some ⟨g,0,none⟩) l.length l.length) (cs++List.replicate (l.length - k) noMV))) (fun iv _=>l.length - (intOf iv).toNat)
 case atStart=>exact ⟨0,[],Nat.zero_le _,rfl,⟨rfl,rfl⟩,HN0⟩
 case round=>
  obtain ⟨k,cs,hkl,rfl,HCS,HNW⟩:=hrel
  by_cases hk:k<l.length
  ·have hd:decide ((k:Int)<(l.length:Int))=true:=decide_eq_true (by omega)
   have hir:(k:Int)<(l.length:Int):=by omega
   obtain ⟨m,hmi⟩:∃m,l[k]?=some m:=⟨_,List.getElem?_eq_getElem hk⟩;obtain ⟨ba,oa,au,cu,ad,cd,rfl,hbl,x0',x1',x2',-,-,hru,-,-,hrd⟩:=zBz HL.o hmi;have hob:=HNW.o.old;have hbr:ba<wr.heap.size:=Nat.lt_of_lt_of_le hbl hob.size;have x0:=(hob.cell (p:=⟨ba,_,none⟩) hbl).trans x0';have x1:=(hob.cell (p:=⟨ba,_,none⟩) hbl).trans x1';have x2:=(hob.cell (p:=⟨ba,_,none⟩) hbl).trans x2';obtain ⟨D,hD⟩:∃D,D=wr.heap.size:=⟨_,rfl⟩;obtain ⟨W1,hW1⟩:∃W1,W1=wr.alloc (.cells (mA m au cu ad cd) 52):=⟨_,rfl⟩
   have hq1:Bw wr W1:=by rw [hW1];exact zAa _ _
   have hbx:CBox W1 D 52 (mA m au cu ad cd):=by rw [hW1,hD];exact CBox.new _ _ _
   have HN1:=lH (HNW.o.below hq1);have HX:=lH hbx;have HMI:=lH hmi;have hsm:=HZ.o.mods m (List.mem_of_getElem? hmi);have HSM:=lH hsm;have hul:m.uses.length≤1000000:=by have:=hsm.ulen;have:=HN.o;omega
   have hdl:m.decls.length≤1000000:=by have:=hsm.dlen;have:=HN.o;omega
   clear x0' x1' x2' hob hq1 hbx hmi hsm;go_upto_region 8 with (fail)
   rw [←hW1,←hD];have HD:=lH hD;clear hW1 hD x0 x1 x2;have hbD:Bw W1 W1.drew:=(Mod.refl [] W1).drew.below;have SW:Hid (∀W:World,Bw W1 W→(W.cell? ⟨D,0,none⟩=some (.string m.label)∧W.cell? ⟨D,1,none⟩=some (.slice au m.uses.length cu)∧W.cell? ⟨D,2,none⟩=some (.slice ad m.decls.length cd)∧D<W.heap.size)):=fun W hW=>⟨(HX.o.below hW).cell (i:=0) (v:=.string m.label) rfl,(HX.o.below hW).cell (i:=1) (v:=.slice au m.uses.length cu) rfl,(HX.o.below hW).cell (i:=2) (v:=.slice ad m.decls.length cd) rfl,(HX.o.below hW).lt⟩
   refine wp_region_noPanic (zBe (fun W:World=>W.cell? ⟨D,0,none⟩=some (.string m.label)∧W.cell? ⟨D,1,none⟩=some (.slice au m.uses.length cu)∧W.cell? ⟨D,2,none⟩=some (.slice ad m.decls.length cd)∧D<W.heap.size) 12 [(true,0),(true,1),(true,2),(true,3),(true,4),(true,5),(true,7),(true,8),(false,6),(false,9),(true,10),(true,11)] zBm (by kernel_rfl) (fun _ _ _ _ _ h=>h) (SW.o _ hbD) ?_)
   iterate 8 (refine zAy (v:=?_) rfl (by rfl) ?_ ?_;rotate_left;(focus (intro wq hSw;(try dsimp only at hSw);go_simp;(try rw [if_neg (by first|omega|(simp;omega))]);(try with_reducible rfl)));(try simp only [gA,gB,gC,Act.put,gD,gE,gF]))
   (refine zBo rfl (by rfl) (fun K hK=>?_);go_simp)
   refine (zCx m.uses au cu W1.drew (zAg.1 (hru.out.below (zA HN1.o.old hbD))).1 hul).mono ?_;rintro r W2 ⟨vu,rfl,hou,hb2⟩;have hb2':=zA hbD hb2;have HOU:=lH hou;have HS2:Hid (W1.heap.size≤W1.drew.heap.size):=hbD.size;have HB2:=lH hb2';refine hK.out _ _ (SW.o _ hb2') ?_;clear hK K hou hb2 hb2' hbD
   (try simp only [gA,gB,gC,Act.put,gD,gE,gF])
   (refine zBo rfl (by rfl) (fun K hK=>?_);go_simp)
   refine (zZ w m.decls ad cd W2 hrd.out (zA HN1.o.old HB2.o) hdl).mono ?_;rintro r W3 ⟨vd,xs,rfl,hod,hrx,hb3⟩;have hb3':=zA HB2.o hb3;have HOD:=lH hod;have HRX:=lH hrx;have HOU3:=lH (zAq HOU.o hb3);have HB3:=lH hb3';refine hK.out _ _ (SW.o _ hb3') ?_;clear hK K hod hrx hb3 hb3' HOU
   (try simp only [gA,gB,gC,Act.put,gD,gE,gF])
   obtain ⟨vua,vuc,rfl⟩:=zAk HOU3.o;obtain ⟨vda,vdc,rfl⟩:=zAk HOD.o
   iterate 2 (refine zAy (v:=?_) rfl (by rfl) ?_ ?_;rotate_left;(focus (intro wq hSw;(try dsimp only at hSw);go_simp;(try rw [if_neg (by first|omega|(simp;omega))]);(try with_reducible rfl)));(try simp only [gA,gB,gC,Act.put,gD,gE,gF]))
   refine zBy ?_;have hglt:g<W3.heap.size:=Nat.lt_of_lt_of_le (HN1.o.lo g (zBd.2 rfl)).2 HB3.o.size;have hml:(cs++List.replicate (l.length - k) noMV).length=l.length:=by rw [List.length_append,List.length_replicate,HCS.o.1];omega
   have hp3:NowR w W3 [] (.slice (some ⟨g,0,none⟩) (cs++List.replicate (l.length - k) noMV).length l.length) (cs++List.replicate (l.length - k) noMV):=by rw [hml];exact HN1.o.below HB3.o
   have hx3:MR w W3 ⟨m,.slice vua m.uses.length vuc,.slice vda m.decls.length vdc⟩:=⟨zMt HOU3.o (Nat.le_trans (zA HN1.o.old (Mod.refl [] W1).drew.below).size (Nat.le_refl _)),_,zMt HOD.o (zA HN1.o.old HB2.o).size,HRX.o⟩;have hput:=hp3.put (i:=k) (by rw [hml];exact hk) _ hx3 (fun p hp=>zSl (HN1.o.mr p hp) (fun b' hb'=>Nat.le_trans HS2.o (HOU3.o.lt b' (zBd.1 hb')).1) (fun b' hb'=>Nat.le_trans HB2.o.size (HOD.o.lt b' (zBd.1 hb')).1));rw [hml] at hput
   have hset:(cs++List.replicate (l.length - k) noMV).set k ⟨m,.slice vua m.uses.length vuc,.slice vda m.decls.length vdc⟩=(cs++[⟨m,.slice vua m.uses.length vuc,.slice vda m.decls.length vdc⟩])++List.replicate (l.length - (k+1)) noMV:=by
    rw [List.set_append_right _ _ (by rw [HCS.o.1];exact Nat.le_refl _),HCS.o.1,Nat.sub_self,show l.length - k=(l.length - (k+1))+1 by omega,List.replicate_succ,List.set_cons_zero,List.append_assoc];rfl
   rw [hset] at hput;have HPUT:=lH hput;obtain ⟨g',c',hv',hat,-,-⟩:=hp3.at_ (i:=k) (x:=noMV) (by rw [List.getElem?_append_right (by rw [HCS.o.1];exact Nat.le_refl _),HCS.o.1,Nat.sub_self,List.getElem?_replicate,if_pos (by omega)])
   injection hv' with e1 e2 e3
   injection e1 with e1
   injection e1 with e1
   subst e1;have y0:=hat.c0;have y1:=hat.c1;have y2:=hat.c2;have f0:=hp3.frz (k * 3);have f1:=hp3.frz (k * 3+1);have f2:=hp3.frz (k * 3+2);clear hat e2 e3
   have HCS2:Hid ((cs++[(⟨m,.slice vua m.uses.length vuc,.slice vda m.decls.length vdc⟩:MV)]).length=k+1∧(cs++[(⟨m,.slice vua m.uses.length vuc,.slice vda m.decls.length vdc⟩:MV)]).map MV.m=l.take (k+1)):=by
    show _∧_
    rw [List.length_append,HCS.o.1,List.map_append,HCS.o.2,zDy HMI.o];exact ⟨rfl,rfl⟩
   clear hml hp3 hx3 hput hset;go_wp2;refine NoPanic.normal ?_;go_wp2;go_roundw
   case rel=>exact ⟨k+1,_,by omega,by go_num,HCS2,HPUT⟩
   case measure=>simp [intOf];omega
  ·have hd:decide ((k:Int)<(l.length:Int))=false:=decide_eq_false (by omega)
   obtain rfl:k=l.length:=by omega
   have HMS:Hid (cs.map MV.m=l):=by show _=_;rw [HCS.o.2,List.take_length]
   have hN5:=HNW.o;rw [Nat.sub_self,List.replicate_zero,List.append_nil] at hN5;have HN5:=lH hN5;have HEF:=lH (zSj wr);clear hk HCS HNW hN5 HN0 hmk;go_wp2_with (fail)
   refine HEF.o.mono ?_;rintro r w6 ⟨M,s,rfl,hem,hb6⟩;have HEM:=lH hem
   have HN6:=lH ((HN5.o.later (Z:=zB M s) (fun z hz=>by
    unfold zB at hz;simp only [List.mem_cons,List.not_mem_nil,or_false] at hz
    rcases hz with rfl|rfl|rfl|rfl|rfl
    ·exact hem.lo.1
    ·exact hem.lo.2 0 (by omega)
    ·exact hem.lo.2 1 (by omega)
    ·exact hem.lo.2 2 (by omega)
    ·exact hem.lo.2 3 (by omega))).below hb6)
   generalize wr.heap.size=B0 at *;have HSRT:Hid (Srt l):=yEx HT.o;clear hem hb6 HN5 HEF;obtain ⟨T,hT⟩:∃T,runL l es=T:=⟨_,rfl⟩;have HTT:=lH hT;clear hT;go_wp2
   go_loopw [46,7] (fun iv vv wr=>∃(i:Nat) (ms:List MV),i≤es.length∧iv=.int .i64 i∧Hid (T=runL (ms.map MV.m) (es.drop i))∧Hid (NowR w wr (zB M s) vv ms)∧Hid (EffMap wr B0 M s)∧Hid (Srt (ms.map MV.m))∧Hid (SzL (n+i) (ms.map MV.m))) (fun iv _ _=>es.length - (intOf iv).toNat)
   case atStart=>exact ⟨0,cs,Nat.zero_le _,rfl,by show _=_;rw [HMS.o,List.drop_zero];exact HTT.o.symm,HN6,HEM,by show Srt _;rw [HMS.o];exact HSRT.o,by show SzL _ _;rw [HMS.o];exact HZ.o⟩
   case round=>
    obtain ⟨i,ms,hil,rfl,HI,HNI,HEI,HSI,HZI⟩:=hrel
    by_cases hi:i<es.length
    ·have hd2:decide ((i:Int)<(es.length:Int))=true:=decide_eq_true (by omega)
     have hir:(i:Int)<(es.length:Int):=by omega
     obtain ⟨e,hei⟩:∃e,es[i]?=some e:=⟨_,List.getElem?_eq_getElem hi⟩;obtain ⟨be,oe,ao,co,af,cf,rfl,hbl,x0',x1',x2',x3',x4',HED⟩:=zIc HES.o hei;have hob:=HNI.o.old;have hbr:be<wr.heap.size:=Nat.lt_of_lt_of_le hbl hob.size;have x0:=(hob.cell (p:=⟨be,_,none⟩) hbl).trans x0';have x1:=(hob.cell (p:=⟨be,_,none⟩) hbl).trans x1';have x2:=(hob.cell (p:=⟨be,_,none⟩) hbl).trans x2';have x3:=(hob.cell (p:=⟨be,_,none⟩) hbl).trans x3';have x4:=(hob.cell (p:=⟨be,_,none⟩) hbl).trans x4'
     have HNX:Hid (T=if editErr e=0 then (if (oneL (ms.map MV.m) e).2=0 then runL (oneL (ms.map MV.m) e).1 (es.drop (i+1)) else oneL (ms.map MV.m) e) else (ms.map MV.m,editErr e)):=by show _=_;rw [HI.o,yBz hei];rfl
     have HSEF:=lH (HSE.o e (List.mem_of_getElem? hei));have HKE:=lH (H78.o e (List.mem_of_getElem? hei));obtain ⟨D,hD⟩:∃D,D=wr.heap.size:=⟨_,rfl⟩;obtain ⟨W1,hW1⟩:∃W1,W1=wr.alloc (.cells #[.int .i64 e.kind,.string e.pack,.string e.text,.slice ao e.old.length co,.slice af e.fresh.length cf] 39):=⟨_,rfl⟩;have hq1:Bw wr W1:=by rw [hW1];exact zAa _ _
     have hbx:CBox W1 D 39 #[.int .i64 e.kind,.string e.pack,.string e.text,.slice ao e.old.length co,.slice af e.fresh.length cf]:=by rw [hW1,hD];exact CBox.new _ _ _
     have HN1:=lH (HNI.o.below hq1);have HE1:=lH (HEI.o.below hq1);have HX:=lH hbx;have z0:=hbx.cell (i:=0) (v:=.int .i64 e.kind) rfl;have z1:=hbx.cell (i:=1) (v:=.string e.pack) rfl;have z2:=hbx.cell (i:=2) (v:=.string e.text) rfl;have z3:=hbx.cell (i:=3) (v:=.slice ao e.old.length co) rfl;have z4:=hbx.cell (i:=4) (v:=.slice af e.fresh.length cf) rfl;have zl:=hbx.lt;have HCK:=lH (zMl e ao co af cf W1 (HED.o.below HN1.o.old) HSEF.o);obtain ⟨q,hq⟩:∃q,editErr e=q:=⟨_,rfl⟩;rw [hq] at HCK HNX
     have HQ:=lH hq;clear hei x0' x1' x2' x3' x4' hob hq1 hbx hq HI HNI HEI;go_upto_region 14 with (fail)
     rw [←hW1,←hD];clear hW1 hD x0 x1 x2 x3 x4;unfold editV at HCK;go_wp2_with (fail)
     refine HCK.o.mono ?_;rintro r W2 ⟨rfl,hb2⟩;have HB2:=lH hb2;have HN2:=lH (HN1.o.below hb2);have HE2:=lH (HE1.o.below hb2);have HX2:=lH (HX.o.below hb2);clear z0 z1 z2 z3 z4 zl hb2 HCK HN1 HE1 HX
     by_cases h0:q=0
     rotate_left
     ·have q3:(q==0)=false:=by simp [h0]
      have q4:(q != 0)=true:=by simp [h0]
      rw [if_neg h0] at HNX;have HE:Hid (appR l es=([],q)):=by show _=_;rw [zTz HT.o (by rw [HTT.o,HNX.o];exact h0),HTT.o,HNX.o]
      clear h0;go_wp2;go_ret2;exact zOf HE.o HN2.o.old
     subst h0;have HSEI:=lH (zYw HSEF.o HQ.o);rw [if_pos rfl] at HNX;have z0:=HX2.o.cell (i:=0) (v:=.int .i64 e.kind) rfl;have z1:=HX2.o.cell (i:=1) (v:=.string e.pack) rfl;have z2:=HX2.o.cell (i:=2) (v:=.string e.text) rfl;have z3:=HX2.o.cell (i:=3) (v:=.slice ao e.old.length co) rfl;have z4:=HX2.o.cell (i:=4) (v:=.slice af e.fresh.length cf) rfl;have zl:=HX2.o.lt;obtain ⟨av,cv,rfl⟩:=zAk HN2.o.own
     have HAP:=lH (zOg w W2 B0 M s _ ms e ao co af cf (n+i) HN2.o HE2.o HED.o HQ.o HSI.o HZI.o (by have:=HN.o;omega) HSEI.o HKE.o);unfold editV at HAP;go_wp2_with (fail)
     refine HAP.o.mono ?_;rintro r W3 ⟨v',rfl,hb3,hok⟩;have HB3:=lH hb3;have HOK:=lH hok;have HONE:=lH (yBm HSI.o (e:=e) (zBt HQ.o).1.1 (zBt HQ.o).1.2);have HZ3:=lH (HZI.o.step HSEI.o HQ.o);clear hb3 hok HAP z0 z1 z2 z3 z4 zl HX2;obtain ⟨p,hp⟩:∃p,oneL (ms.map MV.m) e=p:=⟨_,rfl⟩;rw [hp] at HNX HOK HONE HZ3;rw [hp];clear hp;obtain ⟨L2,E2⟩:=p;simp only at HNX HOK HONE HZ3 ⊢
     by_cases h2:E2=0
     ·subst h2
      have HNX2:Hid (T=runL L2 (es.drop (i+1))):=by show _=_;rw [HNX.o,if_pos rfl]
      have HS3:Hid (Srt L2):=by
       rcases HONE.o with ⟨-,k,-⟩|⟨k,-⟩
       ·exact k
       ·exact absurd rfl k
      obtain ⟨ms',hm',hn',he'⟩:=HOK.o rfl;subst hm';have HNE:=lH hn';have HEE:=lH he';clear hn' he' HOK HONE HNX;go_wp2;go_roundw
      case rel=>exact ⟨i+1,ms',by omega,by go_num,HNX2,HNE,HEE,HS3,HZ3⟩
      case measure=>simp [intOf];omega
     ·have q4:(E2 != 0)=true:=by simp [h2]
      have HNX2:Hid (T=(L2,E2)):=by show _=_;rw [HNX.o,if_neg h2]
      have HE:Hid (appR l es=([],E2)):=by show _=_;rw [zTz HT.o (by rw [HTT.o,HNX2.o];exact h2),HTT.o,HNX2.o]
      clear h2 HOK HONE HNX;go_wp2;go_ret2;exact zOf HE.o HB3.o
    ·have hd2:decide ((i:Int)<(es.length:Int))=false:=decide_eq_false (by omega)
     obtain rfl:i=es.length:=by omega
     have HRUN:Hid (runL l es=(ms.map MV.m,0)):=by show _=_;rw [HTT.o,HI.o,List.drop_length];rfl
     obtain ⟨av,cv,hv⟩:=zAk HNI.o.own;subst hv;have hlm:(ms.map MV.m).length=ms.length:=List.length_map ..;have hRD:=HNI.o.reads;have HCE:=lH (zHk (ms.map MV.m) av cv wr (by rw [hlm];exact hRD) (fun m hm=>(HZI.o.mods m hm).sm (by have:=HN.o;omega)) (by have:=HZI.o.len;have:=HN.o;omega));rw [hlm] at HCE;have HRD:=lH hRD;obtain ⟨q,hq⟩:∃q,testErr (ms.map MV.m)=q:=⟨_,rfl⟩;rw [hq] at HCE;have HQ:=lH hq;clear hi hlm hRD hq;go_wp2_with (fail)
     refine HCE.o.mono ?_;rintro r W2 ⟨rfl,hb2⟩;have HB2:=lH (zA HNI.o.old hb2);have HR2:=lH (HRD.o.below hb2);clear hb2 HCE
     by_cases h0:q=0
     ·have HE:=lH (zZc HT.o HRUN.o (by rw [HQ.o];exact h0))
      have q4:(q != 0)=false:=by simp [h0]
      clear h0;go_wp2;go_ret2;exact yBy HE.o HR2.o HB2.o
     ·have HE:Hid (appR l es=([],q)):=by show _=_;rw [zZb HT.o HRUN.o (by rw [HQ.o];exact h0),HQ.o]
      have q4:(q != 0)=true:=by simp [h0]
      clear h0;go_wp2;go_ret2;exact zOf HE.o HB2.o
end Go.Proofs.YtfkjfdbjhlmjcaaGreatDoor
