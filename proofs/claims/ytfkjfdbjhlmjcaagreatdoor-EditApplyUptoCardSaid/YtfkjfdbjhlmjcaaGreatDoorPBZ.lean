/- Reference 34: One, where a module is changed. Reference 34: Apply. -/
import Derived.Test.YtfkjfdbjhlmjcaaGreatDoorPBX
import Derived.Test.YtfkjfdbjhlmjcaaGreatDoorPBP
import Derived.Test.YtfkjfdbjhlmjcaaGreatDoorPBV
import Derived.Test.YtfkjfdbjhlmjcaaGreatDoorPW1
import Derived.Test.YtfkjfdbjhlmjcaaGreatDoorPBL
namespace Go.Proofs.YtfkjfdbjhlmjcaaGreatDoor
open Go.RowKit Go.Shelf
attribute [local go_sem] Oper.semAt_some
theorem Mod.grow {X:List Nat} {a b c:World} (h:Mod X a b) {row:Option Nat} (g:b.grownBy c row) (hr:∀k,row=some k→k∈X∨a.heap.size≤k):Mod X a c:=
 ⟨g.os.trans h.os,g.tape.trans h.tape,g.output.trans h.output,Nat.le_trans h.size g.size,fun i hi hx=>(g.block i (Nat.lt_of_lt_of_le hi h.size) (fun e=>by
  rcases hr i e.symm with q|q
  ·exact hx q
  ·omega)).trans (h.block i hi hx)⟩
theorem zIi {W:World} {l:List OMod} {p:Nat} {m:OMod} (hp:p<l.length) {A B C:List Value} (h1:ReadsL W [] ((l.take p).flatMap modT) A) (h2:ReadsL W [] ([m].flatMap modT) B) (h3:ReadsL W [] ((l.drop (p+1)).flatMap modT) C) :
    ReadsL W [] ((l.set p m).flatMap modT) (A++B++C):=by
  have e:l.set p m=l.take p++[m]++l.drop (p+1):=by rw [List.set_eq_take_append_cons_drop,if_pos hp];simp
  rw [e,List.flatMap_append,List.flatMap_append]
  exact ReadsL.append h3 (ReadsL.append h2 h1)
set_option maxRecDepth 100000 in
set_option maxHeartbeats 8000000 in
theorem yAl (l:List OMod) (a:Option Addr) (c:Nat) (e:OEdit) (ao:Option Addr) (co:Nat) (af:Option Addr) (cf n:Nat) (w:World) (hl:Reads w [] (modsT l) (.slice a l.length c)) (hs:Srt l) (hz:SzL n l) (hn:n≤40000) (hk3:3≤e.kind) (hed:EditIn w e ao co af cf) (hf5:e.kind=5→e.fresh.length=1) (ho6:6≤e.kind→e.old.length=1) (hf7:7≤e.kind→e.fresh.length=1) :
  Calls Tryz.prog 36 #[.slice a l.length c,editV e ao co af cf] w fun r w'=>OneRef w l e r w':=by
 obtain ⟨_,_,hva,hc1,hc2⟩:=zDc hl
 cases hva
 have hll:l.length≤40000:=Nat.le_trans hz.len hn;obtain ⟨E,hE⟩:∃E,E=w.heap.size:=⟨_,rfl⟩;obtain ⟨W0,hW0⟩:∃W0,W0=w.alloc (.cells #[.int .i64 e.kind,.string e.pack,.string e.text,.slice ao e.old.length co,.slice af e.fresh.length cf] 39):=⟨_,rfl⟩;have hb0:Bw w W0:=by rw [hW0];exact zAb _ _
 have hx:CBox W0 E 39 #[.int .i64 e.kind,.string e.pack,.string e.text,.slice ao e.old.length co,.slice af e.fresh.length cf]:=by rw [hW0,hE];exact CBox.new _ _ _
 have HL:=lH hl;have HS:=lH hs;have HZ:=lH hz;have HN:=lH hn;have HB0:=lH hb0;have HX:=lH hx;have HEW:Hid (w.heap.size≤E):=by show _≤_;omega
 have HC:=lH (zL l a c e.pack W0 (hl.below hb0) hs.labels (by omega));have e0:=HX.o.cell (i:=0) (v:=.int .i64 e.kind) rfl;have e1:=HX.o.cell (i:=1) (v:=.string e.pack) rfl;have e2:=HX.o.cell (i:=2) (v:=.string e.text) rfl;have e3:=HX.o.cell (i:=3) (v:=.slice ao e.old.length co) rfl;have e4:=HX.o.cell (i:=4) (v:=.slice af e.fresh.length cf) rfl;have el:=HX.o.lt;have HED:=lH hed;have HQ1:Hid (e.kind≠1):=by show _≠_;omega
 have HQ2:Hid (e.kind≠2):=by show _≠_;omega
 have HK3:=lH hk3;have HV5:=lH hf5;have HV6:=lH ho6;have HV7:=lH hf7;have q1:(e.kind==1)=false:=beq_false_of_ne HQ1.o;have q2:(e.kind==2)=false:=beq_false_of_ne HQ2.o;clear hk3 hed hf5 ho6 hf7;clear hl hs hz hb0 hx;unfold editV
 go_enter Tryz.func36,Tryz.ntmps36
 go_upto_region 1 with (fail)
 rw [←hW0,←hE];clear hW0 hE;go_wp2_with (fail)
 refine HC.o.mono ?_;rintro r W1 ⟨rfl,hb1⟩;have HB1:=lH hb1;clear e0 e1 e2 e3 e4 el HC;have e0:=(HX.o.below hb1).cell (i:=0) (v:=.int .i64 e.kind) rfl;have e1:=(HX.o.below hb1).cell (i:=1) (v:=.string e.pack) rfl;have e2:=(HX.o.below hb1).cell (i:=2) (v:=.string e.text) rfl;have e3:=(HX.o.below hb1).cell (i:=3) (v:=.slice ao e.old.length co) rfl;have e4:=(HX.o.below hb1).cell (i:=4) (v:=.slice af e.fresh.length cf) rfl;have el:=(HX.o.below hb1).lt;clear hb1;have HBW:=lH (zA HB0.o HB1.o)
 rcases zAu zGj HS.o.labels e.pack with ⟨m,H⟩|H
 rotate_left
 ·have HE:Hid (oneL l e=(l,8)):=by show _=_;unfold oneL;rw [H.look];simp [HQ1.o]
  rw [H.look];simp only [Option.isSome_none]
  clear H;generalize plc ltB OMod.label l e.pack=p at *
  skip
  go_wp2;go_ret2;exact zCw HE.o (HL.o.below HBW.o) HBW.o
 have HE:Hid (oneL l e=(l.set (plc ltB OMod.label l e.pack) (inMod m e).1,(inMod m e).2)):=by show _=_;unfold oneL;rw [H.look];simp [HQ1.o,HQ2.o]
 have hpl:=H.le;have hpm:=H.elt;rw [H.look];simp only [Option.isSome_some]
 clear H;generalize plc ltB OMod.label l e.pack=p at *;obtain ⟨b,o,au,cu,ad,cd,rfl,hbl,x0',x1',x2',q1,q2,hru,q3,q4,hrd⟩:=zBh HL.o hpm;have HSM:=lH (HZ.o.mods m (List.mem_of_getElem? hpm));have HMM:=lH (HS.o.mods m (List.mem_of_getElem? hpm));have HBL:=lH hbl;have HX0:=lH x0';have HX1:=lH x1';have HX2:=lH x2';obtain ⟨A,C0,hA,-,hpre,-⟩:=zHr HL.o p;obtain ⟨A0,CC,-,hC,-,hsuf⟩:=zHr HL.o (p+1);have hrow:=(hpre (by omega)).below (zA HBW.o (zAb W1 (.cells #[] 52)))
 have HSUF:Hid (∀W,Bw w W→∀a',(∀b' o',p+1<l.length→(some ⟨b,o,none⟩:Option Addr)=some ⟨b',o',none⟩→a'=some ⟨b',o'+(p+1) * 3,none⟩)→IsRow W 3 (.slice a' (l.length - (p+1)) (c - (p+1))) (l.length - (p+1)) CC):=fun W hW a' ha=>(hsuf a' (by omega) ha).below hW;have HRA:=lH hA;have HRC:=lH hC;have HO1:=lH (zCs hA);have HO2:=lH (zCs hC);obtain ⟨i0,z,hi,hz0,hzs,hz1,hz2⟩:=zAn zFd;have hpc:(p:Int)≤(c:Int):=by omega
 have hpi:(p:Int)<(l.length:Int):=by omega
 have hpi':(p:Int)≤(l.length:Int):=by omega
 have hw2:((p:Int)).toNat=p:=by omega
 have hw3:(0:Int)≤(p:Int):=by omega
 have hN0:(W1.alloc (.cells #[] 52)).ownsRow W1.heap.size 52 3 (.slice (some ⟨W1.heap.size,0,none⟩) 0 0) 0 []:=World.ownsRow_made _ #[] 0 (Nat.le_refl _) (Nat.zero_le _) rfl;have hq5:=zAb W1 (.cells #[] 52);clear hA hC hpre hsuf x0' x1' x2' hbl hpm q1 q2 q3 q4
 skip
 go_wp2_with (at_builtin;refine zAa rfl _ _ 22 rfl W1.heap.size 52 i0 _ 3 64 Tryz.underlying22 hi hz0 hz1 hz2 hzs (by decide) _ _ _ rfl hN0 _ _ _ rfl hrow HO1.o (by unfold maxLen;omega) (by omega) (by simp) ?_)
 intro v4 W4 hown4 hg4 hbq
 (try simp only [Nat.zero_add,List.nil_append] at hown4)
 obtain ⟨va4,vc4,rfl⟩:=zAe hown4;have HQ4:Hid (Bw W1 W4):=hq5.grown hg4 (by simp) (fun k hk=>by cases hk;exact Nat.le_refl _);have HO4:=lH hown4;have HB4:=lH (zA HB1.o HQ4.o);have HBW4:=lH (zA HB0.o HB4.o);clear e0 e1 e2 e3 e4 el hown4 hg4 hbq hN0 hq5 hrow;have e0:=(HX.o.below HB4.o).cell (i:=0) (v:=.int .i64 e.kind) rfl;have e1:=(HX.o.below HB4.o).cell (i:=1) (v:=.string e.pack) rfl;have e2:=(HX.o.below HB4.o).cell (i:=2) (v:=.string e.text) rfl
 have e3:=(HX.o.below HB4.o).cell (i:=3) (v:=.slice ao e.old.length co) rfl;have e4:=(HX.o.below HB4.o).cell (i:=4) (v:=.slice af e.fresh.length cf) rfl;have el:=(HX.o.below HB4.o).lt;have y0:=(HBW4.o.cell (p:=⟨b,_,none⟩) HBL.o).trans HX0.o;have y1:=(HBW4.o.cell (p:=⟨b,_,none⟩) HBL.o).trans HX1.o;have y2:=(HBW4.o.cell (p:=⟨b,_,none⟩) HBL.o).trans HX2.o;have gl:b<W4.heap.size:=Nat.lt_of_lt_of_le HBL.o HBW4.o.size;obtain ⟨C,hC⟩:∃C,C=W4.heap.size:=⟨_,rfl⟩
 obtain ⟨W5,hW5⟩:∃W5,W5=W4.alloc (.cells (mA m au cu ad cd) 52):=⟨_,rfl⟩;have HQ5:Hid (Bw W4 W5):=by show RowKit.Below _ _ _;rw [hW5];exact zAb _ _
 have HC5:Hid (CBox W5 C 52 (mA m au cu ad cd)):=by show CBox _ _ _ _;rw [hW5,hC];exact CBox.new _ _ _
 have HB5:=lH (zA HB4.o HQ5.o);have HBW5:=lH (zA HB0.o HB5.o);have HNC:Hid (W4.heap.size≤C):=by show _≤_;omega
 have HNE:Hid (E<C):=by show _<_;have:=(HX.o.below HB4.o).lt;omega
 have HVA:Hid (∀b,(Value.slice va4 p vc4).ownBlock=some b→b∉[C]):=fun b hb c=>by have:=(HO4.o.lt b hb).2;simp at c;omega
 skip
 go_upto_region 11 with (fail)
 rw [←hW5,←hC];clear hW5 hC y0 y1 y2 gl;clear e0 e1 e2 e3 e4 el;have e0:=(HX.o.below HB5.o).cell (i:=0) (v:=.int .i64 e.kind) rfl;have e1:=(HX.o.below HB5.o).cell (i:=1) (v:=.string e.pack) rfl;have e2:=(HX.o.below HB5.o).cell (i:=2) (v:=.string e.text) rfl;have e3:=(HX.o.below HB5.o).cell (i:=3) (v:=.slice ao e.old.length co) rfl;have e4:=(HX.o.below HB5.o).cell (i:=4) (v:=.slice af e.fresh.length cf) rfl;have el:=(HX.o.below HB5.o).lt
 skip
 have c0:=HC5.o.cell (i:=0) (v:=.string m.label) rfl;have cl:=HC5.o.lt;have hp1:(p:Int)+1≤(l.length:Int):=by omega
 have hp2:(p:Int)+1≤(c:Int):=by omega
 have hp3:p+1≤l.length:=by omega
 have hw4:IntKind.i64.wrap ((p:Int)+1)=(p:Int)+1:=IntWalk.i64_in _ (by omega);have hw5:((p:Int)+1).toNat=p+1:=by omega
 have hw6:(0:Int)≤(p:Int)+1:=by omega
 have c1:=HC5.o.cell (i:=1) (v:=.slice au m.uses.length cu) rfl;have c2:=HC5.o.cell (i:=2) (v:=.slice ad m.decls.length cd) rfl;have cf0:=HC5.o.frozen 0;have cf1:=HC5.o.frozen 1;have cf2:=HC5.o.frozen 2
 obtain ⟨kk,hk1,hk2,hk3⟩:∃kk,W1.heap.size≤kk∧kk<W5.heap.size∧∀b,(Value.slice va4 p vc4).ownBlock=some b→b=kk:=by
  have hs1:=HB5.o.size;have hs2:=HQ5.o.size;have hs3:=HQ4.o.size
  rcases Option.eq_none_or_eq_some (Value.slice va4 p vc4).ownBlock with hv|⟨b,hv⟩
  ·exact ⟨C,Nat.le_trans hs3 HNC.o,cl,fun b hb=>by rw [hv] at hb;cases hb⟩
  ·exact ⟨b,(HO4.o.lt b hv).1,Nat.lt_of_lt_of_le (HO4.o.lt b hv).2 hs2,fun b' hb=>by rw [hv] at hb;exact (Option.some.inj hb).symm⟩
 have hwk:w.heap.size≤kk:=Nat.le_trans HBW.o.size hk1;have hwc:w.heap.size≤C:=Nat.le_trans HBW4.o.size HNC.o;have HKK:=lH hk3;have HWX:Hid (∀k,k∈[C,kk]→w.heap.size≤k):=fun k hk=>by simp at hk;omega
 have HXL:Hid (∀k,k∈[C,kk]→k<W5.heap.size):=fun k hk=>by simp at hk;omega
 have HRU:Hid (Reads W5 [C,kk] (strsT m.uses) (.slice au m.uses.length cu)):=(Reads.more hwc (Reads.more hwk hru.out)).below HBW5.o;have HRD:Hid (Reads W5 [C,kk] (declsT m.decls) (.slice ad m.decls.length cd)):=(Reads.more hwc (Reads.more hwk hrd.out)).below HBW5.o;have HRF:Hid (Reads W5 [C,kk] (declsT e.fresh) (.slice af e.fresh.length cf)):=(Reads.more hwc (Reads.more hwk HED.o.fresh)).below HBW5.o;have hul:m.uses.length≤40000:=Nat.le_trans HSM.o.ulen HN.o;have hdl:m.decls.length≤40000:=Nat.le_trans HSM.o.dlen HN.o
 have HUSE:Hid (e.kind=3∨e.kind=4→Calls Tryz.prog 85 #[.agg #[.string m.label,.slice au m.uses.length cu,.slice ad m.decls.length cd],editV e ao co af cf] W5 fun r w'=>∃v,r=.returned (.tuple #[v,.int .i64 (inMod m e).2])∧ModR w' [C,kk] (inMod m e).1 v∧Bw W5 w'):=fun h=>zZv [C,kk] m _ _ e ao co af cf W5 HRU.o HRD.o HXL.o HMM.o h hul
 have HDEC:Hid (5≤e.kind→Calls Tryz.prog 86 #[.agg #[.string m.label,.slice au m.uses.length cu,.slice ad m.decls.length cd],editV e ao co af cf] W5 fun r w'=>∃v,r=.returned (.tuple #[v,.int .i64 (inMod m e).2])∧ModR w' [C,kk] (inMod m e).1 v∧Bw W5 w'):=fun h=>by
  by_cases h5:e.kind=5
  ·exact zUe [C,kk] m _ _ e ao co af cf W5 HRU.o HRD.o HRF.o HXL.o HMM.o h5 (HV5.o h5) hdl
  ·exact zUf [C,kk] m _ _ e ao co af cf W5 HRU.o HRD.o HRF.o HXL.o (HED.o.below HBW5.o) HMM.o (by omega) (HV6.o (by omega)) HV7.o hdl (fun d hd=>⟨(HSM.o.decls d hd).sm.len,(HSM.o.decls d hd).nodes⟩)
 clear hk1 hk2 hk3 hwk hwc HRU HRD HRF hru hrd;unfold editV at HUSE HDEC;generalize inMod m e=R at *
 by_cases h3:e.kind=3
 ·have HCALL:=lH (HUSE.o (.inl h3))
  have q3:(e.kind==3)=true:=beq_iff_eq.2 h3;clear h3;clear HUSE HDEC;go_wp2_with (fail)
  refine HCALL.o.mono ?_;rintro r W6 ⟨v,rfl,⟨u',d',rfl,hu',hd'⟩,hb6⟩;clear e0 e1 e2 e3 e4 el c0 c1 c2 cf0 cf1 cf2 cl HCALL;obtain ⟨ua,uc,rfl,-⟩:=(zAf.1 hu').1.shape;obtain ⟨da,dc,rfl,-,-⟩:=zBn hd';have h6:=HC5.o.below hb6;obtain ⟨c0,c1,c2,cl⟩:=zAp h6;obtain ⟨cf0,cf1,cf2⟩:=zAx h6;have HC6:=lH h6;have HB6:=lH (zA HB5.o hb6);have HBW6:=lH (zA HBW5.o hb6);have HO6:=lH (zAg (zAg HO4.o HQ5.o) hb6)
  have HMC:Hid (ReadsL W6 [C,kk] ([R.1].flatMap modT) [.string R.1.label,.slice ua R.1.uses.length uc,.slice da R.1.decls.length dc]):=by
   show ReadsL _ _ _ _
   rw [List.flatMap_cons,List.flatMap_nil,List.append_nil];exact ReadsL.cons (Reads.leaf' _ _ _) (ReadsL.cons hu' (ReadsL.cons hd' (ReadsL.nil _ _)))
  have HS16:Hid (W1.heap.size≤W6.heap.size):=Nat.le_trans HQ4.o.size (Nat.le_trans HQ5.o.size hb6.size);clear h6 hb6 hu' hd';go_upto_region 20 with (fail)
  obtain ⟨W7,hW7⟩:∃W7,W7=((W6.setCell ⟨C,0,none⟩ (.string R.1.label)).setCell ⟨C,1,none⟩ (.slice ua R.1.uses.length uc)).setCell ⟨C,2,none⟩ (.slice da R.1.decls.length dc):=⟨_,rfl⟩;have HC7:Hid (CBox W7 C 52 #[.string R.1.label,.slice ua R.1.uses.length uc,.slice da R.1.decls.length dc]):=by show CBox _ _ _ _;rw [hW7];exact zLk HC6.o _ _ _
  have HM7:Hid (Mod [C] W6 W7):=by show Mod _ _ _;rw [hW7];exact zLl _ _ _ _ _
  rw [←hW7];clear hW7 c0 c1 c2 cf0 cf1 cf2 cl;obtain ⟨c0,c1,c2,cl⟩:=zAp HC7.o;have hown:=zAg (zBm HO6.o HM7.o HVA.o) (zAb W7 (.cells #[.string R.1.label,.slice ua R.1.uses.length uc,.slice da R.1.decls.length dc] 52));have hrowD:=zAo (zEu W7 W7.heap.size (Nat.le_refl _) 52 #[.string R.1.label,.slice ua R.1.uses.length uc,.slice da R.1.decls.length dc] 3 1 rfl (by omega));have hone:=zCs HMC.o
  have hm8:=(Mod.mono HM7.o (fun k hk=>by simp at hk ⊢;exact .inl hk):Mod [C,kk] W6 W7).alloc (.cells #[.string R.1.label,.slice ua R.1.uses.length uc,.slice da R.1.decls.length dc] 52);have hs1:=HS16.o;have hsz:W1.heap.size≤(W7.alloc (.cells #[.string R.1.label,.slice ua R.1.uses.length uc,.slice da R.1.decls.length dc] 52)).heap.size:=Nat.le_trans hs1 hm8.size
  go_wp2_with (at_builtin;refine zAa rfl _ _ 22 rfl W1.heap.size 52 i0 _ 3 64 Tryz.underlying22 hi hz0 hz1 hz2 hzs (by decide) _ _ _ rfl hown _ _ _ rfl hrowD hone (by unfold maxLen;omega) (by omega) hsz ?_)
  intro v8 W8 hown8 hg8 hbq8;have HM8:=lH (Mod.grow hm8 hg8 (fun k hk=>.inl (by have:=HKK.o k hk;simp [this])))
  have HV8:Hid (∀b,v8.ownBlock=some b→b=kk∨W6.heap.size≤b):=fun b hb=>by
   rcases hbq8 with q|q
   ·exact .inl (HKK.o b (by rw [←q];exact hb))
   ·rw [q] at hb;have e1:=Option.some.inj hb;have e2:=hm8.size;have e3:=HM7.o.size;exact .inr (by omega)
  have hbw8:=HBW6.o.trans (HM8.o.upto HBW6.o.size HWX.o);have hsz8:=Nat.le_trans hs1 HM8.o.size;have HBW8:=lH hbw8;obtain ⟨va8,vc8,rfl⟩:=zAe hown8;have HO8:=lH hown8;clear hown hrowD hone hm8 hsz hg8 hbq8 hbw8 c0 c1 c2 cl hown8
  rcases Nat.eq_or_lt_of_le (show p+1≤c by omega) with hcp|hcp
  ·subst hcp
   have hsr:=HSUF.o W8 HBW8.o (some ⟨b,o,none⟩) (fun b o h _=>by omega);have h00:l.length - (p+1)=0:=by omega
   rw [Nat.sub_self,h00] at hsr;clear h00;have HL2:Hid (p+1+0=(l.set p R.1).length):=by show _=_;rw [List.length_set];omega
   go_wp2_with (at_builtin;refine zAa rfl _ _ 22 rfl W1.heap.size 52 i0 _ 3 64 Tryz.underlying22 hi hz0 hz1 hz2 hzs (by decide) _ _ _ rfl HO8.o _ _ _ rfl hsr HO2.o (by unfold maxLen;omega) (by omega) hsz8 ?_)
   intro v9 W9 hown9 hg9 hbq;have HL3:Hid (l.length=(l.set p R.1).length):=(List.length_set ..).symm
   first|replace hown9:=zCk hown9 HL2.o|replace hown9:=zCk hown9 HL3.o
   have HM9:=lH (Mod.grow HM8.o hg9 (fun k hk=>(HV8.o k hk).elim (fun q=>.inl (by simp [q])) .inr));have HBW9:=lH (HBW6.o.trans (HM9.o.upto HBW6.o.size HWX.o));have HRR:Hid (Reads W9 [] (modsT (l.set p R.1)) v9):=Reads.ofRow (zAo hown9) (fun _ b _=>by simp) (by have hq:=zIi hp3 (HRA.o.below HBW9.o) ((HMC.o.mod HM9.o).fewer (fun k hk=>by cases hk)) (HRC.o.below HBW9.o);rw [List.append_assoc] at hq;exact hq);clear hown9 hg9 hbq hsr;go_wp2;go_ret2;exact zCw HE.o HRR.o HBW9.o
  ·have hsr:=HSUF.o W8 HBW8.o (some ⟨b,o+(p+1) * 3,none⟩) (fun b' o' _ h=>by injection h with h;injection h with h1 h2;rw [h1,h2])
   have hcp2:¬c=p+1:=by omega
   have HL2:Hid (p+1+(l.length - (p+1))=(l.set p R.1).length):=by show _=_;rw [List.length_set];omega
   go_wp2_with (at_builtin;refine zAa rfl _ _ 22 rfl W1.heap.size 52 i0 _ 3 64 Tryz.underlying22 hi hz0 hz1 hz2 hzs (by decide) _ _ _ rfl HO8.o _ _ _ rfl hsr HO2.o (by unfold maxLen;omega) (by omega) hsz8 ?_)
   intro v9 W9 hown9 hg9 hbq;have HL3:Hid (l.length=(l.set p R.1).length):=(List.length_set ..).symm
   first|replace hown9:=zCk hown9 HL2.o|replace hown9:=zCk hown9 HL3.o
   have HM9:=lH (Mod.grow HM8.o hg9 (fun k hk=>(HV8.o k hk).elim (fun q=>.inl (by simp [q])) .inr));have HBW9:=lH (HBW6.o.trans (HM9.o.upto HBW6.o.size HWX.o));have HRR:Hid (Reads W9 [] (modsT (l.set p R.1)) v9):=Reads.ofRow (zAo hown9) (fun _ b _=>by simp) (by have hq:=zIi hp3 (HRA.o.below HBW9.o) ((HMC.o.mod HM9.o).fewer (fun k hk=>by cases hk)) (HRC.o.below HBW9.o);rw [List.append_assoc] at hq;exact hq);clear hown9 hg9 hbq hsr;go_wp2;go_ret2;exact zCw HE.o HRR.o HBW9.o
 have q3:(e.kind==3)=false:=beq_false_of_ne h3
 by_cases h4:e.kind=4
 ·have HCALL:=lH (HUSE.o (.inr h4))
  have q4:(e.kind==4)=true:=beq_iff_eq.2 h4;clear h3 h4;clear HUSE HDEC;go_wp2_with (fail)
  refine HCALL.o.mono ?_;rintro r W6 ⟨v,rfl,⟨u',d',rfl,hu',hd'⟩,hb6⟩;clear e0 e1 e2 e3 e4 el c0 c1 c2 cf0 cf1 cf2 cl HCALL;obtain ⟨ua,uc,rfl,-⟩:=(zAf.1 hu').1.shape;obtain ⟨da,dc,rfl,-,-⟩:=zBn hd';have h6:=HC5.o.below hb6;obtain ⟨c0,c1,c2,cl⟩:=zAp h6;obtain ⟨cf0,cf1,cf2⟩:=zAx h6;have HC6:=lH h6;have HB6:=lH (zA HB5.o hb6);have HBW6:=lH (zA HBW5.o hb6);have HO6:=lH (zAg (zAg HO4.o HQ5.o) hb6)
  have HMC:Hid (ReadsL W6 [C,kk] ([R.1].flatMap modT) [.string R.1.label,.slice ua R.1.uses.length uc,.slice da R.1.decls.length dc]):=by
   show ReadsL _ _ _ _
   rw [List.flatMap_cons,List.flatMap_nil,List.append_nil];exact ReadsL.cons (Reads.leaf' _ _ _) (ReadsL.cons hu' (ReadsL.cons hd' (ReadsL.nil _ _)))
  have HS16:Hid (W1.heap.size≤W6.heap.size):=Nat.le_trans HQ4.o.size (Nat.le_trans HQ5.o.size hb6.size);clear h6 hb6 hu' hd';go_upto_region 20 with (fail)
  obtain ⟨W7,hW7⟩:∃W7,W7=((W6.setCell ⟨C,0,none⟩ (.string R.1.label)).setCell ⟨C,1,none⟩ (.slice ua R.1.uses.length uc)).setCell ⟨C,2,none⟩ (.slice da R.1.decls.length dc):=⟨_,rfl⟩;have HC7:Hid (CBox W7 C 52 #[.string R.1.label,.slice ua R.1.uses.length uc,.slice da R.1.decls.length dc]):=by show CBox _ _ _ _;rw [hW7];exact zLk HC6.o _ _ _
  have HM7:Hid (Mod [C] W6 W7):=by show Mod _ _ _;rw [hW7];exact zLl _ _ _ _ _
  rw [←hW7];clear hW7 c0 c1 c2 cf0 cf1 cf2 cl;obtain ⟨c0,c1,c2,cl⟩:=zAp HC7.o;have hown:=zAg (zBm HO6.o HM7.o HVA.o) (zAb W7 (.cells #[.string R.1.label,.slice ua R.1.uses.length uc,.slice da R.1.decls.length dc] 52));have hrowD:=zAo (zEu W7 W7.heap.size (Nat.le_refl _) 52 #[.string R.1.label,.slice ua R.1.uses.length uc,.slice da R.1.decls.length dc] 3 1 rfl (by omega));have hone:=zCs HMC.o
  have hm8:=(Mod.mono HM7.o (fun k hk=>by simp at hk ⊢;exact .inl hk):Mod [C,kk] W6 W7).alloc (.cells #[.string R.1.label,.slice ua R.1.uses.length uc,.slice da R.1.decls.length dc] 52);have hs1:=HS16.o;have hsz:W1.heap.size≤(W7.alloc (.cells #[.string R.1.label,.slice ua R.1.uses.length uc,.slice da R.1.decls.length dc] 52)).heap.size:=Nat.le_trans hs1 hm8.size
  go_wp2_with (at_builtin;refine zAa rfl _ _ 22 rfl W1.heap.size 52 i0 _ 3 64 Tryz.underlying22 hi hz0 hz1 hz2 hzs (by decide) _ _ _ rfl hown _ _ _ rfl hrowD hone (by unfold maxLen;omega) (by omega) hsz ?_)
  intro v8 W8 hown8 hg8 hbq8;have HM8:=lH (Mod.grow hm8 hg8 (fun k hk=>.inl (by have:=HKK.o k hk;simp [this])))
  have HV8:Hid (∀b,v8.ownBlock=some b→b=kk∨W6.heap.size≤b):=fun b hb=>by
   rcases hbq8 with q|q
   ·exact .inl (HKK.o b (by rw [←q];exact hb))
   ·rw [q] at hb;have e1:=Option.some.inj hb;have e2:=hm8.size;have e3:=HM7.o.size;exact .inr (by omega)
  have hbw8:=HBW6.o.trans (HM8.o.upto HBW6.o.size HWX.o);have hsz8:=Nat.le_trans hs1 HM8.o.size;have HBW8:=lH hbw8;obtain ⟨va8,vc8,rfl⟩:=zAe hown8;have HO8:=lH hown8;clear hown hrowD hone hm8 hsz hg8 hbq8 hbw8 c0 c1 c2 cl hown8
  rcases Nat.eq_or_lt_of_le (show p+1≤c by omega) with hcp|hcp
  ·subst hcp
   have hsr:=HSUF.o W8 HBW8.o (some ⟨b,o,none⟩) (fun b o h _=>by omega);have h00:l.length - (p+1)=0:=by omega
   rw [Nat.sub_self,h00] at hsr;clear h00;have HL2:Hid (p+1+0=(l.set p R.1).length):=by show _=_;rw [List.length_set];omega
   go_wp2_with (at_builtin;refine zAa rfl _ _ 22 rfl W1.heap.size 52 i0 _ 3 64 Tryz.underlying22 hi hz0 hz1 hz2 hzs (by decide) _ _ _ rfl HO8.o _ _ _ rfl hsr HO2.o (by unfold maxLen;omega) (by omega) hsz8 ?_)
   intro v9 W9 hown9 hg9 hbq;have HL3:Hid (l.length=(l.set p R.1).length):=(List.length_set ..).symm
   first|replace hown9:=zCk hown9 HL2.o|replace hown9:=zCk hown9 HL3.o
   have HM9:=lH (Mod.grow HM8.o hg9 (fun k hk=>(HV8.o k hk).elim (fun q=>.inl (by simp [q])) .inr));have HBW9:=lH (HBW6.o.trans (HM9.o.upto HBW6.o.size HWX.o));have HRR:Hid (Reads W9 [] (modsT (l.set p R.1)) v9):=Reads.ofRow (zAo hown9) (fun _ b _=>by simp) (by have hq:=zIi hp3 (HRA.o.below HBW9.o) ((HMC.o.mod HM9.o).fewer (fun k hk=>by cases hk)) (HRC.o.below HBW9.o);rw [List.append_assoc] at hq;exact hq);clear hown9 hg9 hbq hsr;go_wp2;go_ret2;exact zCw HE.o HRR.o HBW9.o
  ·have hsr:=HSUF.o W8 HBW8.o (some ⟨b,o+(p+1) * 3,none⟩) (fun b' o' _ h=>by injection h with h;injection h with h1 h2;rw [h1,h2])
   have hcp2:¬c=p+1:=by omega
   have HL2:Hid (p+1+(l.length - (p+1))=(l.set p R.1).length):=by show _=_;rw [List.length_set];omega
   go_wp2_with (at_builtin;refine zAa rfl _ _ 22 rfl W1.heap.size 52 i0 _ 3 64 Tryz.underlying22 hi hz0 hz1 hz2 hzs (by decide) _ _ _ rfl HO8.o _ _ _ rfl hsr HO2.o (by unfold maxLen;omega) (by omega) hsz8 ?_)
   intro v9 W9 hown9 hg9 hbq;have HL3:Hid (l.length=(l.set p R.1).length):=(List.length_set ..).symm
   first|replace hown9:=zCk hown9 HL2.o|replace hown9:=zCk hown9 HL3.o
   have HM9:=lH (Mod.grow HM8.o hg9 (fun k hk=>(HV8.o k hk).elim (fun q=>.inl (by simp [q])) .inr));have HBW9:=lH (HBW6.o.trans (HM9.o.upto HBW6.o.size HWX.o));have HRR:Hid (Reads W9 [] (modsT (l.set p R.1)) v9):=Reads.ofRow (zAo hown9) (fun _ b _=>by simp) (by have hq:=zIi hp3 (HRA.o.below HBW9.o) ((HMC.o.mod HM9.o).fewer (fun k hk=>by cases hk)) (HRC.o.below HBW9.o);rw [List.append_assoc] at hq;exact hq);clear hown9 hg9 hbq hsr;go_wp2;go_ret2;exact zCw HE.o HRR.o HBW9.o
 have q4:(e.kind==4)=false:=beq_false_of_ne h4;have HCALL:=lH (HDEC.o (by have:=HK3.o;omega));clear h3 h4;clear HUSE HDEC;go_wp2_with (fail)
 refine HCALL.o.mono ?_;rintro r W6 ⟨v,rfl,⟨u',d',rfl,hu',hd'⟩,hb6⟩;clear e0 e1 e2 e3 e4 el c0 c1 c2 cf0 cf1 cf2 cl HCALL;obtain ⟨ua,uc,rfl,-⟩:=(zAf.1 hu').1.shape;obtain ⟨da,dc,rfl,-,-⟩:=zBn hd';have h6:=HC5.o.below hb6;obtain ⟨c0,c1,c2,cl⟩:=zAp h6;obtain ⟨cf0,cf1,cf2⟩:=zAx h6;have HC6:=lH h6;have HB6:=lH (zA HB5.o hb6);have HBW6:=lH (zA HBW5.o hb6);have HO6:=lH (zAg (zAg HO4.o HQ5.o) hb6)
 have HMC:Hid (ReadsL W6 [C,kk] ([R.1].flatMap modT) [.string R.1.label,.slice ua R.1.uses.length uc,.slice da R.1.decls.length dc]):=by
  show ReadsL _ _ _ _
  rw [List.flatMap_cons,List.flatMap_nil,List.append_nil];exact ReadsL.cons (Reads.leaf' _ _ _) (ReadsL.cons hu' (ReadsL.cons hd' (ReadsL.nil _ _)))
 have HS16:Hid (W1.heap.size≤W6.heap.size):=Nat.le_trans HQ4.o.size (Nat.le_trans HQ5.o.size hb6.size);clear h6 hb6 hu' hd';go_upto_region 20 with (fail)
 obtain ⟨W7,hW7⟩:∃W7,W7=((W6.setCell ⟨C,0,none⟩ (.string R.1.label)).setCell ⟨C,1,none⟩ (.slice ua R.1.uses.length uc)).setCell ⟨C,2,none⟩ (.slice da R.1.decls.length dc):=⟨_,rfl⟩;have HC7:Hid (CBox W7 C 52 #[.string R.1.label,.slice ua R.1.uses.length uc,.slice da R.1.decls.length dc]):=by show CBox _ _ _ _;rw [hW7];exact zLk HC6.o _ _ _
 have HM7:Hid (Mod [C] W6 W7):=by show Mod _ _ _;rw [hW7];exact zLl _ _ _ _ _
 rw [←hW7];clear hW7 c0 c1 c2 cf0 cf1 cf2 cl;obtain ⟨c0,c1,c2,cl⟩:=zAp HC7.o;have hown:=zAg (zBm HO6.o HM7.o HVA.o) (zAb W7 (.cells #[.string R.1.label,.slice ua R.1.uses.length uc,.slice da R.1.decls.length dc] 52));have hrowD:=zAo (zEu W7 W7.heap.size (Nat.le_refl _) 52 #[.string R.1.label,.slice ua R.1.uses.length uc,.slice da R.1.decls.length dc] 3 1 rfl (by omega));have hone:=zCs HMC.o
 have hm8:=(Mod.mono HM7.o (fun k hk=>by simp at hk ⊢;exact .inl hk):Mod [C,kk] W6 W7).alloc (.cells #[.string R.1.label,.slice ua R.1.uses.length uc,.slice da R.1.decls.length dc] 52);have hs1:=HS16.o;have hsz:W1.heap.size≤(W7.alloc (.cells #[.string R.1.label,.slice ua R.1.uses.length uc,.slice da R.1.decls.length dc] 52)).heap.size:=Nat.le_trans hs1 hm8.size
 go_wp2_with (at_builtin;refine zAa rfl _ _ 22 rfl W1.heap.size 52 i0 _ 3 64 Tryz.underlying22 hi hz0 hz1 hz2 hzs (by decide) _ _ _ rfl hown _ _ _ rfl hrowD hone (by unfold maxLen;omega) (by omega) hsz ?_)
 intro v8 W8 hown8 hg8 hbq8;have HM8:=lH (Mod.grow hm8 hg8 (fun k hk=>.inl (by have:=HKK.o k hk;simp [this])))
 have HV8:Hid (∀b,v8.ownBlock=some b→b=kk∨W6.heap.size≤b):=fun b hb=>by
  rcases hbq8 with q|q
  ·exact .inl (HKK.o b (by rw [←q];exact hb))
  ·rw [q] at hb;have e1:=Option.some.inj hb;have e2:=hm8.size;have e3:=HM7.o.size;exact .inr (by omega)
 have hbw8:=HBW6.o.trans (HM8.o.upto HBW6.o.size HWX.o);have hsz8:=Nat.le_trans hs1 HM8.o.size;have HBW8:=lH hbw8;obtain ⟨va8,vc8,rfl⟩:=zAe hown8;have HO8:=lH hown8;clear hown hrowD hone hm8 hsz hg8 hbq8 hbw8 c0 c1 c2 cl hown8
 rcases Nat.eq_or_lt_of_le (show p+1≤c by omega) with hcp|hcp
 ·subst hcp
  have hsr:=HSUF.o W8 HBW8.o (some ⟨b,o,none⟩) (fun b o h _=>by omega);have h00:l.length - (p+1)=0:=by omega
  rw [Nat.sub_self,h00] at hsr;clear h00;have HL2:Hid (p+1+0=(l.set p R.1).length):=by show _=_;rw [List.length_set];omega
  go_wp2_with (at_builtin;refine zAa rfl _ _ 22 rfl W1.heap.size 52 i0 _ 3 64 Tryz.underlying22 hi hz0 hz1 hz2 hzs (by decide) _ _ _ rfl HO8.o _ _ _ rfl hsr HO2.o (by unfold maxLen;omega) (by omega) hsz8 ?_)
  intro v9 W9 hown9 hg9 hbq;have HL3:Hid (l.length=(l.set p R.1).length):=(List.length_set ..).symm
  first|replace hown9:=zCk hown9 HL2.o|replace hown9:=zCk hown9 HL3.o
  have HM9:=lH (Mod.grow HM8.o hg9 (fun k hk=>(HV8.o k hk).elim (fun q=>.inl (by simp [q])) .inr));have HBW9:=lH (HBW6.o.trans (HM9.o.upto HBW6.o.size HWX.o));have HRR:Hid (Reads W9 [] (modsT (l.set p R.1)) v9):=Reads.ofRow (zAo hown9) (fun _ b _=>by simp) (by have hq:=zIi hp3 (HRA.o.below HBW9.o) ((HMC.o.mod HM9.o).fewer (fun k hk=>by cases hk)) (HRC.o.below HBW9.o);rw [List.append_assoc] at hq;exact hq);clear hown9 hg9 hbq hsr;go_wp2;go_ret2;exact zCw HE.o HRR.o HBW9.o
 ·have hsr:=HSUF.o W8 HBW8.o (some ⟨b,o+(p+1) * 3,none⟩) (fun b' o' _ h=>by injection h with h;injection h with h1 h2;rw [h1,h2])
  have hcp2:¬c=p+1:=by omega
  have HL2:Hid (p+1+(l.length - (p+1))=(l.set p R.1).length):=by show _=_;rw [List.length_set];omega
  go_wp2_with (at_builtin;refine zAa rfl _ _ 22 rfl W1.heap.size 52 i0 _ 3 64 Tryz.underlying22 hi hz0 hz1 hz2 hzs (by decide) _ _ _ rfl HO8.o _ _ _ rfl hsr HO2.o (by unfold maxLen;omega) (by omega) hsz8 ?_)
  intro v9 W9 hown9 hg9 hbq;have HL3:Hid (l.length=(l.set p R.1).length):=(List.length_set ..).symm
  first|replace hown9:=zCk hown9 HL2.o|replace hown9:=zCk hown9 HL3.o
  have HM9:=lH (Mod.grow HM8.o hg9 (fun k hk=>(HV8.o k hk).elim (fun q=>.inl (by simp [q])) .inr));have HBW9:=lH (HBW6.o.trans (HM9.o.upto HBW6.o.size HWX.o));have HRR:Hid (Reads W9 [] (modsT (l.set p R.1)) v9):=Reads.ofRow (zAo hown9) (fun _ b _=>by simp) (by have hq:=zIi hp3 (HRA.o.below HBW9.o) ((HMC.o.mod HM9.o).fewer (fun k hk=>by cases hk)) (HRC.o.below HBW9.o);rw [List.append_assoc] at hq;exact hq);clear hown9 hg9 hbq hsr;go_wp2;go_ret2;exact zCw HE.o HRR.o HBW9.o
theorem yBx (l:List OMod) (a:Option Addr) (c:Nat) (e:OEdit) (ao:Option Addr) (co:Nat) (af:Option Addr) (cf n:Nat) (w:World) (hl:Reads w [] (modsT l) (.slice a l.length c)) (hs:Srt l) (hz:SzL n l) (hn:n≤40000) (hed:EditIn w e ao co af cf) (h0:editErr e=0) :
  Calls Tryz.prog 36 #[.slice a l.length c,editV e ao co af cf] w fun r w'=>OneRef w l e r w':=by
 obtain ⟨⟨k1,k9⟩,ho,hf⟩:=zBp h0
 by_cases h1:e.kind=1
 ·exact yAj l a c e ao co af cf n w hl hs hz hn h1
 by_cases h2:e.kind=2
 ·exact yAk l a c e ao co af cf n w hl hs hz hn h2
 exact yAl l a c e ao co af cf n w hl hs hz hn (by omega) hed
  (fun h5=>by rw [hf,h5];rfl)
  (fun h6=>by
   rw [ho];have:e.kind=6∨e.kind=7∨e.kind=8∨e.kind=9:=by omega
   rcases this with h|h|h|h<;>rw [h]<;>rfl)
  (fun h7=>by
   rw [hf];have:e.kind=7∨e.kind=8∨e.kind=9:=by omega
   rcases this with h|h|h<;>rw [h]<;>rfl)
set_option maxRecDepth 100000 in
set_option maxHeartbeats 8000000 in
theorem zPx (l:List OMod) (es:List OEdit) (a:Option Addr) (c:Nat) (b:Option Addr) (d:Nat) (n:Nat) (w:World) (hl:Reads w [] (modsT l) (.slice a l.length c)) (hes:Reads w [] (editsT es) (.slice b es.length d)) (hz:SzB n l) (hn:n+es.length≤40000) (hse:∀e∈es,SmE e) :
  Calls Tryz.prog 12 #[.slice a l.length c,.slice b es.length d] w fun r w'=>AppPost w l es r w':=by
 have hll:l.length≤40000:=by have:=hz.len;omega
 have hel:es.length≤40000:=by omega
 have HL:=lH hl;have HES:=lH hes;have HZB:=lH hz;have HN:=lH hn;have HSE:=lH hse;have HCL:=lH (zIy l a c w hl (fun m hm=>hz.sm (by omega) m hm) (by omega));obtain ⟨T,hT⟩:∃T,modsErr l=T:=⟨_,rfl⟩;rw [hT] at HCL;have HT:=lH hT;clear hl hes hz hn hse hT
 go_enter Tryz.func12,Tryz.ntmps12
 go_wp2_with (fail)
 refine HCL.o.mono ?_;rintro r w1 ⟨rfl,hb1⟩;clear HCL
 by_cases h0:T=0
 rotate_left
 ·have q3:(T != 0)=true:=by simp [h0]
  have HE:=lH (zPl (es:=es) (l:=l) (by rw [HT.o];exact h0));rw [HT.o] at HE;have HB1:=lH hb1;clear h0 hb1;go_wp2;go_ret2;exact zFl HE.o HB1.o
 subst h0;have HZ:=lH (HZB.o.valid HT.o);have HSRT:Hid (Srt l):=yAo HT.o;have HB1:=lH hb1;have HR1:=lH (HL.o.below hb1);obtain ⟨T,hT⟩:∃T,runL l es=T:=⟨_,rfl⟩;have HTT:=lH hT;clear HZB hb1 hT;go_wp2
 go_loopw [7,0] (fun iv vv wr=>∃(i:Nat) (L:List OMod),i≤es.length∧iv=.int .i64 i∧Hid (T=runL L (es.drop i))∧Hid (Reads wr [] (modsT L) vv)∧Hid (Srt L)∧Hid (SzL (n+i) L)∧Hid (Bw w wr)) (fun iv _ _=>es.length - (intOf iv).toNat)
 case atStart=>exact ⟨0,l,Nat.zero_le _,rfl,by show _=_;rw [List.drop_zero];exact HTT.o.symm,HR1,HSRT,HZ,HB1⟩
 case round=>
  obtain ⟨i,L,hil,rfl,HI,HRI,HSI,HZI,HBI⟩:=hrel;obtain ⟨av,cv,rfl,hav1,hav2⟩:=zDc HRI.o
  by_cases hi:i<es.length
  ·have hd2:decide ((i:Int)<(es.length:Int))=true:=decide_eq_true (by omega)
   have hir:(i:Int)<(es.length:Int):=by omega
   obtain ⟨e,hei⟩:∃e,es[i]?=some e:=⟨_,List.getElem?_eq_getElem hi⟩;obtain ⟨be,oe,ao,co,af,cf,rfl,hbl,x0',x1',x2',x3',x4',HED⟩:=zG HES.o hei;have HBL:=lH hbl;have X0:=lH x0';have X1:=lH x1';have X2:=lH x2';have X3:=lH x3';have X4:=lH x4';have hbr:be<wr.heap.size:=Nat.lt_of_lt_of_le hbl HBI.o.size;have x0:=(HBI.o.cell (p:=⟨be,_,none⟩) hbl).trans x0';have x1:=(HBI.o.cell (p:=⟨be,_,none⟩) hbl).trans x1';have x2:=(HBI.o.cell (p:=⟨be,_,none⟩) hbl).trans x2'
   have x3:=(HBI.o.cell (p:=⟨be,_,none⟩) hbl).trans x3';have x4:=(HBI.o.cell (p:=⟨be,_,none⟩) hbl).trans x4';have HNX:Hid (T=if editErr e=0 then (if (oneL L e).2=0 then runL (oneL L e).1 (es.drop (i+1)) else oneL L e) else (L,editErr e)):=by show _=_;rw [HI.o,zSh hei];rfl
   have HSEF:=lH (HSE.o e (List.mem_of_getElem? hei));have HCK:=lH (zP e ao co af cf wr (HED.o.below HBI.o) HSEF.o);obtain ⟨q,hq⟩:∃q,editErr e=q:=⟨_,rfl⟩;rw [hq] at HCK HNX;have HQ:=lH hq;unfold editV at HCK;clear hei x0' x1' x2' x3' x4' hq HI hbl;go_wp2_with (fail)
   refine HCK.o.mono ?_;rintro r W2 ⟨rfl,hb2⟩;have HB2:=lH (zA HBI.o hb2);have HR2:=lH (HRI.o.below hb2);clear x0 x1 x2 x3 x4 hbr hb2 HCK HRI
   by_cases h0:q=0
   rotate_left
   ·have q3:(q==0)=false:=by simp [h0]
    have q4:(q != 0)=true:=by simp [h0]
    rw [if_neg h0] at HNX;have HE:Hid (appR l es=([],q)):=by show _=_;rw [zJj HT.o (by rw [HTT.o,HNX.o];exact h0),HTT.o,HNX.o]
    clear h0;go_wp2;go_ret2;exact zFl HE.o HB2.o
   subst h0;have HSEI:=lH (zHm HSEF.o HQ.o);rw [if_pos rfl] at HNX;have hbr:be<W2.heap.size:=Nat.lt_of_lt_of_le HBL.o HB2.o.size;have x0:=(HB2.o.cell (p:=⟨be,_,none⟩) HBL.o).trans X0.o;have x1:=(HB2.o.cell (p:=⟨be,_,none⟩) HBL.o).trans X1.o;have x2:=(HB2.o.cell (p:=⟨be,_,none⟩) HBL.o).trans X2.o;have x3:=(HB2.o.cell (p:=⟨be,_,none⟩) HBL.o).trans X3.o;have x4:=(HB2.o.cell (p:=⟨be,_,none⟩) HBL.o).trans X4.o
   have HAP:=lH (yBx L av cv e ao co af cf (n+i) W2 HR2.o HSI.o HZI.o (by have:=HN.o;omega) (HED.o.below HB2.o) HQ.o);unfold editV at HAP;go_wp2_with (fail)
   refine HAP.o.mono ?_;rintro r W3 ⟨v',rfl,hr3,hb3⟩;have HB3:=lH (zA HB2.o hb3);have HR3:=lH hr3;have HONE:=lH (zSb HSI.o (e:=e) (zBp HQ.o).1.1 (zBp HQ.o).1.2);have HZ3:=lH (HZI.o.step HSEI.o HQ.o);clear hb3 hr3 HAP x0 x1 x2 x3 x4 hbr;obtain ⟨p,hp⟩:∃p,oneL L e=p:=⟨_,rfl⟩;rw [hp] at HNX HONE HZ3 HR3;rw [hp];clear hp;obtain ⟨L2,E2⟩:=p;simp only at HNX HONE HZ3 HR3 ⊢
   by_cases h2:E2=0
   ·subst h2
    have HNX2:Hid (T=runL L2 (es.drop (i+1))):=by show _=_;rw [HNX.o,if_pos rfl]
    have HS3:Hid (Srt L2):=by
     rcases HONE.o with ⟨-,k,-⟩|⟨k,-⟩
     ·exact k
     ·exact absurd rfl k
    clear HONE HNX;go_wp2;go_roundw
    case rel=>exact ⟨i+1,L2,by omega,by go_num,HNX2,HR3,HS3,HZ3,HB3⟩
    case measure=>simp [intOf];omega
   ·have q4:(E2 != 0)=true:=by simp [h2]
    have HNX2:Hid (T=(L2,E2)):=by show _=_;rw [HNX.o,if_neg h2]
    have HE:Hid (appR l es=([],E2)):=by show _=_;rw [zJj HT.o (by rw [HTT.o,HNX2.o];exact h2),HTT.o,HNX2.o]
    clear h2 HONE HNX;go_wp2;go_ret2;exact zFl HE.o HB3.o
  ·have hd2:decide ((i:Int)<(es.length:Int))=false:=decide_eq_false (by omega)
   obtain rfl:i=es.length:=by omega
   have HRUN:Hid (runL l es=(L,0)):=by show _=_;rw [HTT.o,HI.o,List.drop_length];rfl
   have HCE:=lH (zIy L av cv wr HRI.o (fun m hm=>(HZI.o.mods m hm).sm (by have:=HN.o;omega)) (by have:=HZI.o.len;have:=HN.o;omega));rw [yBc HSI.o] at HCE;obtain ⟨q,hq⟩:∃q,testErr L=q:=⟨_,rfl⟩;rw [hq] at HCE;have HQ:=lH hq;clear hi hq;go_wp2_with (fail)
   refine HCE.o.mono ?_;rintro r W2 ⟨rfl,hb2⟩;have HB2:=lH (zA HBI.o hb2);have HR2:=lH (HRI.o.below hb2);clear hb2 HCE
   by_cases h0:q=0
   ·have HE:=lH (zPn HT.o HRUN.o (by rw [HQ.o];exact h0))
    have q4:(q != 0)=false:=by simp [h0]
    clear h0;go_wp2;go_ret2;exact zSg HE.o HR2.o HB2.o
   ·have HE:Hid (appR l es=([],q)):=by show _=_;rw [zPm HT.o HRUN.o (by rw [HQ.o];exact h0),HQ.o]
    have q4:(q != 0)=true:=by simp [h0]
    clear h0;go_wp2;go_ret2;exact zFl HE.o HB2.o
end Go.Proofs.YtfkjfdbjhlmjcaaGreatDoor

