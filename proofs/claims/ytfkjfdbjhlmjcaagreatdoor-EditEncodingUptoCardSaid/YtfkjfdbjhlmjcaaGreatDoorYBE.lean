/- The effects of edits on uses. -/
import Derived.Test.YtfkjfdbjhlmjcaaGreatDoorYBA
set_option maxRecDepth 100000
set_option maxHeartbeats 16000000
namespace Go.Proofs.YtfkjfdbjhlmjcaaGreatDoor
open Go.RowKit Go.Shelf
attribute [local go_sem] Oper.semAt_some
structure EffIn (w0 w:World) (g o:Nat) (x:MV) (e:OEdit) (ao:Option Addr) (co:Nat) (af:Option Addr) (cf:Nat):Prop where
  old:Below w0.heap.size w0 w
  mr:MR w0 w x
  at_:ModAt w g o x
  gu:x.u.ownBlock≠some g
  gd:x.d.ownBlock≠some g
  ed:EditIn w0 e ao co af cf
  srt:SrtM x.m
  ul:x.m.uses.length≤100000
  dl:x.m.decls.length≤100000
theorem zGe {w:World} {B B':Nat} {e e':TypeId} {s s':Nat} {v v':Value} {n n':Nat} {xs xs':List Value} (he:e≠e') (h:w.ownsRow B e s v n xs) (h':w.ownsRow B' e' s' v' n' xs'):∀b,v.ownBlock=some b→v'.ownBlock≠some b:=by
 intro b hb hb'
 have k:∀{B:Nat} {e:TypeId} {s:Nat} {v:Value} {n:Nat} {xs:List Value},w.ownsRow B e s v n xs→v.ownBlock=some b→∃c,w.heap[b]?=some (.cells c e (0,0)):=fun h hb=>by
  rcases h.2 with ⟨rfl,_⟩|⟨g,cap,cur,rfl,_,hg,_⟩
  ·cases hb
  ·injection hb with hb;have hb:g=b:=hb;subst hb;exact ⟨cur,hg⟩
 obtain ⟨c,h1⟩:=k h hb;obtain ⟨c',h2⟩:=k h' hb';rw [h1] at h2
 injection h2 with h2
 injection h2 with _ h2
 exact he h2
theorem zZq (w0 w:World) (g o:Nat) (x:MV) (e:OEdit) (ao:Option Addr) (co:Nat) (af:Option Addr) (cf:Nat) (h:EffIn w0 w g o x e ao co af cf) (hk:e.kind=3) :
  Calls Tryz.prog 70 #[.pointer (some ⟨g,o,none⟩),editV e ao co af cf] w fun r w'=>EffPost w0 w g o x e r w':=by
 obtain ⟨B,hB⟩:∃B,B=w.heap.size:=⟨_,rfl⟩;obtain ⟨W0,hW0⟩:∃W0,W0=w.alloc (.cells #[.int .i64 e.kind,.string e.pack,.string e.text,.slice ao e.old.length co,.slice af e.fresh.length cf] 39):=⟨_,rfl⟩;have hb0:Bw w W0:=by rw [hW0];exact zAa _ _
 have hbox:CBox W0 B 39 #[.int .i64 e.kind,.string e.pack,.string e.text,.slice ao e.old.length co,.slice af e.fresh.length cf]:=by rw [hW0,hB];exact CBox.new _ _ _
 have HM:=lH h.at_;have HMR:=lH h.mr;have HX:=lH hbox
 have SW:Hid (∀W:World,Bw W0 W→(W.cell? ⟨g,o+1,none⟩=some x.u∧W.cell? ⟨B,2,none⟩=some (.string e.text)∧g<W.heap.size∧B<W.heap.size)):=fun W hW=>
  ⟨((HM.o.below hb0).below hW).c1,(HX.o.below hW).cell (i:=2) (v:=.string e.text) rfl,((HM.o.below hb0).below hW).lt,(HX.o.below hW).lt⟩
 obtain ⟨au,cu,hu⟩:=zAh h.mr.uses;have HB0:=lH hb0;have HS:=lH h.srt;have HUL:=lH h.ul;have HK:=lH hk;have hW0s:W0.heap.size=B+1:=by rw [hW0,hB];simp
 have HH:=lH h;have HWB:Hid (W0.heap.size=B+1):=hW0s;clear hbox hk hb0 h hW0s;unfold editV
 go_enter Tryz.func70,Tryz.ntmps70
 go_upto_region 1 with (fail)
 rw [←hW0,←hB];have HBE:=lH hB;clear hW0 hB;have hb1:Bw W0 W0.drew:=(Mod.refl [] W0).drew.below;refine wp_region_noPanic (zBt (fun W:World=>W.cell? ⟨g,o+1,none⟩=some x.u∧W.cell? ⟨B,2,none⟩=some (.string e.text)∧g<W.heap.size∧B<W.heap.size) [true,true,true,true,true,true,false,true,true,true,true,true] zAv (by kernel_rfl) (fun _ _ _ _ _ h=>h) (SW.o _ hb1) (fun _=>?_))
 iterate 6 (first|(refine zAl (by rfl) ?_;(try simp only [Act.put,List.setIfInBounds_toArray,List.set_cons_zero,List.set_cons_succ]))|(refine zAn (v:=?_) (by rfl) ?_ ?_;rotate_left;(focus (intro wq hSw;(try dsimp only at hSw);go_simp;(try with_reducible rfl)));(try simp only [Act.put,List.setIfInBounds_toArray,List.set_cons_zero,List.set_cons_succ])))
 (refine zCr (by rfl) (fun K hK=>?_);go_simp)
 refine (zSa x.m.uses au cu e.text W0.drew (by rw [←hu];exact (HMR.o.below (zA HB0.o hb1)).strs) HS.o.uses (by have:=HUL.o;omega)).mono ?_;rintro r W1 ⟨rfl,hb2⟩;have hb2:=zA hb1 hb2;have hp:plc ltB id x.m.uses e.text≤x.m.uses.length:=zJn _ _;refine hK.out _ _ (SW.o _ hb2) (fun _=>?_);clear hK K
 (try simp only [Act.put,List.setIfInBounds_toArray,List.set_cons_zero,List.set_cons_succ])
 rcases zBc zKl HS.o.uses e.text with ⟨y,H⟩|H
 ·have HE:Hid (inMod x.m e=(x.m,7)):=by show _=_;unfold inMod;rw [if_pos HK.o,H.look]
  rw [H.look];simp only [Option.isSome_some]
  generalize plc ltB id x.m.uses e.text=p at *
  iterate 5 (first|(refine zAl (by rfl) ?_;(try simp only [Act.put,List.setIfInBounds_toArray,List.set_cons_zero,List.set_cons_succ]))|(refine zAn (v:=?_) (by rfl) ?_ ?_;rotate_left;(focus (intro wq hSw;(try dsimp only at hSw);go_simp;(try with_reducible rfl)));(try simp only [Act.put,List.setIfInBounds_toArray,List.set_cons_zero,List.set_cons_succ])))
  refine zCc ?_;refine NoPanic.normal ?_;go_wp2;go_ret;exact ⟨zAd (k:=.i64) (a:=7) (by rw [HE.o]),fun _=>zA HB0.o hb2,fun c=>by rw [HE.o] at c;cases c⟩
 ·have HE:Hid (inMod x.m e=(⟨x.m.label,insAt x.m.uses (plc ltB id x.m.uses e.text) e.text,x.m.decls⟩,0)):=by show _=_;unfold inMod;rw [if_pos HK.o,H.look]
  rw [H.look];simp only [Option.isSome_none]
  generalize plc ltB id x.m.uses e.text=p at *
  iterate 5 (first|(refine zAl (by rfl) ?_;(try simp only [Act.put,List.setIfInBounds_toArray,List.set_cons_zero,List.set_cons_succ]))|(refine zAn (v:=?_) (by rfl) ?_ ?_;rotate_left;(focus (intro wq hSw;(try dsimp only at hSw);go_simp;(try with_reducible rfl)));(try simp only [Act.put,List.setIfInBounds_toArray,List.set_cons_zero,List.set_cons_succ])))
  refine zCc ?_;refine NoPanic.normal ?_;clear H;go_upto_region 4 with (fail)
  have hbd:Bw W0 W1.drew:=zA hb2 (Mod.refl [] W1).drew.below;refine wp_region_noPanic (zAq (fun W:World=>W.cell? ⟨g,o+1,none⟩=some x.u∧W.cell? ⟨B,2,none⟩=some (.string e.text)∧g<W.heap.size∧B<W.heap.size) 10 [(true,0),(true,1),(true,2),(true,3),(true,4),(true,5),(true,6),(true,7),(false,8),(false,9)] zAv (by kernel_rfl) (fun _ _ _ _ _ h=>h) (SW.o _ hbd) ?_)
  iterate 8 (refine zAt (v:=?_) rfl (by rfl) ?_ ?_;rotate_left;(focus (intro wq hSw;(try dsimp only at hSw);go_simp;(try rw [if_neg (by first|omega|(simp;omega))]);(try with_reducible rfl)));(try simp only [gA,gB,gC,Act.put,gD,gE,gF]))
  (refine zAu rfl (by rfl) (fun K hK=>?_);go_simp)
  obtain ⟨W2,hW2⟩:∃W2,W2=(W1.alloc (.cells #[.string e.text] 9)).drew:=⟨_,rfl⟩;obtain ⟨N,hN⟩:∃N,N=W1.heap.size:=⟨_,rfl⟩;have hn2:W2.heap[N]?=some (.cells #[.string e.text] 9 (0,0)):=by rw [hW2,hN];exact heap_alloc_new W1 _
  have hb3:Bw W0 W2:=by rw [hW2];exact zA (zA hb2 (zAa _ _)) (Mod.refl [] _).drew.below
  have hbw:Bw w W2:=zA HB0.o hb3;have hNw:w.heap.size≤N:=by rw [hN];exact (zA HB0.o hb2).size
  rw [←hW2,←hN];have HMR2:=HMR.o.below hbw
  have HI:=zZj w0.heap.size x.m.uses.length p N x.u (x.m.uses.map .string) [.string e.text] W2 HMR2.uses hp (by have:=HUL.o;omega) (by have:=HH.o.old.size;have:=hbw.size;omega) rfl hn2 (fun c=>by
   have:=(HMR.o.uses.lt N c).2;omega) (zCq _) (zCq [e.text])
  have HB3:=lH hb3;have HBW:=lH hbw;have HNW:=lH hNw;refine hK.out _ _ (SW.o _ hb3) ?_;clear hK K hW2 hN hn2 hb3 hbw hNw hb2 hbd
  (try simp only [gA,gB,gC,Act.put,gD,gE,gF])
  (refine zAu rfl (by rfl) (fun K hK=>?_);go_simp)
  rw [hu] at HI;refine HI.mono ?_;rintro r W3 ⟨u',rfl,ho,hm,hnb⟩;obtain ⟨an,cn,rfl⟩:=zAh ho;have hgb:g∉(Value.ownBlock (.slice au x.m.uses.length cu)).toList:=by rw [←hu];intro c;exact HH.o.gu (by simpa using c)
  have hat3:=(HM.o.below HBW.o).mod hm hgb;have q1:=hat3.c1;have q2:=hat3.f1;have q3:=hat3.lt;have HMD:Hid (Mod (blk x.u++blk x.d) w W3):=(Mod.mono (X:=[]) (Mod.of HBW.o) (fun k hk=>by cases hk)).trans (hm.mono (fun k hk=>by rw [←hu] at hk;exact List.mem_append_left _ hk));have HO3:=lH ho;have HNB:=lH hnb;have HM3:=lH hm;clear hat3 ho hnb hm hgb
  have hBb:B∉(Value.ownBlock (.slice au x.m.uses.length cu)).toList:=by
   rw [←hu];intro c;have:=(HMR.o.uses.lt B (by simpa using c)).2;have:=HBE.o;omega
  have q4:=((HX.o.below HB3.o).mod HM3.o hBb).cell (i:=2) (v:=.string e.text) rfl;have q5:=((HX.o.below HB3.o).mod HM3.o hBb).lt;refine hK.out _ _ ⟨q1,q4,q3,q5⟩ ?_;clear hK K
  (try simp only [gA,gB,gC,Act.put,gD,gE,gF])
  refine zBh ?_;go_wp2;refine NoPanic.normal ?_;go_wp2;go_ret;refine ⟨zAd (k:=.i64) (a:=0) (by rw [HE.o]),fun c=>absurd (by rw [HE.o]) c,fun _=>⟨⟨_,.slice an (x.m.uses.length+1) cn,x.d⟩,W3,by rw [HE.o],.inr (.inl ⟨rfl,rfl⟩),HMD.o,⟨?_,?_⟩,?_,.inl rfl⟩⟩
  ·show W3.ownsRow w0.heap.size 9 1 (.slice an (x.m.uses.length+1) cn) (insAt x.m.uses p e.text).length ((insAt x.m.uses p e.text).map .string)
   have:=HO3.o;rw [Nat.mul_one] at this;rw [zJt _ hp,zWg];exact this
  ·obtain ⟨ys,a1,a2⟩:=(HMR.o.below HBW.o).decls
   exact ⟨ys,zCg a1 HM3.o (fun b hb c=>zGe (by decide) a1 (HMR.o.below HBW.o).uses b hb (by rw [hu];simpa using c)),a2⟩
  ·rcases HNB.o with hn|hn
   ·exact .inl (hn.trans (by rw [hu]))
   ·exact .inr ⟨_,hn,HBW.o.size⟩
theorem zZr (w0 w:World) (g o:Nat) (x:MV) (e:OEdit) (ao:Option Addr) (co:Nat) (af:Option Addr) (cf:Nat) (h:EffIn w0 w g o x e ao co af cf) (hk:e.kind=4) :
  Calls Tryz.prog 73 #[.pointer (some ⟨g,o,none⟩),editV e ao co af cf] w fun r w'=>EffPost w0 w g o x e r w':=by
 obtain ⟨B,hB⟩:∃B,B=w.heap.size:=⟨_,rfl⟩;obtain ⟨W0,hW0⟩:∃W0,W0=w.alloc (.cells #[.int .i64 e.kind,.string e.pack,.string e.text,.slice ao e.old.length co,.slice af e.fresh.length cf] 39):=⟨_,rfl⟩;have hb0:Bw w W0:=by rw [hW0];exact zAa _ _
 have hbox:CBox W0 B 39 #[.int .i64 e.kind,.string e.pack,.string e.text,.slice ao e.old.length co,.slice af e.fresh.length cf]:=by rw [hW0,hB];exact CBox.new _ _ _
 have HM:=lH h.at_;have HMR:=lH h.mr;have HX:=lH hbox
 have SW:Hid (∀W:World,Bw W0 W→(W.cell? ⟨g,o+1,none⟩=some x.u∧W.cell? ⟨B,2,none⟩=some (.string e.text)∧g<W.heap.size∧B<W.heap.size)):=fun W hW=>
  ⟨((HM.o.below hb0).below hW).c1,(HX.o.below hW).cell (i:=2) (v:=.string e.text) rfl,((HM.o.below hb0).below hW).lt,(HX.o.below hW).lt⟩
 obtain ⟨au,cu,hu⟩:=zAh h.mr.uses;have HB0:=lH hb0;have HS:=lH h.srt;have HUL:=lH h.ul;have HK:=lH hk;have hW0s:W0.heap.size=B+1:=by rw [hW0,hB];simp
 have HH:=lH h;have HWB:Hid (W0.heap.size=B+1):=hW0s;clear hbox hk hb0 h hW0s;unfold editV
 go_enter Tryz.func73,Tryz.ntmps73
 go_upto_region 1 with (fail)
 rw [←hW0,←hB];have HBE:=lH hB;clear hW0 hB;have hb1:Bw W0 W0.drew:=(Mod.refl [] W0).drew.below;refine wp_region_noPanic (zBt (fun W:World=>W.cell? ⟨g,o+1,none⟩=some x.u∧W.cell? ⟨B,2,none⟩=some (.string e.text)∧g<W.heap.size∧B<W.heap.size) [true,true,true,true,true,true,false,true,true,true,true,true] zAv (by kernel_rfl) (fun _ _ _ _ _ h=>h) (SW.o _ hb1) (fun _=>?_))
 iterate 6 (first|(refine zAl (by rfl) ?_;(try simp only [Act.put,List.setIfInBounds_toArray,List.set_cons_zero,List.set_cons_succ]))|(refine zAn (v:=?_) (by rfl) ?_ ?_;rotate_left;(focus (intro wq hSw;(try dsimp only at hSw);go_simp;(try with_reducible rfl)));(try simp only [Act.put,List.setIfInBounds_toArray,List.set_cons_zero,List.set_cons_succ])))
 (refine zCr (by rfl) (fun K hK=>?_);go_simp)
 refine (zSa x.m.uses au cu e.text W0.drew (by rw [←hu];exact (HMR.o.below (zA HB0.o hb1)).strs) HS.o.uses (by have:=HUL.o;omega)).mono ?_;rintro r W1 ⟨rfl,hb2⟩;have hb2:=zA hb1 hb2;have hp:plc ltB id x.m.uses e.text≤x.m.uses.length:=zJn _ _;refine hK.out _ _ (SW.o _ hb2) (fun _=>?_);clear hK K
 (try simp only [Act.put,List.setIfInBounds_toArray,List.set_cons_zero,List.set_cons_succ])
 rcases zBc zKl HS.o.uses e.text with ⟨y,H⟩|H
 ·have HE:Hid (inMod x.m e=(⟨x.m.label,delAt x.m.uses (plc ltB id x.m.uses e.text),x.m.decls⟩,0)):=by show _=_;unfold inMod;rw [if_neg (by have:=HK.o;omega),if_pos HK.o,H.look]
  have hpl:=H.le;rw [H.look];simp only [Option.isSome_some]
  generalize plc ltB id x.m.uses e.text=p at *
  iterate 5 (first|(refine zAl (by rfl) ?_;(try simp only [Act.put,List.setIfInBounds_toArray,List.set_cons_zero,List.set_cons_succ]))|(refine zAn (v:=?_) (by rfl) ?_ ?_;rotate_left;(focus (intro wq hSw;(try dsimp only at hSw);go_simp;(try with_reducible rfl)));(try simp only [Act.put,List.setIfInBounds_toArray,List.set_cons_zero,List.set_cons_succ])))
  refine zCc ?_;refine NoPanic.normal ?_;clear H;have hbw:Bw w W1:=zA HB0.o hb2;have HMR2:=HMR.o.below hbw;have HI:=lH (zZp w0.heap.size x.m.uses.length p x.u (x.m.uses.map .string) W1 HMR2.uses hpl (by have:=HUL.o;omega) (zCq _));have HBW:=lH hbw;have q0:=(SW.o _ hb2).1;have qb:=(SW.o _ hb2).2.1;have HIn:IntKind.i64.wrap ((p:Int)+1)=(p:Int)+1:=by rw [IntKind.wrap_i64];have:=HUL.o;omega
  clear hbw hb2 hb1 HMR2;go_wp2_with (fail)
  rw [hu] at HI;refine HI.o.mono ?_;rintro r W3 ⟨u',rfl,ho,hm,hnb⟩;obtain ⟨an,cn,rfl⟩:=zAh ho;have hgb:g∉(Value.ownBlock (.slice au x.m.uses.length cu)).toList:=by rw [←hu];intro c;exact HH.o.gu (by simpa using c)
  have hat3:=(HM.o.below HBW.o).mod hm hgb;have q1:=hat3.c1;have q2:=hat3.f1;have q3:=hat3.lt;have HMD:Hid (Mod (blk x.u++blk x.d) w W3):=(Mod.mono (X:=[]) (Mod.of HBW.o) (fun k hk=>by cases hk)).trans (hm.mono (fun k hk=>by rw [←hu] at hk;exact List.mem_append_left _ hk));have HO3:=lH ho;have HNB:=lH hnb;have HM3:=lH hm;clear hat3 ho hnb hm hgb;go_wp2;go_ret
  refine ⟨zAd (k:=.i64) (a:=0) (by rw [HE.o]),fun c=>absurd (by rw [HE.o]) c,fun _=>⟨⟨_,.slice an (x.m.uses.length - 1) cn,x.d⟩,W3,by rw [HE.o],.inr (.inl ⟨rfl,rfl⟩),HMD.o,⟨?_,?_⟩,.inl (HNB.o.trans (by rw [hu])),.inl rfl⟩⟩
  ·show W3.ownsRow w0.heap.size 9 1 (.slice an (x.m.uses.length - 1) cn) (delAt x.m.uses p).length ((delAt x.m.uses p).map .string)
   have:=HO3.o;rw [Nat.mul_one,Nat.mul_one] at this;rw [zJu _ hpl,zWh];exact this
  ·obtain ⟨ys,a1,a2⟩:=(HMR.o.below HBW.o).decls
   exact ⟨ys,zCg a1 HM3.o (fun b hb c=>zGe (by decide) a1 (HMR.o.below HBW.o).uses b hb (by rw [hu];simpa using c)),a2⟩
 ·have HE:Hid (inMod x.m e=(x.m,8)):=by show _=_;unfold inMod;rw [if_neg (by have:=HK.o;omega),if_pos HK.o,H.look]
  rw [H.look];simp only [Option.isSome_none]
  generalize plc ltB id x.m.uses e.text=p at *
  iterate 5 (first|(refine zAl (by rfl) ?_;(try simp only [Act.put,List.setIfInBounds_toArray,List.set_cons_zero,List.set_cons_succ]))|(refine zAn (v:=?_) (by rfl) ?_ ?_;rotate_left;(focus (intro wq hSw;(try dsimp only at hSw);go_simp;(try with_reducible rfl)));(try simp only [Act.put,List.setIfInBounds_toArray,List.set_cons_zero,List.set_cons_succ])))
  refine zCc ?_;refine NoPanic.normal ?_;go_wp2;go_ret;exact ⟨zAd (k:=.i64) (a:=8) (by rw [HE.o]),fun _=>zA HB0.o hb2,fun c=>by rw [HE.o] at c;cases c⟩
theorem zHb {w:World} {l:List ODecl} {a:Option Addr} {c:Nat} (h:Reads w [] (declsT l) (.slice a l.length c)) {d:ODecl} (hl:l[0]?=some d) :
    ∃(b o:Nat) (an:Option Addr) (cn:Nat) (sa:Option Addr) (cs:Nat),a=some ⟨b,o,none⟩∧b<w.heap.size∧(∀(j:Nat) (u:Value),(declL d an cn sa cs)[j]?=some u→w.cell? ⟨b,o+j,none⟩=some u)∧ReadsL w [] (declT d) (declL d an cn sa cs)∧DeclIn w d an cn sa cs:=by
  obtain ⟨b,o,an,cn,sa,cs,e,hb,hc,n1,n2,HN,s1,s2,HS⟩:=zBa h hl
  exact ⟨b,o,an,cn,sa,cs,e,hb,fun j u hj=>by have:=hc j u hj;rwa [Nat.zero_mul,Nat.add_zero] at this,zBe HN.o HS.o,⟨HN.o,HS.o,n1,n2,s1,s2⟩⟩
theorem zGf (l:List ODecl):(l.flatMap declT).length=l.length * 11:=zCj zBw l
theorem zOr (l:List ODecl) (p:Nat):(l.flatMap declT).take (p * 11)=(l.take p).flatMap declT:=by
 rcases Nat.le_total p l.length with h|h
 ·have e:=congrArg (fun l=>(l.flatMap declT).take (p * 11)) (List.take_append_drop p l).symm
  simp only [List.flatMap_append] at e
  rw [e,List.take_left' (by rw [zGf,List.length_take,Nat.min_eq_left h])]
 ·rw [List.take_of_length_le (by rw [zGf];omega),List.take_of_length_le h]
theorem zOs (l:List ODecl) (p:Nat):(l.flatMap declT).drop (p * 11)=(l.drop p).flatMap declT:=by
 rcases Nat.le_total p l.length with h|h
 ·have e:=congrArg (fun l=>(l.flatMap declT).drop (p * 11)) (List.take_append_drop p l).symm
  simp only [List.flatMap_append] at e
  rw [e,List.drop_left' (by rw [zGf,List.length_take,Nat.min_eq_left h])]
 ·rw [List.drop_eq_nil_of_le (by rw [zGf];omega),List.drop_eq_nil_of_le h];rfl
theorem zWi {w:World} {X:List Nat} {l:List ODecl} {xs vs:List Value} {f:ODecl} (h:ReadsL w X (l.flatMap declT) xs) (hf:ReadsL w X (declT f) vs) (p:Nat):ReadsL w X ((insAt l p f).flatMap declT) (xs.take (p * 11)++vs++xs.drop (p * 11)):=by
 have h1:=h.take (p * 11);have h2:=h.drop (p * 11);rw [zOr] at h1;rw [zOs] at h2;unfold insAt;rw [List.flatMap_append,List.flatMap_cons,List.append_assoc];exact ReadsL.append (ReadsL.append h2 hf) h1
theorem zWj {w:World} {X:List Nat} {l:List ODecl} {xs:List Value} (h:ReadsL w X (l.flatMap declT) xs) (p:Nat):ReadsL w X ((delAt l p).flatMap declT) (xs.take (p * 11)++xs.drop ((p+1) * 11)):=by
 have h1:=h.take (p * 11);have h2:=h.drop ((p+1) * 11);rw [zOr] at h1;rw [zOs] at h2;unfold delAt;rw [List.flatMap_append];exact ReadsL.append h2 h1
theorem zWk (d:ODecl) (an:Option Addr) (cn:Nat) (sa:Option Addr) (cs:Nat):∀u∈declL d an cn sa cs,u.oneCell'=true:=by
 intro u hu;unfold declL at hu;simp only [List.mem_cons,List.not_mem_nil,or_false] at hu
 rcases hu with rfl|rfl|rfl|rfl|rfl|rfl|rfl|rfl|rfl|rfl|rfl<;>rfl
structure EffD (x:MV) (e:OEdit):Prop where
  rng:∀d∈x.m.decls,inR d.id
  ro:inR (dAt e.old 0).id
  rf:inR (dAt e.fresh 0).id
theorem zZs (w0 w:World) (g o:Nat) (x:MV) (e:OEdit) (ao:Option Addr) (co:Nat) (af:Option Addr) (cf:Nat) (h:EffIn w0 w g o x e ao co af cf) (hd:EffD x e) (hk:e.kind=5) (hf1:e.fresh.length=1) :
  Calls Tryz.prog 75 #[.pointer (some ⟨g,o,none⟩),editV e ao co af cf] w fun r w'=>EffPost w0 w g o x e r w':=by
 obtain ⟨f,hfe⟩:∃f,e.fresh[0]?=some f:=⟨_,List.getElem?_eq_getElem (show 0<e.fresh.length by omega)⟩;have hfd:dAt e.fresh 0=f:=zDk hfe;obtain ⟨bf,of',an,cn,sa,cs,rfl,hbl,hcell,hrd,-⟩:=zHb h.ed.fresh hfe;obtain ⟨B,hB⟩:∃B,B=w.heap.size:=⟨_,rfl⟩;obtain ⟨W0,hW0⟩:∃W0,W0=w.alloc (.cells #[.int .i64 e.kind,.string e.pack,.string e.text,.slice ao e.old.length co,.slice (some ⟨bf,of',none⟩) e.fresh.length cf] 39):=⟨_,rfl⟩;have hb0:Bw w W0:=by rw [hW0];exact zAa _ _
 have hbox:CBox W0 B 39 #[.int .i64 e.kind,.string e.pack,.string e.text,.slice ao e.old.length co,.slice (some ⟨bf,of',none⟩) e.fresh.length cf]:=by rw [hW0,hB];exact CBox.new _ _ _
 have hwb:Bw w0 W0:=zA h.old hb0;have HC:=lH hcell;have HM:=lH h.at_;have HMR:=lH h.mr;have HX:=lH hbox
 have SW:Hid (∀W:World,Bw W0 W→(W.cell? ⟨g,o+2,none⟩=some x.d∧W.cell? ⟨B,4,none⟩=some (.slice (some ⟨bf,of',none⟩) e.fresh.length cf)∧W.cell? ⟨bf,of',none⟩=some (.int .i64 f.id)∧W.cell? ⟨bf,of'+1,none⟩=some (.int .i64 f.kind)∧W.cell? ⟨bf,of'+2,none⟩=some (.bool f.pub)∧W.cell? ⟨bf,of'+3,none⟩=some (.slice an f.names.length cn)∧W.cell? ⟨bf,of'+4,none⟩=some (.bool f.doubt)∧W.cell? ⟨bf,of'+5,none⟩=some (.int .i64 f.body.kind)∧W.cell? ⟨bf,of'+6,none⟩=some (.string f.body.name)∧W.cell? ⟨bf,of'+7,none⟩=some (.string f.body.more)∧W.cell? ⟨bf,of'+8,none⟩=some (.int .i64 f.body.num)∧W.cell? ⟨bf,of'+9,none⟩=some (.int .i64 f.body.den)∧W.cell? ⟨bf,of'+10,none⟩=some (.slice sa f.body.subs.length cs)∧g<W.heap.size∧B<W.heap.size∧bf<W.heap.size)):=fun W hW=>⟨((HM.o.below hb0).below hW).c2,(HX.o.below hW).cell (i:=4) (v:=.slice (some ⟨bf,of',none⟩) e.fresh.length cf) rfl,((zA hwb hW).cell (p:=⟨bf,_,none⟩) hbl).trans (HC.o 0 _ rfl),((zA hwb hW).cell (p:=⟨bf,_,none⟩) hbl).trans (HC.o 1 _ rfl),((zA hwb hW).cell (p:=⟨bf,_,none⟩) hbl).trans (HC.o 2 _ rfl),((zA hwb hW).cell (p:=⟨bf,_,none⟩) hbl).trans (HC.o 3 _ rfl),((zA hwb hW).cell (p:=⟨bf,_,none⟩) hbl).trans (HC.o 4 _ rfl),((zA hwb hW).cell (p:=⟨bf,_,none⟩) hbl).trans (HC.o 5 _ rfl),((zA hwb hW).cell (p:=⟨bf,_,none⟩) hbl).trans (HC.o 6 _ rfl),((zA hwb hW).cell (p:=⟨bf,_,none⟩) hbl).trans (HC.o 7 _ rfl),((zA hwb hW).cell (p:=⟨bf,_,none⟩) hbl).trans (HC.o 8 _ rfl),((zA hwb hW).cell (p:=⟨bf,_,none⟩) hbl).trans (HC.o 9 _ rfl),((zA hwb hW).cell (p:=⟨bf,_,none⟩) hbl).trans (HC.o 10 _ rfl),((HM.o.below hb0).below hW).lt,(HX.o.below hW).lt,Nat.lt_of_lt_of_le hbl (zA hwb hW).size⟩
 obtain ⟨xs,hxo,hxr⟩:=h.mr.decls;obtain ⟨ad,cd,hu⟩:=zAh hxo;have HXO:=lH hxo;have HXR:=lH hxr;have HRD:=lH hrd;have HB0:=lH hb0;have HWB:=lH hwb;have HS:=lH h.srt;have HUL:=lH h.dl;have HKK:=lH hk;have HH:=lH h;have HDD:=lH hd;have HFD:=lH hfd;have hf0:(0:Int)<(e.fresh.length:Int):=by omega
 have hf00:0<e.fresh.length:=by omega
 have HRF:Hid (inR f.id):=by have:=hd.rf;rw [hfd] at this;exact this
 have HB:Hid (B=w.heap.size):=hB;clear hbox hk hb0 h hcell hxo hxr hrd hfe hd hwb hfd hf1;unfold editV
 go_enter Tryz.func75,Tryz.ntmps75
 go_upto_region 1 with (fail)
 rw [←hW0,←hB];clear hW0 hB;have hb1:Bw W0 W0.drew:=(Mod.refl [] W0).drew.below
 refine wp_region_noPanic (zBt (fun W:World=>W.cell? ⟨g,o+2,none⟩=some x.d∧W.cell? ⟨B,4,none⟩=some (.slice (some ⟨bf,of',none⟩) e.fresh.length cf)∧W.cell? ⟨bf,of',none⟩=some (.int .i64 f.id)∧W.cell? ⟨bf,of'+1,none⟩=some (.int .i64 f.kind)∧W.cell? ⟨bf,of'+2,none⟩=some (.bool f.pub)∧W.cell? ⟨bf,of'+3,none⟩=some (.slice an f.names.length cn)∧W.cell? ⟨bf,of'+4,none⟩=some (.bool f.doubt)∧W.cell? ⟨bf,of'+5,none⟩=some (.int .i64 f.body.kind)∧W.cell? ⟨bf,of'+6,none⟩=some (.string f.body.name)∧W.cell? ⟨bf,of'+7,none⟩=some (.string f.body.more)∧W.cell? ⟨bf,of'+8,none⟩=some (.int .i64 f.body.num)∧W.cell? ⟨bf,of'+9,none⟩=some (.int .i64 f.body.den)∧W.cell? ⟨bf,of'+10,none⟩=some (.slice sa f.body.subs.length cs)∧g<W.heap.size∧B<W.heap.size∧bf<W.heap.size) [true,true,true,true,true,true,true,true,true,false,true,true,true,true,true] zAv (by kernel_rfl) (fun _ _ _ _ _ h=>h) (SW.o _ hb1) (fun _=>?_))
 iterate 9 (first|(refine zAl (by rfl) ?_;(try simp only [Act.put,List.setIfInBounds_toArray,List.set_cons_zero,List.set_cons_succ]))|(refine zAn (v:=?_) (by rfl) ?_ ?_;rotate_left;(focus (intro wq hSw;(try dsimp only at hSw);go_simp;(try with_reducible rfl)));(try simp only [Act.put,List.setIfInBounds_toArray,List.set_cons_zero,List.set_cons_succ])))
 (refine zCr (by rfl) (fun K hK=>?_);go_simp)
 have hrW:Reads W0.drew [] (declsT x.m.decls) (.slice ad x.m.decls.length cd):=by rw [←hu];exact (HMR.o.below (zA HB0.o hb1)).reads (zA HWB.o hb1)
 refine (zHv x.m.decls ad cd f.id W0.drew hrW HS.o.decls HDD.o.rng HRF.o (by have:=HUL.o;omega)).mono ?_;rintro r W1 ⟨rfl,hb2⟩;clear hrW;have hb2:=zA hb1 hb2;have hp:plc ltI ODecl.id x.m.decls f.id≤x.m.decls.length:=zJn _ _;refine hK.out _ _ (SW.o _ hb2) (fun _=>?_);clear hK K
 (try simp only [Act.put,List.setIfInBounds_toArray,List.set_cons_zero,List.set_cons_succ])
 rcases zBc yBh HS.o.decls f.id with ⟨y,H⟩|H
 ·have HE:Hid (inMod x.m e=(x.m,7)):=by show _=_;unfold inMod;rw [if_neg (by have:=HKK.o;omega),if_neg (by have:=HKK.o;omega),if_pos HKK.o,HFD.o,H.look]
  rw [H.look];simp only [Option.isSome_some]
  generalize plc ltI ODecl.id x.m.decls f.id=p at *
  iterate 5 (first|(refine zAl (by rfl) ?_;(try simp only [Act.put,List.setIfInBounds_toArray,List.set_cons_zero,List.set_cons_succ]))|(refine zAn (v:=?_) (by rfl) ?_ ?_;rotate_left;(focus (intro wq hSw;(try dsimp only at hSw);go_simp;(try with_reducible rfl)));(try simp only [Act.put,List.setIfInBounds_toArray,List.set_cons_zero,List.set_cons_succ])))
  refine zCc ?_;refine NoPanic.normal ?_;go_wp2;go_ret;exact ⟨zAd (k:=.i64) (a:=7) (by rw [HE.o]),fun _=>zA HB0.o hb2,fun c=>by rw [HE.o] at c;cases c⟩
 ·have HE:Hid (inMod x.m e=(⟨x.m.label,x.m.uses,insAt x.m.decls (plc ltI ODecl.id x.m.decls f.id) f⟩,0)):=by show _=_;unfold inMod;rw [if_neg (by have:=HKK.o;omega),if_neg (by have:=HKK.o;omega),if_pos HKK.o,HFD.o,H.look]
  rw [H.look];simp only [Option.isSome_none]
  generalize plc ltI ODecl.id x.m.decls f.id=p at *
  iterate 5 (first|(refine zAl (by rfl) ?_;(try simp only [Act.put,List.setIfInBounds_toArray,List.set_cons_zero,List.set_cons_succ]))|(refine zAn (v:=?_) (by rfl) ?_ ?_;rotate_left;(focus (intro wq hSw;(try dsimp only at hSw);go_simp;(try with_reducible rfl)));(try simp only [Act.put,List.setIfInBounds_toArray,List.set_cons_zero,List.set_cons_succ])))
  refine zCc ?_;refine NoPanic.normal ?_;clear H;go_upto_region 4 with (fail)
  have hbd:Bw W0 W1.drew:=zA hb2 (Mod.refl [] W1).drew.below
  refine wp_region_noPanic (zAq (fun W:World=>W.cell? ⟨g,o+2,none⟩=some x.d∧W.cell? ⟨B,4,none⟩=some (.slice (some ⟨bf,of',none⟩) e.fresh.length cf)∧W.cell? ⟨bf,of',none⟩=some (.int .i64 f.id)∧W.cell? ⟨bf,of'+1,none⟩=some (.int .i64 f.kind)∧W.cell? ⟨bf,of'+2,none⟩=some (.bool f.pub)∧W.cell? ⟨bf,of'+3,none⟩=some (.slice an f.names.length cn)∧W.cell? ⟨bf,of'+4,none⟩=some (.bool f.doubt)∧W.cell? ⟨bf,of'+5,none⟩=some (.int .i64 f.body.kind)∧W.cell? ⟨bf,of'+6,none⟩=some (.string f.body.name)∧W.cell? ⟨bf,of'+7,none⟩=some (.string f.body.more)∧W.cell? ⟨bf,of'+8,none⟩=some (.int .i64 f.body.num)∧W.cell? ⟨bf,of'+9,none⟩=some (.int .i64 f.body.den)∧W.cell? ⟨bf,of'+10,none⟩=some (.slice sa f.body.subs.length cs)∧g<W.heap.size∧B<W.heap.size∧bf<W.heap.size) 12 [(true,0),(true,1),(true,2),(true,3),(true,4),(true,5),(true,6),(true,7),(true,8),(true,9),(false,10),(false,11)] zAv (by kernel_rfl) (fun _ _ _ _ _ h=>h) (SW.o _ hbd) ?_)
  iterate 10 (refine zAt (v:=?_) rfl (by rfl) ?_ ?_;rotate_left;(focus (intro wq hSw;(try dsimp only at hSw);go_simp;(try rw [if_neg (by first|omega|(simp;omega))]);(try with_reducible rfl)));(try simp only [gA,gB,gC,Act.put,gD,gE,gF]))
  (refine zAu rfl (by rfl) (fun K hK=>?_);go_simp)
  obtain ⟨W2,hW2⟩:∃W2,W2=(W1.alloc (.cells (dA f an cn sa cs) 62)).drew:=⟨_,rfl⟩;obtain ⟨N,hN⟩:∃N,N=W1.heap.size:=⟨_,rfl⟩;have hn2:W2.heap[N]?=some (.cells (declL f an cn sa cs).toArray 62 (0,0)):=by rw [hW2,hN];exact heap_alloc_new W1 _
  have hb3:Bw W0 W2:=by rw [hW2];exact zA (zA hb2 (zAa _ _)) (Mod.refl [] _).drew.below
  have hbw:Bw w W2:=zA HB0.o hb3;have hNw:w.heap.size≤N:=by rw [hN];exact (zA HB0.o hb2).size
  rw [←hW2,←hN]
  have HI:=zZh w0.heap.size x.m.decls.length p N x.d xs (declL f an cn sa cs) W2 (zAi HXO.o hbw) hp (by have:=HUL.o;omega) (by have:=HH.o.old.size;have:=hbw.size;omega) rfl hn2 (fun c=>by
   have:=(HXO.o.lt N c).2;omega) (zD HXR.o) (zWk f an cn sa cs)
  have HB3:=lH hb3;have HBW:=lH hbw;have HNW:=lH hNw;refine hK.out _ _ (SW.o _ hb3) ?_;clear hK K hW2 hN hn2 hb3 hbw hNw hb2 hbd
  (try simp only [gA,gB,gC,Act.put,gD,gE,gF])
  (refine zAu rfl (by rfl) (fun K hK=>?_);go_simp)
  rw [hu] at HI;refine HI.mono ?_;rintro r W3 ⟨u',rfl,ho,hm,hnb⟩;obtain ⟨an3,cn3,rfl⟩:=zAh ho;have hgb:g∉(Value.ownBlock (.slice ad x.m.decls.length cd)).toList:=by rw [←hu];intro c;exact HH.o.gd (by simpa using c)
  have hat3:=(HM.o.below HBW.o).mod hm hgb;have q1:=hat3.c2;have q2:=hat3.f2;have q3:=hat3.lt;have HMD:Hid (Mod (blk x.u++blk x.d) w W3):=(Mod.mono (X:=[]) (Mod.of HBW.o) (fun k hk=>by cases hk)).trans (hm.mono (fun k hk=>by rw [←hu] at hk;exact List.mem_append_right _ hk));have hdb:∀k,(Value.ownBlock (.slice ad x.m.decls.length cd))=some k→w0.heap.size≤k∧k<w.heap.size:=fun k hk=>by rw [←hu] at hk;exact HXO.o.lt k hk
  have hSx:(W3.cell? ⟨g,o+2,none⟩=some x.d∧W3.cell? ⟨B,4,none⟩=some (.slice (some ⟨bf,of',none⟩) e.fresh.length cf)∧W3.cell? ⟨bf,of',none⟩=some (.int .i64 f.id)∧W3.cell? ⟨bf,of'+1,none⟩=some (.int .i64 f.kind)∧W3.cell? ⟨bf,of'+2,none⟩=some (.bool f.pub)∧W3.cell? ⟨bf,of'+3,none⟩=some (.slice an f.names.length cn)∧W3.cell? ⟨bf,of'+4,none⟩=some (.bool f.doubt)∧W3.cell? ⟨bf,of'+5,none⟩=some (.int .i64 f.body.kind)∧W3.cell? ⟨bf,of'+6,none⟩=some (.string f.body.name)∧W3.cell? ⟨bf,of'+7,none⟩=some (.string f.body.more)∧W3.cell? ⟨bf,of'+8,none⟩=some (.int .i64 f.body.num)∧W3.cell? ⟨bf,of'+9,none⟩=some (.int .i64 f.body.den)∧W3.cell? ⟨bf,of'+10,none⟩=some (.slice sa f.body.subs.length cs)∧g<W3.heap.size∧B<W3.heap.size∧bf<W3.heap.size):=by
   have hS2:=SW.o _ HB3.o
   have hBb:B∉(Value.ownBlock (.slice ad x.m.decls.length cd)).toList:=fun c=>by
    have:=(hdb B (by simpa using c)).2;have:=HB.o;omega
   have hfb:bf∉(Value.ownBlock (.slice ad x.m.decls.length cd)).toList:=fun c=>by
    have:=(hdb bf (by simpa using c)).1;omega
   have tr:∀{b j:Nat} {v:Value},b∉(Value.ownBlock (.slice ad x.m.decls.length cd)).toList→b<W2.heap.size→W2.cell? ⟨b,j,none⟩=some v→W3.cell? ⟨b,j,none⟩=some v:=fun hx hl hc=>(World.cell?_of_block (hm.block _ hl hx)).trans hc;obtain ⟨s0,s1,t0,t1,t2,t3,t4,t5,t6,t7,t8,t9,t10,l0,l1,l2⟩:=hS2;exact ⟨q1,tr hBb l1 s1,tr hfb l2 t0,tr hfb l2 t1,tr hfb l2 t2,tr hfb l2 t3,tr hfb l2 t4,tr hfb l2 t5,tr hfb l2 t6,tr hfb l2 t7,tr hfb l2 t8,tr hfb l2 t9,tr hfb l2 t10,q3,Nat.lt_of_lt_of_le l1 hm.size,Nat.lt_of_lt_of_le l2 hm.size⟩
  have HO3:=lH ho;have HNB:=lH hnb;have HM3:=lH hm;clear hat3 ho hnb hm hgb hdb;refine hK.out _ _ hSx ?_;clear hK K hSx
  (try simp only [gA,gB,gC,Act.put,gD,gE,gF])
  refine zBh ?_;go_wp2;refine NoPanic.normal ?_;go_wp2;go_ret;refine ⟨zAd (k:=.i64) (a:=0) (by rw [HE.o]),fun c=>absurd (by rw [HE.o]) c,fun _=>⟨⟨_,x.u,.slice an3 (x.m.decls.length+1) cn3⟩,W3,by rw [HE.o],.inr (.inr ⟨rfl,rfl⟩),HMD.o,⟨?_,?_⟩,.inl rfl,?_⟩⟩
  ·have a1:=(HMR.o.below HBW.o).uses
   exact zCg a1 HM3.o (fun b hb c=>zGe (by decide) a1 (zAi HXO.o HBW.o) b hb (by rw [hu];simpa using c))
  ·refine ⟨_,?_,zWi HXR.o HRD.o p⟩
   show W3.ownsRow w0.heap.size 62 11 (.slice an3 (x.m.decls.length+1) cn3) (insAt x.m.decls p f).length _
   rw [zJt _ hp];exact HO3.o
  ·rcases HNB.o with hn|hn
   ·exact .inl (hn.trans (by rw [hu]))
   ·exact .inr ⟨_,hn,HBW.o.size⟩
end Go.Proofs.YtfkjfdbjhlmjcaaGreatDoor
