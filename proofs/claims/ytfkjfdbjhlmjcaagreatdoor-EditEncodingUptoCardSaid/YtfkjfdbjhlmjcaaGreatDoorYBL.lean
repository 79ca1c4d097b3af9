/- edit.applyOne. -/
import Derived.Test.YtfkjfdbjhlmjcaaGreatDoorYBI
set_option maxRecDepth 100000
set_option maxHeartbeats 16000000
namespace Go.Proofs.YtfkjfdbjhlmjcaaGreatDoor
open Go.RowKit Go.Shelf
attribute [local go_sem] Oper.semAt_some
def zB (M:Nat) (s:Nat→Nat):List Nat:=[M,s 0,s 1,s 2,s 3]
theorem EffMap.away {X:List Nat} {w w':World} {B M:Nat} {s:Nat→Nat} (h:EffMap w B M s) (m:Mod X w w') (hx:∀b∈X,b∉zB M s):EffMap w' B M s:=
 h.mod m (fun c=>hx _ c (by simp [zB])) (fun i hi c=>hx _ c (by
  match i,hi with
  | 0,_=>simp [zB]
  | 1,_=>simp [zB]
  | 2,_=>simp [zB]
  | 3,_=>simp [zB]))
theorem EffMap.zlt {w:World} {B M:Nat} {s:Nat→Nat} (h:EffMap w B M s):∀z∈zB M s,z<w.heap.size:=by
 intro z hz;unfold zB at hz;simp only [List.mem_cons,List.not_mem_nil,or_false] at hz
 rcases hz with rfl|rfl|rfl|rfl|rfl
 ·exact h.map.lt
 ·exact (h.box 0 (by omega)).lt
 ·exact (h.box 1 (by omega)).lt
 ·exact (h.box 2 (by omega)).lt
 ·exact (h.box 3 (by omega)).lt
theorem zQo (m:OMod) (e:OEdit):(inMod m e).1.label=m.label:=by
 unfold inMod
 repeat' split
 all_goals rfl
def OnePost (w0:World) (B M:Nat) (s:Nat→Nat) (ms:List MV) (e:OEdit) (r:Ending) (w':World):Prop:=
  ∃v',r=.returned (.tuple #[v',.int .i64 (oneL (ms.map MV.m) e).2])∧Below w0.heap.size w0 w'∧((oneL (ms.map MV.m) e).2=0→∃ms',ms'.map MV.m=(oneL (ms.map MV.m) e).1∧NowR w0 w' (zB M s) v' ms'∧EffMap w' B M s)
theorem zK {w0 w':World} {B M:Nat} {s:Nat→Nat} {ms:List MV} {e:OEdit} {v':Value} {E:Int} (h:(oneL (ms.map MV.m) e).2=E) (hE:E≠0) (hb:Bw w0 w'):OnePost w0 B M s ms e (.returned (.tuple #[v',.int .i64 E])) w':=
 ⟨v',by rw [h],hb,fun c=>absurd (h.symm.trans c) hE⟩
theorem zWo {w0 w':World} {B M:Nat} {s:Nat→Nat} {ms ms':List MV} {e:OEdit} {v':Value} {l:List OMod} (h:oneL (ms.map MV.m) e=(l,0)) (hl:ms'.map MV.m=l) (hN:NowR w0 w' (zB M s) v' ms') (hE:EffMap w' B M s):OnePost w0 B M s ms e (.returned (.tuple #[v',.int .i64 0])) w':=
 ⟨v',by rw [h],hN.old,fun _=>⟨ms',by rw [h];exact hl,hN,hE⟩⟩
theorem NowR.fresh {w0 w:World} {Z:List Nat} {v:Value} {ms:List MV} (h:NowR w0 w Z v ms):NowR w0 w (w.heap.size::Z) v ms:=by
 have key:∀b,b<w.heap.size→b∉Z→b∉w.heap.size::Z:=fun b hb hz c=>by
  rcases List.mem_cons.1 c with rfl|c
  ·exact Nat.lt_irrefl _ hb
  ·exact hz c
 exact ⟨h.old,h.own,h.mr,h.dis,fun b hb=>key b (h.lo b hb).2 (h.av.1 b hb),fun x hx=>⟨fun b hb=>key b ((h.mr x hx).lt.1 b hb) ((h.av.2 x hx).1 b hb),fun b hb=>key b ((h.mr x hx).lt.2 b hb) ((h.av.2 x hx).2 b hb)⟩⟩
theorem NowR.less {w0 w:World} {Z Y:List Nat} {v:Value} {ms:List MV} (h:NowR w0 w Z v ms) (hz:∀z∈Y,z∈Z):NowR w0 w Y v ms:=
 ⟨h.old,h.own,h.mr,h.dis,fun b hb c=>h.av.1 b hb (hz b c),fun x hx=>⟨fun b hb c=>(h.av.2 x hx).1 b hb (hz b c),fun b hb c=>(h.av.2 x hx).2 b hb (hz b c)⟩⟩
theorem zOx (w0 w:World) (B0 M:Nat) (s:Nat→Nat) (v:Value) (ms:List MV) (e:OEdit) (ao:Option Addr) (co:Nat) (af:Option Addr) (cf n:Nat) (hN:NowR w0 w (zB M s) v ms) (hE:EffMap w B0 M s) (hed:EditIn w0 e ao co af cf) (h0:editErr e=0)
  (hs:Srt (ms.map MV.m)) (hz:SzL n (ms.map MV.m)) (hn:n≤100000) (he:SzE e) :
  Calls Tryz.prog 33 #[v,editV e ao co af cf,.map (some M)] w fun r w'=>OnePost w0 B0 M s ms e r w':=by
 obtain ⟨B,hB⟩:∃B,B=w.heap.size:=⟨_,rfl⟩;obtain ⟨W0,hW0⟩:∃W0,W0=w.alloc (.cells #[.int .i64 e.kind,.string e.pack,.string e.text,.slice ao e.old.length co,.slice af e.fresh.length cf] 39):=⟨_,rfl⟩;have hb0:Bw w W0:=by rw [hW0];exact zAa _ _
 have hbox:CBox W0 B 39 #[.int .i64 e.kind,.string e.pack,.string e.text,.slice ao e.old.length co,.slice af e.fresh.length cf]:=by rw [hW0,hB];exact CBox.new _ _ _
 obtain ⟨av,cv,hv⟩:=zAh hN.own;have HX:=lH hbox;have HNF:Hid (NowR w0 W0 (B::zB M s) v ms):=by show NowR _ _ _ _ _;rw [hB];exact hN.fresh.below hb0
 have HN:=lH (hN.below hb0);have HE:=lH (hE.below hb0);have HED:=lH hed;have H0:=lH h0;have HS:=lH hs;have HZ:=lH hz;have HSE:=lH he;have HLN:=lH hn;have eb:=hbox.cell (i:=1) (v:=.string e.pack) rfl;have lb:=hbox.lt;have hl:ms.length≤100000:=by have:=hz.len;rw [List.length_map] at this;omega
 have hml:(ms.map MV.m).length=ms.length:=List.length_map ..;have HC:=lH (zKq (ms.map MV.m) av cv e.pack W0 (by rw [hml,←hv];exact (hN.below hb0).reads) hs.labels (by omega));rw [hml] at HC;subst hv;clear hbox hN hE hed h0 hs hz hn he hb0;unfold editV
 go_enter Tryz.func33,Tryz.ntmps33
 go_upto_region 1 with (fail)
 rw [←hW0,←hB];clear hW0 hB;go_wp2_with (fail)
 refine HC.o.mono ?_;rintro r W1 ⟨rfl,hb1⟩;clear HC eb lb;have HB1:=lH hb1;have HN1:=lH (HN.o.below hb1);have HF1:=lH (HNF.o.below hb1);have HE1:=lH (HE.o.below hb1);have lb:=(HX.o.below hb1).lt;have eK:=(HX.o.below hb1).cell (i:=0) (v:=.int .i64 e.kind) rfl;have eP:=(HX.o.below hb1).cell (i:=1) (v:=.string e.pack) rfl;clear hb1
 rcases zBc zKl HS.o.labels e.pack with ⟨m,H⟩|H
 ·have HO:Hid (oneL (ms.map MV.m) e=if e.kind=1 then (ms.map MV.m,7) else if e.kind=2 then (if m.uses=[]∧m.decls=[] then (delAt (ms.map MV.m) (plc ltB OMod.label (ms.map MV.m) e.pack),0) else (ms.map MV.m,17)) else ((ms.map MV.m).set (plc ltB OMod.label (ms.map MV.m) e.pack) (inMod m e).1,(inMod m e).2)):=by show _=_;unfold oneL;rw [H.look]
  rw [H.look];simp only [Option.isSome_some]
  have hpl:=H.le;have hpm:=H.elt;clear H;generalize plc ltB OMod.label (ms.map MV.m) e.pack=p at *;rw [hml] at hpl
  by_cases hk:e.kind=1
  ·have HO2:Hid (oneL (ms.map MV.m) e=(ms.map MV.m,7)):=by show _=_;rw [HO.o,if_pos hk]
   rw [hk] at eK;clear hk HO hpm;go_wp2;go_ret2;exact zK (by rw [HO2.o]) (by decide) HN1.o.old
  rw [List.getElem?_map,Option.map_eq_some_iff] at hpm;obtain ⟨x,hx,rfl⟩:=hpm;have HXM:=lH hx;clear hx;obtain ⟨g,c,hv,hat,hgu,hgd⟩:=HN1.o.at_ HXM.o
  injection hv with e1 e2 e3
  subst e1 e3;have hxm:x∈ms:=List.mem_of_getElem? HXM.o;have HR:=lH (HN1.o.mr x hxm);have hszx:=HZ.o.mods x.m (List.mem_map.2 ⟨x,hxm,rfl⟩);have HSX:=lH hszx;have hul:x.m.uses.length≤100000:=by have:=hszx.ulen;have:=HLN.o;omega
  have hdl:x.m.decls.length≤100000:=by have:=hszx.dlen;have:=HLN.o;omega
  clear hszx hxm e2;have hpi:(p:Int)<(ms.length:Int):=by omega
  by_cases hk2:e.kind=2
  ·rw [hk2] at eK
   have HO2:Hid (oneL (ms.map MV.m) e=if x.m.uses=[]∧x.m.decls=[] then (delAt (ms.map MV.m) p,0) else (ms.map MV.m,17)):=by show _=_;rw [HO.o,if_neg hk,if_pos hk2]
   obtain ⟨au,cu,hu⟩:=zAh HR.o.uses;obtain ⟨ys,hd1,-⟩:=HR.o.decls;obtain ⟨ad,cd,hd⟩:=zAh hd1;have c1:=hat.c1;have c2:=hat.c2;have lg:=hat.lt;rw [hu] at c1;rw [hd] at c2;clear hu hd hd1 hat hgu hgd hk hk2 HO
   rcases Nat.eq_zero_or_pos x.m.uses.length with u0|u0
   ·rw [u0] at c1
    rcases Nat.eq_zero_or_pos x.m.decls.length with d0|d0
    ·rw [d0] at c2
     have HO3:Hid (oneL (ms.map MV.m) e=(delAt (ms.map MV.m) p,0)):=by show _=_;rw [HO2.o,if_pos ⟨List.eq_nil_of_length_eq_zero u0,List.eq_nil_of_length_eq_zero d0⟩]
     have HIn:IntKind.i64.wrap ((p:Int)+1)=(p:Int)+1:=by rw [IntKind.wrap_i64];omega
     have HI:=lH (zZl w0.heap.size ms.length p (.slice (some ⟨g,0,none⟩) ms.length cv) (ms.flatMap mvC) W1 HN1.o.own hpl (by omega) (zQn fun x hx=>(HN1.o.mr x hx).one));clear u0 d0;go_wp2_with (fail)
     refine HI.o.mono ?_;rintro r W3 ⟨v',rfl,ho,hm,hnb⟩;obtain ⟨q1,X,q2,q3⟩:=HN1.o.del hpl ho hm hnb;have HQ:=lH (zWo (v':=v') HO3.o (yCe _ _) q1 (HE1.o.away q2 q3));clear ho hm hnb q1 q2 q3;go_wp2;go_ret2;exact HQ.o
    ·have HO3:Hid (oneL (ms.map MV.m) e=(ms.map MV.m,17)):=by show _=_;rw [HO2.o,if_neg (fun q=>by rw [q.2] at d0;exact absurd d0 (Nat.lt_irrefl 0))]
     clear u0;go_wp2;go_ret2;exact zK (by rw [HO3.o]) (by decide) HN1.o.old
   ·have HO3:Hid (oneL (ms.map MV.m) e=(ms.map MV.m,17)):=by show _=_;rw [HO2.o,if_neg (fun q=>by rw [q.1] at u0;exact absurd u0 (Nat.lt_irrefl 0))]
    go_wp2;go_ret2;exact zK (by rw [HO3.o]) (by decide) HN1.o.old
  ·have HO2:Hid (oneL (ms.map MV.m) e=((ms.map MV.m).set p (inMod x.m e).1,(inMod x.m e).2)):=by show _=_;rw [HO.o,if_neg hk,if_neg hk2]
   have hkb:(e.kind==1)=false:=by simpa using hk
   have hkb2:(e.kind==2)=false:=by simpa using hk2
   have HK9:Hid (3≤e.kind∧e.kind≤9):=by show _∧_;have:=(zBi H0.o).1;omega
   have HEFF:Hid (∀W,Bw W1 W→EffIn w0 W g (p * 3) x e ao co af cf):=fun W hW=>⟨zA HN1.o.old hW,HR.o.below hW,hat.below hW,hgu,hgd,HED.o,HS.o.mods _ (List.mem_map.2 ⟨x,List.mem_of_getElem? HXM.o,rfl⟩),hul,hdl⟩
   have hzl:∀z∈B::zB M s,z<W1.heap.size:=fun z hz=>by
    rcases List.mem_cons.1 hz with rfl|hz
    ·exact lb
    ·exact HE1.o.zlt z hz
   have HEND:Hid (∀r w' W,Bw W1 W→EffPost w0 W g (p * 3) x e r w'→∃q,r=.returned (.int .i64 q)∧OnePost w0 B0 M s ms e (.returned (.tuple #[.slice (some ⟨g,0,none⟩) ms.length cv,.int .i64 q])) w'∧∃X,Mod X W1 w'∧∀b∈X,b∉B::zB M s):=by
    intro r w' W hW hp;obtain ⟨rfl,hp1,hp2⟩:=hp;refine ⟨_,rfl,?_⟩
    by_cases hz0:(inMod x.m e).2=0
    ·obtain ⟨y,V,hy,hs,hm,hr,hu,hd⟩:=hp2 hz0
     obtain ⟨q1,X,q2,q3⟩:=(HF1.o.below hW).upd HXM.o hm hs hr (by rw [hy,zQo]) hu hd (fun z hz=>Nat.lt_of_lt_of_le (hzl z hz) hW.size);rw [hz0];exact ⟨zWo (ms':=ms.set p y) (HO2.o.trans (by rw [hz0])) (by rw [yDl,hy]) (q1.less fun z hz=>List.mem_cons_of_mem _ hz) ((HE1.o.below hW).away q2 fun b hb c=>q3 b hb (List.mem_cons_of_mem _ c)),X,(Mod.of hW).trans q2,q3⟩
    ·exact ⟨zK (by rw [HO2.o]) hz0 (zA (zA HN1.o.old hW) (hp1 hz0)),[],Mod.of (zA hW (hp1 hz0)),fun b hb=>(List.not_mem_nil hb).elim⟩
   clear hzl;clear hk hk2 HO HO2 hat hgu hgd;go_wp2_with (fail)
   -- REGION 12
   go_upto_region 12 with (fail)
   have hbD:Bw W1 W1.drew:=(Mod.refl [] W1).drew.below;have HBD:=lH hbD;have HE9:=lH (HEFF.o _ hbD);have hdE:EffD x e:=yCg HSX.o HSE.o
   have HLK:Hid (∀V,effF s e.kind=some V→∀W X,Mod X W1 W→(∀b∈X,b∉B::zB M s)→(Instr.lookup 63 (.map (some M)) (.int .i64 e.kind) false).run Tryz.prog W=.ok V W):=fun V hV W X hW hx=>by
    have h:=(HE1.o.away hW fun b hb c=>hx b hb (List.mem_cons_of_mem _ c)).map.look zDg Tryz.underlying63 (Tryz.zeroValue116 W) (zEl (x:=e.kind) (by have:=HK9.o;unfold inI;omega));rwa [hV] at h
   clear eK eP
   by_cases hk:e.kind=3
   ·have hV:effF s e.kind=some (.func (.func 70) #[] #[]):=by rw [hk];rfl
    have SW:Hid (∀(W:World) (X:List Nat),Mod X W1 W→(∀b∈X,b∉B::zB M s)→(W.cell? ⟨B,0,none⟩=some (.int .i64 e.kind)∧W.cell? ⟨B,1,none⟩=some (.string e.pack)∧W.cell? ⟨B,2,none⟩=some (.string e.text)∧W.cell? ⟨B,3,none⟩=some (.slice ao e.old.length co)∧W.cell? ⟨B,4,none⟩=some (.slice af e.fresh.length cf)∧(Instr.lookup 63 (.map (some M)) (.int .i64 e.kind) false).run Tryz.prog W=.ok (.func (.func 70) #[] #[]) W∧B<W.heap.size)):=fun W X hW hx=>⟨((HX.o.below HB1.o).mod hW (fun c=>hx B c (List.mem_cons_self ..))).cell (i:=0) (v:=.int .i64 e.kind) rfl,((HX.o.below HB1.o).mod hW (fun c=>hx B c (List.mem_cons_self ..))).cell (i:=1) (v:=.string e.pack) rfl,((HX.o.below HB1.o).mod hW (fun c=>hx B c (List.mem_cons_self ..))).cell (i:=2) (v:=.string e.text) rfl,((HX.o.below HB1.o).mod hW (fun c=>hx B c (List.mem_cons_self ..))).cell (i:=3) (v:=.slice ao e.old.length co) rfl,((HX.o.below HB1.o).mod hW (fun c=>hx B c (List.mem_cons_self ..))).cell (i:=4) (v:=.slice af e.fresh.length cf) rfl,HLK.o _ hV W X hW hx,Nat.lt_of_lt_of_le lb hW.size⟩
    have HCA:=lH (zZq w0 W1.drew g (p * 3) x e ao co af cf HE9.o hk);clear hk hV HLK HK9 HEFF hdE
    refine wp_region_noPanic (zAq (fun W:World=>W.cell? ⟨B,0,none⟩=some (.int .i64 e.kind)∧W.cell? ⟨B,1,none⟩=some (.string e.pack)∧W.cell? ⟨B,2,none⟩=some (.string e.text)∧W.cell? ⟨B,3,none⟩=some (.slice ao e.old.length co)∧W.cell? ⟨B,4,none⟩=some (.slice af e.fresh.length cf)∧(Instr.lookup 63 (.map (some M)) (.int .i64 e.kind) false).run Tryz.prog W=.ok (.func (.func 70) #[] #[]) W∧B<W.heap.size) 10 [(true,0),(true,1),(true,2),(true,3),(true,4),(true,5),(true,6),(true,7),(true,8),(false,9)] zAv (by kernel_rfl) (fun _ _ _ _ _ h=>h) (SW.o _ [] (Mod.of HBD.o) (fun b hb=>(List.not_mem_nil hb).elim)) ?_)
    iterate 9 (refine zAt (v:=?_) rfl (by rfl) ?_ ?_;rotate_left;(focus (intro wq hSw;(try dsimp only at hSw);go_simp;(try rw [if_neg (by first|omega|(simp;omega))]);(try with_reducible rfl)));(try simp only [gA,gB,gC,Act.put,gD,gE,gF]))
    unfold editV at HCA
    (refine zAu rfl (by rfl) (fun K hK=>?_);go_simp)
    refine HCA.o.mono ?_;rintro r W3 hp;obtain ⟨q,rfl,hq,X,hX1,hX2⟩:=HEND.o _ _ _ HBD.o hp;have HQ:=lH hq;refine hK.out _ _ (SW.o _ X hX1 hX2) ?_;clear hK K hp hq hX1 hX2
    (try simp only [gA,gB,gC,Act.put,gD,gE,gF])
    refine zBh ?_;go_wp2;refine NoPanic.normal ?_;go_wp2;go_ret2;exact HQ.o
   have hk3:=lH hk;clear hk
   by_cases hk:e.kind=4
   ·have hV:effF s e.kind=some (.func (.func 73) #[] #[]):=by rw [hk];rfl
    have SW:Hid (∀(W:World) (X:List Nat),Mod X W1 W→(∀b∈X,b∉B::zB M s)→(W.cell? ⟨B,0,none⟩=some (.int .i64 e.kind)∧W.cell? ⟨B,1,none⟩=some (.string e.pack)∧W.cell? ⟨B,2,none⟩=some (.string e.text)∧W.cell? ⟨B,3,none⟩=some (.slice ao e.old.length co)∧W.cell? ⟨B,4,none⟩=some (.slice af e.fresh.length cf)∧(Instr.lookup 63 (.map (some M)) (.int .i64 e.kind) false).run Tryz.prog W=.ok (.func (.func 73) #[] #[]) W∧B<W.heap.size)):=fun W X hW hx=>⟨((HX.o.below HB1.o).mod hW (fun c=>hx B c (List.mem_cons_self ..))).cell (i:=0) (v:=.int .i64 e.kind) rfl,((HX.o.below HB1.o).mod hW (fun c=>hx B c (List.mem_cons_self ..))).cell (i:=1) (v:=.string e.pack) rfl,((HX.o.below HB1.o).mod hW (fun c=>hx B c (List.mem_cons_self ..))).cell (i:=2) (v:=.string e.text) rfl,((HX.o.below HB1.o).mod hW (fun c=>hx B c (List.mem_cons_self ..))).cell (i:=3) (v:=.slice ao e.old.length co) rfl,((HX.o.below HB1.o).mod hW (fun c=>hx B c (List.mem_cons_self ..))).cell (i:=4) (v:=.slice af e.fresh.length cf) rfl,HLK.o _ hV W X hW hx,Nat.lt_of_lt_of_le lb hW.size⟩
    have HCA:=lH (zZr w0 W1.drew g (p * 3) x e ao co af cf HE9.o hk);clear hk hV HLK HK9 HEFF hdE
    refine wp_region_noPanic (zAq (fun W:World=>W.cell? ⟨B,0,none⟩=some (.int .i64 e.kind)∧W.cell? ⟨B,1,none⟩=some (.string e.pack)∧W.cell? ⟨B,2,none⟩=some (.string e.text)∧W.cell? ⟨B,3,none⟩=some (.slice ao e.old.length co)∧W.cell? ⟨B,4,none⟩=some (.slice af e.fresh.length cf)∧(Instr.lookup 63 (.map (some M)) (.int .i64 e.kind) false).run Tryz.prog W=.ok (.func (.func 73) #[] #[]) W∧B<W.heap.size) 10 [(true,0),(true,1),(true,2),(true,3),(true,4),(true,5),(true,6),(true,7),(true,8),(false,9)] zAv (by kernel_rfl) (fun _ _ _ _ _ h=>h) (SW.o _ [] (Mod.of HBD.o) (fun b hb=>(List.not_mem_nil hb).elim)) ?_)
    iterate 9 (refine zAt (v:=?_) rfl (by rfl) ?_ ?_;rotate_left;(focus (intro wq hSw;(try dsimp only at hSw);go_simp;(try rw [if_neg (by first|omega|(simp;omega))]);(try with_reducible rfl)));(try simp only [gA,gB,gC,Act.put,gD,gE,gF]))
    unfold editV at HCA
    (refine zAu rfl (by rfl) (fun K hK=>?_);go_simp)
    refine HCA.o.mono ?_;rintro r W3 hp;obtain ⟨q,rfl,hq,X,hX1,hX2⟩:=HEND.o _ _ _ HBD.o hp;have HQ:=lH hq;refine hK.out _ _ (SW.o _ X hX1 hX2) ?_;clear hK K hp hq hX1 hX2
    (try simp only [gA,gB,gC,Act.put,gD,gE,gF])
    refine zBh ?_;go_wp2;refine NoPanic.normal ?_;go_wp2;go_ret2;exact HQ.o
   have hk4:=lH hk;clear hk
   by_cases hk:e.kind=5
   ·have hV:effF s e.kind=some (.func (.func 75) #[] #[]):=by rw [hk];rfl
    have SW:Hid (∀(W:World) (X:List Nat),Mod X W1 W→(∀b∈X,b∉B::zB M s)→(W.cell? ⟨B,0,none⟩=some (.int .i64 e.kind)∧W.cell? ⟨B,1,none⟩=some (.string e.pack)∧W.cell? ⟨B,2,none⟩=some (.string e.text)∧W.cell? ⟨B,3,none⟩=some (.slice ao e.old.length co)∧W.cell? ⟨B,4,none⟩=some (.slice af e.fresh.length cf)∧(Instr.lookup 63 (.map (some M)) (.int .i64 e.kind) false).run Tryz.prog W=.ok (.func (.func 75) #[] #[]) W∧B<W.heap.size)):=fun W X hW hx=>⟨((HX.o.below HB1.o).mod hW (fun c=>hx B c (List.mem_cons_self ..))).cell (i:=0) (v:=.int .i64 e.kind) rfl,((HX.o.below HB1.o).mod hW (fun c=>hx B c (List.mem_cons_self ..))).cell (i:=1) (v:=.string e.pack) rfl,((HX.o.below HB1.o).mod hW (fun c=>hx B c (List.mem_cons_self ..))).cell (i:=2) (v:=.string e.text) rfl,((HX.o.below HB1.o).mod hW (fun c=>hx B c (List.mem_cons_self ..))).cell (i:=3) (v:=.slice ao e.old.length co) rfl,((HX.o.below HB1.o).mod hW (fun c=>hx B c (List.mem_cons_self ..))).cell (i:=4) (v:=.slice af e.fresh.length cf) rfl,HLK.o _ hV W X hW hx,Nat.lt_of_lt_of_le lb hW.size⟩
    have HCA:=lH (zZs w0 W1.drew g (p * 3) x e ao co af cf HE9.o hdE hk (zFe H0.o (by omega) (by omega)));clear hk hV HLK HK9 HEFF hdE
    refine wp_region_noPanic (zAq (fun W:World=>W.cell? ⟨B,0,none⟩=some (.int .i64 e.kind)∧W.cell? ⟨B,1,none⟩=some (.string e.pack)∧W.cell? ⟨B,2,none⟩=some (.string e.text)∧W.cell? ⟨B,3,none⟩=some (.slice ao e.old.length co)∧W.cell? ⟨B,4,none⟩=some (.slice af e.fresh.length cf)∧(Instr.lookup 63 (.map (some M)) (.int .i64 e.kind) false).run Tryz.prog W=.ok (.func (.func 75) #[] #[]) W∧B<W.heap.size) 10 [(true,0),(true,1),(true,2),(true,3),(true,4),(true,5),(true,6),(true,7),(true,8),(false,9)] zAv (by kernel_rfl) (fun _ _ _ _ _ h=>h) (SW.o _ [] (Mod.of HBD.o) (fun b hb=>(List.not_mem_nil hb).elim)) ?_)
    iterate 9 (refine zAt (v:=?_) rfl (by rfl) ?_ ?_;rotate_left;(focus (intro wq hSw;(try dsimp only at hSw);go_simp;(try rw [if_neg (by first|omega|(simp;omega))]);(try with_reducible rfl)));(try simp only [gA,gB,gC,Act.put,gD,gE,gF]))
    unfold editV at HCA
    (refine zAu rfl (by rfl) (fun K hK=>?_);go_simp)
    refine HCA.o.mono ?_;rintro r W3 hp;obtain ⟨q,rfl,hq,X,hX1,hX2⟩:=HEND.o _ _ _ HBD.o hp;have HQ:=lH hq;refine hK.out _ _ (SW.o _ X hX1 hX2) ?_;clear hK K hp hq hX1 hX2
    (try simp only [gA,gB,gC,Act.put,gD,gE,gF])
    refine zBh ?_;go_wp2;refine NoPanic.normal ?_;go_wp2;go_ret2;exact HQ.o
   have hk5:=lH hk;clear hk
   obtain ⟨i,hi4,hV,hset⟩:∃i,i<4∧effF s e.kind=some (fnV 130 (s i))∧(7≤e.kind→∃F,(F=79∨F=80∨F=81)∧setV i=.func (.func F) #[] #[]∧Setter e.kind F):=by
    have h9:=HK9.o;have h3:=hk3.out;have h4:=hk4.out;have h5:=hk5.out
    by_cases h6:e.kind=6
    ·exact ⟨0,by omega,by rw [h6];rfl,fun c=>absurd c (by omega)⟩
    by_cases h7:e.kind=7
    ·exact ⟨1,by omega,by rw [h7];rfl,fun _=>⟨_,.inl rfl,rfl,by rw [h7];exact yCa⟩⟩
    by_cases h8:e.kind=8
    ·exact ⟨2,by omega,by rw [h8];rfl,fun _=>⟨_,.inr (.inl rfl),rfl,by rw [h8];exact yCb⟩⟩
    have h9:e.kind=9:=by omega
    exact ⟨3,by omega,by rw [h9];rfl,fun _=>⟨_,.inr (.inr rfl),rfl,by rw [h9];exact yCc⟩⟩
   have h6:6≤e.kind:=by have:=HK9.o;have:=hk3.out;have:=hk4.out;have:=hk5.out;omega
   have hbx:=(HE1.o.below hbD).box i hi4;generalize s i=sS at *;unfold fnV at hV
   have SW:Hid (∀(W:World) (X:List Nat),Mod X W1 W→(∀b∈X,b∉B::zB M s)→(W.cell? ⟨B,0,none⟩=some (.int .i64 e.kind)∧W.cell? ⟨B,1,none⟩=some (.string e.pack)∧W.cell? ⟨B,2,none⟩=some (.string e.text)∧W.cell? ⟨B,3,none⟩=some (.slice ao e.old.length co)∧W.cell? ⟨B,4,none⟩=some (.slice af e.fresh.length cf)∧(Instr.lookup 63 (.map (some M)) (.int .i64 e.kind) false).run Tryz.prog W=.ok (.func (.func 130) #[] #[.pointer (some ⟨sS,0,none⟩)]) W∧B<W.heap.size)):=fun W X hW hx=>⟨((HX.o.below HB1.o).mod hW (fun c=>hx B c (List.mem_cons_self ..))).cell (i:=0) (v:=.int .i64 e.kind) rfl,((HX.o.below HB1.o).mod hW (fun c=>hx B c (List.mem_cons_self ..))).cell (i:=1) (v:=.string e.pack) rfl,((HX.o.below HB1.o).mod hW (fun c=>hx B c (List.mem_cons_self ..))).cell (i:=2) (v:=.string e.text) rfl,((HX.o.below HB1.o).mod hW (fun c=>hx B c (List.mem_cons_self ..))).cell (i:=3) (v:=.slice ao e.old.length co) rfl,((HX.o.below HB1.o).mod hW (fun c=>hx B c (List.mem_cons_self ..))).cell (i:=4) (v:=.slice af e.fresh.length cf) rfl,HLK.o _ hV W X hW hx,Nat.lt_of_lt_of_le lb hW.size⟩
   have HCA:=lH (zQl w0 W1.drew g (p * 3) sS (setV i) x e ao co af cf HE9.o hdE h6 (zZx H0.o h6) (fun h7=>zFe H0.o (by omega) (by omega)) hbx.lt (hbx.cell (i:=0) rfl) hset (fun d hd=>⟨(HSX.o.decls d hd).sm.len,(HSX.o.decls d hd).nodes⟩));clear h6 hset hbx hV HLK HK9 HEFF hdE
   refine wp_region_noPanic (zAq (fun W:World=>W.cell? ⟨B,0,none⟩=some (.int .i64 e.kind)∧W.cell? ⟨B,1,none⟩=some (.string e.pack)∧W.cell? ⟨B,2,none⟩=some (.string e.text)∧W.cell? ⟨B,3,none⟩=some (.slice ao e.old.length co)∧W.cell? ⟨B,4,none⟩=some (.slice af e.fresh.length cf)∧(Instr.lookup 63 (.map (some M)) (.int .i64 e.kind) false).run Tryz.prog W=.ok (.func (.func 130) #[] #[.pointer (some ⟨sS,0,none⟩)]) W∧B<W.heap.size) 10 [(true,0),(true,1),(true,2),(true,3),(true,4),(true,5),(true,6),(true,7),(true,8),(false,9)] zAv (by kernel_rfl) (fun _ _ _ _ _ h=>h) (SW.o _ [] (Mod.of HBD.o) (fun b hb=>(List.not_mem_nil hb).elim)) ?_)
   iterate 9 (refine zAt (v:=?_) rfl (by rfl) ?_ ?_;rotate_left;(focus (intro wq hSw;(try dsimp only at hSw);go_simp;(try rw [if_neg (by first|omega|(simp;omega))]);(try with_reducible rfl)));(try simp only [gA,gB,gC,Act.put,gD,gE,gF]))
   unfold editV at HCA
   (refine zAu rfl (by rfl) (fun K hK=>?_);go_simp)
   refine HCA.o.mono ?_;rintro r W3 hp;obtain ⟨q,rfl,hq,X,hX1,hX2⟩:=HEND.o _ _ _ HBD.o hp;have HQ:=lH hq;refine hK.out _ _ (SW.o _ X hX1 hX2) ?_;clear hK K hp hq hX1 hX2
   (try simp only [gA,gB,gC,Act.put,gD,gE,gF])
   refine zBh ?_;go_wp2;refine NoPanic.normal ?_;go_wp2;go_ret2;exact HQ.o
   -- END 12
 ·have hpl:plc ltB OMod.label (ms.map MV.m) e.pack≤ms.length:=by rw [←hml];exact zJn _ _
  have HO:Hid (oneL (ms.map MV.m) e=if e.kind=1 then (insAt (ms.map MV.m) (plc ltB OMod.label (ms.map MV.m) e.pack) ⟨e.pack,[],[]⟩,0) else (ms.map MV.m,8)):=by show _=_;unfold oneL;rw [H.look]
  rw [H.look];simp only [Option.isSome_none]
  clear H;generalize plc ltB OMod.label (ms.map MV.m) e.pack=p at *
  by_cases hk:e.kind=1
  ·have HO2:Hid (oneL (ms.map MV.m) e=(insAt (ms.map MV.m) p ⟨e.pack,[],[]⟩,0)):=by show _=_;rw [HO.o,if_pos hk]
   rw [hk] at eK;clear hk HO;obtain ⟨W2,hW2⟩:∃W2,W2=W1.alloc (.cells #[.string e.pack,.slice none 0 0,.slice none 0 0] 52):=⟨_,rfl⟩;obtain ⟨N,hN⟩:∃N,N=W1.heap.size:=⟨_,rfl⟩;have hn2:W2.heap[N]?=some (.cells (mvC (newMV e.pack)).toArray 52 (0,0)):=by rw [hW2,hN];exact heap_alloc_new W1 _
   have hb2:Bw W1 W2:=by rw [hW2];exact zAa _ _
   have HN2:=lH (HN1.o.below hb2);have HE2:=lH (HE1.o.below hb2);have HI:=lH (zZf w0.heap.size ms.length p N (.slice av ms.length cv) (ms.flatMap mvC) (mvC (newMV e.pack)) W2 HN2.o.own hpl (by omega) HN2.o.old.size rfl hn2 (fun c=>by have:=(HN1.o.own.lt N c).2;omega) (zQn fun x hx=>(HN2.o.mr x hx).one) (fun u hu=>zQn (l:=[newMV e.pack]) (fun x hx=>by rw [List.mem_singleton.1 hx];exact ⟨rfl,rfl⟩) u (by simpa using hu)));have HWE:=lH (And.intro hW2 hN);clear hn2 hb2 hW2 hN;go_wp2_with (fail)
   rw [←HWE.o.1,←HWE.o.2];refine HI.o.mono ?_;rintro r W3 ⟨v',rfl,ho,hm,hnb⟩;obtain ⟨q1,X,q2,q3⟩:=HN2.o.ins hpl ho hm hnb HE2.o.zlt;have HQ:=lH (zWo (v':=v') HO2.o (yCd _ _ _) q1 (HE2.o.away q2 q3));clear ho hm hnb q1 q2 q3;go_wp2;go_ret2;exact HQ.o
  ·have HO2:Hid (oneL (ms.map MV.m) e=(ms.map MV.m,8)):=by show _=_;rw [HO.o,if_neg hk]
   have hkb:(e.kind==1)=false:=by simpa using hk
   clear hk HO;go_wp2;go_ret2;exact zK (by rw [HO2.o]) (by decide) HN1.o.old
theorem zGh (L:List OMod) (a:Option Addr) (c:Nat) (w:World) (hr:Reads w [] (modsT L) (.slice a L.length c)) (hs:∀m∈L,SmM m) (hn:L.length≤1000000) :
  Calls Tryz.prog 34 #[.slice a L.length c] w fun r w'=>r=.returned (.int .i64 (testErr L))∧Bw w w':=by
 obtain ⟨T,hT⟩:∃T,testErr L=T:=⟨_,rfl⟩;have HE:Hid (T=nzFrom (fun i=>modErr (mAt L i)) L.length 0):=hT.symm;have HTT:=lH hT;have HR:=lH hr;have HSM:=lH hs;clear hT hr hs;generalize hf:(fun i=>modErr (mAt L i))=f at *;have HFF:Hid (∀i,f i=modErr (mAt L i)):=fun i=>by rw [←hf]
 clear hf
 go_enter Tryz.func34,Tryz.ntmps34
 go_wp2
 go_loopw [8] (fun iv wr=>∃k:Nat,k≤L.length∧iv=.int .i64 k∧Hid (T=nzFrom f L.length k)∧Bw w wr) (fun iv _=>L.length - (intOf iv).toNat)
 case atStart=>exact ⟨0,Nat.zero_le _,rfl,HE,zAw _⟩
 case round=>
  obtain ⟨k,hkl,rfl,HI,hb⟩:=hrel
  by_cases hi:k<L.length
  ·have hd:decide ((k:Int)<(L.length:Int))=true:=decide_eq_true (by omega)
   have hir:(k:Int)<(L.length:Int):=by omega
   obtain ⟨m,hmi⟩:∃m,L[k]?=some m:=⟨_,List.getElem?_eq_getElem hi⟩;obtain ⟨b,o,au,cu,ad,cd,rfl,hbl,x0',x1',x2',-,-,hru,-,-,hrd⟩:=zBk HR.o hmi;have hbr:b<wr.heap.size:=Nat.lt_of_lt_of_le hbl hb.size;have x0:=(hb.cell (p:=⟨b,_,none⟩) hbl).trans x0';have x1:=(hb.cell (p:=⟨b,_,none⟩) hbl).trans x1';have x2:=(hb.cell (p:=⟨b,_,none⟩) hbl).trans x2';have HN:=lH (HI.o.trans (zBz f hi));have hC0:=zAa wr (.cells (mA m au cu ad cd) 52);have hb3:=hb.trans (hC0.mono hb.size)
   have HBC:=lH (zLh m au cu ad cd _ (zAg.1 (hru.out.below hb3)).1 (hrd.out.below hb3) (HSM.o m (List.mem_of_getElem? hmi)));have hfk:f k=modErr m:=by rw [HFF.o,zEi hmi]
   rw [hfk] at HN;clear x0' x1' x2' hru hrd HI hfk;unfold modV at HBC;generalize modErr m=q at *;go_wp2_with (fail)
   refine HBC.o.mono ?_;rintro r w4 ⟨rfl,hb4⟩;have hB4:=hb3.trans (hb4.mono hb3.size);clear HBC
   by_cases hq:q=0
   ·rw [if_pos hq] at HN
    have q3:(q != 0)=false:=by rw [hq];rfl
    clear hq;go_wp2;go_roundw
    case rel=>exact ⟨k+1,by omega,by go_num,HN,hB4⟩
    case measure=>simp [intOf];omega
   ·rw [if_neg hq] at HN
    have q3:(q != 0)=true:=by simp [hq]
    clear hq;go_wp2;go_ret;exact ⟨zAd (HN.o.symm.trans HTT.o.symm),hB4⟩
  ·have hd:decide ((k:Int)<(L.length:Int))=false:=decide_eq_false (by omega)
   have HN:=lH (HI.o.trans (zBu f (by omega)));go_wp2;go_ret;exact ⟨zAd (HN.o.symm.trans HTT.o.symm),hb⟩
theorem zDz (L:List OMod) (a:Option Addr) (c:Nat) (w:World) (hr:Reads w [] (modsT L) (.slice a L.length c)) (hs:∀m∈L,SmM m) (hn:L.length≤1000000) :
  Calls Tryz.prog 29 #[.slice a L.length c] w fun r w'=>r=.returned (.int .i64 (modsErr L))∧Bw w w':=by
 obtain ⟨T,hT⟩:∃T,modsErr L=T:=⟨_,rfl⟩;have HE:Hid (T=if nzFrom (ordAt L) L.length 0=0 then testErr L else 10):=hT.symm;have HTT:=lH hT;have HR:=lH hr;have HEA:Hid (∀w',Bw w w'→Calls Tryz.prog 34 #[.slice a L.length c] w' fun r w''=>r=.returned (.int .i64 (testErr L))∧Below w'.heap.size w' w''):=fun w' h=>zGh L a c w' (hr.below h) hs hn;clear hT hr hs;generalize testErr L=Q at *;generalize hf:ordAt L=f at *;have HFF:Hid (∀i,f i=ordAt L i):=fun i=>by rw [←hf]
 clear hf
 go_enter Tryz.func29,Tryz.ntmps29
 go_wp2
 go_loopw [6] (fun iv wr=>∃k:Nat,k≤L.length∧iv=.int .i64 k∧Hid (T=if nzFrom f L.length k=0 then Q else 10)∧Bw w wr) (fun iv _=>L.length - (intOf iv).toNat)
 case atStart=>exact ⟨0,Nat.zero_le _,rfl,HE,zAw _⟩
 case round=>
  obtain ⟨k,hkl,rfl,HI,hb⟩:=hrel
  by_cases hi:k<L.length
  ·have hd:decide ((k:Int)<(L.length:Int))=true:=decide_eq_true (by omega)
   have hir:(k:Int)<(L.length:Int):=by omega
   obtain ⟨m,hmi⟩:∃m,L[k]?=some m:=⟨_,List.getElem?_eq_getElem hi⟩;have HN:=HI;rw [zBz f hi] at HN;have hfk:=HFF.o k;unfold ordAt at hfk;rw [zEi hmi] at hfk;obtain ⟨b,o,au,cu,ad,cd,rfl,hbl,x0',-,-,-,-,-,-,-,-⟩:=zBk HR.o hmi;have hbr:b<wr.heap.size:=Nat.lt_of_lt_of_le hbl hb.size;have x0:=(hb.cell (p:=⟨b,_,none⟩) hbl).trans x0';clear x0' HI
   by_cases hk0:k=0
   ·rw [if_neg (by omega)] at hfk
    rw [hfk,if_pos rfl] at HN;have hg:decide ((0:Int)<(k:Int))=false:=decide_eq_false (by omega);clear hfk hg;subst hk0;have hd0:decide ((0:Int)<((0:Nat):Int))=false:=rfl;go_wp2_with (fail)
    go_quiet (fail)
    go_wp2;go_roundw
    case rel=>exact ⟨1,by omega,by go_num,HN,below_drewN hb _⟩
    case measure=>simp [intOf];omega
   ·obtain ⟨j,rfl⟩:∃j,k=j+1:=⟨k - 1,by omega⟩
    obtain ⟨p,hpj⟩:∃p,L[j]?=some p:=⟨_,List.getElem?_eq_getElem (by omega)⟩;obtain ⟨b',o',au',cu',ad',cd',e',-,y0',-,-,-,-,-,-,-,-⟩:=zBk HR.o hpj
    injection e' with e'
    injection e' with e1 e2
    subst e1 e2;have y0:=(hb.cell (p:=⟨b,_,none⟩) hbl).trans y0';clear y0';rw [Nat.add_sub_cancel,zEi hpj] at hfk;obtain ⟨q,hq⟩:∃q,ltB p.label m.label=q:=⟨_,rfl⟩;rw [hq] at hfk;have hq':Op.bytesLess p.label.toList m.label.toList=q:=hq;have hd0:decide ((0:Int)<(j:Int)+1)=true:=decide_eq_true (by omega);have hw1:IntKind.i64.wrap ((j:Int)+1 - 1)=(j:Int):=by rw [Int.add_sub_cancel];exact IntWalk.i64_in _ (by omega)
    have hj1:(j:Int)<(L.length:Int):=by omega
    have hj2:(j:Int)+1<(L.length:Int):=by omega
    clear hq;have hq2:Hid (ltB p.label m.label=q):=hq'
    cases q with
    | true=>
     have hle1:Op.bytesLess m.label.toList p.label.toList=false:=by
      cases hc:Op.bytesLess m.label.toList p.label.toList with
      | false=>rfl
      | true=>exact absurd (zKl.tr hq2.out hc) (by rw [zKl.irr];decide)
     have hle2:(m.label.toList==p.label.toList)=false:=zVz (fun c=>zDx zKl hq2.out c.symm);clear hq' hq2;rw [if_neg (by simp)] at hfk;rw [hfk,if_pos rfl] at HN;clear hfk hpj hmi;generalize p.label=t at *;generalize m.label=s at *;go_wp2_with (fail)
     go_quiet (fail)
     go_wp2;go_roundw
     case rel=>exact ⟨j+1+1,by omega,by go_num,HN,below_drewN hb _⟩
     case measure=>simp [intOf];omega
    | false=>
     rw [if_pos ⟨by omega,rfl⟩] at hfk;rw [hfk,if_neg (by rw [if_neg (by decide)];decide)] at HN
     have hor:(Op.bytesLess m.label.toList p.label.toList=true∧(m.label.toList==p.label.toList)=false)∨(Op.bytesLess m.label.toList p.label.toList=false∧(m.label.toList==p.label.toList)=true):=by
      cases hc:ltB m.label p.label with
      | true=>exact .inl ⟨hc,zVz (fun c=>zDx zKl hc c)⟩
      | false=>
       have:m.label=p.label:=zKl.tot hc hq2.out;exact .inr ⟨hc,by rw [this];exact beq_self_eq_true _⟩
     clear hfk hpj hmi hq' hq2;generalize p.label=t at *;generalize m.label=s at *
     rcases hor with ⟨hle1,hle2⟩|⟨hle1,hle2⟩
     ·go_wp2_with (fail)
      go_quiet (fail)
      go_wp2;go_ret;exact ⟨zAd (HN.o.symm.trans HTT.o.symm),below_drewN hb _⟩
     ·go_wp2_with (fail)
      go_quiet (fail)
      go_wp2;go_ret;exact ⟨zAd (HN.o.symm.trans HTT.o.symm),below_drewN hb _⟩
  ·have hd:decide ((k:Int)<(L.length:Int))=false:=decide_eq_false (by omega)
   have HN:=HI;rw [zBu f (by omega),if_pos rfl] at HN;clear HI;go_wp2_with (fail)
   refine (HEA.o wr hb).mono ?_;rintro r w1 ⟨rfl,hb1⟩;have hB1:=hb.trans (hb1.mono hb.size);clear hb1;go_wp2;go_ret;exact ⟨zAd (HN.o.symm.trans HTT.o.symm),hB1⟩
end Go.Proofs.YtfkjfdbjhlmjcaaGreatDoor
namespace Go.Proofs.YtfkjfdbjhlmjcaaGreatDoor
open Go.RowKit Go.Shelf
attribute [local go_sem] Oper.semAt_some zJv zJw
theorem yAa:(Tryz.prog.info? 52).map (fun i=>(i.zero,i.size,i.bytes))=some (some (.agg #[.string ⟨#[]⟩,.slice none 0 0,.slice none 0 0]),3,64):=by kernel_rfl
theorem zWp {P:Program} {e:TypeId} {z:Value} {sz b:Nat} (h:(P.info? e).map (fun i=>(i.zero,i.size,i.bytes))=some (some z,sz,b)):∃i,P.info? e=some i∧i.zero=some z∧i.size=sz∧i.bytes=b:=by
 obtain ⟨i,hi,h2⟩:=Option.map_eq_some_iff.1 h
 injection h2 with e1 e2
 injection e2 with e2 e3
 exact ⟨i,hi,e1,e2,e3⟩
def noMV:MV:=newMV ⟨#[]⟩
theorem zWq (n:Nat):(madeCells mZ (n * 3)).toList=(List.replicate n noMV).flatMap mvC:=by
 unfold madeCells;rw [Array.toList_map,Array.toList_range]
 induction n with
 | zero=>rfl
 | succ n ih=>
  rw [show (n+1) * 3=n * 3+1+1+1 by omega,List.range_succ,List.range_succ,List.range_succ,List.map_append,List.map_append,List.map_append,ih,List.replicate_succ',List.flatMap_append,List.append_assoc,List.append_assoc]
  congr 1
  have h0:n * 3 % 3=0:=by omega
  have h1:(n * 3+1) % 3=1:=by omega
  have h2:(n * 3+1+1) % 3=2:=by omega
  simp only [List.map_cons,List.map_nil,List.size_toArray,List.length_cons,List.length_nil,Nat.zero_add,Nat.reduceAdd,h0,h1,h2]
  rfl
theorem NowR.made {w0 w:World} (hb:Bw w0 w) (n:Nat) (hn:n≤maxLen) :
  NowR w0 (w.alloc (.cells (madeCells mZ (n * 3)) 52)) [] (.slice (some ⟨w.heap.size,0,none⟩) n n) (List.replicate n noMV):=by
 refine ⟨zA hb (zAa _ _),⟨?_,.inr ⟨w.heap.size,n,_,by rw [List.length_replicate],hb.size,heap_alloc_new w _,by rw [List.length_replicate];exact Nat.le_refl _,hn,size_madeCells _ _,?_⟩⟩,fun x hx=>?_,?_,fun _ _ c=>(List.not_mem_nil c).elim,fun _ _=>⟨fun _ _ c=>(List.not_mem_nil c).elim,fun _ _ c=>(List.not_mem_nil c).elim⟩⟩
 ·rw [zCa]
 ·rw [zWq,List.take_of_length_le (by rw [zCa];exact Nat.le_refl _)]
 ·rw [List.eq_of_mem_replicate hx];exact MR.nil _
 ·rw [List.pairwise_iff_getElem]
  intro i j hi hj hij;rw [List.getElem_replicate,List.getElem_replicate];exact ⟨fun b hb=>zNc hb,fun b hb=>zNd hb⟩
theorem zQp {w0 w:World} {p x:MV} (hp:MR w0 w p) (hu:∀b∈blk x.u,w.heap.size≤b) (hd:∀b∈blk x.d,w.heap.size≤b):Apart p x:=
 ⟨fun b hb c=>absurd (hp.lt.1 b hb) (Nat.not_lt.2 (hu b c)),fun b hb c=>absurd (hp.lt.2 b hb) (Nat.not_lt.2 (hd b c))⟩
theorem NowR.put {w0 w:World} {ms:List MV} {g c i:Nat} (h:NowR w0 w [] (.slice (some ⟨g,0,none⟩) ms.length c) ms) (hi:i<ms.length) (x:MV) (hx:MR w0 w x) (hn:∀p∈ms,Apart p x) :
    NowR w0 (((w.setCell ⟨g,i * 3,none⟩ (.string x.m.label)).setCell ⟨g,i * 3+1,none⟩ x.u).setCell ⟨g,i * 3+2,none⟩ x.d) [] (.slice (some ⟨g,0,none⟩) ms.length c) (ms.set i x):=by
  obtain ⟨y,hy⟩:∃y,ms[i]?=some y:=⟨_,List.getElem?_eq_getElem hi⟩
  obtain ⟨P,R,rfl,rfl⟩:=zJx hy
  have e1:(P++y::R).set P.length x=P++x::R:=by rw [List.set_append_right _ _ (Nat.le_refl _)];simp
  have e2:(P++x::R).length=(P++y::R).length:=by simp
  rw [e1]
  have hW:=h.own
  rw [zDb] at hW
  have h1:=zEm hW (P.length * 3+0) (.string x.m.label)
  rw [zCd _ _ _ _ 0 _ (by rw [zCa]) (by show _<3;omega)] at h1
  have h2:=zEm h1 (P.length * 3+1) x.u
  rw [zCd _ _ _ _ 1 _ (by rw [zCa]) (by rw [List.length_set];show _<3;omega)] at h2
  have h3:=zEm h2 (P.length * 3+2) x.d
  rw [zCd _ _ _ _ 2 _ (by rw [zCa]) (by rw [List.length_set,List.length_set];show _<3;omega)] at h3
  have hm:Mod [g] w (((w.setCell ⟨g,P.length * 3,none⟩ (.string x.m.label)).setCell ⟨g,P.length * 3+1,none⟩ x.u).setCell ⟨g,P.length * 3+2,none⟩ x.d):=(((Mod.refl [g] w).setCell (by simp) _).setCell (by simp) _).setCell (by simp) _
  have hlo:=h.lo g (zAs.2 rfl)
  have hgo:∀p,MR w0 w p→MR w0 _ p:=fun p k=>k.off h.own hm
  refine ⟨h.old.trans (hm.upto h.old.size fun b hb=>by simp at hb;rw [hb];exact hlo.1),?_,fun p hp=>?_,?_,fun _ _ c=>(List.not_mem_nil c).elim,fun _ _=>⟨fun _ _ c=>(List.not_mem_nil c).elim,fun _ _ c=>(List.not_mem_nil c).elim⟩⟩
  · rw [e2,zDb];exact h3
  · rcases List.mem_append.1 hp with hp|hp
    · exact hgo p (h.mr p (by simp [hp]))
    · rcases List.mem_cons.1 hp with rfl|hp
      · exact hgo _ hx
      · exact hgo p (h.mr p (by simp [hp]))
  · have hd0:=h.dis
    rw [List.pairwise_append,List.pairwise_cons] at hd0 ⊢
    refine ⟨hd0.1,⟨fun p hp=>(hn p (by simp [hp])).symm,hd0.2.1.2⟩,fun p hp q hq=>?_⟩
    rcases List.mem_cons.1 hq with rfl|hq
    · exact hn p (by simp [hp])
    · exact hd0.2.2 p hp q (List.mem_cons_of_mem _ hq)
theorem NowR.later {w0 w:World} {Z:List Nat} {v:Value} {ms:List MV} (h:NowR w0 w [] v ms) (hz:∀z∈Z,w.heap.size≤z):NowR w0 w Z v ms:=
 ⟨h.old,h.own,h.mr,h.dis,fun b hb c=>absurd (h.lo b hb).2 (Nat.not_lt.2 (hz b c)),fun x hx=>⟨fun b hb c=>absurd ((h.mr x hx).lt.1 b hb) (Nat.not_lt.2 (hz b c)),fun b hb c=>absurd ((h.mr x hx).lt.2 b hb) (Nat.not_lt.2 (hz b c))⟩⟩
theorem zWr (w0:World) (l:List ODecl) (a:Option Addr) (c:Nat) (w:World) (hl0:Reads w0 [] (declsT l) (.slice a l.length c)) (hw:Bw w0 w) (hn:l.length≤1000000) :
  Calls Tryz.prog 31 #[.slice a l.length c] w fun r w'=>∃v xs,r=.returned v∧w'.ownsRow w.heap.size 62 11 v l.length xs∧ReadsL w0 [] (l.flatMap declT) xs∧Bw w w':=by
 obtain ⟨xs,hr0,-,hx⟩:=Reads.toRow hl0;have hr:=hr0.below hw;have hl:=hl0.below hw;obtain ⟨i0,z,hi,hz0,hzs,hz1,hz2⟩:=zAj zDd;have HR:=lH hr;have HX:=lH hx;have HO:=lH (zD hx);have HW:=lH hw;clear hl0 hr0 hw
 rcases Nat.eq_zero_or_pos l.length with h0|h0
 ·obtain rfl:l=[]:=List.eq_nil_of_length_eq_zero h0
  have hxn:xs=[]:=by have:=hx.len;simpa using this
  subst hxn;clear hl hr hx h0 HR HO
  cases a with
  | none=>
   go_enter Tryz.func31,Tryz.ntmps31
   go_wp2;go_ret;exact ⟨_,_,rfl,World.ownsRow_nil _ _ _ _,HX.o,zAw _⟩
  | some ad=>
   go_enter Tryz.func31,Tryz.ntmps31
   go_wp2;go_ret;exact ⟨_,_,rfl,World.ownsRow_made w #[] 0 (Nat.le_refl _) (Nat.zero_le _) rfl,HX.o,zAa _ _⟩
 ·obtain ⟨b,o,-,-,-,-,rfl,hbl,-⟩:=zBa hl (List.getElem?_eq_getElem h0)
  have hown0:(w.alloc (.cells #[] 62)).ownsRow w.heap.size 62 11 (.slice (some ⟨w.heap.size,0,none⟩) 0 0) 0 []:=World.ownsRow_made w #[] 0 (Nat.le_refl _) (Nat.zero_le _) rfl;have hA0:=zAa w (.cells #[] 62);clear hl hr hx
  go_enter Tryz.func31,Tryz.ntmps31
  go_wp2_with (at_builtin;refine zAe rfl _ _ 37 rfl w.heap.size 62 i0 _ 11 136 Tryz.underlying37 hi hz0 hz1 hz2 hzs (by decide) _ _ _ rfl hown0 _ _ _ rfl (HR.o.below hA0) HO.o (by unfold maxLen;omega) (by omega) (by simp) ?_)
  intro v1 w1 hown1 hg1 hb1;have hB1:Bw w w1:=hA0.grown hg1 (by simp) (fun k hk=>by cases hk;exact Nat.le_refl _);go_wp2;go_ret;exact ⟨_,_,rfl,by simpa using hown1,HX.o,hB1⟩
end Go.Proofs.YtfkjfdbjhlmjcaaGreatDoor
namespace Go.Proofs.YtfkjfdbjhlmjcaaGreatDoor
open Go.RowKit Go.Shelf
attribute [local go_sem] Oper.semAt_some
def AppPost (w:World) (l:List OMod) (es:List OEdit) (r:Ending) (w':World):Prop:=
  ∃v,r=.returned (.tuple #[v,.int .i64 (appR l es).2])∧Reads w' [] (modsT (appR l es).1) v∧Below w.heap.size w w'
theorem zNg {w w':World} {l:List OMod} {es:List OEdit} {E:Int} (h:appR l es=([],E)) (hb:Bw w w'):AppPost w l es (.returned (.tuple #[.slice none 0 0,.int .i64 E])) w':=
 ⟨_,by rw [h],by rw [h];exact Reads.nilRow _ _ _ _,hb⟩
theorem yAb {w w':World} {l L:List OMod} {es:List OEdit} {v:Value} (h:appR l es=(L,0)) (hr:Reads w' [] (modsT L) v) (hb:Bw w w'):AppPost w l es (.returned (.tuple #[v,.int .i64 0])) w':=
 ⟨_,by rw [h],by rw [h];exact hr,hb⟩
theorem zWs {l:List OMod} {es:List OEdit} (h:modsErr l≠0):appR l es=([],modsErr l):=by unfold appR;rw [if_neg h]
theorem zSc {l:List OMod} {es:List OEdit} (h:modsErr l=0) (h1:(runL l es).2≠0):appR l es=([],(runL l es).2):=by unfold appR;rw [if_pos h,if_neg h1]
theorem zWt {l L:List OMod} {es:List OEdit} (h:modsErr l=0) (h1:runL l es=(L,0)) (h2:testErr L≠0):appR l es=([],testErr L):=by unfold appR;rw [if_pos h,h1];simp only [if_true];rw [if_neg h2]
theorem zWu {l L:List OMod} {es:List OEdit} (h:modsErr l=0) (h1:runL l es=(L,0)) (h2:testErr L=0):appR l es=(L,0):=by unfold appR;rw [if_pos h,h1];simp only [if_true];rw [if_pos h2]
theorem zLt {w:World} {B B':Nat} {e:TypeId} {s n:Nat} {v:Value} {xs:List Value} (h:w.ownsRow B e s v n xs) (hb:B'≤B):w.ownsRow B' e s v n xs:=by
 obtain ⟨h1,h2⟩:=h;refine ⟨h1,?_⟩
 rcases h2 with h2|⟨g,cap,cur,h3,h4,h5⟩
 ·exact .inl h2
 ·exact .inr ⟨g,cap,cur,h3,Nat.le_trans hb h4,h5⟩
theorem NowR.frz {w0 w:World} {Z:List Nat} {ms:List MV} {g n c:Nat} (h:NowR w0 w Z (.slice (some ⟨g,0,none⟩) n c) ms) (q:Nat):w.frozen? ⟨g,q,none⟩=false:=by
 rcases h.own.2 with ⟨e,-⟩|⟨g',cap,cur,e,-,hh,-⟩
 ·cases e
 ·injection e with e1 e2 e3
  injection e1 with e1
  injection e1 with e1
  subst e1;exact CBox.frozen (B:=g) hh q
theorem yAc {α:Type} {l:List α} {i:Nat} {x:α} (h:l[i]?=some x):l.drop i=x::l.drop (i+1):=by
 obtain ⟨hi,e⟩:=List.getElem?_eq_some_iff.1 h;rw [←e];exact List.drop_eq_getElem_cons hi
theorem zDh {α:Type} {l:List α} {i:Nat} {x:α} (h:l[i]?=some x):l.take (i+1)=l.take i++[x]:=by
 obtain ⟨hi,e⟩:=List.getElem?_eq_some_iff.1 h;rw [←e];exact (List.take_append_getElem hi).symm
theorem zTu (l:List OMod) (es:List OEdit) (a:Option Addr) (c:Nat) (b:Option Addr) (d:Nat) (n:Nat) (w:World) (hl:Reads w [] (modsT l) (.slice a l.length c)) (hes:Reads w [] (editsT es) (.slice b es.length d)) (hz:SzB n l) (hn:n+es.length≤100000) (hse:∀e∈es,SmE e) :
  Calls Tryz.prog 11 #[.slice a l.length c,.slice b es.length d] w fun r w'=>AppPost w l es r w':=by
 have hll:l.length≤100000:=by have:=hz.len;omega
 have hel:es.length≤100000:=by omega
 have HL:=lH hl;have HES:=lH hes;have HZB:=lH hz;have HN:=lH hn;have HSE:=lH hse;have HCL:=lH (zDz l a c w hl (fun m hm=>hz.sm (by omega) m hm) (by omega));obtain ⟨T,hT⟩:∃T,modsErr l=T:=⟨_,rfl⟩;rw [hT] at HCL;have HT:=lH hT;clear hl hes hz hn hse hT
 go_enter Tryz.func11,Tryz.ntmps11
 go_wp2_with (fail)
 refine HCL.o.mono ?_;rintro r w1 ⟨rfl,hb1⟩;clear HCL
 by_cases h0:T=0
 rotate_left
 ·have q3:(T != 0)=true:=by simp [h0]
  have HE:=lH (zWs (es:=es) (l:=l) (by rw [HT.o];exact h0));rw [HT.o] at HE;clear h0;go_wp2;go_ret2;exact zNg HE.o hb1
 subst h0;have HZ:=lH (HZB.o.valid HT.o);clear HZB;obtain ⟨i0,hi,hz0,hz1,hz2⟩:=zWp yAa;have hmk:=run_make (P:=Tryz.prog) w1 22 52 i0 _ Tryz.underlying22 hi hz0 .i64 .i64 (l.length:Int) (l.length:Int) (by omega) (Int.le_refl _) (by rw [hz2];omega) (by omega);simp only [Int.toNat_natCast,hz1] at hmk
 have HN0:Hid (NowR w (w1.alloc (.cells (madeCells (Value.agg #[.string ⟨#[]⟩,.slice none 0 0,.slice none 0 0]).cells (l.length * 3)) 52)) [] (.slice (some ⟨w1.heap.size,0,none⟩) l.length l.length) (List.replicate l.length noMV)):=NowR.made hb1 l.length (by unfold maxLen;omega);clear hb1 hi hz0 hz1 hz2;generalize World.alloc w1 _=w2 at *;generalize w1.heap.size=g at *;go_wp2
 go_loopw [25] (fun iv wr=>∃(k:Nat) (cs:List MV),k≤l.length∧iv=.int .i64 k∧Hid (cs.length=k∧cs.map MV.m=l.take k)∧Hid (NowR w wr [] (.slice (some ⟨g,0,none⟩) l.length l.length) (cs++List.replicate (l.length - k) noMV))) (fun iv _=>l.length - (intOf iv).toNat)
 case atStart=>exact ⟨0,[],Nat.zero_le _,rfl,⟨rfl,rfl⟩,HN0⟩
 case round=>
  obtain ⟨k,cs,hkl,rfl,HCS,HNW⟩:=hrel
  by_cases hk:k<l.length
  ·have hd:decide ((k:Int)<(l.length:Int))=true:=decide_eq_true (by omega)
   have hir:(k:Int)<(l.length:Int):=by omega
   obtain ⟨m,hmi⟩:∃m,l[k]?=some m:=⟨_,List.getElem?_eq_getElem hk⟩;obtain ⟨ba,oa,au,cu,ad,cd,rfl,hbl,x0',x1',x2',-,-,hru,-,-,hrd⟩:=zBk HL.o hmi;have hob:=HNW.o.old;have hbr:ba<wr.heap.size:=Nat.lt_of_lt_of_le hbl hob.size;have x0:=(hob.cell (p:=⟨ba,_,none⟩) hbl).trans x0';have x1:=(hob.cell (p:=⟨ba,_,none⟩) hbl).trans x1';have x2:=(hob.cell (p:=⟨ba,_,none⟩) hbl).trans x2';obtain ⟨D,hD⟩:∃D,D=wr.heap.size:=⟨_,rfl⟩;obtain ⟨W1,hW1⟩:∃W1,W1=wr.alloc (.cells (mA m au cu ad cd) 52):=⟨_,rfl⟩
   have hq1:Bw wr W1:=by rw [hW1];exact zAa _ _
   have hbx:CBox W1 D 52 (mA m au cu ad cd):=by rw [hW1,hD];exact CBox.new _ _ _
   have HN1:=lH (HNW.o.below hq1);have HX:=lH hbx;have HMI:=lH hmi;have hsm:=HZ.o.mods m (List.mem_of_getElem? hmi);have HSM:=lH hsm;have hul:m.uses.length≤1000000:=by have:=hsm.ulen;have:=HN.o;omega
   have hdl:m.decls.length≤1000000:=by have:=hsm.dlen;have:=HN.o;omega
   clear x0' x1' x2' hob hq1 hbx hmi hsm;go_upto_region 8 with (fail)
   rw [←hW1,←hD];have HD:=lH hD;clear hW1 hD x0 x1 x2;have hbD:Bw W1 W1.drew:=(Mod.refl [] W1).drew.below;have SW:Hid (∀W:World,Bw W1 W→(W.cell? ⟨D,0,none⟩=some (.string m.label)∧W.cell? ⟨D,1,none⟩=some (.slice au m.uses.length cu)∧W.cell? ⟨D,2,none⟩=some (.slice ad m.decls.length cd)∧D<W.heap.size)):=fun W hW=>⟨(HX.o.below hW).cell (i:=0) (v:=.string m.label) rfl,(HX.o.below hW).cell (i:=1) (v:=.slice au m.uses.length cu) rfl,(HX.o.below hW).cell (i:=2) (v:=.slice ad m.decls.length cd) rfl,(HX.o.below hW).lt⟩
   refine wp_region_noPanic (zAq (fun W:World=>W.cell? ⟨D,0,none⟩=some (.string m.label)∧W.cell? ⟨D,1,none⟩=some (.slice au m.uses.length cu)∧W.cell? ⟨D,2,none⟩=some (.slice ad m.decls.length cd)∧D<W.heap.size) 12 [(true,0),(true,1),(true,2),(true,3),(true,4),(true,5),(true,7),(true,8),(false,6),(false,9),(true,10),(true,11)] zAv (by kernel_rfl) (fun _ _ _ _ _ h=>h) (SW.o _ hbD) ?_)
   iterate 8 (refine zAt (v:=?_) rfl (by rfl) ?_ ?_;rotate_left;(focus (intro wq hSw;(try dsimp only at hSw);go_simp;(try rw [if_neg (by first|omega|(simp;omega))]);(try with_reducible rfl)));(try simp only [gA,gB,gC,Act.put,gD,gE,gF]))
   (refine zAu rfl (by rfl) (fun K hK=>?_);go_simp)
   refine (zCl m.uses au cu W1.drew (zAg.1 (hru.out.below (zA HN1.o.old hbD))).1 hul).mono ?_;rintro r W2 ⟨vu,rfl,hou,hb2⟩;have hb2':=zA hbD hb2;have HOU:=lH hou;have HS2:Hid (W1.heap.size≤W1.drew.heap.size):=hbD.size;have HB2:=lH hb2';refine hK.out _ _ (SW.o _ hb2') ?_;clear hK K hou hb2 hb2' hbD
   (try simp only [gA,gB,gC,Act.put,gD,gE,gF])
   (refine zAu rfl (by rfl) (fun K hK=>?_);go_simp)
   refine (zWr w m.decls ad cd W2 hrd.out (zA HN1.o.old HB2.o) hdl).mono ?_;rintro r W3 ⟨vd,xs,rfl,hod,hrx,hb3⟩;have hb3':=zA HB2.o hb3;have HOD:=lH hod;have HRX:=lH hrx;have HOU3:=lH (zAi HOU.o hb3);have HB3:=lH hb3';refine hK.out _ _ (SW.o _ hb3') ?_;clear hK K hod hrx hb3 hb3' HOU
   (try simp only [gA,gB,gC,Act.put,gD,gE,gF])
   obtain ⟨vua,vuc,rfl⟩:=zAh HOU3.o;obtain ⟨vda,vdc,rfl⟩:=zAh HOD.o
   iterate 2 (refine zAt (v:=?_) rfl (by rfl) ?_ ?_;rotate_left;(focus (intro wq hSw;(try dsimp only at hSw);go_simp;(try rw [if_neg (by first|omega|(simp;omega))]);(try with_reducible rfl)));(try simp only [gA,gB,gC,Act.put,gD,gE,gF]))
   refine zBh ?_;have hglt:g<W3.heap.size:=Nat.lt_of_lt_of_le (HN1.o.lo g (zAs.2 rfl)).2 HB3.o.size;have hml:(cs++List.replicate (l.length - k) noMV).length=l.length:=by rw [List.length_append,List.length_replicate,HCS.o.1];omega
   have hp3:NowR w W3 [] (.slice (some ⟨g,0,none⟩) (cs++List.replicate (l.length - k) noMV).length l.length) (cs++List.replicate (l.length - k) noMV):=by rw [hml];exact HN1.o.below HB3.o
   have hx3:MR w W3 ⟨m,.slice vua m.uses.length vuc,.slice vda m.decls.length vdc⟩:=⟨zLt HOU3.o (Nat.le_trans (zA HN1.o.old (Mod.refl [] W1).drew.below).size (Nat.le_refl _)),_,zLt HOD.o (zA HN1.o.old HB2.o).size,HRX.o⟩;have hput:=hp3.put (i:=k) (by rw [hml];exact hk) _ hx3 (fun p hp=>zQp (HN1.o.mr p hp) (fun b' hb'=>Nat.le_trans HS2.o (HOU3.o.lt b' (zAs.1 hb')).1) (fun b' hb'=>Nat.le_trans HB2.o.size (HOD.o.lt b' (zAs.1 hb')).1));rw [hml] at hput
   have hset:(cs++List.replicate (l.length - k) noMV).set k ⟨m,.slice vua m.uses.length vuc,.slice vda m.decls.length vdc⟩=(cs++[⟨m,.slice vua m.uses.length vuc,.slice vda m.decls.length vdc⟩])++List.replicate (l.length - (k+1)) noMV:=by
    rw [List.set_append_right _ _ (by rw [HCS.o.1];exact Nat.le_refl _),HCS.o.1,Nat.sub_self,show l.length - k=(l.length - (k+1))+1 by omega,List.replicate_succ,List.set_cons_zero,List.append_assoc];rfl
   rw [hset] at hput;have HPUT:=lH hput;obtain ⟨g',c',hv',hat,-,-⟩:=hp3.at_ (i:=k) (x:=noMV) (by rw [List.getElem?_append_right (by rw [HCS.o.1];exact Nat.le_refl _),HCS.o.1,Nat.sub_self,List.getElem?_replicate,if_pos (by omega)])
   injection hv' with e1 e2 e3
   injection e1 with e1
   injection e1 with e1
   subst e1;have y0:=hat.c0;have y1:=hat.c1;have y2:=hat.c2;have f0:=hp3.frz (k * 3);have f1:=hp3.frz (k * 3+1);have f2:=hp3.frz (k * 3+2);clear hat e2 e3
   have HCS2:Hid ((cs++[(⟨m,.slice vua m.uses.length vuc,.slice vda m.decls.length vdc⟩:MV)]).length=k+1∧(cs++[(⟨m,.slice vua m.uses.length vuc,.slice vda m.decls.length vdc⟩:MV)]).map MV.m=l.take (k+1)):=by
    show _∧_
    rw [List.length_append,HCS.o.1,List.map_append,HCS.o.2,zDh HMI.o];exact ⟨rfl,rfl⟩
   clear hml hp3 hx3 hput hset;go_wp2;refine NoPanic.normal ?_;go_wp2;go_roundw
   case rel=>exact ⟨k+1,_,by omega,by go_num,HCS2,HPUT⟩
   case measure=>simp [intOf];omega
  ·have hd:decide ((k:Int)<(l.length:Int))=false:=decide_eq_false (by omega)
   obtain rfl:k=l.length:=by omega
   have HMS:Hid (cs.map MV.m=l):=by show _=_;rw [HCS.o.2,List.take_length]
   have hN5:=HNW.o;rw [Nat.sub_self,List.replicate_zero,List.append_nil] at hN5;have HN5:=lH hN5;have HEF:=lH (zQm wr);clear hk HCS HNW hN5 HN0 hmk;go_wp2_with (fail)
   refine HEF.o.mono ?_;rintro r w6 ⟨M,s,rfl,hem,hb6⟩;have HEM:=lH hem
   have HN6:=lH ((HN5.o.later (Z:=zB M s) (fun z hz=>by
    unfold zB at hz;simp only [List.mem_cons,List.not_mem_nil,or_false] at hz
    rcases hz with rfl|rfl|rfl|rfl|rfl
    ·exact hem.lo.1
    ·exact hem.lo.2 0 (by omega)
    ·exact hem.lo.2 1 (by omega)
    ·exact hem.lo.2 2 (by omega)
    ·exact hem.lo.2 3 (by omega))).below hb6)
   generalize wr.heap.size=B0 at *;have HSRT:Hid (Srt l):=yDe HT.o;clear hem hb6 HN5 HEF;obtain ⟨T,hT⟩:∃T,runL l es=T:=⟨_,rfl⟩;have HTT:=lH hT;clear hT;go_wp2
   go_loopw [46,7] (fun iv vv wr=>∃(i:Nat) (ms:List MV),i≤es.length∧iv=.int .i64 i∧Hid (T=runL (ms.map MV.m) (es.drop i))∧Hid (NowR w wr (zB M s) vv ms)∧Hid (EffMap wr B0 M s)∧Hid (Srt (ms.map MV.m))∧Hid (SzL (n+i) (ms.map MV.m))) (fun iv _ _=>es.length - (intOf iv).toNat)
   case atStart=>exact ⟨0,cs,Nat.zero_le _,rfl,by show _=_;rw [HMS.o,List.drop_zero];exact HTT.o.symm,HN6,HEM,by show Srt _;rw [HMS.o];exact HSRT.o,by show SzL _ _;rw [HMS.o];exact HZ.o⟩
   case round=>
    obtain ⟨i,ms,hil,rfl,HI,HNI,HEI,HSI,HZI⟩:=hrel
    by_cases hi:i<es.length
    ·have hd2:decide ((i:Int)<(es.length:Int))=true:=decide_eq_true (by omega)
     have hir:(i:Int)<(es.length:Int):=by omega
     obtain ⟨e,hei⟩:∃e,es[i]?=some e:=⟨_,List.getElem?_eq_getElem hi⟩;obtain ⟨be,oe,ao,co,af,cf,rfl,hbl,x0',x1',x2',x3',x4',HED⟩:=zGy HES.o hei;have hob:=HNI.o.old;have hbr:be<wr.heap.size:=Nat.lt_of_lt_of_le hbl hob.size;have x0:=(hob.cell (p:=⟨be,_,none⟩) hbl).trans x0';have x1:=(hob.cell (p:=⟨be,_,none⟩) hbl).trans x1';have x2:=(hob.cell (p:=⟨be,_,none⟩) hbl).trans x2';have x3:=(hob.cell (p:=⟨be,_,none⟩) hbl).trans x3';have x4:=(hob.cell (p:=⟨be,_,none⟩) hbl).trans x4'
     have HNX:Hid (T=if editErr e=0 then (if (oneL (ms.map MV.m) e).2=0 then runL (oneL (ms.map MV.m) e).1 (es.drop (i+1)) else oneL (ms.map MV.m) e) else (ms.map MV.m,editErr e)):=by show _=_;rw [HI.o,yAc hei];rfl
     have HSEF:=lH (HSE.o e (List.mem_of_getElem? hei));obtain ⟨D,hD⟩:∃D,D=wr.heap.size:=⟨_,rfl⟩;obtain ⟨W1,hW1⟩:∃W1,W1=wr.alloc (.cells #[.int .i64 e.kind,.string e.pack,.string e.text,.slice ao e.old.length co,.slice af e.fresh.length cf] 39):=⟨_,rfl⟩;have hq1:Bw wr W1:=by rw [hW1];exact zAa _ _
     have hbx:CBox W1 D 39 #[.int .i64 e.kind,.string e.pack,.string e.text,.slice ao e.old.length co,.slice af e.fresh.length cf]:=by rw [hW1,hD];exact CBox.new _ _ _
     have HN1:=lH (HNI.o.below hq1);have HE1:=lH (HEI.o.below hq1);have HX:=lH hbx;have z0:=hbx.cell (i:=0) (v:=.int .i64 e.kind) rfl;have z1:=hbx.cell (i:=1) (v:=.string e.pack) rfl;have z2:=hbx.cell (i:=2) (v:=.string e.text) rfl;have z3:=hbx.cell (i:=3) (v:=.slice ao e.old.length co) rfl;have z4:=hbx.cell (i:=4) (v:=.slice af e.fresh.length cf) rfl;have zl:=hbx.lt;have HCK:=lH (zGx e ao co af cf W1 (HED.o.below HN1.o.old) HSEF.o);obtain ⟨q,hq⟩:∃q,editErr e=q:=⟨_,rfl⟩;rw [hq] at HCK HNX
     have HQ:=lH hq;clear hei x0' x1' x2' x3' x4' hob hq1 hbx hq HI HNI HEI;go_upto_region 14 with (fail)
     rw [←hW1,←hD];clear hW1 hD x0 x1 x2 x3 x4;unfold editV at HCK;go_wp2_with (fail)
     refine HCK.o.mono ?_;rintro r W2 ⟨rfl,hb2⟩;have HB2:=lH hb2;have HN2:=lH (HN1.o.below hb2);have HE2:=lH (HE1.o.below hb2);have HX2:=lH (HX.o.below hb2);clear z0 z1 z2 z3 z4 zl hb2 HCK HN1 HE1 HX
     by_cases h0:q=0
     rotate_left
     ·have q3:(q==0)=false:=by simp [h0]
      have q4:(q != 0)=true:=by simp [h0]
      rw [if_neg h0] at HNX;have HE:Hid (appR l es=([],q)):=by show _=_;rw [zSc HT.o (by rw [HTT.o,HNX.o];exact h0),HTT.o,HNX.o]
      clear h0;go_wp2;go_ret2;exact zNg HE.o HN2.o.old
     subst h0;have HSEI:=lH (zWn HSEF.o HQ.o);rw [if_pos rfl] at HNX;have z0:=HX2.o.cell (i:=0) (v:=.int .i64 e.kind) rfl;have z1:=HX2.o.cell (i:=1) (v:=.string e.pack) rfl;have z2:=HX2.o.cell (i:=2) (v:=.string e.text) rfl;have z3:=HX2.o.cell (i:=3) (v:=.slice ao e.old.length co) rfl;have z4:=HX2.o.cell (i:=4) (v:=.slice af e.fresh.length cf) rfl;have zl:=HX2.o.lt;obtain ⟨av,cv,rfl⟩:=zAh HN2.o.own
     have HAP:=lH (zOx w W2 B0 M s _ ms e ao co af cf (n+i) HN2.o HE2.o HED.o HQ.o HSI.o HZI.o (by have:=HN.o;omega) HSEI.o);unfold editV at HAP;go_wp2_with (fail)
     refine HAP.o.mono ?_;rintro r W3 ⟨v',rfl,hb3,hok⟩;have HB3:=lH hb3;have HOK:=lH hok;have HONE:=lH (zZb HSI.o (e:=e) (zBi HQ.o).1.1 (zBi HQ.o).1.2);have HZ3:=lH (HZI.o.step HSEI.o HQ.o);clear hb3 hok HAP z0 z1 z2 z3 z4 zl HX2;obtain ⟨p,hp⟩:∃p,oneL (ms.map MV.m) e=p:=⟨_,rfl⟩;rw [hp] at HNX HOK HONE HZ3;rw [hp];clear hp;obtain ⟨L2,E2⟩:=p;simp only at HNX HOK HONE HZ3 ⊢
     by_cases h2:E2=0
     ·subst h2
      have HNX2:Hid (T=runL L2 (es.drop (i+1))):=by show _=_;rw [HNX.o,if_pos rfl]
      have HS3:Hid (Srt L2):=by
       rcases HONE.o with ⟨-,k,-⟩|⟨k,-⟩
       ·exact k
       ·exact absurd rfl k
      obtain ⟨ms',hm',hn',he'⟩:=HOK.o rfl;subst hm';have HNE:=lH hn';have HEE:=lH he';clear hn' he' HOK HONE HNX;go_wp2;go_roundw
      case rel=>exact ⟨i+1,ms',by omega,by go_num,HNX2,HNE,HEE,HS3,HZ3⟩
      case measure=>simp [intOf];omega
     ·have q4:(E2 != 0)=true:=by simp [h2]
      have HNX2:Hid (T=(L2,E2)):=by show _=_;rw [HNX.o,if_neg h2]
      have HE:Hid (appR l es=([],E2)):=by show _=_;rw [zSc HT.o (by rw [HTT.o,HNX2.o];exact h2),HTT.o,HNX2.o]
      clear h2 HOK HONE HNX;go_wp2;go_ret2;exact zNg HE.o HB3.o
    ·have hd2:decide ((i:Int)<(es.length:Int))=false:=decide_eq_false (by omega)
     obtain rfl:i=es.length:=by omega
     have HRUN:Hid (runL l es=(ms.map MV.m,0)):=by show _=_;rw [HTT.o,HI.o,List.drop_length];rfl
     obtain ⟨av,cv,hv⟩:=zAh HNI.o.own;subst hv;have hlm:(ms.map MV.m).length=ms.length:=List.length_map ..;have hRD:=HNI.o.reads;have HCE:=lH (zGh (ms.map MV.m) av cv wr (by rw [hlm];exact hRD) (fun m hm=>(HZI.o.mods m hm).sm (by have:=HN.o;omega)) (by have:=HZI.o.len;have:=HN.o;omega));rw [hlm] at HCE;have HRD:=lH hRD;obtain ⟨q,hq⟩:∃q,testErr (ms.map MV.m)=q:=⟨_,rfl⟩;rw [hq] at HCE;have HQ:=lH hq;clear hi hlm hRD hq;go_wp2_with (fail)
     refine HCE.o.mono ?_;rintro r W2 ⟨rfl,hb2⟩;have HB2:=lH (zA HNI.o.old hb2);have HR2:=lH (HRD.o.below hb2);clear hb2 HCE
     by_cases h0:q=0
     ·have HE:=lH (zWu HT.o HRUN.o (by rw [HQ.o];exact h0))
      have q4:(q != 0)=false:=by simp [h0]
      clear h0;go_wp2;go_ret2;exact yAb HE.o HR2.o HB2.o
     ·have HE:Hid (appR l es=([],q)):=by show _=_;rw [zWt HT.o HRUN.o (by rw [HQ.o];exact h0),HQ.o]
      have q4:(q != 0)=true:=by simp [h0]
      clear h0;go_wp2;go_ret2;exact zNg HE.o HB2.o
end Go.Proofs.YtfkjfdbjhlmjcaaGreatDoor
