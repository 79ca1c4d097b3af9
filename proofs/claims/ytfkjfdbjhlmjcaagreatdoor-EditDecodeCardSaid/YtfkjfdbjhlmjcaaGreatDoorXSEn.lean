/- The reference's Check of chapter 34. -/
import Derived.Test.YtfkjfdbjhlmjcaaGreatDoorXShG
import Derived.Test.YtfkjfdbjhlmjcaaGreatDoorXSEj
import Derived.Test.YtfkjfdbjhlmjcaaGreatDoorXSEo
set_option maxRecDepth 100000
set_option maxHeartbeats 16000000
namespace Go.Proofs.YtfkjfdbjhlmjcaaGreatDoor
open Go.RowKit Go.Shelf
attribute [local go_sem] Oper.semAt_some
theorem zEt (m:OMod):testErr [m]=modErr m:=by
 unfold testErr;rw [zBn _ (show 0<[m].length by simp),zBg _ (show [m].length≤0+1 by simp)];have h:mAt [m] 0=m:=rfl;rw [h];split
 ·rename_i h;exact h.symm
 ·rfl
theorem zNy {W:World} {d:ODecl} {an:Option Addr} {cn:Nat} {sa:Option Addr} {cs:Nat} (h:DeclIn W d an cn sa cs) :
  Reads (W.alloc (.cells (dA d an cn sa cs) 62)) [] (declsT [d]) (.slice (some ⟨W.heap.size,0,none⟩) 1 1):=by
 refine Reads.ofRow (l:=[d]) (zAs (zHd W W.heap.size (Nat.le_refl _) 62 _ _ _ _ _ _ _ _ _ _ _)) (fun _ b _=>by simp) ?_;rw [List.flatMap_cons,List.flatMap_nil,List.append_nil];exact zBr (h.names.below (zAa _ _)) (h.subs.below (zAa _ _))
theorem zPz (e:OEdit) (ao:Option Addr) (co:Nat) (af:Option Addr) (cf:Nat) (w:World) (he:EditIn w e ao co af cf) (hs:SmE e) :
  Calls Tryz.prog 22 #[editV e ao co af cf] w fun r w'=>r=.returned (.int .i64 (editErr e))∧Bw w w':=by
 have hA:=zAa w (.cells #[.int .i64 e.kind,.string e.pack,.string e.text,.slice ao e.old.length co,.slice af e.fresh.length cf] 39);have HB:=lH (CBox.new w 39 #[.int .i64 e.kind,.string e.pack,.string e.text,.slice ao e.old.length co,.slice af e.fresh.length cf]);have HF:=lH (zVy e ao co af cf _ (he.below hA) hs);have HSM:=lH (zHe hs);have HI:=lH he;have hl1:=hs.olen;have hl2:=hs.flen;have hp:editErr e=if 1≤e.kind∧e.kind≤9 then (if fitsB e then testErr (testsOf e) else 1) else 9:=rfl
 have hpt:testsOf e=if e.kind=1∨e.kind=2 then [⟨e.pack,[],[]⟩] else if e.kind=3∨e.kind=4 then [⟨e.pack,[e.text],[]⟩] else (e.old++e.fresh).map fun d=>⟨e.pack,[],[compD e.kind d]⟩:=rfl;clear he hs;unfold editV at *
 by_cases h1:e.kind<1
 ·have q1:decide (e.kind<1)=true:=decide_eq_true h1
  rw [if_neg (by omega)] at hp;have HP:=lH hp;clear hp h1 HF HSM hpt
  go_enter Tryz.func22,Tryz.ntmps22
  go_wp2;go_ret;exact ⟨zAc HP.o.symm,hA⟩
 have q1:decide (e.kind<1)=false:=decide_eq_false h1
 by_cases h9:9<e.kind
 ·have q2:decide (9<e.kind)=true:=decide_eq_true h9
  rw [if_neg (by omega)] at hp;have HP:=lH hp;clear hp h1 h9 HF HSM hpt
  go_enter Tryz.func22,Tryz.ntmps22
  go_wp2;go_ret;exact ⟨zAc HP.o.symm,hA⟩
 have q2:decide (9<e.kind)=false:=decide_eq_false h9;rw [if_pos ⟨by omega,by omega⟩] at hp;have HP:=lH hp;clear hp h1 h9;generalize fitsB e=fb at *
 cases fb with
 | false=>
  clear hpt HSM
  go_enter Tryz.func22,Tryz.ntmps22
  go_wp2_with (fail)
  refine HF.o.mono ?_;rintro r w1 ⟨rfl,hb1⟩;have hB1:=zA hA hb1;go_wp2;go_ret;exact ⟨zAc (by rw [HP.o];rfl),hB1⟩
 | true=>
 have HE:Hid (editErr e=testErr (testsOf e)):=by show _=_;rw [HP.o,if_pos rfl]
 clear HP
 by_cases e1:e.kind=1
 ·skip
  have k1:(e.kind==1)=true:=by rw [e1];rfl
  rw [if_pos (by omega)] at hpt;have HM:=lH (HSM.o ⟨e.pack,[],[]⟩ (by rw [hpt];exact List.mem_singleton.2 rfl));have HE2:Hid (editErr e=modErr ⟨e.pack,[],[]⟩):=by show _=_;rw [HE.o,hpt,zEt]
  have HR:=lH (fun w'=>zDc ⟨e.pack,[],[]⟩ none 0 none 0 w' (zAg.1 (zCm w')).1 (zBw w') HM.o);unfold modV at HR;clear hpt HE e1;generalize modErr ⟨e.pack,[],[]⟩=me at *
  go_enter Tryz.func22,Tryz.ntmps22
  go_wp2_with (fail)
  refine HF.o.mono ?_;rintro r w1 ⟨rfl,hb1⟩;have hB1:=zA hA hb1;have HB1:=lH (HB.o.below hb1);obtain ⟨m0,m1,m2,ml⟩:=zAh HB1.o;clear HF HB HB1;go_wp2_with (fail)
  refine (HR.o _).mono ?_;rintro r w2 ⟨rfl,hb2⟩;have hB2:=zA hB1 hb2;go_wp2;go_ret;exact ⟨zAc HE2.o.symm,hB2⟩
 by_cases e2:e.kind=2
 ·skip
  have k1:(e.kind==1)=false:=beq_eq_false_iff_ne.2 (by omega);have k2:(e.kind==2)=true:=by rw [e2];rfl
  rw [if_pos (by omega)] at hpt;have HM:=lH (HSM.o ⟨e.pack,[],[]⟩ (by rw [hpt];exact List.mem_singleton.2 rfl));have HE2:Hid (editErr e=modErr ⟨e.pack,[],[]⟩):=by show _=_;rw [HE.o,hpt,zEt]
  have HR:=lH (fun w'=>zDc ⟨e.pack,[],[]⟩ none 0 none 0 w' (zAg.1 (zCm w')).1 (zBw w') HM.o);unfold modV at HR;clear hpt HE e1 e2;generalize modErr ⟨e.pack,[],[]⟩=me at *
  go_enter Tryz.func22,Tryz.ntmps22
  go_wp2_with (fail)
  refine HF.o.mono ?_;rintro r w1 ⟨rfl,hb1⟩;have hB1:=zA hA hb1;have HB1:=lH (HB.o.below hb1);obtain ⟨m0,m1,m2,ml⟩:=zAh HB1.o;clear HF HB HB1;go_wp2_with (fail)
  refine (HR.o _).mono ?_;rintro r w2 ⟨rfl,hb2⟩;have hB2:=zA hB1 hb2;go_wp2;go_ret;exact ⟨zAc HE2.o.symm,hB2⟩
 by_cases e3:e.kind=3
 ·skip
  have k1:(e.kind==1)=false:=beq_eq_false_iff_ne.2 (by omega);have k2:(e.kind==2)=false:=beq_eq_false_iff_ne.2 (by omega);have k3:(e.kind==3)=true:=by rw [e3];rfl
  rw [if_neg (by omega),if_pos (by omega)] at hpt;have HM:=lH (HSM.o ⟨e.pack,[e.text],[]⟩ (by rw [hpt];exact List.mem_singleton.2 rfl));have HE2:Hid (editErr e=modErr ⟨e.pack,[e.text],[]⟩):=by show _=_;rw [HE.o,hpt,zEt]
  have HR:=lH (fun w'=>zDc ⟨e.pack,[e.text],[]⟩ (some ⟨w'.heap.size,0,none⟩) 1 none 0 _ (zAg.1 (zFh w' e.text)).1 (zBw _) HM.o);unfold modV at HR;clear hpt HE e1 e2 e3;generalize modErr ⟨e.pack,[e.text],[]⟩=me at *
  go_enter Tryz.func22,Tryz.ntmps22
  go_wp2_with (fail)
  refine HF.o.mono ?_;rintro r w1 ⟨rfl,hb1⟩;have hB1:=zA hA hb1;have HB1:=lH (HB.o.below hb1);obtain ⟨m0,m1,m2,ml⟩:=zAh HB1.o;clear HF HB HB1;go_wp2_with (fail)
  refine (HR.o _).mono ?_;rintro r w2 ⟨rfl,hb2⟩;have hB2:=zA hB1 (zA (zAa _ _) hb2);go_wp2;go_ret;exact ⟨zAc HE2.o.symm,hB2⟩
 by_cases e4:e.kind=4
 ·skip
  have k1:(e.kind==1)=false:=beq_eq_false_iff_ne.2 (by omega);have k2:(e.kind==2)=false:=beq_eq_false_iff_ne.2 (by omega);have k3:(e.kind==3)=false:=beq_eq_false_iff_ne.2 (by omega);have k4:(e.kind==4)=true:=by rw [e4];rfl
  rw [if_neg (by omega),if_pos (by omega)] at hpt;have HM:=lH (HSM.o ⟨e.pack,[e.text],[]⟩ (by rw [hpt];exact List.mem_singleton.2 rfl));have HE2:Hid (editErr e=modErr ⟨e.pack,[e.text],[]⟩):=by show _=_;rw [HE.o,hpt,zEt]
  have HR:=lH (fun w'=>zDc ⟨e.pack,[e.text],[]⟩ (some ⟨w'.heap.size,0,none⟩) 1 none 0 _ (zAg.1 (zFh w' e.text)).1 (zBw _) HM.o);unfold modV at HR;clear hpt HE e1 e2 e3 e4;generalize modErr ⟨e.pack,[e.text],[]⟩=me at *
  go_enter Tryz.func22,Tryz.ntmps22
  go_wp2_with (fail)
  refine HF.o.mono ?_;rintro r w1 ⟨rfl,hb1⟩;have hB1:=zA hA hb1;have HB1:=lH (HB.o.below hb1);obtain ⟨m0,m1,m2,ml⟩:=zAh HB1.o;clear HF HB HB1;go_wp2_with (fail)
  refine (HR.o _).mono ?_;rintro r w2 ⟨rfl,hb2⟩;have hB2:=zA hB1 (zA (zAa _ _) hb2);go_wp2;go_ret;exact ⟨zAc HE2.o.symm,hB2⟩
 rw [if_neg (by omega),if_neg (by omega)] at hpt;have k1:(e.kind==1)=false:=beq_eq_false_iff_ne.2 e1;have k2:(e.kind==2)=false:=beq_eq_false_iff_ne.2 e2;have k3:(e.kind==3)=false:=beq_eq_false_iff_ne.2 e3;have k4:(e.kind==4)=false:=beq_eq_false_iff_ne.2 e4;have HPT:=lH hpt;clear hpt e1 e2 e3 e4;obtain ⟨i0,z,hi',hz0,hzs,hz1,hz2⟩:=zBh zHc
 have HE3:Hid (editErr e=nzFrom (fun i=>modErr (mAt (testsOf e) i)) (e.old++e.fresh).length 0):=by
  show _=_
  rw [HE.o];unfold testErr;rw [show (testsOf e).length=(e.old++e.fresh).length by rw [HPT.o,List.length_map]]
 have HTS:Hid (∀(i:Nat) (d:ODecl),(e.old++e.fresh)[i]?=some d→mAt (testsOf e) i=⟨e.pack,[],[compD e.kind d]⟩∧(⟨e.pack,[],[compD e.kind d]⟩:OMod)∈testsOf e):=fun i d h=>by
  have h2:(testsOf e)[i]?=some ⟨e.pack,[],[compD e.kind d]⟩:=by rw [HPT.o,List.getElem?_map,h];rfl
  exact ⟨zF h2,List.mem_of_getElem? h2⟩
 clear HPT HE;generalize editErr e=T at *;generalize testsOf e=TS at *;generalize hf:(fun i=>modErr (mAt TS i))=f at *;have HFF:Hid (∀i,f i=modErr (mAt TS i)):=fun i=>by rw [←hf]
 clear hf
 go_enter Tryz.func22,Tryz.ntmps22
 go_wp2_with (fail)
 refine HF.o.mono ?_;rintro r w1 ⟨rfl,hb1⟩;have hB1:=zA hA hb1;have HB1:=lH (HB.o.below hb1);have m0:=HB1.o.cell (i:=0) (v:=.int .i64 e.kind) rfl;have m3:=HB1.o.cell (i:=3) (v:=.slice ao e.old.length co) rfl;have m4:=HB1.o.cell (i:=4) (v:=.slice af e.fresh.length cf) rfl;have ml:=HB1.o.lt;clear HF HB hb1;obtain ⟨xs1,hr1,-,hx1⟩:=Reads.toRow (HI.o.below hB1).old;obtain ⟨xs2,hr2,-,hx2⟩:=Reads.toRow (HI.o.below hB1).fresh;have HR1:=lH hr1;have HR2:=lH hr2;have HO1:=lH (zDp hx1);have HO2:=lH (zDp hx2)
 have HX:Hid (ReadsL w1 [] ((e.old++e.fresh).flatMap declT) (xs1++xs2)):=by show ReadsL _ _ _ _;rw [List.flatMap_append];exact ReadsL.append hx2 hx1
 have HLN:=lH (show (e.old++e.fresh).length=e.old.length+e.fresh.length from List.length_append);generalize e.old++e.fresh=L at *;clear hr1 hr2 hx1 hx2 HI;go_upto_region 9 with (fail)
 go_cut [3] from 44 to 50 (fun v wx=>∃a c,v=.slice a L.length c∧Bw w1 wx∧Hid (Reads wx [] (declsT L) (.slice a L.length c)))
 case first=>
  have SW:Hid (∀W:World,Bw w1 W→(W.cell? ⟨w.heap.size,3,none⟩=some (.slice ao e.old.length co)∧W.cell? ⟨w.heap.size,4,none⟩=some (.slice af e.fresh.length cf)∧w.heap.size<W.heap.size)):=lH (fun W hW=>⟨(hW.cell (p:=⟨w.heap.size,_,none⟩) ml).trans m3,(hW.cell (p:=⟨w.heap.size,_,none⟩) ml).trans m4,Nat.lt_of_lt_of_le ml hW.size⟩);have hdr:Bw w1 w1.drew:=(Mod.refl [] w1).drew.below
  refine wp_region_noPanic (zCl (fun W:World=>W.cell? ⟨w.heap.size,3,none⟩=some (.slice ao e.old.length co)∧W.cell? ⟨w.heap.size,4,none⟩=some (.slice af e.fresh.length cf)∧w.heap.size<W.heap.size) (.take 1 (.take 2 (.take 4 (.take 5 (.one 0 (.one 3 (.one 6 (.one 7 .done)))))))) zBm (by kernel_rfl) (fun _ _ _ _ _ h=>h) (SW.o _ hdr) ?_)
  iterate 4 (refine zEf (v:=?_) rfl (by rfl) ?_ ?_;rotate_left;(focus (intro wq hSw;(try dsimp only at hSw);go_simp;(try rw [if_neg (by first|omega|(simp;omega))]);(try with_reducible rfl)));(try simp only [gA,gB,gC,Act.put,gD,gE,gF]))
  generalize w1.drew=wd at *;have hq0:=zA hdr (zAa wd (.cells #[] 62));have HN0:=lH (World.ownsRow_made (base:=w1.heap.size) (e:=62) (size:=11) wd #[] 0 hdr.size (Nat.zero_le _) rfl)
  (refine zAj rfl (by rfl) (fun K hK=>?_);go_simp)
  refine hK.out _ _ (SW.o _ hq0) ?_;clear hK K;(try simp only [gA,gB,gC,Act.put,gD,gE,gF]);generalize World.alloc wd _=w5 at *;have hz5:=hq0.size;generalize wd.heap.size=z5 at *;refine zAj rfl (by rfl) (fun K hK=>?_);refine zEa _ _ 37 rfl w1.heap.size 62 i0 _ 11 136 Tryz.underlying37 hi' hz0 hz1 hz2 hzs (by decide) (.slice (some ⟨z5,0,none⟩) 0 0) 0 [] rfl HN0.o _ e.old.length xs1 rfl (HR1.o.below hq0) HO1.o (by unfold maxLen;omega) (by omega) hz5 ?_;intro v6 w6 hown6 hg6 hbk6
  have hq6:Bw w1 w6:=hq0.grown hg6 hz5 (fun k hk=>(HN0.o.lt k hk).1);refine hK.out _ _ (SW.o _ hq6) ?_;clear hK K;(try simp only [gA,gB,gC,Act.put,gD,gE,gF]);have hz6:=hq6.size;refine zAj rfl (by rfl) (fun K hK=>?_);refine zEa _ _ 37 rfl w1.heap.size 62 i0 _ 11 136 Tryz.underlying37 hi' hz0 hz1 hz2 hzs (by decide) v6 (0+e.old.length) ([]++xs1) rfl hown6 _ e.fresh.length xs2 rfl (HR2.o.below hq6) HO2.o (by unfold maxLen;omega) (by omega) hz6 ?_;intro v7 w7 hown7 hg7 hbk7
  have hq7:Bw w1 w7:=hq6.grown hg7 hz6 (fun k hk=>(hown6.lt k hk).1);refine hK.out _ _ (SW.o _ hq7) ?_;clear hK K;(try simp only [gA,gB,gC,Act.put,gD,gE,gF])
  (refine zAj rfl (by rfl) (fun K hK=>?_);go_simp)
  refine hK.out _ _ (SW.o _ hq7) ?_;clear hK K;(try simp only [gA,gB,gC,Act.put,gD,gE,gF]);refine zCd ?_;refine NoPanic.normal ?_;rw [Nat.zero_add,←HLN.o,List.nil_append] at hown7;obtain ⟨a7,c7,rfl⟩:=zAk hown7;have HRW:=lH (Reads.ofRow (f:=declT) (l:=L) (X:=[]) (zAs hown7) (fun _ b _=>by simp) (HX.o.below hq7))
  (try go_wp2)
  go_meet
  case rel=>exact ⟨a7,c7,rfl,hq7,HRW⟩
 case rest=>
 obtain ⟨la,lc,rfl,hb2,HL⟩:=hcut;have HB2:=lH (HB1.o.below hb2);have hB2:=zA hB1 hb2;clear m0 m3 m4 ml HR1 HR2 HO1 HO2 HX HB1 hb2 hB1;have hLl:L.length≤2000000:=by have:=HLN.o;omega
 generalize wc=w2 at *;go_wp2
 go_loopw [4] (fun iv wr=>∃i:Nat,i≤L.length∧iv=.int .i64 i∧Hid (T=nzFrom f L.length i)∧Bw w2 wr) (fun iv _=>L.length - (intOf iv).toNat)
 case atStart=>exact ⟨0,Nat.zero_le _,rfl,HE3,zAl _⟩
 case round=>
  obtain ⟨i,hil,rfl,HI,hb⟩:=hrel
  by_cases hi:i<L.length
  ·have hd:decide ((i:Int)<(L.length:Int))=true:=decide_eq_true (by omega)
   have hir:(i:Int)<(L.length:Int):=by omega
   obtain ⟨d,hdi⟩:∃d,L[i]?=some d:=⟨_,List.getElem?_eq_getElem hi⟩;obtain ⟨b,o,an,cn,sa,cs,rfl,hbl,hcell,hn1,hn2,hsn,hs1,hs2,hsr⟩:=zAv (HL.o.below hb) hdi;obtain ⟨htm,hts⟩:=HTS.o i d hdi;have HMM:=lH (HSM.o _ hts);have HN:=lH (HI.o.trans (zBn f hi));have hfk:f i=modErr ⟨e.pack,[],[compD e.kind d]⟩:=by rw [HFF.o,htm]
   rw [hfk] at HN;have HC:=lH (fun w' (h':Bw wr w')=>zNx e.kind d an cn sa cs w' (DeclIn.below ⟨hsn.out,hsr.out,hn1,hn2,hs1,hs2⟩ h'));have x0:=hcell 0 _ rfl;have x1:=hcell 1 _ rfl;have x2:=hcell 2 _ rfl;have x3:=hcell 3 _ rfl;have x4:=hcell 4 _ rfl;have x5:=hcell 5 _ rfl;have x6:=hcell 6 _ rfl;have x7:=hcell 7 _ rfl;have x8:=hcell 8 _ rfl;have x9:=hcell 9 _ rfl;have x10:=hcell 10 _ rfl;rw [Nat.add_zero] at x0;have p0:=(HB2.o.below hb).cell (i:=0) (v:=.int .i64 e.kind) rfl
   have p1:=(HB2.o.below hb).cell (i:=1) (v:=.string e.pack) rfl;have pl:=(HB2.o.below hb).lt;clear htm hts hfk hcell hsn hsr HI;unfold declL declV at *;generalize compD e.kind d=q at *
   have SW:Hid (∀W:World,Bw wr W→(W.cell? ⟨w.heap.size,0,none⟩=some (.int .i64 e.kind)∧W.cell? ⟨w.heap.size,1,none⟩=some (.string e.pack)∧w.heap.size<W.heap.size∧b<W.heap.size∧W.cell? ⟨b,o+i * 11,none⟩=some (.int .i64 d.id)∧W.cell? ⟨b,o+i * 11+1,none⟩=some (.int .i64 d.kind)∧W.cell? ⟨b,o+i * 11+2,none⟩=some (.bool d.pub)∧W.cell? ⟨b,o+i * 11+3,none⟩=some (.slice an d.names.length cn)∧W.cell? ⟨b,o+i * 11+4,none⟩=some (.bool d.doubt)∧W.cell? ⟨b,o+i * 11+5,none⟩=some (.int .i64 d.body.kind)∧W.cell? ⟨b,o+i * 11+6,none⟩=some (.string d.body.name)∧W.cell? ⟨b,o+i * 11+7,none⟩=some (.string d.body.more)∧W.cell? ⟨b,o+i * 11+8,none⟩=some (.int .i64 d.body.num)∧W.cell? ⟨b,o+i * 11+9,none⟩=some (.int .i64 d.body.den)∧W.cell? ⟨b,o+i * 11+10,none⟩=some (.slice sa d.body.subs.length cs))):=lH (fun W hW=>⟨(hW.cell (p:=⟨w.heap.size,_,none⟩) pl).trans p0,(hW.cell (p:=⟨w.heap.size,_,none⟩) pl).trans p1,Nat.lt_of_lt_of_le pl hW.size,Nat.lt_of_lt_of_le hbl hW.size,(hW.cell (p:=⟨b,_,none⟩) hbl).trans x0,(hW.cell (p:=⟨b,_,none⟩) hbl).trans x1,(hW.cell (p:=⟨b,_,none⟩) hbl).trans x2,(hW.cell (p:=⟨b,_,none⟩) hbl).trans x3,(hW.cell (p:=⟨b,_,none⟩) hbl).trans x4,(hW.cell (p:=⟨b,_,none⟩) hbl).trans x5,(hW.cell (p:=⟨b,_,none⟩) hbl).trans x6,(hW.cell (p:=⟨b,_,none⟩) hbl).trans x7,(hW.cell (p:=⟨b,_,none⟩) hbl).trans x8,(hW.cell (p:=⟨b,_,none⟩) hbl).trans x9,(hW.cell (p:=⟨b,_,none⟩) hbl).trans x10⟩)
   have hdr:Bw wr wr.drew:=(Mod.refl [] wr).drew.below;clear p0 p1 x0 x1 x2 x3 x4 x5 x6 x7 x8 x9 x10;generalize hme:modErr ⟨e.pack,[],[q]⟩=me at *;have HME:=lH hme;clear hme;go_upto_region 13 with (fail)
   go_cut [5] from 57 to 68 (fun v wx=>v=.int .i64 me∧Bw wr wx)
   case first=>
    refine wp_region_noPanic (zCp (fun W:World=>W.cell? ⟨w.heap.size,0,none⟩=some (.int .i64 e.kind)∧W.cell? ⟨w.heap.size,1,none⟩=some (.string e.pack)∧w.heap.size<W.heap.size∧b<W.heap.size∧W.cell? ⟨b,o+i * 11,none⟩=some (.int .i64 d.id)∧W.cell? ⟨b,o+i * 11+1,none⟩=some (.int .i64 d.kind)∧W.cell? ⟨b,o+i * 11+2,none⟩=some (.bool d.pub)∧W.cell? ⟨b,o+i * 11+3,none⟩=some (.slice an d.names.length cn)∧W.cell? ⟨b,o+i * 11+4,none⟩=some (.bool d.doubt)∧W.cell? ⟨b,o+i * 11+5,none⟩=some (.int .i64 d.body.kind)∧W.cell? ⟨b,o+i * 11+6,none⟩=some (.string d.body.name)∧W.cell? ⟨b,o+i * 11+7,none⟩=some (.string d.body.more)∧W.cell? ⟨b,o+i * 11+8,none⟩=some (.int .i64 d.body.num)∧W.cell? ⟨b,o+i * 11+9,none⟩=some (.int .i64 d.body.den)∧W.cell? ⟨b,o+i * 11+10,none⟩=some (.slice sa d.body.subs.length cs)) [true,true,true,true,true,true,true,true,false,false,true,false,true] zBm (by kernel_rfl) (fun _ _ _ _ _ h=>h) (SW.o _ hdr) (fun hHeld=>?_))
    iterate 8 (first|(refine zAo (by rfl) ?_;(try simp only [Act.put,List.setIfInBounds_toArray,List.set_cons_zero,List.set_cons_succ]))|(refine zAw (v:=?_) (by rfl) ?_ ?_;rotate_left;(focus (intro wq hSw;(try dsimp only at hSw);go_simp;(try with_reducible rfl)));(try simp only [Act.put,List.setIfInBounds_toArray,List.set_cons_zero,List.set_cons_succ])))
    clear hHeld;generalize wr.drew=wd at *
    (refine zDb (by rfl) (fun K hK=>?_);go_simp)
    refine (HC.o _ hdr).mono ?_;rintro r w3 ⟨xn,yn,xs,ys,rfl,hdi3,hb3⟩
    (try go_simp)
    have hb4:=zA hdr hb3;refine hK.out _ _ (SW.o _ hb4) (fun _=>?_);clear hK K;(try simp only [Act.put,List.setIfInBounds_toArray,List.set_cons_zero,List.set_cons_succ]);have hA3:=zAa w3 (.cells (dA q xn yn xs ys) 62);have hb5:=zA hb4 hA3;have HRQ:=lH (zDc ⟨e.pack,[],[q]⟩ none 0 (some ⟨w3.heap.size,0,none⟩) 1 _ (zAg.1 (zCm _)).1 (zNy hdi3) HMM.o);rw [HME.o] at HRQ;unfold modV at HRQ
    (refine zDb (by rfl) (fun K hK=>?_);go_simp)
    refine hK.out _ _ (SW.o _ hb5) (fun _=>?_);clear hK K;(try simp only [Act.put,List.setIfInBounds_toArray,List.set_cons_zero,List.set_cons_succ])
    (first|(refine zAo (by rfl) ?_;(try simp only [Act.put,List.setIfInBounds_toArray,List.set_cons_zero,List.set_cons_succ]))|(refine zAw (v:=?_) (by rfl) ?_ ?_;rotate_left;(focus (intro wq hSw;(try dsimp only at hSw);go_simp;(try with_reducible rfl)));(try simp only [Act.put,List.setIfInBounds_toArray,List.set_cons_zero,List.set_cons_succ])))
    (refine zDb (by rfl) (fun K hK=>?_);go_simp)
    refine HRQ.o.mono ?_;rintro r w6 ⟨rfl,hb6⟩
    (try go_simp)
    have hb7:=zA hb5 hb6;refine hK.out _ _ (SW.o _ hb7) (fun _=>?_);clear hK K;(try simp only [Act.put,List.setIfInBounds_toArray,List.set_cons_zero,List.set_cons_succ])
    (first|(refine zAo (by rfl) ?_;(try simp only [Act.put,List.setIfInBounds_toArray,List.set_cons_zero,List.set_cons_succ]))|(refine zAw (v:=?_) (by rfl) ?_ ?_;rotate_left;(focus (intro wq hSw;(try dsimp only at hSw);go_simp;(try with_reducible rfl)));(try simp only [Act.put,List.setIfInBounds_toArray,List.set_cons_zero,List.set_cons_succ])))
    refine zDg ?_;refine NoPanic.normal ?_
    (try go_wp2)
    go_meet
    case rel=>exact ⟨rfl,hb7⟩
   case rest=>
   obtain ⟨rfl,hb4⟩:=hcut;have hB4:=hb.trans (hb4.mono hb.size);clear SW HC
   by_cases hq:me=0
   ·rw [if_pos hq] at HN
    have q3:(me != 0)=false:=by rw [hq];rfl
    clear hq;go_wp2;go_roundw
    case rel=>exact ⟨i+1,by omega,by go_num,HN,hB4⟩
    case measure=>simp [intOf];omega
   ·rw [if_neg hq] at HN
    have q3:(me != 0)=true:=by simp [hq]
    clear hq;go_wp2;go_ret;exact ⟨zAc HN.o.symm,hB2.trans (hB4.mono hB2.size)⟩
  ·have hd:decide ((i:Int)<(L.length:Int))=false:=decide_eq_false (by omega)
   have HN:=lH (HI.o.trans (zBg f (by omega)));go_wp2;go_ret;exact ⟨zAc HN.o.symm,hB2.trans (hb.mono hB2.size)⟩
def swapB (e f:OEdit):Bool:=(editErr e==0) && ((editErr f==0) && indepB e f)
def noEdit:OEdit:=⟨0,⟨#[]⟩,⟨#[]⟩,[],[]⟩
end Go.Proofs.YtfkjfdbjhlmjcaaGreatDoor
