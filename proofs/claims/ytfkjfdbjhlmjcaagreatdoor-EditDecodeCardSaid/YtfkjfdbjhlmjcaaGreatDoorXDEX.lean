/- edit.Diff, of modules with the same labels and the same ids. -/
import Derived.Test.YtfkjfdbjhlmjcaaGreatDoorXGD
import Derived.Test.YtfkjfdbjhlmjcaaGreatDoorXBHX
set_option maxRecDepth 100000
set_option maxHeartbeats 16000000
namespace Go.Proofs.YtfkjfdbjhlmjcaaGreatDoor
open Go.RowKit Go.Shelf
attribute [local go_sem] Oper.semAt_some
def DiffPost (w:World) (a b:List OMod) (r:Ending) (w':World):Prop:=
  ∃v,r=.returned (.tuple #[v,.int .i64 (diffErr a b)])∧Reads w' [] (editsT (diffR a b)) v∧Below w.heap.size w w'
theorem zUe {w w':World} {a b:List OMod} {E:Int} (h:diffErr a b=E) (h0:E≠0) (hb:Bw w w'):DiffPost w a b (.returned (.tuple #[.slice none 0 0,.int .i64 E])) w':=
 ⟨_,by rw [h],by unfold diffR;rw [h,if_neg h0];exact Reads.nilRow _ _ _ _,hb⟩
theorem zZs {w w':World} {a b:List OMod} {v:Value} (h:diffErr a b=0) (hr:Reads w' [] (editsT (diffR a b)) v) (hb:Bw w w'):DiffPost w a b (.returned (.tuple #[v,.int .i64 0])) w':=⟨_,by rw [h],hr,hb⟩
theorem yCi {ps:List Pair} {u1 u2 u3 u4 u5:Value}:allK [(u1,addM ps),(u2,addU ps),(u3,chgD ps),(u4,remU ps),(u5,remM ps)]=diffP ps:=by
 unfold allK diffP;simp [List.flatMap_cons,List.append_assoc]
theorem zUf {w3 w:World} {R:List (Value×List OEdit)} {l:List ODecl} {v:Value} (h:Reads w3 [] (declsT l) v) (hF:Fam w3 w R):Reads w (blksF R) (declsT l) v:=by
 have:=zEg (Y:=blksF R) h (fun k hk=>(hF.lt hk).1);rw [List.append_nil] at this;exact this.below hF.old
theorem zZt (A B:List OMod) (aa ab:Option Addr) (ca cb:Nat) (n:Nat) (w:World) (ha:Reads w [] (modsT A) (.slice aa A.length ca)) (hb:Reads w [] (modsT B) (.slice ab B.length cb)) (hsl:A.map OMod.label=B.map OMod.label) (hpe:∀p∈pairsL A B,p.a.isSome=true∧p.b.isSome=true∧(declsO p.a).map ODecl.id=(declsO p.b).map ODecl.id) (hza:SzB n A) (hzb:SzB n B) (hn:n≤100) :
  Calls Tryz.prog 14 #[.slice aa A.length ca,.slice ab B.length cb] w fun r w'=>DiffPost w A B r w':=by
 obtain ⟨i0,z,hi0,hz0,hzs,hz1,hz2⟩:=zBh zHf;have hAl:=hza.len;have hBl:=hzb.len;have HRA:=lH ha;have HRB:=lH hb;have HC1:=lH (zEx A aa ca w ha (hza.sm (by omega)) (by omega));have HC2:=lH (fun W (h:Bw w W)=>zEx B ab cb W (hb.below h) (hzb.sm (by omega)) (by omega));have HP:=lH (fun W (h:Bw w W)=>zZh A B aa ab ca cb W (ha.below h) (hb.below h) hsl (by omega) (by omega));have HSM:=lH (zSq hza hzb hn);have HPN:=lH (zZj _ (a:=A) (b:=B) rfl)
 have HE1:Hid (modsErr A≠0→diffErr A B=modsErr A):=fun h=>by unfold diffErr;rw [if_neg h]
 have HE2:Hid (modsErr A=0→diffErr A B=modsErr B):=fun h=>by unfold diffErr;rw [if_pos h]
 have HEF:Hid (modsErr A=0→modsErr B=0→diffErr A B=0∧diffR A B=diffP (pairsL A B)):=fun h k=>by
  have e:diffErr A B=0:=by unfold diffErr;rw [if_pos h];exact k
  exact ⟨e,by unfold diffR;rw [if_pos e];rfl⟩
 have HPE:=lH hpe;clear ha hb hza hzb hsl hpe;generalize modsErr A=E1 at *;generalize modsErr B=E2 at *
 go_enter Tryz.func14,Tryz.ntmps14
 go_wp2_with (fail)
 refine HC1.o.mono ?_;rintro r w1 ⟨rfl,hb1⟩;have HB1:=lH hb1;clear hb1 HC1
 by_cases h0:E1=0
 rotate_left
 ·have q1:(E1 != 0)=true:=by simp [h0]
  have HX:=lH (HE1.o h0);have H0:=lH h0;clear h0;go_wp2;go_ret2;exact zUe HX.o H0.o HB1.o
 have HX2:=lH (HE2.o h0);have HXF:=lH (HEF.o h0);subst h0;clear HE1 HE2 HEF;go_wp2_with (fail)
 refine (HC2.o w1 HB1.o).mono ?_;rintro r w2 ⟨rfl,hb2⟩;have HB2:=lH (zA HB1.o hb2);clear hb2 HC2 HB1
 by_cases h0:E2=0
 rotate_left
 ·have q1:(E2 != 0)=true:=by simp [h0]
  have H0:=lH h0;clear h0;go_wp2;go_ret2;exact zUe HX2.o H0.o HB2.o
 obtain ⟨hxe,hxr⟩:=HXF.o h0;have HXE:=lH hxe;have HXR:=lH hxr;subst h0;clear HX2 HXF hxe hxr;generalize pairsL A B=ps at *;go_wp2_with (fail)
 refine (HP.o w2 HB2.o).mono ?_;rintro r w3 ⟨v,rfl,hop,hb3⟩;have hps:=hop.reads hb3;obtain ⟨xs0,hx0,-⟩:=hop;obtain ⟨va,vc,rfl⟩:=zAk hx0;have HPS:=lH hps;have HB3:=lH (zA HB2.o hb3);have hpn:ps.length≤200:=by have:=HPN.o;omega
 have HN0:=lH (Fam.start w3 w3 (zAl _) 5);clear hps hx0 hb3 HP HPN HB2;go_wp2
 go_loopw [29,8,9,10,11,12] (fun iv v1 v2 v3 v4 v5 wr=>∃i:Nat,i≤ps.length∧iv=.int .i64 i∧Hid (Fam w3 wr [(v1,addM (ps.take i)),(v2,addU (ps.take i)),(v3,chgD (ps.take i)),(v4,remU (ps.take i)),(v5,remM (ps.take i))])) (fun iv _ _ _ _ _ _=>ps.length - (intOf iv).toNat)
 case atStart=>exact ⟨0,Nat.zero_le _,rfl,HN0⟩
 case round=>
  clear HN0;obtain ⟨i,hil,rfl,HF⟩:=hrel;obtain ⟨l1,l2,l3,l4,l5⟩:=yCe (qs:=ps.take i) (fun p hp=>HSM.o.1 p (List.mem_of_mem_take hp)) (by rw [List.length_take];omega);obtain ⟨a1,c1,rfl⟩:=Fam.val (P:=[]) HF.o;obtain ⟨a2,c2,rfl⟩:=Fam.val (P:=[_]) HF.o;obtain ⟨a3,c3,rfl⟩:=Fam.val (P:=[_,_]) HF.o;obtain ⟨a4,c4,rfl⟩:=Fam.val (P:=[_,_,_]) HF.o;obtain ⟨a5,c5,rfl⟩:=Fam.val (P:=[_,_,_,_]) HF.o
  by_cases hi:i<ps.length
  ·have hd:decide ((i:Int)<(ps.length:Int))=true:=decide_eq_true (by omega)
   have hir:(i:Int)<(ps.length:Int):=by omega
   obtain ⟨p,hpi⟩:∃p,ps[i]?=some p:=⟨_,List.getElem?_eq_getElem hi⟩;have hpm:=List.mem_of_getElem? hpi;have HN1:=lH (zZk hpi);have HN2:=lH (zZm hpi);have HN3:=lH (zZn hpi);have HN4:=lH (zZo hpi);have HN5:=lH (zZl hpi);obtain ⟨b,q,ua,uc,da,dc,ub,uk,db,dk,rfl,hbl,hcl,hru1,hrd1,hru2,hrd2⟩:=zZi HPS.o hpi;obtain ⟨s1,s2,s3,s4⟩:=HSM.o.1 p hpm;obtain ⟨t1,t2⟩:=HSM.o.2 p hpm;obtain ⟨e1,e2,e3⟩:=HPE.o p hpm;rw [zFm,zFm] at e3;have HQ1:=lH e1;have HQ2:=lH e2
   have HQ3:=lH e3;clear e1 e2 e3;rw [zOh,zOh] at HN2 HN4;rw [zFm,zFm] at HN3;rw [zOh] at s1 s2;rw [zFm] at s3 s4 t1 t2;clear hpi hpm;generalize p.a.getD noMod=ma at *;generalize p.b.getD noMod=mb at *;generalize p.a.isSome=qa at *;generalize p.b.isSome=qb at *;have T1:=lH t1;have T2:=lH t2;have HRU1:=lH hru1;have HRD1:=lH hrd1;have HRU2:=lH hru2;have HRD2:=lH hrd2;obtain ⟨M1,hM1⟩:∃M,addM (ps.take i)=M:=⟨_,rfl⟩;obtain ⟨M2,hM2⟩:∃M,addU (ps.take i)=M:=⟨_,rfl⟩
   obtain ⟨M3,hM3⟩:∃M,chgD (ps.take i)=M:=⟨_,rfl⟩;obtain ⟨M4,hM4⟩:∃M,remU (ps.take i)=M:=⟨_,rfl⟩;obtain ⟨M5,hM5⟩:∃M,remM (ps.take i)=M:=⟨_,rfl⟩;rw [hM1] at HN1 HF l1 ⊢;rw [hM2] at HN2 HF l2 ⊢;rw [hM3] at HN3 HF l3 ⊢;rw [hM4] at HN4 HF l4 ⊢;rw [hM5] at HN5 HF l5 ⊢;clear hM1 hM2 hM3 hM4 hM5 t1 t2 hru1 hrd1 hru2 hrd2;have hob:=HF.o.old;have hbr:b<wr.heap.size:=Nat.lt_of_lt_of_le hbl hob.size;have x0:wr.cell? ⟨b,q+i * 9,none⟩=some (.string p.label):=(hob.cell (p:=⟨b,_,none⟩) hbl).trans (hcl 0 _ rfl)
   have x1:wr.cell? ⟨b,q+i * 9+1,none⟩=some (.bool qa):=(hob.cell (p:=⟨b,_,none⟩) hbl).trans (hcl 1 _ rfl);have x2:wr.cell? ⟨b,q+i * 9+2,none⟩=some (.bool qb):=(hob.cell (p:=⟨b,_,none⟩) hbl).trans (hcl 2 _ rfl);have x3:wr.cell? ⟨b,q+i * 9+3,none⟩=some (.string ma.label):=(hob.cell (p:=⟨b,_,none⟩) hbl).trans (hcl 3 _ rfl);have x4:wr.cell? ⟨b,q+i * 9+4,none⟩=some (.slice ua ma.uses.length uc):=(hob.cell (p:=⟨b,_,none⟩) hbl).trans (hcl 4 _ rfl)
   have x5:wr.cell? ⟨b,q+i * 9+5,none⟩=some (.slice da ma.decls.length dc):=(hob.cell (p:=⟨b,_,none⟩) hbl).trans (hcl 5 _ rfl);have x6:wr.cell? ⟨b,q+i * 9+6,none⟩=some (.string mb.label):=(hob.cell (p:=⟨b,_,none⟩) hbl).trans (hcl 6 _ rfl);have x7:wr.cell? ⟨b,q+i * 9+7,none⟩=some (.slice ub mb.uses.length uk):=(hob.cell (p:=⟨b,_,none⟩) hbl).trans (hcl 7 _ rfl);have x8:wr.cell? ⟨b,q+i * 9+8,none⟩=some (.slice db mb.decls.length dk):=(hob.cell (p:=⟨b,_,none⟩) hbl).trans (hcl 8 _ rfl)
   have hFD:FamD w3 (wr.alloc (.cells #[.string p.label,.bool qa,.bool qb,.string ma.label,.slice ua ma.uses.length uc,.slice da ma.decls.length dc,.string mb.label,.slice ub mb.uses.length uk,.slice db mb.decls.length dk] 71)) [(.slice a1 M1.length c1,M1),(.slice a2 M2.length c2,M2),(.slice a3 M3.length c3,M3),(.slice a4 M4.length c4,M4),(.slice a5 M5.length c5,M5)] wr.heap.size #[.string p.label,.bool qa,.bool qb,.string ma.label,.slice ua ma.uses.length uc,.slice da ma.decls.length dc,.string mb.label,.slice ub mb.uses.length uk,.slice db mb.decls.length dk]:=⟨HF.o.below (zAa _ _),CBox.new _ _ _,fun k hk e=>by have:=(HF.o.lt hk).2;omega⟩
   obtain ⟨D,hD⟩:∃D,wr.heap.size=D:=⟨_,rfl⟩;rw [hD] at hFD;have HG:=lH hFD;clear hFD hob hcl hbl;go_upto_region 11 with (fail)
   clear hbr x0 x1 x2 x3 x4 x5 x6 x7 x8;generalize World.alloc wr _=W0 at *
   (try rw [hD])
   clear hD
   cases qa with
   | true=>
    simp only [if_true,List.append_nil] at HN1
    have yq:=HG.o.box.cell (i:=1) (v:=.bool true) rfl;have yql:=HG.o.box.lt;go_upto_region 13 with (fail)
    clear yq yql;have y0:=HG.o.box.cell (i:=0) (v:=.string p.label) rfl;have y4:=HG.o.box.cell (i:=4) (v:=.slice ua ma.uses.length uc) rfl;have y7:=HG.o.box.cell (i:=7) (v:=.slice ub mb.uses.length uk) rfl;have yl:=HG.o.box.lt;have HUE:=lH (zIx 3 p.label mb.uses ma.uses ub ua uk uc W0 (zAg.1 (HRU2.o.below HG.o.fam.old)).1 (zAg.1 (HRU1.o.below HG.o.fam.old)).1 (by omega) (by omega));go_wp2_with (fail)
    refine HUE.o.mono ?_;rintro r Vtu ⟨vu,rfl,⟨zs,hown6,hzs6⟩,hb6⟩;obtain ⟨au6,cu6,rfl⟩:=zAk hown6;have HGb:=lH (HG.o.below hb6);have hrow6:=zAs hown6;have HZS:Hid (ReadsL Vtu (blksF [(.slice a1 M1.length c1,M1),(.slice a2 M2.length c2,M2),(.slice a3 M3.length c3,M3),(.slice a4 M4.length c4,M4),(.slice a5 M5.length c5,M5)]) ((useE 3 p.label mb.uses ma.uses).flatMap editT) zs):=zOi zQl (hzs6.below hb6);have HONE:=lH (zHj HZS.o);have hul:=zJg 3 p.label mb.uses ma.uses
    obtain ⟨ys,hown,hys⟩:=FamD.row (P:=[_]) HGb.o;have HYS:=lH hys;have HOW:=lH hown;have hsw3:=HGb.o.fam.old.size;clear hown6 hzs6 hb6 HUE hown hys HG;clear y0 y4 y7 yl;go_wp2_with (at_builtin;refine zAd rfl _ _ 23 rfl w3.heap.size 39 i0 _ 5 88 Tryz.underlying23 hi0 hz0 hz1 hz2 hzs (by decide) _ _ _ rfl HOW.o _ _ _ rfl hrow6 HONE.o (by unfold maxLen;omega) (by omega) (by omega) ?_)
    intro vtu wtu hown5 hg5 hbk5;have HG:Hid (FamD w3 wtu [(.slice a1 M1.length c1,M1),(vtu,M2++useE 3 p.label mb.uses ma.uses),(.slice a3 M3.length c3,M3),(.slice a4 M4.length c4,M4),(.slice a5 M5.length c5,M5)] D #[.string p.label,.bool true,.bool qb,.string ma.label,.slice ua ma.uses.length uc,.slice da ma.decls.length dc,.string mb.label,.slice ub mb.uses.length uk,.slice db mb.decls.length dk]):=FamD.grown (P:=[_]) (l2:=useE 3 p.label mb.uses ma.uses) HGb.o HYS.o HZS.o hown5 hg5 hbk5;clear hown5 hg5 hbk5 HGb HOW HYS HZS HONE hrow6 hsw3
    obtain ⟨Mtu,hMtu⟩:∃M,M2++useE 3 p.label mb.uses ma.uses=M:=⟨_,rfl⟩;rw [hMtu] at HG HN2;clear hMtu hul;obtain ⟨axtu,cxtu,rfl⟩:=Fam.val (P:=[_]) HG.o.fam;have y0:=HG.o.box.cell (i:=0) (v:=.string p.label) rfl;have y5:=HG.o.box.cell (i:=5) (v:=.slice da ma.decls.length dc) rfl;have y8:=HG.o.box.cell (i:=8) (v:=.slice db mb.decls.length dk) rfl;have yl:=HG.o.box.lt
    have HDE:=lH (zOk p.label ma.decls mb.decls da db dc dk (blksF [(.slice a1 M1.length c1,M1),(.slice axtu Mtu.length cxtu,Mtu),(.slice a3 M3.length c3,M3),(.slice a4 M4.length c4,M4),(.slice a5 M5.length c5,M5)]) wtu (fun k hk=>(HG.o.fam.lt hk).2) (zUf HRD1.o HG.o.fam) (zUf HRD2.o HG.o.fam) HQ3.o (by omega) (by omega) T1.o T2.o);go_wp2_with (fail)
    refine HDE.o.mono ?_;rintro r Vtd ⟨vu,rfl,⟨zs,hown6,hzs6⟩,hb6⟩;obtain ⟨au6,cu6,rfl⟩:=zAk hown6;have HGb:=lH (HG.o.below hb6);have hrow6:=zAs hown6;have HZS:Hid (ReadsL Vtd (blksF [(.slice a1 M1.length c1,M1),(.slice axtu Mtu.length cxtu,Mtu),(.slice a3 M3.length c3,M3),(.slice a4 M4.length c4,M4),(.slice a5 M5.length c5,M5)]) ((declE p.label ma.decls mb.decls).flatMap editT) zs):=hzs6.fewer (fun k hk=>List.mem_append_right _ hk);have HONE:=lH (zHj HZS.o)
    have hul:=zQm p.label _ (xs:=ma.decls) (bs:=mb.decls) rfl;obtain ⟨ys,hown,hys⟩:=FamD.row (P:=[_,_]) HGb.o;have HYS:=lH hys;have HOW:=lH hown;have hsw3:=HGb.o.fam.old.size;clear hown6 hzs6 hb6 HDE hown hys HG;clear y0 y5 y8 yl;go_wp2_with (at_builtin;refine zAd rfl _ _ 23 rfl w3.heap.size 39 i0 _ 5 88 Tryz.underlying23 hi0 hz0 hz1 hz2 hzs (by decide) _ _ _ rfl HOW.o _ _ _ rfl hrow6 HONE.o (by unfold maxLen;omega) (by omega) (by omega) ?_)
    intro vtd wtd hown5 hg5 hbk5;have HG:Hid (FamD w3 wtd [(.slice a1 M1.length c1,M1),(.slice axtu Mtu.length cxtu,Mtu),(vtd,M3++declE p.label ma.decls mb.decls),(.slice a4 M4.length c4,M4),(.slice a5 M5.length c5,M5)] D #[.string p.label,.bool true,.bool qb,.string ma.label,.slice ua ma.uses.length uc,.slice da ma.decls.length dc,.string mb.label,.slice ub mb.uses.length uk,.slice db mb.decls.length dk]):=FamD.grown (P:=[_,_]) (l2:=declE p.label ma.decls mb.decls) HGb.o HYS.o HZS.o hown5 hg5 hbk5
    clear hown5 hg5 hbk5 HGb HOW HYS HZS HONE hrow6 hsw3;obtain ⟨Mtd,hMtd⟩:∃M,M3++declE p.label ma.decls mb.decls=M:=⟨_,rfl⟩;rw [hMtd] at HG HN3;clear hMtd hul;obtain ⟨axtd,cxtd,rfl⟩:=Fam.val (P:=[_,_]) HG.o.fam;have y0:=HG.o.box.cell (i:=0) (v:=.string p.label) rfl;have y4:=HG.o.box.cell (i:=4) (v:=.slice ua ma.uses.length uc) rfl;have y7:=HG.o.box.cell (i:=7) (v:=.slice ub mb.uses.length uk) rfl;have yl:=HG.o.box.lt
    have HUE:=lH (zIx 4 p.label ma.uses mb.uses ua ub uc uk wtd (zAg.1 (HRU1.o.below HG.o.fam.old)).1 (zAg.1 (HRU2.o.below HG.o.fam.old)).1 (by omega) (by omega));go_wp2_with (fail)
    refine HUE.o.mono ?_;rintro r Vtr ⟨vu,rfl,⟨zs,hown6,hzs6⟩,hb6⟩;obtain ⟨au6,cu6,rfl⟩:=zAk hown6;have HGb:=lH (HG.o.below hb6);have hrow6:=zAs hown6;have HZS:Hid (ReadsL Vtr (blksF [(.slice a1 M1.length c1,M1),(.slice axtu Mtu.length cxtu,Mtu),(.slice axtd Mtd.length cxtd,Mtd),(.slice a4 M4.length c4,M4),(.slice a5 M5.length c5,M5)]) ((useE 4 p.label ma.uses mb.uses).flatMap editT) zs):=zOi zQl (hzs6.below hb6);have HONE:=lH (zHj HZS.o);have hul:=zJg 4 p.label ma.uses mb.uses
    obtain ⟨ys,hown,hys⟩:=FamD.row (P:=[_,_,_]) HGb.o;have HYS:=lH hys;have HOW:=lH hown;have hsw3:=HGb.o.fam.old.size;clear hown6 hzs6 hb6 HUE hown hys HG;clear y0 y4 y7 yl;go_wp2_with (at_builtin;refine zAd rfl _ _ 23 rfl w3.heap.size 39 i0 _ 5 88 Tryz.underlying23 hi0 hz0 hz1 hz2 hzs (by decide) _ _ _ rfl HOW.o _ _ _ rfl hrow6 HONE.o (by unfold maxLen;omega) (by omega) (by omega) ?_)
    intro vtr wtr hown5 hg5 hbk5;have HG:Hid (FamD w3 wtr [(.slice a1 M1.length c1,M1),(.slice axtu Mtu.length cxtu,Mtu),(.slice axtd Mtd.length cxtd,Mtd),(vtr,M4++useE 4 p.label ma.uses mb.uses),(.slice a5 M5.length c5,M5)] D #[.string p.label,.bool true,.bool qb,.string ma.label,.slice ua ma.uses.length uc,.slice da ma.decls.length dc,.string mb.label,.slice ub mb.uses.length uk,.slice db mb.decls.length dk]):=FamD.grown (P:=[_,_,_]) (l2:=useE 4 p.label ma.uses mb.uses) HGb.o HYS.o HZS.o hown5 hg5 hbk5
    clear hown5 hg5 hbk5 HGb HOW HYS HZS HONE hrow6 hsw3;obtain ⟨Mtr,hMtr⟩:∃M,M4++useE 4 p.label ma.uses mb.uses=M:=⟨_,rfl⟩;rw [hMtr] at HG HN4;clear hMtr hul;obtain ⟨axtr,cxtr,rfl⟩:=Fam.val (P:=[_,_,_]) HG.o.fam
    cases qb with
    | true=>
     simp only [if_true,List.append_nil] at HN5
     have y2:=HG.o.box.cell (i:=2) (v:=.bool true) rfl;have yl:=HG.o.box.lt
     have HFN:Hid (Fam w3 wtr [(.slice a1 M1.length c1,addM (ps.take (i+1))),(.slice axtu Mtu.length cxtu,addU (ps.take (i+1))),(.slice axtd Mtd.length cxtd,chgD (ps.take (i+1))),(.slice axtr Mtr.length cxtr,remU (ps.take (i+1))),(.slice a5 M5.length c5,remM (ps.take (i+1)))]):=by
      show Fam _ _ _
      rw [HN1.o,HN2.o,HN3.o,HN4.o,HN5.o];exact HG.o.fam
     go_wp2;clear HG;go_roundw
     case rel=>exact ⟨i+1,by omega,by go_num,HFN⟩
     case measure=>simp [intOf];omega
    | false=>
     cases HQ2.o
   | false=>
    simp only [Bool.false_eq_true,if_false] at HN1
    cases HQ1.o
  ·have hd:decide ((i:Int)<(ps.length:Int))=false:=decide_eq_false (by omega)
   obtain rfl:i=ps.length:=by omega
   rw [List.take_length] at HF l1 l2 l3 l4 l5 ⊢;have hq6:=zAa wr (.cells #[.slice a1 (addM ps).length c1,.slice a2 (addU ps).length c2,.slice a3 (chgD ps).length c3,.slice a4 (remU ps).length c4,.slice a5 (remM ps).length c5] 23);have HB6:=lH (zA HB3.o (zA HF.o.old hq6));have hbx:=CBox.new wr 23 #[.slice a1 (addM ps).length c1,.slice a2 (addU ps).length c2,.slice a3 (chgD ps).length c3,.slice a4 (remU ps).length c4,.slice a5 (remM ps).length c5]
   have HCE:=lH (zSp [(.slice a1 (addM ps).length c1,addM ps),(.slice a2 (addU ps).length c2,addU ps),(.slice a3 (chgD ps).length c3,chgD ps),(.slice a4 (remU ps).length c4,remU ps),(.slice a5 (remM ps).length c5,remM ps)] wr.heap.size 5 _ rfl (fun q hq=>(HF.o.reads hq).below hq6) hbx.lt (fun k q hk=>hbx.cell (by
    match k,hk with
    | 0,hk=>cases hk;rfl
    | 1,hk=>cases hk;rfl
    | 2,hk=>cases hk;rfl
    | 3,hk=>cases hk;rfl
    | 4,hk=>cases hk;rfl
    | k+5,hk=>cases hk)) (by rw [zU];unfold allK;simp only [List.flatMap_cons,List.flatMap_nil,List.length_append,List.length_nil];omega) (by omega))
   rw [yCi] at HCE;rw [←HXR.o] at HCE;clear hq6 hbx HF;go_wp2_with (fail)
   refine HCE.o.mono ?_;rintro r W7 ⟨a7,c7,rfl,hr7,hb7⟩;have HR7:=lH hr7;have HB7:=lH (zA HB6.o hb7);clear hr7 hb7 HCE;go_wp2;go_ret2;exact zZs HXE.o HR7.o HB7.o
def mN34:ByteArray:=⟨#[109]⟩
def m34D (s:ByteArray) (n:Int):ODecl:=⟨7,1,false,[s],false,.mk 1 ⟨#[]⟩ ⟨#[]⟩ n 0 []⟩
def m34 (s:ByteArray) (n:Int):OMod:=⟨mN34,[],[m34D s n]⟩
theorem zSs (s:ByteArray) (n:Int) (hs:s.size≤40000) (hn:inI n):SmD (m34D s n)∧nodesN (m34D s n).body≤1000000:=
 ⟨⟨fun x hx=>by simp only [m34D,List.mem_singleton] at hx;subst hx;exact hs,(by decide:1≤1000000),yCa 1 n ⟨by decide,by decide⟩ hn,(by decide:1≤4000000)⟩,(by decide:1≤1000000)⟩
theorem yDh (s:ByteArray) (n:Int) (hs:s.size≤40000) (hn:inI n):SzB 10 [m34 s n]:=
 ⟨by simp,fun m hm=>by
  rw [List.mem_singleton] at hm;subst hm
  exact ⟨⟨(by decide:mN34.size≤40000),fun x hx=>(by simp [m34] at hx),Nat.zero_le _,(by simp [m34])⟩,fun d hd=>by
   simp only [m34,List.mem_singleton] at hd
   subst hd
   exact zSs s n hs hn⟩⟩
theorem yCj:modsErr [m34 fName 1]=0:=by kernel_rfl
theorem yCk:modsErr [m34 gName 2]=0:=by kernel_rfl
def e34 (k:Int):OEdit:=partE7 mN34 (m34D fName 1) (m34D gName 2) k
theorem zMx:pairsL [m34 fName 1] [m34 gName 2]=[⟨mN34,some (m34 fName 1),some (m34 gName 2)⟩]:=by
 have h0:¬ltB mN34 mN34=true:=by rw [zOa.irr];simp
 rw [pairsL,if_neg (show ¬ltB (m34 fName 1).label (m34 gName 2).label=true from h0),if_neg (show ¬ltB (m34 gName 2).label (m34 fName 1).label=true from h0),pairsL];rfl
theorem yCl:diffL [m34 fName 1] [m34 gName 2]=[e34 7,e34 8]:=by
 have h1:=zMx
 have h2:declE mN34 [m34D fName 1] [m34D gName 2]=partsL mN34 (m34D fName 1) (m34D gName 2):=by
  rw [declE,if_neg (show ¬(m34D fName 1).id<(m34D gName 2).id by decide),if_neg (show ¬(m34D gName 2).id<(m34D fName 1).id by decide),declE,List.append_nil]
 have h3:partsL mN34 (m34D fName 1) (m34D gName 2)=[e34 7,e34 8]:=by kernel_rfl
 unfold diffL;rw [h1];show []++(([]:List OEdit)++[])++(declE mN34 [m34D fName 1] [m34D gName 2]++[])++(([]:List OEdit)++[])++[]=_
 rw [h2,h3];rfl
theorem zQr:diffErr [m34 fName 1] [m34 gName 2]=0:=by unfold diffErr;rw [if_pos yCj,yCk]
theorem zZu:diffR [m34 fName 1] [m34 gName 2]=[e34 7,e34 8]:=by unfold diffR;rw [if_pos zQr,yCl]
theorem yEl:appR [m34 fName 1] [e34 7,e34 8]=([m34 gName 2],0):=by kernel_rfl
theorem zZv:∀p∈pairsL [m34 fName 1] [m34 gName 2],p.a.isSome=true∧p.b.isSome=true∧(declsO p.a).map ODecl.id=(declsO p.b).map ODecl.id:=fun p hp=>by
 rw [zMx,List.mem_singleton] at hp;subst hp;exact ⟨rfl,rfl,rfl⟩
theorem zZw {k:Int} {d:ODecl} (h:SmD d∧nodesN d.body≤1000000):SmD (partD k d)∧nodesN (partD k d).body≤1000000:=by
 have hx:SmX 40000 exZ:=.mk (by decide) (by decide) ⟨by decide,by decide⟩ ⟨by decide,by decide⟩ ⟨by decide,by decide⟩ (fun y hy=>by cases hy);have hz:nodesN exZ≤1000000:=by decide
 unfold partD;split
 ·exact ⟨⟨h.1.names,h.1.len,hx,by show nodesN exZ≤_;omega⟩,hz⟩
 split
 ·exact ⟨⟨fun s hs=>(List.not_mem_nil hs).elim,Nat.zero_le _,h.1.body,h.1.nodes⟩,h.2⟩
 split
 ·exact ⟨⟨fun s hs=>(List.not_mem_nil hs).elim,Nat.zero_le _,hx,by show nodesN exZ≤_;omega⟩,hz⟩
 ·exact h
theorem zZx {p:ByteArray} {a b:ODecl} {k:Int} (hp:p.size≤40000) (ha:SmD a∧nodesN a.body≤1000000) (hb:SmD b∧nodesN b.body≤1000000):SmE (partE7 p a b k):=
 ⟨hp,(by decide:noText.size≤40000),fun d hd=>by
  have:d=partD k a:=by simpa [partE7] using hd
  rw [this];exact zZw ha,fun d hd=>by
  have:d=partD k b:=by simpa [partE7] using hd
  rw [this];exact zZw hb,(by decide:1≤1000000),(by decide:1≤1000000)⟩
theorem yFa (k:Int):SmE (e34 k):=zZx (by decide) (zSs _ _ (by decide) ⟨by decide,by decide⟩) (zSs _ _ (by decide) ⟨by decide,by decide⟩)
theorem zIy (s:ByteArray) (n:Int) (w:World) :
  Calls Tryz.prog 28 #[.string s,.int .i64 n] w fun r w'=>∃a c,r=.returned (.slice a 1 c)∧Reads w' [] (modsT [m34 s n]) (.slice a 1 c)∧Bw w w':=by
 have h1:=zFh w s;have hq1:=zAa w (.cells #[.string s] 9);have hs1:(w.alloc (.cells #[.string s] 9)).heap.size=w.heap.size+1:=by rw [World.size_alloc]
 have hq2:=zAa (w.alloc (.cells #[.string s] 9)) (.cells #[.int .i64 7,.int .i64 1,.bool false,.slice (some ⟨w.heap.size,0,none⟩) 1 1,.bool false,.int .i64 1,.string ⟨#[]⟩,.string ⟨#[]⟩,.int .i64 n,.int .i64 0,.slice none 0 0] 62);have hx2:=CBox.new (w.alloc (.cells #[.string s] 9)) 62 #[.int .i64 7,.int .i64 1,.bool false,.slice (some ⟨w.heap.size,0,none⟩) 1 1,.bool false,.int .i64 1,.string ⟨#[]⟩,.string ⟨#[]⟩,.int .i64 n,.int .i64 0,.slice none 0 0];rw [hs1] at hx2
 have hs2:((w.alloc (.cells #[.string s] 9)).alloc (.cells #[.int .i64 7,.int .i64 1,.bool false,.slice (some ⟨w.heap.size,0,none⟩) 1 1,.bool false,.int .i64 1,.string ⟨#[]⟩,.string ⟨#[]⟩,.int .i64 n,.int .i64 0,.slice none 0 0] 62)).heap.size=w.heap.size+1+1:=by rw [World.size_alloc,hs1]
 have h2:=h1.below hq2;have hb2:=zA hq1 hq2;obtain ⟨w2,hw2⟩:∃w2,(w.alloc (.cells #[.string s] 9)).alloc (.cells #[.int .i64 7,.int .i64 1,.bool false,.slice (some ⟨w.heap.size,0,none⟩) 1 1,.bool false,.int .i64 1,.string ⟨#[]⟩,.string ⟨#[]⟩,.int .i64 n,.int .i64 0,.slice none 0 0] 62)=w2:=⟨_,rfl⟩;rw [hw2] at hq2 hx2 hs2 h2 hb2
 have hd:Reads w2 [] (declsT [m34D s n]) (.slice (some ⟨w.heap.size+1,0,none⟩) 1 1):=zOj (Y:=[]) (d:=m34D s n) (an:=some ⟨w.heap.size,0,none⟩) (cn:=1) (sa:=none) (cs:=0) hx2 (zBr h2 (Reads.nilRow _ _ _ _)) (by simp);have hq3:=zAa w2 (.cells #[.string ⟨#[109]⟩,.slice none 0 0,.slice (some ⟨w.heap.size+1,0,none⟩) 1 1] 52);have hR:=zAs (zJf w2 w2.heap.size (Nat.le_refl _) 52 #[.string ⟨#[109]⟩,.slice none 0 0,.slice (some ⟨w.heap.size+1,0,none⟩) 1 1] 3 1 rfl (by omega));rw [hs2] at hR
 have hrm:Reads (w2.alloc (.cells #[.string ⟨#[109]⟩,.slice none 0 0,.slice (some ⟨w.heap.size+1,0,none⟩) 1 1] 52)) [] (modsT [m34 s n]) (.slice (some ⟨w.heap.size+1+1,0,none⟩) 1 1):=
  Reads.ofRow (l:=[m34 s n]) hR (fun _ b _=>by simp) (ReadsL.cons (Reads.leaf' _ _ _) (ReadsL.cons (Reads.nilRow _ _ _ _) (ReadsL.cons (hd.below hq3) (ReadsL.nil _ _))))
 have HRM:=lH hrm;have HBB:=lH (zA hb2 hq3);have HW2:=lH hw2;clear h1 hq1 hs1 hq2 hx2 hs2 h2 hb2 hd hq3 hR hrm hw2
 go_enter Tryz.func28,Tryz.ntmps28
 go_wp2
 (try rw [HW2.o])
 go_ret;exact ⟨_,_,rfl,HRM.o,HBB.o⟩
theorem zKt (w:World):Calls Tryz.prog 10 #[] w fun r w'=>r=.returned (.bool true)∧Bw w w':=by
 have hz1:=yDh fName 1 (by decide) ⟨by decide,by decide⟩;have hz2:=yDh gName 2 (by decide) ⟨by decide,by decide⟩;have HM:=lH (fun W=>zIy fName 1 W);have HM2:=lH (fun W=>zIy gName 2 W);have HD:=lH (fun (a b:Option Addr) (c d:Nat) (W:World) (h1:Reads W [] (modsT [m34 fName 1]) (.slice a 1 c)) (h2:Reads W [] (modsT [m34 gName 2]) (.slice b 1 d))=>zZt [m34 fName 1] [m34 gName 2] a b c d 10 W h1 h2 rfl zZv hz1 hz2 (by omega))
 have HS:Hid (∀x∈[e34 7,e34 8],SmE x):=fun x hx=>by
  simp only [List.mem_cons,List.not_mem_nil,or_false] at hx
  rcases hx with rfl|rfl<;>exact yFa _
 have HA:=lH (fun (a b:Option Addr) (c d:Nat) (W:World) (h1:Reads W [] (modsT [m34 fName 1]) (.slice a 1 c)) (h2:Reads W [] (editsT [e34 7,e34 8]) (.slice b 2 d))=>zSm [m34 fName 1] [e34 7,e34 8] a c b d 10 W h1 h2 hz1 (by simp) HS.o (fun e he=>by rcases List.mem_cons.1 he with rfl|he;exact .inl rfl;rw [List.mem_singleton.1 he];exact .inr rfl));have HZ2:=lH hz2;clear hz1 hz2;unfold DiffPost at HD;rw [zQr,zZu] at HD;unfold AppPost at HA;rw [yEl] at HA;simp only [List.length_cons,List.length_nil,Nat.zero_add,Nat.reduceAdd] at HD HA
 unfold fName at HM;unfold gName at HM2
 go_enter Tryz.func10,Tryz.ntmps10
 go_wp2_with (fail)
 refine (HM.o w).mono ?_;rintro r w1 ⟨a1,c1,rfl,hr1,hb1⟩;have HR1:=lH hr1;have HB1:=lH hb1;clear hr1 hb1;go_wp2_with (fail)
 refine (HM2.o w1).mono ?_;rintro r w2 ⟨a2,c2,rfl,hr2,hb2⟩;have HD2:=lH (HD.o a1 a2 c1 c2 w2 (HR1.o.below hb2) hr2);have HB2:=lH (zA HB1.o hb2);clear hr2 hb2 HB1 HR1 HD;go_wp2_with (fail)
 refine HD2.o.mono ?_;rintro r w3 ⟨v3,rfl,hr3,hb3⟩;obtain ⟨a3,c3,rfl,-,-⟩:=zXg hr3;have HR3:=lH hr3;have HB3:=lH (zA HB2.o hb3);clear hr3 hb3 HD2 HB2;simp only [List.length_cons,List.length_nil,Nat.zero_add,Nat.reduceAdd] at HR3 ⊢
 go_wp2_with (fail)
 refine (HM.o w3).mono ?_;rintro r w4 ⟨a4,c4,rfl,hr4,hb4⟩;have HA4:=lH (HA.o a4 a3 c4 c3 w4 hr4 (HR3.o.below hb4));have HR4:=lH (HR3.o.below hb4);have HB4:=lH (zA HB3.o hb4);clear hr4 hb4 HB3 HR3 HA HM;go_wp2_with (fail)
 refine HA4.o.mono ?_;rintro r w5 ⟨v5,rfl,hr5,hb5⟩;obtain ⟨a5,c5,rfl,-,-⟩:=zJc hr5;have HR5:=lH hr5;have hr4:=HR4.o.below hb5;have HB5:=lH (zA HB4.o hb5);obtain ⟨b,o,_,_,_,_,e1,hl,x0,-,-,-,-,-⟩:=zIc (l:=[e34 7,e34 8]) hr4 (i:=0) (e:=e34 7) rfl;obtain ⟨b',o',_,_,_,_,e2,-,y0,-,-,-,-,-⟩:=zIc (l:=[e34 7,e34 8]) hr4 (i:=1) (e:=e34 8) rfl;subst e1
 injection e2 with e2
 injection e2 with e2 e3
 subst e2 e3;rw [Nat.zero_mul,Nat.add_zero] at x0;rw [Nat.one_mul] at y0;have x0':w5.cell? ⟨b,o,none⟩=some (.int .i64 7):=x0;have y0':w5.cell? ⟨b,o+5,none⟩=some (.int .i64 8):=y0;clear x0 y0 hr5 hb5 HA4 HB4 HR4 hr4;simp only [List.length_cons,List.length_nil,Nat.zero_add] at HR5 ⊢
 go_wp2_with (fail)
 refine (HM2.o w5).mono ?_;rintro r w6 ⟨a6,c6,rfl,hr6,hb6⟩
 have HSA:=lH (zKr [m34 gName 2] [m34 gName 2] a5 a6 c5 c6 w6 (HR5.o.below hb6) hr6 (fun m hm=>by
  have k:=HZ2.o.mods m hm
  exact ⟨fun x hx=>⟨(k.2 x hx).1.len,(k.2 x hx).2⟩,by have:=k.1.2.2.1;omega,by have:=k.1.2.2.2;omega⟩) (by simp))
 rw [zIe.2 (rfl:[m34 gName 2]=[m34 gName 2])] at HSA;simp only [List.length_cons,List.length_nil,Nat.zero_add] at HSA
 have HB6:=lH (zA HB5.o hb6);clear hr6 hb6 HR5 HB5 HM2;go_wp2_with (fail)
 refine HSA.o.mono ?_;rintro r w7 ⟨rfl,hb7⟩;have HB7:=lH (zA HB6.o hb7);clear hb7 HSA;go_wp2;go_ret;exact ⟨rfl,HB7.o⟩
end Go.Proofs.YtfkjfdbjhlmjcaaGreatDoor
