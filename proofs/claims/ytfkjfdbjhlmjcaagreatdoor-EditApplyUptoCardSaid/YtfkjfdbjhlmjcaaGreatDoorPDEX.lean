/- edit.Diff, of modules with the same labels and the same ids. The example of chapter 34. Reference 34: decls, where a declaration is added. Rows of modules that reference 34 builds. -/
import Derived.Test.YtfkjfdbjhlmjcaaGreatDoorPW1
import Derived.Test.YtfkjfdbjhlmjcaaGreatDoorPGD
import Derived.Test.YtfkjfdbjhlmjcaaGreatDoorPBL
import Derived.Test.YtfkjfdbjhlmjcaaGreatDoorPBP
namespace Go.Proofs.YtfkjfdbjhlmjcaaGreatDoor
open Go.RowKit Go.Shelf
attribute [local go_sem] Oper.semAt_some
def DiffPost (w:World) (a b:List OMod) (r:Ending) (w':World):Prop:=
  ∃v,r=.returned (.tuple #[v,.int .i64 (diffErr a b)])∧Reads w' [] (editsT (diffR a b)) v∧Below w.heap.size w w'
theorem zSp {w w':World} {a b:List OMod} {E:Int} (h:diffErr a b=E) (h0:E≠0) (hb:Bw w w'):DiffPost w a b (.returned (.tuple #[.slice none 0 0,.int .i64 E])) w':=
 ⟨_,by rw [h],by unfold diffR;rw [h,if_neg h0];exact Reads.nilRow _ _ _ _,hb⟩
theorem zXn {w w':World} {a b:List OMod} {v:Value} (h:diffErr a b=0) (hr:Reads w' [] (editsT (diffR a b)) v) (hb:Bw w w'):DiffPost w a b (.returned (.tuple #[v,.int .i64 0])) w':=⟨_,by rw [h],hr,hb⟩
theorem yAd {ps:List Pair} {u1 u2 u3 u4 u5:Value}:allK [(u1,addM ps),(u2,addU ps),(u3,chgD ps),(u4,remU ps),(u5,remM ps)]=diffP ps:=by
 unfold allK diffP;simp [List.flatMap_cons,List.append_assoc]
theorem zSq {w3 w:World} {R:List (Value×List OEdit)} {l:List ODecl} {v:Value} (h:Reads w3 [] (declsT l) v) (hF:Fam w3 w R):Reads w (blksF R) (declsT l) v:=by
 have:=zEk (Y:=blksF R) h (fun k hk=>(hF.lt hk).1);rw [List.append_nil] at this;exact this.below hF.old
set_option maxRecDepth 100000 in
set_option maxHeartbeats 16000000 in
theorem zXo (A B:List OMod) (aa ab:Option Addr) (ca cb:Nat) (n:Nat) (w:World) (ha:Reads w [] (modsT A) (.slice aa A.length ca)) (hb:Reads w [] (modsT B) (.slice ab B.length cb)) (hsl:A.map OMod.label=B.map OMod.label) (hpe:∀p∈pairsL A B,p.a.isSome=true∧p.b.isSome=true∧(declsO p.a).map ODecl.id=(declsO p.b).map ODecl.id) (hza:SzB n A) (hzb:SzB n B) (hn:n≤100) :
  Calls Tryz.prog 14 #[.slice aa A.length ca,.slice ab B.length cb] w fun r w'=>DiffPost w A B r w':=by
 obtain ⟨i0,z,hi0,hz0,hzs,hz1,hz2⟩:=zAn zHe;have hAl:=hza.len;have hBl:=hzb.len;have HRA:=lH ha;have HRB:=lH hb;have HC1:=lH (zEt A aa ca w ha (hza.sm (by omega)) (by omega));have HC2:=lH (fun W (h:Bw w W)=>zEt B ab cb W (hb.below h) (hzb.sm (by omega)) (by omega));have HP:=lH (fun W (h:Bw w W)=>zXc A B aa ab ca cb W (ha.below h) (hb.below h) hsl (by omega) (by omega));have HSM:=lH (zRl hza hzb hn);have HPN:=lH (zXe _ (a:=A) (b:=B) rfl)
 have HE1:Hid (modsErr A≠0→diffErr A B=modsErr A):=fun h=>by unfold diffErr;rw [if_neg h]
 have HE2:Hid (modsErr A=0→diffErr A B=modsErr B):=fun h=>by unfold diffErr;rw [if_pos h]
 have HEF:Hid (modsErr A=0→modsErr B=0→diffErr A B=0∧diffR A B=diffP (pairsL A B)):=fun h k=>by
  have e:diffErr A B=0:=by unfold diffErr;rw [if_pos h];exact k
  exact ⟨e,by unfold diffR;rw [if_pos e];rfl⟩
 have HPE:=lH hpe;clear ha hb hza hzb hsl hpe;generalize modsErr A=E1 at *;generalize modsErr B=E2 at *
 go_enter Tryz.func14,Tryz.ntmps14
 go_wp2_with (fail)
 refine HC1.o.mono ?_;rintro r w1 ⟨rfl,hb1⟩;have HB1:=lH hb1;clear hb1 HC1
 by_cases h0:E1=0
 rotate_left
 ·have q1:(E1 != 0)=true:=by simp [h0]
  have HX:=lH (HE1.o h0);have H0:=lH h0;clear h0;go_wp2;go_ret2;exact zSp HX.o H0.o HB1.o
 have HX2:=lH (HE2.o h0);have HXF:=lH (HEF.o h0);subst h0;clear HE1 HE2 HEF;go_wp2_with (fail)
 refine (HC2.o w1 HB1.o).mono ?_;rintro r w2 ⟨rfl,hb2⟩;have HB2:=lH (zA HB1.o hb2);clear hb2 HC2 HB1
 by_cases h0:E2=0
 rotate_left
 ·have q1:(E2 != 0)=true:=by simp [h0]
  have H0:=lH h0;clear h0;go_wp2;go_ret2;exact zSp HX2.o H0.o HB2.o
 obtain ⟨hxe,hxr⟩:=HXF.o h0;have HXE:=lH hxe;have HXR:=lH hxr;subst h0;clear HX2 HXF hxe hxr;generalize pairsL A B=ps at *;go_wp2_with (fail)
 refine (HP.o w2 HB2.o).mono ?_;rintro r w3 ⟨v,rfl,hop,hb3⟩;have hps:=hop.reads hb3;obtain ⟨xs0,hx0,-⟩:=hop;obtain ⟨va,vc,rfl⟩:=zAe hx0;have HPS:=lH hps;have HB3:=lH (zA HB2.o hb3);have hpn:ps.length≤200:=by have:=HPN.o;omega
 have HN0:=lH (Fam.start w3 w3 (zBe _) 5);clear hps hx0 hb3 HP HPN HB2;go_wp2
 go_loopw [29,8,9,10,11,12] (fun iv v1 v2 v3 v4 v5 wr=>∃i:Nat,i≤ps.length∧iv=.int .i64 i∧Hid (Fam w3 wr [(v1,addM (ps.take i)),(v2,addU (ps.take i)),(v3,chgD (ps.take i)),(v4,remU (ps.take i)),(v5,remM (ps.take i))])) (fun iv _ _ _ _ _ _=>ps.length - (intOf iv).toNat)
 case atStart=>exact ⟨0,Nat.zero_le _,rfl,HN0⟩
 case round=>
  clear HN0;obtain ⟨i,hil,rfl,HF⟩:=hrel;obtain ⟨l1,l2,l3,l4,l5⟩:=yA (qs:=ps.take i) (fun p hp=>HSM.o.1 p (List.mem_of_mem_take hp)) (by rw [List.length_take];omega);obtain ⟨a1,c1,rfl⟩:=Fam.val (P:=[]) HF.o;obtain ⟨a2,c2,rfl⟩:=Fam.val (P:=[_]) HF.o;obtain ⟨a3,c3,rfl⟩:=Fam.val (P:=[_,_]) HF.o;obtain ⟨a4,c4,rfl⟩:=Fam.val (P:=[_,_,_]) HF.o;obtain ⟨a5,c5,rfl⟩:=Fam.val (P:=[_,_,_,_]) HF.o
  by_cases hi:i<ps.length
  ·have hd:decide ((i:Int)<(ps.length:Int))=true:=decide_eq_true (by omega)
   have hir:(i:Int)<(ps.length:Int):=by omega
   obtain ⟨p,hpi⟩:∃p,ps[i]?=some p:=⟨_,List.getElem?_eq_getElem hi⟩;have hpm:=List.mem_of_getElem? hpi;have HN1:=lH (zXf hpi);have HN2:=lH (zXh hpi);have HN3:=lH (zXi hpi);have HN4:=lH (zXj hpi);have HN5:=lH (zXg hpi);obtain ⟨b,q,ua,uc,da,dc,ub,uk,db,dk,rfl,hbl,hcl,hru1,hrd1,hru2,hrd2⟩:=zXd HPS.o hpi;obtain ⟨s1,s2,s3,s4⟩:=HSM.o.1 p hpm;obtain ⟨t1,t2⟩:=HSM.o.2 p hpm;obtain ⟨e1,e2,e3⟩:=HPE.o p hpm;rw [zFn,zFn] at e3;have HQ1:=lH e1;have HQ2:=lH e2
   have HQ3:=lH e3;clear e1 e2 e3;rw [zNv,zNv] at HN2 HN4;rw [zFn,zFn] at HN3;rw [zNv] at s1 s2;rw [zFn] at s3 s4 t1 t2;clear hpi hpm;generalize p.a.getD noMod=ma at *;generalize p.b.getD noMod=mb at *;generalize p.a.isSome=qa at *;generalize p.b.isSome=qb at *;have T1:=lH t1;have T2:=lH t2;have HRU1:=lH hru1;have HRD1:=lH hrd1;have HRU2:=lH hru2;have HRD2:=lH hrd2;obtain ⟨M1,hM1⟩:∃M,addM (ps.take i)=M:=⟨_,rfl⟩;obtain ⟨M2,hM2⟩:∃M,addU (ps.take i)=M:=⟨_,rfl⟩
   obtain ⟨M3,hM3⟩:∃M,chgD (ps.take i)=M:=⟨_,rfl⟩;obtain ⟨M4,hM4⟩:∃M,remU (ps.take i)=M:=⟨_,rfl⟩;obtain ⟨M5,hM5⟩:∃M,remM (ps.take i)=M:=⟨_,rfl⟩;rw [hM1] at HN1 HF l1 ⊢;rw [hM2] at HN2 HF l2 ⊢;rw [hM3] at HN3 HF l3 ⊢;rw [hM4] at HN4 HF l4 ⊢;rw [hM5] at HN5 HF l5 ⊢;clear hM1 hM2 hM3 hM4 hM5 t1 t2 hru1 hrd1 hru2 hrd2;have hob:=HF.o.old;have hbr:b<wr.heap.size:=Nat.lt_of_lt_of_le hbl hob.size;have x0:wr.cell? ⟨b,q+i * 9,none⟩=some (.string p.label):=(hob.cell (p:=⟨b,_,none⟩) hbl).trans (hcl 0 _ rfl)
   have x1:wr.cell? ⟨b,q+i * 9+1,none⟩=some (.bool qa):=(hob.cell (p:=⟨b,_,none⟩) hbl).trans (hcl 1 _ rfl);have x2:wr.cell? ⟨b,q+i * 9+2,none⟩=some (.bool qb):=(hob.cell (p:=⟨b,_,none⟩) hbl).trans (hcl 2 _ rfl);have x3:wr.cell? ⟨b,q+i * 9+3,none⟩=some (.string ma.label):=(hob.cell (p:=⟨b,_,none⟩) hbl).trans (hcl 3 _ rfl);have x4:wr.cell? ⟨b,q+i * 9+4,none⟩=some (.slice ua ma.uses.length uc):=(hob.cell (p:=⟨b,_,none⟩) hbl).trans (hcl 4 _ rfl)
   have x5:wr.cell? ⟨b,q+i * 9+5,none⟩=some (.slice da ma.decls.length dc):=(hob.cell (p:=⟨b,_,none⟩) hbl).trans (hcl 5 _ rfl);have x6:wr.cell? ⟨b,q+i * 9+6,none⟩=some (.string mb.label):=(hob.cell (p:=⟨b,_,none⟩) hbl).trans (hcl 6 _ rfl);have x7:wr.cell? ⟨b,q+i * 9+7,none⟩=some (.slice ub mb.uses.length uk):=(hob.cell (p:=⟨b,_,none⟩) hbl).trans (hcl 7 _ rfl);have x8:wr.cell? ⟨b,q+i * 9+8,none⟩=some (.slice db mb.decls.length dk):=(hob.cell (p:=⟨b,_,none⟩) hbl).trans (hcl 8 _ rfl)
   have hFD:FamD w3 (wr.alloc (.cells #[.string p.label,.bool qa,.bool qb,.string ma.label,.slice ua ma.uses.length uc,.slice da ma.decls.length dc,.string mb.label,.slice ub mb.uses.length uk,.slice db mb.decls.length dk] 71)) [(.slice a1 M1.length c1,M1),(.slice a2 M2.length c2,M2),(.slice a3 M3.length c3,M3),(.slice a4 M4.length c4,M4),(.slice a5 M5.length c5,M5)] wr.heap.size #[.string p.label,.bool qa,.bool qb,.string ma.label,.slice ua ma.uses.length uc,.slice da ma.decls.length dc,.string mb.label,.slice ub mb.uses.length uk,.slice db mb.decls.length dk]:=⟨HF.o.below (zAb _ _),CBox.new _ _ _,fun k hk e=>by have:=(HF.o.lt hk).2;omega⟩
   obtain ⟨D,hD⟩:∃D,wr.heap.size=D:=⟨_,rfl⟩;rw [hD] at hFD;have HG:=lH hFD;clear hFD hob hcl hbl;go_upto_region 11 with (fail)
   clear hbr x0 x1 x2 x3 x4 x5 x6 x7 x8;generalize World.alloc wr _=W0 at *
   (try rw [hD])
   clear hD
   cases qa with
   | true=>
    simp only [if_true,List.append_nil] at HN1
    have yq:=HG.o.box.cell (i:=1) (v:=.bool true) rfl;have yql:=HG.o.box.lt;go_upto_region 13 with (fail)
    clear yq yql;have y0:=HG.o.box.cell (i:=0) (v:=.string p.label) rfl;have y4:=HG.o.box.cell (i:=4) (v:=.slice ua ma.uses.length uc) rfl;have y7:=HG.o.box.cell (i:=7) (v:=.slice ub mb.uses.length uk) rfl;have yl:=HG.o.box.lt;have HUE:=lH (zIz 3 p.label mb.uses ma.uses ub ua uk uc W0 (zAf.1 (HRU2.o.below HG.o.fam.old)).1 (zAf.1 (HRU1.o.below HG.o.fam.old)).1 (by omega) (by omega));go_wp2_with (fail)
    refine HUE.o.mono ?_;rintro r Vtu ⟨vu,rfl,⟨zs,hown6,hzs6⟩,hb6⟩;obtain ⟨au6,cu6,rfl⟩:=zAe hown6;have HGb:=lH (HG.o.below hb6);have hrow6:=zAo hown6;have HZS:Hid (ReadsL Vtu (blksF [(.slice a1 M1.length c1,M1),(.slice a2 M2.length c2,M2),(.slice a3 M3.length c3,M3),(.slice a4 M4.length c4,M4),(.slice a5 M5.length c5,M5)]) ((useE 3 p.label mb.uses ma.uses).flatMap editT) zs):=zNw zPq (hzs6.below hb6);have HONE:=lH (zHk HZS.o);have hul:=zJk 3 p.label mb.uses ma.uses
    obtain ⟨ys,hown,hys⟩:=FamD.row (P:=[_]) HGb.o;have HYS:=lH hys;have HOW:=lH hown;have hsw3:=HGb.o.fam.old.size;clear hown6 hzs6 hb6 HUE hown hys HG;clear y0 y4 y7 yl;go_wp2_with (at_builtin;refine zAa rfl _ _ 23 rfl w3.heap.size 39 i0 _ 5 88 Tryz.underlying23 hi0 hz0 hz1 hz2 hzs (by decide) _ _ _ rfl HOW.o _ _ _ rfl hrow6 HONE.o (by unfold maxLen;omega) (by omega) (by omega) ?_)
    intro vtu wtu hown5 hg5 hbk5;have HG:Hid (FamD w3 wtu [(.slice a1 M1.length c1,M1),(vtu,M2++useE 3 p.label mb.uses ma.uses),(.slice a3 M3.length c3,M3),(.slice a4 M4.length c4,M4),(.slice a5 M5.length c5,M5)] D #[.string p.label,.bool true,.bool qb,.string ma.label,.slice ua ma.uses.length uc,.slice da ma.decls.length dc,.string mb.label,.slice ub mb.uses.length uk,.slice db mb.decls.length dk]):=FamD.grown (P:=[_]) (l2:=useE 3 p.label mb.uses ma.uses) HGb.o HYS.o HZS.o hown5 hg5 hbk5;clear hown5 hg5 hbk5 HGb HOW HYS HZS HONE hrow6 hsw3
    obtain ⟨Mtu,hMtu⟩:∃M,M2++useE 3 p.label mb.uses ma.uses=M:=⟨_,rfl⟩;rw [hMtu] at HG HN2;clear hMtu hul;obtain ⟨axtu,cxtu,rfl⟩:=Fam.val (P:=[_]) HG.o.fam;have y0:=HG.o.box.cell (i:=0) (v:=.string p.label) rfl;have y5:=HG.o.box.cell (i:=5) (v:=.slice da ma.decls.length dc) rfl;have y8:=HG.o.box.cell (i:=8) (v:=.slice db mb.decls.length dk) rfl;have yl:=HG.o.box.lt
    have HDE:=lH (zNy p.label ma.decls mb.decls da db dc dk (blksF [(.slice a1 M1.length c1,M1),(.slice axtu Mtu.length cxtu,Mtu),(.slice a3 M3.length c3,M3),(.slice a4 M4.length c4,M4),(.slice a5 M5.length c5,M5)]) wtu (fun k hk=>(HG.o.fam.lt hk).2) (zSq HRD1.o HG.o.fam) (zSq HRD2.o HG.o.fam) HQ3.o (by omega) (by omega) T1.o T2.o);go_wp2_with (fail)
    refine HDE.o.mono ?_;rintro r Vtd ⟨vu,rfl,⟨zs,hown6,hzs6⟩,hb6⟩;obtain ⟨au6,cu6,rfl⟩:=zAe hown6;have HGb:=lH (HG.o.below hb6);have hrow6:=zAo hown6;have HZS:Hid (ReadsL Vtd (blksF [(.slice a1 M1.length c1,M1),(.slice axtu Mtu.length cxtu,Mtu),(.slice a3 M3.length c3,M3),(.slice a4 M4.length c4,M4),(.slice a5 M5.length c5,M5)]) ((declE p.label ma.decls mb.decls).flatMap editT) zs):=hzs6.fewer (fun k hk=>List.mem_append_right _ hk);have HONE:=lH (zHk HZS.o)
    have hul:=zPr p.label _ (xs:=ma.decls) (bs:=mb.decls) rfl;obtain ⟨ys,hown,hys⟩:=FamD.row (P:=[_,_]) HGb.o;have HYS:=lH hys;have HOW:=lH hown;have hsw3:=HGb.o.fam.old.size;clear hown6 hzs6 hb6 HDE hown hys HG;clear y0 y5 y8 yl;go_wp2_with (at_builtin;refine zAa rfl _ _ 23 rfl w3.heap.size 39 i0 _ 5 88 Tryz.underlying23 hi0 hz0 hz1 hz2 hzs (by decide) _ _ _ rfl HOW.o _ _ _ rfl hrow6 HONE.o (by unfold maxLen;omega) (by omega) (by omega) ?_)
    intro vtd wtd hown5 hg5 hbk5;have HG:Hid (FamD w3 wtd [(.slice a1 M1.length c1,M1),(.slice axtu Mtu.length cxtu,Mtu),(vtd,M3++declE p.label ma.decls mb.decls),(.slice a4 M4.length c4,M4),(.slice a5 M5.length c5,M5)] D #[.string p.label,.bool true,.bool qb,.string ma.label,.slice ua ma.uses.length uc,.slice da ma.decls.length dc,.string mb.label,.slice ub mb.uses.length uk,.slice db mb.decls.length dk]):=FamD.grown (P:=[_,_]) (l2:=declE p.label ma.decls mb.decls) HGb.o HYS.o HZS.o hown5 hg5 hbk5
    clear hown5 hg5 hbk5 HGb HOW HYS HZS HONE hrow6 hsw3;obtain ⟨Mtd,hMtd⟩:∃M,M3++declE p.label ma.decls mb.decls=M:=⟨_,rfl⟩;rw [hMtd] at HG HN3;clear hMtd hul;obtain ⟨axtd,cxtd,rfl⟩:=Fam.val (P:=[_,_]) HG.o.fam;have y0:=HG.o.box.cell (i:=0) (v:=.string p.label) rfl;have y4:=HG.o.box.cell (i:=4) (v:=.slice ua ma.uses.length uc) rfl;have y7:=HG.o.box.cell (i:=7) (v:=.slice ub mb.uses.length uk) rfl;have yl:=HG.o.box.lt
    have HUE:=lH (zIz 4 p.label ma.uses mb.uses ua ub uc uk wtd (zAf.1 (HRU1.o.below HG.o.fam.old)).1 (zAf.1 (HRU2.o.below HG.o.fam.old)).1 (by omega) (by omega));go_wp2_with (fail)
    refine HUE.o.mono ?_;rintro r Vtr ⟨vu,rfl,⟨zs,hown6,hzs6⟩,hb6⟩;obtain ⟨au6,cu6,rfl⟩:=zAe hown6;have HGb:=lH (HG.o.below hb6);have hrow6:=zAo hown6;have HZS:Hid (ReadsL Vtr (blksF [(.slice a1 M1.length c1,M1),(.slice axtu Mtu.length cxtu,Mtu),(.slice axtd Mtd.length cxtd,Mtd),(.slice a4 M4.length c4,M4),(.slice a5 M5.length c5,M5)]) ((useE 4 p.label ma.uses mb.uses).flatMap editT) zs):=zNw zPq (hzs6.below hb6);have HONE:=lH (zHk HZS.o);have hul:=zJk 4 p.label ma.uses mb.uses
    obtain ⟨ys,hown,hys⟩:=FamD.row (P:=[_,_,_]) HGb.o;have HYS:=lH hys;have HOW:=lH hown;have hsw3:=HGb.o.fam.old.size;clear hown6 hzs6 hb6 HUE hown hys HG;clear y0 y4 y7 yl;go_wp2_with (at_builtin;refine zAa rfl _ _ 23 rfl w3.heap.size 39 i0 _ 5 88 Tryz.underlying23 hi0 hz0 hz1 hz2 hzs (by decide) _ _ _ rfl HOW.o _ _ _ rfl hrow6 HONE.o (by unfold maxLen;omega) (by omega) (by omega) ?_)
    intro vtr wtr hown5 hg5 hbk5;have HG:Hid (FamD w3 wtr [(.slice a1 M1.length c1,M1),(.slice axtu Mtu.length cxtu,Mtu),(.slice axtd Mtd.length cxtd,Mtd),(vtr,M4++useE 4 p.label ma.uses mb.uses),(.slice a5 M5.length c5,M5)] D #[.string p.label,.bool true,.bool qb,.string ma.label,.slice ua ma.uses.length uc,.slice da ma.decls.length dc,.string mb.label,.slice ub mb.uses.length uk,.slice db mb.decls.length dk]):=FamD.grown (P:=[_,_,_]) (l2:=useE 4 p.label ma.uses mb.uses) HGb.o HYS.o HZS.o hown5 hg5 hbk5
    clear hown5 hg5 hbk5 HGb HOW HYS HZS HONE hrow6 hsw3;obtain ⟨Mtr,hMtr⟩:∃M,M4++useE 4 p.label ma.uses mb.uses=M:=⟨_,rfl⟩;rw [hMtr] at HG HN4;clear hMtr hul;obtain ⟨axtr,cxtr,rfl⟩:=Fam.val (P:=[_,_,_]) HG.o.fam
    cases qb with
    | true=>
     simp only [if_true,List.append_nil] at HN5
     have y2:=HG.o.box.cell (i:=2) (v:=.bool true) rfl;have yl:=HG.o.box.lt
     have HFN:Hid (Fam w3 wtr [(.slice a1 M1.length c1,addM (ps.take (i+1))),(.slice axtu Mtu.length cxtu,addU (ps.take (i+1))),(.slice axtd Mtd.length cxtd,chgD (ps.take (i+1))),(.slice axtr Mtr.length cxtr,remU (ps.take (i+1))),(.slice a5 M5.length c5,remM (ps.take (i+1)))]):=by
      show Fam _ _ _
      rw [HN1.o,HN2.o,HN3.o,HN4.o,HN5.o];exact HG.o.fam
     go_wp2;clear HG;go_roundw
     case rel=>exact ⟨i+1,by omega,by go_num,HFN⟩
     case measure=>simp [intOf];omega
    | false=>
     cases HQ2.o
   | false=>
    simp only [Bool.false_eq_true,if_false] at HN1
    cases HQ1.o
  ·have hd:decide ((i:Int)<(ps.length:Int))=false:=decide_eq_false (by omega)
   obtain rfl:i=ps.length:=by omega
   rw [List.take_length] at HF l1 l2 l3 l4 l5 ⊢;have hq6:=zAb wr (.cells #[.slice a1 (addM ps).length c1,.slice a2 (addU ps).length c2,.slice a3 (chgD ps).length c3,.slice a4 (remU ps).length c4,.slice a5 (remM ps).length c5] 23);have HB6:=lH (zA HB3.o (zA HF.o.old hq6));have hbx:=CBox.new wr 23 #[.slice a1 (addM ps).length c1,.slice a2 (addU ps).length c2,.slice a3 (chgD ps).length c3,.slice a4 (remU ps).length c4,.slice a5 (remM ps).length c5]
   have HCE:=lH (zRk [(.slice a1 (addM ps).length c1,addM ps),(.slice a2 (addU ps).length c2,addU ps),(.slice a3 (chgD ps).length c3,chgD ps),(.slice a4 (remU ps).length c4,remU ps),(.slice a5 (remM ps).length c5,remM ps)] wr.heap.size 5 _ rfl (fun q hq=>(HF.o.reads hq).below hq6) hbx.lt (fun k q hk=>hbx.cell (by
    match k,hk with
    | 0,hk=>cases hk;rfl
    | 1,hk=>cases hk;rfl
    | 2,hk=>cases hk;rfl
    | 3,hk=>cases hk;rfl
    | 4,hk=>cases hk;rfl
    | k+5,hk=>cases hk)) (by rw [zSk];unfold allK;simp only [List.flatMap_cons,List.flatMap_nil,List.length_append,List.length_nil];omega) (by omega))
   rw [yAd] at HCE;rw [←HXR.o] at HCE;clear hq6 hbx HF;go_wp2_with (fail)
   refine HCE.o.mono ?_;rintro r W7 ⟨a7,c7,rfl,hr7,hb7⟩;have HR7:=lH hr7;have HB7:=lH (zA HB6.o hb7);clear hr7 hb7 HCE;go_wp2;go_ret2;exact zXn HXE.o HR7.o HB7.o
def mN34:ByteArray:=⟨#[109]⟩
def m34D (s:ByteArray) (n:Int):ODecl:=⟨7,1,false,[s],false,.mk 1 ⟨#[]⟩ ⟨#[]⟩ n 0 []⟩
def m34 (s:ByteArray) (n:Int):OMod:=⟨mN34,[],[m34D s n]⟩
theorem zRn (s:ByteArray) (n:Int) (hs:s.size≤40000) (hn:inI n):SmD (m34D s n)∧nodesN (m34D s n).body≤1000000:=
 ⟨⟨fun x hx=>by simp only [m34D,List.mem_singleton] at hx;subst hx;exact hs,(by decide:1≤1000000),zZw 1 n ⟨by decide,by decide⟩ hn,(by decide:1≤4000000)⟩,(by decide:1≤1000000)⟩
theorem yAq (s:ByteArray) (n:Int) (hs:s.size≤40000) (hn:inI n):SzB 10 [m34 s n]:=
 ⟨by simp,fun m hm=>by
  rw [List.mem_singleton] at hm;subst hm
  exact ⟨⟨(by decide:mN34.size≤40000),fun x hx=>(by simp [m34] at hx),Nat.zero_le _,(by simp [m34])⟩,fun d hd=>by
   simp only [m34,List.mem_singleton] at hd
   subst hd
   exact zRn s n hs hn⟩⟩
theorem yAe:modsErr [m34 fName 1]=0:=by kernel_rfl
theorem yAf:modsErr [m34 gName 2]=0:=by kernel_rfl
def e34 (k:Int):OEdit:=partE7 mN34 (m34D fName 1) (m34D gName 2) k
theorem zMw:pairsL [m34 fName 1] [m34 gName 2]=[⟨mN34,some (m34 fName 1),some (m34 gName 2)⟩]:=by
 have h0:¬ltB mN34 mN34=true:=by rw [zGj.irr];simp
 rw [pairsL,if_neg (show ¬ltB (m34 fName 1).label (m34 gName 2).label=true from h0),if_neg (show ¬ltB (m34 gName 2).label (m34 fName 1).label=true from h0),pairsL];rfl
theorem yAg:diffL [m34 fName 1] [m34 gName 2]=[e34 7,e34 8]:=by
 have h1:=zMw
 have h2:declE mN34 [m34D fName 1] [m34D gName 2]=partsL mN34 (m34D fName 1) (m34D gName 2):=by
  rw [declE,if_neg (show ¬(m34D fName 1).id<(m34D gName 2).id by decide),if_neg (show ¬(m34D gName 2).id<(m34D fName 1).id by decide),declE,List.append_nil]
 have h3:partsL mN34 (m34D fName 1) (m34D gName 2)=[e34 7,e34 8]:=by kernel_rfl
 unfold diffL;rw [h1];show []++(([]:List OEdit)++[])++(declE mN34 [m34D fName 1] [m34D gName 2]++[])++(([]:List OEdit)++[])++[]=_
 rw [h2,h3];rfl
theorem zPw:diffErr [m34 fName 1] [m34 gName 2]=0:=by unfold diffErr;rw [if_pos yAe,yAf]
theorem zXp:diffR [m34 fName 1] [m34 gName 2]=[e34 7,e34 8]:=by unfold diffR;rw [if_pos zPw,yAg]
theorem yBw:appR [m34 fName 1] [e34 7,e34 8]=([m34 gName 2],0):=by kernel_rfl
theorem zXq:∀p∈pairsL [m34 fName 1] [m34 gName 2],p.a.isSome=true∧p.b.isSome=true∧(declsO p.a).map ODecl.id=(declsO p.b).map ODecl.id:=fun p hp=>by
 rw [zMw,List.mem_singleton] at hp;subst hp;exact ⟨rfl,rfl,rfl⟩
theorem zXr {k:Int} {d:ODecl} (h:SmD d∧nodesN d.body≤1000000):SmD (partD k d)∧nodesN (partD k d).body≤1000000:=by
 have hx:SmX 40000 exZ:=.mk (by decide) (by decide) ⟨by decide,by decide⟩ ⟨by decide,by decide⟩ ⟨by decide,by decide⟩ (fun y hy=>by cases hy);have hz:nodesN exZ≤1000000:=by decide
 unfold partD;split
 ·exact ⟨⟨h.1.names,h.1.len,hx,by show nodesN exZ≤_;omega⟩,hz⟩
 split
 ·exact ⟨⟨fun s hs=>(List.not_mem_nil hs).elim,Nat.zero_le _,h.1.body,h.1.nodes⟩,h.2⟩
 split
 ·exact ⟨⟨fun s hs=>(List.not_mem_nil hs).elim,Nat.zero_le _,hx,by show nodesN exZ≤_;omega⟩,hz⟩
 ·exact h
theorem zXs {p:ByteArray} {a b:ODecl} {k:Int} (hp:p.size≤40000) (ha:SmD a∧nodesN a.body≤1000000) (hb:SmD b∧nodesN b.body≤1000000):SmE (partE7 p a b k):=
 ⟨hp,(by decide:noText.size≤40000),fun d hd=>by
  have:d=partD k a:=by simpa [partE7] using hd
  rw [this];exact zXr ha,fun d hd=>by
  have:d=partD k b:=by simpa [partE7] using hd
  rw [this];exact zXr hb,(by decide:1≤1000000),(by decide:1≤1000000)⟩
theorem yCf (k:Int):SmE (e34 k):=zXs (by decide) (zRn _ _ (by decide) ⟨by decide,by decide⟩) (zRn _ _ (by decide) ⟨by decide,by decide⟩)
set_option maxRecDepth 100000 in
set_option maxHeartbeats 2000000 in
theorem zJ (s:ByteArray) (n:Int) (w:World) :
  Calls Tryz.prog 28 #[.string s,.int .i64 n] w fun r w'=>∃a c,r=.returned (.slice a 1 c)∧Reads w' [] (modsT [m34 s n]) (.slice a 1 c)∧Bw w w':=by
 have h1:=zFe w s;have hq1:=zAb w (.cells #[.string s] 9);have hs1:(w.alloc (.cells #[.string s] 9)).heap.size=w.heap.size+1:=by rw [World.size_alloc]
 have hq2:=zAb (w.alloc (.cells #[.string s] 9)) (.cells #[.int .i64 7,.int .i64 1,.bool false,.slice (some ⟨w.heap.size,0,none⟩) 1 1,.bool false,.int .i64 1,.string ⟨#[]⟩,.string ⟨#[]⟩,.int .i64 n,.int .i64 0,.slice none 0 0] 62);have hx2:=CBox.new (w.alloc (.cells #[.string s] 9)) 62 #[.int .i64 7,.int .i64 1,.bool false,.slice (some ⟨w.heap.size,0,none⟩) 1 1,.bool false,.int .i64 1,.string ⟨#[]⟩,.string ⟨#[]⟩,.int .i64 n,.int .i64 0,.slice none 0 0];rw [hs1] at hx2
 have hs2:((w.alloc (.cells #[.string s] 9)).alloc (.cells #[.int .i64 7,.int .i64 1,.bool false,.slice (some ⟨w.heap.size,0,none⟩) 1 1,.bool false,.int .i64 1,.string ⟨#[]⟩,.string ⟨#[]⟩,.int .i64 n,.int .i64 0,.slice none 0 0] 62)).heap.size=w.heap.size+1+1:=by rw [World.size_alloc,hs1]
 have h2:=h1.below hq2;have hb2:=zA hq1 hq2;obtain ⟨w2,hw2⟩:∃w2,(w.alloc (.cells #[.string s] 9)).alloc (.cells #[.int .i64 7,.int .i64 1,.bool false,.slice (some ⟨w.heap.size,0,none⟩) 1 1,.bool false,.int .i64 1,.string ⟨#[]⟩,.string ⟨#[]⟩,.int .i64 n,.int .i64 0,.slice none 0 0] 62)=w2:=⟨_,rfl⟩;rw [hw2] at hq2 hx2 hs2 h2 hb2
 have hd:Reads w2 [] (declsT [m34D s n]) (.slice (some ⟨w.heap.size+1,0,none⟩) 1 1):=zNx (Y:=[]) (d:=m34D s n) (an:=some ⟨w.heap.size,0,none⟩) (cn:=1) (sa:=none) (cs:=0) hx2 (zBl h2 (Reads.nilRow _ _ _ _)) (by simp);have hq3:=zAb w2 (.cells #[.string ⟨#[109]⟩,.slice none 0 0,.slice (some ⟨w.heap.size+1,0,none⟩) 1 1] 52);have hR:=zAo (zEu w2 w2.heap.size (Nat.le_refl _) 52 #[.string ⟨#[109]⟩,.slice none 0 0,.slice (some ⟨w.heap.size+1,0,none⟩) 1 1] 3 1 rfl (by omega));rw [hs2] at hR
 have hrm:Reads (w2.alloc (.cells #[.string ⟨#[109]⟩,.slice none 0 0,.slice (some ⟨w.heap.size+1,0,none⟩) 1 1] 52)) [] (modsT [m34 s n]) (.slice (some ⟨w.heap.size+1+1,0,none⟩) 1 1):=
  Reads.ofRow (l:=[m34 s n]) hR (fun _ b _=>by simp) (ReadsL.cons (Reads.leaf' _ _ _) (ReadsL.cons (Reads.nilRow _ _ _ _) (ReadsL.cons (hd.below hq3) (ReadsL.nil _ _))))
 have HRM:=lH hrm;have HBB:=lH (zA hb2 hq3);have HW2:=lH hw2;clear h1 hq1 hs1 hq2 hx2 hs2 h2 hb2 hd hq3 hR hrm hw2
 go_enter Tryz.func28,Tryz.ntmps28
 go_wp2
 (try rw [HW2.o])
 go_ret;exact ⟨_,_,rfl,HRM.o,HBB.o⟩
set_option maxRecDepth 100000 in
set_option maxHeartbeats 4000000 in
theorem zGs (w:World):Calls Tryz.prog 10 #[] w fun r w'=>r=.returned (.bool true)∧Bw w w':=by
 have hz1:=yAq fName 1 (by decide) ⟨by decide,by decide⟩;have hz2:=yAq gName 2 (by decide) ⟨by decide,by decide⟩;have HM:=lH (fun W=>zJ fName 1 W);have HM2:=lH (fun W=>zJ gName 2 W);have HD:=lH (fun (a b:Option Addr) (c d:Nat) (W:World) (h1:Reads W [] (modsT [m34 fName 1]) (.slice a 1 c)) (h2:Reads W [] (modsT [m34 gName 2]) (.slice b 1 d))=>zXo [m34 fName 1] [m34 gName 2] a b c d 10 W h1 h2 rfl zXq hz1 hz2 (by omega))
 have HS:Hid (∀x∈[e34 7,e34 8],SmE x):=fun x hx=>by
  simp only [List.mem_cons,List.not_mem_nil,or_false] at hx
  rcases hx with rfl|rfl<;>exact yCf _
 have HA:=lH (fun (a b:Option Addr) (c d:Nat) (W:World) (h1:Reads W [] (modsT [m34 fName 1]) (.slice a 1 c)) (h2:Reads W [] (editsT [e34 7,e34 8]) (.slice b 2 d))=>zMr [m34 fName 1] [e34 7,e34 8] a c b d 10 W h1 h2 hz1 (by simp) HS.o);have HZ2:=lH hz2;clear hz1 hz2;unfold DiffPost at HD;rw [zPw,zXp] at HD;unfold AppPost at HA;rw [yBw] at HA;simp only [List.length_cons,List.length_nil,Nat.zero_add,Nat.reduceAdd] at HD HA
 unfold fName at HM;unfold gName at HM2
 go_enter Tryz.func10,Tryz.ntmps10
 go_wp2_with (fail)
 refine (HM.o w).mono ?_;rintro r w1 ⟨a1,c1,rfl,hr1,hb1⟩;have HR1:=lH hr1;have HB1:=lH hb1;clear hr1 hb1;go_wp2_with (fail)
 refine (HM2.o w1).mono ?_;rintro r w2 ⟨a2,c2,rfl,hr2,hb2⟩;have HD2:=lH (HD.o a1 a2 c1 c2 w2 (HR1.o.below hb2) hr2);have HB2:=lH (zA HB1.o hb2);clear hr2 hb2 HB1 HR1 HD;go_wp2_with (fail)
 refine HD2.o.mono ?_;rintro r w3 ⟨v3,rfl,hr3,hb3⟩;obtain ⟨a3,c3,rfl,-,-⟩:=zOg hr3;have HR3:=lH hr3;have HB3:=lH (zA HB2.o hb3);clear hr3 hb3 HD2 HB2;simp only [List.length_cons,List.length_nil,Nat.zero_add,Nat.reduceAdd] at HR3 ⊢
 go_wp2_with (fail)
 refine (HM.o w3).mono ?_;rintro r w4 ⟨a4,c4,rfl,hr4,hb4⟩;have HA4:=lH (HA.o a4 a3 c4 c3 w4 hr4 (HR3.o.below hb4));have HR4:=lH (HR3.o.below hb4);have HB4:=lH (zA HB3.o hb4);clear hr4 hb4 HB3 HR3 HA HM;go_wp2_with (fail)
 refine HA4.o.mono ?_;rintro r w5 ⟨v5,rfl,hr5,hb5⟩;obtain ⟨a5,c5,rfl,-,-⟩:=zDc hr5;have HR5:=lH hr5;have hr4:=HR4.o.below hb5;have HB5:=lH (zA HB4.o hb5);obtain ⟨b,o,_,_,_,_,e1,hl,x0,-,-,-,-,-⟩:=zG (l:=[e34 7,e34 8]) hr4 (i:=0) (e:=e34 7) rfl;obtain ⟨b',o',_,_,_,_,e2,-,y0,-,-,-,-,-⟩:=zG (l:=[e34 7,e34 8]) hr4 (i:=1) (e:=e34 8) rfl;subst e1
 injection e2 with e2
 injection e2 with e2 e3
 subst e2 e3;rw [Nat.zero_mul,Nat.add_zero] at x0;rw [Nat.one_mul] at y0;have x0':w5.cell? ⟨b,o,none⟩=some (.int .i64 7):=x0;have y0':w5.cell? ⟨b,o+5,none⟩=some (.int .i64 8):=y0;clear x0 y0 hr5 hb5 HA4 HB4 HR4 hr4;simp only [List.length_cons,List.length_nil,Nat.zero_add] at HR5 ⊢
 go_wp2_with (fail)
 refine (HM2.o w5).mono ?_;rintro r w6 ⟨a6,c6,rfl,hr6,hb6⟩
 have HSA:=lH (zFm [m34 gName 2] [m34 gName 2] a5 a6 c5 c6 w6 (HR5.o.below hb6) hr6 (fun m hm=>by
  have k:=HZ2.o.mods m hm
  exact ⟨fun x hx=>⟨(k.2 x hx).1.len,(k.2 x hx).2⟩,by have:=k.1.2.2.1;omega,by have:=k.1.2.2.2;omega⟩) (by simp))
 rw [zGf.2 (rfl:[m34 gName 2]=[m34 gName 2])] at HSA;simp only [List.length_cons,List.length_nil,Nat.zero_add] at HSA
 have HB6:=lH (zA HB5.o hb6);clear hr6 hb6 HR5 HB5 HM2;go_wp2_with (fail)
 refine HSA.o.mono ?_;rintro r w7 ⟨rfl,hb7⟩;have HB7:=lH (zA HB6.o hb7);clear hb7 HSA;go_wp2;go_ret;exact ⟨rfl,HB7.o⟩
theorem zBi {w0 W:World} {X:List Nat} {base:Nat} {v:Value} {L:List ODecl} (h:OwnD w0 X W base v L) {b:Nat} (hb:v.ownBlock=some b):base≤b:=by
 obtain ⟨xs,h1,-⟩:=h;exact (h1.lt b hb).1
set_option maxRecDepth 100000 in
set_option maxHeartbeats 8000000 in
theorem zUe (X:List Nat) (m:OMod) (u d:Value) (e:OEdit) (ao:Option Addr) (co:Nat) (af:Option Addr) (cf:Nat) (w:World) (hu:Reads w X (strsT m.uses) u) (hd:Reads w X (declsT m.decls) d) (hfx:Reads w X (declsT e.fresh) (.slice af e.fresh.length cf)) (hX:∀x∈X,x<w.heap.size) (hs:SrtM m) (hk:e.kind=5) (hf1:e.fresh.length=1) (hl:m.decls.length≤40000) :
  Calls Tryz.prog 86 #[.agg #[.string m.label,u,d],editV e ao co af cf] w fun r w'=>RefPost w X m e r w':=by
 obtain ⟨f,hfe⟩:∃f,e.fresh[0]?=some f:=⟨_,List.getElem?_eq_getElem (show 0<e.fresh.length by omega)⟩;have hfd:dAt e.fresh 0=f:=zCx hfe;obtain ⟨bf,of',an,cn,sa,cs,rfl,hbl,hcell,hrd,-,-,-⟩:=zDy hfx hfe;obtain ⟨B,hB⟩:∃B,B=w.heap.size:=⟨_,rfl⟩;obtain ⟨au,cu,rfl,-⟩:=(zAf.1 hu).1.shape;obtain ⟨ad,cd,rfl,hdc1,hdc2⟩:=zBn hd;obtain ⟨E,hE⟩:∃E,E=B+1:=⟨_,rfl⟩;obtain ⟨O,hO⟩:∃O,O=E+1:=⟨_,rfl⟩
 obtain ⟨W0,hW0⟩:∃W0,W0=((w.alloc (.cells (mA m au cu ad cd) 52)).alloc (.cells #[.int .i64 e.kind,.string e.pack,.string e.text,.slice ao e.old.length co,.slice (some ⟨bf,of',none⟩) e.fresh.length cf] 39)).alloc (.cells mZ 52):=⟨_,rfl⟩;have hb0:Bw w W0:=by rw [hW0];exact zA (zA (zAb _ _) (zAb _ _)) (zAb _ _)
 have hx1:CBox W0 B 52 (mA m au cu ad cd):=by rw [hW0,hB];exact ((CBox.new w _ _).alloc _).alloc _
 have hx2:CBox W0 E 39 #[.int .i64 e.kind,.string e.pack,.string e.text,.slice ao e.old.length co,.slice (some ⟨bf,of',none⟩) e.fresh.length cf]:=by
  have:=(CBox.new (w.alloc (.cells (mA m au cu ad cd) 52)) 39 #[.int .i64 e.kind,.string e.pack,.string e.text,.slice ao e.old.length co,.slice (some ⟨bf,of',none⟩) e.fresh.length cf]).alloc (.cells mZ 52);rw [World.size_alloc,←hB,←hE,←hW0] at this;exact this
 have hx3:CBox W0 O 52 mZ:=by
  have:=CBox.new ((w.alloc (.cells (mA m au cu ad cd) 52)).alloc (.cells #[.int .i64 e.kind,.string e.pack,.string e.text,.slice ao e.old.length co,.slice (some ⟨bf,of',none⟩) e.fresh.length cf] 39)) 52 mZ;rw [World.size_alloc,World.size_alloc,←hB,←hE,←hO,←hW0] at this;exact this
 have HU:=lH hu;have HD:=lH hd;have HS:=lH hs;have HXL:=lH hX;have HB0:=lH hb0;have H1:=lH hx1;have H2:=lH hx2;have H3:=lH hx3;have HLT:Hid (B<O∧E<O∧w.heap.size≤B∧w.heap.size≤E):=⟨by omega,by omega,by omega,by omega⟩;have HFC:=lH hcell;have HRF:=lH hrd;have HBL:=lH hbl;have HFD:=lH hfd;have hf0:(0:Int)<(e.fresh.length:Int):=by omega
 have hf00:0<e.fresh.length:=by omega
 have m0:=H1.o.cell (i:=0) (v:=.string m.label) rfl;have m1:=H1.o.cell (i:=1) (v:=.slice au m.uses.length cu) rfl;have m2:=H1.o.cell (i:=2) (v:=.slice ad m.decls.length cd) rfl;have mf:=H1.o.frozen 2;have ml:=H1.o.lt;have e0:=H2.o.cell (i:=0) (v:=.int .i64 e.kind) rfl;have e3:=H2.o.cell (i:=3) (v:=.slice ao e.old.length co) rfl;have e4:=H2.o.cell (i:=4) (v:=.slice (some ⟨bf,of',none⟩) e.fresh.length cf) rfl;have el:=H2.o.lt;obtain ⟨o0,o1,o2,ol⟩:=zAp H3.o;obtain ⟨of0,of1,of2⟩:=zAx H3.o
 have fl:bf<W0.heap.size:=Nat.lt_of_lt_of_le hbl hb0.size;have x0:=(hb0.cell (p:=⟨bf,of',none⟩) hbl).trans (hcell 0 (.int .i64 f.id) rfl);have HC:=lH (zSi m.decls ad cd f.id W0 ((hd.fewer (Y:=[]) (by simp)).below hb0) hs.decls (by omega));have HKK:=lH hk;rw [hk] at e0;clear hu hd hs hb0 hx1 hx2 hx3 hfx hX hfe hfd hcell hrd hbl hk hf1;unfold editV
 go_enter Tryz.func86,Tryz.ntmps86
 go_upto_region 1 with (fail)
 rw [←hW0,←hB,←hE,←hO];clear hW0 hB hE hO;go_wp2_with (fail)
 refine HC.o.mono ?_;rintro r W1 ⟨rfl,hb1⟩;have HB1:=lH hb1;clear m0 m1 m2 mf ml e0 e3 e4 el o0 o1 o2 of0 of1 of2 ol x0 fl HC;have m0:=(H1.o.below hb1).cell (i:=0) (v:=.string m.label) rfl;have m1:=(H1.o.below hb1).cell (i:=1) (v:=.slice au m.uses.length cu) rfl;have m2:=(H1.o.below hb1).cell (i:=2) (v:=.slice ad m.decls.length cd) rfl;have mf:=(H1.o.below hb1).frozen 2;have ml:=(H1.o.below hb1).lt;have e0:=(H2.o.below hb1).cell (i:=0) (v:=.int .i64 e.kind) rfl
 have e3:=(H2.o.below hb1).cell (i:=3) (v:=.slice ao e.old.length co) rfl;have e4:=(H2.o.below hb1).cell (i:=4) (v:=.slice (some ⟨bf,of',none⟩) e.fresh.length cf) rfl;have el:=(H2.o.below hb1).lt;obtain ⟨o0,o1,o2,ol⟩:=zAp (H3.o.below hb1);obtain ⟨of0,of1,of2⟩:=zAx (H3.o.below hb1);clear hb1
 rcases zAu zVu HS.o.decls f.id with ⟨y,H⟩|H
 ·have HE:Hid (inMod m e=(m,7)):=by show _=_;unfold inMod;rw [if_neg (by have:=HKK.o;omega),if_neg (by have:=HKK.o;omega),if_pos HKK.o,HFD.o,H.look]
  rw [H.look];simp only [Option.isSome_some]
  clear H;generalize plc ltI ODecl.id m.decls f.id=p at *;go_wp2;have hP:=zLk (H3.o.below HB1.o) (.string m.label) (.slice au m.uses.length cu) (.slice ad m.decls.length cd);obtain ⟨r0,r1,r2,-⟩:=zAp hP;have hbw:=(zA HB0.o HB1.o).trans ((zLl W1 O (.string m.label) (.slice au m.uses.length cu) (.slice ad m.decls.length cd)).upto (zA HB0.o HB1.o).size (fun k hk=>by have:=HLT.o;simp at hk;omega));refine bodyPost_ret (by simp [results,Tryz.results86,go_sem,r0,r1,r2];try rfl) rfl ?_
  exact zCc HE.o (HU.o.below hbw) (HD.o.below hbw) hbw
 ·have HE:Hid (inMod m e=(⟨m.label,m.uses,insAt m.decls (plc ltI ODecl.id m.decls f.id) f⟩,0)):=by show _=_;unfold inMod;rw [if_neg (by have:=HKK.o;omega),if_neg (by have:=HKK.o;omega),if_pos HKK.o,HFD.o,H.look]
  have hpl:plc ltI ODecl.id m.decls f.id≤m.decls.length:=zHf _ _;rw [H.look];simp only [Option.isSome_none]
  clear H;generalize plc ltI ODecl.id m.decls f.id=p at *;obtain ⟨A,C,hA,hC,hpre,hsuf⟩:=zLa HD.o p;have hbW:=zA HB0.o HB1.o;have HPRE:=lH ((hpre hpl).below hbW);have HSUF:Hid (∀W,Bw w W→∀a',(∀b o,p<m.decls.length→ad=some ⟨b,o,none⟩→a'=some ⟨b,o+p * 11,none⟩)→IsRow W 11 (.slice a' (m.decls.length - p) (cd - p)) (m.decls.length - p) C):=fun W hW a' ha=>(hsuf a' hpl ha).below hW;have HRA:=lH hA;have HRC:=lH hC;have HO1:=lH (zBx hA);have HO2:=lH (zBx hC);have HBW:=lH hbW
  obtain ⟨i0,z,hi,hz0,hzs,hz1,hz2⟩:=zAn zDe
  have SW:Hid (∀W:World,Bw W1 W→(W.cell? ⟨E,4,none⟩=some (.slice (some ⟨bf,of',none⟩) e.fresh.length cf)∧W.cell? ⟨bf,of',none⟩=some (.int .i64 f.id)∧W.cell? ⟨bf,of'+1,none⟩=some (.int .i64 f.kind)∧W.cell? ⟨bf,of'+2,none⟩=some (.bool f.pub)∧W.cell? ⟨bf,of'+3,none⟩=some (.slice an f.names.length cn)∧W.cell? ⟨bf,of'+4,none⟩=some (.bool f.doubt)∧W.cell? ⟨bf,of'+5,none⟩=some (.int .i64 f.body.kind)∧W.cell? ⟨bf,of'+6,none⟩=some (.string f.body.name)∧W.cell? ⟨bf,of'+7,none⟩=some (.string f.body.more)∧W.cell? ⟨bf,of'+8,none⟩=some (.int .i64 f.body.num)∧W.cell? ⟨bf,of'+9,none⟩=some (.int .i64 f.body.den)∧W.cell? ⟨bf,of'+10,none⟩=some (.slice sa f.body.subs.length cs)∧E<W.heap.size∧bf<W.heap.size)):=fun W hW=>⟨((H2.o.below HB1.o).below hW).cell (i:=4) (v:=.slice (some ⟨bf,of',none⟩) e.fresh.length cf) rfl,((zA HBW.o hW).cell (p:=⟨bf,_,none⟩) HBL.o).trans (HFC.o 0 _ rfl),((zA HBW.o hW).cell (p:=⟨bf,_,none⟩) HBL.o).trans (HFC.o 1 _ rfl),((zA HBW.o hW).cell (p:=⟨bf,_,none⟩) HBL.o).trans (HFC.o 2 _ rfl),((zA HBW.o hW).cell (p:=⟨bf,_,none⟩) HBL.o).trans (HFC.o 3 _ rfl),((zA HBW.o hW).cell (p:=⟨bf,_,none⟩) HBL.o).trans (HFC.o 4 _ rfl),((zA HBW.o hW).cell (p:=⟨bf,_,none⟩) HBL.o).trans (HFC.o 5 _ rfl),((zA HBW.o hW).cell (p:=⟨bf,_,none⟩) HBL.o).trans (HFC.o 6 _ rfl),((zA HBW.o hW).cell (p:=⟨bf,_,none⟩) HBL.o).trans (HFC.o 7 _ rfl),((zA HBW.o hW).cell (p:=⟨bf,_,none⟩) HBL.o).trans (HFC.o 8 _ rfl),((zA HBW.o hW).cell (p:=⟨bf,_,none⟩) HBL.o).trans (HFC.o 9 _ rfl),((zA HBW.o hW).cell (p:=⟨bf,_,none⟩) HBL.o).trans (HFC.o 10 _ rfl),((H2.o.below HB1.o).below hW).lt,Nat.lt_of_lt_of_le HBL.o (zA HBW.o hW).size⟩
  clear hA hC hpre hsuf hbW;clear m0 m1 m2 mf ml e0 e3 e4 el o0 o1 o2 of0 of1 of2 ol;have hpi:(p:Int)≤(m.decls.length:Int):=by omega
  have hpc:(p:Int)≤(cd:Int):=by omega
  have hw2:((p:Int)).toNat=p:=by omega
  have hw3:(0:Int)≤(p:Int):=by omega
  cases ad with
  | none=>
   go_upto_region 6 with (fail)
   go_cut [9] from 31 to 42 (fun c wx=>OwnD w X wx W1.heap.size c (m.decls.take p++[f])∧RowKit.Below W1.heap.size W1 wx)
   case first=>
    have hq2:Bw W1 W1.drew:=(Mod.refl [] W1).drew.below
    refine wp_region_noPanic (zEa (fun W:World=>W.cell? ⟨E,4,none⟩=some (.slice (some ⟨bf,of',none⟩) e.fresh.length cf)∧W.cell? ⟨bf,of',none⟩=some (.int .i64 f.id)∧W.cell? ⟨bf,of'+1,none⟩=some (.int .i64 f.kind)∧W.cell? ⟨bf,of'+2,none⟩=some (.bool f.pub)∧W.cell? ⟨bf,of'+3,none⟩=some (.slice an f.names.length cn)∧W.cell? ⟨bf,of'+4,none⟩=some (.bool f.doubt)∧W.cell? ⟨bf,of'+5,none⟩=some (.int .i64 f.body.kind)∧W.cell? ⟨bf,of'+6,none⟩=some (.string f.body.name)∧W.cell? ⟨bf,of'+7,none⟩=some (.string f.body.more)∧W.cell? ⟨bf,of'+8,none⟩=some (.int .i64 f.body.num)∧W.cell? ⟨bf,of'+9,none⟩=some (.int .i64 f.body.den)∧W.cell? ⟨bf,of'+10,none⟩=some (.slice sa f.body.subs.length cs)∧E<W.heap.size∧bf<W.heap.size) (.take 1 (.take 2 (.take 3 (.take 5 (.take 6 (.take 7 (.take 8 (.two 0 9 (.two 4 9 (.one 9 (.one 10 (.one 11 .done))) (.one 4 (.one 10 (.one 11 .done)))) (.one 0 (.one 4 (.one 10 (.one 11 .done)))))))))))) zAw (by kernel_rfl) (fun _ _ _ _ _ h=>h) (SW.o _ hq2) ?_)
    iterate 7 (refine zFx (v:=?_) rfl (by rfl) ?_ ?_;rotate_left;(focus (intro wq hSw;(try dsimp only at hSw);go_simp;(try with_reducible rfl)));(try simp only [gA,gB,gC,Act.put,gD,gE,gF]))
    generalize W1.drew=W2 at *;refine zDg ?_ ?_
    ·refine zAh rfl (by rfl) (fun K hK=>?_)
     go_simp
     obtain ⟨W3,hW3⟩:∃W3,W3=W2.alloc (.cells #[] 62):=⟨_,rfl⟩;obtain ⟨z0,hz0'⟩:∃z0,z0=W2.heap.size:=⟨_,rfl⟩;have hs3:Bw W2 W3:=by rw [hW3];exact zAb _ _
     have hq3:=zA hq2 hs3;have hN0:W3.ownsRow W1.heap.size 62 11 (.slice (some ⟨z0,0,none⟩) 0 0) 0 []:=by rw [hW3,hz0'];exact World.ownsRow_made _ #[] 0 hq2.size (Nat.zero_le _) rfl
     rw [←hW3,←hz0'];have hz0g:W2.heap.size≤z0:=by omega
     have hz0u:z0<W3.heap.size:=(hN0.lt z0 rfl).2;clear hW3 hz0';refine hK.out _ _ (SW.o _ hq3) ?_;clear hK K;(try simp only [gA,gB,gC,Act.put,gD,gE,gF]);refine zDg ?_ ?_
     ·refine zAh rfl (by rfl) (fun K hK=>?_)
      refine zAj _ _ 37 rfl W1.heap.size 62 i0 _ 11 136 Tryz.underlying37 hi hz0 hz1 hz2 hzs (by decide) (.slice (some ⟨z0,0,none⟩) 0 0) 0 [] rfl hN0 _ p A rfl (HPRE.o.below hq3) HO1.o (by unfold maxLen;omega) (by omega) hq3.size ?_;intro v4 W4 hown4 hg4;have hq4:Bw W1 W4:=hq3.grown hg4 hq3.size (fun k hk=>((hN0).lt k hk).1);refine hK.out _ _ (SW.o _ hq4) ?_;clear hK K;(try simp only [gA,gB,gC,Act.put,gD,gE,gF]);refine zAh rfl (by rfl) (fun K hK=>?_)
      go_simp
      obtain ⟨W5,hW5⟩:∃W5,W5=W4.alloc (.cells (dA f an cn sa cs) 62):=⟨_,rfl⟩;obtain ⟨z9,hz9'⟩:∃z9,z9=W4.heap.size:=⟨_,rfl⟩;have hs5:Bw W4 W5:=by rw [hW5];exact zAb _ _
      have hq5:=zA hq4 hs5;have h95:IsRow W5 11 (.slice (some ⟨z9,0,none⟩) 1 1) 1 (declL f an cn sa cs):=zEh (by rw [hW5,hz9'];exact CBox.new _ _ _);rw [←hW5,←hz9'];have hz9g:W4.heap.size≤z9:=by omega
      have hz9u:z9<W5.heap.size:=by rw [hz9',hW5,World.size_alloc];omega
      clear hW5 hz9';have hN4_5:=zAg hown4 hs5;refine hK.out _ _ (SW.o _ hq5) ?_;clear hK K;(try simp only [gA,gB,gC,Act.put,gD,gE,gF]);refine zAh rfl (by rfl) (fun K hK=>?_);refine zAj _ _ 37 rfl W1.heap.size 62 i0 _ 11 136 Tryz.underlying37 hi hz0 hz1 hz2 hzs (by decide) v4 (0+p) ([]++A) rfl hN4_5 _ 1 (declL f an cn sa cs) rfl h95 (zCp f an cn sa cs) (by unfold maxLen;omega) (by omega) hq5.size ?_;intro v5 W6 hown5 hg5;have hq6:Bw W1 W6:=hq5.grown hg5 hq5.size (fun k hk=>((hN4_5).lt k hk).1)
      refine hK.out _ _ (SW.o _ hq6) ?_;clear hK K;(try simp only [gA,gB,gC,Act.put,gD,gE,gF]);refine zAh rfl (by rfl) (fun K hK=>?_);go_simp;refine hK.out _ _ (SW.o _ hq6) ?_;clear hK K;(try simp only [gA,gB,gC,Act.put,gD,gE,gF])
      have HEND:Hid (OwnD w X W6 W1.heap.size v5 (m.decls.take p++[f])):=⟨_,by
       rw [List.length_append,List.length_take,Nat.min_eq_left hpl]
       rw [Nat.zero_add,List.nil_append] at hown5;exact hown5,by rw [List.flatMap_append];exact ReadsL.append (by simpa using HRF.o) HRA.o⟩
      have HQE:=lH hq6;refine zBt ?_;refine NoPanic.normal ?_;go_wp2;go_meet
      case rel=>exact ⟨HEND.o,HQE.o⟩
     ·refine zAh rfl (by rfl) (fun K hK=>?_)
      go_simp
      obtain ⟨W4,hW4⟩:∃W4,W4=W3.alloc (.cells (dA f an cn sa cs) 62):=⟨_,rfl⟩;obtain ⟨z9,hz9'⟩:∃z9,z9=W3.heap.size:=⟨_,rfl⟩;have hs4:Bw W3 W4:=by rw [hW4];exact zAb _ _
      have hq4:=zA hq3 hs4;have h94:IsRow W4 11 (.slice (some ⟨z9,0,none⟩) 1 1) 1 (declL f an cn sa cs):=zEh (by rw [hW4,hz9'];exact CBox.new _ _ _);rw [←hW4,←hz9'];have hz9g:W3.heap.size≤z9:=by omega
      have hz9u:z9<W4.heap.size:=by rw [hz9',hW4,World.size_alloc];omega
      clear hW4 hz9';have hN0_4:=zAg hN0 hs4;refine hK.out _ _ (SW.o _ hq4) ?_;clear hK K;(try simp only [gA,gB,gC,Act.put,gD,gE,gF]);refine zAh rfl (by rfl) (fun K hK=>?_);refine zAj _ _ 37 rfl W1.heap.size 62 i0 _ 11 136 Tryz.underlying37 hi hz0 hz1 hz2 hzs (by decide) (.slice (some ⟨z0,0,none⟩) 0 0) 0 [] rfl hN0_4 _ p A rfl (HPRE.o.below hq4) HO1.o (by unfold maxLen;omega) (by omega) hq4.size ?_;intro v4 W5 hown4 hg4;have hq5:Bw W1 W5:=hq4.grown hg4 hq4.size (fun k hk=>((hN0_4).lt k hk).1)
      have h95:=h94.mod (zAl hg4) (fun b hb c=>by injection hb with hb;subst hb;simp [Value.ownBlock] at c;omega);refine hK.out _ _ (SW.o _ hq5) ?_;clear hK K;(try simp only [gA,gB,gC,Act.put,gD,gE,gF]);refine zAh rfl (by rfl) (fun K hK=>?_);refine zAj _ _ 37 rfl W1.heap.size 62 i0 _ 11 136 Tryz.underlying37 hi hz0 hz1 hz2 hzs (by decide) v4 (0+p) ([]++A) rfl hown4 _ 1 (declL f an cn sa cs) rfl h95 (zCp f an cn sa cs) (by unfold maxLen;omega) (by omega) hq5.size ?_;intro v5 W6 hown5 hg5
      have hq6:Bw W1 W6:=hq5.grown hg5 hq5.size (fun k hk=>((hown4).lt k hk).1);refine hK.out _ _ (SW.o _ hq6) ?_;clear hK K;(try simp only [gA,gB,gC,Act.put,gD,gE,gF]);refine zAh rfl (by rfl) (fun K hK=>?_);go_simp;refine hK.out _ _ (SW.o _ hq6) ?_;clear hK K;(try simp only [gA,gB,gC,Act.put,gD,gE,gF])
      have HEND:Hid (OwnD w X W6 W1.heap.size v5 (m.decls.take p++[f])):=⟨_,by
       rw [List.length_append,List.length_take,Nat.min_eq_left hpl]
       rw [Nat.zero_add,List.nil_append] at hown5;exact hown5,by rw [List.flatMap_append];exact ReadsL.append (by simpa using HRF.o) HRA.o⟩
      have HQE:=lH hq6;refine zBt ?_;refine NoPanic.normal ?_;go_wp2;go_meet
      case rel=>exact ⟨HEND.o,HQE.o⟩
    ·refine zAh rfl (by rfl) (fun K hK=>?_)
     go_simp
     obtain ⟨W3,hW3⟩:∃W3,W3=W2.alloc (.cells (dA f an cn sa cs) 62):=⟨_,rfl⟩;obtain ⟨z9,hz9'⟩:∃z9,z9=W2.heap.size:=⟨_,rfl⟩;have hs3:Bw W2 W3:=by rw [hW3];exact zAb _ _
     have hq3:=zA hq2 hs3;have h93:IsRow W3 11 (.slice (some ⟨z9,0,none⟩) 1 1) 1 (declL f an cn sa cs):=zEh (by rw [hW3,hz9'];exact CBox.new _ _ _);rw [←hW3,←hz9'];have hz9g:W2.heap.size≤z9:=by omega
     have hz9u:z9<W3.heap.size:=by rw [hz9',hW3,World.size_alloc];omega
     clear hW3 hz9';refine hK.out _ _ (SW.o _ hq3) ?_;clear hK K;(try simp only [gA,gB,gC,Act.put,gD,gE,gF]);refine zAh rfl (by rfl) (fun K hK=>?_)
     go_simp
     obtain ⟨W4,hW4⟩:∃W4,W4=W3.alloc (.cells #[] 62):=⟨_,rfl⟩;obtain ⟨z0,hz0'⟩:∃z0,z0=W3.heap.size:=⟨_,rfl⟩;have hs4:Bw W3 W4:=by rw [hW4];exact zAb _ _
     have hq4:=zA hq3 hs4;have hN0:W4.ownsRow W1.heap.size 62 11 (.slice (some ⟨z0,0,none⟩) 0 0) 0 []:=by rw [hW4,hz0'];exact World.ownsRow_made _ #[] 0 hq3.size (Nat.zero_le _) rfl
     rw [←hW4,←hz0'];have hz0g:W3.heap.size≤z0:=by omega
     have hz0u:z0<W4.heap.size:=(hN0.lt z0 rfl).2;clear hW4 hz0';have h94:=h93.below hs4;refine hK.out _ _ (SW.o _ hq4) ?_;clear hK K;(try simp only [gA,gB,gC,Act.put,gD,gE,gF]);refine zAh rfl (by rfl) (fun K hK=>?_);refine zAj _ _ 37 rfl W1.heap.size 62 i0 _ 11 136 Tryz.underlying37 hi hz0 hz1 hz2 hzs (by decide) (.slice (some ⟨z0,0,none⟩) 0 0) 0 [] rfl hN0 _ p A rfl (HPRE.o.below hq4) HO1.o (by unfold maxLen;omega) (by omega) hq4.size ?_;intro v4 W5 hown4 hg4
     have hq5:Bw W1 W5:=hq4.grown hg4 hq4.size (fun k hk=>((hN0).lt k hk).1);have h95:=h94.mod (zAl hg4) (fun b hb c=>by injection hb with hb;subst hb;simp [Value.ownBlock] at c;omega);refine hK.out _ _ (SW.o _ hq5) ?_;clear hK K;(try simp only [gA,gB,gC,Act.put,gD,gE,gF]);refine zAh rfl (by rfl) (fun K hK=>?_)
     refine zAj _ _ 37 rfl W1.heap.size 62 i0 _ 11 136 Tryz.underlying37 hi hz0 hz1 hz2 hzs (by decide) v4 (0+p) ([]++A) rfl hown4 _ 1 (declL f an cn sa cs) rfl h95 (zCp f an cn sa cs) (by unfold maxLen;omega) (by omega) hq5.size ?_;intro v5 W6 hown5 hg5;have hq6:Bw W1 W6:=hq5.grown hg5 hq5.size (fun k hk=>((hown4).lt k hk).1);refine hK.out _ _ (SW.o _ hq6) ?_;clear hK K;(try simp only [gA,gB,gC,Act.put,gD,gE,gF]);refine zAh rfl (by rfl) (fun K hK=>?_);go_simp
     refine hK.out _ _ (SW.o _ hq6) ?_;clear hK K;(try simp only [gA,gB,gC,Act.put,gD,gE,gF])
     have HEND:Hid (OwnD w X W6 W1.heap.size v5 (m.decls.take p++[f])):=⟨_,by
      rw [List.length_append,List.length_take,Nat.min_eq_left hpl]
      rw [Nat.zero_add,List.nil_append] at hown5;exact hown5,by rw [List.flatMap_append];exact ReadsL.append (by simpa using HRF.o) HRA.o⟩
     have HQE:=lH hq6;refine zBt ?_;refine NoPanic.normal ?_;go_wp2;go_meet
     case rel=>exact ⟨HEND.o,HQE.o⟩
   case rest=>
    obtain ⟨⟨xs,ho,hx⟩,hb2⟩:=hcut;have hlen:(m.decls.take p++[f]).length=p+1:=by rw [List.length_append,List.length_take,Nat.min_eq_left hpl];rfl
    rw [hlen] at ho;obtain ⟨va0,vc0,rfl⟩:=zAe ho;have HO:=lH ho;have HXX:=lH hx;have hb3:=zA HB1.o hb2;have HB2:=lH hb2;have HB3:=lH (zA HB0.o hb3);have m0:=(H1.o.below hb3).cell (i:=0) (v:=.string m.label) rfl;have m1:=(H1.o.below hb3).cell (i:=1) (v:=.slice au m.uses.length cu) rfl;have m2:=(H1.o.below hb3).cell (i:=2) (v:=.slice none m.decls.length cd) rfl;have mf:=(H1.o.below hb3).frozen 2;have ml:=(H1.o.below hb3).lt;have e0:=(H2.o.below hb3).cell (i:=0) (v:=.int .i64 e.kind) rfl
    have e3:=(H2.o.below hb3).cell (i:=3) (v:=.slice ao e.old.length co) rfl;have e4:=(H2.o.below hb3).cell (i:=4) (v:=.slice (some ⟨bf,of',none⟩) e.fresh.length cf) rfl;have el:=(H2.o.below hb3).lt;obtain ⟨o0,o1,o2,ol⟩:=zAp (H3.o.below hb3);obtain ⟨of0,of1,of2⟩:=zAx (H3.o.below hb3);have HL2:Hid (p+1+(m.decls.length - p)=(insAt m.decls p f).length):=by show _=_;rw [zDv _ hpl];omega
    have hsz:=hb2.size;clear ho hx hb2 hb3 hlen;have hsr:=HSUF.o wc HB3.o none (fun b o _ h=>by cases h);go_wp2_with (at_builtin;refine zAa rfl _ _ 37 rfl W1.heap.size 62 i0 _ 11 136 Tryz.underlying37 hi hz0 hz1 hz2 hzs (by decide) _ _ _ rfl HO.o _ _ _ rfl hsr HO2.o (by unfold maxLen;omega) (by omega) hsz ?_)
    intro v2 w2 hown2 hg2 hbq;rw [HL2.o] at hown2;obtain ⟨va,vc,rfl⟩:=zAe hown2;have HQ:Hid (Bw W1 w2):=HB2.o.grown hg2 hsz (fun k hk=>(HO.o.lt k hk).1)
    have HOW:Hid (OwnD w X w2 W1.heap.size (.slice va (insAt m.decls p f).length vc) (insAt m.decls p f)):=⟨_,hown2,by
     have e:insAt m.decls p f=m.decls.take p++[f]++m.decls.drop p:=by unfold insAt;rw [List.append_assoc];rfl
     rw [e,List.flatMap_append];exact ReadsL.append HRC.o HXX.o⟩
    clear m0 m1 m2 mf ml e0 e3 e4 el o0 o1 o2 of0 of1 of2 ol hown2 hg2 hbq hsr;have hbz:=zA HB1.o HQ.o;have m0:=(H1.o.below hbz).cell (i:=0) (v:=.string m.label) rfl;have m1:=(H1.o.below hbz).cell (i:=1) (v:=.slice au m.uses.length cu) rfl;have m2:=(H1.o.below hbz).cell (i:=2) (v:=.slice none m.decls.length cd) rfl;have mf:=(H1.o.below hbz).frozen 2;have ml:=(H1.o.below hbz).lt;have e0:=(H2.o.below hbz).cell (i:=0) (v:=.int .i64 e.kind) rfl;have e3:=(H2.o.below hbz).cell (i:=3) (v:=.slice ao e.old.length co) rfl
    have e4:=(H2.o.below hbz).cell (i:=4) (v:=.slice (some ⟨bf,of',none⟩) e.fresh.length cf) rfl;have el:=(H2.o.below hbz).lt;obtain ⟨o0,o1,o2,ol⟩:=zAp (H3.o.below hbz);obtain ⟨of0,of1,of2⟩:=zAx (H3.o.below hbz);have HH1:=lH (H1.o.below hbz);have HH3:=lH (H3.o.below hbz);clear hbz hsz;have hne:B≠O:=by have:=HLT.o;omega
    have hne2:O≠B:=hne.symm;have HM1:Hid (Mod [B] w2 (w2.setCell ⟨B,2,none⟩ (.slice va (insAt m.decls p f).length vc))):=(Mod.refl [B] w2).setCell (by simp) _;go_wp2;have hP:=zLk (HH3.o.mod HM1.o (by simpa using hne2)) (.string m.label) (.slice au m.uses.length cu) (.slice va (insAt m.decls p f).length vc);obtain ⟨r0,r1,r2,-⟩:=zAp hP;have hm3:=zLl (w2.setCell ⟨B,2,none⟩ (.slice va (insAt m.decls p f).length vc)) O (.string m.label) (.slice au m.uses.length cu) (.slice va (insAt m.decls p f).length vc)
    have hb1:=zA (zA HB0.o HB1.o) HQ.o;have hbw:=(hb1.trans (HM1.o.upto hb1.size (fun k hk=>by have:=HLT.o;simp at hk;omega))).trans (hm3.upto (Nat.le_trans hb1.size HM1.o.size) (fun k hk=>by have:=HLT.o;simp at hk;omega));refine bodyPost_ret (by simp [results,Tryz.results86,go_sem,r0,r1,r2];try rfl) rfl ?_;refine zCc (m':=⟨m.label,m.uses,insAt m.decls p f⟩) HE.o (HU.o.below hbw) ?_ hbw
    exact (((HOW.o).mod HM1.o (fun b hb c=>by have:=zBi HOW.o hb;have:=(H1.o.below HB1.o).lt;simp at c;omega)).mod hm3 (fun b hb c=>by have:=zBi HOW.o hb;have:=(H3.o.below HB1.o).lt;simp at c;omega)).reads hbw (fun x hx=>by have:=HXL.o x hx;have:=(zA HB0.o HB1.o).size;omega)
  | some ad=>
   go_upto_region 6 with (fail)
   go_cut [9] from 31 to 42 (fun c wx=>OwnD w X wx W1.heap.size c (m.decls.take p++[f])∧RowKit.Below W1.heap.size W1 wx)
   case first=>
    have hq2:Bw W1 W1.drew:=(Mod.refl [] W1).drew.below
    refine wp_region_noPanic (zEa (fun W:World=>W.cell? ⟨E,4,none⟩=some (.slice (some ⟨bf,of',none⟩) e.fresh.length cf)∧W.cell? ⟨bf,of',none⟩=some (.int .i64 f.id)∧W.cell? ⟨bf,of'+1,none⟩=some (.int .i64 f.kind)∧W.cell? ⟨bf,of'+2,none⟩=some (.bool f.pub)∧W.cell? ⟨bf,of'+3,none⟩=some (.slice an f.names.length cn)∧W.cell? ⟨bf,of'+4,none⟩=some (.bool f.doubt)∧W.cell? ⟨bf,of'+5,none⟩=some (.int .i64 f.body.kind)∧W.cell? ⟨bf,of'+6,none⟩=some (.string f.body.name)∧W.cell? ⟨bf,of'+7,none⟩=some (.string f.body.more)∧W.cell? ⟨bf,of'+8,none⟩=some (.int .i64 f.body.num)∧W.cell? ⟨bf,of'+9,none⟩=some (.int .i64 f.body.den)∧W.cell? ⟨bf,of'+10,none⟩=some (.slice sa f.body.subs.length cs)∧E<W.heap.size∧bf<W.heap.size) (.take 1 (.take 2 (.take 3 (.take 5 (.take 6 (.take 7 (.take 8 (.two 0 9 (.two 4 9 (.one 9 (.one 10 (.one 11 .done))) (.one 4 (.one 10 (.one 11 .done)))) (.one 0 (.one 4 (.one 10 (.one 11 .done)))))))))))) zAw (by kernel_rfl) (fun _ _ _ _ _ h=>h) (SW.o _ hq2) ?_)
    iterate 7 (refine zFx (v:=?_) rfl (by rfl) ?_ ?_;rotate_left;(focus (intro wq hSw;(try dsimp only at hSw);go_simp;(try with_reducible rfl)));(try simp only [gA,gB,gC,Act.put,gD,gE,gF]))
    generalize W1.drew=W2 at *;refine zDg ?_ ?_
    ·refine zAh rfl (by rfl) (fun K hK=>?_)
     go_simp
     obtain ⟨W3,hW3⟩:∃W3,W3=W2.alloc (.cells #[] 62):=⟨_,rfl⟩;obtain ⟨z0,hz0'⟩:∃z0,z0=W2.heap.size:=⟨_,rfl⟩;have hs3:Bw W2 W3:=by rw [hW3];exact zAb _ _
     have hq3:=zA hq2 hs3;have hN0:W3.ownsRow W1.heap.size 62 11 (.slice (some ⟨z0,0,none⟩) 0 0) 0 []:=by rw [hW3,hz0'];exact World.ownsRow_made _ #[] 0 hq2.size (Nat.zero_le _) rfl
     rw [←hW3,←hz0'];have hz0g:W2.heap.size≤z0:=by omega
     have hz0u:z0<W3.heap.size:=(hN0.lt z0 rfl).2;clear hW3 hz0';refine hK.out _ _ (SW.o _ hq3) ?_;clear hK K;(try simp only [gA,gB,gC,Act.put,gD,gE,gF]);refine zDg ?_ ?_
     ·refine zAh rfl (by rfl) (fun K hK=>?_)
      refine zAj _ _ 37 rfl W1.heap.size 62 i0 _ 11 136 Tryz.underlying37 hi hz0 hz1 hz2 hzs (by decide) (.slice (some ⟨z0,0,none⟩) 0 0) 0 [] rfl hN0 _ p A rfl (HPRE.o.below hq3) HO1.o (by unfold maxLen;omega) (by omega) hq3.size ?_;intro v4 W4 hown4 hg4;have hq4:Bw W1 W4:=hq3.grown hg4 hq3.size (fun k hk=>((hN0).lt k hk).1);refine hK.out _ _ (SW.o _ hq4) ?_;clear hK K;(try simp only [gA,gB,gC,Act.put,gD,gE,gF]);refine zAh rfl (by rfl) (fun K hK=>?_)
      go_simp
      obtain ⟨W5,hW5⟩:∃W5,W5=W4.alloc (.cells (dA f an cn sa cs) 62):=⟨_,rfl⟩;obtain ⟨z9,hz9'⟩:∃z9,z9=W4.heap.size:=⟨_,rfl⟩;have hs5:Bw W4 W5:=by rw [hW5];exact zAb _ _
      have hq5:=zA hq4 hs5;have h95:IsRow W5 11 (.slice (some ⟨z9,0,none⟩) 1 1) 1 (declL f an cn sa cs):=zEh (by rw [hW5,hz9'];exact CBox.new _ _ _);rw [←hW5,←hz9'];have hz9g:W4.heap.size≤z9:=by omega
      have hz9u:z9<W5.heap.size:=by rw [hz9',hW5,World.size_alloc];omega
      clear hW5 hz9';have hN4_5:=zAg hown4 hs5;refine hK.out _ _ (SW.o _ hq5) ?_;clear hK K;(try simp only [gA,gB,gC,Act.put,gD,gE,gF]);refine zAh rfl (by rfl) (fun K hK=>?_);refine zAj _ _ 37 rfl W1.heap.size 62 i0 _ 11 136 Tryz.underlying37 hi hz0 hz1 hz2 hzs (by decide) v4 (0+p) ([]++A) rfl hN4_5 _ 1 (declL f an cn sa cs) rfl h95 (zCp f an cn sa cs) (by unfold maxLen;omega) (by omega) hq5.size ?_;intro v5 W6 hown5 hg5;have hq6:Bw W1 W6:=hq5.grown hg5 hq5.size (fun k hk=>((hN4_5).lt k hk).1)
      refine hK.out _ _ (SW.o _ hq6) ?_;clear hK K;(try simp only [gA,gB,gC,Act.put,gD,gE,gF]);refine zAh rfl (by rfl) (fun K hK=>?_);go_simp;refine hK.out _ _ (SW.o _ hq6) ?_;clear hK K;(try simp only [gA,gB,gC,Act.put,gD,gE,gF])
      have HEND:Hid (OwnD w X W6 W1.heap.size v5 (m.decls.take p++[f])):=⟨_,by
       rw [List.length_append,List.length_take,Nat.min_eq_left hpl]
       rw [Nat.zero_add,List.nil_append] at hown5;exact hown5,by rw [List.flatMap_append];exact ReadsL.append (by simpa using HRF.o) HRA.o⟩
      have HQE:=lH hq6;refine zBt ?_;refine NoPanic.normal ?_;go_wp2;go_meet
      case rel=>exact ⟨HEND.o,HQE.o⟩
     ·refine zAh rfl (by rfl) (fun K hK=>?_)
      go_simp
      obtain ⟨W4,hW4⟩:∃W4,W4=W3.alloc (.cells (dA f an cn sa cs) 62):=⟨_,rfl⟩;obtain ⟨z9,hz9'⟩:∃z9,z9=W3.heap.size:=⟨_,rfl⟩;have hs4:Bw W3 W4:=by rw [hW4];exact zAb _ _
      have hq4:=zA hq3 hs4;have h94:IsRow W4 11 (.slice (some ⟨z9,0,none⟩) 1 1) 1 (declL f an cn sa cs):=zEh (by rw [hW4,hz9'];exact CBox.new _ _ _);rw [←hW4,←hz9'];have hz9g:W3.heap.size≤z9:=by omega
      have hz9u:z9<W4.heap.size:=by rw [hz9',hW4,World.size_alloc];omega
      clear hW4 hz9';have hN0_4:=zAg hN0 hs4;refine hK.out _ _ (SW.o _ hq4) ?_;clear hK K;(try simp only [gA,gB,gC,Act.put,gD,gE,gF]);refine zAh rfl (by rfl) (fun K hK=>?_);refine zAj _ _ 37 rfl W1.heap.size 62 i0 _ 11 136 Tryz.underlying37 hi hz0 hz1 hz2 hzs (by decide) (.slice (some ⟨z0,0,none⟩) 0 0) 0 [] rfl hN0_4 _ p A rfl (HPRE.o.below hq4) HO1.o (by unfold maxLen;omega) (by omega) hq4.size ?_;intro v4 W5 hown4 hg4;have hq5:Bw W1 W5:=hq4.grown hg4 hq4.size (fun k hk=>((hN0_4).lt k hk).1)
      have h95:=h94.mod (zAl hg4) (fun b hb c=>by injection hb with hb;subst hb;simp [Value.ownBlock] at c;omega);refine hK.out _ _ (SW.o _ hq5) ?_;clear hK K;(try simp only [gA,gB,gC,Act.put,gD,gE,gF]);refine zAh rfl (by rfl) (fun K hK=>?_);refine zAj _ _ 37 rfl W1.heap.size 62 i0 _ 11 136 Tryz.underlying37 hi hz0 hz1 hz2 hzs (by decide) v4 (0+p) ([]++A) rfl hown4 _ 1 (declL f an cn sa cs) rfl h95 (zCp f an cn sa cs) (by unfold maxLen;omega) (by omega) hq5.size ?_;intro v5 W6 hown5 hg5
      have hq6:Bw W1 W6:=hq5.grown hg5 hq5.size (fun k hk=>((hown4).lt k hk).1);refine hK.out _ _ (SW.o _ hq6) ?_;clear hK K;(try simp only [gA,gB,gC,Act.put,gD,gE,gF]);refine zAh rfl (by rfl) (fun K hK=>?_);go_simp;refine hK.out _ _ (SW.o _ hq6) ?_;clear hK K;(try simp only [gA,gB,gC,Act.put,gD,gE,gF])
      have HEND:Hid (OwnD w X W6 W1.heap.size v5 (m.decls.take p++[f])):=⟨_,by
       rw [List.length_append,List.length_take,Nat.min_eq_left hpl]
       rw [Nat.zero_add,List.nil_append] at hown5;exact hown5,by rw [List.flatMap_append];exact ReadsL.append (by simpa using HRF.o) HRA.o⟩
      have HQE:=lH hq6;refine zBt ?_;refine NoPanic.normal ?_;go_wp2;go_meet
      case rel=>exact ⟨HEND.o,HQE.o⟩
    ·refine zAh rfl (by rfl) (fun K hK=>?_)
     go_simp
     obtain ⟨W3,hW3⟩:∃W3,W3=W2.alloc (.cells (dA f an cn sa cs) 62):=⟨_,rfl⟩;obtain ⟨z9,hz9'⟩:∃z9,z9=W2.heap.size:=⟨_,rfl⟩;have hs3:Bw W2 W3:=by rw [hW3];exact zAb _ _
     have hq3:=zA hq2 hs3;have h93:IsRow W3 11 (.slice (some ⟨z9,0,none⟩) 1 1) 1 (declL f an cn sa cs):=zEh (by rw [hW3,hz9'];exact CBox.new _ _ _);rw [←hW3,←hz9'];have hz9g:W2.heap.size≤z9:=by omega
     have hz9u:z9<W3.heap.size:=by rw [hz9',hW3,World.size_alloc];omega
     clear hW3 hz9';refine hK.out _ _ (SW.o _ hq3) ?_;clear hK K;(try simp only [gA,gB,gC,Act.put,gD,gE,gF]);refine zAh rfl (by rfl) (fun K hK=>?_)
     go_simp
     obtain ⟨W4,hW4⟩:∃W4,W4=W3.alloc (.cells #[] 62):=⟨_,rfl⟩;obtain ⟨z0,hz0'⟩:∃z0,z0=W3.heap.size:=⟨_,rfl⟩;have hs4:Bw W3 W4:=by rw [hW4];exact zAb _ _
     have hq4:=zA hq3 hs4;have hN0:W4.ownsRow W1.heap.size 62 11 (.slice (some ⟨z0,0,none⟩) 0 0) 0 []:=by rw [hW4,hz0'];exact World.ownsRow_made _ #[] 0 hq3.size (Nat.zero_le _) rfl
     rw [←hW4,←hz0'];have hz0g:W3.heap.size≤z0:=by omega
     have hz0u:z0<W4.heap.size:=(hN0.lt z0 rfl).2;clear hW4 hz0';have h94:=h93.below hs4;refine hK.out _ _ (SW.o _ hq4) ?_;clear hK K;(try simp only [gA,gB,gC,Act.put,gD,gE,gF]);refine zAh rfl (by rfl) (fun K hK=>?_);refine zAj _ _ 37 rfl W1.heap.size 62 i0 _ 11 136 Tryz.underlying37 hi hz0 hz1 hz2 hzs (by decide) (.slice (some ⟨z0,0,none⟩) 0 0) 0 [] rfl hN0 _ p A rfl (HPRE.o.below hq4) HO1.o (by unfold maxLen;omega) (by omega) hq4.size ?_;intro v4 W5 hown4 hg4
     have hq5:Bw W1 W5:=hq4.grown hg4 hq4.size (fun k hk=>((hN0).lt k hk).1);have h95:=h94.mod (zAl hg4) (fun b hb c=>by injection hb with hb;subst hb;simp [Value.ownBlock] at c;omega);refine hK.out _ _ (SW.o _ hq5) ?_;clear hK K;(try simp only [gA,gB,gC,Act.put,gD,gE,gF]);refine zAh rfl (by rfl) (fun K hK=>?_)
     refine zAj _ _ 37 rfl W1.heap.size 62 i0 _ 11 136 Tryz.underlying37 hi hz0 hz1 hz2 hzs (by decide) v4 (0+p) ([]++A) rfl hown4 _ 1 (declL f an cn sa cs) rfl h95 (zCp f an cn sa cs) (by unfold maxLen;omega) (by omega) hq5.size ?_;intro v5 W6 hown5 hg5;have hq6:Bw W1 W6:=hq5.grown hg5 hq5.size (fun k hk=>((hown4).lt k hk).1);refine hK.out _ _ (SW.o _ hq6) ?_;clear hK K;(try simp only [gA,gB,gC,Act.put,gD,gE,gF]);refine zAh rfl (by rfl) (fun K hK=>?_);go_simp
     refine hK.out _ _ (SW.o _ hq6) ?_;clear hK K;(try simp only [gA,gB,gC,Act.put,gD,gE,gF])
     have HEND:Hid (OwnD w X W6 W1.heap.size v5 (m.decls.take p++[f])):=⟨_,by
      rw [List.length_append,List.length_take,Nat.min_eq_left hpl]
      rw [Nat.zero_add,List.nil_append] at hown5;exact hown5,by rw [List.flatMap_append];exact ReadsL.append (by simpa using HRF.o) HRA.o⟩
     have HQE:=lH hq6;refine zBt ?_;refine NoPanic.normal ?_;go_wp2;go_meet
     case rel=>exact ⟨HEND.o,HQE.o⟩
   case rest=>
    obtain ⟨⟨xs,ho,hx⟩,hb2⟩:=hcut;have hlen:(m.decls.take p++[f]).length=p+1:=by rw [List.length_append,List.length_take,Nat.min_eq_left hpl];rfl
    rw [hlen] at ho;obtain ⟨va0,vc0,rfl⟩:=zAe ho;have HO:=lH ho;have HXX:=lH hx;have hb3:=zA HB1.o hb2;have HB2:=lH hb2;have HB3:=lH (zA HB0.o hb3);have m0:=(H1.o.below hb3).cell (i:=0) (v:=.string m.label) rfl;have m1:=(H1.o.below hb3).cell (i:=1) (v:=.slice au m.uses.length cu) rfl;have m2:=(H1.o.below hb3).cell (i:=2) (v:=.slice (some ad) m.decls.length cd) rfl;have mf:=(H1.o.below hb3).frozen 2;have ml:=(H1.o.below hb3).lt;have e0:=(H2.o.below hb3).cell (i:=0) (v:=.int .i64 e.kind) rfl
    have e3:=(H2.o.below hb3).cell (i:=3) (v:=.slice ao e.old.length co) rfl;have e4:=(H2.o.below hb3).cell (i:=4) (v:=.slice (some ⟨bf,of',none⟩) e.fresh.length cf) rfl;have el:=(H2.o.below hb3).lt;obtain ⟨o0,o1,o2,ol⟩:=zAp (H3.o.below hb3);obtain ⟨of0,of1,of2⟩:=zAx (H3.o.below hb3);have HL2:Hid (p+1+(m.decls.length - p)=(insAt m.decls p f).length):=by show _=_;rw [zDv _ hpl];omega
    have hsz:=hb2.size;clear ho hx hb2 hb3 hlen
    rcases Nat.eq_or_lt_of_le (show p≤cd by omega) with hcp|hcp
    ·subst hcp
     have hsr:=HSUF.o wc HB3.o (some ad) (fun b o h _=>by omega);have h00:m.decls.length - p=0:=by omega
     rw [Nat.sub_self,h00] at hsr;rw [h00] at HL2;clear h00;go_wp2_with (at_builtin;refine zAa rfl _ _ 37 rfl W1.heap.size 62 i0 _ 11 136 Tryz.underlying37 hi hz0 hz1 hz2 hzs (by decide) _ _ _ rfl HO.o _ _ _ rfl hsr HO2.o (by unfold maxLen;omega) (by omega) hsz ?_)
     intro v2 w2 hown2 hg2 hbq;rw [HL2.o] at hown2;obtain ⟨va,vc,rfl⟩:=zAe hown2;have HQ:Hid (Bw W1 w2):=HB2.o.grown hg2 hsz (fun k hk=>(HO.o.lt k hk).1)
     have HOW:Hid (OwnD w X w2 W1.heap.size (.slice va (insAt m.decls p f).length vc) (insAt m.decls p f)):=⟨_,hown2,by
      have e:insAt m.decls p f=m.decls.take p++[f]++m.decls.drop p:=by unfold insAt;rw [List.append_assoc];rfl
      rw [e,List.flatMap_append];exact ReadsL.append HRC.o HXX.o⟩
     clear m0 m1 m2 mf ml e0 e3 e4 el o0 o1 o2 of0 of1 of2 ol hown2 hg2 hbq hsr;have hbz:=zA HB1.o HQ.o;have m0:=(H1.o.below hbz).cell (i:=0) (v:=.string m.label) rfl;have m1:=(H1.o.below hbz).cell (i:=1) (v:=.slice au m.uses.length cu) rfl;have m2:=(H1.o.below hbz).cell (i:=2) (v:=.slice (some ad) m.decls.length p) rfl;have mf:=(H1.o.below hbz).frozen 2;have ml:=(H1.o.below hbz).lt;have e0:=(H2.o.below hbz).cell (i:=0) (v:=.int .i64 e.kind) rfl
     have e3:=(H2.o.below hbz).cell (i:=3) (v:=.slice ao e.old.length co) rfl;have e4:=(H2.o.below hbz).cell (i:=4) (v:=.slice (some ⟨bf,of',none⟩) e.fresh.length cf) rfl;have el:=(H2.o.below hbz).lt;obtain ⟨o0,o1,o2,ol⟩:=zAp (H3.o.below hbz);obtain ⟨of0,of1,of2⟩:=zAx (H3.o.below hbz);have HH1:=lH (H1.o.below hbz);have HH3:=lH (H3.o.below hbz);clear hbz hsz;have hne:B≠O:=by have:=HLT.o;omega
     have hne2:O≠B:=hne.symm;have HM1:Hid (Mod [B] w2 (w2.setCell ⟨B,2,none⟩ (.slice va (insAt m.decls p f).length vc))):=(Mod.refl [B] w2).setCell (by simp) _;go_wp2;have hP:=zLk (HH3.o.mod HM1.o (by simpa using hne2)) (.string m.label) (.slice au m.uses.length cu) (.slice va (insAt m.decls p f).length vc);obtain ⟨r0,r1,r2,-⟩:=zAp hP;have hm3:=zLl (w2.setCell ⟨B,2,none⟩ (.slice va (insAt m.decls p f).length vc)) O (.string m.label) (.slice au m.uses.length cu) (.slice va (insAt m.decls p f).length vc)
     have hb1:=zA (zA HB0.o HB1.o) HQ.o;have hbw:=(hb1.trans (HM1.o.upto hb1.size (fun k hk=>by have:=HLT.o;simp at hk;omega))).trans (hm3.upto (Nat.le_trans hb1.size HM1.o.size) (fun k hk=>by have:=HLT.o;simp at hk;omega));refine bodyPost_ret (by simp [results,Tryz.results86,go_sem,r0,r1,r2];try rfl) rfl ?_;refine zCc (m':=⟨m.label,m.uses,insAt m.decls p f⟩) HE.o (HU.o.below hbw) ?_ hbw
     exact (((HOW.o).mod HM1.o (fun b hb c=>by have:=zBi HOW.o hb;have:=(H1.o.below HB1.o).lt;simp at c;omega)).mod hm3 (fun b hb c=>by have:=zBi HOW.o hb;have:=(H3.o.below HB1.o).lt;simp at c;omega)).reads hbw (fun x hx=>by have:=HXL.o x hx;have:=(zA HB0.o HB1.o).size;omega)
    ·have hsr:=HSUF.o wc HB3.o (some (ad.add (p * 11))) (fun b o _ h=>by injection h with h;rw [h,Addr.add_lit])
     have hcp2:¬cd=p:=by omega
     go_wp2_with (at_builtin;refine zAa rfl _ _ 37 rfl W1.heap.size 62 i0 _ 11 136 Tryz.underlying37 hi hz0 hz1 hz2 hzs (by decide) _ _ _ rfl HO.o _ _ _ rfl hsr HO2.o (by unfold maxLen;omega) (by omega) hsz ?_)
     intro v2 w2 hown2 hg2 hbq;rw [HL2.o] at hown2;obtain ⟨va,vc,rfl⟩:=zAe hown2;have HQ:Hid (Bw W1 w2):=HB2.o.grown hg2 hsz (fun k hk=>(HO.o.lt k hk).1)
     have HOW:Hid (OwnD w X w2 W1.heap.size (.slice va (insAt m.decls p f).length vc) (insAt m.decls p f)):=⟨_,hown2,by
      have e:insAt m.decls p f=m.decls.take p++[f]++m.decls.drop p:=by unfold insAt;rw [List.append_assoc];rfl
      rw [e,List.flatMap_append];exact ReadsL.append HRC.o HXX.o⟩
     clear m0 m1 m2 mf ml e0 e3 e4 el o0 o1 o2 of0 of1 of2 ol hown2 hg2 hbq hsr;have hbz:=zA HB1.o HQ.o;have m0:=(H1.o.below hbz).cell (i:=0) (v:=.string m.label) rfl;have m1:=(H1.o.below hbz).cell (i:=1) (v:=.slice au m.uses.length cu) rfl;have m2:=(H1.o.below hbz).cell (i:=2) (v:=.slice (some ad) m.decls.length cd) rfl;have mf:=(H1.o.below hbz).frozen 2;have ml:=(H1.o.below hbz).lt;have e0:=(H2.o.below hbz).cell (i:=0) (v:=.int .i64 e.kind) rfl
     have e3:=(H2.o.below hbz).cell (i:=3) (v:=.slice ao e.old.length co) rfl;have e4:=(H2.o.below hbz).cell (i:=4) (v:=.slice (some ⟨bf,of',none⟩) e.fresh.length cf) rfl;have el:=(H2.o.below hbz).lt;obtain ⟨o0,o1,o2,ol⟩:=zAp (H3.o.below hbz);obtain ⟨of0,of1,of2⟩:=zAx (H3.o.below hbz);have HH1:=lH (H1.o.below hbz);have HH3:=lH (H3.o.below hbz);clear hbz hsz;have hne:B≠O:=by have:=HLT.o;omega
     have hne2:O≠B:=hne.symm;have HM1:Hid (Mod [B] w2 (w2.setCell ⟨B,2,none⟩ (.slice va (insAt m.decls p f).length vc))):=(Mod.refl [B] w2).setCell (by simp) _;go_wp2;have hP:=zLk (HH3.o.mod HM1.o (by simpa using hne2)) (.string m.label) (.slice au m.uses.length cu) (.slice va (insAt m.decls p f).length vc);obtain ⟨r0,r1,r2,-⟩:=zAp hP;have hm3:=zLl (w2.setCell ⟨B,2,none⟩ (.slice va (insAt m.decls p f).length vc)) O (.string m.label) (.slice au m.uses.length cu) (.slice va (insAt m.decls p f).length vc)
     have hb1:=zA (zA HB0.o HB1.o) HQ.o;have hbw:=(hb1.trans (HM1.o.upto hb1.size (fun k hk=>by have:=HLT.o;simp at hk;omega))).trans (hm3.upto (Nat.le_trans hb1.size HM1.o.size) (fun k hk=>by have:=HLT.o;simp at hk;omega));refine bodyPost_ret (by simp [results,Tryz.results86,go_sem,r0,r1,r2];try rfl) rfl ?_;refine zCc (m':=⟨m.label,m.uses,insAt m.decls p f⟩) HE.o (HU.o.below hbw) ?_ hbw
     exact (((HOW.o).mod HM1.o (fun b hb c=>by have:=zBi HOW.o hb;have:=(H1.o.below HB1.o).lt;simp at c;omega)).mod hm3 (fun b hb c=>by have:=zBi HOW.o hb;have:=(H3.o.below HB1.o).lt;simp at c;omega)).reads hbw (fun x hx=>by have:=HXL.o x hx;have:=(zA HB0.o HB1.o).size;omega)
end Go.Proofs.YtfkjfdbjhlmjcaaGreatDoor
namespace Go.Proofs.YtfkjfdbjhlmjcaaGreatDoor
open Go.RowKit Go.Shelf
theorem zHq (l:List OMod):(l.flatMap modT).length=l.length * 3:=zCt (f:=modT) (size:=3) (fun _=>rfl) l
theorem yAh (l:List OMod) (p:Nat):(l.flatMap modT).take (p * 3)=(l.take p).flatMap modT:=by
 rcases Nat.le_total p l.length with h|h
 ·conv=>lhs;rw [←List.take_append_drop p l,List.flatMap_append]
  exact List.take_left' (by rw [zHq,List.length_take,Nat.min_eq_left h])
 ·rw [List.take_of_length_le (by rw [zHq];omega),List.take_of_length_le h]
theorem yAi (l:List OMod) (p:Nat):(l.flatMap modT).drop (p * 3)=(l.drop p).flatMap modT:=by
 rcases Nat.le_total p l.length with h|h
 ·conv=>lhs;rw [←List.take_append_drop p l,List.flatMap_append]
  exact List.drop_left' (by rw [zHq,List.length_take,Nat.min_eq_left h])
 ·rw [List.drop_eq_nil_of_le (by rw [zHq];omega),List.drop_eq_nil_of_le h];rfl
theorem zCs {w:World} {X:List Nat}:∀{l:List OMod} {xs:List Value},ReadsL w X (l.flatMap modT) xs→∀u∈xs,u.oneCell'=true
 | [],xs,h=>by
  have:xs=[]:=by rw [show ([]:List OMod).flatMap modT=[] from rfl,ReadsL] at h;exact h
  subst this;intro u hu;cases hu
 | m::r,xs,h=>by
  rw [List.flatMap_cons] at h;have h1:=h.take 3;have h2:=h.drop 3;rw [List.take_left' (show (modT m).length=3 from rfl)] at h1;rw [List.drop_left' (show (modT m).length=3 from rfl)] at h2;obtain ⟨au,cu,ad,cd,e,-⟩:=zUj h1;intro u hu;rw [←List.take_append_drop 3 xs] at hu
  rcases List.mem_append.1 hu with hu|hu
  ·rw [e] at hu
   simp only [List.mem_cons,List.not_mem_nil,or_false] at hu
   rcases hu with rfl|rfl|rfl<;>rfl
  ·exact zCs h2 u hu
theorem zHr {w:World} {X:List Nat} {l:List OMod} {a:Option Addr} {c:Nat} (h:Reads w X (modsT l) (.slice a l.length c)) (p:Nat) :
    ∃A C:List Value,ReadsL w X ((l.take p).flatMap modT) A∧ReadsL w X ((l.drop p).flatMap modT) C∧(p≤l.length→IsRow w 3 (.slice a p c) p A) ∧
      ∀a',p≤l.length→(∀b o,p<l.length→a=some ⟨b,o,none⟩→a'=some ⟨b,o+p * 3,none⟩)→IsRow w 3 (.slice a' (l.length - p) (c - p)) (l.length - p) C:=by
  obtain ⟨xs,hr,-,hx⟩:=Reads.toRow h
  refine ⟨xs.take (p * 3),xs.drop (p * 3),?_,?_,fun hp=>zSj hr hp,fun a' hp ha=>zNu hr hp ha⟩
  · have:=hx.take (p * 3);rwa [yAh] at this
  · have:=hx.drop (p * 3);rwa [yAi] at this
theorem zGh {W:World} {B:Nat} {a b c:Value} (h:CBox W B 52 #[a,b,c]):IsRow W 3 (.slice (some ⟨B,0,none⟩) 1 1) 1 [a,b,c]:=by
 refine ⟨rfl,_,_,rfl,Nat.le_refl _,by unfold maxLen;omega,fun _=>⟨B,0,rfl,h.lt,fun j v hj=>?_⟩⟩;rw [Nat.zero_add];exact h.cell (by rw [←hj];exact List.getElem?_toArray ..)
theorem zCk {w:World} {B:Nat} {e:TypeId} {s n m:Nat} {v:Value} {xs:List Value} (h:w.ownsRow B e s v n xs) (q:n=m):w.ownsRow B e s v m xs:=q▸h
def OwnM (w0 W:World) (base:Nat) (v:Value) (L:List OMod):Prop:=∃xs,W.ownsRow base 52 3 v L.length xs∧ReadsL w0 [] (L.flatMap modT) xs
theorem OwnM.reads {w0 W:World} {base:Nat} {v:Value} {L:List OMod} (h:OwnM w0 W base v L) (hb:Bw w0 W):Reads W [] (modsT L) v:=by
 obtain ⟨xs,h1,h2⟩:=h;exact Reads.ofRow (zAo h1) (fun _ b _=>by simp) (h2.below hb)
theorem zIg (w:World) (X:List Nat) (s:ByteArray):ReadsL w X (modT ⟨s,[],[]⟩) [.string s,.slice none 0 0,.slice none 0 0]:=
 ReadsL.cons (Reads.leaf' _ _ _) (ReadsL.cons (Reads.nilRow _ _ _ _) (ReadsL.cons (Reads.nilRow _ _ _ _) (ReadsL.nil _ _)))
def OneRef (w:World) (l:List OMod) (e:OEdit) (r:Ending) (w':World):Prop:=
  ∃v,r=.returned (.tuple #[v,.int .i64 (oneL l e).2])∧Reads w' [] (modsT (oneL l e).1) v∧Below w.heap.size w w'
theorem zCw {w w':World} {l L:List OMod} {e:OEdit} {q:Int} {v:Value} (h:oneL l e=(L,q)) (hr:Reads w' [] (modsT L) v) (hb:Bw w w'):OneRef w l e (.returned (.tuple #[v,.int .i64 q])) w':=
 ⟨v,by rw [h],by rw [h];exact hr,hb⟩
end Go.Proofs.YtfkjfdbjhlmjcaaGreatDoor

