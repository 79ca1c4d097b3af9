/- edit.Diff. -/
import Derived.Test.YtdpnfkjafhbndaaGreatDoorEDF
import Derived.Test.YtdpnfkjafhbndaaGreatDoorEDC
namespace Go.Proofs.YtdpnfkjafhbndaaGreatDoor
open Go.RowKit Go.Shelf
attribute [local go_sem] Oper.semAt_some
def DiffPost (w:World) (a b:List OMod) (r:Ending) (w':World):Prop:=
  ∃ v,r = .returned (.tuple #[v,.int .i64 (diffErr a b)])∧Reads w' [] (editsT (diffR a b)) v∧Below w.heap.size w w'
theorem diff_bad {w w':World} {a b:List OMod} {E:Int} (h:diffErr a b = E) (h0:E≠0) (hb:Below w.heap.size w w'):DiffPost w a b (.returned (.tuple #[.slice none 0 0,.int .i64 E])) w':=
 ⟨_,by rw [h],by unfold diffR;rw [h,if_neg h0];exact Reads.nilRow _ _ _ _,hb⟩
theorem diff_fine {w w':World} {a b:List OMod} {v:Value} (h:diffErr a b = 0) (hr:Reads w' [] (editsT (diffR a b)) v) (hb:Below w.heap.size w w'):DiffPost w a b (.returned (.tuple #[v,.int .i64 0])) w':=⟨_,by rw [h],hr,hb⟩
theorem all_five {ps:List Pair} {u1 u2 u3 u4 u5:Value}:allK [(u1,addM ps),(u2,addU ps),(u3,chgD ps),(u4,remU ps),(u5,remM ps)] = diffP ps:=by
 unfold allK diffP;simp [List.flatMap_cons,List.append_assoc]
theorem decls_up {w3 w:World} {R:List (Value × List OEdit)} {l:List ODecl} {v:Value} (h:Reads w3 [] (declsT l) v) (hF:Fam w3 w R):Reads w (blksF R) (declsT l) v:=by
 have:=reads_up1 (Y:=blksF R) h (fun k hk => (hF.lt hk).1);rw [List.append_nil] at this;exact this.below hF.old
theorem bare_one (w:World) (X:List Nat) (k:Int) (s:ByteArray):ReadsL w X (([⟨k,s,noText,[],[]⟩]:List OEdit).flatMap editT) [.int .i64 k,.string s,.string ⟨#[]⟩,.slice none 0 0,.slice none 0 0]:=
 ReadsL.cons (Reads.leaf' _ _ _) (ReadsL.cons (Reads.leaf' _ _ _) (ReadsL.cons (Reads.leaf' _ _ _) (ReadsL.cons (Reads.nilRow _ _ _ _) (ReadsL.cons (Reads.nilRow _ _ _ _) (ReadsL.nil _ _)))))
set_option maxRecDepth 100000 in
set_option maxHeartbeats 16000000 in
theorem eDiff_any (A B:List OMod) (aa ab:Option Addr) (ca cb:Nat) (n:Nat) (w:World) (ha:Reads w [] (modsT A) (.slice aa A.length ca)) (hb:Reads w [] (modsT B) (.slice ab B.length cb)) (hza:SzB n A) (hzb:SzB n B) (hn:n≤100) :
  Calls Tryz.prog 25 #[.slice aa A.length ca,.slice ab B.length cb] w fun r w' => DiffPost w A B r w':=by
 obtain ⟨i0,z,hi0,hz0,hzs,hz1,hz2⟩:=info_parts' infoEdit;have hAl:=hza.len;have hBl:=hzb.len;have HRA:=lH ha;have HRB:=lH hb;have HC1:=lH (checkList_any A aa ca w ha (hza.sm (by omega)) (by omega));have HC2:=lH (fun W (h:Below w.heap.size w W) => checkList_any B ab cb W (hb.below h) (hzb.sm (by omega)) (by omega));have HP:=lH (fun W (h:Below w.heap.size w W) => pairs_any A B aa ab ca cb W (ha.below h) (hb.below h) (by omega) (by omega));have HSM:=lH (pairs_small hza hzb hn);have HPN:=lH (pairs_len _ (a:=A) (b:=B) rfl)
 have HE1:Hid (modsErr A≠0→diffErr A B = modsErr A):=fun h => by unfold diffErr;rw [if_neg h]
 have HE2:Hid (modsErr A = 0→diffErr A B = modsErr B):=fun h => by unfold diffErr;rw [if_pos h]
 have HEF:Hid (modsErr A = 0→modsErr B = 0→diffErr A B = 0∧diffR A B = diffP (pairsL A B)):=fun h k => by
  have e:diffErr A B = 0:=by unfold diffErr;rw [if_pos h];exact k
  exact ⟨e,by unfold diffR;rw [if_pos e];rfl⟩
 clear ha hb hza hzb;generalize modsErr A = E1 at *;generalize modsErr B = E2 at *
 go_enter Tryz.func25,Tryz.ntmps25
 go_wp2_with (fail)
 refine HC1.out.mono ?_;rintro r w1 ⟨rfl,hb1⟩;have HB1:=lH hb1;clear hb1 HC1
 by_cases h0:E1 = 0
 rotate_left
 ·have q1:(E1 != 0) = true:=by simp [h0]
  have HX:=lH (HE1.out h0);have H0:=lH h0;clear h0;go_wp2;go_ret2;exact diff_bad HX.out H0.out HB1.out
 have HX2:=lH (HE2.out h0);have HXF:=lH (HEF.out h0);subst h0;clear HE1 HE2 HEF;go_wp2_with (fail)
 refine (HC2.out w1 HB1.out).mono ?_;rintro r w2 ⟨rfl,hb2⟩;have HB2:=lH (qtrans HB1.out hb2);clear hb2 HC2 HB1
 by_cases h0:E2 = 0
 rotate_left
 ·have q1:(E2 != 0) = true:=by simp [h0]
  have H0:=lH h0;clear h0;go_wp2;go_ret2;exact diff_bad HX2.out H0.out HB2.out
 obtain ⟨hxe,hxr⟩:=HXF.out h0;have HXE:=lH hxe;have HXR:=lH hxr;subst h0;clear HX2 HXF hxe hxr;generalize pairsL A B = ps at *;go_wp2_with (fail)
 refine (HP.out w2 HB2.out).mono ?_;rintro r w3 ⟨v,rfl,hop,hb3⟩;have hps:=hop.reads hb3;obtain ⟨xs0,hx0,-⟩:=hop;obtain ⟨va,vc,rfl⟩:=owns_val hx0;have HPS:=lH hps;have HB3:=lH (qtrans HB2.out hb3);have hpn:ps.length≤200:=by have:=HPN.out;omega
 have HN0:=lH (Fam.start w3 w3 (qrefl _) 5);clear hps hx0 hb3 HP HPN HB2;go_wp2
 go_loopw [29,8,9,10,11,12] (fun iv v1 v2 v3 v4 v5 wr => ∃ i:Nat,i≤ps.length∧iv = .int .i64 i∧Hid (Fam w3 wr [(v1,addM (ps.take i)),(v2,addU (ps.take i)),(v3,chgD (ps.take i)),(v4,remU (ps.take i)),(v5,remM (ps.take i))])) (fun iv _ _ _ _ _ _ => ps.length - (intOf iv).toNat)
 case atStart => exact ⟨0,Nat.zero_le _,rfl,HN0⟩
 case round =>
  clear HN0;obtain ⟨i,hil,rfl,HF⟩:=hrel;obtain ⟨l1,l2,l3,l4,l5⟩:=five_len (qs:=ps.take i) (fun p hp => HSM.out.1 p (List.mem_of_mem_take hp)) (by rw [List.length_take];omega);obtain ⟨a1,c1,rfl⟩:=Fam.val (P:=[]) HF.out;obtain ⟨a2,c2,rfl⟩:=Fam.val (P:=[_]) HF.out;obtain ⟨a3,c3,rfl⟩:=Fam.val (P:=[_,_]) HF.out;obtain ⟨a4,c4,rfl⟩:=Fam.val (P:=[_,_,_]) HF.out;obtain ⟨a5,c5,rfl⟩:=Fam.val (P:=[_,_,_,_]) HF.out
  by_cases hi:i < ps.length
  ·have hd:decide ((i:Int) < (ps.length:Int)) = true:=decide_eq_true (by omega)
   have hir:(i:Int) < (ps.length:Int):=by omega
   obtain ⟨p,hpi⟩:∃ p,ps[i]? = some p:=⟨_,List.getElem?_eq_getElem hi⟩;have hpm:=List.mem_of_getElem? hpi;have HN1:=lH (addM_snoc hpi);have HN2:=lH (addU_snoc hpi);have HN3:=lH (chgD_snoc hpi);have HN4:=lH (remU_snoc hpi);have HN5:=lH (remM_snoc hpi);obtain ⟨b,q,ua,uc,da,dc,ub,uk,db,dk,rfl,hbl,hcl,hru1,hrd1,hru2,hrd2⟩:=both_elem HPS.out hpi;obtain ⟨s1,s2,s3,s4⟩:=HSM.out.1 p hpm;obtain ⟨t1,t2⟩:=HSM.out.2 p hpm;rw [usesO_eq,usesO_eq] at HN2 HN4;rw [declsO_eq,declsO_eq] at HN3;rw [usesO_eq] at s1 s2;rw [declsO_eq] at s3 s4 t1 t2
   clear hpi hpm;generalize p.a.getD noMod = ma at *;generalize p.b.getD noMod = mb at *;generalize p.a.isSome = qa at *;generalize p.b.isSome = qb at *;have T1:=lH t1;have T2:=lH t2;have HRU1:=lH hru1;have HRD1:=lH hrd1;have HRU2:=lH hru2;have HRD2:=lH hrd2;obtain ⟨M1,hM1⟩:∃ M,addM (ps.take i) = M:=⟨_,rfl⟩;obtain ⟨M2,hM2⟩:∃ M,addU (ps.take i) = M:=⟨_,rfl⟩;obtain ⟨M3,hM3⟩:∃ M,chgD (ps.take i) = M:=⟨_,rfl⟩;obtain ⟨M4,hM4⟩:∃ M,remU (ps.take i) = M:=⟨_,rfl⟩;obtain ⟨M5,hM5⟩:∃ M,remM (ps.take i) = M:=⟨_,rfl⟩
   rw [hM1] at HN1 HF l1 ⊢;rw [hM2] at HN2 HF l2 ⊢;rw [hM3] at HN3 HF l3 ⊢;rw [hM4] at HN4 HF l4 ⊢;rw [hM5] at HN5 HF l5 ⊢;clear hM1 hM2 hM3 hM4 hM5 t1 t2 hru1 hrd1 hru2 hrd2;have hob:=HF.out.old;have hbr:b < wr.heap.size:=Nat.lt_of_lt_of_le hbl hob.size;have x0:wr.cell? ⟨b,q + i * 9,none⟩ = some (.string p.label):=(hob.cell (p:=⟨b,_,none⟩) hbl).trans (hcl 0 _ rfl);have x1:wr.cell? ⟨b,q + i * 9 + 1,none⟩ = some (.bool qa):=(hob.cell (p:=⟨b,_,none⟩) hbl).trans (hcl 1 _ rfl)
   have x2:wr.cell? ⟨b,q + i * 9 + 2,none⟩ = some (.bool qb):=(hob.cell (p:=⟨b,_,none⟩) hbl).trans (hcl 2 _ rfl);have x3:wr.cell? ⟨b,q + i * 9 + 3,none⟩ = some (.string ma.label):=(hob.cell (p:=⟨b,_,none⟩) hbl).trans (hcl 3 _ rfl);have x4:wr.cell? ⟨b,q + i * 9 + 4,none⟩ = some (.slice ua ma.uses.length uc):=(hob.cell (p:=⟨b,_,none⟩) hbl).trans (hcl 4 _ rfl);have x5:wr.cell? ⟨b,q + i * 9 + 5,none⟩ = some (.slice da ma.decls.length dc):=(hob.cell (p:=⟨b,_,none⟩) hbl).trans (hcl 5 _ rfl)
   have x6:wr.cell? ⟨b,q + i * 9 + 6,none⟩ = some (.string mb.label):=(hob.cell (p:=⟨b,_,none⟩) hbl).trans (hcl 6 _ rfl);have x7:wr.cell? ⟨b,q + i * 9 + 7,none⟩ = some (.slice ub mb.uses.length uk):=(hob.cell (p:=⟨b,_,none⟩) hbl).trans (hcl 7 _ rfl);have x8:wr.cell? ⟨b,q + i * 9 + 8,none⟩ = some (.slice db mb.decls.length dk):=(hob.cell (p:=⟨b,_,none⟩) hbl).trans (hcl 8 _ rfl)
   have hFD:FamD w3 (wr.alloc (.cells #[.string p.label,.bool qa,.bool qb,.string ma.label,.slice ua ma.uses.length uc,.slice da ma.decls.length dc,.string mb.label,.slice ub mb.uses.length uk,.slice db mb.decls.length dk] 98)) [(.slice a1 M1.length c1,M1),(.slice a2 M2.length c2,M2),(.slice a3 M3.length c3,M3),(.slice a4 M4.length c4,M4),(.slice a5 M5.length c5,M5)] wr.heap.size #[.string p.label,.bool qa,.bool qb,.string ma.label,.slice ua ma.uses.length uc,.slice da ma.decls.length dc,.string mb.label,.slice ub mb.uses.length uk,.slice db mb.decls.length dk]:=⟨HF.out.below (qalloc _ _),CBox.new _ _ _,fun k hk e => by have:=(HF.out.lt hk).2;omega⟩
   obtain ⟨D,hD⟩:∃ D,wr.heap.size = D:=⟨_,rfl⟩;rw [hD] at hFD;have HG:=lH hFD;clear hFD hob hcl hbl;go_upto_region 11 with (fail)
   clear hbr x0 x1 x2 x3 x4 x5 x6 x7 x8;generalize wr.alloc (.cells #[.string p.label,.bool qa,.bool qb,.string ma.label,.slice ua ma.uses.length uc,.slice da ma.decls.length dc,.string mb.label,.slice ub mb.uses.length uk,.slice db mb.decls.length dk] 98) = W0 at *
   (try rw [hD])
   clear hD
   cases qa with
   | true =>
    simp only [if_true,List.append_nil] at HN1
    have yq:=HG.out.box.cell (i:=1) (v:=.bool true) rfl;have yql:=HG.out.box.lt;go_upto_region 13 with (fail)
    clear yq yql;have y0:=HG.out.box.cell (i:=0) (v:=.string p.label) rfl;have y4:=HG.out.box.cell (i:=4) (v:=.slice ua ma.uses.length uc) rfl;have y7:=HG.out.box.cell (i:=7) (v:=.slice ub mb.uses.length uk) rfl;have yl:=HG.out.box.lt;have HUE:=lH (useEdits_any 3 p.label mb.uses ma.uses ub ua uk uc W0 (reads_strs.1 (HRU2.out.below HG.out.fam.old)).1 (reads_strs.1 (HRU1.out.below HG.out.fam.old)).1 (by omega) (by omega));go_wp2_with (fail)
    refine HUE.out.mono ?_;rintro r Vtu ⟨vu,rfl,⟨zs,hown6,hzs6⟩,hb6⟩;obtain ⟨au6,cu6,rfl⟩:=owns_val hown6;have HGb:=lH (HG.out.below hb6);have hrow6:=owns_row hown6;have HZS:Hid (ReadsL Vtu (blksF [(.slice a1 M1.length c1,M1),(.slice a2 M2.length c2,M2),(.slice a3 M3.length c3,M3),(.slice a4 M4.length c4,M4),(.slice a5 M5.length c5,M5)]) ((useE 3 p.label mb.uses ma.uses).flatMap editT) zs):=bare_any useE_bare (hzs6.below hb6);have HONE:=lH (edits_one HZS.out);have hul:=useE_len 3 p.label mb.uses ma.uses
    obtain ⟨ys,hown,hys⟩:=FamD.row (P:=[_]) HGb.out;have HYS:=lH hys;have HOW:=lH hown;have hsw3:=HGb.out.fam.old.size;clear hown6 hzs6 hb6 HUE hown hys HG;clear y0 y4 y7 yl;go_wp2_with (at_builtin;refine wpList_append_row rfl _ _ 23 rfl w3.heap.size 35 i0 _ 5 88 Tryz.underlying23 hi0 hz0 hz1 hz2 hzs (by decide) _ _ _ rfl HOW.out _ _ _ rfl hrow6 HONE.out (by unfold maxLen;omega) (by omega) (by omega) ?_)
    intro vtu wtu hown5 hg5 hbk5;have HG:Hid (FamD w3 wtu [(.slice a1 M1.length c1,M1),(vtu,M2 ++ useE 3 p.label mb.uses ma.uses),(.slice a3 M3.length c3,M3),(.slice a4 M4.length c4,M4),(.slice a5 M5.length c5,M5)] D #[.string p.label,.bool true,.bool qb,.string ma.label,.slice ua ma.uses.length uc,.slice da ma.decls.length dc,.string mb.label,.slice ub mb.uses.length uk,.slice db mb.decls.length dk]):=FamD.grown (P:=[_]) (l2:=useE 3 p.label mb.uses ma.uses) HGb.out HYS.out HZS.out hown5 hg5 hbk5;clear hown5 hg5 hbk5 HGb HOW HYS HZS HONE hrow6 hsw3
    obtain ⟨Mtu,hMtu⟩:∃ M,M2 ++ useE 3 p.label mb.uses ma.uses = M:=⟨_,rfl⟩;rw [hMtu] at HG HN2;clear hMtu hul;obtain ⟨axtu,cxtu,rfl⟩:=Fam.val (P:=[_]) HG.out.fam;have y0:=HG.out.box.cell (i:=0) (v:=.string p.label) rfl;have y5:=HG.out.box.cell (i:=5) (v:=.slice da ma.decls.length dc) rfl;have y8:=HG.out.box.cell (i:=8) (v:=.slice db mb.decls.length dk) rfl;have yl:=HG.out.box.lt
    have HDE:=lH (declEdits_any p.label ma.decls mb.decls da db dc dk (blksF [(.slice a1 M1.length c1,M1),(.slice axtu Mtu.length cxtu,Mtu),(.slice a3 M3.length c3,M3),(.slice a4 M4.length c4,M4),(.slice a5 M5.length c5,M5)]) wtu (fun k hk => (HG.out.fam.lt hk).2) (decls_up HRD1.out HG.out.fam) (decls_up HRD2.out HG.out.fam) (by omega) (by omega) T1.out T2.out);go_wp2_with (fail)
    refine HDE.out.mono ?_;rintro r Vtd ⟨vu,rfl,⟨zs,hown6,hzs6⟩,hb6⟩;obtain ⟨au6,cu6,rfl⟩:=owns_val hown6;have HGb:=lH (HG.out.below hb6);have hrow6:=owns_row hown6;have HZS:Hid (ReadsL Vtd (blksF [(.slice a1 M1.length c1,M1),(.slice axtu Mtu.length cxtu,Mtu),(.slice a3 M3.length c3,M3),(.slice a4 M4.length c4,M4),(.slice a5 M5.length c5,M5)]) ((declE p.label ma.decls mb.decls).flatMap editT) zs):=hzs6.fewer (fun k hk => List.mem_append_right _ hk);have HONE:=lH (edits_one HZS.out)
    have hul:=declE_len p.label _ (xs:=ma.decls) (bs:=mb.decls) rfl;obtain ⟨ys,hown,hys⟩:=FamD.row (P:=[_,_]) HGb.out;have HYS:=lH hys;have HOW:=lH hown;have hsw3:=HGb.out.fam.old.size;clear hown6 hzs6 hb6 HDE hown hys HG;clear y0 y5 y8 yl;go_wp2_with (at_builtin;refine wpList_append_row rfl _ _ 23 rfl w3.heap.size 35 i0 _ 5 88 Tryz.underlying23 hi0 hz0 hz1 hz2 hzs (by decide) _ _ _ rfl HOW.out _ _ _ rfl hrow6 HONE.out (by unfold maxLen;omega) (by omega) (by omega) ?_)
    intro vtd wtd hown5 hg5 hbk5;have HG:Hid (FamD w3 wtd [(.slice a1 M1.length c1,M1),(.slice axtu Mtu.length cxtu,Mtu),(vtd,M3 ++ declE p.label ma.decls mb.decls),(.slice a4 M4.length c4,M4),(.slice a5 M5.length c5,M5)] D #[.string p.label,.bool true,.bool qb,.string ma.label,.slice ua ma.uses.length uc,.slice da ma.decls.length dc,.string mb.label,.slice ub mb.uses.length uk,.slice db mb.decls.length dk]):=FamD.grown (P:=[_,_]) (l2:=declE p.label ma.decls mb.decls) HGb.out HYS.out HZS.out hown5 hg5 hbk5
    clear hown5 hg5 hbk5 HGb HOW HYS HZS HONE hrow6 hsw3;obtain ⟨Mtd,hMtd⟩:∃ M,M3 ++ declE p.label ma.decls mb.decls = M:=⟨_,rfl⟩;rw [hMtd] at HG HN3;clear hMtd hul;obtain ⟨axtd,cxtd,rfl⟩:=Fam.val (P:=[_,_]) HG.out.fam;have y0:=HG.out.box.cell (i:=0) (v:=.string p.label) rfl;have y4:=HG.out.box.cell (i:=4) (v:=.slice ua ma.uses.length uc) rfl;have y7:=HG.out.box.cell (i:=7) (v:=.slice ub mb.uses.length uk) rfl;have yl:=HG.out.box.lt
    have HUE:=lH (useEdits_any 4 p.label ma.uses mb.uses ua ub uc uk wtd (reads_strs.1 (HRU1.out.below HG.out.fam.old)).1 (reads_strs.1 (HRU2.out.below HG.out.fam.old)).1 (by omega) (by omega));go_wp2_with (fail)
    refine HUE.out.mono ?_;rintro r Vtr ⟨vu,rfl,⟨zs,hown6,hzs6⟩,hb6⟩;obtain ⟨au6,cu6,rfl⟩:=owns_val hown6;have HGb:=lH (HG.out.below hb6);have hrow6:=owns_row hown6;have HZS:Hid (ReadsL Vtr (blksF [(.slice a1 M1.length c1,M1),(.slice axtu Mtu.length cxtu,Mtu),(.slice axtd Mtd.length cxtd,Mtd),(.slice a4 M4.length c4,M4),(.slice a5 M5.length c5,M5)]) ((useE 4 p.label ma.uses mb.uses).flatMap editT) zs):=bare_any useE_bare (hzs6.below hb6);have HONE:=lH (edits_one HZS.out);have hul:=useE_len 4 p.label ma.uses mb.uses
    obtain ⟨ys,hown,hys⟩:=FamD.row (P:=[_,_,_]) HGb.out;have HYS:=lH hys;have HOW:=lH hown;have hsw3:=HGb.out.fam.old.size;clear hown6 hzs6 hb6 HUE hown hys HG;clear y0 y4 y7 yl;go_wp2_with (at_builtin;refine wpList_append_row rfl _ _ 23 rfl w3.heap.size 35 i0 _ 5 88 Tryz.underlying23 hi0 hz0 hz1 hz2 hzs (by decide) _ _ _ rfl HOW.out _ _ _ rfl hrow6 HONE.out (by unfold maxLen;omega) (by omega) (by omega) ?_)
    intro vtr wtr hown5 hg5 hbk5;have HG:Hid (FamD w3 wtr [(.slice a1 M1.length c1,M1),(.slice axtu Mtu.length cxtu,Mtu),(.slice axtd Mtd.length cxtd,Mtd),(vtr,M4 ++ useE 4 p.label ma.uses mb.uses),(.slice a5 M5.length c5,M5)] D #[.string p.label,.bool true,.bool qb,.string ma.label,.slice ua ma.uses.length uc,.slice da ma.decls.length dc,.string mb.label,.slice ub mb.uses.length uk,.slice db mb.decls.length dk]):=FamD.grown (P:=[_,_,_]) (l2:=useE 4 p.label ma.uses mb.uses) HGb.out HYS.out HZS.out hown5 hg5 hbk5
    clear hown5 hg5 hbk5 HGb HOW HYS HZS HONE hrow6 hsw3;obtain ⟨Mtr,hMtr⟩:∃ M,M4 ++ useE 4 p.label ma.uses mb.uses = M:=⟨_,rfl⟩;rw [hMtr] at HG HN4;clear hMtr hul;obtain ⟨axtr,cxtr,rfl⟩:=Fam.val (P:=[_,_,_]) HG.out.fam
    cases qb with
    | true =>
     simp only [if_true,List.append_nil] at HN5
     have y2:=HG.out.box.cell (i:=2) (v:=.bool true) rfl;have yl:=HG.out.box.lt
     have HFN:Hid (Fam w3 wtr [(.slice a1 M1.length c1,addM (ps.take (i + 1))),(.slice axtu Mtu.length cxtu,addU (ps.take (i + 1))),(.slice axtd Mtd.length cxtd,chgD (ps.take (i + 1))),(.slice axtr Mtr.length cxtr,remU (ps.take (i + 1))),(.slice a5 M5.length c5,remM (ps.take (i + 1)))]):=by
      show Fam _ _ _
      rw [HN1.out,HN2.out,HN3.out,HN4.out,HN5.out];exact HG.out.fam
     go_wp2;clear HG;go_roundw
     case rel => exact ⟨i + 1,by omega,by go_num,HFN⟩
     case measure => simp [intOf];omega
    | false =>
     simp only [Bool.false_eq_true,if_false] at HN5
     have y0:=HG.out.box.cell (i:=0) (v:=.string p.label) rfl;have y2:=HG.out.box.cell (i:=2) (v:=.bool false) rfl;have yl:=HG.out.box.lt;obtain ⟨ys,hown,hys⟩:=FamD.row (P:=[_,_,_,_]) HG.out;have hA3:=qalloc wtr (.cells #[.int .i64 2,.string p.label,.string ⟨#[]⟩,.slice none 0 0,.slice none 0 0] 35);have HR3:=lH (owns_row (own_many wtr wtr.heap.size (Nat.le_refl _) 35 #[.int .i64 2,.string p.label,.string ⟨#[]⟩,.slice none 0 0,.slice none 0 0] 5 1 rfl (by omega)));have HO3:=lH (owns_below hown hA3);have HG3:=lH (HG.out.below hA3)
     have HYS:=lH (hys.below hA3);have hsw3:=HG.out.fam.old.size;have hsz3:=hA3.size;clear hA3 hown hys;go_wp2_with (at_builtin;refine wpList_append_row rfl _ _ 23 rfl w3.heap.size 35 i0 _ 5 88 Tryz.underlying23 hi0 hz0 hz1 hz2 hzs (by decide) _ _ _ rfl HO3.out _ _ _ rfl HR3.out (by intro u hu;simp at hu;rcases hu with rfl | rfl | rfl | rfl | rfl <;> rfl) (by unfold maxLen;omega) (by omega) (by omega) ?_)
     intro vtm wtm hown5 hg5 hbk5
     have HGtm:Hid (FamD w3 wtm [(.slice a1 M1.length c1,M1),(.slice axtu Mtu.length cxtu,Mtu),(.slice axtd Mtd.length cxtd,Mtd),(.slice axtr Mtr.length cxtr,Mtr),(vtm,M5 ++ [⟨2,p.label,noText,[],[]⟩])] D #[.string p.label,.bool true,.bool false,.string ma.label,.slice ua ma.uses.length uc,.slice da ma.decls.length dc,.string mb.label,.slice ub mb.uses.length uk,.slice db mb.decls.length dk]):=FamD.grown (P:=[_,_,_,_]) (l2:=[⟨2,p.label,noText,[],[]⟩]) HG3.out HYS.out (bare_one _ _ _ _) hown5 hg5 (by rw [World.size_alloc];exact hbk5)
     clear hown5 hg5 hbk5 HG HG3 HO3 HR3 HYS hsw3 hsz3;clear y0 y2 yl;have HG:=HGtm;clear HGtm;obtain ⟨Mtm,hMtm⟩:∃ M,M5 ++ [(⟨2,p.label,noText,[],[]⟩:OEdit)] = M:=⟨_,rfl⟩;rw [hMtm] at HG HN5;clear hMtm;obtain ⟨axtm,cxtm,rfl⟩:=Fam.val (P:=[_,_,_,_]) HG.out.fam
     have HFN:Hid (Fam w3 wtm [(.slice a1 M1.length c1,addM (ps.take (i + 1))),(.slice axtu Mtu.length cxtu,addU (ps.take (i + 1))),(.slice axtd Mtd.length cxtd,chgD (ps.take (i + 1))),(.slice axtr Mtr.length cxtr,remU (ps.take (i + 1))),(.slice axtm Mtm.length cxtm,remM (ps.take (i + 1)))]):=by
      show Fam _ _ _
      rw [HN1.out,HN2.out,HN3.out,HN4.out,HN5.out];exact HG.out.fam
     clear HG;go_wp2;go_roundw
     case rel => exact ⟨i + 1,by omega,by go_num,HFN⟩
     case measure => simp [intOf];omega
   | false =>
    simp only [Bool.false_eq_true,if_false] at HN1
    have y0:=HG.out.box.cell (i:=0) (v:=.string p.label) rfl;have y1:=HG.out.box.cell (i:=1) (v:=.bool false) rfl;have yl:=HG.out.box.lt;obtain ⟨ys,hown,hys⟩:=FamD.row (P:=[]) HG.out;have hA3:=qalloc W0 (.cells #[.int .i64 1,.string p.label,.string ⟨#[]⟩,.slice none 0 0,.slice none 0 0] 35);have HR3:=lH (owns_row (own_many W0 W0.heap.size (Nat.le_refl _) 35 #[.int .i64 1,.string p.label,.string ⟨#[]⟩,.slice none 0 0,.slice none 0 0] 5 1 rfl (by omega)));have HO3:=lH (owns_below hown hA3);have HG3:=lH (HG.out.below hA3)
    have HYS:=lH (hys.below hA3);have hsw3:=HG.out.fam.old.size;have hsz3:=hA3.size;clear hA3 hown hys;go_wp2_with (at_builtin;refine wpList_append_row rfl _ _ 23 rfl w3.heap.size 35 i0 _ 5 88 Tryz.underlying23 hi0 hz0 hz1 hz2 hzs (by decide) _ _ _ rfl HO3.out _ _ _ rfl HR3.out (by intro u hu;simp at hu;rcases hu with rfl | rfl | rfl | rfl | rfl <;> rfl) (by unfold maxLen;omega) (by omega) (by omega) ?_)
    intro vfa wfa hown5 hg5 hbk5;have HGfa:Hid (FamD w3 wfa [(vfa,M1 ++ [⟨1,p.label,noText,[],[]⟩]),(.slice a2 M2.length c2,M2),(.slice a3 M3.length c3,M3),(.slice a4 M4.length c4,M4),(.slice a5 M5.length c5,M5)] D #[.string p.label,.bool false,.bool qb,.string ma.label,.slice ua ma.uses.length uc,.slice da ma.decls.length dc,.string mb.label,.slice ub mb.uses.length uk,.slice db mb.decls.length dk]):=FamD.grown (P:=[]) (l2:=[⟨1,p.label,noText,[],[]⟩]) HG3.out HYS.out (bare_one _ _ _ _) hown5 hg5 (by rw [World.size_alloc];exact hbk5)
    clear hown5 hg5 hbk5 HG HG3 HO3 HR3 HYS hsw3 hsz3;clear y0 y1 yl;have HG:=HGfa;clear HGfa;obtain ⟨Mfa,hMfa⟩:∃ M,M1 ++ [(⟨1,p.label,noText,[],[]⟩:OEdit)] = M:=⟨_,rfl⟩;rw [hMfa] at HG HN1;clear hMfa;obtain ⟨axfa,cxfa,rfl⟩:=Fam.val (P:=[]) HG.out.fam;go_upto_region 13 with (fail)
    have y0:=HG.out.box.cell (i:=0) (v:=.string p.label) rfl;have y4:=HG.out.box.cell (i:=4) (v:=.slice ua ma.uses.length uc) rfl;have y7:=HG.out.box.cell (i:=7) (v:=.slice ub mb.uses.length uk) rfl;have yl:=HG.out.box.lt;have HUE:=lH (useEdits_any 3 p.label mb.uses ma.uses ub ua uk uc wfa (reads_strs.1 (HRU2.out.below HG.out.fam.old)).1 (reads_strs.1 (HRU1.out.below HG.out.fam.old)).1 (by omega) (by omega));go_wp2_with (fail)
    refine HUE.out.mono ?_;rintro r Vfu ⟨vu,rfl,⟨zs,hown6,hzs6⟩,hb6⟩;obtain ⟨au6,cu6,rfl⟩:=owns_val hown6;have HGb:=lH (HG.out.below hb6);have hrow6:=owns_row hown6;have HZS:Hid (ReadsL Vfu (blksF [(.slice axfa Mfa.length cxfa,Mfa),(.slice a2 M2.length c2,M2),(.slice a3 M3.length c3,M3),(.slice a4 M4.length c4,M4),(.slice a5 M5.length c5,M5)]) ((useE 3 p.label mb.uses ma.uses).flatMap editT) zs):=bare_any useE_bare (hzs6.below hb6);have HONE:=lH (edits_one HZS.out);have hul:=useE_len 3 p.label mb.uses ma.uses
    obtain ⟨ys,hown,hys⟩:=FamD.row (P:=[_]) HGb.out;have HYS:=lH hys;have HOW:=lH hown;have hsw3:=HGb.out.fam.old.size;clear hown6 hzs6 hb6 HUE hown hys HG;clear y0 y4 y7 yl;go_wp2_with (at_builtin;refine wpList_append_row rfl _ _ 23 rfl w3.heap.size 35 i0 _ 5 88 Tryz.underlying23 hi0 hz0 hz1 hz2 hzs (by decide) _ _ _ rfl HOW.out _ _ _ rfl hrow6 HONE.out (by unfold maxLen;omega) (by omega) (by omega) ?_)
    intro vfu wfu hown5 hg5 hbk5;have HG:Hid (FamD w3 wfu [(.slice axfa Mfa.length cxfa,Mfa),(vfu,M2 ++ useE 3 p.label mb.uses ma.uses),(.slice a3 M3.length c3,M3),(.slice a4 M4.length c4,M4),(.slice a5 M5.length c5,M5)] D #[.string p.label,.bool false,.bool qb,.string ma.label,.slice ua ma.uses.length uc,.slice da ma.decls.length dc,.string mb.label,.slice ub mb.uses.length uk,.slice db mb.decls.length dk]):=FamD.grown (P:=[_]) (l2:=useE 3 p.label mb.uses ma.uses) HGb.out HYS.out HZS.out hown5 hg5 hbk5;clear hown5 hg5 hbk5 HGb HOW HYS HZS HONE hrow6 hsw3
    obtain ⟨Mfu,hMfu⟩:∃ M,M2 ++ useE 3 p.label mb.uses ma.uses = M:=⟨_,rfl⟩;rw [hMfu] at HG HN2;clear hMfu hul;obtain ⟨axfu,cxfu,rfl⟩:=Fam.val (P:=[_]) HG.out.fam;have y0:=HG.out.box.cell (i:=0) (v:=.string p.label) rfl;have y5:=HG.out.box.cell (i:=5) (v:=.slice da ma.decls.length dc) rfl;have y8:=HG.out.box.cell (i:=8) (v:=.slice db mb.decls.length dk) rfl;have yl:=HG.out.box.lt
    have HDE:=lH (declEdits_any p.label ma.decls mb.decls da db dc dk (blksF [(.slice axfa Mfa.length cxfa,Mfa),(.slice axfu Mfu.length cxfu,Mfu),(.slice a3 M3.length c3,M3),(.slice a4 M4.length c4,M4),(.slice a5 M5.length c5,M5)]) wfu (fun k hk => (HG.out.fam.lt hk).2) (decls_up HRD1.out HG.out.fam) (decls_up HRD2.out HG.out.fam) (by omega) (by omega) T1.out T2.out);go_wp2_with (fail)
    refine HDE.out.mono ?_;rintro r Vfd ⟨vu,rfl,⟨zs,hown6,hzs6⟩,hb6⟩;obtain ⟨au6,cu6,rfl⟩:=owns_val hown6;have HGb:=lH (HG.out.below hb6);have hrow6:=owns_row hown6;have HZS:Hid (ReadsL Vfd (blksF [(.slice axfa Mfa.length cxfa,Mfa),(.slice axfu Mfu.length cxfu,Mfu),(.slice a3 M3.length c3,M3),(.slice a4 M4.length c4,M4),(.slice a5 M5.length c5,M5)]) ((declE p.label ma.decls mb.decls).flatMap editT) zs):=hzs6.fewer (fun k hk => List.mem_append_right _ hk);have HONE:=lH (edits_one HZS.out)
    have hul:=declE_len p.label _ (xs:=ma.decls) (bs:=mb.decls) rfl;obtain ⟨ys,hown,hys⟩:=FamD.row (P:=[_,_]) HGb.out;have HYS:=lH hys;have HOW:=lH hown;have hsw3:=HGb.out.fam.old.size;clear hown6 hzs6 hb6 HDE hown hys HG;clear y0 y5 y8 yl;go_wp2_with (at_builtin;refine wpList_append_row rfl _ _ 23 rfl w3.heap.size 35 i0 _ 5 88 Tryz.underlying23 hi0 hz0 hz1 hz2 hzs (by decide) _ _ _ rfl HOW.out _ _ _ rfl hrow6 HONE.out (by unfold maxLen;omega) (by omega) (by omega) ?_)
    intro vfd wfd hown5 hg5 hbk5;have HG:Hid (FamD w3 wfd [(.slice axfa Mfa.length cxfa,Mfa),(.slice axfu Mfu.length cxfu,Mfu),(vfd,M3 ++ declE p.label ma.decls mb.decls),(.slice a4 M4.length c4,M4),(.slice a5 M5.length c5,M5)] D #[.string p.label,.bool false,.bool qb,.string ma.label,.slice ua ma.uses.length uc,.slice da ma.decls.length dc,.string mb.label,.slice ub mb.uses.length uk,.slice db mb.decls.length dk]):=FamD.grown (P:=[_,_]) (l2:=declE p.label ma.decls mb.decls) HGb.out HYS.out HZS.out hown5 hg5 hbk5
    clear hown5 hg5 hbk5 HGb HOW HYS HZS HONE hrow6 hsw3;obtain ⟨Mfd,hMfd⟩:∃ M,M3 ++ declE p.label ma.decls mb.decls = M:=⟨_,rfl⟩;rw [hMfd] at HG HN3;clear hMfd hul;obtain ⟨axfd,cxfd,rfl⟩:=Fam.val (P:=[_,_]) HG.out.fam;have y0:=HG.out.box.cell (i:=0) (v:=.string p.label) rfl;have y4:=HG.out.box.cell (i:=4) (v:=.slice ua ma.uses.length uc) rfl;have y7:=HG.out.box.cell (i:=7) (v:=.slice ub mb.uses.length uk) rfl;have yl:=HG.out.box.lt
    have HUE:=lH (useEdits_any 4 p.label ma.uses mb.uses ua ub uc uk wfd (reads_strs.1 (HRU1.out.below HG.out.fam.old)).1 (reads_strs.1 (HRU2.out.below HG.out.fam.old)).1 (by omega) (by omega));go_wp2_with (fail)
    refine HUE.out.mono ?_;rintro r Vfr ⟨vu,rfl,⟨zs,hown6,hzs6⟩,hb6⟩;obtain ⟨au6,cu6,rfl⟩:=owns_val hown6;have HGb:=lH (HG.out.below hb6);have hrow6:=owns_row hown6;have HZS:Hid (ReadsL Vfr (blksF [(.slice axfa Mfa.length cxfa,Mfa),(.slice axfu Mfu.length cxfu,Mfu),(.slice axfd Mfd.length cxfd,Mfd),(.slice a4 M4.length c4,M4),(.slice a5 M5.length c5,M5)]) ((useE 4 p.label ma.uses mb.uses).flatMap editT) zs):=bare_any useE_bare (hzs6.below hb6);have HONE:=lH (edits_one HZS.out);have hul:=useE_len 4 p.label ma.uses mb.uses
    obtain ⟨ys,hown,hys⟩:=FamD.row (P:=[_,_,_]) HGb.out;have HYS:=lH hys;have HOW:=lH hown;have hsw3:=HGb.out.fam.old.size;clear hown6 hzs6 hb6 HUE hown hys HG;clear y0 y4 y7 yl;go_wp2_with (at_builtin;refine wpList_append_row rfl _ _ 23 rfl w3.heap.size 35 i0 _ 5 88 Tryz.underlying23 hi0 hz0 hz1 hz2 hzs (by decide) _ _ _ rfl HOW.out _ _ _ rfl hrow6 HONE.out (by unfold maxLen;omega) (by omega) (by omega) ?_)
    intro vfr wfr hown5 hg5 hbk5;have HG:Hid (FamD w3 wfr [(.slice axfa Mfa.length cxfa,Mfa),(.slice axfu Mfu.length cxfu,Mfu),(.slice axfd Mfd.length cxfd,Mfd),(vfr,M4 ++ useE 4 p.label ma.uses mb.uses),(.slice a5 M5.length c5,M5)] D #[.string p.label,.bool false,.bool qb,.string ma.label,.slice ua ma.uses.length uc,.slice da ma.decls.length dc,.string mb.label,.slice ub mb.uses.length uk,.slice db mb.decls.length dk]):=FamD.grown (P:=[_,_,_]) (l2:=useE 4 p.label ma.uses mb.uses) HGb.out HYS.out HZS.out hown5 hg5 hbk5
    clear hown5 hg5 hbk5 HGb HOW HYS HZS HONE hrow6 hsw3;obtain ⟨Mfr,hMfr⟩:∃ M,M4 ++ useE 4 p.label ma.uses mb.uses = M:=⟨_,rfl⟩;rw [hMfr] at HG HN4;clear hMfr hul;obtain ⟨axfr,cxfr,rfl⟩:=Fam.val (P:=[_,_,_]) HG.out.fam
    cases qb with
    | true =>
     simp only [if_true,List.append_nil] at HN5
     have y2:=HG.out.box.cell (i:=2) (v:=.bool true) rfl;have yl:=HG.out.box.lt
     have HFN:Hid (Fam w3 wfr [(.slice axfa Mfa.length cxfa,addM (ps.take (i + 1))),(.slice axfu Mfu.length cxfu,addU (ps.take (i + 1))),(.slice axfd Mfd.length cxfd,chgD (ps.take (i + 1))),(.slice axfr Mfr.length cxfr,remU (ps.take (i + 1))),(.slice a5 M5.length c5,remM (ps.take (i + 1)))]):=by
      show Fam _ _ _
      rw [HN1.out,HN2.out,HN3.out,HN4.out,HN5.out];exact HG.out.fam
     go_wp2;clear HG;go_roundw
     case rel => exact ⟨i + 1,by omega,by go_num,HFN⟩
     case measure => simp [intOf];omega
    | false =>
     simp only [Bool.false_eq_true,if_false] at HN5
     have y0:=HG.out.box.cell (i:=0) (v:=.string p.label) rfl;have y2:=HG.out.box.cell (i:=2) (v:=.bool false) rfl;have yl:=HG.out.box.lt;obtain ⟨ys,hown,hys⟩:=FamD.row (P:=[_,_,_,_]) HG.out;have hA3:=qalloc wfr (.cells #[.int .i64 2,.string p.label,.string ⟨#[]⟩,.slice none 0 0,.slice none 0 0] 35);have HR3:=lH (owns_row (own_many wfr wfr.heap.size (Nat.le_refl _) 35 #[.int .i64 2,.string p.label,.string ⟨#[]⟩,.slice none 0 0,.slice none 0 0] 5 1 rfl (by omega)));have HO3:=lH (owns_below hown hA3);have HG3:=lH (HG.out.below hA3)
     have HYS:=lH (hys.below hA3);have hsw3:=HG.out.fam.old.size;have hsz3:=hA3.size;clear hA3 hown hys;go_wp2_with (at_builtin;refine wpList_append_row rfl _ _ 23 rfl w3.heap.size 35 i0 _ 5 88 Tryz.underlying23 hi0 hz0 hz1 hz2 hzs (by decide) _ _ _ rfl HO3.out _ _ _ rfl HR3.out (by intro u hu;simp at hu;rcases hu with rfl | rfl | rfl | rfl | rfl <;> rfl) (by unfold maxLen;omega) (by omega) (by omega) ?_)
     intro vfm wfm hown5 hg5 hbk5
     have HGfm:Hid (FamD w3 wfm [(.slice axfa Mfa.length cxfa,Mfa),(.slice axfu Mfu.length cxfu,Mfu),(.slice axfd Mfd.length cxfd,Mfd),(.slice axfr Mfr.length cxfr,Mfr),(vfm,M5 ++ [⟨2,p.label,noText,[],[]⟩])] D #[.string p.label,.bool false,.bool false,.string ma.label,.slice ua ma.uses.length uc,.slice da ma.decls.length dc,.string mb.label,.slice ub mb.uses.length uk,.slice db mb.decls.length dk]):=FamD.grown (P:=[_,_,_,_]) (l2:=[⟨2,p.label,noText,[],[]⟩]) HG3.out HYS.out (bare_one _ _ _ _) hown5 hg5 (by rw [World.size_alloc];exact hbk5)
     clear hown5 hg5 hbk5 HG HG3 HO3 HR3 HYS hsw3 hsz3;clear y0 y2 yl;have HG:=HGfm;clear HGfm;obtain ⟨Mfm,hMfm⟩:∃ M,M5 ++ [(⟨2,p.label,noText,[],[]⟩:OEdit)] = M:=⟨_,rfl⟩;rw [hMfm] at HG HN5;clear hMfm;obtain ⟨axfm,cxfm,rfl⟩:=Fam.val (P:=[_,_,_,_]) HG.out.fam
     have HFN:Hid (Fam w3 wfm [(.slice axfa Mfa.length cxfa,addM (ps.take (i + 1))),(.slice axfu Mfu.length cxfu,addU (ps.take (i + 1))),(.slice axfd Mfd.length cxfd,chgD (ps.take (i + 1))),(.slice axfr Mfr.length cxfr,remU (ps.take (i + 1))),(.slice axfm Mfm.length cxfm,remM (ps.take (i + 1)))]):=by
      show Fam _ _ _
      rw [HN1.out,HN2.out,HN3.out,HN4.out,HN5.out];exact HG.out.fam
     clear HG;go_wp2;go_roundw
     case rel => exact ⟨i + 1,by omega,by go_num,HFN⟩
     case measure => simp [intOf];omega
  ·have hd:decide ((i:Int) < (ps.length:Int)) = false:=decide_eq_false (by omega)
   obtain rfl:i = ps.length:=by omega
   rw [List.take_length] at HF l1 l2 l3 l4 l5 ⊢;have hq6:=qalloc wr (.cells #[.slice a1 (addM ps).length c1,.slice a2 (addU ps).length c2,.slice a3 (chgD ps).length c3,.slice a4 (remU ps).length c4,.slice a5 (remM ps).length c5] 23);have HB6:=lH (qtrans HB3.out (qtrans HF.out.old hq6));have hbx:=CBox.new wr 23 #[.slice a1 (addM ps).length c1,.slice a2 (addU ps).length c2,.slice a3 (chgD ps).length c3,.slice a4 (remU ps).length c4,.slice a5 (remM ps).length c5]
   have HCE:=lH (ConcatE_any [(.slice a1 (addM ps).length c1,addM ps),(.slice a2 (addU ps).length c2,addU ps),(.slice a3 (chgD ps).length c3,chgD ps),(.slice a4 (remU ps).length c4,remU ps),(.slice a5 (remM ps).length c5,remM ps)] wr.heap.size 5 _ rfl (fun q hq => (HF.out.reads hq).below hq6) hbx.lt (fun k q hk => hbx.cell (by
    match k,hk with
    | 0,hk => cases hk;rfl
    | 1,hk => cases hk;rfl
    | 2,hk => cases hk;rfl
    | 3,hk => cases hk;rfl
    | 4,hk => cases hk;rfl
    | k + 5,hk => cases hk)) (by rw [sumK_all];unfold allK;simp only [List.flatMap_cons,List.flatMap_nil,List.length_append,List.length_nil];omega) (by omega))
   rw [all_five] at HCE;rw [← HXR.out] at HCE;clear hq6 hbx HF;go_wp2_with (fail)
   refine HCE.out.mono ?_;rintro r W7 ⟨a7,c7,rfl,hr7,hb7⟩;have HR7:=lH hr7;have HB7:=lH (qtrans HB6.out hb7);clear hr7 hb7 HCE;go_wp2;go_ret2;exact diff_fine HXE.out HR7.out HB7.out
end Go.Proofs.YtdpnfkjafhbndaaGreatDoor

