/- The reference's shaped. -/
import Derived.Test.YtfkjfdbjhlmjcaaGreatDoorXSEi
set_option maxRecDepth 100000
set_option maxHeartbeats 16000000
namespace Go.Proofs.YtfkjfdbjhlmjcaaGreatDoor
open Go.RowKit Go.Shelf
attribute [local go_sem] Oper.semAt_some
theorem zIp (k:Int) (d:ODecl) {l:List ODecl} (h:l.length=1) (hd:l[0]?=some d):partialB k l=sameD d (partD k d):=by
 have e:l=[d]:=List.ext_getElem? (fun q=>by
  match q with
  | 0=>rw [hd];rfl
  | q+1=>rw [List.getElem?_eq_none (by omega)];simp)
 rw [e,partialB,List.all_cons,List.all_nil,Bool.and_true]
theorem zVy (e:OEdit) (ao:Option Addr) (co:Nat) (af:Option Addr) (cf:Nat) (w:World) (he:EditIn w e ao co af cf) (hs:SmE e) :
  Calls Tryz.prog 58 #[editV e ao co af cf] w fun r w'=>r=.returned (.bool (fitsB e))∧Bw w w':=by
 have HI:=lH he;have HS:=lH hs;have HP1:=lH (fun w' (h':Bw w w')=>zHb e.kind e.old ao co w' (he.old.below h') (fun d hd=>(hs.old d hd).1) hs.olen (fun d hd=>(hs.old d hd).2));have HP2:=lH (fun w' (h':Bw w w')=>zHb e.kind e.fresh af cf w' (he.fresh.below h') (fun d hd=>(hs.fresh d hd).1) hs.flen (fun d hd=>(hs.fresh d hd).2));clear he hs;have hA:=zAa w (.cells #[.int .i64 e.kind,.string e.pack,.string e.text,.slice ao e.old.length co,.slice af e.fresh.length cf] 39)
 have HB:=lH (CBox.new w 39 #[.int .i64 e.kind,.string e.pack,.string e.text,.slice ao e.old.length co,.slice af e.fresh.length cf]);have HT:Hid (fitsB e=if e.old.length=oldsN e.kind∧e.fresh.length=newsN e.kind then (if textBad e.kind e.text then false else if e.kind<7 then true else changeB e.kind (dAt e.old 0) (dAt e.fresh 0)) else false):=rfl;generalize fitsB e=T at *;unfold editV;have q6:∀b,(e.kind==6)=b→True:=fun _ _=>trivial;clear q6
 by_cases hk5:e.kind=5
 ·have k5:(e.kind==5)=true:=by rw [hk5];rfl
  have k6:decide (6≤e.kind)=false:=decide_eq_false (by omega);have k7:decide (7≤e.kind)=false:=decide_eq_false (by omega);have hk6:¬e.kind=6:=by omega
  have hk7:¬7≤e.kind:=by omega
  have ho:oldsN e.kind=0:=by unfold oldsN;rw [if_neg (by omega)]
  have hn:newsN e.kind=1:=by unfold newsN;rw [if_pos (by omega)]
  rw [ho,hn] at HT;clear ho hn
  by_cases hlo:e.old.length=0
  rotate_left
  ·have b1:((e.old.length:Int) != 0)=true:=bne_iff_ne.2 (by omega)
   rw [if_neg (fun h=>hlo h.1)] at HT;clear hlo hk5 hk6 hk7
   go_enter Tryz.func58,Tryz.ntmps58
   go_wp2;go_ret;exact ⟨zAb HT.o.symm,hA⟩
  have b1:((e.old.length:Int) != 0)=false:=by rw [hlo];rfl
  by_cases hln:e.fresh.length=1
  rotate_left
  ·have b2:((e.fresh.length:Int) != 1)=true:=bne_iff_ne.2 (by omega)
   rw [if_neg (fun h=>hln h.2)] at HT;clear hln hlo hk5 hk6 hk7
   go_enter Tryz.func58,Tryz.ntmps58
   go_wp2;go_ret;exact ⟨zAb HT.o.symm,hA⟩
  have b2:((e.fresh.length:Int) != 1)=false:=by rw [hln];rfl
  rw [if_pos ⟨hlo,hln⟩] at HT;have HLO:=lH hlo;have HLN:=lH hln;clear hlo hln;have HTB:Hid (textBad e.kind e.text=(!(e.text.toList==[]) && (e.kind != 3 && e.kind != 4))):=rfl;generalize textBad e.kind e.text=tb at *
  cases ht:(e.text.toList==[]) with
  | false=>
   rw [ht] at HTB;have k3:(e.kind != 3)=true:=bne_iff_ne.2 (by omega);have k4:(e.kind != 4)=true:=bne_iff_ne.2 (by omega);rw [k3,k4] at HTB;rw [HTB.o,if_pos (by decide:(!false && (true && true))=true)] at HT;clear hk5 hk6 hk7
   go_enter Tryz.func58,Tryz.ntmps58
   go_wp2;go_ret;exact ⟨zAb HT.o.symm,hA⟩
  | true=>
   rw [ht] at HTB;rw [HTB.o,if_neg (by simp),if_pos (by omega)] at HT;have ql:decide (e.kind<7)=true:=decide_eq_true (by omega);have hklow:e.kind<7:=by omega
   have q1:=zBp hklow e.old;have q2:=zBp hklow e.fresh;rw [q1] at HP1;rw [q2] at HP2
   (try clear e3)
   (try clear e4)
   clear hk5 hk6 hk7 q1 q2 hklow
   go_enter Tryz.func58,Tryz.ntmps58
   go_wp2_with (fail)
   refine (HP1.o _ hA).mono ?_;rintro r w1 ⟨rfl,hb1⟩;have hB1:=zA hA hb1;have m0:=(HB.o.below hb1).cell (i:=0) (v:=.int .i64 e.kind) rfl;have m4:=(HB.o.below hb1).cell (i:=4) (v:=.slice af e.fresh.length cf) rfl;have ml:=(HB.o.below hb1).lt;go_wp2_with (fail)
   refine (HP2.o _ hB1).mono ?_;rintro r w2 ⟨rfl,hb2⟩;have hB2:=zA hB1 hb2;have n0:=((HB.o.below hb1).below hb2).cell (i:=0) (v:=.int .i64 e.kind) rfl;have nl:=((HB.o.below hb1).below hb2).lt;go_upto_region 10 with (fail)
   go_cut [2] from 57 to 84 (fun v wx=>v=.bool true∧Bw w wx)
   case first=>
    refine wp_region_noPanic ?_
    go_quiet (fail)
    refine NoPanic.normal ?_
    (try go_wp2)
    go_meet
    case rel=>exact ⟨rfl,below_drewN hB2 _⟩
   case rest=>
   obtain ⟨rfl,hb4⟩:=hcut;go_wp2;go_ret;exact ⟨zAb HT.o.symm,hb4⟩
 by_cases hk6:e.kind=6
 ·have k5:(e.kind==5)=false:=by rw [hk6];rfl
  have k6:decide (6≤e.kind)=true:=decide_eq_true (by omega);have k7:decide (7≤e.kind)=false:=decide_eq_false (by omega);have hk7:¬7≤e.kind:=by omega
  have ho:oldsN e.kind=1:=by unfold oldsN;rw [if_pos (by omega)]
  have hn:newsN e.kind=0:=by unfold newsN;rw [if_neg (by omega)]
  rw [ho,hn] at HT;clear ho hn
  by_cases hlo:e.old.length=1
  rotate_left
  ·have b1:((e.old.length:Int) != 1)=true:=bne_iff_ne.2 (by omega)
   rw [if_neg (fun h=>hlo h.1)] at HT;clear hlo hk5 hk6 hk7
   go_enter Tryz.func58,Tryz.ntmps58
   go_wp2;go_ret;exact ⟨zAb HT.o.symm,hA⟩
  have b1:((e.old.length:Int) != 1)=false:=by rw [hlo];rfl
  by_cases hln:e.fresh.length=0
  rotate_left
  ·have b2:((e.fresh.length:Int) != 0)=true:=bne_iff_ne.2 (by omega)
   rw [if_neg (fun h=>hln h.2)] at HT;clear hln hlo hk5 hk6 hk7
   go_enter Tryz.func58,Tryz.ntmps58
   go_wp2;go_ret;exact ⟨zAb HT.o.symm,hA⟩
  have b2:((e.fresh.length:Int) != 0)=false:=by rw [hln];rfl
  rw [if_pos ⟨hlo,hln⟩] at HT;have HLO:=lH hlo;have HLN:=lH hln;clear hlo hln;have HTB:Hid (textBad e.kind e.text=(!(e.text.toList==[]) && (e.kind != 3 && e.kind != 4))):=rfl;generalize textBad e.kind e.text=tb at *
  cases ht:(e.text.toList==[]) with
  | false=>
   rw [ht] at HTB;have k3:(e.kind != 3)=true:=bne_iff_ne.2 (by omega);have k4:(e.kind != 4)=true:=bne_iff_ne.2 (by omega);rw [k3,k4] at HTB;rw [HTB.o,if_pos (by decide:(!false && (true && true))=true)] at HT;clear hk5 hk6 hk7
   go_enter Tryz.func58,Tryz.ntmps58
   go_wp2;go_ret;exact ⟨zAb HT.o.symm,hA⟩
  | true=>
   rw [ht] at HTB;rw [HTB.o,if_neg (by simp),if_pos (by omega)] at HT;have ql:decide (e.kind<7)=true:=decide_eq_true (by omega);have hklow:e.kind<7:=by omega
   have q1:=zBp hklow e.old;have q2:=zBp hklow e.fresh;rw [q1] at HP1;rw [q2] at HP2
   (try clear e3)
   (try clear e4)
   clear hk5 hk6 hk7 q1 q2 hklow
   go_enter Tryz.func58,Tryz.ntmps58
   go_wp2_with (fail)
   refine (HP1.o _ hA).mono ?_;rintro r w1 ⟨rfl,hb1⟩;have hB1:=zA hA hb1;have m0:=(HB.o.below hb1).cell (i:=0) (v:=.int .i64 e.kind) rfl;have m4:=(HB.o.below hb1).cell (i:=4) (v:=.slice af e.fresh.length cf) rfl;have ml:=(HB.o.below hb1).lt;go_wp2_with (fail)
   refine (HP2.o _ hB1).mono ?_;rintro r w2 ⟨rfl,hb2⟩;have hB2:=zA hB1 hb2;have n0:=((HB.o.below hb1).below hb2).cell (i:=0) (v:=.int .i64 e.kind) rfl;have nl:=((HB.o.below hb1).below hb2).lt;go_upto_region 10 with (fail)
   go_cut [2] from 57 to 84 (fun v wx=>v=.bool true∧Bw w wx)
   case first=>
    refine wp_region_noPanic ?_
    go_quiet (fail)
    refine NoPanic.normal ?_
    (try go_wp2)
    go_meet
    case rel=>exact ⟨rfl,below_drewN hB2 _⟩
   case rest=>
   obtain ⟨rfl,hb4⟩:=hcut;go_wp2;go_ret;exact ⟨zAb HT.o.symm,hb4⟩
 have k5:(e.kind==5)=false:=beq_eq_false_iff_ne.2 hk5
 by_cases hk7:7≤e.kind
 ·have k7:decide (7≤e.kind)=true:=decide_eq_true hk7
  have k6:decide (6≤e.kind)=true:=decide_eq_true (by omega);have ho:oldsN e.kind=1:=by unfold oldsN;rw [if_pos (by omega)]
  have hn:newsN e.kind=1:=by unfold newsN;rw [if_pos (by omega)]
  rw [ho,hn] at HT;clear ho hn
  by_cases hlo:e.old.length=1
  rotate_left
  ·have b1:((e.old.length:Int) != 1)=true:=bne_iff_ne.2 (by omega)
   rw [if_neg (fun h=>hlo h.1)] at HT;clear hlo hk5 hk6 hk7
   go_enter Tryz.func58,Tryz.ntmps58
   go_wp2;go_ret;exact ⟨zAb HT.o.symm,hA⟩
  have b1:((e.old.length:Int) != 1)=false:=by rw [hlo];rfl
  by_cases hln:e.fresh.length=1
  rotate_left
  ·have b2:((e.fresh.length:Int) != 1)=true:=bne_iff_ne.2 (by omega)
   rw [if_neg (fun h=>hln h.2)] at HT;clear hln hlo hk5 hk6 hk7
   go_enter Tryz.func58,Tryz.ntmps58
   go_wp2;go_ret;exact ⟨zAb HT.o.symm,hA⟩
  have b2:((e.fresh.length:Int) != 1)=false:=by rw [hln];rfl
  rw [if_pos ⟨hlo,hln⟩] at HT;have HLO:=lH hlo;have HLN:=lH hln;clear hlo hln;have HTB:Hid (textBad e.kind e.text=(!(e.text.toList==[]) && (e.kind != 3 && e.kind != 4))):=rfl;generalize textBad e.kind e.text=tb at *
  cases ht:(e.text.toList==[]) with
  | false=>
   rw [ht] at HTB;have k3:(e.kind != 3)=true:=bne_iff_ne.2 (by omega);have k4:(e.kind != 4)=true:=bne_iff_ne.2 (by omega);rw [k3,k4] at HTB;rw [HTB.o,if_pos (by decide:(!false && (true && true))=true)] at HT;clear hk5 hk6 hk7
   go_enter Tryz.func58,Tryz.ntmps58
   go_wp2;go_ret;exact ⟨zAb HT.o.symm,hA⟩
  | true=>
   rw [ht] at HTB;rw [HTB.o,if_neg (by simp),if_neg (by omega)] at HT;have ql:decide (e.kind<7)=false:=decide_eq_false (by omega);clear hk5 hk6 hk7;obtain ⟨o,hoi⟩:∃o,e.old[0]?=some o:=⟨_,List.getElem?_eq_getElem (by rw [HLO.o];omega)⟩;obtain ⟨f,hfi⟩:∃f,e.fresh[0]?=some f:=⟨_,List.getElem?_eq_getElem (by rw [HLN.o];omega)⟩;rw [zDi hoi,zDi hfi] at HT;have hso:=HS.o.old o (List.mem_of_getElem? hoi);have hsf:=HS.o.fresh f (List.mem_of_getElem? hfi)
   obtain ⟨bo,oo,an,cn,sa,cs,rfl,hbo,hco,hn1,hn2,hsn,hs1,hs2,hsr⟩:=zAv (HI.o.below hA).old hoi;obtain ⟨bf,of',bn,cm,sb,ct,rfl,hbf,hcf,hm1,hm2,hfn,ht1,ht2,hfr⟩:=zAv (HI.o.below hA).fresh hfi;simp only [Nat.zero_mul,Nat.add_zero] at hco hcf
   have HDO:=lH (DeclIn.mk hsn.out hsr.out hn1 hn2 hs1 hs2);have HDF:=lH (DeclIn.mk hfn.out hfr.out hm1 hm2 ht1 ht2);have hlo:0<e.old.length:=by rw [HLO.o];omega
   have hln:0<e.fresh.length:=by rw [HLN.o];omega
   have hdo:(0:Int)<(e.old.length:Int):=by omega
   have hdn:(0:Int)<(e.fresh.length:Int):=by omega
   have HC1:=lH (zIp e.kind o HLO.o hoi);have HC2:=lH (zIp e.kind f HLN.o hfi);rw [HC1.o] at HP1;rw [HC2.o] at HP2;have HHT:Hid (changeB e.kind o f=(sameD o (partD e.kind o) && (sameD f (partD e.kind f) && (o.id==f.id && !sameD o f)))):=rfl;generalize changeB e.kind o f=r0 at *;generalize sameD o (partD e.kind o)=r1 at *;generalize sameD f (partD e.kind f)=r2 at *;clear HC1 HC2;have x0:=hco 0 _ rfl;have y0:=hcf 0 _ rfl;have x1:=hco 1 _ rfl;have y1:=hcf 1 _ rfl;have x2:=hco 2 _ rfl;have y2:=hcf 2 _ rfl
   have x3:=hco 3 _ rfl;have y3:=hcf 3 _ rfl;have x4:=hco 4 _ rfl;have y4:=hcf 4 _ rfl;have x5:=hco 5 _ rfl;have y5:=hcf 5 _ rfl;have x6:=hco 6 _ rfl;have y6:=hcf 6 _ rfl;have x7:=hco 7 _ rfl;have y7:=hcf 7 _ rfl;have x8:=hco 8 _ rfl;have y8:=hcf 8 _ rfl;have x9:=hco 9 _ rfl;have y9:=hcf 9 _ rfl;have x10:=hco 10 _ rfl;have y10:=hcf 10 _ rfl;rw [Nat.add_zero] at x0 y0;clear hsn hsr hfn hfr hco hcf;unfold declL at *
   go_enter Tryz.func58,Tryz.ntmps58
   go_wp2_with (fail)
   refine (HP1.o _ hA).mono ?_;rintro r w1 ⟨rfl,hb1⟩;have hB1:=zA hA hb1;have m0:=(HB.o.below hb1).cell (i:=0) (v:=.int .i64 e.kind) rfl;have m4:=(HB.o.below hb1).cell (i:=4) (v:=.slice (some ⟨bf,of',none⟩) e.fresh.length cf) rfl;have ml:=(HB.o.below hb1).lt
   cases r1 with
   | false=>
    go_wp2;go_ret;exact ⟨zAb (by rw [HT.o,HHT.o];rfl),hB1⟩
   | true=>
    go_wp2_with (fail)
    refine (HP2.o _ hB1).mono ?_;rintro r w2 ⟨rfl,hb2⟩;have hB2:=zA hB1 hb2
    cases r2 with
    | false=>
     go_wp2;go_ret;exact ⟨zAb (by rw [HT.o,HHT.o];rfl),hB2⟩
    | true=>
     have hb12:=zA hb1 hb2;have HE3:=lH (fun w' (h':Bw w2 w')=>zEq o f an cn sa cs bn cm sb ct w' ((HDO.o.below hb12).below h') ((HDF.o.below hb12).below h') hso.1.len hso.2);have HBK:=lH ((HB.o.below hb1).below hb2);have hbo2:bo<w2.heap.size:=Nat.lt_of_lt_of_le hbo hb12.size;have hbf2:bf<w2.heap.size:=Nat.lt_of_lt_of_le hbf hb12.size;have zx0:=(hb12.cell (p:=⟨bo,_,none⟩) hbo).trans x0;have zy0:=(hb12.cell (p:=⟨bf,_,none⟩) hbf).trans y0;have zx1:=(hb12.cell (p:=⟨bo,_,none⟩) hbo).trans x1
     have zy1:=(hb12.cell (p:=⟨bf,_,none⟩) hbf).trans y1;have zx2:=(hb12.cell (p:=⟨bo,_,none⟩) hbo).trans x2;have zy2:=(hb12.cell (p:=⟨bf,_,none⟩) hbf).trans y2;have zx3:=(hb12.cell (p:=⟨bo,_,none⟩) hbo).trans x3;have zy3:=(hb12.cell (p:=⟨bf,_,none⟩) hbf).trans y3;have zx4:=(hb12.cell (p:=⟨bo,_,none⟩) hbo).trans x4;have zy4:=(hb12.cell (p:=⟨bf,_,none⟩) hbf).trans y4;have zx5:=(hb12.cell (p:=⟨bo,_,none⟩) hbo).trans x5;have zy5:=(hb12.cell (p:=⟨bf,_,none⟩) hbf).trans y5
     have zx6:=(hb12.cell (p:=⟨bo,_,none⟩) hbo).trans x6;have zy6:=(hb12.cell (p:=⟨bf,_,none⟩) hbf).trans y6;have zx7:=(hb12.cell (p:=⟨bo,_,none⟩) hbo).trans x7;have zy7:=(hb12.cell (p:=⟨bf,_,none⟩) hbf).trans y7;have zx8:=(hb12.cell (p:=⟨bo,_,none⟩) hbo).trans x8;have zy8:=(hb12.cell (p:=⟨bf,_,none⟩) hbf).trans y8;have zx9:=(hb12.cell (p:=⟨bo,_,none⟩) hbo).trans x9;have zy9:=(hb12.cell (p:=⟨bf,_,none⟩) hbf).trans y9;have zx10:=(hb12.cell (p:=⟨bo,_,none⟩) hbo).trans x10
     have zy10:=(hb12.cell (p:=⟨bf,_,none⟩) hbf).trans y10
     have SW:Hid (∀W:World,Bw w2 W→(W.cell? ⟨w.heap.size,0,none⟩=some (.int .i64 e.kind)∧W.cell? ⟨w.heap.size,3,none⟩=some (.slice (some ⟨bo,oo,none⟩) e.old.length co)∧W.cell? ⟨w.heap.size,4,none⟩=some (.slice (some ⟨bf,of',none⟩) e.fresh.length cf)∧w.heap.size<W.heap.size∧bo<W.heap.size∧bf<W.heap.size∧W.cell? ⟨bo,oo,none⟩=some (.int .i64 o.id)∧W.cell? ⟨bo,oo+1,none⟩=some (.int .i64 o.kind)∧W.cell? ⟨bo,oo+2,none⟩=some (.bool o.pub)∧W.cell? ⟨bo,oo+3,none⟩=some (.slice an o.names.length cn)∧W.cell? ⟨bo,oo+4,none⟩=some (.bool o.doubt)∧W.cell? ⟨bo,oo+5,none⟩=some (.int .i64 o.body.kind)∧W.cell? ⟨bo,oo+6,none⟩=some (.string o.body.name)∧W.cell? ⟨bo,oo+7,none⟩=some (.string o.body.more)∧W.cell? ⟨bo,oo+8,none⟩=some (.int .i64 o.body.num)∧W.cell? ⟨bo,oo+9,none⟩=some (.int .i64 o.body.den)∧W.cell? ⟨bo,oo+10,none⟩=some (.slice sa o.body.subs.length cs)∧W.cell? ⟨bf,of',none⟩=some (.int .i64 f.id)∧W.cell? ⟨bf,of'+1,none⟩=some (.int .i64 f.kind)∧W.cell? ⟨bf,of'+2,none⟩=some (.bool f.pub)∧W.cell? ⟨bf,of'+3,none⟩=some (.slice bn f.names.length cm)∧W.cell? ⟨bf,of'+4,none⟩=some (.bool f.doubt)∧W.cell? ⟨bf,of'+5,none⟩=some (.int .i64 f.body.kind)∧W.cell? ⟨bf,of'+6,none⟩=some (.string f.body.name)∧W.cell? ⟨bf,of'+7,none⟩=some (.string f.body.more)∧W.cell? ⟨bf,of'+8,none⟩=some (.int .i64 f.body.num)∧W.cell? ⟨bf,of'+9,none⟩=some (.int .i64 f.body.den)∧W.cell? ⟨bf,of'+10,none⟩=some (.slice sb f.body.subs.length ct))):=lH (fun W hW=>by
      have q:=HBK.o.below hW
      exact ⟨q.cell (i:=0) rfl,q.cell (i:=3) rfl,q.cell (i:=4) rfl,q.lt,Nat.lt_of_lt_of_le hbo2 hW.size,Nat.lt_of_lt_of_le hbf2 hW.size,(hW.cell (p:=⟨bo,_,none⟩) hbo2).trans zx0,(hW.cell (p:=⟨bo,_,none⟩) hbo2).trans zx1,(hW.cell (p:=⟨bo,_,none⟩) hbo2).trans zx2,(hW.cell (p:=⟨bo,_,none⟩) hbo2).trans zx3,(hW.cell (p:=⟨bo,_,none⟩) hbo2).trans zx4,(hW.cell (p:=⟨bo,_,none⟩) hbo2).trans zx5,(hW.cell (p:=⟨bo,_,none⟩) hbo2).trans zx6,(hW.cell (p:=⟨bo,_,none⟩) hbo2).trans zx7,(hW.cell (p:=⟨bo,_,none⟩) hbo2).trans zx8,(hW.cell (p:=⟨bo,_,none⟩) hbo2).trans zx9,(hW.cell (p:=⟨bo,_,none⟩) hbo2).trans zx10,(hW.cell (p:=⟨bf,_,none⟩) hbf2).trans zy0,(hW.cell (p:=⟨bf,_,none⟩) hbf2).trans zy1,(hW.cell (p:=⟨bf,_,none⟩) hbf2).trans zy2,(hW.cell (p:=⟨bf,_,none⟩) hbf2).trans zy3,(hW.cell (p:=⟨bf,_,none⟩) hbf2).trans zy4,(hW.cell (p:=⟨bf,_,none⟩) hbf2).trans zy5,(hW.cell (p:=⟨bf,_,none⟩) hbf2).trans zy6,(hW.cell (p:=⟨bf,_,none⟩) hbf2).trans zy7,(hW.cell (p:=⟨bf,_,none⟩) hbf2).trans zy8,(hW.cell (p:=⟨bf,_,none⟩) hbf2).trans zy9,(hW.cell (p:=⟨bf,_,none⟩) hbf2).trans zy10⟩)
     obtain ⟨r3,e3⟩:∃r3,(o.id==f.id)=r3:=⟨_,rfl⟩;rw [e3] at HHT;generalize sameD o f=r4 at *;unfold declV at *;clear x0 x1 x2 x3 x4 x5 x6 x7 x8 x9 x10 y0 y1 y2 y3 y4 y5 y6 y7 y8 y9 y10 hso hsf m0 m4 ml hb12;go_upto_region 10 with (fail)
     go_cut [2] from 57 to 84 (fun v wx=>v=.bool r0∧Bw w2 wx)
     case first=>
      have hdr:Bw w2 w2.drew:=(Mod.refl [] w2).drew.below
      refine wp_region_noPanic (zCp (fun W:World=>W.cell? ⟨w.heap.size,0,none⟩=some (.int .i64 e.kind)∧W.cell? ⟨w.heap.size,3,none⟩=some (.slice (some ⟨bo,oo,none⟩) e.old.length co)∧W.cell? ⟨w.heap.size,4,none⟩=some (.slice (some ⟨bf,of',none⟩) e.fresh.length cf)∧w.heap.size<W.heap.size∧bo<W.heap.size∧bf<W.heap.size∧W.cell? ⟨bo,oo,none⟩=some (.int .i64 o.id)∧W.cell? ⟨bo,oo+1,none⟩=some (.int .i64 o.kind)∧W.cell? ⟨bo,oo+2,none⟩=some (.bool o.pub)∧W.cell? ⟨bo,oo+3,none⟩=some (.slice an o.names.length cn)∧W.cell? ⟨bo,oo+4,none⟩=some (.bool o.doubt)∧W.cell? ⟨bo,oo+5,none⟩=some (.int .i64 o.body.kind)∧W.cell? ⟨bo,oo+6,none⟩=some (.string o.body.name)∧W.cell? ⟨bo,oo+7,none⟩=some (.string o.body.more)∧W.cell? ⟨bo,oo+8,none⟩=some (.int .i64 o.body.num)∧W.cell? ⟨bo,oo+9,none⟩=some (.int .i64 o.body.den)∧W.cell? ⟨bo,oo+10,none⟩=some (.slice sa o.body.subs.length cs)∧W.cell? ⟨bf,of',none⟩=some (.int .i64 f.id)∧W.cell? ⟨bf,of'+1,none⟩=some (.int .i64 f.kind)∧W.cell? ⟨bf,of'+2,none⟩=some (.bool f.pub)∧W.cell? ⟨bf,of'+3,none⟩=some (.slice bn f.names.length cm)∧W.cell? ⟨bf,of'+4,none⟩=some (.bool f.doubt)∧W.cell? ⟨bf,of'+5,none⟩=some (.int .i64 f.body.kind)∧W.cell? ⟨bf,of'+6,none⟩=some (.string f.body.name)∧W.cell? ⟨bf,of'+7,none⟩=some (.string f.body.more)∧W.cell? ⟨bf,of'+8,none⟩=some (.int .i64 f.body.num)∧W.cell? ⟨bf,of'+9,none⟩=some (.int .i64 f.body.den)∧W.cell? ⟨bf,of'+10,none⟩=some (.slice sb f.body.subs.length ct)) [true,true,true,true,true,true,true,true,true,true,true,true,true,true,true,true,true,true,true,true,true,true,true,true,false,true,true,true,true] zBm (by kernel_rfl) (fun _ _ _ _ _ h=>h) (SW.o _ hdr) (fun hHeld=>?_))
      cases r3 with
      | false=>
       iterate 24 (first|(refine zAo (by rfl) ?_;(try simp only [Act.put,List.setIfInBounds_toArray,List.set_cons_zero,List.set_cons_succ]))|(refine zAw (v:=?_) (by rfl) ?_ ?_;rotate_left;(focus (intro wq hSw;(try dsimp only at hSw);go_simp;(try with_reducible rfl)));(try simp only [Act.put,List.setIfInBounds_toArray,List.set_cons_zero,List.set_cons_succ])))
       (refine zAo (by rfl) ?_;(try simp only [Act.put,List.setIfInBounds_toArray,List.set_cons_zero,List.set_cons_succ]))
       iterate 4 (first|(refine zAo (by rfl) ?_;(try simp only [Act.put,List.setIfInBounds_toArray,List.set_cons_zero,List.set_cons_succ]))|(refine zAw (v:=?_) (by rfl) ?_ ?_;rotate_left;(focus (intro wq hSw;(try dsimp only at hSw);go_simp;(try with_reducible rfl)));(try simp only [Act.put,List.setIfInBounds_toArray,List.set_cons_zero,List.set_cons_succ])))
       refine zDg ?_;refine NoPanic.normal ?_;go_wp2;go_meet
       case rel=>exact ⟨by rw [HHT.o];rfl,hdr⟩
      | true=>
       iterate 24 (first|(refine zAo (by rfl) ?_;(try simp only [Act.put,List.setIfInBounds_toArray,List.set_cons_zero,List.set_cons_succ]))|(refine zAw (v:=?_) (by rfl) ?_ ?_;rotate_left;(focus (intro wq hSw;(try dsimp only at hSw);go_simp;(try with_reducible rfl)));(try simp only [Act.put,List.setIfInBounds_toArray,List.set_cons_zero,List.set_cons_succ])))
       clear hHeld;generalize w2.drew=wd at *
       (refine zDb (by rfl) (fun K hK=>?_);go_simp)
       refine (HE3.o _ hdr).mono ?_;rintro r w6 ⟨rfl,hb6⟩
       (try go_simp)
       have hd6:=zA hdr hb6;refine hK.out _ _ (SW.o _ hd6) (fun _=>?_);clear hK K;(try simp only [Act.put,List.setIfInBounds_toArray,List.set_cons_zero,List.set_cons_succ])
       iterate 4 (first|(refine zAo (by rfl) ?_;(try simp only [Act.put,List.setIfInBounds_toArray,List.set_cons_zero,List.set_cons_succ]))|(refine zAw (v:=?_) (by rfl) ?_ ?_;rotate_left;(focus (intro wq hSw;(try dsimp only at hSw);go_simp;(try with_reducible rfl)));(try simp only [Act.put,List.setIfInBounds_toArray,List.set_cons_zero,List.set_cons_succ])))
       refine zDg ?_;refine NoPanic.normal ?_;go_wp2;go_meet
       case rel=>exact ⟨by rw [HHT.o];cases r4<;>rfl,hd6⟩
     case rest=>
     obtain ⟨rfl,hb4⟩:=hcut;go_wp2;go_ret;exact ⟨zAb HT.o.symm,zA hB2 hb4⟩
 ·have k7:decide (7≤e.kind)=false:=decide_eq_false hk7
  have k6:decide (6≤e.kind)=false:=decide_eq_false (by omega);have ho:oldsN e.kind=0:=by unfold oldsN;rw [if_neg (by omega)]
  have hn:newsN e.kind=0:=by unfold newsN;rw [if_neg (by omega)]
  rw [ho,hn] at HT;clear ho hn
  by_cases hlo:e.old.length=0
  rotate_left
  ·have b1:((e.old.length:Int) != 0)=true:=bne_iff_ne.2 (by omega)
   rw [if_neg (fun h=>hlo h.1)] at HT;clear hlo hk5 hk6 hk7
   go_enter Tryz.func58,Tryz.ntmps58
   go_wp2;go_ret;exact ⟨zAb HT.o.symm,hA⟩
  have b1:((e.old.length:Int) != 0)=false:=by rw [hlo];rfl
  by_cases hln:e.fresh.length=0
  rotate_left
  ·have b2:((e.fresh.length:Int) != 0)=true:=bne_iff_ne.2 (by omega)
   rw [if_neg (fun h=>hln h.2)] at HT;clear hln hlo hk5 hk6 hk7
   go_enter Tryz.func58,Tryz.ntmps58
   go_wp2;go_ret;exact ⟨zAb HT.o.symm,hA⟩
  have b2:((e.fresh.length:Int) != 0)=false:=by rw [hln];rfl
  rw [if_pos ⟨hlo,hln⟩] at HT;have HLO:=lH hlo;have HLN:=lH hln;clear hlo hln;have HTB:Hid (textBad e.kind e.text=(!(e.text.toList==[]) && (e.kind != 3 && e.kind != 4))):=rfl;generalize textBad e.kind e.text=tb at *
  cases ht:(e.text.toList==[]) with
  | false=>
   rw [ht] at HTB
   by_cases e3:e.kind=3
   ·have k3:(e.kind != 3)=false:=by rw [e3];rfl
    rw [k3] at HTB;rw [HTB.o,if_neg (by simp),if_pos (by omega)] at HT;have ql:decide (e.kind<7)=true:=decide_eq_true (by omega);have hklow:e.kind<7:=by omega
    have q1:=zBp hklow e.old;have q2:=zBp hklow e.fresh;rw [q1] at HP1;rw [q2] at HP2
    (try clear e3)
    (try clear e4)
    clear hk5 hk6 hk7 q1 q2 hklow
    go_enter Tryz.func58,Tryz.ntmps58
    go_wp2_with (fail)
    refine (HP1.o _ hA).mono ?_;rintro r w1 ⟨rfl,hb1⟩;have hB1:=zA hA hb1;have m0:=(HB.o.below hb1).cell (i:=0) (v:=.int .i64 e.kind) rfl;have m4:=(HB.o.below hb1).cell (i:=4) (v:=.slice af e.fresh.length cf) rfl;have ml:=(HB.o.below hb1).lt;go_wp2_with (fail)
    refine (HP2.o _ hB1).mono ?_;rintro r w2 ⟨rfl,hb2⟩;have hB2:=zA hB1 hb2;have n0:=((HB.o.below hb1).below hb2).cell (i:=0) (v:=.int .i64 e.kind) rfl;have nl:=((HB.o.below hb1).below hb2).lt;go_upto_region 10 with (fail)
    go_cut [2] from 57 to 84 (fun v wx=>v=.bool true∧Bw w wx)
    case first=>
     refine wp_region_noPanic ?_
     go_quiet (fail)
     refine NoPanic.normal ?_
     (try go_wp2)
     go_meet
     case rel=>exact ⟨rfl,below_drewN hB2 _⟩
    case rest=>
    obtain ⟨rfl,hb4⟩:=hcut;go_wp2;go_ret;exact ⟨zAb HT.o.symm,hb4⟩
    -- end
   have k3:(e.kind != 3)=true:=bne_iff_ne.2 e3
   by_cases e4:e.kind=4
   ·have k4:(e.kind != 4)=false:=by rw [e4];rfl
    rw [k3,k4] at HTB;rw [HTB.o,if_neg (by simp),if_pos (by omega)] at HT;have ql:decide (e.kind<7)=true:=decide_eq_true (by omega);have hklow:e.kind<7:=by omega
    have q1:=zBp hklow e.old;have q2:=zBp hklow e.fresh;rw [q1] at HP1;rw [q2] at HP2
    (try clear e3)
    (try clear e4)
    clear hk5 hk6 hk7 q1 q2 hklow
    go_enter Tryz.func58,Tryz.ntmps58
    go_wp2_with (fail)
    refine (HP1.o _ hA).mono ?_;rintro r w1 ⟨rfl,hb1⟩;have hB1:=zA hA hb1;have m0:=(HB.o.below hb1).cell (i:=0) (v:=.int .i64 e.kind) rfl;have m4:=(HB.o.below hb1).cell (i:=4) (v:=.slice af e.fresh.length cf) rfl;have ml:=(HB.o.below hb1).lt;go_wp2_with (fail)
    refine (HP2.o _ hB1).mono ?_;rintro r w2 ⟨rfl,hb2⟩;have hB2:=zA hB1 hb2;have n0:=((HB.o.below hb1).below hb2).cell (i:=0) (v:=.int .i64 e.kind) rfl;have nl:=((HB.o.below hb1).below hb2).lt;go_upto_region 10 with (fail)
    go_cut [2] from 57 to 84 (fun v wx=>v=.bool true∧Bw w wx)
    case first=>
     refine wp_region_noPanic ?_
     go_quiet (fail)
     refine NoPanic.normal ?_
     (try go_wp2)
     go_meet
     case rel=>exact ⟨rfl,below_drewN hB2 _⟩
    case rest=>
    obtain ⟨rfl,hb4⟩:=hcut;go_wp2;go_ret;exact ⟨zAb HT.o.symm,hb4⟩
    -- end
   have k4:(e.kind != 4)=true:=bne_iff_ne.2 e4;rw [k3,k4] at HTB;clear e3 e4;rw [HTB.o,if_pos (by decide:(!false && (true && true))=true)] at HT;clear hk5 hk6 hk7
   go_enter Tryz.func58,Tryz.ntmps58
   go_wp2;go_ret;exact ⟨zAb HT.o.symm,hA⟩
  | true=>
   rw [ht] at HTB;rw [HTB.o,if_neg (by simp),if_pos (by omega)] at HT;have ql:decide (e.kind<7)=true:=decide_eq_true (by omega);have hklow:e.kind<7:=by omega
   have q1:=zBp hklow e.old;have q2:=zBp hklow e.fresh;rw [q1] at HP1;rw [q2] at HP2
   (try clear e3)
   (try clear e4)
   clear hk5 hk6 hk7 q1 q2 hklow
   go_enter Tryz.func58,Tryz.ntmps58
   go_wp2_with (fail)
   refine (HP1.o _ hA).mono ?_;rintro r w1 ⟨rfl,hb1⟩;have hB1:=zA hA hb1;have m0:=(HB.o.below hb1).cell (i:=0) (v:=.int .i64 e.kind) rfl;have m4:=(HB.o.below hb1).cell (i:=4) (v:=.slice af e.fresh.length cf) rfl;have ml:=(HB.o.below hb1).lt;go_wp2_with (fail)
   refine (HP2.o _ hB1).mono ?_;rintro r w2 ⟨rfl,hb2⟩;have hB2:=zA hB1 hb2;have n0:=((HB.o.below hb1).below hb2).cell (i:=0) (v:=.int .i64 e.kind) rfl;have nl:=((HB.o.below hb1).below hb2).lt;go_upto_region 10 with (fail)
   go_cut [2] from 57 to 84 (fun v wx=>v=.bool true∧Bw w wx)
   case first=>
    refine wp_region_noPanic ?_
    go_quiet (fail)
    refine NoPanic.normal ?_
    (try go_wp2)
    go_meet
    case rel=>exact ⟨rfl,below_drewN hB2 _⟩
   case rest=>
   obtain ⟨rfl,hb4⟩:=hcut;go_wp2;go_ret;exact ⟨zAb HT.o.symm,hb4⟩
end Go.Proofs.YtfkjfdbjhlmjcaaGreatDoor
