/- edit.fits. -/
import Derived.Test.YtfkjfdbjhlmjcaaGreatDoorXT6
set_option maxRecDepth 100000
set_option maxHeartbeats 16000000
namespace Go.Proofs.YtfkjfdbjhlmjcaaGreatDoor
open Go.RowKit Go.Shelf
attribute [local go_sem] Oper.semAt_some
def oldsN (k:Int):Nat:=if k=6∨7≤k then 1 else 0
def newsN (k:Int):Nat:=if k=5∨7≤k then 1 else 0
def textBad (k:Int) (t:ByteArray):Bool:=!(t.toList==[]) && (k != 3 && k != 4)
def changeB (k:Int) (o f:ODecl):Bool:=sameD o (partD k o) && (sameD f (partD k f) && (o.id==f.id && !sameD o f))
def fitsB (e:OEdit):Bool:=
 if e.old.length=oldsN e.kind∧e.fresh.length=newsN e.kind then (if textBad e.kind e.text then false else if e.kind<7 then true else changeB e.kind (dAt e.old 0) (dAt e.fresh 0)) else false
structure SmE (e:OEdit):Prop where
 pack:e.pack.size≤40000
 text:e.text.size≤40000
 old:∀d∈e.old,SmD d∧nodesN d.body≤1000000
 fresh:∀d∈e.fresh,SmD d∧nodesN d.body≤1000000
 olen:e.old.length≤1000000
 flen:e.fresh.length≤1000000
structure EditIn (w:World) (e:OEdit) (ao:Option Addr) (co:Nat) (af:Option Addr) (cf:Nat):Prop where
 old:Reads w [] (declsT e.old) (.slice ao e.old.length co)
 fresh:Reads w [] (declsT e.fresh) (.slice af e.fresh.length cf)
 ho1:e.old.length≤co
 ho2:co≤9223372036854775807
 hf1:e.fresh.length≤cf
 hf2:cf≤9223372036854775807
theorem EditIn.below {w w':World} {e:OEdit} {ao:Option Addr} {co:Nat} {af:Option Addr} {cf:Nat} (h:EditIn w e ao co af cf) (m:Bw w w'):EditIn w' e ao co af cf:=⟨h.old.below m,h.fresh.below m,h.ho1,h.ho2,h.hf1,h.hf2⟩
def editV (e:OEdit) (ao:Option Addr) (co:Nat) (af:Option Addr) (cf:Nat):Value:=.agg #[.int .i64 e.kind,.string e.pack,.string e.text,.slice ao e.old.length co,.slice af e.fresh.length cf]
theorem zBv (W:World) (t:TypeId) (xs ys:Array Value):CBox ((W.alloc (.cells xs t)).alloc (.cells ys t)) W.heap.size t xs∧CBox ((W.alloc (.cells xs t)).alloc (.cells ys t)) (W.heap.size+1) t ys∧Bw W ((W.alloc (.cells xs t)).alloc (.cells ys t)):=
 ⟨(CBox.new W t xs).alloc _,by have:=CBox.new (W.alloc (.cells xs t)) t ys;rwa [World.size_alloc] at this,zA (zAa _ _) (zAa _ _)⟩
theorem zDm (W:World) (t:TypeId) (xs ys:Array Value):CBox ((W.alloc (.cells xs t)).alloc (.cells ys t)).drew W.heap.size t xs∧CBox ((W.alloc (.cells xs t)).alloc (.cells ys t)).drew (W.heap.size+1) t ys∧Bw W ((W.alloc (.cells xs t)).alloc (.cells ys t)).drew:=
 ⟨(zBv W t xs ys).1,(zBv W t xs ys).2.1,(Mod.of (zBv W t xs ys).2.2).drew.below⟩
theorem yBi (e:OEdit) (ao:Option Addr) (co:Nat) (af:Option Addr) (cf:Nat) (w:World) (he:EditIn w e ao co af cf) (hs:SmE e) :
  Calls Tryz.prog 55 #[editV e ao co af cf] w fun r w'=>r=.returned (.bool (fitsB e))∧Bw w w':=by
 have HI:=lH he;have HS:=lH hs;clear he hs;have hA:=zAa w (.cells #[.int .i64 e.kind,.string e.pack,.string e.text,.slice ao e.old.length co,.slice af e.fresh.length cf] 39);have HB:=lH (CBox.new w 39 #[.int .i64 e.kind,.string e.pack,.string e.text,.slice ao e.old.length co,.slice af e.fresh.length cf]);have HT:Hid (fitsB e=if e.old.length=oldsN e.kind∧e.fresh.length=newsN e.kind then (if textBad e.kind e.text then false else if e.kind<7 then true else changeB e.kind (dAt e.old 0) (dAt e.fresh 0)) else false):=rfl;generalize fitsB e=T at *
 unfold editV;have q6:∀b,(e.kind==6)=b→True:=fun _ _=>trivial;clear q6
 by_cases hk5:e.kind=5
 ·have k5:(e.kind==5)=true:=by rw [hk5];rfl
  have k6:(e.kind==6)=false:=by rw [hk5];rfl
  have k7:decide (7≤e.kind)=false:=decide_eq_false (by omega);have hk6:¬e.kind=6:=by omega
  have hk7:¬7≤e.kind:=by omega
  have ho:oldsN e.kind=0:=by unfold oldsN;rw [if_neg (by omega)]
  have hn:newsN e.kind=1:=by unfold newsN;rw [if_pos (by omega)]
  rw [ho,hn] at HT;clear ho hn
  by_cases hlo:e.old.length=0
  rotate_left
  ·have b1:((e.old.length:Int) != 0)=true:=bne_iff_ne.2 (by omega)
   rw [if_neg (fun h=>hlo h.1)] at HT;clear hlo hk5 hk6 hk7
   go_enter Tryz.func55,Tryz.ntmps55
   go_wp2;go_ret;exact ⟨zAb HT.o.symm,hA⟩
  have b1:((e.old.length:Int) != 0)=false:=by rw [hlo];rfl
  by_cases hln:e.fresh.length=1
  rotate_left
  ·have b2:((e.fresh.length:Int) != 1)=true:=bne_iff_ne.2 (by omega)
   rw [if_neg (fun h=>hln h.2)] at HT;clear hln hlo hk5 hk6 hk7
   go_enter Tryz.func55,Tryz.ntmps55
   go_wp2;go_ret;exact ⟨zAb HT.o.symm,hA⟩
  have b2:((e.fresh.length:Int) != 1)=false:=by rw [hln];rfl
  rw [if_pos ⟨hlo,hln⟩] at HT;have HLO:=lH hlo;have HLN:=lH hln;clear hlo hln;have HTB:Hid (textBad e.kind e.text=(!(e.text.toList==[]) && (e.kind != 3 && e.kind != 4))):=rfl;generalize textBad e.kind e.text=tb at *
  cases ht:(e.text.toList==[]) with
  | false=>
   rw [ht] at HTB;have k3:(e.kind != 3)=true:=bne_iff_ne.2 (by omega);have k4:(e.kind != 4)=true:=bne_iff_ne.2 (by omega);rw [k3,k4] at HTB;rw [HTB.o,if_pos (by decide:(!false && (true && true))=true)] at HT;clear hk5 hk6 hk7
   go_enter Tryz.func55,Tryz.ntmps55
   go_wp2;go_ret;exact ⟨zAb HT.o.symm,hA⟩
  | true=>
   rw [ht] at HTB;rw [HTB.o,if_neg (by simp),if_pos (by omega)] at HT;have ql:decide (e.kind<7)=true:=decide_eq_true (by omega);clear hk5 hk6 hk7
   go_enter Tryz.func55,Tryz.ntmps55
   go_wp2;go_ret;exact ⟨zAb HT.o.symm,hA⟩
 by_cases hk6:e.kind=6
 ·have k5:(e.kind==5)=false:=by rw [hk6];rfl
  have k6:(e.kind==6)=true:=by rw [hk6];rfl
  have k7:decide (7≤e.kind)=false:=decide_eq_false (by omega);have hk7:¬7≤e.kind:=by omega
  have ho:oldsN e.kind=1:=by unfold oldsN;rw [if_pos (by omega)]
  have hn:newsN e.kind=0:=by unfold newsN;rw [if_neg (by omega)]
  rw [ho,hn] at HT;clear ho hn
  by_cases hlo:e.old.length=1
  rotate_left
  ·have b1:((e.old.length:Int) != 1)=true:=bne_iff_ne.2 (by omega)
   rw [if_neg (fun h=>hlo h.1)] at HT;clear hlo hk5 hk6 hk7
   go_enter Tryz.func55,Tryz.ntmps55
   go_wp2;go_ret;exact ⟨zAb HT.o.symm,hA⟩
  have b1:((e.old.length:Int) != 1)=false:=by rw [hlo];rfl
  by_cases hln:e.fresh.length=0
  rotate_left
  ·have b2:((e.fresh.length:Int) != 0)=true:=bne_iff_ne.2 (by omega)
   rw [if_neg (fun h=>hln h.2)] at HT;clear hln hlo hk5 hk6 hk7
   go_enter Tryz.func55,Tryz.ntmps55
   go_wp2;go_ret;exact ⟨zAb HT.o.symm,hA⟩
  have b2:((e.fresh.length:Int) != 0)=false:=by rw [hln];rfl
  rw [if_pos ⟨hlo,hln⟩] at HT;have HLO:=lH hlo;have HLN:=lH hln;clear hlo hln;have HTB:Hid (textBad e.kind e.text=(!(e.text.toList==[]) && (e.kind != 3 && e.kind != 4))):=rfl;generalize textBad e.kind e.text=tb at *
  cases ht:(e.text.toList==[]) with
  | false=>
   rw [ht] at HTB;have k3:(e.kind != 3)=true:=bne_iff_ne.2 (by omega);have k4:(e.kind != 4)=true:=bne_iff_ne.2 (by omega);rw [k3,k4] at HTB;rw [HTB.o,if_pos (by decide:(!false && (true && true))=true)] at HT;clear hk5 hk6 hk7
   go_enter Tryz.func55,Tryz.ntmps55
   go_wp2;go_ret;exact ⟨zAb HT.o.symm,hA⟩
  | true=>
   rw [ht] at HTB;rw [HTB.o,if_neg (by simp),if_pos (by omega)] at HT;have ql:decide (e.kind<7)=true:=decide_eq_true (by omega);clear hk5 hk6 hk7
   go_enter Tryz.func55,Tryz.ntmps55
   go_wp2;go_ret;exact ⟨zAb HT.o.symm,hA⟩
 have k5:(e.kind==5)=false:=beq_eq_false_iff_ne.2 hk5;have k6:(e.kind==6)=false:=beq_eq_false_iff_ne.2 hk6
 by_cases hk7:7≤e.kind
 ·have k7:decide (7≤e.kind)=true:=decide_eq_true hk7
  have ho:oldsN e.kind=1:=by unfold oldsN;rw [if_pos (by omega)]
  have hn:newsN e.kind=1:=by unfold newsN;rw [if_pos (by omega)]
  rw [ho,hn] at HT;clear ho hn
  by_cases hlo:e.old.length=1
  rotate_left
  ·have b1:((e.old.length:Int) != 1)=true:=bne_iff_ne.2 (by omega)
   rw [if_neg (fun h=>hlo h.1)] at HT;clear hlo hk5 hk6 hk7
   go_enter Tryz.func55,Tryz.ntmps55
   go_wp2;go_ret;exact ⟨zAb HT.o.symm,hA⟩
  have b1:((e.old.length:Int) != 1)=false:=by rw [hlo];rfl
  by_cases hln:e.fresh.length=1
  rotate_left
  ·have b2:((e.fresh.length:Int) != 1)=true:=bne_iff_ne.2 (by omega)
   rw [if_neg (fun h=>hln h.2)] at HT;clear hln hlo hk5 hk6 hk7
   go_enter Tryz.func55,Tryz.ntmps55
   go_wp2;go_ret;exact ⟨zAb HT.o.symm,hA⟩
  have b2:((e.fresh.length:Int) != 1)=false:=by rw [hln];rfl
  rw [if_pos ⟨hlo,hln⟩] at HT;have HLO:=lH hlo;have HLN:=lH hln;clear hlo hln;have HTB:Hid (textBad e.kind e.text=(!(e.text.toList==[]) && (e.kind != 3 && e.kind != 4))):=rfl;generalize textBad e.kind e.text=tb at *
  cases ht:(e.text.toList==[]) with
  | false=>
   rw [ht] at HTB;have k3:(e.kind != 3)=true:=bne_iff_ne.2 (by omega);have k4:(e.kind != 4)=true:=bne_iff_ne.2 (by omega);rw [k3,k4] at HTB;rw [HTB.o,if_pos (by decide:(!false && (true && true))=true)] at HT;clear hk5 hk6 hk7
   go_enter Tryz.func55,Tryz.ntmps55
   go_wp2;go_ret;exact ⟨zAb HT.o.symm,hA⟩
  | true=>
   rw [ht] at HTB;rw [HTB.o,if_neg (by simp),if_neg (by omega)] at HT;have ql:decide (e.kind<7)=false:=decide_eq_false (by omega);clear hk5 hk6 hk7;obtain ⟨o,hoi⟩:∃o,e.old[0]?=some o:=⟨_,List.getElem?_eq_getElem (by rw [HLO.o];omega)⟩;obtain ⟨f,hfi⟩:∃f,e.fresh[0]?=some f:=⟨_,List.getElem?_eq_getElem (by rw [HLN.o];omega)⟩;rw [zDi hoi,zDi hfi] at HT;have hso:=HS.o.old o (List.mem_of_getElem? hoi);have hsf:=HS.o.fresh f (List.mem_of_getElem? hfi)
   obtain ⟨bo,oo,an,cn,sa,cs,rfl,hbo,hco,hn1,hn2,hsn,hs1,hs2,hsr⟩:=zAv (HI.o.below hA).old hoi;obtain ⟨bf,of',bn,cm,sb,ct,rfl,hbf,hcf,hm1,hm2,hfn,ht1,ht2,hfr⟩:=zAv (HI.o.below hA).fresh hfi;simp only [Nat.zero_mul,Nat.add_zero] at hco hcf
   have HDO:=lH (DeclIn.mk hsn.out hsr.out hn1 hn2 hs1 hs2);have HDF:=lH (DeclIn.mk hfn.out hfr.out hm1 hm2 ht1 ht2);have hlo:0<e.old.length:=by rw [HLO.o];omega
   have hln:0<e.fresh.length:=by rw [HLN.o];omega
   have hdo:(0:Int)<(e.old.length:Int):=by omega
   have hdn:(0:Int)<(e.fresh.length:Int):=by omega
   have c0:=HB.o.cell (i:=0) (v:=.int .i64 e.kind) rfl;have c3:=HB.o.cell (i:=3) (v:=.slice (some ⟨bo,oo,none⟩) e.old.length co) rfl;have c4:=HB.o.cell (i:=4) (v:=.slice (some ⟨bf,of',none⟩) e.fresh.length cf) rfl;have lb:=HB.o.lt;have x0:=hco 0 _ rfl;have y0:=hcf 0 _ rfl;have x1:=hco 1 _ rfl;have y1:=hcf 1 _ rfl;have x2:=hco 2 _ rfl;have y2:=hcf 2 _ rfl;have x3:=hco 3 _ rfl;have y3:=hcf 3 _ rfl;have x4:=hco 4 _ rfl;have y4:=hcf 4 _ rfl;have x5:=hco 5 _ rfl;have y5:=hcf 5 _ rfl;have x6:=hco 6 _ rfl
   have y6:=hcf 6 _ rfl;have x7:=hco 7 _ rfl;have y7:=hcf 7 _ rfl;have x8:=hco 8 _ rfl;have y8:=hcf 8 _ rfl;have x9:=hco 9 _ rfl;have y9:=hcf 9 _ rfl;have x10:=hco 10 _ rfl;have y10:=hcf 10 _ rfl;rw [Nat.add_zero] at x0 y0;clear hsn hsr hfn hfr hco hcf;unfold declL at *
   go_enter Tryz.func55,Tryz.ntmps55
   go_upto_region 12 with (fail)
   generalize hW0:w.alloc (.cells #[.int .i64 e.kind,.string e.pack,.string e.text,.slice (some ⟨bo,oo,none⟩) e.old.length co,.slice (some ⟨bf,of',none⟩) e.fresh.length cf] 39)=W0 at *;clear hW0
   go_cut [5,6] from 51 to 58 (fun p q wx=>∃B5 B6,p=.pointer (some ⟨B5,0,none⟩)∧q=.pointer (some ⟨B6,0,none⟩)∧CBox wx B5 62 (dA o an cn sa cs)∧CBox wx B6 62 (dA f bn cm sb ct)∧Bw W0 wx)
   case first=>
    clear HT HS HDO HDF HLO HLN
    go_region
    all_goals
     go_wp2;go_meet
     case rel=>
      first
       | exact ⟨_,_,rfl,rfl,(zBv W0 62 (dA o an cn sa cs) (dA f bn cm sb ct)).1,(zBv W0 62 (dA o an cn sa cs) (dA f bn cm sb ct)).2.1,(zBv W0 62 (dA o an cn sa cs) (dA f bn cm sb ct)).2.2⟩
       | exact ⟨_,_,rfl,rfl,(zBv W0 62 (dA f bn cm sb ct) (dA o an cn sa cs)).2.1,(zBv W0 62 (dA f bn cm sb ct) (dA o an cn sa cs)).1,(zBv W0 62 (dA f bn cm sb ct) (dA o an cn sa cs)).2.2⟩
       | exact ⟨_,_,rfl,rfl,(zDm W0 62 (dA o an cn sa cs) (dA f bn cm sb ct)).1,(zDm W0 62 (dA o an cn sa cs) (dA f bn cm sb ct)).2.1,(zDm W0 62 (dA o an cn sa cs) (dA f bn cm sb ct)).2.2⟩
       | exact ⟨_,_,rfl,rfl,(zDm W0 62 (dA f bn cm sb ct) (dA o an cn sa cs)).2.1,(zDm W0 62 (dA f bn cm sb ct) (dA o an cn sa cs)).1,(zDm W0 62 (dA f bn cm sb ct) (dA o an cn sa cs)).2.2⟩
   case rest=>
   obtain ⟨B5,B6,rfl,rfl,hb5,hb6,hbc⟩:=hcut;have HHT:Hid (changeB e.kind o f=(sameD o (partD e.kind o) && (sameD f (partD e.kind f) && (o.id==f.id && !sameD o f)))):=rfl;have HM1:=lH (fun w' (h':Bw W0 w')=>zEr e.kind o an cn sa cs w' (HDO.o.below h'));have HM2:=lH (fun w' (h':Bw W0 w')=>zEr e.kind f bn cm sb ct w' (HDF.o.below h'));have HE1:=lH (fun an' cn' sa' cs' w' (h':Bw W0 w') h2=>zCs o (partD e.kind o) an cn sa cs an' cn' sa' cs' w' (HDO.o.below h') h2 hso.1.len hso.2)
   have HE2:=lH (fun an' cn' sa' cs' w' (h':Bw W0 w') h2=>zCs f (partD e.kind f) bn cm sb ct an' cn' sa' cs' w' (HDF.o.below h') h2 hsf.1.len hsf.2);have HE3:=lH (fun w' (h':Bw W0 w')=>zCs o f an cn sa cs bn cm sb ct w' (HDO.o.below h') (HDF.o.below h') hso.1.len hso.2);have HBK:=lH (HB.o.below hbc)
   have SW:Hid (∀W:World,Bw wc W→(W.cell? ⟨w.heap.size,0,none⟩=some (.int .i64 e.kind)∧w.heap.size<W.heap.size∧B5<W.heap.size∧B6<W.heap.size∧W.cell? ⟨B5,0,none⟩=some (.int .i64 o.id)∧W.cell? ⟨B5,1,none⟩=some (.int .i64 o.kind)∧W.cell? ⟨B5,2,none⟩=some (.bool o.pub)∧W.cell? ⟨B5,3,none⟩=some (.slice an o.names.length cn)∧W.cell? ⟨B5,4,none⟩=some (.bool o.doubt)∧W.cell? ⟨B5,5,none⟩=some (.int .i64 o.body.kind)∧W.cell? ⟨B5,6,none⟩=some (.string o.body.name)∧W.cell? ⟨B5,7,none⟩=some (.string o.body.more)∧W.cell? ⟨B5,8,none⟩=some (.int .i64 o.body.num)∧W.cell? ⟨B5,9,none⟩=some (.int .i64 o.body.den)∧W.cell? ⟨B5,10,none⟩=some (.slice sa o.body.subs.length cs)∧W.cell? ⟨B6,0,none⟩=some (.int .i64 f.id)∧W.cell? ⟨B6,1,none⟩=some (.int .i64 f.kind)∧W.cell? ⟨B6,2,none⟩=some (.bool f.pub)∧W.cell? ⟨B6,3,none⟩=some (.slice bn f.names.length cm)∧W.cell? ⟨B6,4,none⟩=some (.bool f.doubt)∧W.cell? ⟨B6,5,none⟩=some (.int .i64 f.body.kind)∧W.cell? ⟨B6,6,none⟩=some (.string f.body.name)∧W.cell? ⟨B6,7,none⟩=some (.string f.body.more)∧W.cell? ⟨B6,8,none⟩=some (.int .i64 f.body.num)∧W.cell? ⟨B6,9,none⟩=some (.int .i64 f.body.den)∧W.cell? ⟨B6,10,none⟩=some (.slice sb f.body.subs.length ct))):=lH (fun W hW=>by
    have q:=HBK.o.below hW;have q5:=hb5.below hW;have q6:=hb6.below hW
    exact ⟨q.cell (i:=0) rfl,q.lt,q5.lt,q6.lt,q5.cell (i:=0) rfl,q5.cell (i:=1) rfl,q5.cell (i:=2) rfl,q5.cell (i:=3) rfl,q5.cell (i:=4) rfl,q5.cell (i:=5) rfl,q5.cell (i:=6) rfl,q5.cell (i:=7) rfl,q5.cell (i:=8) rfl,q5.cell (i:=9) rfl,q5.cell (i:=10) rfl,q6.cell (i:=0) rfl,q6.cell (i:=1) rfl,q6.cell (i:=2) rfl,q6.cell (i:=3) rfl,q6.cell (i:=4) rfl,q6.cell (i:=5) rfl,q6.cell (i:=6) rfl,q6.cell (i:=7) rfl,q6.cell (i:=8) rfl,q6.cell (i:=9) rfl,q6.cell (i:=10) rfl⟩)
   have HWC:=lH hbc;generalize changeB e.kind o f=r0 at *;generalize sameD o (partD e.kind o)=r1 at *;generalize sameD f (partD e.kind f)=r2 at *;generalize sameD o f=r4 at *;unfold declV at *;clear c0 c3 c4 lb x0 x1 x2 x3 x4 x5 x6 x7 x8 x9 x10 y0 y1 y2 y3 y4 y5 y6 y7 y8 y9 y10 hb5 hb6 hso hsf hdo hdn hlo hln hbo hbf;go_upto_region 13 with (fail)
   go_cut [2] from 59 to 85 (fun v wx=>v=.bool r0∧Bw wc wx)
   case first=>
    obtain ⟨r3,e3⟩:∃r3,(o.id==f.id)=r3:=⟨_,rfl⟩;rw [e3] at HHT
    cases r1 with
    | false=>
     refine wp_region_noPanic (zCp (fun W:World=>W.cell? ⟨w.heap.size,0,none⟩=some (.int .i64 e.kind)∧w.heap.size<W.heap.size∧B5<W.heap.size∧B6<W.heap.size∧W.cell? ⟨B5,0,none⟩=some (.int .i64 o.id)∧W.cell? ⟨B5,1,none⟩=some (.int .i64 o.kind)∧W.cell? ⟨B5,2,none⟩=some (.bool o.pub)∧W.cell? ⟨B5,3,none⟩=some (.slice an o.names.length cn)∧W.cell? ⟨B5,4,none⟩=some (.bool o.doubt)∧W.cell? ⟨B5,5,none⟩=some (.int .i64 o.body.kind)∧W.cell? ⟨B5,6,none⟩=some (.string o.body.name)∧W.cell? ⟨B5,7,none⟩=some (.string o.body.more)∧W.cell? ⟨B5,8,none⟩=some (.int .i64 o.body.num)∧W.cell? ⟨B5,9,none⟩=some (.int .i64 o.body.den)∧W.cell? ⟨B5,10,none⟩=some (.slice sa o.body.subs.length cs)∧W.cell? ⟨B6,0,none⟩=some (.int .i64 f.id)∧W.cell? ⟨B6,1,none⟩=some (.int .i64 f.kind)∧W.cell? ⟨B6,2,none⟩=some (.bool f.pub)∧W.cell? ⟨B6,3,none⟩=some (.slice bn f.names.length cm)∧W.cell? ⟨B6,4,none⟩=some (.bool f.doubt)∧W.cell? ⟨B6,5,none⟩=some (.int .i64 f.body.kind)∧W.cell? ⟨B6,6,none⟩=some (.string f.body.name)∧W.cell? ⟨B6,7,none⟩=some (.string f.body.more)∧W.cell? ⟨B6,8,none⟩=some (.int .i64 f.body.num)∧W.cell? ⟨B6,9,none⟩=some (.int .i64 f.body.den)∧W.cell? ⟨B6,10,none⟩=some (.slice sb f.body.subs.length ct)) [true,true,true,true,false,false,true,true,true,true,true,false,false,true,true,true,true,true,true,true,true,true,true,true,false,true,true,true] zBm (by kernel_rfl) (fun _ _ _ _ _ h=>h) (SW.o _ (Mod.refl [] wc).drew.below) (fun hHeld=>?_))
     iterate 4 (first|(refine zAo (by rfl) ?_;(try simp only [Act.put,List.setIfInBounds_toArray,List.set_cons_zero,List.set_cons_succ]))|(refine zAw (v:=?_) (by rfl) ?_ ?_;rotate_left;(focus (intro wq hSw;(try dsimp only at hSw);go_simp;(try with_reducible rfl)));(try simp only [Act.put,List.setIfInBounds_toArray,List.set_cons_zero,List.set_cons_succ])))
     have hdr:Bw wc wc.drew:=(Mod.refl [] wc).drew.below;have hcc:=HWC.o.trans (hdr.mono HWC.o.size);clear hHeld;generalize wc.drew=wd at *
     (refine zDb (by rfl) (fun K hK=>?_);go_simp)
     refine (HM1.o _ hcc).mono ?_;rintro r w3 ⟨an',cn',sa',cs',rfl,hdi3,hb3⟩
     (try go_simp)
     have hd3:=zA hdr hb3;have hc3:=HWC.o.trans (hd3.mono HWC.o.size);refine hK.out _ _ (SW.o _ hd3) (fun _=>?_);clear hK K;(try simp only [Act.put,List.setIfInBounds_toArray,List.set_cons_zero,List.set_cons_succ])
     (refine zDb (by rfl) (fun K hK=>?_);go_simp)
     refine (HE1.o _ _ _ _ _ hc3 hdi3).mono ?_;rintro r w4 ⟨rfl,hb4⟩
     (try go_simp)
     have hd4:=zA hd3 hb4;have hc4:=HWC.o.trans (hd4.mono HWC.o.size);refine hK.out _ _ (SW.o _ hd4) (fun _=>?_);clear hK K;(try simp only [Act.put,List.setIfInBounds_toArray,List.set_cons_zero,List.set_cons_succ])
     iterate 5 (first|(refine zAo (by rfl) ?_;(try simp only [Act.put,List.setIfInBounds_toArray,List.set_cons_zero,List.set_cons_succ]))|(refine zAw (v:=?_) (by rfl) ?_ ?_;rotate_left;(focus (intro wq hSw;(try dsimp only at hSw);go_simp;(try with_reducible rfl)));(try simp only [Act.put,List.setIfInBounds_toArray,List.set_cons_zero,List.set_cons_succ])))
     (refine zAo (by rfl) ?_;(try simp only [Act.put,List.setIfInBounds_toArray,List.set_cons_zero,List.set_cons_succ]))
     (refine zAo (by rfl) ?_;(try simp only [Act.put,List.setIfInBounds_toArray,List.set_cons_zero,List.set_cons_succ]))
     iterate 11 (first|(refine zAo (by rfl) ?_;(try simp only [Act.put,List.setIfInBounds_toArray,List.set_cons_zero,List.set_cons_succ]))|(refine zAw (v:=?_) (by rfl) ?_ ?_;rotate_left;(focus (intro wq hSw;(try dsimp only at hSw);go_simp;(try with_reducible rfl)));(try simp only [Act.put,List.setIfInBounds_toArray,List.set_cons_zero,List.set_cons_succ])))
     (refine zAo (by rfl) ?_;(try simp only [Act.put,List.setIfInBounds_toArray,List.set_cons_zero,List.set_cons_succ]))
     iterate 3 (first|(refine zAo (by rfl) ?_;(try simp only [Act.put,List.setIfInBounds_toArray,List.set_cons_zero,List.set_cons_succ]))|(refine zAw (v:=?_) (by rfl) ?_ ?_;rotate_left;(focus (intro wq hSw;(try dsimp only at hSw);go_simp;(try with_reducible rfl)));(try simp only [Act.put,List.setIfInBounds_toArray,List.set_cons_zero,List.set_cons_succ])))
     refine zDg ?_;refine NoPanic.normal ?_;go_wp2;go_meet
     case rel=>exact ⟨by rw [HHT.o];rfl,hd4⟩
    | true=>
     refine wp_region_noPanic (zCp (fun W:World=>W.cell? ⟨w.heap.size,0,none⟩=some (.int .i64 e.kind)∧w.heap.size<W.heap.size∧B5<W.heap.size∧B6<W.heap.size∧W.cell? ⟨B5,0,none⟩=some (.int .i64 o.id)∧W.cell? ⟨B5,1,none⟩=some (.int .i64 o.kind)∧W.cell? ⟨B5,2,none⟩=some (.bool o.pub)∧W.cell? ⟨B5,3,none⟩=some (.slice an o.names.length cn)∧W.cell? ⟨B5,4,none⟩=some (.bool o.doubt)∧W.cell? ⟨B5,5,none⟩=some (.int .i64 o.body.kind)∧W.cell? ⟨B5,6,none⟩=some (.string o.body.name)∧W.cell? ⟨B5,7,none⟩=some (.string o.body.more)∧W.cell? ⟨B5,8,none⟩=some (.int .i64 o.body.num)∧W.cell? ⟨B5,9,none⟩=some (.int .i64 o.body.den)∧W.cell? ⟨B5,10,none⟩=some (.slice sa o.body.subs.length cs)∧W.cell? ⟨B6,0,none⟩=some (.int .i64 f.id)∧W.cell? ⟨B6,1,none⟩=some (.int .i64 f.kind)∧W.cell? ⟨B6,2,none⟩=some (.bool f.pub)∧W.cell? ⟨B6,3,none⟩=some (.slice bn f.names.length cm)∧W.cell? ⟨B6,4,none⟩=some (.bool f.doubt)∧W.cell? ⟨B6,5,none⟩=some (.int .i64 f.body.kind)∧W.cell? ⟨B6,6,none⟩=some (.string f.body.name)∧W.cell? ⟨B6,7,none⟩=some (.string f.body.more)∧W.cell? ⟨B6,8,none⟩=some (.int .i64 f.body.num)∧W.cell? ⟨B6,9,none⟩=some (.int .i64 f.body.den)∧W.cell? ⟨B6,10,none⟩=some (.slice sb f.body.subs.length ct)) [true,true,true,true,false,false,true,true,true,true,true,false,false,true,true,true,true,true,true,true,true,true,true,true,false,true,true,true] zBm (by kernel_rfl) (fun _ _ _ _ _ h=>h) (SW.o _ (Mod.refl [] wc).drew.below) (fun hHeld=>?_))
     iterate 4 (first|(refine zAo (by rfl) ?_;(try simp only [Act.put,List.setIfInBounds_toArray,List.set_cons_zero,List.set_cons_succ]))|(refine zAw (v:=?_) (by rfl) ?_ ?_;rotate_left;(focus (intro wq hSw;(try dsimp only at hSw);go_simp;(try with_reducible rfl)));(try simp only [Act.put,List.setIfInBounds_toArray,List.set_cons_zero,List.set_cons_succ])))
     have hdr:Bw wc wc.drew:=(Mod.refl [] wc).drew.below;have hcc:=HWC.o.trans (hdr.mono HWC.o.size);clear hHeld;generalize wc.drew=wd at *
     (refine zDb (by rfl) (fun K hK=>?_);go_simp)
     refine (HM1.o _ hcc).mono ?_;rintro r w3 ⟨an',cn',sa',cs',rfl,hdi3,hb3⟩
     (try go_simp)
     have hd3:=zA hdr hb3;have hc3:=HWC.o.trans (hd3.mono HWC.o.size);refine hK.out _ _ (SW.o _ hd3) (fun _=>?_);clear hK K;(try simp only [Act.put,List.setIfInBounds_toArray,List.set_cons_zero,List.set_cons_succ])
     (refine zDb (by rfl) (fun K hK=>?_);go_simp)
     refine (HE1.o _ _ _ _ _ hc3 hdi3).mono ?_;rintro r w4 ⟨rfl,hb4⟩
     (try go_simp)
     have hd4:=zA hd3 hb4;have hc4:=HWC.o.trans (hd4.mono HWC.o.size);refine hK.out _ _ (SW.o _ hd4) (fun _=>?_);clear hK K;(try simp only [Act.put,List.setIfInBounds_toArray,List.set_cons_zero,List.set_cons_succ])
     iterate 5 (first|(refine zAo (by rfl) ?_;(try simp only [Act.put,List.setIfInBounds_toArray,List.set_cons_zero,List.set_cons_succ]))|(refine zAw (v:=?_) (by rfl) ?_ ?_;rotate_left;(focus (intro wq hSw;(try dsimp only at hSw);go_simp;(try with_reducible rfl)));(try simp only [Act.put,List.setIfInBounds_toArray,List.set_cons_zero,List.set_cons_succ])))
     (refine zDb (by rfl) (fun K hK=>?_);go_simp)
     refine (HM2.o _ hc4).mono ?_;rintro r w5 ⟨an2,cn2,sa2,cs2,rfl,hdi5,hb5⟩
     (try go_simp)
     have hd5:=zA hd4 hb5;have hc5:=HWC.o.trans (hd5.mono HWC.o.size);refine hK.out _ _ (SW.o _ hd5) (fun _=>?_);clear hK K;(try simp only [Act.put,List.setIfInBounds_toArray,List.set_cons_zero,List.set_cons_succ])
     cases r2 with
     | false=>
      (refine zDb (by rfl) (fun K hK=>?_);go_simp)
      refine (HE2.o _ _ _ _ _ hc5 hdi5).mono ?_;rintro r w6 ⟨rfl,hb6⟩
      (try go_simp)
      have hd6:=zA hd5 hb6;have hc6:=HWC.o.trans (hd6.mono HWC.o.size);refine hK.out _ _ (SW.o _ hd6) (fun _=>?_);clear hK K;(try simp only [Act.put,List.setIfInBounds_toArray,List.set_cons_zero,List.set_cons_succ])
      iterate 11 (first|(refine zAo (by rfl) ?_;(try simp only [Act.put,List.setIfInBounds_toArray,List.set_cons_zero,List.set_cons_succ]))|(refine zAw (v:=?_) (by rfl) ?_ ?_;rotate_left;(focus (intro wq hSw;(try dsimp only at hSw);go_simp;(try with_reducible rfl)));(try simp only [Act.put,List.setIfInBounds_toArray,List.set_cons_zero,List.set_cons_succ])))
      (refine zAo (by rfl) ?_;(try simp only [Act.put,List.setIfInBounds_toArray,List.set_cons_zero,List.set_cons_succ]))
      iterate 3 (first|(refine zAo (by rfl) ?_;(try simp only [Act.put,List.setIfInBounds_toArray,List.set_cons_zero,List.set_cons_succ]))|(refine zAw (v:=?_) (by rfl) ?_ ?_;rotate_left;(focus (intro wq hSw;(try dsimp only at hSw);go_simp;(try with_reducible rfl)));(try simp only [Act.put,List.setIfInBounds_toArray,List.set_cons_zero,List.set_cons_succ])))
      refine zDg ?_;refine NoPanic.normal ?_;go_wp2;go_meet
      case rel=>exact ⟨by rw [HHT.o];rfl,hd6⟩
     | true=>
      (refine zDb (by rfl) (fun K hK=>?_);go_simp)
      refine (HE2.o _ _ _ _ _ hc5 hdi5).mono ?_;rintro r w6 ⟨rfl,hb6⟩
      (try go_simp)
      have hd6:=zA hd5 hb6;have hc6:=HWC.o.trans (hd6.mono HWC.o.size);refine hK.out _ _ (SW.o _ hd6) (fun _=>?_);clear hK K;(try simp only [Act.put,List.setIfInBounds_toArray,List.set_cons_zero,List.set_cons_succ])
      cases r3 with
      | false=>
       iterate 11 (first|(refine zAo (by rfl) ?_;(try simp only [Act.put,List.setIfInBounds_toArray,List.set_cons_zero,List.set_cons_succ]))|(refine zAw (v:=?_) (by rfl) ?_ ?_;rotate_left;(focus (intro wq hSw;(try dsimp only at hSw);go_simp;(try with_reducible rfl)));(try simp only [Act.put,List.setIfInBounds_toArray,List.set_cons_zero,List.set_cons_succ])))
       (refine zAo (by rfl) ?_;(try simp only [Act.put,List.setIfInBounds_toArray,List.set_cons_zero,List.set_cons_succ]))
       iterate 3 (first|(refine zAo (by rfl) ?_;(try simp only [Act.put,List.setIfInBounds_toArray,List.set_cons_zero,List.set_cons_succ]))|(refine zAw (v:=?_) (by rfl) ?_ ?_;rotate_left;(focus (intro wq hSw;(try dsimp only at hSw);go_simp;(try with_reducible rfl)));(try simp only [Act.put,List.setIfInBounds_toArray,List.set_cons_zero,List.set_cons_succ])))
       refine zDg ?_;refine NoPanic.normal ?_;go_wp2;go_meet
       case rel=>exact ⟨by rw [HHT.o];rfl,hd6⟩
      | true=>
       iterate 11 (first|(refine zAo (by rfl) ?_;(try simp only [Act.put,List.setIfInBounds_toArray,List.set_cons_zero,List.set_cons_succ]))|(refine zAw (v:=?_) (by rfl) ?_ ?_;rotate_left;(focus (intro wq hSw;(try dsimp only at hSw);go_simp;(try with_reducible rfl)));(try simp only [Act.put,List.setIfInBounds_toArray,List.set_cons_zero,List.set_cons_succ])))
       (refine zDb (by rfl) (fun K hK=>?_);go_simp)
       refine (HE3.o _ hc6).mono ?_;rintro r w7 ⟨rfl,hb7⟩
       (try go_simp)
       have hd7:=zA hd6 hb7;have hc7:=HWC.o.trans (hd7.mono HWC.o.size);refine hK.out _ _ (SW.o _ hd7) (fun _=>?_);clear hK K;(try simp only [Act.put,List.setIfInBounds_toArray,List.set_cons_zero,List.set_cons_succ])
       iterate 3 (first|(refine zAo (by rfl) ?_;(try simp only [Act.put,List.setIfInBounds_toArray,List.set_cons_zero,List.set_cons_succ]))|(refine zAw (v:=?_) (by rfl) ?_ ?_;rotate_left;(focus (intro wq hSw;(try dsimp only at hSw);go_simp;(try with_reducible rfl)));(try simp only [Act.put,List.setIfInBounds_toArray,List.set_cons_zero,List.set_cons_succ])))
       refine zDg ?_;refine NoPanic.normal ?_;go_wp2;go_meet
       case rel=>exact ⟨by rw [HHT.o];cases r4<;>rfl,hd7⟩
   case rest=>
   obtain ⟨rfl,hb4⟩:=hcut;go_wp2;go_ret;exact ⟨zAb HT.o.symm,(hA.trans (hbc.mono hA.size)).trans (hb4.mono (hA.trans (hbc.mono hA.size)).size)⟩
 ·have k7:decide (7≤e.kind)=false:=decide_eq_false hk7
  have ho:oldsN e.kind=0:=by unfold oldsN;rw [if_neg (by omega)]
  have hn:newsN e.kind=0:=by unfold newsN;rw [if_neg (by omega)]
  rw [ho,hn] at HT;clear ho hn
  by_cases hlo:e.old.length=0
  rotate_left
  ·have b1:((e.old.length:Int) != 0)=true:=bne_iff_ne.2 (by omega)
   rw [if_neg (fun h=>hlo h.1)] at HT;clear hlo hk5 hk6 hk7
   go_enter Tryz.func55,Tryz.ntmps55
   go_wp2;go_ret;exact ⟨zAb HT.o.symm,hA⟩
  have b1:((e.old.length:Int) != 0)=false:=by rw [hlo];rfl
  by_cases hln:e.fresh.length=0
  rotate_left
  ·have b2:((e.fresh.length:Int) != 0)=true:=bne_iff_ne.2 (by omega)
   rw [if_neg (fun h=>hln h.2)] at HT;clear hln hlo hk5 hk6 hk7
   go_enter Tryz.func55,Tryz.ntmps55
   go_wp2;go_ret;exact ⟨zAb HT.o.symm,hA⟩
  have b2:((e.fresh.length:Int) != 0)=false:=by rw [hln];rfl
  rw [if_pos ⟨hlo,hln⟩] at HT;have HLO:=lH hlo;have HLN:=lH hln;clear hlo hln;have HTB:Hid (textBad e.kind e.text=(!(e.text.toList==[]) && (e.kind != 3 && e.kind != 4))):=rfl;generalize textBad e.kind e.text=tb at *
  cases ht:(e.text.toList==[]) with
  | false=>
   rw [ht] at HTB
   by_cases e3:e.kind=3
   ·have k3:(e.kind != 3)=false:=by rw [e3];rfl
    rw [k3] at HTB;rw [HTB.o,if_neg (by simp),if_pos (by omega)] at HT;have ql:decide (e.kind<7)=true:=decide_eq_true (by omega);clear e3 hk5 hk6 hk7
    go_enter Tryz.func55,Tryz.ntmps55
    go_wp2;go_ret;exact ⟨zAb HT.o.symm,hA⟩
   have k3:(e.kind != 3)=true:=bne_iff_ne.2 e3
   by_cases e4:e.kind=4
   ·have k4:(e.kind != 4)=false:=by rw [e4];rfl
    rw [k3,k4] at HTB;rw [HTB.o,if_neg (by simp),if_pos (by omega)] at HT;have ql:decide (e.kind<7)=true:=decide_eq_true (by omega);clear e3 e4 hk5 hk6 hk7
    go_enter Tryz.func55,Tryz.ntmps55
    go_wp2;go_ret;exact ⟨zAb HT.o.symm,hA⟩
   have k4:(e.kind != 4)=true:=bne_iff_ne.2 e4;rw [k3,k4] at HTB;clear e3 e4;rw [HTB.o,if_pos (by decide:(!false && (true && true))=true)] at HT;clear hk5 hk6 hk7
   go_enter Tryz.func55,Tryz.ntmps55
   go_wp2;go_ret;exact ⟨zAb HT.o.symm,hA⟩
  | true=>
   rw [ht] at HTB;rw [HTB.o,if_neg (by simp),if_pos (by omega)] at HT;have ql:decide (e.kind<7)=true:=decide_eq_true (by omega);clear hk5 hk6 hk7
   go_enter Tryz.func55,Tryz.ntmps55
   go_wp2;go_ret;exact ⟨zAb HT.o.symm,hA⟩
end Go.Proofs.YtfkjfdbjhlmjcaaGreatDoor
