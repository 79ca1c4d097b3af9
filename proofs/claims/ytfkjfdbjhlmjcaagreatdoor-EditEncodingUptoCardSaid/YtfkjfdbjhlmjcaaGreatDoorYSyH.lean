/- The reference's check and CheckExpr of chapter 21. -/
import Derived.Test.YtfkjfdbjhlmjcaaGreatDoorYT1
set_option maxRecDepth 100000
set_option maxHeartbeats 16000000
namespace Go.Proofs.YtfkjfdbjhlmjcaaGreatDoor
open Go.RowKit
end Go.Proofs.YtfkjfdbjhlmjcaaGreatDoor
namespace Go.Proofs.YtfkjfdbjhlmjcaaGreatDoor
open Go.RowKit Go.Shelf
attribute [local go_sem] Oper.semAt_some
def badNm (n:Nat) (s:ByteArray):Bool:=!nmS s && (n==1 || !isE s)
def nmAt (l:List ByteArray) (i:Nat):Int:=if badNm l.length (sAt l i) then 6 else 0
def namesErr (l:List ByteArray):Int:=if l.length≠1∧l.length≠3 then 1 else nzFrom (nmAt l) l.length 0
theorem zTe (l:List ByteArray) (a:Option Addr) (c:Nat) (w:World) (hr:Strs w (.slice a l.length c) l) (hs:∀s∈l,s.size≤40000) (hl:l.length≤1000000) :
  Calls Tryz.prog 154 #[.slice a l.length c] w fun e w'=>e=.returned (.int .i64 (namesErr l))∧Bw w w':=by
 have HS:=lH (zIb hs);have HR:=lH hr;clear hr hs
 by_cases h13:l.length≠1∧l.length≠3
 ·have HE:Hid (namesErr l=1):=if_pos h13
  have h1:((l.length:Int) != 1)=true:=by simp;omega
  have h3:((l.length:Int) != 3)=true:=by simp;omega
  clear h13
  go_enter Tryz.func154,Tryz.ntmps154
  go_wp2;go_ret;exact ⟨zAd HE.o.symm,zAw _⟩
 ·have HE:Hid (namesErr l=nzFrom (nmAt l) l.length 0):=if_neg h13
  by_cases hq:l.length=1
  ·have h1:((l.length:Int) != 1)=false:=by simp;omega
   have h3:((l.length:Int)==1)=true:=by simp;omega
   have hB:Hid (∀s,badNm l.length s=!nmS s):=fun s=>by rw [badNm,hq];cases nmS s<;>rfl
   clear h13 hq
   go_enter Tryz.func154,Tryz.ntmps154
   go_wp2
   go_loopw [15] (fun iv wr=>∃k:Nat,k≤l.length∧iv=.int .i64 k∧Hid (namesErr l=nzFrom (nmAt l) l.length k)∧Bw w wr) (fun iv _=>l.length - (intOf iv).toNat)
   case atStart=>exact ⟨0,Nat.zero_le _,rfl,HE,zAw _⟩
   case round=>
    obtain ⟨k,hk,rfl,HK,hb⟩:=hrel
    by_cases hkl:k<l.length
    ·have hd:decide ((k:Int)<(l.length:Int))=true:=decide_eq_true (by omega)
     obtain ⟨_,_,e,_,_,hcell⟩:=(HR.o.below hb).shape;obtain ⟨b,o,e',hbl,hc⟩:=hcell k hkl
     cases e
     subst e';have ck:wr.cell? ⟨b,o+k,none⟩=some (.string (sAt l k)):=hc k hkl;have HL:=lH (zGu (sAt l k) wr (HS.o k));have HN:=lH (zBz (nmAt l) hkl);have HU:Hid (nmAt l k=if badNm l.length (sAt l k) then 6 else 0):=rfl;have HBk:=lH (hB.out (sAt l k));have hEk:=zRq (sAt l k)
     cases hnm:nmS (sAt l k) with
     | true=>
      rw [hnm] at HL HBk;have HF:Hid (namesErr l=nzFrom (nmAt l) l.length (k+1)):=by show _=_;rw [HK.o,HN.o,HU.o,HBk.o];rfl
      clear HK HN HU hc hcell hEk;generalize sAt l k=s at *;go_wp2_with (fail)
      refine HL.o.mono ?_;rintro e w1 ⟨rfl,hb1⟩;go_wp2;go_roundw
      case rel=>exact ⟨k+1,by omega,by go_num,HF,hb.trans (hb1.mono hb.size)⟩
      case measure=>simp [intOf];omega
     | false=>
      rw [hnm] at HL HBk;have HF:Hid (namesErr l=6):=by show _=_;rw [HK.o,HN.o,HU.o,HBk.o];rfl
      clear HK HN HU hc hcell hEk;generalize sAt l k=s at *;go_wp2_with (fail)
      refine HL.o.mono ?_;rintro e w1 ⟨rfl,hb1⟩;go_wp2;go_ret;exact ⟨zAd HF.o.symm,hb.trans (hb1.mono hb.size)⟩
    ·have hd:decide ((k:Int)<(l.length:Int))=false:=decide_eq_false (by omega)
     have HF:Hid (namesErr l=0):=by show _=_;rw [HK.o,zBu _ (by omega)]
     go_wp2;go_ret;exact ⟨zAd HF.o.symm,hb⟩
  ·have h1:((l.length:Int) != 1)=true:=by simp;omega
   have h2:((l.length:Int) != 3)=false:=by simp;omega
   have h3:((l.length:Int)==1)=false:=by simp;omega
   have hB:Hid (∀s,badNm l.length s=(!nmS s && !isE s)):=fun s=>by rw [badNm,show (l.length==1)=false from beq_eq_false_iff_ne.2 hq,Bool.false_or]
   clear h13 hq
   go_enter Tryz.func154,Tryz.ntmps154
   go_wp2
   go_loopw [15] (fun iv wr=>∃k:Nat,k≤l.length∧iv=.int .i64 k∧Hid (namesErr l=nzFrom (nmAt l) l.length k)∧Bw w wr) (fun iv _=>l.length - (intOf iv).toNat)
   case atStart=>exact ⟨0,Nat.zero_le _,rfl,HE,zAw _⟩
   case round=>
    obtain ⟨k,hk,rfl,HK,hb⟩:=hrel
    by_cases hkl:k<l.length
    ·have hd:decide ((k:Int)<(l.length:Int))=true:=decide_eq_true (by omega)
     obtain ⟨_,_,e,_,_,hcell⟩:=(HR.o.below hb).shape;obtain ⟨b,o,e',hbl,hc⟩:=hcell k hkl
     cases e
     subst e';have ck:wr.cell? ⟨b,o+k,none⟩=some (.string (sAt l k)):=hc k hkl;have HL:=lH (zGu (sAt l k) wr (HS.o k));have HN:=lH (zBz (nmAt l) hkl);have HU:Hid (nmAt l k=if badNm l.length (sAt l k) then 6 else 0):=rfl;have HBk:=lH (hB.out (sAt l k));have hEk:=zRq (sAt l k)
     cases hnm:nmS (sAt l k) with
     | true=>
      rw [hnm] at HL HBk;have HF:Hid (namesErr l=nzFrom (nmAt l) l.length (k+1)):=by show _=_;rw [HK.o,HN.o,HU.o,HBk.o];rfl
      clear HK HN HU hc hcell hEk;generalize sAt l k=s at *;go_wp2_with (fail)
      refine HL.o.mono ?_;rintro e w1 ⟨rfl,hb1⟩;go_wp2;go_roundw
      case rel=>exact ⟨k+1,by omega,by go_num,HF,hb.trans (hb1.mono hb.size)⟩
      case measure=>simp [intOf];omega
     | false=>
      rw [hnm] at HL HBk
      cases hE:isE (sAt l k) with
      | true=>
       rw [hE] at HBk hEk;have hE2:=hEk.symm;have HF:Hid (namesErr l=nzFrom (nmAt l) l.length (k+1)):=by show _=_;rw [HK.o,HN.o,HU.o,HBk.o];rfl
       clear HK HN HU hc hcell hEk;generalize sAt l k=s at *;go_wp2_with (fail)
       refine HL.o.mono ?_;rintro e w1 ⟨rfl,hb1⟩;go_wp2;go_roundw
       case rel=>exact ⟨k+1,by omega,by go_num,HF,hb.trans (hb1.mono hb.size)⟩
       case measure=>simp [intOf];omega
      | false=>
       rw [hE] at HBk hEk;have hE2:=hEk.symm;have HF:Hid (namesErr l=6):=by show _=_;rw [HK.o,HN.o,HU.o,HBk.o];rfl
       clear HK HN HU hc hcell hEk;generalize sAt l k=s at *;go_wp2_with (fail)
       refine HL.o.mono ?_;rintro e w1 ⟨rfl,hb1⟩;go_wp2;go_ret;exact ⟨zAd HF.o.symm,hb.trans (hb1.mono hb.size)⟩
    ·have hd:decide ((k:Int)<(l.length:Int))=false:=decide_eq_false (by omega)
     have HF:Hid (namesErr l=0):=by show _=_;rw [HK.o,zBu _ (by omega)]
     go_wp2;go_ret;exact ⟨zAd HF.o.symm,hb⟩
def aliasEq (l:List ByteArray) (i k:Nat):Bool:=(aliasS (sAt l k)).toList==(aliasS (sAt l i)).toList
def dupB (l:List ByteArray) (i:Nat):Bool:=(List.range i).any (aliasEq l i)
def useErr (label:ByteArray) (l:List ByteArray) (i:Nat):Int:=if nmS (aliasS (sAt l i)) then (if dupB l i then 7 else if (sAt l i).toList==label.toList then 23 else 0) else 6
theorem zOc {f:Nat→Bool} {n k:Nat} (h:k<n):(((List.range n).drop k).any f)=(f k || ((List.range n).drop (k+1)).any f):=by
 rw [List.drop_eq_getElem_cons (by rw [List.length_range];exact h),List.any_cons,List.getElem_range]
theorem zMo {f:Nat→Bool} {n k:Nat} (h:n≤k):(((List.range n).drop k).any f)=false:=by
 rw [List.drop_eq_nil_of_le (by rw [List.length_range];exact h)];rfl
theorem zOd (label:ByteArray) (l:List ByteArray) (i:Nat) (hi:i<l.length) (a:Option Addr) (c:Nat) (w:World) (hr:Strs w (.slice a l.length c) l) (hs:∀s∈l,s.size≤40000) (hl:l.length≤1000000) :
  Calls Tryz.prog 107 #[.string label,.slice a l.length c,.int .i64 i] w fun e w'=>e=.returned (.int .i64 (useErr label l i))∧Bw w w':=by
 have HS:=lH (zIb hs);have HR:=lH hr;obtain ⟨_,_,e,hlc,hcm,hcell⟩:=hr.shape;obtain ⟨b,o,e',hbl,hc⟩:=hcell i hi
 cases e
 subst e';have HC:=lH hc;have ci:w.cell? ⟨b,o+i,none⟩=some (.string (sAt l i)):=hc i hi;have HA:=lH (zOb (sAt l i) w (HS.o i));have hasz:=Nat.le_trans (zPw (sAt l i)) (HS.o i);have HN:=lH (fun w=>zGu (aliasS (sAt l i)) w hasz);have hU:Hid (useErr label l i=if nmS (aliasS (sAt l i)) then (if dupB l i then 7 else if (sAt l i).toList==label.toList then 23 else 0) else 6):=rfl;have HD:Hid (dupB l i=((List.range i).drop 0).any (aliasEq l i)):=rfl
 have HQ:Hid (∀k,aliasEq l i k=((aliasS (sAt l k)).toList==(aliasS (sAt l i)).toList)):=fun _=>rfl;clear hr hs hc hcell;generalize aliasS (sAt l i)=al at *
 cases hn:nmS al with
 | false=>
  rw [hn] at HN hU;clear HD HQ;generalize sAt l i=s at *
  go_enter Tryz.func107,Tryz.ntmps107
  go_wp2_with (fail)
  refine HA.o.mono ?_;rintro e w1 ⟨rfl,hb1⟩;go_wp2_with (fail)
  refine (HN.o _).mono ?_;rintro e w2 ⟨rfl,hb2⟩;go_wp2;go_ret;exact ⟨zAd (by rw [hU.out];rfl),zA hb1 hb2⟩
 | true=>
  rw [hn,if_pos rfl] at hU;rw [hn] at HN
  go_enter Tryz.func107,Tryz.ntmps107
  go_wp2_with (fail)
  refine HA.o.mono ?_;rintro e w1 ⟨rfl,hb1⟩;go_wp2_with (fail)
  refine (HN.o _).mono ?_;rintro e w2 ⟨rfl,hb2⟩;have hic:(i:Int)≤(c:Int):=by omega
  go_wp2
  go_loopw [22] (fun iv wr=>∃k:Nat,k≤i∧iv=.int .i64 k∧Hid (dupB l i=((List.range i).drop k).any (aliasEq l i))∧Bw w wr) (fun iv _=>i - (intOf iv).toNat)
  case atStart=>exact ⟨0,Nat.zero_le _,rfl,HD,zA hb1 hb2⟩
  case round=>
   obtain ⟨k,hk,rfl,HK,hb⟩:=hrel
   by_cases hkl:k<i
   ·have hd:decide ((k:Int)<(i:Int))=true:=decide_eq_true (by omega)
    have ck:wr.cell? ⟨b,o+k,none⟩=some (.string (sAt l k)):=(hb.cell (p:=⟨b,o+k,none⟩) hbl).trans (HC.o k (by omega));have hbl2:b<wr.heap.size:=Nat.lt_of_lt_of_le hbl hb.size;have HL:=lH (zOb (sAt l k) wr (HS.o k));have HT:=lH (HK.o.trans (zOc (f:=aliasEq l i) hkl));have hq:=HQ.o k;generalize aliasS (sAt l k)=bl at *;generalize sAt l k=s at *
    cases he:(bl.toList==al.toList) with
    | true=>
     have HF:Hid (dupB l i=true):=by show _=_;rw [HT.o,hq,he];rfl
     clear hq HT HK;go_wp2_with (fail)
     refine HL.o.mono ?_;rintro e w3 ⟨rfl,hb3⟩;go_wp2;go_ret;exact ⟨zAd (by rw [hU.out,HF.o];rfl),hb.trans (hb3.mono hb.size)⟩
    | false=>
     have HF:Hid (dupB l i=((List.range i).drop (k+1)).any (aliasEq l i)):=by show _=_;rw [HT.o,hq,he];rfl
     clear hq HT HK;go_wp2_with (fail)
     refine HL.o.mono ?_;rintro e w3 ⟨rfl,hb3⟩;go_wp2;go_roundw
     case rel=>exact ⟨k+1,by omega,by go_num,HF,hb.trans (hb3.mono hb.size)⟩
     case measure=>simp [intOf];omega
   ·have hd:decide ((k:Int)<(i:Int))=false:=decide_eq_false (by omega)
    have HF:Hid (dupB l i=false):=by show _=_;rw [HK.o,zMo (by omega)]
    have ci2:wr.cell? ⟨b,o+i,none⟩=some (.string (sAt l i)):=(hb.cell (p:=⟨b,o+i,none⟩) hbl).trans (HC.o i hi);have hbl2:b<wr.heap.size:=Nat.lt_of_lt_of_le hbl hb.size;rw [HF.o] at hU;generalize sAt l i=s at *
    cases he:(s.toList==label.toList) with
    | true=>
     rw [he] at hU;go_wp2;go_ret;exact ⟨zAd (by rw [hU.out];rfl),hb⟩
    | false=>
     rw [he] at hU;go_wp2;go_ret;exact ⟨zAd (by rw [hU.out];rfl),hb⟩
end Go.Proofs.YtfkjfdbjhlmjcaaGreatDoor
namespace Go.Proofs.YtfkjfdbjhlmjcaaGreatDoor
open Go.RowKit Go.Shelf
attribute [local go_sem] Oper.semAt_some
attribute [local irreducible] aliasS
end Go.Proofs.YtfkjfdbjhlmjcaaGreatDoor
namespace Go.Proofs.YtfkjfdbjhlmjcaaGreatDoor
open Go.RowKit Go.Shelf
attribute [local go_sem] Oper.semAt_some
def rDeclErr (d:ODecl):Int:=if d.id<0∨999999<d.id then 2 else if d.kind<1∨3<d.kind then 9 else if namesErr d.names=0 then exprErr d.body else namesErr d.names
theorem zJb:(Tryz.prog.info? 9).map (fun i=>(i.zero,i.size,i.bytes))=some (some (.string ⟨#[]⟩),1,16):=by kernel_rfl
def placeW (l:List ByteArray) (s:ByteArray):Nat:=l.findIdx fun t=>!(Op.bytesLess t.toList s.toList)
def withL (l:List ByteArray) (s:ByteArray):List ByteArray:=if placeW l s<l.length∧(sAt l (placeW l s)).toList=s.toList then l else l.take (placeW l s)++[s]++l.drop (placeW l s)
theorem zCq (l:List ByteArray):∀u∈l.map Value.string,u.oneCell'=true:=by
 intro u hu;obtain ⟨s,_,rfl⟩:=List.mem_map.1 hu;rfl
theorem zDs {w:World} {v:Value} {l:List ByteArray} (h:Strs w v l):IsRow w 1 v l.length (l.map .string):=h
theorem zBb {w:World} {B:Nat} {v:Value} {l:List ByteArray} (h:w.ownsRow B 9 1 v l.length (l.map .string)):Strs w v l:=zAm h
end Go.Proofs.YtfkjfdbjhlmjcaaGreatDoor
namespace Go.Proofs.YtfkjfdbjhlmjcaaGreatDoor
open Go.RowKit Go.Shelf
theorem yBw (x:Ex):∀d e,(preN x d).map (·.2)=(preN x e).map (·.2):=by
 refine Ex.ind (P:=fun x=>∀d e,(preN x d).map (·.2)=(preN x e).map (·.2)) (fun x ih d e=>?_) x;rw [zCh,zCh,List.map_cons,List.map_cons]
 congr 1
 have:∀l:List Ex,(∀y∈l,∀d e,(preN y d).map (·.2)=(preN y e).map (·.2))→∀d e,(preL l d).map (·.2)=(preL l e).map (·.2):=by
  intro l
  induction l with
  | nil=>intro _ _ _;rfl
  | cons y r ihr=>
   intro h d e;rw [preL,preL,List.map_append,List.map_append,h y (List.mem_cons_self ..) d e,ihr (fun z hz=>h z (List.mem_cons_of_mem _ hz)) d e]
 exact this _ ih _ _
def ValX (x:Ex):Prop:=∀y∈(preN x 1).map (·.2),nodeErr y=0
theorem zPx {l:List Ex} (h:firstE l=0):∀y∈l,nodeErr y=0:=by
 induction l with
 | nil=>intro y hy;cases hy
 | cons x r ih=>
  rw [firstE] at h;intro y hy
  by_cases hx:nodeErr x=0
  ·rw [if_pos hx] at h
   rcases List.mem_cons.1 hy with rfl|hy
   ·exact hx
   ·exact ih h y hy
  ·rw [if_neg hx] at h
   exact absurd h hx
theorem zJc {x:Ex} (h:exprErr x=0):ValX x:=by
 rw [exprErr] at h;split at h
 ·omega
 ·exact zPx h
theorem ValX.node {x:Ex} (h:ValX x):nodeErr x=0:=h x (by rw [zCh,List.map_cons];exact List.mem_cons_self ..)
theorem ValX.sub {x y:Ex} (h:ValX x) (hy:y∈x.subs):ValX y:=by
 intro z hz;refine h z ?_;rw [zCh,List.map_cons];refine List.mem_cons_of_mem _ ?_;rw [yBw y 1 (1+1)] at hz
 have:∀l:List Ex,y∈l→∀z∈(preN y (1+1)).map (·.2),z∈(preL l (1+1)).map (·.2):=by
  intro l
  induction l with
  | nil=>intro hy;cases hy
  | cons u r ih=>
   intro hy z hz;rw [preL,List.map_append,List.mem_append]
   rcases List.mem_cons.1 hy with rfl|hy
   ·exact .inl hz
   ·exact .inr (ih hy z hz)
 exact this _ hy z hz
theorem zDt {y:Ex} (h:nodeErr y=0):∃a b c,shapeK y.kind=some (a,b,c)∧y.subs.length=c:=by
 unfold nodeErr at h
 cases hs:shapeK y.kind with
 | none=>rw [hs] at h;simp at h
 | some p=>
  obtain ⟨a,b,c⟩:=p;rw [hs] at h;refine ⟨a,b,c,rfl,?_⟩;simp only [] at h
  by_cases hb:argBad y a b c=true
  ·rw [if_pos hb] at h;omega
  ·unfold argBad at hb
   simp only [Bool.or_eq_true,not_or] at hb
   have:=hb.2
   simpa using this
theorem ValX.funL {x:Ex} (h:ValX x) (hk:x.kind=6):x.subs.length=1:=by
 obtain ⟨a,b,c,hs,hl⟩:=zDt h.node;rw [hk] at hs;have:∃a b,shapeK 6=some (a,b,1):=⟨_,_,rfl⟩;obtain ⟨a',b',e⟩:=this;rw [e] at hs
 cases hs
 exact hl
theorem ValX.letL {x:Ex} (h:ValX x) (hk:x.kind=8):x.subs.length=2:=by
 obtain ⟨a,b,c,hs,hl⟩:=zDt h.node;rw [hk] at hs;have:∃a b,shapeK 8=some (a,b,2):=⟨_,_,rfl⟩;obtain ⟨a',b',e⟩:=this;rw [e] at hs
 cases hs
 exact hl
theorem ValX.caseL {x:Ex} (h:ValX x) (hk:x.kind=13):x.subs.length=3:=by
 obtain ⟨a,b,c,hs,hl⟩:=zDt h.node;rw [hk] at hs;have:∃a b,shapeK 13=some (a,b,3):=⟨_,_,rfl⟩;obtain ⟨a',b',e⟩:=this;rw [e] at hs
 cases hs
 exact hl
def withAll (l:List ByteArray) (ns:List ByteArray):List ByteArray:=ns.foldl withL l
theorem zYr (l:List ByteArray) (s:ByteArray):withL l s≠[]:=by
 unfold withL;split
 ·next h=>intro e;rw [e] at h;simp at h
 ·simp
theorem zPy {l ns:List ByteArray} (h:withAll l ns=[]):l=[]∧ns=[]:=by
 induction ns generalizing l with
 | nil=>exact ⟨h,rfl⟩
 | cons s r ih=>exact absurd (ih h).1 (zYr l s)
theorem zOe (x:Ex) (j:Nat):boundAt (.mk x.kind x.name x.more 0 0 []) j=boundAt x j:=rfl
def freeP (x:Ex) (bd:List ByteArray) (j:Nat):List ByteArray:=freeL (x.subs.drop j) x.kind x.name x.more j bd
theorem zYs (x:Ex) (bd:List ByteArray):freeN x bd=if x.kind=3 then (if memS' x.name bd then [] else [x.name]) else freeP x bd 0:=by
 cases x;rw [freeN];rfl
theorem zDu {x y:Ex} {j:Nat} (bd:List ByteArray) (h:x.subs[j]?=some y):freeP x bd j=freeN y (bd++boundAt x j)++freeP x bd (j+1):=by
 unfold freeP;obtain ⟨hj,e⟩:=List.getElem?_eq_some_iff.1 h;rw [List.drop_eq_getElem_cons hj,e,freeL,zOe]
theorem zFy {x:Ex} {j:Nat} (bd:List ByteArray) (h:x.subs.length≤j):freeP x bd j=[]:=by
 unfold freeP;rw [List.drop_eq_nil_of_le h,freeL]
theorem zLg {x y:Ex} (h:y∈x.subs):nodesN y+1≤nodesN x:=by
 rw [zBg x]
 have:∀l:List Ex,y∈l→nodesN y≤nodesL l:=by
  intro l
  induction l with
  | nil=>intro h;cases h
  | cons u r ih=>
   intro h;rw [nodesL]
   rcases List.mem_cons.1 h with rfl|h
   ·omega
   ·have:=ih h;omega
 have:=this _ h;omega
theorem zRt (s:ByteArray) (l:List ByteArray):memS' s l=memS s l:=rfl
end Go.Proofs.YtfkjfdbjhlmjcaaGreatDoor
namespace Go.Proofs.YtfkjfdbjhlmjcaaGreatDoor
open Go.RowKit Go.Shelf
attribute [local go_sem] Oper.semAt_some
theorem zUy (w:World) (B:Nat) (hB:B≤w.heap.size) (t:TypeId) (u0 u1:Value):(w.alloc (.cells #[u0,u1] t)).ownsRow B t 1 (.slice (some ⟨w.heap.size,0,none⟩) 2 2) 2 [u0,u1]:=
 ⟨rfl,.inr ⟨w.heap.size,2,_,rfl,hB,World.alloc_heap_new _ _,Nat.le_refl _,by unfold maxLen;omega,rfl,rfl⟩⟩
def freeOf (x:Ex):List ByteArray:=if exprErr x=0 then withAll [] (freeN x []) else []
theorem zMp {x:Ex} (h:exprErr x=0):nodesN x≤400:=by
 rw [exprErr] at h;split at h<;>omega
def declErr (label:ByteArray) (d:ODecl):Int:=
 if d.id<1 then 2 else if rDeclErr d=0 then (if anyX (kindP 4) d.body then 9 else if (freeOf d.body).length=0 then (if anyX (refP label) d.body then 1 else 0) else 21) else rDeclErr d
theorem zTf (ad:Addr) (n c:Nat) (w:World):(binOp .eql 50 (.slice (some ad) n c) (.slice none 0 0)).run Tryz.prog w=.ok (.bool false) w:=Lib.run_eql_slice_nil w _ _ (some ad) n c 0 0 Tryz.underlying50
theorem zTg (n c:Nat) (w:World):(binOp .eql 50 (.slice none n c) (.slice none 0 0)).run Tryz.prog w=.ok (.bool true) w:=Lib.run_eql_slice_nil w _ _ none n c 0 0 Tryz.underlying50
attribute [local go_sem] zTf zTg
theorem zCl (l:List ByteArray) (a:Option Addr) (c:Nat) (w:World) (hr:Strs w (.slice a l.length c) l) (hl:l.length≤1000000) :
  Calls Tryz.prog 30 #[.slice a l.length c] w fun e w'=>∃v,e=.returned v∧w'.ownsRow w.heap.size 9 1 v l.length (l.map .string)∧Bw w w':=by
 have HR:=lH hr;obtain ⟨i0,hi,hz0,hz1,hz2⟩:=info_parts zJb;obtain ⟨_,_,e,hlc,hcm,hcell⟩:=hr.shape
 cases e
 clear hr
 rcases Nat.eq_zero_or_pos l.length with h0|h0
 ·obtain rfl:l=[]:=List.eq_nil_of_length_eq_zero h0
  clear hcell h0 HR
  cases a with
  | none=>
   go_enter Tryz.func30,Tryz.ntmps30
   go_wp2;go_ret;exact ⟨_,rfl,World.ownsRow_nil _ _ _ _,zAw _⟩
  | some ad=>
   go_enter Tryz.func30,Tryz.ntmps30
   go_wp2;go_ret;exact ⟨_,rfl,World.ownsRow_made w #[] 0 (Nat.le_refl _) (Nat.zero_le _) rfl,zAa _ _⟩
 ·obtain ⟨b,o,rfl,hbl,hc⟩:=hcell 0 h0
  clear hcell hc;have hown0:(w.alloc (.cells #[] 9)).ownsRow w.heap.size 9 1 (.slice (some ⟨w.heap.size,0,none⟩) 0 0) 0 []:=World.ownsRow_made w #[] 0 (Nat.le_refl _) (Nat.zero_le _) rfl;have hA0:=zAa w (.cells #[] 9)
  go_enter Tryz.func30,Tryz.ntmps30
  go_wp2_with (at_builtin;refine zAe rfl _ _ 50 rfl w.heap.size 9 i0 _ 1 16 Tryz.underlying50 hi hz0 hz1 hz2 rfl (by decide) _ _ _ rfl hown0 _ _ _ rfl (zDs (HR.o.below hA0)) (zCq _) (by unfold maxLen;omega) (by omega) (by simp) ?_)
  intro v1 w1 hown1 hg1 hb1;have hB1:Bw w w1:=hA0.grown hg1 (by simp) (fun k hk=>by cases hk;exact Nat.le_refl _);go_wp2;go_ret;exact ⟨_,rfl,by simpa using hown1,hB1⟩
end Go.Proofs.YtfkjfdbjhlmjcaaGreatDoor
