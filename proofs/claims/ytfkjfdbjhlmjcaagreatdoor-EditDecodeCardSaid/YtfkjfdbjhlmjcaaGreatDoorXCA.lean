/- Great and Same of modules and of lists of modules. -/
import Derived.Test.YtfkjfdbjhlmjcaaGreatDoorXGH
import Derived.Test.YtfkjfdbjhlmjcaaGreatDoorXBL
set_option maxRecDepth 100000
set_option maxHeartbeats 16000000
namespace Go.Proofs.YtfkjfdbjhlmjcaaGreatDoor
open Go.RowKit Go.Shelf
attribute [local go_sem] Oper.semAt_some
def sameM (m n:OMod):Bool:=eqS m.label n.label && (sameSs m.uses n.uses && sameDs m.decls n.decls)
theorem zZd {m n:OMod}:sameM m n=true↔m=n:=by
 unfold sameM;rw [Bool.and_eq_true,Bool.and_eq_true,zFw,zFz,zKe]
 cases m;cases n
 simp
theorem zSn (m n:OMod) (aum adm aun adn:Option Addr) (cum cdm cun cdn:Nat) (w:World) (hm:ModIn w [] m aum cum adm cdm) (hn:ModIn w [] n aun cun adn cdn) (hs:∀x∈m.decls,x.names.length≤1000000∧nodesN x.body≤1000000) (hul:m.uses.length≤1000000) (hdl:m.decls.length≤1000000) :
  Calls Tryz.prog 37 #[modV m aum cum adm cdm,modV n aun cun adn cdn] w fun e w'=>e=.returned (.bool (sameM m n))∧Bw w w':=by
 obtain ⟨hb,hr,hA⟩:=zBv w 52 (mA m aum cum adm cdm) (mA n aun cun adn cdn);have HM:=lH hm;have HN:=lH hn;have HS:=lH hs;clear hm hn hs;unfold modV
 go_enter Tryz.func37,Tryz.ntmps37
 go_upto_region 1 with (fail)
 generalize (w.alloc (.cells (mA m aum cum adm cdm) 52)).alloc (.cells (mA n aun cun adn cdn) 52)=W0 at *;obtain ⟨R,hR⟩:∃R,w.heap.size+1=R:=⟨_,rfl⟩;rw [hR] at hr ⊢;have HR:=lH hr;have HB:=lH hb;have HA:=lH hA;obtain ⟨B,hB⟩:∃B,w.heap.size=B:=⟨_,rfl⟩;rw [hB] at HB ⊢;clear hR hB hr hb hA;obtain ⟨y0,y1,y2,yl⟩:=zAh HB.o;obtain ⟨z0,z1,z2,zl⟩:=zAh HR.o;have HF:Hid (sameM m n=(eqS m.label n.label && (sameSs m.uses n.uses && sameDs m.decls n.decls))):=rfl;obtain ⟨q,hq⟩:∃q,(m.label.toList==n.label.toList)=q:=⟨_,rfl⟩
 have HQ:Hid (eqS m.label n.label=q):=hq
 cases q with
 | false=>
  have HT:Hid (sameM m n=false):=by show _=_;rw [HF.o,HQ.o];rfl
  go_wp2;go_ret;exact ⟨zAb HT.o.symm,HA.o⟩
 | true=>
  rw [HQ.o,Bool.true_and] at HF;have HU:=lH (fun w1 h=>zEz m.uses n.uses aum aun cum cun w1 (zAg.1 (HM.o.uses.below h)).1 (zAg.1 (HN.o.uses.below h)).1 hul);generalize sameSs m.uses n.uses=s at *
  cases s with
  | false=>
   have HT:Hid (sameM m n=false):=by show _=_;rw [HF.o];rfl
   go_wp2_with (fail)
   refine (HU.o _ HA.o).mono ?_;rintro e w1 ⟨rfl,hb1⟩;go_wp2;go_ret;exact ⟨zAb HT.o.symm,HA.o.trans (hb1.mono HA.o.size)⟩
  | true=>
   rw [Bool.true_and] at HF;go_wp2_with (fail)
   refine (HU.o _ HA.o).mono ?_;rintro e w1 ⟨rfl,hb1⟩;have hbw:=HA.o.trans (hb1.mono HA.o.size);have HB1:=lH (HB.o.below hb1);have HR1:=lH (HR.o.below hb1);have HD:=lH (zEb m.decls n.decls adm adn cdm cdn w1 (HM.o.decls.below hbw) (HN.o.decls.below hbw) HS.o hdl);clear y0 y1 y2 yl z0 z1 z2 zl HU;obtain ⟨y0,y1,y2,yl⟩:=zAh HB1.o;obtain ⟨z0,z1,z2,zl⟩:=zAh HR1.o;generalize sameDs m.decls n.decls=t at *;go_wp2_with (fail)
   refine HD.o.mono ?_;rintro e w2 ⟨rfl,hb2⟩;go_wp2;go_ret;exact ⟨zAb HF.o.symm,hbw.trans (hb2.mono hbw.size)⟩
def sameMs:List OMod→List OMod→Bool
 | [],[]=>true
 | x::l,y::m=>sameM x y && sameMs l m
 | _,_=>false
theorem zIe:∀{l m:List OMod},sameMs l m=true↔l=m
 | [],[]=>by simp [sameMs]
 | [],b::s=>by simp [sameMs]
 | a::r,[]=>by simp [sameMs]
 | a::r,b::s=>by simp [sameMs,zZd,zIe]
theorem zWd {l m:List OMod} (h:l.length≠m.length):sameMs l m=false:=by
 cases e:sameMs l m with
 | false=>rfl
 | true=>exact absurd (congrArg List.length (zIe.1 e)) h
theorem zZe {l m:List OMod} {i:Nat} {x y:OMod} (hx:l[i]?=some x) (hy:m[i]?=some y):sameMs (l.drop i) (m.drop i)=(sameM x y && sameMs (l.drop (i+1)) (m.drop (i+1))):=by
 obtain ⟨h1,e1⟩:=List.getElem?_eq_some_iff.1 hx;obtain ⟨h2,e2⟩:=List.getElem?_eq_some_iff.1 hy;rw [List.drop_eq_getElem_cons h1,List.drop_eq_getElem_cons h2,sameMs,e1,e2]
theorem zWe {l m:List OMod} {i:Nat} (hl:l.length≤i) (hm:m.length≤i):sameMs (l.drop i) (m.drop i)=true:=by
 rw [List.drop_eq_nil_of_le hl,List.drop_eq_nil_of_le hm,sameMs]
theorem zKr (l m:List OMod) (a b:Option Addr) (c d:Nat) (w:World) (hl:Reads w [] (modsT l) (.slice a l.length c)) (hm:Reads w [] (modsT m) (.slice b m.length d)) (hs:∀m∈l,(∀x∈m.decls,x.names.length≤1000000∧nodesN x.body≤1000000)∧m.uses.length≤1000000∧m.decls.length≤1000000) (hn:l.length≤1000000) :
  Calls Tryz.prog 13 #[.slice a l.length c,.slice b m.length d] w fun e w'=>e=.returned (.bool (sameMs l m))∧Bw w w':=by
 have HL:=lH hl;have HM:=lH hm;have HS:=lH hs;have HE:Hid (sameMs l m=sameMs (l.drop 0) (m.drop 0)):=rfl;have HLEN:=lH (zWd (l:=l) (m:=m));clear hl hm hs;generalize sameMs l m=T at *
 by_cases hlen:l.length=m.length
 rotate_left
 ·have q1:((l.length:Int) != (m.length:Int))=true:=bne_iff_ne.2 (by omega)
  have HF:=lH (HLEN.o hlen);clear hlen HLEN
  go_enter Tryz.func13,Tryz.ntmps13
  go_wp2;go_ret;exact ⟨zAb HF.o.symm,zAl _⟩
 have q1:((l.length:Int) != (m.length:Int))=false:=by rw [hlen];simp
 have HLE:=lH hlen;clear hlen HLEN
 go_enter Tryz.func13,Tryz.ntmps13
 go_wp2
 go_loopw [5] (fun iv wr=>∃i:Nat,i≤l.length∧iv=.int .i64 i∧Hid (T=sameMs (l.drop i) (m.drop i))∧Bw w wr) (fun iv _=>l.length - (intOf iv).toNat)
 case atStart=>exact ⟨0,Nat.zero_le _,rfl,HE,zAl _⟩
 case round=>
  obtain ⟨i,hil,rfl,HI,hb⟩:=hrel
  by_cases hi:i<l.length
  ·have hd:decide ((i:Int)<(l.length:Int))=true:=decide_eq_true (by omega)
   have hi2:i<m.length:=by rw [←HLE.o];exact hi
   have hir:(i:Int)<(l.length:Int):=by omega
   have hir2:(i:Int)<(m.length:Int):=by omega
   obtain ⟨x,hx⟩:∃x,l[i]?=some x:=⟨_,List.getElem?_eq_getElem hi⟩;obtain ⟨y,hy⟩:∃y,m[i]?=some y:=⟨_,List.getElem?_eq_getElem hi2⟩;obtain ⟨b1,o1,xo,xc,xf,xd,rfl,hb1,x0,x1,x2,p1,p2,hxu,p3,p4,hxd⟩:=zBz (HL.o.below hb) hx;obtain ⟨b2,o2,yo,yc,yf,yd,rfl,hb2,y0,y1,y2,r1,r2,hyu,r3,r4,hyd⟩:=zBz (HM.o.below hb) hy;have hxi:ModIn wr [] x xo xc xf xd:=⟨hxu.out,hxd.out,p1,p2,p3,p4⟩;have hyi:ModIn wr [] y yo yc yf yd:=⟨hyu.out,hyd.out,r1,r2,r3,r4⟩;have hsx:=HS.o x (List.mem_of_getElem? hx)
   have HC:=lH (fun w' (h':Bw wr w')=>zSn x y xo xf yo yf xc xd yc yd w' (hxi.below h') (hyi.below h') hsx.1 hsx.2.1 hsx.2.2);have HN:=lH (HI.o.trans (zZe hx hy));clear hxi hyi hsx HI hx hy hxu hxd hyu hyd p1 p2 p3 p4 r1 r2 r3 r4;unfold modV at *;generalize sameM x y=r at *
   have SW:Hid (∀W:World,Bw wr W→(b1<W.heap.size∧b2<W.heap.size∧W.cell? ⟨b1,o1+i * 3,none⟩=some (.string x.label)∧W.cell? ⟨b1,o1+i * 3+1,none⟩=some (.slice xo x.uses.length xc)∧W.cell? ⟨b1,o1+i * 3+2,none⟩=some (.slice xf x.decls.length xd)∧W.cell? ⟨b2,o2+i * 3,none⟩=some (.string y.label)∧W.cell? ⟨b2,o2+i * 3+1,none⟩=some (.slice yo y.uses.length yc)∧W.cell? ⟨b2,o2+i * 3+2,none⟩=some (.slice yf y.decls.length yd))):=lH (fun W hW=>⟨Nat.lt_of_lt_of_le hb1 hW.size,Nat.lt_of_lt_of_le hb2 hW.size,(hW.cell (p:=⟨b1,_,none⟩) hb1).trans x0,(hW.cell (p:=⟨b1,_,none⟩) hb1).trans x1,(hW.cell (p:=⟨b1,_,none⟩) hb1).trans x2,(hW.cell (p:=⟨b2,_,none⟩) hb2).trans y0,(hW.cell (p:=⟨b2,_,none⟩) hb2).trans y1,(hW.cell (p:=⟨b2,_,none⟩) hb2).trans y2⟩)
   have hdr:Bw wr wr.drew:=(Mod.refl [] wr).drew.below;clear x0 x1 x2 y0 y1 y2;go_upto_region 6 with (fail)
   go_cut [26] from 11 to 26 (fun v wx=>v=.bool (!r)∧Bw wr wx)
   case first=>
    refine wp_region_noPanic (zCp (fun W:World=>b1<W.heap.size∧b2<W.heap.size∧W.cell? ⟨b1,o1+i * 3,none⟩=some (.string x.label)∧W.cell? ⟨b1,o1+i * 3+1,none⟩=some (.slice xo x.uses.length xc)∧W.cell? ⟨b1,o1+i * 3+2,none⟩=some (.slice xf x.decls.length xd)∧W.cell? ⟨b2,o2+i * 3,none⟩=some (.string y.label)∧W.cell? ⟨b2,o2+i * 3+1,none⟩=some (.slice yo y.uses.length yc)∧W.cell? ⟨b2,o2+i * 3+2,none⟩=some (.slice yf y.decls.length yd)) [true,true,true,true,true,true,true,true,false,true] zBm (by kernel_rfl) (fun _ _ _ _ _ h=>h) (SW.o _ hdr) (fun hHeld=>?_))
    iterate 8 (first|(refine zAo (by rfl) ?_;(try simp only [Act.put,List.setIfInBounds_toArray,List.set_cons_zero,List.set_cons_succ]))|(refine zAw (v:=?_) (by rfl) ?_ ?_;rotate_left;(focus (intro wq hSw;(try dsimp only at hSw);go_simp;(try with_reducible rfl)));(try simp only [Act.put,List.setIfInBounds_toArray,List.set_cons_zero,List.set_cons_succ])))
    clear hHeld;generalize wr.drew=wd at *
    (refine zDb (by rfl) (fun K hK=>?_);go_simp)
    refine (HC.o _ hdr).mono ?_;rintro r w3 ⟨rfl,hb3⟩
    (try go_simp)
    have hb4:=zA hdr hb3;refine hK.out _ _ (SW.o _ hb4) (fun _=>?_);clear hK K;(try simp only [Act.put,List.setIfInBounds_toArray,List.set_cons_zero,List.set_cons_succ])
    (first|(refine zAo (by rfl) ?_;(try simp only [Act.put,List.setIfInBounds_toArray,List.set_cons_zero,List.set_cons_succ]))|(refine zAw (v:=?_) (by rfl) ?_ ?_;rotate_left;(focus (intro wq hSw;(try dsimp only at hSw);go_simp;(try with_reducible rfl)));(try simp only [Act.put,List.setIfInBounds_toArray,List.set_cons_zero,List.set_cons_succ])))
    refine zDg ?_;refine NoPanic.normal ?_
    (try go_wp2)
    go_meet
    case rel=>exact ⟨rfl,hb4⟩
   case rest=>
   obtain ⟨rfl,hb4⟩:=hcut;have hB4:=hb.trans (hb4.mono hb.size);clear SW HC hdr
   cases r with
   | true=>
    rw [Bool.true_and] at HN;simp only [Bool.not_true]
    go_wp2;go_roundw
    case rel=>exact ⟨i+1,by omega,by go_num,HN,hB4⟩
    case measure=>simp [intOf];omega
   | false=>
    rw [Bool.false_and] at HN;simp only [Bool.not_false]
    go_wp2;go_ret;exact ⟨zAb HN.o.symm,hB4⟩
  ·have hd:decide ((i:Int)<(l.length:Int))=false:=decide_eq_false (by omega)
   have HF:Hid (T=true):=by show _=_;rw [HI.o,zWe (by omega) (by rw [←HLE.o];omega)]
   go_wp2;go_ret;exact ⟨zAb HF.o.symm,hb⟩
end Go.Proofs.YtfkjfdbjhlmjcaaGreatDoor
namespace Go.Proofs.YtfkjfdbjhlmjcaaGreatDoor
open Go.RowKit Go.Shelf
end Go.Proofs.YtfkjfdbjhlmjcaaGreatDoor
namespace Go.Proofs.YtfkjfdbjhlmjcaaGreatDoor
def noText:ByteArray:=⟨#[]⟩
def remD (p:ByteArray) (d:ODecl):OEdit:=⟨6,p,noText,[d],[]⟩
def addD (p:ByteArray) (d:ODecl):OEdit:=⟨5,p,noText,[],[d]⟩
def partE7 (p:ByteArray) (a b:ODecl) (k:Int):OEdit:=⟨k,p,noText,[partD k a],[partD k b]⟩
def partsL (p:ByteArray) (a b:ODecl):List OEdit:=([7,8,9].filter fun k=>!sameD (partD k a) (partD k b)).map (partE7 p a b)
def declE (p:ByteArray):List ODecl→List ODecl→List OEdit
  | [],[]=>[]
  | a::xs,[]=>remD p a::declE p xs []
  | [],b::bs=>addD p b::declE p [] bs
  | a::xs,b::bs=>if a.id<b.id then remD p a::declE p xs (b::bs) else if b.id<a.id then addD p b::declE p (a::xs) bs else partsL p a b++declE p xs bs
termination_by xs bs=>xs.length+bs.length
def useE (k:Int) (p:ByteArray) (uses others:List ByteArray):List OEdit:=(uses.filter fun u=>!memS u others).map fun u=>⟨k,p,u,[],[]⟩
structure Pair where
  label:ByteArray
  a:Option OMod
  b:Option OMod
def usesO (m:Option OMod):List ByteArray:=(m.map OMod.uses).getD []
def declsO (m:Option OMod):List ODecl:=(m.map OMod.decls).getD []
def pairsL:List OMod→List OMod→List Pair
 | [],[]=>[]
 | a::xs,[]=>⟨a.label,some a,none⟩::pairsL xs []
 | [],b::bs=>⟨b.label,none,some b⟩::pairsL [] bs
 | a::xs,b::bs=>if ltB a.label b.label then ⟨a.label,some a,none⟩::pairsL xs (b::bs) else if ltB b.label a.label then ⟨b.label,none,some b⟩::pairsL (a::xs) bs else ⟨b.label,some a,some b⟩::pairsL xs bs
termination_by xs bs=>xs.length+bs.length
def addM (ps:List Pair):List OEdit:=(ps.filter fun p=>p.a.isNone).map fun p=>⟨1,p.label,noText,[],[]⟩
def addU (ps:List Pair):List OEdit:=ps.flatMap fun p=>useE 3 p.label (usesO p.b) (usesO p.a)
def chgD (ps:List Pair):List OEdit:=ps.flatMap fun p=>declE p.label (declsO p.a) (declsO p.b)
def remU (ps:List Pair):List OEdit:=ps.flatMap fun p=>useE 4 p.label (usesO p.a) (usesO p.b)
def remM (ps:List Pair):List OEdit:=(ps.filter fun p=>p.b.isNone).map fun p=>⟨2,p.label,noText,[],[]⟩
def diffP (ps:List Pair):List OEdit:=addM ps++addU ps++chgD ps++remU ps++remM ps
def diffL (a b:List OMod):List OEdit:=diffP (pairsL a b)
def diffErr (a b:List OMod):Int:=if modsErr a=0 then modsErr b else modsErr a
def diffR (a b:List OMod):List OEdit:=if diffErr a b=0 then diffL a b else []
theorem zSo {a b:ByteArray} (h1:¬ltB a b=true) (h2:¬ltB b a=true):a=b:=zOa.tot (by simpa using h1) (by simpa using h2)
end Go.Proofs.YtfkjfdbjhlmjcaaGreatDoor
