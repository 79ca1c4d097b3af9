/- Plain: -/
import Derived.Test.YtfkjfdbjhlmjcaaGreatDoorXT4
set_option maxRecDepth 100000
set_option maxHeartbeats 16000000
namespace Go.Proofs.YtfkjfdbjhlmjcaaGreatDoor
open Go.RowKit Go.Shelf
def eqS (a b:ByteArray):Bool:=a.toList==b.toList
theorem zKe {a b:ByteArray}:eqS a b=true↔a=b:=by
 unfold eqS;rw [beq_iff_eq,tl,tl]
 constructor
 ·intro h
  cases a;cases b
  have:=Array.toList_inj.1 h;simp only at this
  rw [this]
 ·intro h;rw [h]
def sameSs:List ByteArray→List ByteArray→Bool
 | [],[]=>true
 | a::r,b::s=>eqS a b && sameSs r s
 | _,_=>false
theorem zFw:∀{l m:List ByteArray},sameSs l m=true↔l=m
 | [],[]=>by simp [sameSs]
 | [],b::s=>by simp [sameSs]
 | a::r,[]=>by simp [sameSs]
 | a::r,b::s=>by simp [sameSs,zKe,zFw]
theorem zMf {l m:List ByteArray} (h:l.length≠m.length):sameSs l m=false:=by
 cases e:sameSs l m with
 | false=>rfl
 | true=>exact absurd (congrArg List.length (zFw.1 e)) h
theorem yDe {l:List ByteArray} {i:Nat} (h:i<l.length):sAt l i=l[i]:=by
 unfold sAt;simp [h]
theorem zPt {l m:List ByteArray} {i:Nat} (hl:i<l.length) (hm:i<m.length):sameSs (l.drop i) (m.drop i)=(eqS (sAt l i) (sAt m i) && sameSs (l.drop (i+1)) (m.drop (i+1))):=by
 rw [List.drop_eq_getElem_cons hl,List.drop_eq_getElem_cons hm,sameSs,yDe hl,yDe hm]
theorem zMg {l m:List ByteArray} {i:Nat} (hl:l.length≤i) (hm:m.length≤i):sameSs (l.drop i) (m.drop i)=true:=by
 rw [List.drop_eq_nil_of_le hl,List.drop_eq_nil_of_le hm,sameSs]
def headB (x y:Ex):Bool:=x.kind==y.kind && (eqS x.name y.name && (eqS x.more y.more && (x.num==y.num && x.den==y.den)))
mutual
def sameX:Ex→Ex→Bool
 | .mk k n m i d s,y=>headB (.mk k n m i d []) y && sameL s y.subs
def sameL:List Ex→List Ex→Bool
 | [],l=>l.isEmpty
 | x::r,l=>match l with
  | []=>false
  | y::s=>sameX x y && sameL r s
end
theorem zNu (x y:Ex):sameX x y=(headB x y && sameL x.subs y.subs):=by cases x;rw [sameX];rfl
theorem zPu:sameL [] []=true:=by rw [sameL];rfl
theorem zFx (x y:Ex) (r s:List Ex):sameL (x::r) (y::s)=(sameX x y && sameL r s):=by rw [sameL]
theorem zYa (x:Ex):∀y,sameX x y=true↔x=y:=by
 refine Ex.ind (P:=fun x=>∀y,sameX x y=true↔x=y) (fun x ih y=>?_) x
 have hl:∀l:List Ex,(∀z∈l,∀y,sameX z y=true↔z=y)→∀m,sameL l m=true↔l=m:=by
  intro l
  induction l with
  | nil=>
   intro _ m;rw [sameL,List.isEmpty_iff];exact ⟨fun h=>h.symm,fun h=>h.symm⟩
  | cons z r ihr=>
   intro h m
   cases m with
   | nil=>rw [sameL];simp
   | cons y s=>
    rw [zFx,Bool.and_eq_true,h z (List.mem_cons_self ..),ihr (fun u hu=>h u (List.mem_cons_of_mem _ hu))];simp
 rw [zNu,Bool.and_eq_true,hl _ ih]
 cases x with
 | mk k n m i d s=>
  cases y with
  | mk k' n' m' i' d' s'=>
   simp only [headB,Ex.kind,Ex.name,Ex.more,Ex.num,Ex.den,Ex.subs,Bool.and_eq_true,beq_iff_eq,zKe,Ex.mk.injEq]
   constructor
   ·rintro ⟨⟨a,b,c,d,e⟩,f⟩;exact ⟨a,b,c,d,e,f⟩
   ·rintro ⟨a,b,c,d,e,f⟩;exact ⟨⟨a,b,c,d,e⟩,f⟩
theorem zPv:∀{l m:List Ex},l.length≠m.length→sameL l m=false:=by
 intro l
 induction l with
 | nil=>
  intro m h
  cases m with
  | nil=>exact absurd rfl h
  | cons y s=>rw [sameL];rfl
 | cons x r ih=>
  intro m h
  cases m with
  | nil=>rw [sameL]
  | cons y s=>
   rw [zFx,ih (fun e=>h (by rw [List.length_cons,List.length_cons,e])),Bool.and_false]
theorem zTs {l m:List Ex} {i:Nat} {x y:Ex} (hx:l[i]?=some x) (hy:m[i]?=some y):sameL (l.drop i) (m.drop i)=(sameX x y && sameL (l.drop (i+1)) (m.drop (i+1))):=by
 obtain ⟨h1,e1⟩:=List.getElem?_eq_some_iff.1 hx;obtain ⟨h2,e2⟩:=List.getElem?_eq_some_iff.1 hy;rw [List.drop_eq_getElem_cons h1,List.drop_eq_getElem_cons h2,zFx,e1,e2]
theorem zPw {l m:List Ex} {i:Nat} (hl:l.length≤i) (hm:m.length≤i):sameL (l.drop i) (m.drop i)=true:=by
 rw [List.drop_eq_nil_of_le hl,List.drop_eq_nil_of_le hm,zPu]
def sameHd (a b:ODecl):Bool:=a.kind==b.kind && (a.pub==b.pub && a.doubt==b.doubt)
def sameD (a b:ODecl):Bool:=a.id==b.id && (sameHd a b && (sameSs a.names b.names && sameX a.body b.body))
theorem zFf {a b:ODecl}:sameD a b=true↔a=b:=by
 cases a;cases b
 simp only [sameD,sameHd,Bool.and_eq_true,beq_iff_eq,zFw,zYa,ODecl.mk.injEq]
 constructor
 ·rintro ⟨a,⟨b,c,d⟩,e,f⟩;exact ⟨a,b,c,e,d,f⟩
 ·rintro ⟨a,b,c,e,d,f⟩;exact ⟨a,⟨b,c,d⟩,e,f⟩
end Go.Proofs.YtfkjfdbjhlmjcaaGreatDoor
namespace Go.Proofs.YtfkjfdbjhlmjcaaGreatDoor
open Go.RowKit Go.Shelf
attribute [local go_sem] Oper.semAt_some
theorem zEz (l m:List ByteArray) (a b:Option Addr) (c d:Nat) (w:World) (hl:Strs w (.slice a l.length c) l) (hm:Strs w (.slice b m.length d) m) (hb:l.length≤1000000) :
  Calls Tryz.prog 87 #[.slice a l.length c,.slice b m.length d] w fun e w'=>e=.returned (.bool (sameSs l m))∧Bw w w':=by
 have HL:=lH hl;have HM:=lH hm;clear hl hm
 by_cases hne:l.length=m.length
 ·have q1:((l.length:Int) != (m.length:Int))=false:=by rw [hne];simp
  have HE:Hid (sameSs l m=sameSs (l.drop 0) (m.drop 0)):=rfl;generalize sameSs l m=T at *;have hle:m.length=l.length:=hne.symm;rw [hle] at HM q1 ⊢;have HLE:=lH hle;clear hne hle
  go_enter Tryz.func87,Tryz.ntmps87
  go_wp2
  go_loopw [5] (fun iv wr=>∃i:Nat,i≤l.length∧iv=.int .i64 i∧Hid (T=sameSs (l.drop i) (m.drop i))∧Bw w wr) (fun iv _=>l.length - (intOf iv).toNat)
  case atStart=>exact ⟨0,Nat.zero_le _,rfl,HE,zAl _⟩
  case round=>
   obtain ⟨i,hil,rfl,HI,hb'⟩:=hrel
   by_cases hi:i<l.length
   ·have hd:decide ((i:Int)<(l.length:Int))=true:=decide_eq_true (by omega)
    obtain ⟨_,_,e,_,_,hcell⟩:=(HL.o.below hb').shape;obtain ⟨b1,o1,e',hbl1,hc1⟩:=hcell i hi
    cases e
    subst e';have x1:wr.cell? ⟨b1,o1+i,none⟩=some (.string (sAt l i)):=hc1 i hi
    have HM2:Hid (Strs wr (.slice b m.length d) m):=by
     show Strs _ _ _
     have:=HM.o.below hb';rw [←HLE.o] at this;exact this
    obtain ⟨_,_,e,_,_,hcell2⟩:=HM2.o.shape;obtain ⟨b2,o2,e',hbl2,hc2⟩:=hcell2 i (by rw [HLE.o];exact hi)
    cases e
    subst e';have x2:wr.cell? ⟨b2,o2+i,none⟩=some (.string (sAt m i)):=hc2 i (by rw [HLE.o];exact hi);have HN:=lH (HI.o.trans (zPt hi (by rw [HLE.o];exact hi)));have HQ:Hid (eqS (sAt l i) (sAt m i)=((sAt l i).toList==(sAt m i).toList)):=rfl;have hir:(i:Int)<(l.length:Int):=by omega
    clear hcell hc1 hcell2 hc2 HI HM2;generalize sAt l i=s at *;generalize sAt m i=t at *
    cases hst:(s.toList==t.toList) with
    | true=>
     rw [HQ.o,hst,Bool.true_and] at HN;clear HQ;go_wp2_with (fail)
     go_quiet (fail)
     go_wp2;go_roundw
     case rel=>exact ⟨i+1,by omega,by go_num,HN,below_drewN hb' _⟩
     case measure=>simp [intOf];omega
    | false=>
     rw [HQ.o,hst,Bool.false_and] at HN;clear HQ;go_wp2_with (fail)
     go_quiet (fail)
     go_wp2;go_ret;exact ⟨zAb HN.o.symm,below_drewN hb' _⟩
   ·have hd:decide ((i:Int)<(l.length:Int))=false:=decide_eq_false (by omega)
    have HF:Hid (T=true):=by show _=_;rw [HI.o,zMg (by omega) (by rw [HLE.o];omega)]
    go_wp2;go_ret;exact ⟨zAb HF.o.symm,hb'⟩
 ·have q1:((l.length:Int) != (m.length:Int))=true:=bne_iff_ne.2 (by omega)
  have HE:=lH (zMf hne);generalize sameSs l m=T at *
  go_enter Tryz.func87,Tryz.ntmps87
  go_wp2;go_ret;exact ⟨zAb HE.o.symm,zAl _⟩
theorem zVt (l m:List ByteArray) (a b:Option Addr) (c d:Nat) (w:World) (hl:Strs w (.slice a l.length c) l) (hm:Strs w (.slice b m.length d) m) (hb:l.length≤1000000) :
  Calls Tryz.prog 141 #[.slice a l.length c,.slice b m.length d] w fun e w'=>e=.returned (.bool (sameSs l m))∧Bw w w':=by
 have HL:=lH hl;have HM:=lH hm;clear hl hm
 by_cases hne:l.length=m.length
 ·have q1:((l.length:Int) != (m.length:Int))=false:=by rw [hne];simp
  have HE:Hid (sameSs l m=sameSs (l.drop 0) (m.drop 0)):=rfl;generalize sameSs l m=T at *;have hle:m.length=l.length:=hne.symm;rw [hle] at HM q1 ⊢;have HLE:=lH hle;clear hne hle
  go_enter Tryz.func141,Tryz.ntmps141
  go_wp2
  go_loopw [13] (fun iv wr=>∃i:Nat,i≤l.length∧iv=.int .i64 i∧Hid (T=sameSs (l.drop i) (m.drop i))∧Bw w wr) (fun iv _=>l.length - (intOf iv).toNat)
  case atStart=>exact ⟨0,Nat.zero_le _,rfl,HE,zAl _⟩
  case round=>
   obtain ⟨i,hil,rfl,HI,hb'⟩:=hrel
   by_cases hi:i<l.length
   ·have hd:decide ((i:Int)<(l.length:Int))=true:=decide_eq_true (by omega)
    obtain ⟨_,_,e,_,_,hcell⟩:=(HL.o.below hb').shape;obtain ⟨b1,o1,e',hbl1,hc1⟩:=hcell i hi
    cases e
    subst e';have x1:wr.cell? ⟨b1,o1+i,none⟩=some (.string (sAt l i)):=hc1 i hi
    have HM2:Hid (Strs wr (.slice b m.length d) m):=by
     show Strs _ _ _
     have:=HM.o.below hb';rw [←HLE.o] at this;exact this
    obtain ⟨_,_,e,_,_,hcell2⟩:=HM2.o.shape;obtain ⟨b2,o2,e',hbl2,hc2⟩:=hcell2 i (by rw [HLE.o];exact hi)
    cases e
    subst e';have x2:wr.cell? ⟨b2,o2+i,none⟩=some (.string (sAt m i)):=hc2 i (by rw [HLE.o];exact hi);have HN:=lH (HI.o.trans (zPt hi (by rw [HLE.o];exact hi)));have HQ:Hid (eqS (sAt l i) (sAt m i)=((sAt l i).toList==(sAt m i).toList)):=rfl;have hir:(i:Int)<(l.length:Int):=by omega
    clear hcell hc1 hcell2 hc2 HI HM2;generalize sAt l i=s at *;generalize sAt m i=t at *
    cases hst:(s.toList==t.toList) with
    | true=>
     rw [HQ.o,hst,Bool.true_and] at HN;clear HQ;go_wp2_with (fail)
     go_quiet (fail)
     go_wp2;go_roundw
     case rel=>exact ⟨i+1,by omega,by go_num,HN,below_drewN hb' _⟩
     case measure=>simp [intOf];omega
    | false=>
     rw [HQ.o,hst,Bool.false_and] at HN;clear HQ;go_wp2_with (fail)
     go_quiet (fail)
     go_wp2;go_ret;exact ⟨zAb HN.o.symm,below_drewN hb' _⟩
   ·have hd:decide ((i:Int)<(l.length:Int))=false:=decide_eq_false (by omega)
    have HF:Hid (T=true):=by show _=_;rw [HI.o,zMg (by omega) (by rw [HLE.o];omega)]
    go_wp2;go_ret;exact ⟨zAb HF.o.symm,hb'⟩
 ·have q1:((l.length:Int) != (m.length:Int))=true:=bne_iff_ne.2 (by omega)
  have HE:=lH (zMf hne);generalize sameSs l m=T at *
  go_enter Tryz.func141,Tryz.ntmps141
  go_wp2;go_ret;exact ⟨zAb HE.o.symm,zAl _⟩
theorem zVu (x:Ex):∀(y:Ex) (a b:Option Addr) (c d:Nat) (w:World),Reads w [] (subsT x.subs) (.slice a x.subs.length c)→Reads w [] (subsT y.subs) (.slice b y.subs.length d)→nodesN x≤4000000 →
  Calls Tryz.prog 143 #[exV x a c,exV y b d] w fun e w'=>e=.returned (.bool (sameX x y))∧Bw w w':=by
 refine Ex.ind (P:=fun x=>∀(y:Ex) (a b:Option Addr) (c d:Nat) (w:World),Reads w [] (subsT x.subs) (.slice a x.subs.length c)→Reads w [] (subsT y.subs) (.slice b y.subs.length d)→nodesN x≤4000000 →
  Calls Tryz.prog 143 #[exV x a c,exV y b d] w fun e w'=>e=.returned (.bool (sameX x y))∧Bw w w') (fun x ih=>?_) x
 intro y a b c d w hx hy hN;have HIH:=lH ih;have HX:=lH hx;have HY:=lH hy;have hns:nodesN x=1+nodesL x.subs:=zBc x;have hnl:=zBq x.subs;clear ih hx hy;have HE:Hid (sameX x y=(headB x y && sameL x.subs y.subs)):=zNu x y;have HH:Hid (headB x y=(x.kind==y.kind && (eqS x.name y.name && (eqS x.more y.more && (x.num==y.num && x.den==y.den))))):=rfl;have HB1:Hid (CBox ((w.alloc (.cells (xA x a c) 60)).alloc (.cells (xA y b d) 60)) w.heap.size 60 (xA x a c)):=(CBox.new w 60 (xA x a c)).alloc _
 have HB2:Hid (CBox ((w.alloc (.cells (xA x a c) 60)).alloc (.cells (xA y b d) 60)) (w.heap.size+1) 60 (xA y b d)):=by
  have:=CBox.new (w.alloc (.cells (xA x a c) 60)) 60 (xA y b d);rwa [World.size_alloc] at this
 have hA:Bw w ((w.alloc (.cells (xA x a c) 60)).alloc (.cells (xA y b d) 60)):=zA (zAa _ _) (zAa _ _);generalize sameX x y=T at *;unfold exV at *
 have hcase:headB x y=false∨(headB x y=true∧x.subs.length≠y.subs.length)∨(headB x y=true∧x.subs.length=y.subs.length):=by
  cases headB x y
  ·exact .inl rfl
  ·by_cases h:x.subs.length=y.subs.length
   ·exact .inr (.inr ⟨rfl,h⟩)
   ·exact .inr (.inl ⟨rfl,h⟩)
 have HQ:Hid ((x.kind != y.kind)=!(x.kind==y.kind)∧(x.num != y.num)=!(x.num==y.num)∧(x.den != y.den)=!(x.den==y.den)∧eqS x.name y.name=(x.name.toList==y.name.toList)∧eqS x.more y.more=(x.more.toList==y.more.toList)):=⟨rfl,rfl,rfl,rfl,rfl⟩;obtain ⟨k1,k2,k3,k4,k5,e1,e2,e3,e4,e5⟩:∃k1 k2 k3 k4 k5,(x.kind==y.kind)=k1∧(x.name.toList==y.name.toList)=k2∧(x.more.toList==y.more.toList)=k3∧(x.num==y.num)=k4∧(x.den==y.den)=k5:=⟨_,_,_,_,_,rfl,rfl,rfl,rfl,rfl⟩;obtain ⟨h1,h2,h3,h4,h5⟩:=HQ.o
 rw [h4,h5,e1,e2,e3,e4,e5] at HH;rw [e1] at h1;rw [e4] at h2;rw [e5] at h3;clear h4 h5 HQ e1 e4 e5;have finish:∀(r:Bool),T=r→Ending.returned (.bool r)=.returned (.bool T):=fun r h=>by rw [h]
 go_enter Tryz.func143,Tryz.ntmps143
 go_upto_region 1 with (fail)
 generalize hW:((w.alloc (.cells (xA x a c) 60)).alloc (.cells (xA y b d) 60))=W0 at *;clear hW;obtain ⟨x0,x1,x2,x3,x4,x5,-⟩:=zCv HB1.o;obtain ⟨y0,y1,y2,y3,y4,y5,-⟩:=zCv HB2.o;have l1:=HB1.o.lt;have l2:=HB2.o.lt;obtain ⟨k6,e6⟩:∃k6,((x.subs.length:Int) != (y.subs.length:Int))=k6:=⟨_,rfl⟩;have HL6:Hid (k6=!decide (x.subs.length=y.subs.length)):=by show _=_;rw [←e6];by_cases h:x.subs.length=y.subs.length<;>simp [h];omega
 go_cut [47] from 6 to 47 (fun v wx=>v=.bool (!(headB x y && decide (x.subs.length=y.subs.length)))∧wx=W0)
 case first=>
  clear HE HIH HX HY HB1 HB2 finish hcase
  cases k1 with
  | false=>
   have HR:Hid ((!(headB x y && decide (x.subs.length=y.subs.length)))=true):=by show _=_;rw [HH.o];simp
   clear HH HL6;go_wp2;go_meet
   case rel=>exact ⟨by rw [HR.o],rfl⟩
  | true=>
   cases k2 with
   | false=>
    have HR:Hid ((!(headB x y && decide (x.subs.length=y.subs.length)))=true):=by show _=_;rw [HH.o];simp
    clear HH HL6;go_wp2;go_meet
    case rel=>exact ⟨by rw [HR.o],rfl⟩
   | true=>
    cases k3 with
    | false=>
     have HR:Hid ((!(headB x y && decide (x.subs.length=y.subs.length)))=true):=by show _=_;rw [HH.o];simp
     clear HH HL6;go_wp2;go_meet
     case rel=>exact ⟨by rw [HR.o],rfl⟩
    | true=>
     cases k4 with
     | false=>
      have HR:Hid ((!(headB x y && decide (x.subs.length=y.subs.length)))=true):=by show _=_;rw [HH.o];simp
      clear HH HL6;go_wp2;go_meet
      case rel=>exact ⟨by rw [HR.o],rfl⟩
     | true=>
      cases k5 with
      | false=>
       have HR:Hid ((!(headB x y && decide (x.subs.length=y.subs.length)))=true):=by show _=_;rw [HH.o];simp
       clear HH HL6;go_wp2;go_meet
       case rel=>exact ⟨by rw [HR.o],rfl⟩
      | true=>
       cases k6 with
       | true=>
        have HR:Hid ((!(headB x y && decide (x.subs.length=y.subs.length)))=true):=by show _=_;rw [HH.o];have:=HL6.o;simp at this;simp [this]
        clear HH HL6;go_wp2;go_meet
        case rel=>exact ⟨by rw [HR.o],rfl⟩
       | false=>
        have HR:Hid ((!(headB x y && decide (x.subs.length=y.subs.length)))=false):=by show _=_;rw [HH.o];have:=HL6.o;simp at this;simp [this]
        clear HH HL6;go_wp2;go_meet
        case rel=>exact ⟨by rw [HR.o],rfl⟩
 case rest=>
 obtain ⟨rfl,rfl⟩:=hcut;clear h1 h2 h3 HH e2 e3 HL6 e6
 rcases hcase with h|⟨h,hl⟩|⟨h,hl⟩
 ·rw [h,Bool.false_and] at HE
  rw [h];simp only [Bool.false_and,Bool.not_false]
  go_wp2;go_ret;exact ⟨zAb HE.o.symm,hA⟩
 ·rw [h,Bool.true_and,zPv hl] at HE
  rw [h];have hd:decide (x.subs.length=y.subs.length)=false:=decide_eq_false hl;rw [hd];simp only [Bool.and_false,Bool.not_false]
  go_wp2;go_ret;exact ⟨zAb HE.o.symm,hA⟩
 ·rw [h,Bool.true_and] at HE
  rw [h];have hd:decide (x.subs.length=y.subs.length)=true:=decide_eq_true hl;rw [hd];clear hd h;simp only [Bool.and_true,Bool.not_true]
  have HLE:=lH hl;unfold xA at HB2;rw [←hl] at HY HB2 y5;have HY2:=HY;clear hl;have HE0:Hid (T=sameL (x.subs.drop 0) (y.subs.drop 0)):=HE;go_wp2;clear x0 x1 x2 x3 x4 x5 y0 y1 y2 y3 y4 y5 l1 l2
  go_loopw [5] (fun iv wr=>∃i:Nat,i≤x.subs.length∧iv=.int .i64 i∧Hid (T=sameL (x.subs.drop i) (y.subs.drop i))∧Bw wc wr) (fun iv _=>x.subs.length - (intOf iv).toNat)
  case atStart=>exact ⟨0,Nat.zero_le _,rfl,HE0,zAl _⟩
  case round=>
   obtain ⟨i,hil,rfl,HI,hb⟩:=hrel;have bx:=HB1.o.below hb;have bY:=HB2.o.below hb;have x5:=bx.cell (i:=5) (v:=.slice a x.subs.length c) rfl;have y5:=bY.cell (i:=5) (v:=.slice b x.subs.length d) rfl;have l1:=bx.lt;have l2:=bY.lt;have hB:=zA hA hb
   by_cases hi:i<x.subs.length
   ·have hd:decide ((i:Int)<(x.subs.length:Int))=true:=decide_eq_true (by omega)
    have hir:(i:Int)<(x.subs.length:Int):=by omega
    obtain ⟨u,hu⟩:∃u,x.subs[i]?=some u:=⟨_,List.getElem?_eq_getElem hi⟩;obtain ⟨v,hv⟩:∃v,y.subs[i]?=some v:=⟨_,List.getElem?_eq_getElem (by rw [←HLE.o];exact hi)⟩;have hY3:Reads wr [] (subsT y.subs) (.slice b y.subs.length d):=by rw [←HLE.o];exact HY.o.below hB
    obtain ⟨b1,o1,ua,uc,rfl,hb1,u0,u1,u2,u3,u4,u5,-,-,hur⟩:=zAx (HX.o.below hB) hu;obtain ⟨b2,o2,va,vc,rfl,hb2,v0,v1,v2,v3,v4,v5,-,-,hvr⟩:=zAx hY3 hv;have hum:=List.mem_of_getElem? hu;have hun:=zHz hum;have HC:=lH (fun w' (h':Bw wr w')=>HIH.o u hum v ua va uc vc w' (hur.out.below h') (hvr.out.below h') (by omega));have HN:=lH (HI.o.trans (zTs hu hv));clear hY3 HI hun hum hur hvr;generalize sameX u v=r at *;go_upto_region 6 with (fail)
    go_cut [66] from 55 to 66 (fun v wx=>v=.bool (!r)∧Bw wr wx)
    case first=>
     refine wp_region_noPanic (zEp (fun W:World=>W.cell? ⟨w.heap.size,5,none⟩=some (.slice (some ⟨b1,o1,none⟩) x.subs.length c)∧W.cell? ⟨w.heap.size+1,5,none⟩=some (.slice (some ⟨b2,o2,none⟩) x.subs.length d)∧b1<W.heap.size∧b2<W.heap.size∧w.heap.size<W.heap.size∧w.heap.size+1<W.heap.size∧W.cell? ⟨b1,o1+i * 6,none⟩=some (.int .i64 u.kind)∧W.cell? ⟨b1,o1+i * 6+1,none⟩=some (.string u.name)∧W.cell? ⟨b1,o1+i * 6+2,none⟩=some (.string u.more)∧W.cell? ⟨b1,o1+i * 6+3,none⟩=some (.int .i64 u.num)∧W.cell? ⟨b1,o1+i * 6+4,none⟩=some (.int .i64 u.den)∧W.cell? ⟨b1,o1+i * 6+5,none⟩=some (.slice ua u.subs.length uc)∧W.cell? ⟨b2,o2+i * 6,none⟩=some (.int .i64 v.kind)∧W.cell? ⟨b2,o2+i * 6+1,none⟩=some (.string v.name)∧W.cell? ⟨b2,o2+i * 6+2,none⟩=some (.string v.more)∧W.cell? ⟨b2,o2+i * 6+3,none⟩=some (.int .i64 v.num)∧W.cell? ⟨b2,o2+i * 6+4,none⟩=some (.int .i64 v.den)∧W.cell? ⟨b2,o2+i * 6+5,none⟩=some (.slice va v.subs.length vc)) [true,true,true,true,true,true,true,true,true,true] zBm (by kernel_rfl) (fun _ _ _ _ _ h=>h) ⟨x5,y5,hb1,hb2,l1,l2,u0,u1,u2,u3,u4,u5,v0,v1,v2,v3,v4,v5⟩ (fun hHeld=>?_))
     iterate 10 (first|(refine zGz (by rfl) ?_;(try simp only [Act.put,List.setIfInBounds_toArray,List.set_cons_zero,List.set_cons_succ]))|(refine zGy (v:=?_) (by rfl) ?_ ?_;rotate_left;(focus (intro wq hSw;(try dsimp only at hSw);go_simp;(try with_reducible rfl)));(try simp only [Act.put,List.setIfInBounds_toArray,List.set_cons_zero,List.set_cons_succ])))
     refine zJe ?_;have hdr:Bw wr wr.drew:=(Mod.refl [] wr).drew.below;clear hHeld x5 y5 u0 u1 u2 u3 u4 u5 v0 v1 v2 v3 v4 v5 l1 l2;generalize wr.drew=wd at *;go_wp2_with (fail)
     refine (HC.o _ hdr).mono ?_;rintro e w3 ⟨rfl,hb3⟩;go_wp2;refine NoPanic.normal ?_;go_wp2;go_meet
     case rel=>exact ⟨rfl,zA hdr hb3⟩
    case rest=>
    obtain ⟨rfl,hb4⟩:=hcut;have hB4:=hb.trans (hb4.mono hb.size)
    cases r with
    | true=>
     rw [Bool.true_and] at HN;simp only [Bool.not_true]
     go_wp2;go_roundw
     case rel=>exact ⟨i+1,by omega,by go_num,HN,hB4⟩
     case measure=>simp [intOf];omega
    | false=>
     rw [Bool.false_and] at HN;simp only [Bool.not_false]
     go_wp2;go_ret;exact ⟨zAb HN.o.symm,zA hA hB4⟩
   ·have hd:decide ((i:Int)<(x.subs.length:Int))=false:=decide_eq_false (by omega)
    have HF:Hid (T=true):=by show _=_;rw [HI.o,zPw (by omega) (by rw [←HLE.o];omega)]
    go_wp2;go_ret;exact ⟨zAb HF.o.symm,hB⟩
end Go.Proofs.YtfkjfdbjhlmjcaaGreatDoor
