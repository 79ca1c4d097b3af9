/- The reference's recursions over expressions: -/
import Derived.Test.YtfkjfdbjhlmjcaaGreatDoorXG1
set_option maxHeartbeats 16000000
namespace Go.Proofs.YtfkjfdbjhlmjcaaGreatDoor
open Go.RowKit
theorem zRm {l:List Ex} {k:Nat} {x:Ex} (h:l[k]?=some x):nodesL (l.take (k+1))=nodesL (l.take k)+nodesN x:=by
 rw [zJo h,zFq];simp [nodesL]
theorem zRn {l:List Ex} {k:Nat} {x:Ex} (h:l[k]?=some x):depthL (l.take (k+1))=max (depthL (l.take k)) (depthN x):=by
 rw [zJo h]
 have:∀a:List Ex,depthL (a++[x])=max (depthL a) (depthN x):=by
  intro a
  induction a with
  | nil=>simp [depthL]
  | cons y r ih=>rw [List.cons_append,depthL,depthL,ih];omega
 exact this _
theorem yAu (x:Ex):depthN x≤nodesN x:=by
 refine Ex.ind (P:=fun x=>depthN x≤nodesN x) (fun x ih=>?_) x;rw [zCr,zBc]
 have:∀l:List Ex,(∀y∈l,depthN y≤nodesN y)→depthL l≤nodesL l:=by
  intro l
  induction l with
  | nil=>intro _;exact Nat.zero_le _
  | cons y r ihr=>
   intro h;rw [depthL,nodesL];have h1:=h y (List.mem_cons_self ..);have h2:=ihr (fun z hz=>h z (List.mem_cons_of_mem _ hz));have:=zEc y;omega
 have:=this _ ih;omega
theorem zLk (l:List Ex) (k:Nat):nodesL (l.take k)≤nodesL l:=by
 have:=zFq (l.take k) (l.drop k);rw [List.take_append_drop] at this;omega
theorem zVa (x:Ex):∀(a:Option Addr) (c:Nat) (w:World),Reads w [] (subsT x.subs) (.slice a x.subs.length c)→nodesN x≤4000000 →
  Calls Tryz.prog 120 #[exV x a c] w fun e w'=>e=.returned (.int .i64 (nodesN x:Nat))∧Bw w w':=by
 refine Ex.ind (P:=fun x=>∀(a:Option Addr) (c:Nat) (w:World),Reads w [] (subsT x.subs) (.slice a x.subs.length c)→nodesN x≤4000000 →
  Calls Tryz.prog 120 #[exV x a c] w fun e w'=>e=.returned (.int .i64 (nodesN x:Nat))∧Bw w w') (fun x ih=>?_) x
 intro a c w hr hN;have HIH:=lH ih;have HR:=lH hr;have HNX:=lH (zBc x);have hnl:nodesL x.subs≤4000000:=by rw [zBc] at hN;omega
 have hll:=zBq x.subs;have HB:=lH (CBox.new w 60 #[.int .i64 x.kind,.string x.name,.string x.more,.int .i64 x.num,.int .i64 x.den,.slice a x.subs.length c]);have hA:=zAa w (.cells #[.int .i64 x.kind,.string x.name,.string x.more,.int .i64 x.num,.int .i64 x.den,.slice a x.subs.length c] 60);unfold exV;clear ih hr
 go_enter Tryz.func120,Tryz.ntmps120
 go_wp2;generalize World.alloc w _=w0 at *
 go_loopw [3,4] (fun nv iv wr=>∃k:Nat,k≤x.subs.length∧iv=.int .i64 k∧nv=.int .i64 ((1+nodesL (x.subs.take k):Nat):Int)∧CBox wr w.heap.size 60 #[.int .i64 x.kind,.string x.name,.string x.more,.int .i64 x.num,.int .i64 x.den,.slice a x.subs.length c]∧Bw w wr) (fun _ iv _=>x.subs.length - (intOf iv).toNat)
 case atStart=>exact ⟨0,Nat.zero_le _,rfl,rfl,HB.o,hA⟩
 case round=>
  obtain ⟨k,hk,rfl,rfl,hbx,hb⟩:=hrel;have b5:=hbx.cell (i:=5) rfl;have bl:=hbx.lt
  by_cases hlt:k<x.subs.length
  ·obtain ⟨y,hy⟩:∃y,x.subs[k]?=some y:=⟨_,List.getElem?_eq_getElem hlt⟩
   obtain ⟨b,o,sa,sc,rfl,hbb,y0,y1,y2,y3,y4,y5,_,_,HRY⟩:=zAx (HR.o.below hb) hy;have hyn:=zCw (List.mem_of_getElem? hy);have htk:=zLk x.subs (k+1);have HTK:=lH (zRm hy);rw [HTK.o] at htk;have HC:=lH (HIH.o y (List.mem_of_getElem? hy) sa sc wr HRY.o (by omega));unfold exV at HC;generalize hq:nodesN y=q at *;generalize hs:nodesL (x.subs.take k)=s at *;clear hy HRY hq
   have hw1:IntKind.i64.wrap (((1+s:Nat):Int)+(q:Int))=((1+(s+q):Nat):Int):=by
    rw [IntWalk.i64_in _ (by omega)];omega
   go_wp2_with (fail)
   refine HC.o.mono ?_;rintro e w1 ⟨rfl,hb1⟩;have hbx1:=hbx.below hb1;clear hbx b5 y0 y1 y2 y3 y4 y5;go_wp2;go_roundw
   case rel=>exact ⟨k+1,by omega,by go_num,by rw [HTK.o];exact congrArg (Value.int .i64) (by omega),hbx1,zA hb hb1⟩
   case measure=>simp [intOf];omega
  ·have hkl:k=x.subs.length:=by omega
   rw [hkl,List.take_length];go_wp2;go_ret;exact ⟨zAc (by rw [HNX.o]),hb⟩
theorem zVb (x:Ex):∀(a:Option Addr) (c:Nat) (w:World),Reads w [] (subsT x.subs) (.slice a x.subs.length c)→nodesN x≤4000000 →
  Calls Tryz.prog 211 #[exV x a c] w fun e w'=>e=.returned (.int .i64 (depthN x:Nat))∧Bw w w':=by
 refine Ex.ind (P:=fun x=>∀(a:Option Addr) (c:Nat) (w:World),Reads w [] (subsT x.subs) (.slice a x.subs.length c)→nodesN x≤4000000 →
  Calls Tryz.prog 211 #[exV x a c] w fun e w'=>e=.returned (.int .i64 (depthN x:Nat))∧Bw w w') (fun x ih=>?_) x
 intro a c w hr hN;have HIH:=lH ih;have HR:=lH hr;have HNX:=lH (zCr x);have hdx:=yAu x;have hnl:nodesL x.subs≤4000000:=by rw [zBc] at hN;omega
 have hll:=zBq x.subs;have HB:=lH (CBox.new w 60 #[.int .i64 x.kind,.string x.name,.string x.more,.int .i64 x.num,.int .i64 x.den,.slice a x.subs.length c]);have hA:=zAa w (.cells #[.int .i64 x.kind,.string x.name,.string x.more,.int .i64 x.num,.int .i64 x.den,.slice a x.subs.length c] 60);unfold exV;clear ih hr
 go_enter Tryz.func211,Tryz.ntmps211
 go_wp2;generalize World.alloc w _=w0 at *
 go_loopw [3,4] (fun nv iv wr=>∃k:Nat,k≤x.subs.length∧iv=.int .i64 k∧nv=.int .i64 ((depthL (x.subs.take k):Nat):Int)∧CBox wr w.heap.size 60 #[.int .i64 x.kind,.string x.name,.string x.more,.int .i64 x.num,.int .i64 x.den,.slice a x.subs.length c]∧Bw w wr) (fun _ iv _=>x.subs.length - (intOf iv).toNat)
 case atStart=>exact ⟨0,Nat.zero_le _,rfl,rfl,HB.o,hA⟩
 case round=>
  obtain ⟨k,hk,rfl,rfl,hbx,hb⟩:=hrel;have b5:=hbx.cell (i:=5) rfl;have bl:=hbx.lt
  by_cases hlt:k<x.subs.length
  ·obtain ⟨y,hy⟩:∃y,x.subs[k]?=some y:=⟨_,List.getElem?_eq_getElem hlt⟩
   obtain ⟨b,o,sa,sc,rfl,hbb,y0,y1,y2,y3,y4,y5,_,_,HRY⟩:=zAx (HR.o.below hb) hy;have hyn:=zCw (List.mem_of_getElem? hy);have HTK:=lH (zRn hy);have HC:=lH (HIH.o y (List.mem_of_getElem? hy) sa sc wr HRY.o (by omega));unfold exV at HC;generalize hq:depthN y=q at *;generalize hs:depthL (x.subs.take k)=s at *;clear hy HRY hq;go_wp2_with (fail)
   refine HC.o.mono ?_;rintro e w1 ⟨rfl,hb1⟩;have hbx1:=hbx.below hb1;clear hbx b5 y0 y1 y2 y3 y4 y5;go_wp2;go_roundw
   case rel=>exact ⟨k+1,by omega,by go_num,by rw [HTK.o];exact congrArg (Value.int .i64) (by omega),hbx1,zA hb hb1⟩
   case measure=>simp [intOf];omega
  ·have hkl:k=x.subs.length:=by omega
   have hdl:depthL x.subs≤4000000:=by rw [zCr] at hdx;omega
   rw [hkl,List.take_length];have hw1:IntKind.i64.wrap ((depthL x.subs:Int)+1)=(depthL x.subs:Int)+1:=IntWalk.i64_in _ (by omega);go_wp2;go_ret;exact ⟨zAc (by rw [HNX.o];omega),hb⟩
theorem yAv (p:Ex→Bool) (x:Ex) (d:Nat):((preN x d).any fun q=>p q.2)=(p x || x.subs.any fun y=>(preN y 1).any fun q=>p q.2):=by
 have key:∀(x:Ex) (d e:Nat),((preN x d).any fun q=>p q.2)=((preN x e).any fun q=>p q.2):=by
  intro x;refine Ex.ind (P:=fun x=>∀(d e:Nat),((preN x d).any fun q=>p q.2)=((preN x e).any fun q=>p q.2)) (fun x ih d e=>?_) x;rw [zCc,zCc,List.any_cons,List.any_cons]
  congr 1
  have:∀l:List Ex,(∀y∈l,∀d e,((preN y d).any fun q=>p q.2)=((preN y e).any fun q=>p q.2))→∀d e,((preL l d).any fun q=>p q.2)=((preL l e).any fun q=>p q.2):=by
   intro l
   induction l with
   | nil=>intro _ _ _;rfl
   | cons y r ihr=>
    intro h d e;rw [preL,preL,List.any_append,List.any_append,h y (List.mem_cons_self ..) d e,ihr (fun z hz=>h z (List.mem_cons_of_mem _ hz)) d e]
  exact this _ ih _ _
 rw [zCc,List.any_cons]
 congr 1
 have:∀l:List Ex,((preL l (d+1)).any fun q=>p q.2)=l.any fun y=>(preN y 1).any fun q=>p q.2:=by
  intro l
  induction l with
  | nil=>rfl
  | cons y r ihr=>rw [preL,List.any_append,List.any_cons,ihr,key y (d+1) 1]
 exact this _
theorem zTm {α:Type} (p:α→Bool) {l:List α} {k:Nat} {y:α} (h:l[k]?=some y):(l.take (k+1)).any p=((l.take k).any p || p y):=by
 rw [zJo h,List.any_append];simp
theorem zXl {α:Type} (p:α→Bool) {l:List α} {k:Nat} {y:α} (h:l[k]?=some y) (hp:p y=true):l.any p=true:=List.any_eq_true.2 ⟨y,List.mem_of_getElem? h,hp⟩
def anyX (p:Ex→Bool) (x:Ex):Bool:=(preN x 1).any fun q=>p q.2
theorem zRo (p:Ex→Bool) (x:Ex):anyX p x=(p x || x.subs.any (anyX p)):=yAv p x 1
def kindP (k:Int) (x:Ex):Bool:=x.kind==k
def refP (l:ByteArray) (x:Ex):Bool:=x.kind==5 && x.name.data.toList==l.data.toList
theorem zVc (kk:Int) (x:Ex):∀(a:Option Addr) (c:Nat) (w:World),Reads w [] (subsT x.subs) (.slice a x.subs.length c)→SmX 9223372036854775807 x→nodesN x≤4000000 →
  Calls Tryz.prog 165 #[exV x a c,.int .i64 kk] w fun e w'=>e=.returned (.bool (anyX (kindP kk) x))∧Bw w w':=by
 refine Ex.ind (P:=fun x=>∀(a:Option Addr) (c:Nat) (w:World),Reads w [] (subsT x.subs) (.slice a x.subs.length c)→SmX 9223372036854775807 x→nodesN x≤4000000 →
  Calls Tryz.prog 165 #[exV x a c,.int .i64 kk] w fun e w'=>e=.returned (.bool (anyX (kindP kk) x))∧Bw w w') (fun x ih=>?_) x
 intro a c w hr hsm hN;have HIH:=lH ih;have HR:=lH hr;have HX:=lH (zRo (kindP kk) x);have HSM:=lH hsm.subs;have z1:=hsm.name;have z2:=hsm.more;have hnl:nodesL x.subs≤4000000:=by rw [zBc] at hN;omega
 have hll:=zBq x.subs;have HB:=lH (CBox.new w 60 #[.int .i64 x.kind,.string x.name,.string x.more,.int .i64 x.num,.int .i64 x.den,.slice a x.subs.length c]);have hA:=zAa w (.cells #[.int .i64 x.kind,.string x.name,.string x.more,.int .i64 x.num,.int .i64 x.den,.slice a x.subs.length c] 60);have HP:Hid (∀v,(kindP kk) x=v→(kindP kk) x=v):=fun _ h=>h;unfold exV;clear ih hr hsm
 cases hp:(x.kind==kk) with
 | true=>
  have HT:Hid (anyX (kindP kk) x=true):=by show _=_;rw [HX.o,kindP,hp];rfl
  go_enter Tryz.func165,Tryz.ntmps165
  go_wp2;go_ret;exact ⟨zAb (by rw [HT.o]),hA⟩
 | false=>
 have hp:kindP kk x=false:=hp;have HX2:Hid (anyX (kindP kk) x=x.subs.any (anyX (kindP kk))):=by show _=_;rw [HX.o,hp,Bool.false_or]
 clear HX HP
 go_enter Tryz.func165,Tryz.ntmps165
 all_goals
  go_wp2;generalize World.alloc w _=w0 at *
  go_loopw [5] (fun iv wr=>∃k:Nat,k≤x.subs.length∧iv=.int .i64 k∧Hid ((x.subs.take k).any (anyX (kindP kk))=false)∧CBox wr w.heap.size 60 #[.int .i64 x.kind,.string x.name,.string x.more,.int .i64 x.num,.int .i64 x.den,.slice a x.subs.length c]∧Bw w wr) (fun iv _=>x.subs.length - (intOf iv).toNat)
  case atStart=>exact ⟨0,Nat.zero_le _,rfl,rfl,HB.o,hA⟩
  case round=>
   obtain ⟨q,hq,rfl,HF,hbx,hb⟩:=hrel;have b5:=hbx.cell (i:=5) rfl;have bl:=hbx.lt
   by_cases hlt:q<x.subs.length
   ·obtain ⟨y,hy⟩:∃y,x.subs[q]?=some y:=⟨_,List.getElem?_eq_getElem hlt⟩
    obtain ⟨b,o,sa,sc,rfl,hbb,y0,y1,y2,y3,y4,y5,_,_,HRY⟩:=zAx (HR.o.below hb) hy;have hyn:=zCw (List.mem_of_getElem? hy);have HTK:=lH (zTm (anyX (kindP kk)) hy);have HYS:=lH (fun h=>zXl (anyX (kindP kk)) hy h);have HC:=lH (HIH.o y (List.mem_of_getElem? hy) sa sc wr HRY.o (HSM.o y (List.mem_of_getElem? hy)) (by omega));unfold exV at HC;generalize hr:anyX (kindP kk) y=r at *;clear hy HRY hr;go_wp2_with (fail)
    refine HC.o.mono ?_;rintro e w1 ⟨rfl,hb1⟩;have hbx1:=hbx.below hb1;clear hbx b5 y0 y1 y2 y3 y4 y5
    cases r with
    | true=>
     go_wp2;go_ret;exact ⟨zAb (by rw [HX2.o];exact (HYS.o (by first|rfl|trivial)).symm),zA hb hb1⟩
    | false=>
     go_wp2;go_roundw
     case rel=>exact ⟨q+1,by omega,by go_num,by show _=_;rw [HTK.o,HF.o];rfl,hbx1,zA hb hb1⟩
     case measure=>simp [intOf];omega
   ·have hkl:q=x.subs.length:=by omega
    rw [hkl,List.take_length] at HF;go_wp2;go_ret;exact ⟨zAb (by rw [HX2.o,HF.o]),hb⟩
theorem zPk (l:ByteArray) (x:Ex):∀(a:Option Addr) (c:Nat) (w:World),Reads w [] (subsT x.subs) (.slice a x.subs.length c)→SmX 9223372036854775807 x→nodesN x≤4000000 →
  Calls Tryz.prog 167 #[exV x a c,.string l] w fun e w'=>e=.returned (.bool (anyX (refP l) x))∧Bw w w':=by
 refine Ex.ind (P:=fun x=>∀(a:Option Addr) (c:Nat) (w:World),Reads w [] (subsT x.subs) (.slice a x.subs.length c)→SmX 9223372036854775807 x→nodesN x≤4000000 →
  Calls Tryz.prog 167 #[exV x a c,.string l] w fun e w'=>e=.returned (.bool (anyX (refP l) x))∧Bw w w') (fun x ih=>?_) x
 intro a c w hr hsm hN;have HIH:=lH ih;have HR:=lH hr;have HX:=lH (zRo (refP l) x);have HSM:=lH hsm.subs;have z1:=hsm.name;have z2:=hsm.more;have hnl:nodesL x.subs≤4000000:=by rw [zBc] at hN;omega
 have hll:=zBq x.subs;have HB:=lH (CBox.new w 60 #[.int .i64 x.kind,.string x.name,.string x.more,.int .i64 x.num,.int .i64 x.den,.slice a x.subs.length c]);have hA:=zAa w (.cells #[.int .i64 x.kind,.string x.name,.string x.more,.int .i64 x.num,.int .i64 x.den,.slice a x.subs.length c] 60);have HP:Hid (∀v,(refP l) x=v→(refP l) x=v):=fun _ h=>h;unfold exV;clear ih hr hsm;have HE:Hid (refP l x=((x.kind==5) && (x.name.toList==l.toList))):=by show _=_;rw [refP,tl,tl]
 cases hp:((x.kind==5) && (x.name.toList==l.toList)) with
 | true=>
  have HT:Hid (anyX (refP l) x=true):=by show _=_;rw [HX.o,HE.o,hp];rfl
  rw [Bool.and_eq_true] at hp;obtain ⟨h5,hl⟩:=hp
  go_enter Tryz.func167,Tryz.ntmps167
  go_wp2;go_ret;exact ⟨zAb (by rw [HT.o]),hA⟩
 | false=>
 have hcase:Hid ((x.kind==5)=false∨(x.kind==5)=true∧(x.name.toList==l.toList)=false):=by
  cases h5:(x.kind==5) with
  | false=>exact .inl rfl
  | true=>rw [h5] at hp;exact .inr ⟨rfl,by simpa using hp⟩
 have hp:refP l x=false:=by rw [HE.o,hp]
 have HX2:Hid (anyX (refP l) x=x.subs.any (anyX (refP l))):=by show _=_;rw [HX.o,hp,Bool.false_or]
 clear HX HP
 go_enter Tryz.func167,Tryz.ntmps167
 rcases hcase.out with h5|⟨h5,hl⟩
 all_goals
  go_wp2;generalize World.alloc w _=w0 at *
  go_loopw [5] (fun iv wr=>∃k:Nat,k≤x.subs.length∧iv=.int .i64 k∧Hid ((x.subs.take k).any (anyX (refP l))=false)∧CBox wr w.heap.size 60 #[.int .i64 x.kind,.string x.name,.string x.more,.int .i64 x.num,.int .i64 x.den,.slice a x.subs.length c]∧Bw w wr) (fun iv _=>x.subs.length - (intOf iv).toNat)
  case atStart=>exact ⟨0,Nat.zero_le _,rfl,rfl,HB.o,hA⟩
  case round=>
   obtain ⟨q,hq,rfl,HF,hbx,hb⟩:=hrel;have b5:=hbx.cell (i:=5) rfl;have bl:=hbx.lt
   by_cases hlt:q<x.subs.length
   ·obtain ⟨y,hy⟩:∃y,x.subs[q]?=some y:=⟨_,List.getElem?_eq_getElem hlt⟩
    obtain ⟨b,o,sa,sc,rfl,hbb,y0,y1,y2,y3,y4,y5,_,_,HRY⟩:=zAx (HR.o.below hb) hy;have hyn:=zCw (List.mem_of_getElem? hy);have HTK:=lH (zTm (anyX (refP l)) hy);have HYS:=lH (fun h=>zXl (anyX (refP l)) hy h);have HC:=lH (HIH.o y (List.mem_of_getElem? hy) sa sc wr HRY.o (HSM.o y (List.mem_of_getElem? hy)) (by omega));unfold exV at HC;generalize hr:anyX (refP l) y=r at *;clear hy HRY hr;go_wp2_with (fail)
    refine HC.o.mono ?_;rintro e w1 ⟨rfl,hb1⟩;have hbx1:=hbx.below hb1;clear hbx b5 y0 y1 y2 y3 y4 y5
    cases r with
    | true=>
     go_wp2;go_ret;exact ⟨zAb (by rw [HX2.o];exact (HYS.o (by first|rfl|trivial)).symm),zA hb hb1⟩
    | false=>
     go_wp2;go_roundw
     case rel=>exact ⟨q+1,by omega,by go_num,by show _=_;rw [HTK.o,HF.o];rfl,hbx1,zA hb hb1⟩
     case measure=>simp [intOf];omega
   ·have hkl:q=x.subs.length:=by omega
    rw [hkl,List.take_length] at HF;go_wp2;go_ret;exact ⟨zAb (by rw [HX2.o,HF.o]),hb⟩
end Go.Proofs.YtfkjfdbjhlmjcaaGreatDoor
