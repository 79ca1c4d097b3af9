/- syntax.checkNode. -/
import Derived.Test.YtfkjfdbjhlmjcaaGreatDoorXSyB
import Derived.Deep.DeepCutAuto
set_option maxRecDepth 100000
set_option maxHeartbeats 16000000
namespace Go.Proofs.YtfkjfdbjhlmjcaaGreatDoor
open Go.RowKit
def argR (n m:ByteArray) (i d:Int) (len a b c:Nat):Bool:=(decide (a<1) && !(isE n)) || (decide (a<2) && !(isE m)) || (decide (b<1) && i != 0) || (decide (b<2) && d != 0) || len != c
def nodeR (k:Int) (n m:ByteArray) (i d:Int) (len:Nat):Int:=
 match shapeK k with
 | none=>9
 | some (a,b,c)=>if argR n m i d len a b c then 1 else if namesE k n m a=0 then numsE k i d else namesE k n m a
theorem zMc (x:Ex):nodeErr x=nodeR x.kind x.name x.more x.num x.den x.subs.length:=by
 unfold nodeErr nodeR
 cases shapeK x.kind with
 | none=>rfl
 | some p=>
  obtain ⟨a,b,c⟩:=p;simp only []
  rw [show argBad x a b c=argR x.name x.more x.num x.den x.subs.length a b c from rfl,zVg,zXn];unfold namesE numsE
  cases argR x.name x.more x.num x.den x.subs.length a b c with
  | true=>rfl
  | false=>
   cases namesR x.kind x.name x.more a with
   | false=>rfl
   | true=>
    by_cases h:x.kind=13∧x.name.data.toList=x.more.data.toList
    ·rw [if_pos h,if_pos h];rfl
    ·rw [if_neg h,if_neg h];rfl
theorem zTn {k:Int} {a b c:Nat} (h:shapeK k=some (a,b,c)):(a=0∧b=1)∨(a=1∧b=0)∨(a=2∧b=0)∨(a=1∧b=1)∨(a=0∧b=0)∨(a=0∧b=2):=by
 rcases zDt k with hr|hr
 ·have:k=1∨k=2∨k=3∨k=4∨k=5∨k=6∨k=7∨k=8∨k=9∨k=10∨k=11∨k=12∨k=13∨k=14∨k=15:=by omega
  rcases this with rfl|rfl|rfl|rfl|rfl|rfl|rfl|rfl|rfl|rfl|rfl|rfl|rfl|rfl|rfl<;>simp [shapeK] at h<;>obtain ⟨rfl,rfl,rfl⟩:=h<;>simp
 ·rw [hr] at h;cases h
theorem zIk (n:ByteArray):isE n=(n.toList==[]):=by rw [isE,tl]
theorem zTo (len c:Nat):(len != c)=((len:Int) != (c:Int)):=by
 rw [Bool.eq_iff_iff,bne_iff_ne,bne_iff_ne];omega
theorem zNq (k i d:Int) (n m:ByteArray) (sa:Option Addr) (len sc:Nat) (hn:n.size≤40000) (hm:m.size≤40000) (w:World) :
  Calls Tryz.prog 184 #[.agg #[.int .i64 k,.string n,.string m,.int .i64 i,.int .i64 d,.slice sa len sc]] w fun e w'=>e=.returned (.int .i64 (nodeR k n m i d len))∧Bw w w':=by
 have HB:=lH (CBox.new w 60 #[.int .i64 k,.string n,.string m,.int .i64 i,.int .i64 d,.slice sa len sc]);have hA:=zAa w (.cells #[.int .i64 k,.string n,.string m,.int .i64 i,.int .i64 d,.slice sa len sc] 60)
 have HN:Hid (nodeR k n m i d len=match shapeK k with
  | none=>9
  | some (a,b,c)=>if argR n m i d len a b c then 1 else if namesE k n m a=0 then numsE k i d else namesE k n m a):=rfl
 have HS:=lH (fun w=>zRk k w);unfold shapeV at HS;have HEn:=lH (zIk n);have HEm:=lH (zIk m)
 cases hk:shapeK k with
 | none=>
  rw [hk] at HS HN
  go_enter Tryz.func184,Tryz.ntmps184
  go_wp2_with (fail)
  refine (HS.o _).mono ?_;rintro e w1 ⟨rfl,hb1⟩;go_wp2;go_ret;exact ⟨zAc (by rw [HN.o]),zA (zA hA hb1) (zAa _ _)⟩
 | some p=>
 obtain ⟨a,b,c⟩:=p;rw [hk] at HS HN;simp only [] at HS HN
 have HLe:=lH (zTo len c);have HK:=lH hk;have HCN:=lH (fun w=>zLl k i d n m (.slice sa len sc) a b c hk hn hm w);have HNU:=lH (fun w=>zJa k i d n m (.slice sa len sc) w);have hab:=zTn hk;clear hk
 go_enter Tryz.func184,Tryz.ntmps184
 go_wp2_with (fail)
 refine (HS.o _).mono ?_;rintro e w1 ⟨rfl,hb1⟩;have HB1:=lH (HB.o.below hb1);have hbb:=zA (zA hA hb1) (zAa w1 (.cells #[.int .i64 (a:Int),.int .i64 (b:Int),.int .i64 (c:Int)] 222));have HX:=lH (HB1.o.alloc (.cells #[.int .i64 (a:Int),.int .i64 (b:Int),.int .i64 (c:Int)] 222));have HY:=lH (CBox.new w1 222 #[.int .i64 (a:Int),.int .i64 (b:Int),.int .i64 (c:Int)]);go_upto_region 4 with (fail)
 generalize World.alloc w1 _=w2 at *;have y0:=HY.o.cell (i:=0) rfl;have y1:=HY.o.cell (i:=1) rfl;have y2:=HY.o.cell (i:=2) rfl;have yl:=HY.o.lt;have x0:=HX.o.cell (i:=0) rfl;have x1:=HX.o.cell (i:=1) rfl;have x2:=HX.o.cell (i:=2) rfl;have x3:=HX.o.cell (i:=3) rfl;have x4:=HX.o.cell (i:=4) rfl;have x5:=HX.o.cell (i:=5) rfl;have xl:=HX.o.lt
 go_cut [59] from 14 to 59 (fun v wx=>v=.bool (argR n m i d len a b c)∧w2=wx)
 case first=>
  clear HCN HNU HS HB HB1 hbb HN
  rcases hab with ⟨rfl,rfl⟩|⟨rfl,rfl⟩|⟨rfl,rfl⟩|⟨rfl,rfl⟩|⟨rfl,rfl⟩|⟨rfl,rfl⟩
  ·skip
   cases hn:(n.toList==[]) with
   | true=>
    cases hm:(m.toList==[]) with
    | true=>
     cases hd:(d != 0) with
     | true=>
      have HA:Hid (argR n m i d len 0 1 c=true):=by show _=_;simp only [argR,HEn.o,HEm.o,HLe.o];simp [hn,hm,hd]
      go_wp2;go_meet
      case rel=>exact ⟨by rw [HA.o],rfl⟩
     | false=>
      cases hl:((len:Int) != (c:Int)) with
      | true=>
       have HA:Hid (argR n m i d len 0 1 c=true):=by show _=_;simp only [argR,HEn.o,HEm.o,HLe.o];simp [hn,hm,hd,hl]
       go_wp2;go_meet
       case rel=>exact ⟨by rw [HA.o],rfl⟩
      | false=>
       have HA:Hid (argR n m i d len 0 1 c=false):=by show _=_;simp only [argR,HEn.o,HEm.o,HLe.o];simp [hn,hm,hd,hl]
       go_wp2;go_meet
       case rel=>exact ⟨by rw [HA.o],rfl⟩
    | false=>
     have HA:Hid (argR n m i d len 0 1 c=true):=by show _=_;simp only [argR,HEn.o,HEm.o,HLe.o];simp [hn,hm]
     go_wp2;go_meet
     case rel=>exact ⟨by rw [HA.o],rfl⟩
   | false=>
    have HA:Hid (argR n m i d len 0 1 c=true):=by show _=_;simp only [argR,HEn.o,HEm.o,HLe.o];simp [hn]
    go_wp2;go_meet
    case rel=>exact ⟨by rw [HA.o],rfl⟩
  ·skip
   cases hm:(m.toList==[]) with
   | true=>
    cases hi:(i != 0) with
    | true=>
     have HA:Hid (argR n m i d len 1 0 c=true):=by show _=_;simp only [argR,HEn.o,HEm.o,HLe.o];simp [hm,hi]
     go_wp2;go_meet
     case rel=>exact ⟨by rw [HA.o],rfl⟩
    | false=>
     cases hd:(d != 0) with
     | true=>
      have HA:Hid (argR n m i d len 1 0 c=true):=by show _=_;simp only [argR,HEn.o,HEm.o,HLe.o];simp [hm,hi,hd]
      go_wp2;go_meet
      case rel=>exact ⟨by rw [HA.o],rfl⟩
     | false=>
      cases hl:((len:Int) != (c:Int)) with
      | true=>
       have HA:Hid (argR n m i d len 1 0 c=true):=by show _=_;simp only [argR,HEn.o,HEm.o,HLe.o];simp [hm,hi,hd,hl]
       go_wp2;go_meet
       case rel=>exact ⟨by rw [HA.o],rfl⟩
      | false=>
       have HA:Hid (argR n m i d len 1 0 c=false):=by show _=_;simp only [argR,HEn.o,HEm.o,HLe.o];simp [hm,hi,hd,hl]
       go_wp2;go_meet
       case rel=>exact ⟨by rw [HA.o],rfl⟩
   | false=>
    have HA:Hid (argR n m i d len 1 0 c=true):=by show _=_;simp only [argR,HEn.o,HEm.o,HLe.o];simp [hm]
    go_wp2;go_meet
    case rel=>exact ⟨by rw [HA.o],rfl⟩
  ·skip
   cases hi:(i != 0) with
   | true=>
    have HA:Hid (argR n m i d len 2 0 c=true):=by show _=_;simp only [argR,HEn.o,HEm.o,HLe.o];simp [hi]
    go_wp2;go_meet
    case rel=>exact ⟨by rw [HA.o],rfl⟩
   | false=>
    cases hd:(d != 0) with
    | true=>
     have HA:Hid (argR n m i d len 2 0 c=true):=by show _=_;simp only [argR,HEn.o,HEm.o,HLe.o];simp [hi,hd]
     go_wp2;go_meet
     case rel=>exact ⟨by rw [HA.o],rfl⟩
    | false=>
     cases hl:((len:Int) != (c:Int)) with
     | true=>
      have HA:Hid (argR n m i d len 2 0 c=true):=by show _=_;simp only [argR,HEn.o,HEm.o,HLe.o];simp [hi,hd,hl]
      go_wp2;go_meet
      case rel=>exact ⟨by rw [HA.o],rfl⟩
     | false=>
      have HA:Hid (argR n m i d len 2 0 c=false):=by show _=_;simp only [argR,HEn.o,HEm.o,HLe.o];simp [hi,hd,hl]
      go_wp2;go_meet
      case rel=>exact ⟨by rw [HA.o],rfl⟩
  ·skip
   cases hm:(m.toList==[]) with
   | true=>
    cases hd:(d != 0) with
    | true=>
     have HA:Hid (argR n m i d len 1 1 c=true):=by show _=_;simp only [argR,HEn.o,HEm.o,HLe.o];simp [hm,hd]
     go_wp2;go_meet
     case rel=>exact ⟨by rw [HA.o],rfl⟩
    | false=>
     cases hl:((len:Int) != (c:Int)) with
     | true=>
      have HA:Hid (argR n m i d len 1 1 c=true):=by show _=_;simp only [argR,HEn.o,HEm.o,HLe.o];simp [hm,hd,hl]
      go_wp2;go_meet
      case rel=>exact ⟨by rw [HA.o],rfl⟩
     | false=>
      have HA:Hid (argR n m i d len 1 1 c=false):=by show _=_;simp only [argR,HEn.o,HEm.o,HLe.o];simp [hm,hd,hl]
      go_wp2;go_meet
      case rel=>exact ⟨by rw [HA.o],rfl⟩
   | false=>
    have HA:Hid (argR n m i d len 1 1 c=true):=by show _=_;simp only [argR,HEn.o,HEm.o,HLe.o];simp [hm]
    go_wp2;go_meet
    case rel=>exact ⟨by rw [HA.o],rfl⟩
  ·skip
   cases hn:(n.toList==[]) with
   | true=>
    cases hm:(m.toList==[]) with
    | true=>
     cases hi:(i != 0) with
     | true=>
      have HA:Hid (argR n m i d len 0 0 c=true):=by show _=_;simp only [argR,HEn.o,HEm.o,HLe.o];simp [hn,hm,hi]
      go_wp2;go_meet
      case rel=>exact ⟨by rw [HA.o],rfl⟩
     | false=>
      cases hd:(d != 0) with
      | true=>
       have HA:Hid (argR n m i d len 0 0 c=true):=by show _=_;simp only [argR,HEn.o,HEm.o,HLe.o];simp [hn,hm,hi,hd]
       go_wp2;go_meet
       case rel=>exact ⟨by rw [HA.o],rfl⟩
      | false=>
       cases hl:((len:Int) != (c:Int)) with
       | true=>
        have HA:Hid (argR n m i d len 0 0 c=true):=by show _=_;simp only [argR,HEn.o,HEm.o,HLe.o];simp [hn,hm,hi,hd,hl]
        go_wp2;go_meet
        case rel=>exact ⟨by rw [HA.o],rfl⟩
       | false=>
        have HA:Hid (argR n m i d len 0 0 c=false):=by show _=_;simp only [argR,HEn.o,HEm.o,HLe.o];simp [hn,hm,hi,hd,hl]
        go_wp2;go_meet
        case rel=>exact ⟨by rw [HA.o],rfl⟩
    | false=>
     have HA:Hid (argR n m i d len 0 0 c=true):=by show _=_;simp only [argR,HEn.o,HEm.o,HLe.o];simp [hn,hm]
     go_wp2;go_meet
     case rel=>exact ⟨by rw [HA.o],rfl⟩
   | false=>
    have HA:Hid (argR n m i d len 0 0 c=true):=by show _=_;simp only [argR,HEn.o,HEm.o,HLe.o];simp [hn]
    go_wp2;go_meet
    case rel=>exact ⟨by rw [HA.o],rfl⟩
  ·skip
   cases hn:(n.toList==[]) with
   | true=>
    cases hm:(m.toList==[]) with
    | true=>
     cases hl:((len:Int) != (c:Int)) with
     | true=>
      have HA:Hid (argR n m i d len 0 2 c=true):=by show _=_;simp only [argR,HEn.o,HEm.o,HLe.o];simp [hn,hm,hl]
      go_wp2;go_meet
      case rel=>exact ⟨by rw [HA.o],rfl⟩
     | false=>
      have HA:Hid (argR n m i d len 0 2 c=false):=by show _=_;simp only [argR,HEn.o,HEm.o,HLe.o];simp [hn,hm,hl]
      go_wp2;go_meet
      case rel=>exact ⟨by rw [HA.o],rfl⟩
    | false=>
     have HA:Hid (argR n m i d len 0 2 c=true):=by show _=_;simp only [argR,HEn.o,HEm.o,HLe.o];simp [hn,hm]
     go_wp2;go_meet
     case rel=>exact ⟨by rw [HA.o],rfl⟩
   | false=>
    have HA:Hid (argR n m i d len 0 2 c=true):=by show _=_;simp only [argR,HEn.o,HEm.o,HLe.o];simp [hn]
    go_wp2;go_meet
    case rel=>exact ⟨by rw [HA.o],rfl⟩
 case rest=>
 obtain ⟨rfl,rfl⟩:=hcut
 cases ha:argR n m i d len a b c with
 | true=>
  rw [ha] at HN;go_wp2;go_ret;exact ⟨zAc (by rw [HN.o];rfl),hbb⟩
 | false=>
  rw [ha] at HN;generalize hq:namesE k n m a=q at *;clear hq;go_wp2_with (fail)
  refine (HCN.o _).mono ?_;rintro e w3 ⟨rfl,hb3⟩;have HX3:=lH (HX.o.below hb3);have z0:=HX3.o.cell (i:=0) rfl;have z1:=HX3.o.cell (i:=1) rfl;have z2:=HX3.o.cell (i:=2) rfl;have z3:=HX3.o.cell (i:=3) rfl;have z4:=HX3.o.cell (i:=4) rfl;have z5:=HX3.o.cell (i:=5) rfl;have zl:=HX3.o.lt
  by_cases hq:q=0
  ·have hqb:(q != 0)=false:=by simp [hq]
   have HN2:Hid (nodeR k n m i d len=numsE k i d):=by show _=_;rw [HN.o,if_neg (by simp),if_pos hq]
   generalize numsE k i d=r at *;clear hq;go_wp2_with (fail)
   refine (HNU.o _).mono ?_;rintro e w4 ⟨rfl,hb4⟩;go_wp2;go_ret;exact ⟨zAc (by rw [HN2.o]),zA hbb (zA hb3 hb4)⟩
  ·have hqb:(q != 0)=true:=by simp [hq]
   have HN2:Hid (nodeR k n m i d len=q):=by show _=_;rw [HN.o,if_neg (by simp),if_neg hq]
   go_wp2;go_ret;exact ⟨zAc (by rw [HN2.o]),zA hbb hb3⟩
end Go.Proofs.YtfkjfdbjhlmjcaaGreatDoor
namespace Go.Proofs.YtfkjfdbjhlmjcaaGreatDoor
open Go.RowKit Go.Shelf
attribute [local go_sem] Oper.semAt_some
theorem yDm {A B:World} {row:Option Nat} {b n:Nat} {t:TypeId} {v:Array Value} (h:CBox A b t v) (hg:A.grownBy B row) (hr:∀r,row=some r→n≤r∧∃o:Obj,A.heap[r]?=some o∧o.isCells=false):CBox B b t v:=
 (hg.block b h.lt fun e=>by
  obtain ⟨_,o,ho,hc⟩:=hr b e.symm;have h':A.heap[b]?=_:=h
  rw [h'] at ho;cases ho;cases hc).trans h
theorem zTp {w A B:World} {row:Option Nat} {n m:Nat} (h:Below m w A) (hm:m≤n) (hw:m≤w.heap.size) (hg:A.grownBy B row) (hr:∀r,row=some r→n≤r∧∃o:Obj,A.heap[r]?=some o∧o.isCells=false):Below m w B:=
 ⟨hg.os.trans h.os,hg.tape.trans h.tape,hg.output.trans h.output,Nat.le_trans h.size hg.size,fun k hk=>(hg.block k (by have:=h.size;omega) fun e=>by have:=(hr k e.symm).1;omega).trans (h.block k hk)⟩
theorem zPm (x:Ex):∀d,∀p∈preN x d,p.1+1≤d+depthN x:=by
 refine Ex.ind (P:=fun x=>∀d,∀p∈preN x d,p.1+1≤d+depthN x) (fun x ih d p hp=>?_) x;rw [zCc,List.mem_cons] at hp;rw [zCr]
 rcases hp with rfl|hp
 ·show d+1≤_;omega
 ·have:∀l:List Ex,(∀y∈l,∀d,∀p∈preN y d,p.1+1≤d+depthN y)→∀p∈preL l (d+1),p.1+1≤d+1+depthL l:=by
   intro l
   induction l with
   | nil=>intro _ p hp;rw [preL] at hp;cases hp
   | cons y r ihr=>
    intro h p hp;rw [preL,List.mem_append] at hp;rw [depthL]
    rcases hp with hp|hp
    ·have:=h y (List.mem_cons_self ..) _ p hp;omega
    ·have:=ihr (fun z hz=>h z (List.mem_cons_of_mem _ hz)) p hp;omega
  have:=this _ ih p hp;omega
theorem zPn (x:Ex):∀d,∃p∈preN x d,p.1+1=d+depthN x:=by
 refine Ex.ind (P:=fun x=>∀d,∃p∈preN x d,p.1+1=d+depthN x) (fun x ih d=>?_) x
 have:∀l:List Ex,(∀y∈l,∀d,∃p∈preN y d,p.1+1=d+depthN y)→l=[]∨∃p∈preL l (d+1),p.1+1=d+1+depthL l:=by
  intro l
  induction l with
  | nil=>intro _;exact .inl rfl
  | cons y r ihr=>
   intro h;refine .inr ?_;obtain ⟨p,hp,e⟩:=h y (List.mem_cons_self ..) (d+1);rw [preL,depthL]
   rcases ihr (fun z hz=>h z (List.mem_cons_of_mem _ hz)) with rfl|⟨q,hq,e2⟩
   ·exact ⟨p,List.mem_append_left _ hp,by rw [depthL];omega⟩
   ·rcases Nat.le_total (depthL r) (depthN y) with h'|h'
    ·exact ⟨p,List.mem_append_left _ hp,by omega⟩
    ·exact ⟨q,List.mem_append_right _ hq,by omega⟩
 rw [zCc,zCr]
 rcases this _ ih with h|⟨p,hp,e⟩
 ·exact ⟨(d,x),List.mem_cons_self ..,by rw [h,depthL]⟩
 ·exact ⟨p,List.mem_cons_of_mem _ hp,by omega⟩
theorem zPo {x:Ex} {k:Nat} {p:Nat×Ex} (h:(preN x 1)[k]?=some p) (hb:400<k+1∨40<p.1):exprErr x=4:=by
 rw [exprErr,if_pos]
 rcases hb with hb|hb
 ·have:=(List.getElem?_eq_some_iff.1 h).1
  rw [zJq] at this;exact .inl (by omega)
 ·have:=zPm x 1 p (List.mem_of_getElem? h)
  exact .inr (by omega)
theorem zVi {x:Ex} (h:∀j p,j<nodesN x→(preN x 1)[j]?=some p→j+1≤400∧p.1≤40):exprErr x=firstE ((preN x 1).map (·.2)):=by
 rw [exprErr,if_neg];rintro (h1|h1)
 ·obtain ⟨p,hp⟩:∃p,(preN x 1)[nodesN x - 1]?=some p:=by
   rw [List.getElem?_eq_getElem (by rw [zJq];omega)];exact ⟨_,rfl⟩
  have:=(h _ _ (by omega) hp).1;omega
 ·obtain ⟨p,hp,e⟩:=zPn x 1
  obtain ⟨j,hj⟩:=List.getElem?_of_mem hp;have hl:=(List.getElem?_eq_some_iff.1 hj).1;rw [zJq] at hl;have:=(h j p hl hj).2;omega
theorem zXs {l:List (Nat×Ex)} {k:Nat} {p:Nat×Ex} (h:l[k]?=some p) (h0:firstE ((l.take k).map (·.2))=0):firstE ((l.take (k+1)).map (·.2))=nodeErr p.2∧(nodeErr p.2≠0→firstE (l.map (·.2))=nodeErr p.2):=by
 have h1:firstE ((l.take (k+1)).map (·.2))=nodeErr p.2:=by
  rw [zJo h,List.map_append,zHw,if_pos h0];show firstE [p.2]=_
  rw [firstE,firstE];split
  ·next e=>rw [e]
  ·rfl
 refine ⟨h1,fun hn=>?_⟩;rw [←List.take_append_drop (k+1) l,List.map_append,zHw,h1,if_neg hn]
theorem yDn {P:Ex→Prop} (hp:∀y,P y→∀z∈y.subs,P z) (x:Ex):∀d,P x→∀p∈preN x d,P p.2:=by
 refine Ex.ind (P:=fun x=>∀d,P x→∀p∈preN x d,P p.2) (fun x ih d hx p h=>?_) x;rw [zCc,List.mem_cons] at h
 rcases h with rfl|h
 ·exact hx
 ·have:∀l:List Ex,(∀y∈l,∀d,P y→∀p∈preN y d,P p.2)→(∀y∈l,P y)→∀p∈preL l (d+1),P p.2:=by
   intro l
   induction l with
   | nil=>intro _ _ p hp;rw [preL] at hp;cases hp
   | cons y r ihr=>
    intro h1 h2 p hp;rw [preL,List.mem_append] at hp
    rcases hp with hp|hp
    ·exact h1 y (List.mem_cons_self ..) _ (h2 y (List.mem_cons_self ..)) p hp
    ·exact ihr (fun z hz=>h1 z (List.mem_cons_of_mem _ hz)) (fun z hz=>h2 z (List.mem_cons_of_mem _ hz)) p hp
  exact this _ ih (hp x hx) p h
def cell6 (x:Ex) (a:Option Addr) (c:Nat):Array Value:=#[.int .i64 x.kind,.string x.name,.string x.more,.int .i64 x.num,.int .i64 x.den,.slice a x.subs.length c]
def CkI (x:Ex) (a:Option Addr) (c:Nat) (w:World) (n k:Nat) (W:World):Prop:=
 CBox W w.heap.size 60 (cell6 x a c)∧CBox W (w.heap.size+1) 27 #[.int .i64 0]∧CBox W (w.heap.size+1+1) 3 #[.int .i64 k] ∧
 Hid (∀j p,j<k→(preN x 1)[j]?=some p→j+1≤400∧p.1≤40)∧Bw w W∧n≤W.heap.size
def CkX (x:Ex) (w:World) (n:Nat) (W:World) (v:Int):Prop:=Hid (exprErr x=v)∧CBox W (w.heap.size+1) 27 #[.int .i64 v]∧Bw w W∧n≤W.heap.size
def CkJ (x:Ex) (w:World) (n D k:Nat) (W:World):Prop:=CBox W (w.heap.size+1) 27 #[.int .i64 0]∧Hid (firstE (((preN x 1).take k).map (·.2))=0)∧Bw w W∧n≤W.heap.size∧W.heap[D]?=some (.deferred (some []))
theorem yEu {A B:World} {row:Option Nat} {D n:Nat} {o:Obj} (h:A.heap[D]?=some o) (hD:D<n) (hg:A.grownBy B row) (hr:∀r,row=some r→n≤r∧∃o:Obj,A.heap[r]?=some o∧o.isCells=false):B.heap[D]?=some o:=
 (hg.block D (Array.getElem?_eq_some_iff.1 h).1 fun e=>by have:=(hr D e.symm).1;omega).trans h
theorem zEo (x:Ex) (a:Option Addr) (c:Nat) (w:World) (hr:Reads w [] (subsT x.subs) (.slice a x.subs.length c)) (hc1:x.subs.length≤c) (hc2:c≤9223372036854775807) (hsm:SmX 40000 x) (hN:nodesN x≤4000000) :
  Calls Tryz.prog 155 #[exV x a c] w fun e w'=>e=.returned (.int .i64 (exprErr x))∧Bw w w':=by
 have HNo:=lH (fun w=>zXj x a c w);have HR:Hid (Reads w [w.heap.size+1+1,w.heap.size+1] (subsT x.subs) (.slice a x.subs.length c)):=(hr.more (k:=w.heap.size+1) (by omega)).more (k:=w.heap.size+1+1) (by omega);unfold exV at *;clear hr;refine (callsIn_wide (n:=5)).1 ?_;refine callsIn_of_wp_marks Tryz.func155 rfl trivial ?_ rfl;simp only [Tryz.ntmps155,List.size_toArray,List.length_cons,List.length_nil,Nat.reduceAdd,Nat.reduceSub,Array.replicate_succ,Array.replicate_zero,List.push_toArray,List.append_toArray,List.nil_append,List.cons_append]
 gi_wp2_with (refine ⟨trivial,?_⟩;gi_at_call 183;refine (callsIn_wide.2 (HNo.o _)).mono ?_;rintro e w' ⟨rfl,rfl⟩)
 obtain ⟨W0,hW0,hI0⟩:∃W0,W0=(((w.alloc (.cells #[.int .i64 x.kind,.string x.name,.string x.more,.int .i64 x.num,.int .i64 x.den,.slice a x.subs.length c] 60)).alloc (.cells #[.int .i64 0] 27)).alloc (.cells #[.int .i64 0] 3)).alloc (.cells #[.int .i64 x.kind,.string x.name,.string x.more,.int .i64 x.num,.int .i64 x.den,.slice a x.subs.length c] 60) ∧
   (CkI x a c w (w.heap.size+4) 0 W0∧CBox W0 (w.heap.size+1+1+1) 60 (cell6 x a c)∧W0.heap.size=w.heap.size+4):=by
  refine ⟨_,rfl,⟨?_,?_,?_,fun j p hj=>by omega,?_,by simp⟩,?_,by simp⟩
  ·exact (((CBox.new w _ _).alloc _).alloc _).alloc _
  ·have:=((CBox.new (w.alloc (.cells #[.int .i64 x.kind,.string x.name,.string x.more,.int .i64 x.num,.int .i64 x.den,.slice a x.subs.length c] 60)) 27 #[.int .i64 0]).alloc (.cells #[.int .i64 0] 3)).alloc (.cells #[.int .i64 x.kind,.string x.name,.string x.more,.int .i64 x.num,.int .i64 x.den,.slice a x.subs.length c] 60)
   simp only [World.size_alloc] at this;exact this
  ·have:=(CBox.new ((w.alloc (.cells #[.int .i64 x.kind,.string x.name,.string x.more,.int .i64 x.num,.int .i64 x.den,.slice a x.subs.length c] 60)).alloc (.cells #[.int .i64 0] 27)) 3 #[.int .i64 0]).alloc (.cells #[.int .i64 x.kind,.string x.name,.string x.more,.int .i64 x.num,.int .i64 x.den,.slice a x.subs.length c] 60)
   simp only [World.size_alloc] at this;exact this
  ·exact (((zAa w _).trans ((zAa _ _).mono (by simp))).trans ((zAa _ _).mono (by simp only [World.size_alloc];omega))).trans ((zAa _ _).mono (by simp only [World.size_alloc];omega))
  ·have:=CBox.new (((w.alloc (.cells #[.int .i64 x.kind,.string x.name,.string x.more,.int .i64 x.num,.int .i64 x.den,.slice a x.subs.length c] 60)).alloc (.cells #[.int .i64 0] 27)).alloc (.cells #[.int .i64 0] 3)) 60 (cell6 x a c)
   simp only [World.size_alloc] at this;exact this
 rw [←hW0];clear hW0;obtain ⟨hI0,hbx,hsz⟩:=hI0;replace hI0:CkI x a c w W0.heap.size 0 W0:=⟨hI0.1,hI0.2.1,hI0.2.2.1,hI0.2.2.2.1,hI0.2.2.2.2.1,Nat.le_refl _⟩;have hsz':w.heap.size+4≤W0.heap.size:=by omega
 clear hsz
 refine zTj rfl (by omega) (gf:=205) (lb:=#[.pointer (some ⟨w.heap.size+1+1+1,0,none⟩)]) rfl trivial (enters_of Tryz.func205 (by kernel_rfl) rfl)
  (zJx x a c W0 (w.heap.size+1+1+1) [w.heap.size+1+1,w.heap.size+1] (by intro k hk;simp at hk;omega) (by simp;omega) hbx (HR.o.below hI0.2.2.2.2.1) hc1 hc2 hN)
  (fun _ _ _ h k=>h.trans k) (fun W o o' ho hc _=>KpX.putObj W _ o o' ho hc) (zAl _)
  (by rintro k args W ⟨d,y,ya,yc,_,rfl,_⟩;rfl)
  (CkI x a c w W0.heap.size) (fun co _ W=>co=.ret∧CkX x w W0.heap.size W 4)
  (fun k A B row ⟨h1,h2,h3,h4,h5,h6⟩ hg hr=>⟨yDm h1 hg hr,yDm h2 hg hr,yDm h3 hg hr,h4,zTp h5 (by omega) (Nat.le_refl _) hg hr,Nat.le_trans h6 hg.size⟩)
  (fun co k A B row ⟨h0,h1,h2,h3,h4⟩ hg hr=>⟨h0,h1,yDm h2 hg hr,zTp h3 (by omega) (Nat.le_refl _) hg hr,Nat.le_trans h4 hg.size⟩)
  (fun A B h k o hk ho hc=>h.block k o ho (.inr hc))
  (fun k A B ⟨h1,h2,h3,h4,h5,h6⟩ h=>⟨h.box (by omega) h1,h.box (by omega) h2,h.box (by omega) h3,h4,h5.trans ((h.below h6).mono (by omega)),Nat.le_trans h6 h.size⟩)
  (fun co k A B ⟨h0,h1,h2,h3,h4⟩ h=>⟨h0,h1,h.box (by omega) h2,h3.trans ((h.below h4).mono (by omega)),Nat.le_trans h4 h.size⟩)
  hI0
  (fun k a' _=>∃(d:Nat) (y:Ex) (ya:Option Addr) (yc:Nat),(preN x 1)[k]?=some (d,y)∧a'={ tmps:=#[.agg #[.int .i64 x.kind,.string x.name,.string x.more,.int .i64 x.num,.int .i64 x.den,.slice a x.subs.length c],.pointer (some ⟨w.heap.size,0,none⟩),.pointer (some ⟨w.heap.size+1,0,none⟩),.pointer (some ⟨w.heap.size+1+1,0,none⟩),.int .i64 d,undef,undef,undef,.agg #[.int .i64 x.kind,.string x.name,.string x.more,.int .i64 x.num,.int .i64 x.den,.slice a x.subs.length c],.func (.func 205) #[] #[.pointer (some ⟨w.heap.size+1+1+1,0,none⟩)],.int .i64 d,exV y ya yc,undef,undef,undef,undef,undef,undef,undef,undef,undef,undef,undef,undef,undef,undef,undef,undef,undef],defers:=[] })
  (fun _ _ _ _ _ _ hs _ _=>hs) ?assign ?body ?done ?stop
 case assign=>
  rintro l k hk args W K hi ⟨d,y,ya,yc,hd,rfl,_⟩ hK;have HD:=lH hd;clear hd
  gi_wp2
  exact hK _ _ (KeepsFrom.refl _ _) (KpX.refl _ _) hi ⟨d,y,ya,yc,HD.o,rfl⟩
 case body=>
  rintro l k hk a' W ⟨h1,h2,h3,HH,hb,hz⟩ ⟨d,y,ya,yc,hd,rfl⟩;have c3:=h3.cell (i:=0) rfl;have f3:=h3.frozen 0;have l3:=h3.lt;have c2:=h2.cell (i:=0) rfl;have f2:=h2.frozen 0;have l2:=h2.lt;have HY:=lH hd;clear hd;have hw:IntKind.i64.wrap ((k:Int)+1)=(k:Int)+1:=IntWalk.i64_in _ (by omega)
  by_cases hk4:400<k+1
  ·have hd4:decide ((400:Int)<(k:Int)+1)=true:=decide_eq_true (by omega)
   have HL:Hid (exprErr x=4):=zPo HY.o (.inl hk4)
   gi_wp2
   refine ⟨((KeepsOthers.setCell _ _ _).trans (KeepsOthers.setCell _ _ _)).from _,rfl,HL,?_,(hb.setCell (p:=⟨w.heap.size+1+1,0,none⟩) (by show _≤w.heap.size+1+1;omega) _).setCell (p:=⟨w.heap.size+1,0,none⟩) (by show _≤w.heap.size+1;omega) _,by simpa [World.setCell] using hz⟩;have h2':CBox (W.setCell ⟨w.heap.size+1+1,0,none⟩ (.int .i64 ((k:Int)+1))) (w.heap.size+1) 27 #[.int .i64 0]:=(Below.heap_setCell W _ _ _ (by show w.heap.size+1≠w.heap.size+1+1;omega)).trans h2;exact h2'.set 0 _
  have hd4:decide ((400:Int)<(k:Int)+1)=false:=decide_eq_false (by omega)
  by_cases hd40:40<d
  ·have hd5:decide ((40:Int)<(d:Int))=true:=decide_eq_true (by omega)
   have HL:Hid (exprErr x=4):=zPo HY.o (.inr hd40)
   gi_wp2
   refine ⟨((KeepsOthers.setCell _ _ _).trans (KeepsOthers.setCell _ _ _)).from _,rfl,HL,?_,(hb.setCell (p:=⟨w.heap.size+1+1,0,none⟩) (by show _≤w.heap.size+1+1;omega) _).setCell (p:=⟨w.heap.size+1,0,none⟩) (by show _≤w.heap.size+1;omega) _,by simpa [World.setCell] using hz⟩;have h2':CBox (W.setCell ⟨w.heap.size+1+1,0,none⟩ (.int .i64 ((k:Int)+1))) (w.heap.size+1) 27 #[.int .i64 0]:=(Below.heap_setCell W _ _ _ (by show w.heap.size+1≠w.heap.size+1+1;omega)).trans h2;exact h2'.set 0 _
  ·have hd5:decide ((40:Int)<(d:Int))=false:=decide_eq_false (by omega)
   have HN:Hid (∀j p,j<k+1→(preN x 1)[j]?=some p→j+1≤400∧p.1≤40):=fun j p hj hp=>by
    by_cases e:j=k
    ·subst e
     rw [HY.o] at hp
     cases hp
     exact ⟨by omega,by show d≤40;omega⟩
    ·exact HH.o j p (by omega) hp
   gi_wp2
   refine ⟨(KeepsOthers.setCell _ _ _).from _,(KpX.refl _ _).set (p:=⟨w.heap.size+1+1,0,none⟩) (by simp) _,(Below.heap_setCell W _ _ _ (by show w.heap.size≠w.heap.size+1+1;omega)).trans h1,(Below.heap_setCell W _ _ _ (by show w.heap.size+1≠w.heap.size+1+1;omega)).trans h2,?_,HN,hb.setCell (p:=⟨w.heap.size+1+1,0,none⟩) (by show _≤w.heap.size+1+1;omega) _,by simpa [World.setCell] using hz⟩;exact h3.set 0 _
 case done=>
  rintro D W hD ⟨h1,h2,h3,HH,hb,hz⟩ hK;have c0:=h1.cell (i:=0) rfl;have c1:=h1.cell (i:=1) rfl;have c2:=h1.cell (i:=2) rfl;have c3:=h1.cell (i:=3) rfl;have c4:=h1.cell (i:=4) rfl;have c5:=h1.cell (i:=5) rfl;have l1:=h1.lt;simp only [cell6,List.getElem_toArray,List.getElem_cons_zero,List.getElem_cons_succ] at c0 c1 c2 c3 c4 c5
  gi_wp2_with (refine ⟨trivial,?_⟩;gi_at_call 183;refine (callsIn_wide.2 (HNo.o _)).mono ?_;rintro e w' ⟨rfl,rfl⟩)
  have hGood:Hid (exprErr x=firstE ((preN x 1).map (·.2))):=zVi HH.o;have hDl:D<W.heap.size:=(Array.getElem?_eq_some_iff.1 hK).1;have hal:=zAa W (.cells #[.int .i64 x.kind,.string x.name,.string x.more,.int .i64 x.num,.int .i64 x.den,.slice a x.subs.length c] 60);have hbx2:CBox (W.alloc (.cells #[.int .i64 x.kind,.string x.name,.string x.more,.int .i64 x.num,.int .i64 x.den,.slice a x.subs.length c] 60)) W.heap.size 60 (cell6 x a c):=CBox.new W _ _
  have hJ0:CkJ x w (W.heap.size+1) D 0 (W.alloc (.cells #[.int .i64 x.kind,.string x.name,.string x.more,.int .i64 x.num,.int .i64 x.den,.slice a x.subs.length c] 60)):=
   ⟨h2.alloc _,rfl,hb.trans (hal.mono hb.size),by simp,(hal.block D hDl).trans hK⟩
  have hsz2:(W.alloc (.cells #[.int .i64 x.kind,.string x.name,.string x.more,.int .i64 x.num,.int .i64 x.den,.slice a x.subs.length c] 60)).heap.size=W.heap.size+1:=by simp
  have hr2:=(HR.o.below hb).below hal;generalize World.alloc W _=W2 at *;have hsz3:W.heap.size+1≤W2.heap.size:=by omega
  rw [←hsz2] at hJ0;clear hsz2 c0 c1 c2 c3 c4 c5 h1 h3 HH hK
  refine zTj rfl (by omega) (gf:=205) (lb:=#[.pointer (some ⟨W.heap.size,0,none⟩)]) rfl trivial (enters_of Tryz.func205 (by kernel_rfl) rfl)
   (zJx x a c W2 W.heap.size [w.heap.size+1] (by intro k hk;simp at hk;omega) (by simp;omega) hbx2 (hr2.fewer (by simp)) hc1 hc2 hN)
   (fun _ _ _ h k=>h.trans k) (fun W o o' ho hc _=>KpX.putObj W _ o o' ho hc) (zAl _)
   (by rintro k args W ⟨d,y,ya,yc,_,rfl,_⟩;rfl)
   (CkJ x w W2.heap.size D) (fun co _ W=>co=.ret∧(∃v,CkX x w W2.heap.size W v)∧W.heap[D]?=some (.deferred (some [])))
   (fun k A B row ⟨h1,h2,h3,h4,h5⟩ hg hr=>⟨yDm h1 hg hr,h2,zTp h3 (by omega) (Nat.le_refl _) hg hr,Nat.le_trans h4 hg.size,yEu h5 (by omega) hg hr⟩)
   (fun co k A B row ⟨h0,⟨v,h1,h2,h3,h4⟩,h5⟩ hg hr=>⟨h0,⟨v,h1,yDm h2 hg hr,zTp h3 (by omega) (Nat.le_refl _) hg hr,Nat.le_trans h4 hg.size⟩,yEu h5 (by omega) hg hr⟩)
   (fun A B h k o hk ho hc=>h.block k o ho (.inr hc))
   (fun k A B ⟨h1,h2,h3,h4,h5⟩ h=>⟨h.box (by omega) h1,h2,h3.trans ((h.below h4).mono (by omega)),Nat.le_trans h4 h.size,h.box (by omega) h5⟩)
   (fun co k A B ⟨h0,⟨v,h1,h2,h3,h4⟩,h5⟩ h=>⟨h0,⟨v,h1,h.box (by omega) h2,h3.trans ((h.below h4).mono (by omega)),Nat.le_trans h4 h.size⟩,h.box (by omega) h5⟩)
   hJ0
   (fun k a' W'=>∃(d:Nat) (y:Ex) (ya:Option Addr) (yc Bx:Nat),(preN x 1)[k]?=some (d,y)∧CBox W' Bx 60 (cell6 y ya yc)∧a'={ tmps:=#[.agg #[.int .i64 x.kind,.string x.name,.string x.more,.int .i64 x.num,.int .i64 x.den,.slice a x.subs.length c],.pointer (some ⟨w.heap.size,0,none⟩),.pointer (some ⟨w.heap.size+1,0,none⟩),.pointer (some ⟨w.heap.size+1+1,0,none⟩),undef,undef,.pointer (some ⟨Bx,0,none⟩),undef,.agg #[.int .i64 x.kind,.string x.name,.string x.more,.int .i64 x.num,.int .i64 x.den,.slice a x.subs.length c],.func (.func 205) #[] #[.pointer (some ⟨w.heap.size+1+1+1,0,none⟩)],undef,undef,undef,undef,undef,undef,undef,undef,undef,undef,.agg #[.int .i64 x.kind,.string x.name,.string x.more,.int .i64 x.num,.int .i64 x.den,.slice a x.subs.length c],.func (.func 205) #[] #[.pointer (some ⟨W.heap.size,0,none⟩)],.int .i64 d,exV y ya yc,undef,undef,undef,undef,undef],defers:=[] })
   (fun k a' _ A B row ⟨d,y,ya,yc,Bx,h1,h2,h3⟩ hg hr=>⟨d,y,ya,yc,Bx,h1,yDm h2 hg hr,h3⟩) ?assign2 ?body2 ?done2 ?stop2
  case assign2=>
   rintro l k hk args W' K hi ⟨d,y,ya,yc,hd,rfl,_⟩ hK;have HD:=lH hd;clear hd;unfold exV at *
   gi_wp2
   exact hK _ _ ((KeepsOthers.alloc _ _).from _) ((KpX.refl _ _).alloc _) ⟨hi.1.alloc _,hi.2.1,hi.2.2.1.trans ((zAa _ _).mono hi.2.2.1.size),Nat.le_trans hi.2.2.2.1 (by simp),(Below.heap_alloc _ _ _ (Array.getElem?_eq_some_iff.1 hi.2.2.2.2).1).trans hi.2.2.2.2⟩ ⟨d,y,ya,yc,W'.heap.size,HD.o,CBox.new _ _ _,rfl⟩
  case body2=>
   rintro l k hk a' W' ⟨h1,HF,hb',hz',hDk⟩ ⟨d,y,ya,yc,Bx,hd,hbB,rfl⟩;have c0:=hbB.cell (i:=0) rfl;have c1:=hbB.cell (i:=1) rfl;have c2:=hbB.cell (i:=2) rfl;have c3:=hbB.cell (i:=3) rfl;have c4:=hbB.cell (i:=4) rfl;have c5:=hbB.cell (i:=5) rfl;have lB:=hbB.lt;simp only [cell6,List.getElem_toArray,List.getElem_cons_zero,List.getElem_cons_succ] at c0 c1 c2 c3 c4 c5
   have hsy:=yDn (P:=SmX 40000) (fun _ h=>h.subs) x 1 hsm _ (List.mem_of_getElem? hd);have HC:=lH (fun w=>zNq y.kind y.num y.den y.name y.more ya y.subs.length yc hsy.name hsy.more w);rw [←zMc] at HC;obtain ⟨f1,f2⟩:=zXs hd HF.o;simp only [] at f1 f2
   have HF2:=lH f2;have HF1:=lH f1;clear f1 f2 hd hbB;generalize nodeErr y=r at *
   by_cases h0:r=0
   ·have hr0:(r != 0)=false:=by rw [h0];rfl
    have HF3:Hid (firstE (((preN x 1).take (k+1)).map (·.2))=0):=HF1.o.trans h0;clear h0
    gi_wp2_with (refine ⟨trivial,?_⟩;gi_at_call 184;refine (CallsIn.inRound l (callsIn_wide.2 (HC.o _))).mono ?_;rintro e w' ⟨rfl,hb2⟩)
    exact ⟨zD hb2,KpX.below hb2,h1.below hb2,HF3,hb'.trans (hb2.mono hb'.size),Nat.le_trans hz' hb2.size,(hb2.block D (Array.getElem?_eq_some_iff.1 hDk).1).trans hDk⟩
   ·have hr0:(r != 0)=true:=by simp [h0]
    have HL:Hid (exprErr x=r):=hGood.out.trans (HF2.o h0)
    gi_wp2_with (refine ⟨trivial,?_⟩;gi_at_call 184;refine (CallsIn.inRound l (callsIn_wide.2 (HC.o _))).mono ?_;rintro e w' ⟨rfl,hb2⟩;have h1':=h1.below hb2;have e1:=h1'.cell (i:=0) rfl;have e2:=h1'.frozen 0;have e3:=h1'.lt)
    refine ⟨(zD hb2).trans ((KeepsOthers.setCell _ _ _).from _),rfl,⟨r,HL,h1'.set 0 _,(hb'.trans (hb2.mono hb'.size)).setCell (p:=⟨w.heap.size+1,0,none⟩) (by show _≤w.heap.size+1;omega) _,by simpa [World.setCell] using Nat.le_trans hz' hb2.size⟩,?_⟩;exact (Below.heap_setCell _ _ _ _ (by show D≠w.heap.size+1;omega)).trans ((hb2.block D (Array.getElem?_eq_some_iff.1 hDk).1).trans hDk)
  case done2=>
   rintro D2 W' hD2 ⟨h1,HF,hb',hz',hDk⟩ hK2
   have HL:Hid (exprErr x=0):=by
    have:=HF.o;rw [List.take_of_length_le (by rw [zJq];exact Nat.le_refl _)] at this;exact hGood.out.trans this
   have e1:=h1.cell (i:=0) rfl;have e2:=h1.frozen 0;have e3:=h1.lt
   gi_wp2
   have h1':CBox (W'.setCell ⟨w.heap.size+1,0,none⟩ (.int .i64 0)) (w.heap.size+1) 27 #[.int .i64 0]:=h1.set 0 _;have hb2:Bw w (W'.setCell ⟨w.heap.size+1,0,none⟩ (.int .i64 0)):=hb'.setCell (p:=⟨w.heap.size+1,0,none⟩) (by show _≤w.heap.size+1;omega) _;have hDk':(W'.setCell ⟨w.heap.size+1,0,none⟩ (.int .i64 0)).heap[D]?=some (.deferred (some [])):=(Below.heap_setCell _ _ _ _ (by show D≠w.heap.size+1;omega)).trans hDk
   have hK2':(W'.setCell ⟨w.heap.size+1,0,none⟩ (.int .i64 0)).heap[D2]?=some (.deferred (some [])):=(Below.heap_setCell _ _ _ _ (by show D2≠w.heap.size+1;omega)).trans hK2;generalize World.setCell _ ⟨w.heap.size+1,0,none⟩ _=W5 at *;have hne:D≠D2:=by omega
   have hD3:(W5.putObj D2 (.deferred none)).heap[D]?=some (.deferred (some [])):=(World.putObj_heap_other hne).trans hDk'
   have hc2:((W5.putObj D2 (.deferred none)).putObj D (.deferred none)).cell? ⟨w.heap.size+1,0,none⟩=some (.int .i64 0):=
    cell_kept (cell_kept (h1'.cell (i:=0) rfl) (grownBy_putObj' _ D2 (.deferred none)) (fun r e=>by cases e;exact ⟨_,hK2',rfl⟩)) (grownBy_putObj' _ D (.deferred none)) (fun r e=>by cases e;exact ⟨_,hD3,rfl⟩)
   have hB3:Bw w ((W5.putObj D2 (.deferred none)).putObj D (.deferred none)):=
    (hb2.trans (belowK_b (w:=w) (Nat.le_refl _) W5 D2 _ _ (by omega) hK2' rfl rfl)).trans (belowK_b (w:=w) (Nat.le_refl _) _ D _ _ (by omega) hD3 rfl rfl)
   refine ⟨by simp,.inl ⟨_,_,rfl,run_takeDeferred hK2',?_⟩⟩;refine ⟨by simp,.inl ⟨_,_,rfl,run_takeDeferred hD3,?_⟩⟩;refine ⟨.int .i64 0,by simp [results,Tryz.results155,go_sem,hc2],?_⟩;exact ⟨zAc HL.o.symm,hB3⟩
  case stop2=>
   rintro D2 co k W' hD2 hk ⟨rfl,⟨v,HL,h1,hb',hz'⟩,hDk⟩ hK2
   gi_wp2
   have hne:D≠D2:=by omega
   have hD3:(W'.putObj D2 (.deferred none)).heap[D]?=some (.deferred (some [])):=(World.putObj_heap_other hne).trans hDk
   have hc2:((W'.putObj D2 (.deferred none)).putObj D (.deferred none)).cell? ⟨w.heap.size+1,0,none⟩=some (.int .i64 v):=
    cell_kept (cell_kept (h1.cell (i:=0) rfl) (grownBy_putObj' _ D2 (.deferred none)) (fun r e=>by cases e;exact ⟨_,hK2,rfl⟩)) (grownBy_putObj' _ D (.deferred none)) (fun r e=>by cases e;exact ⟨_,hD3,rfl⟩)
   have hB3:Bw w ((W'.putObj D2 (.deferred none)).putObj D (.deferred none)):=
    (hb'.trans (belowK_b (w:=w) (Nat.le_refl _) W' D2 _ _ (by omega) hK2 rfl rfl)).trans (belowK_b (w:=w) (Nat.le_refl _) _ D _ _ (by omega) hD3 rfl rfl)
   refine ⟨by simp,.inl ⟨_,_,rfl,run_takeDeferred hK2,?_⟩⟩;refine ⟨by simp,.inl ⟨_,_,rfl,run_takeDeferred hD3,?_⟩⟩;refine ⟨.int .i64 v,by simp [results,Tryz.results155,go_sem,hc2],?_⟩;exact ⟨zAc HL.o.symm,hB3⟩
 case stop=>
  rintro D co k W hD hk ⟨rfl,HL,h2,hb,hz⟩ hK
  gi_wp2
  refine ⟨by simp,.inl ⟨_,_,rfl,run_takeDeferred hK,?_⟩⟩
  have hc2:(W.putObj D (.deferred none)).cell? ⟨w.heap.size+1,0,none⟩=some (.int .i64 4):=
   cell_kept (h2.cell (i:=0) rfl) (grownBy_putObj' _ D (.deferred none)) (fun r e=>by cases e;exact ⟨_,hK,rfl⟩)
  have hB2:Bw w (W.putObj D (.deferred none)):=
   hb.trans (belowK_b (w:=w) (Nat.le_refl _) W D _ _ (by omega) hK rfl rfl)
  refine ⟨.int .i64 4,by simp [results,Tryz.results155,go_sem,hc2],?_⟩;exact ⟨zAc HL.o.symm,hB2⟩
end Go.Proofs.YtfkjfdbjhlmjcaaGreatDoor
