/- The reference's check and CheckExpr of chapter 21. -/
import Derived.Test.YtfkjfdbjhlmjcaaGreatDoorXT1
set_option maxRecDepth 100000
set_option maxHeartbeats 16000000
namespace Go.Proofs.YtfkjfdbjhlmjcaaGreatDoor
open Go.RowKit
def errX (x:Ex):Int:=firstE ((preN x 1).map (·.2))
def errXL:List Ex→Int
 | []=>0
 | x::r=>if errX x=0 then errXL r else errX x
theorem yDp (x:Ex):errX x=if nodeErr x=0 then errXL x.subs else nodeErr x:=by
 have key:∀(x:Ex) (d e:Nat),(preN x d).map (·.2)=(preN x e).map (·.2):=by
  intro x;refine Ex.ind (P:=fun x=>∀(d e:Nat),(preN x d).map (·.2)=(preN x e).map (·.2)) (fun x ih d e=>?_) x;rw [zCc,zCc,List.map_cons,List.map_cons]
  congr 1
  have:∀l:List Ex,(∀y∈l,∀d e,(preN y d).map (·.2)=(preN y e).map (·.2))→∀d e,(preL l d).map (·.2)=(preL l e).map (·.2):=by
   intro l
   induction l with
   | nil=>intro _ _ _;rfl
   | cons y r ihr=>
    intro h d e;rw [preL,preL,List.map_append,List.map_append,h y (List.mem_cons_self ..) d e,ihr (fun z hz=>h z (List.mem_cons_of_mem _ hz)) d e]
  exact this _ ih _ _
 have hl:∀l:List Ex,firstE ((preL l 2).map (·.2))=errXL l:=by
  intro l
  induction l with
  | nil=>rfl
  | cons y r ihr=>rw [preL,List.map_append,zHw,errXL,ihr,key y 2 1];rfl
 rw [errX,zCc,List.map_cons,firstE,hl]
theorem yBb {l:List Ex} {k:Nat} {y:Ex} (h:l[k]?=some y):errXL (l.drop k)=if errX y=0 then errXL (l.drop (k+1)) else errX y:=by
 obtain ⟨hk,e⟩:=List.getElem?_eq_some_iff.1 h;rw [List.drop_eq_getElem_cons hk,errXL,e]
theorem zVn (x:Ex):exprErr x=if 400<nodesN x∨40<depthN x then 4 else errX x:=rfl
theorem zVo (x:Ex):∀(xa:Option Addr) (xc:Nat) (w:World),Reads w [] (subsT x.subs) (.slice xa x.subs.length xc)→SmX 40000 x→nodesN x≤4000000 →
  Calls Tryz.prog 212 #[exV x xa xc] w fun e w'=>e=.returned (.int .i64 (errX x))∧Bw w w':=by
 refine Ex.ind (P:=fun x=>∀(xa:Option Addr) (xc:Nat) (w:World),Reads w [] (subsT x.subs) (.slice xa x.subs.length xc)→SmX 40000 x→nodesN x≤4000000 →
  Calls Tryz.prog 212 #[exV x xa xc] w fun e w'=>e=.returned (.int .i64 (errX x))∧Bw w w') (fun x ih=>?_) x
 intro xa xc w hr hsm hN;have HIH:=lH ih;have HR:=lH hr;have HEX:=lH (yDp x);have HSM:=lH hsm.subs;have z1:=hsm.name;have z2:=hsm.more;have hnl:nodesL x.subs≤4000000:=by rw [zBc] at hN;omega
 have hll:=zBq x.subs;have HB:=lH (CBox.new w 60 #[.int .i64 x.kind,.string x.name,.string x.more,.int .i64 x.num,.int .i64 x.den,.slice xa x.subs.length xc]);have hA:=zAa w (.cells #[.int .i64 x.kind,.string x.name,.string x.more,.int .i64 x.num,.int .i64 x.den,.slice xa x.subs.length xc] 60)
 have HN:Hid (nodeErr x=match shapeK x.kind with
  | none=>9
  | some (a,b,c)=>if argR x.name x.more x.num x.den x.subs.length a b c then 1 else if namesE x.kind x.name x.more a=0 then numsE x.kind x.num x.den else namesE x.kind x.name x.more a):=zMc x
 have HS:=lH (fun w=>zPi x.kind w);unfold rshapeV at HS;have HEn:=lH (zIk x.name);have HEm:=lH (zIk x.more);unfold exV;clear ih hr hsm
 cases hk:shapeK x.kind with
 | none=>
  rw [hk] at HS HN;have HT:Hid (errX x=9):=by show _=_;rw [HEX.o,HN.o];rfl
  go_enter Tryz.func212,Tryz.ntmps212
  go_wp2_with (fail)
  refine (HS.o _).mono ?_;rintro e w1 ⟨rfl,hb1⟩;go_wp2;go_ret;exact ⟨zAc (by rw [HT.o]),zA (zA hA hb1) (zAa _ _)⟩
 | some p=>
 obtain ⟨a,b,c⟩:=p;rw [hk] at HS HN;simp only [] at HS HN
 have HLe:=lH (zTo x.subs.length c);have HCN:=lH (fun w=>zXr x.kind x.num x.den x.name x.more (.slice xa x.subs.length xc) a b c hk (by omega) (by omega) w);have HNU:=lH (fun w=>zVf x.kind x.num x.den x.name x.more (.slice xa x.subs.length xc) w);have hab:=zTn hk;clear hk
 go_enter Tryz.func212,Tryz.ntmps212
 go_wp2_with (fail)
 refine (HS.o _).mono ?_;rintro e w1 ⟨rfl,hb1⟩;have HB1:=lH (HB.o.below hb1);have hbb:=zA (zA hA hb1) (zAa w1 (.cells #[.bool (decide (1≤a)),.bool (decide (2≤a)),.bool (decide (1≤b)),.bool (decide (2≤b)),.int .i64 (c:Int)] 240));have HX:=lH (HB1.o.alloc (.cells #[.bool (decide (1≤a)),.bool (decide (2≤a)),.bool (decide (1≤b)),.bool (decide (2≤b)),.int .i64 (c:Int)] 240));have HY:=lH (CBox.new w1 240 #[.bool (decide (1≤a)),.bool (decide (2≤a)),.bool (decide (1≤b)),.bool (decide (2≤b)),.int .i64 (c:Int)])
 go_upto_region 4 with (fail)
 generalize World.alloc w1 _=w2 at *;have y0:=HY.o.cell (i:=0) rfl;have y1:=HY.o.cell (i:=1) rfl;have y2:=HY.o.cell (i:=2) rfl;have y3:=HY.o.cell (i:=3) rfl;have y4:=HY.o.cell (i:=4) rfl;have yl:=HY.o.lt;have x0:=HX.o.cell (i:=0) rfl;have x1:=HX.o.cell (i:=1) rfl;have x2:=HX.o.cell (i:=2) rfl;have x3:=HX.o.cell (i:=3) rfl;have x4:=HX.o.cell (i:=4) rfl;have x5:=HX.o.cell (i:=5) rfl;have xl:=HX.o.lt
 go_cut [60] from 15 to 60 (fun v wx=>v=.bool (argR x.name x.more x.num x.den x.subs.length a b c)∧w2=wx)
 case first=>
  clear HCN HNU HS HB HB1 hbb HN HIH HR HEX HSM
  rcases hab with ⟨rfl,rfl⟩|⟨rfl,rfl⟩|⟨rfl,rfl⟩|⟨rfl,rfl⟩|⟨rfl,rfl⟩|⟨rfl,rfl⟩
  ·skip
   cases hn:(x.name.toList==[]) with
   | true=>
    cases hm:(x.more.toList==[]) with
    | true=>
     cases hd:(x.den != 0) with
     | true=>
      have HA:Hid (argR x.name x.more x.num x.den x.subs.length 0 1 c=true):=by show _=_;simp only [argR,HEn.o,HEm.o,HLe.o];simp [hn,hm,hd]
      go_wp2;go_meet
      case rel=>exact ⟨by rw [HA.o],rfl⟩
     | false=>
      cases hl:((x.subs.length:Int) != (c:Int)) with
      | true=>
       have HA:Hid (argR x.name x.more x.num x.den x.subs.length 0 1 c=true):=by show _=_;simp only [argR,HEn.o,HEm.o,HLe.o];simp [hn,hm,hd,hl]
       go_wp2;go_meet
       case rel=>exact ⟨by rw [HA.o],rfl⟩
      | false=>
       have HA:Hid (argR x.name x.more x.num x.den x.subs.length 0 1 c=false):=by show _=_;simp only [argR,HEn.o,HEm.o,HLe.o];simp [hn,hm,hd,hl]
       go_wp2;go_meet
       case rel=>exact ⟨by rw [HA.o],rfl⟩
    | false=>
     have HA:Hid (argR x.name x.more x.num x.den x.subs.length 0 1 c=true):=by show _=_;simp only [argR,HEn.o,HEm.o,HLe.o];simp [hn,hm]
     go_wp2;go_meet
     case rel=>exact ⟨by rw [HA.o],rfl⟩
   | false=>
    have HA:Hid (argR x.name x.more x.num x.den x.subs.length 0 1 c=true):=by show _=_;simp only [argR,HEn.o,HEm.o,HLe.o];simp [hn]
    go_wp2;go_meet
    case rel=>exact ⟨by rw [HA.o],rfl⟩
  ·skip
   cases hm:(x.more.toList==[]) with
   | true=>
    cases hi:(x.num != 0) with
    | true=>
     have HA:Hid (argR x.name x.more x.num x.den x.subs.length 1 0 c=true):=by show _=_;simp only [argR,HEn.o,HEm.o,HLe.o];simp [hm,hi]
     go_wp2;go_meet
     case rel=>exact ⟨by rw [HA.o],rfl⟩
    | false=>
     cases hd:(x.den != 0) with
     | true=>
      have HA:Hid (argR x.name x.more x.num x.den x.subs.length 1 0 c=true):=by show _=_;simp only [argR,HEn.o,HEm.o,HLe.o];simp [hm,hi,hd]
      go_wp2;go_meet
      case rel=>exact ⟨by rw [HA.o],rfl⟩
     | false=>
      cases hl:((x.subs.length:Int) != (c:Int)) with
      | true=>
       have HA:Hid (argR x.name x.more x.num x.den x.subs.length 1 0 c=true):=by show _=_;simp only [argR,HEn.o,HEm.o,HLe.o];simp [hm,hi,hd,hl]
       go_wp2;go_meet
       case rel=>exact ⟨by rw [HA.o],rfl⟩
      | false=>
       have HA:Hid (argR x.name x.more x.num x.den x.subs.length 1 0 c=false):=by show _=_;simp only [argR,HEn.o,HEm.o,HLe.o];simp [hm,hi,hd,hl]
       go_wp2;go_meet
       case rel=>exact ⟨by rw [HA.o],rfl⟩
   | false=>
    have HA:Hid (argR x.name x.more x.num x.den x.subs.length 1 0 c=true):=by show _=_;simp only [argR,HEn.o,HEm.o,HLe.o];simp [hm]
    go_wp2;go_meet
    case rel=>exact ⟨by rw [HA.o],rfl⟩
  ·skip
   cases hi:(x.num != 0) with
   | true=>
    have HA:Hid (argR x.name x.more x.num x.den x.subs.length 2 0 c=true):=by show _=_;simp only [argR,HEn.o,HEm.o,HLe.o];simp [hi]
    go_wp2;go_meet
    case rel=>exact ⟨by rw [HA.o],rfl⟩
   | false=>
    cases hd:(x.den != 0) with
    | true=>
     have HA:Hid (argR x.name x.more x.num x.den x.subs.length 2 0 c=true):=by show _=_;simp only [argR,HEn.o,HEm.o,HLe.o];simp [hi,hd]
     go_wp2;go_meet
     case rel=>exact ⟨by rw [HA.o],rfl⟩
    | false=>
     cases hl:((x.subs.length:Int) != (c:Int)) with
     | true=>
      have HA:Hid (argR x.name x.more x.num x.den x.subs.length 2 0 c=true):=by show _=_;simp only [argR,HEn.o,HEm.o,HLe.o];simp [hi,hd,hl]
      go_wp2;go_meet
      case rel=>exact ⟨by rw [HA.o],rfl⟩
     | false=>
      have HA:Hid (argR x.name x.more x.num x.den x.subs.length 2 0 c=false):=by show _=_;simp only [argR,HEn.o,HEm.o,HLe.o];simp [hi,hd,hl]
      go_wp2;go_meet
      case rel=>exact ⟨by rw [HA.o],rfl⟩
  ·skip
   cases hm:(x.more.toList==[]) with
   | true=>
    cases hd:(x.den != 0) with
    | true=>
     have HA:Hid (argR x.name x.more x.num x.den x.subs.length 1 1 c=true):=by show _=_;simp only [argR,HEn.o,HEm.o,HLe.o];simp [hm,hd]
     go_wp2;go_meet
     case rel=>exact ⟨by rw [HA.o],rfl⟩
    | false=>
     cases hl:((x.subs.length:Int) != (c:Int)) with
     | true=>
      have HA:Hid (argR x.name x.more x.num x.den x.subs.length 1 1 c=true):=by show _=_;simp only [argR,HEn.o,HEm.o,HLe.o];simp [hm,hd,hl]
      go_wp2;go_meet
      case rel=>exact ⟨by rw [HA.o],rfl⟩
     | false=>
      have HA:Hid (argR x.name x.more x.num x.den x.subs.length 1 1 c=false):=by show _=_;simp only [argR,HEn.o,HEm.o,HLe.o];simp [hm,hd,hl]
      go_wp2;go_meet
      case rel=>exact ⟨by rw [HA.o],rfl⟩
   | false=>
    have HA:Hid (argR x.name x.more x.num x.den x.subs.length 1 1 c=true):=by show _=_;simp only [argR,HEn.o,HEm.o,HLe.o];simp [hm]
    go_wp2;go_meet
    case rel=>exact ⟨by rw [HA.o],rfl⟩
  ·skip
   cases hn:(x.name.toList==[]) with
   | true=>
    cases hm:(x.more.toList==[]) with
    | true=>
     cases hi:(x.num != 0) with
     | true=>
      have HA:Hid (argR x.name x.more x.num x.den x.subs.length 0 0 c=true):=by show _=_;simp only [argR,HEn.o,HEm.o,HLe.o];simp [hn,hm,hi]
      go_wp2;go_meet
      case rel=>exact ⟨by rw [HA.o],rfl⟩
     | false=>
      cases hd:(x.den != 0) with
      | true=>
       have HA:Hid (argR x.name x.more x.num x.den x.subs.length 0 0 c=true):=by show _=_;simp only [argR,HEn.o,HEm.o,HLe.o];simp [hn,hm,hi,hd]
       go_wp2;go_meet
       case rel=>exact ⟨by rw [HA.o],rfl⟩
      | false=>
       cases hl:((x.subs.length:Int) != (c:Int)) with
       | true=>
        have HA:Hid (argR x.name x.more x.num x.den x.subs.length 0 0 c=true):=by show _=_;simp only [argR,HEn.o,HEm.o,HLe.o];simp [hn,hm,hi,hd,hl]
        go_wp2;go_meet
        case rel=>exact ⟨by rw [HA.o],rfl⟩
       | false=>
        have HA:Hid (argR x.name x.more x.num x.den x.subs.length 0 0 c=false):=by show _=_;simp only [argR,HEn.o,HEm.o,HLe.o];simp [hn,hm,hi,hd,hl]
        go_wp2;go_meet
        case rel=>exact ⟨by rw [HA.o],rfl⟩
    | false=>
     have HA:Hid (argR x.name x.more x.num x.den x.subs.length 0 0 c=true):=by show _=_;simp only [argR,HEn.o,HEm.o,HLe.o];simp [hn,hm]
     go_wp2;go_meet
     case rel=>exact ⟨by rw [HA.o],rfl⟩
   | false=>
    have HA:Hid (argR x.name x.more x.num x.den x.subs.length 0 0 c=true):=by show _=_;simp only [argR,HEn.o,HEm.o,HLe.o];simp [hn]
    go_wp2;go_meet
    case rel=>exact ⟨by rw [HA.o],rfl⟩
  ·skip
   cases hn:(x.name.toList==[]) with
   | true=>
    cases hm:(x.more.toList==[]) with
    | true=>
     cases hl:((x.subs.length:Int) != (c:Int)) with
     | true=>
      have HA:Hid (argR x.name x.more x.num x.den x.subs.length 0 2 c=true):=by show _=_;simp only [argR,HEn.o,HEm.o,HLe.o];simp [hn,hm,hl]
      go_wp2;go_meet
      case rel=>exact ⟨by rw [HA.o],rfl⟩
     | false=>
      have HA:Hid (argR x.name x.more x.num x.den x.subs.length 0 2 c=false):=by show _=_;simp only [argR,HEn.o,HEm.o,HLe.o];simp [hn,hm,hl]
      go_wp2;go_meet
      case rel=>exact ⟨by rw [HA.o],rfl⟩
    | false=>
     have HA:Hid (argR x.name x.more x.num x.den x.subs.length 0 2 c=true):=by show _=_;simp only [argR,HEn.o,HEm.o,HLe.o];simp [hn,hm]
     go_wp2;go_meet
     case rel=>exact ⟨by rw [HA.o],rfl⟩
   | false=>
    have HA:Hid (argR x.name x.more x.num x.den x.subs.length 0 2 c=true):=by show _=_;simp only [argR,HEn.o,HEm.o,HLe.o];simp [hn]
    go_wp2;go_meet
    case rel=>exact ⟨by rw [HA.o],rfl⟩
 case rest=>
 obtain ⟨rfl,rfl⟩:=hcut
 cases ha:argR x.name x.more x.num x.den x.subs.length a b c with
 | true=>
  rw [ha] at HN;have HT:Hid (errX x=1):=by show _=_;rw [HEX.o,HN.o];rfl
  go_wp2;go_ret;exact ⟨zAc (by rw [HT.o]),hbb⟩
 | false=>
  rw [ha] at HN;have HQ:Hid (namesE x.kind x.name x.more a=if namesR x.kind x.name x.more a then (if x.kind=13∧x.name.data.toList=x.more.data.toList then 7 else 0) else 6):=rfl;have HU:Hid (numsE x.kind x.num x.den=if numsR x.kind x.num x.den then 0 else 2):=rfl;go_wp2_with (fail)
  refine (HCN.o _).mono ?_;rintro e w3 ⟨rfl,hb3⟩;have HX3:=lH (HX.o.below hb3);have hb13:=zA hbb hb3;clear HX HY y0 y1 y2 y3 y4 yl x0 x1 x2 x3 x4 x5 xl hbb HCN
  cases hnm:namesR x.kind x.name x.more a with
  | false=>
   have HT:Hid (errX x=6):=by show _=_;rw [HEX.o,HN.o,HQ.o,hnm];rfl
   go_wp2;go_ret;exact ⟨zAc (by rw [HT.o]),hb13⟩
  | true=>
   have z0:=HX3.o.cell (i:=0) rfl;have z1':=HX3.o.cell (i:=1) rfl;have z2':=HX3.o.cell (i:=2) rfl;have z3:=HX3.o.cell (i:=3) rfl;have z4:=HX3.o.cell (i:=4) rfl;have z5:=HX3.o.cell (i:=5) rfl;have zl:=HX3.o.lt;go_upto_region 8 with (fail)
   go_cut [74] from 65 to 74 (fun v wx=>v=.bool ((x.kind==13) && (x.name.toList==x.more.toList))∧w3=wx)
   case first=>
    cases h13:(x.kind==13) with
    | false=>
     go_wp2;go_meet
     case rel=>exact ⟨by simp [h13],rfl⟩
    | true=>
     go_wp2;go_meet
     case rel=>exact ⟨by rw [h13,Bool.true_and],rfl⟩
   case rest=>
   obtain ⟨rfl,rfl⟩:=hcut
   have H13:Hid (((x.kind==13) && (x.name.toList==x.more.toList))=true↔(x.kind=13∧x.name.data.toList=x.more.data.toList)):=by
    show _↔_
    rw [tl,tl];simp
   cases h13:((x.kind==13) && (x.name.toList==x.more.toList)) with
   | true=>
    have HT:Hid (errX x=7):=by show _=_;rw [HEX.o,HN.o,HQ.o,hnm,if_pos rfl,if_pos (H13.o.1 h13)];rfl
    go_wp2;go_ret;exact ⟨zAc (by rw [HT.o]),hb13⟩
   | false=>
    have HQ0:Hid (nodeErr x=numsE x.kind x.num x.den):=by
     show _=_
     have hA13:¬(x.kind=13∧x.name.data.toList=x.more.data.toList):=fun h=>by have:=H13.o.2 h;rw [h13] at this;cases this
     rw [HN.o,HQ.o,hnm,if_pos rfl,if_neg hA13];rfl
    clear HN HQ H13;go_wp2_with (fail)
    refine (HNU.o _).mono ?_;rintro e w4 ⟨rfl,hb4⟩;have HX4:=lH (HX3.o.below hb4);have hb14:=zA hb13 hb4;clear HX3 z0 z1' z2' z3 z4 z5 zl hb13 HNU
    cases hnu:numsR x.kind x.num x.den with
    | false=>
     have HT:Hid (errX x=2):=by show _=_;rw [HEX.o,HQ0.o,HU.o,hnu];rfl
     go_wp2;go_ret;exact ⟨zAc (by rw [HT.o]),hb14⟩
    | true=>
     have HT:Hid (errX x=errXL x.subs):=by show _=_;rw [HEX.o,HQ0.o,HU.o,hnu];rfl
     clear HEX HQ0 HU;generalize w4=wo at *;go_wp2
     go_loopw [5,6] (fun iv _ wr=>∃q:Nat,q≤x.subs.length∧iv=.int .i64 q∧Hid (errXL x.subs=errXL (x.subs.drop q))∧CBox wr w.heap.size 60 #[.int .i64 x.kind,.string x.name,.string x.more,.int .i64 x.num,.int .i64 x.den,.slice xa x.subs.length xc]∧Bw w wr) (fun iv _ _=>x.subs.length - (intOf iv).toNat)
     case atStart=>exact ⟨0,Nat.zero_le _,rfl,rfl,HX4.o,hb14⟩
     case round=>
      obtain ⟨q,hq,rfl,HF,hbx,hb⟩:=hrel;have b5:=hbx.cell (i:=5) rfl;have bl:=hbx.lt
      by_cases hlt:q<x.subs.length
      ·obtain ⟨y,hy⟩:∃y,x.subs[q]?=some y:=⟨_,List.getElem?_eq_getElem hlt⟩
       obtain ⟨yb,yo,sa,sc,rfl,hbb,y0,y1,y2,y3,y4,y5,_,_,HRY⟩:=zAx (HR.o.below hb) hy;have hyn:=zCw (List.mem_of_getElem? hy);have HTK:=lH (HF.o.trans (yBb hy));have HC:=lH (HIH.o y (List.mem_of_getElem? hy) sa sc wr HRY.o (HSM.o y (List.mem_of_getElem? hy)) (by omega));unfold exV at HC;generalize errX y=r at *;clear hy HRY HF;go_wp2_with (fail)
       refine HC.o.mono ?_;rintro e w5 ⟨rfl,hb5⟩;have hbx1:=hbx.below hb5;clear hbx b5 y0 y1 y2 y3 y4 y5
       by_cases hr:r=0
       ·have hrb:(r != 0)=false:=by simp [hr]
        have HF2:Hid (errXL x.subs=errXL (x.subs.drop (q+1))):=by show _=_;rw [HTK.o,if_pos hr]
        clear hr;go_wp2;go_roundw
        case rel=>exact ⟨q+1,by omega,by go_num,HF2,hbx1,zA hb hb5⟩
        case measure=>simp [intOf];omega
       ·have hrb:(r != 0)=true:=by simp [hr]
        have HF2:Hid (errXL x.subs=r):=by show _=_;rw [HTK.o,if_neg hr]
        go_wp2;go_ret;exact ⟨zAc (by rw [HT.o,HF2.o]),zA hb hb5⟩
      ·have HF2:Hid (errXL x.subs=0):=by show _=_;rw [HF.o,List.drop_eq_nil_of_le (by omega)];rfl
       go_wp2;go_ret;exact ⟨zAc (by rw [HT.o,HF2.o]),hb⟩
theorem zGe (x:Ex) (a:Option Addr) (c:Nat) (w:World) (hr:Reads w [] (subsT x.subs) (.slice a x.subs.length c)) (hsm:SmX 40000 x) (hN:nodesN x≤4000000) :
  Calls Tryz.prog 193 #[exV x a c] w fun e w'=>e=.returned (.int .i64 (exprErr x))∧Bw w w':=by
 have HE:=lH (zVn x);have HR:=lH hr;have H1:=lH (fun w h=>zVa x a c w h hN);have H2:=lH (fun w h=>zVb x a c w h hN);have H3:=lH (fun w h=>zVo x a c w h hsm hN);unfold exV at *;have HB:=lH (CBox.new w 60 #[.int .i64 x.kind,.string x.name,.string x.more,.int .i64 x.num,.int .i64 x.den,.slice a x.subs.length c]);have hA:=zAa w (.cells #[.int .i64 x.kind,.string x.name,.string x.more,.int .i64 x.num,.int .i64 x.den,.slice a x.subs.length c] 60);clear hr hsm;generalize errX x=r at *
 by_cases h1:400<nodesN x
 ·have HT:Hid (exprErr x=4):=by show _=_;rw [HE.o,if_pos (.inl h1)]
  have hd:decide ((400:Int)<(nodesN x:Int))=true:=decide_eq_true (by omega);generalize nodesN x=N at *
  go_enter Tryz.func193,Tryz.ntmps193
  go_wp2_with (fail)
  refine (H1.o _ (HR.o.below hA)).mono ?_;rintro e w1 ⟨rfl,hb1⟩;go_wp2;go_ret;exact ⟨zAc (by rw [HT.o]),zA hA hb1⟩
 have hd:decide ((400:Int)<(nodesN x:Int))=false:=decide_eq_false (by omega)
 by_cases h2:40<depthN x
 ·have HT:Hid (exprErr x=4):=by show _=_;rw [HE.o,if_pos (.inr h2)]
  have hd2:decide ((40:Int)<(depthN x:Int))=true:=decide_eq_true (by omega);generalize nodesN x=N at *;generalize depthN x=D at *
  go_enter Tryz.func193,Tryz.ntmps193
  go_wp2_with (fail)
  refine (H1.o _ (HR.o.below hA)).mono ?_;rintro e w1 ⟨rfl,hb1⟩;have HB1:=lH (HB.o.below hb1);have hbb1:=zA hA hb1;have c0:=HB1.o.cell (i:=0) rfl;have c1:=HB1.o.cell (i:=1) rfl;have c2:=HB1.o.cell (i:=2) rfl;have c3:=HB1.o.cell (i:=3) rfl;have c4:=HB1.o.cell (i:=4) rfl;have c5:=HB1.o.cell (i:=5) rfl;have cl:=HB1.o.lt;clear HB hb1 hA;go_wp2_with (fail)
  refine (H2.o _ (HR.o.below hbb1)).mono ?_;rintro e w2 ⟨rfl,hb2⟩;have HB2:=lH (HB1.o.below hb2);have hbb2:=zA hbb1 hb2;have d0:=HB2.o.cell (i:=0) rfl;have d1:=HB2.o.cell (i:=1) rfl;have d2:=HB2.o.cell (i:=2) rfl;have d3:=HB2.o.cell (i:=3) rfl;have d4:=HB2.o.cell (i:=4) rfl;have d5:=HB2.o.cell (i:=5) rfl;have dl:=HB2.o.lt;clear HB1 c0 c1 c2 c3 c4 c5 cl hb2 hbb1;go_wp2;go_ret;exact ⟨zAc (by rw [HT.o]),hbb2⟩
 ·have HT:Hid (exprErr x=r):=by show _=_;rw [HE.o,if_neg (by omega)]
  have hd2:decide ((40:Int)<(depthN x:Int))=false:=decide_eq_false (by omega);generalize nodesN x=N at *;generalize depthN x=D at *
  go_enter Tryz.func193,Tryz.ntmps193
  go_wp2_with (fail)
  refine (H1.o _ (HR.o.below hA)).mono ?_;rintro e w1 ⟨rfl,hb1⟩;have HB1:=lH (HB.o.below hb1);have hbb1:=zA hA hb1;have c0:=HB1.o.cell (i:=0) rfl;have c1:=HB1.o.cell (i:=1) rfl;have c2:=HB1.o.cell (i:=2) rfl;have c3:=HB1.o.cell (i:=3) rfl;have c4:=HB1.o.cell (i:=4) rfl;have c5:=HB1.o.cell (i:=5) rfl;have cl:=HB1.o.lt;clear HB hb1 hA;go_wp2_with (fail)
  refine (H2.o _ (HR.o.below hbb1)).mono ?_;rintro e w2 ⟨rfl,hb2⟩;have HB2:=lH (HB1.o.below hb2);have hbb2:=zA hbb1 hb2;have d0:=HB2.o.cell (i:=0) rfl;have d1:=HB2.o.cell (i:=1) rfl;have d2:=HB2.o.cell (i:=2) rfl;have d3:=HB2.o.cell (i:=3) rfl;have d4:=HB2.o.cell (i:=4) rfl;have d5:=HB2.o.cell (i:=5) rfl;have dl:=HB2.o.lt;clear HB1 c0 c1 c2 c3 c4 c5 cl hb2 hbb1;go_wp2_with (fail)
  refine (H3.o _ (HR.o.below hbb2)).mono ?_;rintro e w3 ⟨rfl,hb3⟩;go_wp2;go_ret;exact ⟨zAc (by rw [HT.o]),zA hbb2 hb3⟩
end Go.Proofs.YtfkjfdbjhlmjcaaGreatDoor
namespace Go.Proofs.YtfkjfdbjhlmjcaaGreatDoor
open Go.RowKit Go.Shelf
attribute [local go_sem] Oper.semAt_some
def badNm (n:Nat) (s:ByteArray):Bool:=!nmS s && (n==1 || !isE s)
def nmAt (l:List ByteArray) (i:Nat):Int:=if badNm l.length (sAt l i) then 6 else 0
def namesErr (l:List ByteArray):Int:=if l.length≠1∧l.length≠3 then 1 else nzFrom (nmAt l) l.length 0
theorem zVp (l:List ByteArray) (a:Option Addr) (c:Nat) (w:World) (hr:Strs w (.slice a l.length c) l) (hs:∀s∈l,s.size≤40000) (hl:l.length≤1000000) :
  Calls Tryz.prog 154 #[.slice a l.length c] w fun e w'=>e=.returned (.int .i64 (namesErr l))∧Bw w w':=by
 have HS:=lH (zFu hs);have HR:=lH hr;clear hr hs
 by_cases h13:l.length≠1∧l.length≠3
 ·have HE:Hid (namesErr l=1):=if_pos h13
  have h1:((l.length:Int) != 1)=true:=by simp;omega
  have h3:((l.length:Int) != 3)=true:=by simp;omega
  clear h13
  go_enter Tryz.func154,Tryz.ntmps154
  go_wp2;go_ret;exact ⟨zAc HE.o.symm,zAl _⟩
 ·have HE:Hid (namesErr l=nzFrom (nmAt l) l.length 0):=if_neg h13
  by_cases hq:l.length=1
  ·have h1:((l.length:Int) != 1)=false:=by simp;omega
   have h3:((l.length:Int)==1)=true:=by simp;omega
   have hB:Hid (∀s,badNm l.length s=!nmS s):=fun s=>by rw [badNm,hq];cases nmS s<;>rfl
   clear h13 hq
   go_enter Tryz.func154,Tryz.ntmps154
   go_wp2
   go_loopw [15] (fun iv wr=>∃k:Nat,k≤l.length∧iv=.int .i64 k∧Hid (namesErr l=nzFrom (nmAt l) l.length k)∧Bw w wr) (fun iv _=>l.length - (intOf iv).toNat)
   case atStart=>exact ⟨0,Nat.zero_le _,rfl,HE,zAl _⟩
   case round=>
    obtain ⟨k,hk,rfl,HK,hb⟩:=hrel
    by_cases hkl:k<l.length
    ·have hd:decide ((k:Int)<(l.length:Int))=true:=decide_eq_true (by omega)
     obtain ⟨_,_,e,_,_,hcell⟩:=(HR.o.below hb).shape;obtain ⟨b,o,e',hbl,hc⟩:=hcell k hkl
     cases e
     subst e';have ck:wr.cell? ⟨b,o+k,none⟩=some (.string (sAt l k)):=hc k hkl;have HL:=lH (zHy (sAt l k) wr (HS.o k));have HN:=lH (zBn (nmAt l) hkl);have HU:Hid (nmAt l k=if badNm l.length (sAt l k) then 6 else 0):=rfl;have HBk:=lH (hB.out (sAt l k));have hEk:=zIk (sAt l k)
     cases hnm:nmS (sAt l k) with
     | true=>
      rw [hnm] at HL HBk;have HF:Hid (namesErr l=nzFrom (nmAt l) l.length (k+1)):=by show _=_;rw [HK.o,HN.o,HU.o,HBk.o];rfl
      clear HK HN HU hc hcell hEk;generalize sAt l k=s at *;go_wp2_with (fail)
      refine HL.o.mono ?_;rintro e w1 ⟨rfl,hb1⟩;go_wp2;go_roundw
      case rel=>exact ⟨k+1,by omega,by go_num,HF,hb.trans (hb1.mono hb.size)⟩
      case measure=>simp [intOf];omega
     | false=>
      rw [hnm] at HL HBk;have HF:Hid (namesErr l=6):=by show _=_;rw [HK.o,HN.o,HU.o,HBk.o];rfl
      clear HK HN HU hc hcell hEk;generalize sAt l k=s at *;go_wp2_with (fail)
      refine HL.o.mono ?_;rintro e w1 ⟨rfl,hb1⟩;go_wp2;go_ret;exact ⟨zAc HF.o.symm,hb.trans (hb1.mono hb.size)⟩
    ·have hd:decide ((k:Int)<(l.length:Int))=false:=decide_eq_false (by omega)
     have HF:Hid (namesErr l=0):=by show _=_;rw [HK.o,zBg _ (by omega)]
     go_wp2;go_ret;exact ⟨zAc HF.o.symm,hb⟩
  ·have h1:((l.length:Int) != 1)=true:=by simp;omega
   have h2:((l.length:Int) != 3)=false:=by simp;omega
   have h3:((l.length:Int)==1)=false:=by simp;omega
   have hB:Hid (∀s,badNm l.length s=(!nmS s && !isE s)):=fun s=>by rw [badNm,show (l.length==1)=false from beq_eq_false_iff_ne.2 hq,Bool.false_or]
   clear h13 hq
   go_enter Tryz.func154,Tryz.ntmps154
   go_wp2
   go_loopw [15] (fun iv wr=>∃k:Nat,k≤l.length∧iv=.int .i64 k∧Hid (namesErr l=nzFrom (nmAt l) l.length k)∧Bw w wr) (fun iv _=>l.length - (intOf iv).toNat)
   case atStart=>exact ⟨0,Nat.zero_le _,rfl,HE,zAl _⟩
   case round=>
    obtain ⟨k,hk,rfl,HK,hb⟩:=hrel
    by_cases hkl:k<l.length
    ·have hd:decide ((k:Int)<(l.length:Int))=true:=decide_eq_true (by omega)
     obtain ⟨_,_,e,_,_,hcell⟩:=(HR.o.below hb).shape;obtain ⟨b,o,e',hbl,hc⟩:=hcell k hkl
     cases e
     subst e';have ck:wr.cell? ⟨b,o+k,none⟩=some (.string (sAt l k)):=hc k hkl;have HL:=lH (zHy (sAt l k) wr (HS.o k));have HN:=lH (zBn (nmAt l) hkl);have HU:Hid (nmAt l k=if badNm l.length (sAt l k) then 6 else 0):=rfl;have HBk:=lH (hB.out (sAt l k));have hEk:=zIk (sAt l k)
     cases hnm:nmS (sAt l k) with
     | true=>
      rw [hnm] at HL HBk;have HF:Hid (namesErr l=nzFrom (nmAt l) l.length (k+1)):=by show _=_;rw [HK.o,HN.o,HU.o,HBk.o];rfl
      clear HK HN HU hc hcell hEk;generalize sAt l k=s at *;go_wp2_with (fail)
      refine HL.o.mono ?_;rintro e w1 ⟨rfl,hb1⟩;go_wp2;go_roundw
      case rel=>exact ⟨k+1,by omega,by go_num,HF,hb.trans (hb1.mono hb.size)⟩
      case measure=>simp [intOf];omega
     | false=>
      rw [hnm] at HL HBk
      cases hE:isE (sAt l k) with
      | true=>
       rw [hE] at HBk hEk;have hE2:=hEk.symm;have HF:Hid (namesErr l=nzFrom (nmAt l) l.length (k+1)):=by show _=_;rw [HK.o,HN.o,HU.o,HBk.o];rfl
       clear HK HN HU hc hcell hEk;generalize sAt l k=s at *;go_wp2_with (fail)
       refine HL.o.mono ?_;rintro e w1 ⟨rfl,hb1⟩;go_wp2;go_roundw
       case rel=>exact ⟨k+1,by omega,by go_num,HF,hb.trans (hb1.mono hb.size)⟩
       case measure=>simp [intOf];omega
      | false=>
       rw [hE] at HBk hEk;have hE2:=hEk.symm;have HF:Hid (namesErr l=6):=by show _=_;rw [HK.o,HN.o,HU.o,HBk.o];rfl
       clear HK HN HU hc hcell hEk;generalize sAt l k=s at *;go_wp2_with (fail)
       refine HL.o.mono ?_;rintro e w1 ⟨rfl,hb1⟩;go_wp2;go_ret;exact ⟨zAc HF.o.symm,hb.trans (hb1.mono hb.size)⟩
    ·have hd:decide ((k:Int)<(l.length:Int))=false:=decide_eq_false (by omega)
     have HF:Hid (namesErr l=0):=by show _=_;rw [HK.o,zBg _ (by omega)]
     go_wp2;go_ret;exact ⟨zAc HF.o.symm,hb⟩
def aliasEq (l:List ByteArray) (i k:Nat):Bool:=(aliasS (sAt l k)).toList==(aliasS (sAt l i)).toList
def dupB (l:List ByteArray) (i:Nat):Bool:=(List.range i).any (aliasEq l i)
def useErr (label:ByteArray) (l:List ByteArray) (i:Nat):Int:=if nmS (aliasS (sAt l i)) then (if dupB l i then 7 else if (sAt l i).toList==label.toList then 23 else 0) else 6
theorem zIl {f:Nat→Bool} {n k:Nat} (h:k<n):(((List.range n).drop k).any f)=(f k || ((List.range n).drop (k+1)).any f):=by
 rw [List.drop_eq_getElem_cons (by rw [List.length_range];exact h),List.any_cons,List.getElem_range]
theorem zGw {f:Nat→Bool} {n k:Nat} (h:n≤k):(((List.range n).drop k).any f)=false:=by
 rw [List.drop_eq_nil_of_le (by rw [List.length_range];exact h)];rfl
theorem zPr (label:ByteArray) (l:List ByteArray) (i:Nat) (hi:i<l.length) (a:Option Addr) (c:Nat) (w:World) (hr:Strs w (.slice a l.length c) l) (hs:∀s∈l,s.size≤40000) (hl:l.length≤1000000) :
  Calls Tryz.prog 107 #[.string label,.slice a l.length c,.int .i64 i] w fun e w'=>e=.returned (.int .i64 (useErr label l i))∧Bw w w':=by
 have HS:=lH (zFu hs);have HR:=lH hr;obtain ⟨_,_,e,hlc,hcm,hcell⟩:=hr.shape;obtain ⟨b,o,e',hbl,hc⟩:=hcell i hi
 cases e
 subst e';have HC:=lH hc;have ci:w.cell? ⟨b,o+i,none⟩=some (.string (sAt l i)):=hc i hi;have HA:=lH (zPq (sAt l i) w (HS.o i));have hasz:=Nat.le_trans (zKb (sAt l i)) (HS.o i);have HN:=lH (fun w=>zHy (aliasS (sAt l i)) w hasz);have hU:Hid (useErr label l i=if nmS (aliasS (sAt l i)) then (if dupB l i then 7 else if (sAt l i).toList==label.toList then 23 else 0) else 6):=rfl;have HD:Hid (dupB l i=((List.range i).drop 0).any (aliasEq l i)):=rfl
 have HQ:Hid (∀k,aliasEq l i k=((aliasS (sAt l k)).toList==(aliasS (sAt l i)).toList)):=fun _=>rfl;clear hr hs hc hcell;generalize aliasS (sAt l i)=al at *
 cases hn:nmS al with
 | false=>
  rw [hn] at HN hU;clear HD HQ;generalize sAt l i=s at *
  go_enter Tryz.func107,Tryz.ntmps107
  go_wp2_with (fail)
  refine HA.o.mono ?_;rintro e w1 ⟨rfl,hb1⟩;go_wp2_with (fail)
  refine (HN.o _).mono ?_;rintro e w2 ⟨rfl,hb2⟩;go_wp2;go_ret;exact ⟨zAc (by rw [hU.out];rfl),zA hb1 hb2⟩
 | true=>
  rw [hn,if_pos rfl] at hU;rw [hn] at HN
  go_enter Tryz.func107,Tryz.ntmps107
  go_wp2_with (fail)
  refine HA.o.mono ?_;rintro e w1 ⟨rfl,hb1⟩;go_wp2_with (fail)
  refine (HN.o _).mono ?_;rintro e w2 ⟨rfl,hb2⟩;have hic:(i:Int)≤(c:Int):=by omega
  go_wp2
  go_loopw [22] (fun iv wr=>∃k:Nat,k≤i∧iv=.int .i64 k∧Hid (dupB l i=((List.range i).drop k).any (aliasEq l i))∧Bw w wr) (fun iv _=>i - (intOf iv).toNat)
  case atStart=>exact ⟨0,Nat.zero_le _,rfl,HD,zA hb1 hb2⟩
  case round=>
   obtain ⟨k,hk,rfl,HK,hb⟩:=hrel
   by_cases hkl:k<i
   ·have hd:decide ((k:Int)<(i:Int))=true:=decide_eq_true (by omega)
    have ck:wr.cell? ⟨b,o+k,none⟩=some (.string (sAt l k)):=(hb.cell (p:=⟨b,o+k,none⟩) hbl).trans (HC.o k (by omega));have hbl2:b<wr.heap.size:=Nat.lt_of_lt_of_le hbl hb.size;have HL:=lH (zPq (sAt l k) wr (HS.o k));have HT:=lH (HK.o.trans (zIl (f:=aliasEq l i) hkl));have hq:=HQ.o k;generalize aliasS (sAt l k)=bl at *;generalize sAt l k=s at *
    cases he:(bl.toList==al.toList) with
    | true=>
     have HF:Hid (dupB l i=true):=by show _=_;rw [HT.o,hq,he];rfl
     clear hq HT HK;go_wp2_with (fail)
     refine HL.o.mono ?_;rintro e w3 ⟨rfl,hb3⟩;go_wp2;go_ret;exact ⟨zAc (by rw [hU.out,HF.o];rfl),hb.trans (hb3.mono hb.size)⟩
    | false=>
     have HF:Hid (dupB l i=((List.range i).drop (k+1)).any (aliasEq l i)):=by show _=_;rw [HT.o,hq,he];rfl
     clear hq HT HK;go_wp2_with (fail)
     refine HL.o.mono ?_;rintro e w3 ⟨rfl,hb3⟩;go_wp2;go_roundw
     case rel=>exact ⟨k+1,by omega,by go_num,HF,hb.trans (hb3.mono hb.size)⟩
     case measure=>simp [intOf];omega
   ·have hd:decide ((k:Int)<(i:Int))=false:=decide_eq_false (by omega)
    have HF:Hid (dupB l i=false):=by show _=_;rw [HK.o,zGw (by omega)]
    have ci2:wr.cell? ⟨b,o+i,none⟩=some (.string (sAt l i)):=(hb.cell (p:=⟨b,o+i,none⟩) hbl).trans (HC.o i hi);have hbl2:b<wr.heap.size:=Nat.lt_of_lt_of_le hbl hb.size;rw [HF.o] at hU;generalize sAt l i=s at *
    cases he:(s.toList==label.toList) with
    | true=>
     rw [he] at hU;go_wp2;go_ret;exact ⟨zAc (by rw [hU.out];rfl),hb⟩
    | false=>
     rw [he] at hU;go_wp2;go_ret;exact ⟨zAc (by rw [hU.out];rfl),hb⟩
theorem zTr (s:ByteArray) (w:World) (hs:s.size≤40000) :
  Calls Tryz.prog 163 #[.string s] w fun e w'=>e=.returned (.string (aliasS s))∧w'=w:=
 (zMd s w hs).mono fun _ _ h=>⟨h.1,h.2.symm⟩
attribute [local irreducible] aliasS
theorem zRs (label:ByteArray) (l:List ByteArray) (a:Option Addr) (c:Nat) (w:World) (hr:Strs w (.slice a l.length c) l) (hs:∀s∈l,s.size≤40000) (hl:l.length≤1000000) :
  Calls Tryz.prog 112 #[.string label,.slice a l.length c] w fun e w'=>e=.returned (.int .i64 (nzFrom (useErr label l) l.length 0))∧Bw w w':=by
 have HS:=lH (zFu hs);have HR:=lH hr;have HE:Hid (nzFrom (useErr label l) l.length 0=nzFrom (useErr label l) l.length 0):=rfl;clear hr hs;generalize hT:nzFrom (useErr label l) l.length 0=T at *;have HT:=lH hT;clear hT
 go_enter Tryz.func112,Tryz.ntmps112
 go_wp2
 go_loopw [5] (fun iv wr=>∃i:Nat,i≤l.length∧iv=.int .i64 i∧Hid (nzFrom (useErr label l) l.length i=T)∧Bw w wr) (fun iv _=>l.length - (intOf iv).toNat)
 case atStart=>exact ⟨0,Nat.zero_le _,rfl,HT,zAl _⟩
 case round=>
  obtain ⟨i,hil,rfl,HI,hb⟩:=hrel;generalize wr=wo at *
  by_cases hi:i<l.length
  ·have hd:decide ((i:Int)<(l.length:Int))=true:=decide_eq_true (by omega)
   obtain ⟨_,_,e,hlc,hcm,hcell⟩:=(HR.o.below hb).shape;obtain ⟨b,o,e',hbl,hc⟩:=hcell i hi
   cases e
   subst e';have HC:=lH hc;have ci:wo.cell? ⟨b,o+i,none⟩=some (.string (sAt l i)):=hc i hi;have hsi:=HS.o i;have HA:=lH (zMd (sAt l i) wo hsi);have hasz:=Nat.le_trans (zKb (sAt l i)) hsi;have HN:=lH (fun w=>zCj (aliasS (sAt l i)) w hasz);have hU:Hid (useErr label l i=if nmS (aliasS (sAt l i)) then (if dupB l i then 7 else if (sAt l i).toList==label.toList then 23 else 0) else 6):=rfl;have HZ:=lH (HI.o.symm.trans (zBn (useErr label l) hi));have HD:Hid (dupB l i=((List.range i).drop 0).any (aliasEq l i)):=rfl
   have HQ:Hid (∀k,aliasEq l i k=((aliasS (sAt l k)).toList==(aliasS (sAt l i)).toList)):=fun _=>rfl;have HAi:Hid (aliasS (sAt l i)=aliasS (sAt l i)):=rfl;clear hc hcell;generalize hal:aliasS (sAt l i)=al at *;have HAL:=lH hal;clear hal HAi
   cases hn:nmS al with
   | false=>
    rw [hn] at HN hU;have HF:Hid (T=6):=by show _=_;rw [HZ.o,hU.out];rfl
    clear HD HQ HZ hU HI;generalize sAt l i=s at *;go_wp2_with (fail)
    refine HA.o.mono ?_;rintro e w1 ⟨rfl,rfl⟩;go_wp2_with (fail)
    refine (HN.o _).mono ?_;rintro e w2 ⟨rfl,hb2⟩;go_wp2;go_ret;exact ⟨zAc HF.o.symm,hb.trans (hb2.mono hb.size)⟩
   | true=>
    rw [hn,if_pos rfl] at hU;rw [hn] at HN;go_wp2_with (fail)
    refine HA.o.mono ?_;rintro e w1 ⟨rfl,rfl⟩;go_wp2_with (fail)
    refine (HN.o _).mono ?_;rintro e w2 ⟨rfl,hb2⟩;go_wp2
    go_loopw [6] (fun iv wr=>∃k:Nat,k≤i∧iv=.int .i64 k∧Hid (dupB l i=((List.range i).drop k).any (aliasEq l i))∧Bw wo wr) (fun iv _=>i - (intOf iv).toNat)
    case atStart=>exact ⟨0,Nat.zero_le _,rfl,HD,hb2⟩
    case round=>
     obtain ⟨k,hk,rfl,HK,hbk⟩:=hrel;have hbb:=hb.trans (hbk.mono hb.size);have ci2:wr.cell? ⟨b,o+i,none⟩=some (.string (sAt l i)):=(hbk.cell (p:=⟨b,o+i,none⟩) hbl).trans (HC.o i hi);have hbl2:b<wr.heap.size:=Nat.lt_of_lt_of_le hbl hbk.size
     by_cases hkl:k<i
     ·have hd:decide ((k:Int)<(i:Int))=true:=decide_eq_true (by omega)
      have ck:wr.cell? ⟨b,o+k,none⟩=some (.string (sAt l k)):=(hbk.cell (p:=⟨b,o+k,none⟩) hbl).trans (HC.o k (by omega));have hkn:(k:Int)<(l.length:Int):=by omega
      have HT2:=lH (HK.o.trans (zIl (f:=aliasEq l i) hkl));have hq:=HQ.o k;have hsk:=HS.o k;rw [←HAL.o] at hq;generalize sAt l k=s at *;generalize sAt l i=t at *
      cases he:((aliasS s).toList==(aliasS t).toList) with
      | true=>
       have HF:Hid (dupB l i=true):=by show _=_;rw [HT2.o,hq,he];rfl
       have HFT:Hid (T=7):=by show _=_;rw [HZ.o,hU.out,HF.o];rfl
       clear hq HT2 HK;go_wp2_with (fail)
       go_quiet ((go_at_call 163;exact Calls.quiet_of_same (zTr _ _ (by assumption))))
       go_wp2;go_ret;exact ⟨zAc HFT.o.symm,below_drewN hbb _⟩
      | false=>
       have HF:Hid (dupB l i=((List.range i).drop (k+1)).any (aliasEq l i)):=by show _=_;rw [HT2.o,hq,he];rfl
       clear hq HT2 HK;go_wp2_with (fail)
       go_quiet ((go_at_call 163;exact Calls.quiet_of_same (zTr _ _ (by assumption))))
       go_wp2;go_roundw
       case rel=>exact ⟨k+1,by omega,by go_num,HF,below_drewN hbk _⟩
       case measure=>simp [intOf];omega
     ·have hd:decide ((k:Int)<(i:Int))=false:=decide_eq_false (by omega)
      have HF:Hid (dupB l i=false):=by show _=_;rw [HK.o,zGw (by omega)]
      rw [HF.o] at hU;generalize sAt l i=s at *
      cases he:(s.toList==label.toList) with
      | true=>
       rw [he] at hU;have HFT:Hid (T=23):=by show _=_;rw [HZ.o,hU.out];rfl
       go_wp2;go_ret;exact ⟨zAc HFT.o.symm,hbb⟩
      | false=>
       rw [he] at hU;have HFT:Hid (nzFrom (useErr label l) l.length (i+1)=T):=by show _=_;rw [HZ.o,hU.out];rfl
       go_wp2;go_roundw
       case rel=>exact ⟨i+1,by omega,by go_num,HFT,hbb⟩
       case measure=>simp [intOf];omega
  ·have hd:decide ((i:Int)<(l.length:Int))=false:=decide_eq_false (by omega)
   have HF:Hid (T=0):=by show _=_;rw [←HI.o,zBg _ (by omega)]
   go_wp2;go_ret;exact ⟨zAc HF.o.symm,hb⟩
end Go.Proofs.YtfkjfdbjhlmjcaaGreatDoor
namespace Go.Proofs.YtfkjfdbjhlmjcaaGreatDoor
open Go.RowKit Go.Shelf
attribute [local go_sem] Oper.semAt_some
def rDeclErr (d:ODecl):Int:=if d.id<0∨999999<d.id then 2 else if d.kind<1∨3<d.kind then 9 else if namesErr d.names=0 then exprErr d.body else namesErr d.names
theorem zLn (d:ODecl) (an:Option Addr) (cn:Nat) (sa:Option Addr) (cs:Nat) (w:World) (hn:Strs w (.slice an d.names.length cn) d.names) (hr:Reads w [] (subsT d.body.subs) (.slice sa d.body.subs.length cs)) (hs:∀s∈d.names,s.size≤40000) (hl:d.names.length≤1000000)
  (hsm:SmX 40000 d.body) (hN:nodesN d.body≤4000000) :
  Calls Tryz.prog 164 #[declV d an cn sa cs] w fun e w'=>e=.returned (.int .i64 (rDeclErr d))∧Bw w w':=by
 have HX:=lH (fun w h=>zGe d.body sa cs w h hsm hN);have HSR:=lH hr;have HS:=lH (zFu hs);have HR:=lH hn;have HE:Hid (rDeclErr d=if d.id<0∨999999<d.id then 2 else if d.kind<1∨3<d.kind then 9 else if namesErr d.names=0 then exprErr d.body else namesErr d.names):=rfl;generalize rDeclErr d=T at *;clear hr hn hs hsm;unfold declV exV at *
 have HB:=lH (CBox.new w 62 #[.int .i64 d.id,.int .i64 d.kind,.bool d.pub,.slice an d.names.length cn,.bool d.doubt,.int .i64 d.body.kind,.string d.body.name,.string d.body.more,.int .i64 d.body.num,.int .i64 d.body.den,.slice sa d.body.subs.length cs]);have hA:=zAa w (.cells #[.int .i64 d.id,.int .i64 d.kind,.bool d.pub,.slice an d.names.length cn,.bool d.doubt,.int .i64 d.body.kind,.string d.body.name,.string d.body.more,.int .i64 d.body.num,.int .i64 d.body.den,.slice sa d.body.subs.length cs] 62)
 by_cases hi0:d.id<0
 ·have hd0:decide (d.id<0)=true:=decide_eq_true hi0
  have HF:Hid (T=2):=by show _=_;rw [HE.o,if_pos (.inl hi0)]
  clear HE HX
  go_enter Tryz.func164,Tryz.ntmps164
  go_wp2;go_ret;exact ⟨zAc HF.o.symm,hA⟩
 have hd0:decide (d.id<0)=false:=decide_eq_false hi0
 by_cases hi1:999999<d.id
 ·have hd1:decide (999999<d.id)=true:=decide_eq_true hi1
  have HF:Hid (T=2):=by show _=_;rw [HE.o,if_pos (.inr hi1)]
  clear HE HX
  go_enter Tryz.func164,Tryz.ntmps164
  go_wp2;go_ret;exact ⟨zAc HF.o.symm,hA⟩
 have hd1:decide (999999<d.id)=false:=decide_eq_false hi1;rw [if_neg (by omega)] at HE
 by_cases hk0:d.kind<1
 ·have hd2:decide (d.kind<1)=true:=decide_eq_true hk0
  have HF:Hid (T=9):=by show _=_;rw [HE.o,if_pos (.inl hk0)]
  clear HE HX
  go_enter Tryz.func164,Tryz.ntmps164
  go_wp2;go_ret;exact ⟨zAc HF.o.symm,hA⟩
 have hd2:decide (d.kind<1)=false:=decide_eq_false hk0
 by_cases hk1:3<d.kind
 ·have hd3:decide (3<d.kind)=true:=decide_eq_true hk1
  have HF:Hid (T=9):=by show _=_;rw [HE.o,if_pos (.inr hk1)]
  clear HE HX
  go_enter Tryz.func164,Tryz.ntmps164
  go_wp2;go_ret;exact ⟨zAc HF.o.symm,hA⟩
 have hd3:decide (3<d.kind)=false:=decide_eq_false hk1;rw [if_neg (by omega)] at HE;clear hi0 hi1 hk0 hk1
 by_cases h13:d.names.length≠1∧d.names.length≠3
 ·have h1:((d.names.length:Int) != 1)=true:=by simp;omega
  have h3:((d.names.length:Int) != 3)=true:=by simp;omega
  have hne:namesErr d.names=1:=if_pos h13;clear h13;have HF:Hid (T=1):=by show _=_;rw [HE.o,hne];rfl
  clear HE HX
  go_enter Tryz.func164,Tryz.ntmps164
  go_wp2;go_ret;exact ⟨zAc HF.o.symm,hA⟩
 have HM:Hid (namesErr d.names=nzFrom (nmAt d.names) d.names.length 0):=if_neg h13;generalize hl':d.names=l at *;clear hl'
 by_cases hq:l.length=1
 ·have h1:((l.length:Int) != 1)=false:=by simp;omega
  have h3:((l.length:Int)==1)=true:=by simp;omega
  have hB:Hid (∀s,badNm l.length s=!nmS s):=fun s=>by rw [badNm,hq];cases nmS s<;>rfl
  clear h13 hq
  go_enter Tryz.func164,Tryz.ntmps164
  go_wp2
  go_loopw [3] (fun iv wr=>∃k:Nat,k≤l.length∧iv=.int .i64 k∧Hid (namesErr l=nzFrom (nmAt l) l.length k)∧CBox wr w.heap.size 62 #[.int .i64 d.id,.int .i64 d.kind,.bool d.pub,.slice an l.length cn,.bool d.doubt,.int .i64 d.body.kind,.string d.body.name,.string d.body.more,.int .i64 d.body.num,.int .i64 d.body.den,.slice sa d.body.subs.length cs]∧Bw w wr) (fun iv _=>l.length - (intOf iv).toNat)
  case atStart=>exact ⟨0,Nat.zero_le _,rfl,HM,HB.o,hA⟩
  case round=>
   obtain ⟨k,hk,rfl,HK,hbox,hb⟩:=hrel;have c3:=hbox.cell (i:=3) (v:=.slice an l.length cn) rfl;have lb:=hbox.lt
   by_cases hkl:k<l.length
   ·have hd:decide ((k:Int)<(l.length:Int))=true:=decide_eq_true (by omega)
    obtain ⟨_,_,e,_,_,hcell⟩:=(HR.o.below hb).shape;obtain ⟨b,o,e',hbl,hc⟩:=hcell k hkl
    cases e
    subst e';have ck:wr.cell? ⟨b,o+k,none⟩=some (.string (sAt l k)):=hc k hkl;have HL:=lH (zCj (sAt l k) wr (HS.o k));have HN:=lH (zBn (nmAt l) hkl);have HU:Hid (nmAt l k=if badNm l.length (sAt l k) then 6 else 0):=rfl;have HBk:=lH (hB.out (sAt l k));have hEk:=zIk (sAt l k)
    cases hnm:nmS (sAt l k) with
    | true=>
     rw [hnm] at HL HBk;have HF:Hid (namesErr l=nzFrom (nmAt l) l.length (k+1)):=by show _=_;rw [HK.o,HN.o,HU.o,HBk.o];rfl
     clear HK HN HU hc hcell hEk HE HX;generalize sAt l k=s at *;go_wp2_with (fail)
     refine HL.o.mono ?_;rintro e w1 ⟨rfl,hb1⟩;have hbox1:=hbox.below hb1;go_wp2;go_roundw
     case rel=>exact ⟨k+1,by omega,by go_num,HF,hbox1,hb.trans (hb1.mono hb.size)⟩
     case measure=>simp [intOf];omega
    | false=>
     rw [hnm] at HL HBk;have HF:Hid (T=6):=by show _=_;rw [HE.o,HK.o,HN.o,HU.o,HBk.o];rfl
     clear HK HN HU hc hcell hEk HE HX;generalize sAt l k=s at *;go_wp2_with (fail)
     refine HL.o.mono ?_;rintro e w1 ⟨rfl,hb1⟩;have hbox1:=hbox.below hb1;have c31:=hbox1.cell (i:=3) (v:=.slice (some ⟨b,o,none⟩) l.length cn) rfl;have lb1:=hbox1.lt;go_wp2;go_ret;exact ⟨zAc HF.o.symm,hb.trans (hb1.mono hb.size)⟩
   ·have hd:decide ((k:Int)<(l.length:Int))=false:=decide_eq_false (by omega)
    have HF:Hid (T=exprErr d.body):=by show _=_;rw [HE.o,HK.o,zBg _ (by omega),if_pos rfl]
    have HX2:=lH (HX.o wr (HSR.o.below hb));obtain ⟨-,-,-,-,-,x5,x6,x7,x8,x9,x10,-⟩:=zAz hbox;clear HE HK HX;go_wp2_with (fail)
    refine HX2.o.mono ?_;rintro e w1 ⟨rfl,hb1⟩;go_wp2;go_ret;exact ⟨zAc HF.o.symm,hb.trans (hb1.mono hb.size)⟩
 ·have h1:((l.length:Int) != 1)=true:=by simp;omega
  have h2:((l.length:Int) != 3)=false:=by simp;omega
  have h3:((l.length:Int)==1)=false:=by simp;omega
  have hB:Hid (∀s,badNm l.length s=(!nmS s && !isE s)):=fun s=>by rw [badNm,show (l.length==1)=false from beq_eq_false_iff_ne.2 hq,Bool.false_or]
  clear h13 hq
  go_enter Tryz.func164,Tryz.ntmps164
  go_wp2
  go_loopw [3] (fun iv wr=>∃k:Nat,k≤l.length∧iv=.int .i64 k∧Hid (namesErr l=nzFrom (nmAt l) l.length k)∧CBox wr w.heap.size 62 #[.int .i64 d.id,.int .i64 d.kind,.bool d.pub,.slice an l.length cn,.bool d.doubt,.int .i64 d.body.kind,.string d.body.name,.string d.body.more,.int .i64 d.body.num,.int .i64 d.body.den,.slice sa d.body.subs.length cs]∧Bw w wr) (fun iv _=>l.length - (intOf iv).toNat)
  case atStart=>exact ⟨0,Nat.zero_le _,rfl,HM,HB.o,hA⟩
  case round=>
   obtain ⟨k,hk,rfl,HK,hbox,hb⟩:=hrel;have c3:=hbox.cell (i:=3) (v:=.slice an l.length cn) rfl;have lb:=hbox.lt
   by_cases hkl:k<l.length
   ·have hd:decide ((k:Int)<(l.length:Int))=true:=decide_eq_true (by omega)
    obtain ⟨_,_,e,_,_,hcell⟩:=(HR.o.below hb).shape;obtain ⟨b,o,e',hbl,hc⟩:=hcell k hkl
    cases e
    subst e';have ck:wr.cell? ⟨b,o+k,none⟩=some (.string (sAt l k)):=hc k hkl;have HL:=lH (zCj (sAt l k) wr (HS.o k));have HN:=lH (zBn (nmAt l) hkl);have HU:Hid (nmAt l k=if badNm l.length (sAt l k) then 6 else 0):=rfl;have HBk:=lH (hB.out (sAt l k));have hEk:=zIk (sAt l k)
    cases hnm:nmS (sAt l k) with
    | true=>
     rw [hnm] at HL HBk;have HF:Hid (namesErr l=nzFrom (nmAt l) l.length (k+1)):=by show _=_;rw [HK.o,HN.o,HU.o,HBk.o];rfl
     clear HK HN HU hc hcell hEk HE HX;generalize sAt l k=s at *;go_wp2_with (fail)
     refine HL.o.mono ?_;rintro e w1 ⟨rfl,hb1⟩;have hbox1:=hbox.below hb1;go_wp2;go_roundw
     case rel=>exact ⟨k+1,by omega,by go_num,HF,hbox1,hb.trans (hb1.mono hb.size)⟩
     case measure=>simp [intOf];omega
    | false=>
     rw [hnm] at HL HBk
     cases hE:isE (sAt l k) with
     | true=>
      rw [hE] at HBk hEk;have hE2:=hEk.symm;have HF:Hid (namesErr l=nzFrom (nmAt l) l.length (k+1)):=by show _=_;rw [HK.o,HN.o,HU.o,HBk.o];rfl
      clear HK HN HU hc hcell hEk HE HX;generalize sAt l k=s at *;go_wp2_with (fail)
      refine HL.o.mono ?_;rintro e w1 ⟨rfl,hb1⟩;have hbox1:=hbox.below hb1;have c31:=hbox1.cell (i:=3) (v:=.slice (some ⟨b,o,none⟩) l.length cn) rfl;have lb1:=hbox1.lt;have ck1:=(hb1.cell (p:=⟨b,_,none⟩) hbl).trans ck;have hbl1:b<w1.heap.size:=Nat.lt_of_lt_of_le hbl hb1.size;go_wp2;go_roundw
      case rel=>exact ⟨k+1,by omega,by go_num,HF,hbox1,hb.trans (hb1.mono hb.size)⟩
      case measure=>simp [intOf];omega
     | false=>
      rw [hE] at HBk hEk;have hE2:=hEk.symm;have HF:Hid (T=6):=by show _=_;rw [HE.o,HK.o,HN.o,HU.o,HBk.o];rfl
      clear HK HN HU hc hcell hEk HE HX;generalize sAt l k=s at *;go_wp2_with (fail)
      refine HL.o.mono ?_;rintro e w1 ⟨rfl,hb1⟩;have hbox1:=hbox.below hb1;have c31:=hbox1.cell (i:=3) (v:=.slice (some ⟨b,o,none⟩) l.length cn) rfl;have lb1:=hbox1.lt;have ck1:=(hb1.cell (p:=⟨b,_,none⟩) hbl).trans ck;have hbl1:b<w1.heap.size:=Nat.lt_of_lt_of_le hbl hb1.size;go_wp2;go_ret;exact ⟨zAc HF.o.symm,hb.trans (hb1.mono hb.size)⟩
   ·have hd:decide ((k:Int)<(l.length:Int))=false:=decide_eq_false (by omega)
    have HF:Hid (T=exprErr d.body):=by show _=_;rw [HE.o,HK.o,zBg _ (by omega),if_pos rfl]
    have HX2:=lH (HX.o wr (HSR.o.below hb));obtain ⟨-,-,-,-,-,x5,x6,x7,x8,x9,x10,-⟩:=zAz hbox;clear HE HK HX;go_wp2_with (fail)
    refine HX2.o.mono ?_;rintro e w1 ⟨rfl,hb1⟩;go_wp2;go_ret;exact ⟨zAc HF.o.symm,hb.trans (hb1.mono hb.size)⟩
theorem zGh:(Tryz.prog.info? 9).map (fun i=>(i.zero,i.size,i.bytes))=some (some (.string ⟨#[]⟩),1,16):=by kernel_rfl
def placeW (l:List ByteArray) (s:ByteArray):Nat:=l.findIdx fun t=>!(Op.bytesLess t.toList s.toList)
def withL (l:List ByteArray) (s:ByteArray):List ByteArray:=if placeW l s<l.length∧(sAt l (placeW l s)).toList=s.toList then l else l.take (placeW l s)++[s]++l.drop (placeW l s)
theorem zBi (l:List ByteArray):∀u∈l.map Value.string,u.oneCell'=true:=by
 intro u hu;obtain ⟨s,_,rfl⟩:=List.mem_map.1 hu;rfl
theorem zBa {w:World} {v:Value} {l:List ByteArray} (h:Strs w v l):IsRow w 1 v l.length (l.map .string):=h
theorem zAi {w:World} {B:Nat} {v:Value} {l:List ByteArray} (h:w.ownsRow B 9 1 v l.length (l.map .string)):Strs w v l:=zAs h
theorem yBc (l:List ByteArray) (s:ByteArray) (a:Option Addr) (c:Nat) (w:World) (hr:Strs w (.slice a l.length c) l) (hl:l.length≤1000000) :
  Calls Tryz.prog 42 #[.slice a l.length c,.string s] w fun e w'=>∃v,e=.returned v∧Strs w' v (withL l s)∧Bw w w':=by
 have HR:=lH hr;have hp:placeW l s≤l.length:=List.findIdx_le_length;obtain ⟨_,_,e,hlc,hcm,hcell⟩:=hr.shape
 cases e
 have HC:=lH hcell;clear hr hcell;have hE:Hid (withL l s=if placeW l s<l.length∧(sAt l (placeW l s)).toList=s.toList then l else l.take (placeW l s)++[s]++l.drop (placeW l s)):=rfl
 have HJ:Hid (∀k,k<placeW l s→Op.bytesLess (sAt l k).toList s.toList=true):=fun k hk=>by
  have:=List.not_of_lt_findIdx hk;have hkl:k<l.length:=by omega
  simp only [Bool.not_eq_false'] at this
  unfold sAt;rw [List.getD_eq_getElem?_getD,List.getElem?_eq_getElem hkl];exact this
 have HJ2:Hid (placeW l s<l.length→Op.bytesLess (sAt l (placeW l s)).toList s.toList=false):=fun h=>by
  have this:(!(Op.bytesLess (l[placeW l s]).toList s.toList))=true:=List.findIdx_getElem (w:=h);unfold sAt;rw [List.getD_eq_getElem?_getD,List.getElem?_eq_getElem h];show Op.bytesLess (l[placeW l s]).toList s.toList=false
  simpa using this
 generalize withL l s=r at *;generalize placeW l s=p at *
 go_enter Tryz.func42,Tryz.ntmps42
 go_wp2;obtain ⟨i0,hi,hz0,hz1,hz2⟩:=info_parts zGh
 go_loop [5] (fun iv=>∃k:Nat,k≤p∧iv=.int .i64 k) (fun iv=>p - (intOf iv).toNat)
 case atStart=>exact ⟨0,Nat.zero_le _,rfl⟩
 case round=>
  obtain ⟨k,hk,rfl⟩:=hrel
  by_cases hkp:k<p
  ·have hd:decide ((k:Int)<(l.length:Int))=true:=decide_eq_true (by omega)
   obtain ⟨b,o,rfl,hbl,hc⟩:=HC.o k (by omega);have ck:w.cell? ⟨b,o+k,none⟩=some (.string (sAt l k)):=hc k (by omega);have hlt:=HJ.o k hkp;have hkn:(k:Int)<(l.length:Int):=by omega
   clear HJ HJ2 hE hc;generalize sAt l k=t at *;go_wp2
   go_round
   case rel=>exact ⟨k+1,by omega,by go_num⟩
   case measure=>simp [intOf];omega
  ·obtain rfl:k=p:=by omega
   have hkle:=hp
   by_cases hkl:k<l.length
   ·have hd:decide ((k:Int)<(l.length:Int))=true:=decide_eq_true (by omega)
    have hge:=HJ2.o hkl;obtain ⟨b,o,rfl,hbl,hc⟩:=HC.o k hkl;have ck:w.cell? ⟨b,o+k,none⟩=some (.string (sAt l k)):=hc k hkl;have hkn:(k:Int)<(l.length:Int):=by omega
    cases he:(sAt l k).toList==s.toList with
    | true=>
     have HF:Hid (r=l):=by show _=_;rw [hE.out,if_pos ⟨hkl,by simpa using he⟩]
     have HRR:=HR;clear HJ HJ2 hE HC hc hk hkp hp;generalize sAt l k=t at *;go_wp2;go_ret;exact ⟨_,rfl,by rw [HF.o];exact HR.o,zAl _⟩
    | false=>
     have HF:Hid (r=l.take k++[s]++l.drop k):=by show _=_;rw [hE.out,if_neg (fun h=>by rw [h.2] at he;simp at he)]
     clear HJ HJ2 hE HC hc hk hkp hp;generalize sAt l k=t at *
     have HTK:Hid (∀w',Bw w w'→IsRow w' 1 (.slice (some ⟨b,o,none⟩) k c) k ((l.take k).map .string)):=fun w' hb'=>by
      have:=zBa ((HR.o.below hb').take hkle);rwa [List.length_take,Nat.min_eq_left hkle] at this
     have hkc:(k:Int)≤(c:Int):=by omega
     have hki:(k:Int)≤(l.length:Int):=by omega
     have HDR:Hid (∀w',Bw w w'→IsRow w' 1 (.slice (some ⟨b,o+k,none⟩) (l.length - k) (c - k)) (l.length - k) ((l.drop k).map .string)):=fun w' hb'=>by
      have h1:Reads w' [] (strsT l) (.slice (some ⟨b,o,none⟩) l.length c):=zAg.2 ⟨HR.o.below hb',fun _ _ _=>by simp⟩;have h2:=(zAg.1 (Reads.dropRow (size:=1) (fun _=>rfl) h1 hkle)).1;rw [Nat.mul_one] at h2;have h3:=zBa h2;rwa [List.length_drop] at h3
     have hck:k<c:=by omega
     have hown0:(w.alloc (.cells #[] 9)).ownsRow w.heap.size 9 1 (.slice (some ⟨w.heap.size,0,none⟩) 0 0) 0 []:=World.ownsRow_made w #[] 0 (Nat.le_refl _) (Nat.zero_le _) rfl;have hA0:=zAa w (.cells #[] 9);go_wp2_with (at_builtin;refine zAd rfl _ _ 50 rfl w.heap.size 9 i0 _ 1 16 Tryz.underlying50 hi hz0 hz1 hz2 rfl (by decide) _ _ _ rfl hown0 _ _ _ rfl (HTK.o _ hA0) (zBi _) (by unfold maxLen;omega) (by omega) (by simp) ?_)
     intro v1 w1 hown1 hg1 hb1;have hB1:Bw w w1:=hA0.grown hg1 (by simp) (fun k hk=>by cases hk;exact Nat.le_refl _);obtain ⟨a1,c1,rfl⟩:=zAk hown1;have hA1:=zAa w1 (.cells #[.string s] 9);have hrow1:IsRow (w1.alloc (.cells #[.string s] 9)) 1 (.slice (some ⟨w1.heap.size,0,none⟩) 1 1) 1 [.string s]:=zBa (zAi (B:=w1.heap.size) (l:=[s]) (zDf w1 w1.heap.size (Nat.le_refl _) (.string s) 9));have hs1:=hB1.size
     go_wp2_with (at_builtin;refine zAd rfl _ _ 50 rfl w.heap.size 9 i0 _ 1 16 Tryz.underlying50 hi hz0 hz1 hz2 rfl (by decide) _ _ _ rfl (hown1.alloc _) _ _ _ rfl hrow1 (by intro u hu;simp at hu;subst hu;rfl) (by unfold maxLen;omega) (by omega) (by simp;omega) ?_)
     intro v2 w2 hown2 hg2 hb2;have hB2:Bw w w2:=(hB1.trans (hA1.mono hB1.size)).grown hg2 (by simp;omega) (fun k hk=>(hown1.lt k hk).1);obtain ⟨a2,c2,rfl⟩:=zAk hown2;have hs2:=hB2.size;have HDw:=HDR.o w2 hB2;go_wp2_with (at_builtin;refine zAd rfl _ _ 50 rfl w.heap.size 9 i0 _ 1 16 Tryz.underlying50 hi hz0 hz1 hz2 rfl (by decide) _ _ _ rfl hown2 _ _ _ rfl HDw (zBi _) (by unfold maxLen;omega) (by omega) (by omega) ?_)
     intro v3 w3 hown3 hg3 hb3;have hB3:Bw w w3:=hB2.grown hg3 hs2 (fun k hk=>(hown2.lt k hk).1);go_wp2;go_ret;refine ⟨v3,rfl,?_,hB3⟩;rw [HF.o];refine zAi (B:=w.heap.size) ?_;have hlen:(l.take k++[s]++l.drop k).length=0+k+1+(l.length - k):=by simp;omega
     rw [hlen]
     simpa using hown3
   ·have hd:decide ((k:Int)<(l.length:Int))=false:=decide_eq_false (by omega)
    have HF:Hid (r=l.take k++[s]++l.drop k):=by show _=_;rw [hE.out,if_neg (by omega)]
    have hkn:¬(k:Int)<(l.length:Int):=by omega
    clear hk hkp hp HJ HJ2 hE
    rcases Nat.eq_zero_or_pos l.length with h0|h0
    ·obtain rfl:l=[]:=List.eq_nil_of_length_eq_zero h0
     obtain rfl:k=0:=by simpa using hkle
     have HF2:Hid (r=[s]):=HF.o;clear HC hd hkn hkle h0 hkl HR HF;have hown0:(w.alloc (.cells #[] 9)).ownsRow w.heap.size 9 1 (.slice (some ⟨w.heap.size,0,none⟩) 0 0) 0 []:=World.ownsRow_made w #[] 0 (Nat.le_refl _) (Nat.zero_le _) rfl;have hA0:=zAa w (.cells #[] 9);have hA1:=zA hA0 (zAa (w.alloc (.cells #[] 9)) (.cells #[.string s] 9))
     have hrow1:IsRow ((w.alloc (.cells #[] 9)).alloc (.cells #[.string s] 9)) 1 (.slice (some ⟨(w.alloc (.cells #[] 9)).heap.size,0,none⟩) 1 1) 1 [.string s]:=zBa (zAi (B:=(w.alloc (.cells #[] 9)).heap.size) (l:=[s]) (zDf (w.alloc (.cells #[] 9)) _ (Nat.le_refl _) (.string s) 9));simp only [World.size_alloc] at hrow1
     cases a with
     | none=>
      go_wp2_with (at_builtin;refine zAd rfl _ _ 50 rfl w.heap.size 9 i0 _ 1 16 Tryz.underlying50 hi hz0 hz1 hz2 rfl (by decide) _ _ _ rfl (hown0.alloc _) _ _ _ rfl hrow1 (by intro u hu;simp at hu;subst hu;rfl) (by unfold maxLen;omega) (by omega) (by simp;omega) ?_)
      intro v2 w2 hown2 hg2 hb2;have hB2:Bw w w2:=hA1.grown hg2 (by simp;omega) (fun k hk=>by cases hk;exact Nat.le_refl _);obtain ⟨g',cap',rfl⟩:=ownsRow_succ hown2
      have hcp:1≤cap':=by
       have h:=zCo hown2 (by omega);obtain ⟨_,_,_,_,_,_,_,hcp,_,_⟩:=h;exact hcp
      go_wp2;go_ret;refine ⟨_,rfl,?_,hB2⟩;rw [HF2.o];exact zAi (B:=w.heap.size) (l:=[s]) (by simpa using hown2)
     | some ad=>
      go_wp2_with (at_builtin;refine zAd rfl _ _ 50 rfl w.heap.size 9 i0 _ 1 16 Tryz.underlying50 hi hz0 hz1 hz2 rfl (by decide) _ _ _ rfl (hown0.alloc _) _ _ _ rfl hrow1 (by intro u hu;simp at hu;subst hu;rfl) (by unfold maxLen;omega) (by omega) (by simp;omega) ?_)
      intro v2 w2 hown2 hg2 hb2;have hB2:Bw w w2:=hA1.grown hg2 (by simp;omega) (fun k hk=>by cases hk;exact Nat.le_refl _);obtain ⟨g',cap',rfl⟩:=ownsRow_succ hown2
      have hcp:1≤cap':=by
       have h:=zCo hown2 (by omega);obtain ⟨_,_,_,_,_,_,_,hcp,_,_⟩:=h;exact hcp
      go_wp2;go_ret;refine ⟨_,rfl,?_,hB2⟩;rw [HF2.o];exact zAi (B:=w.heap.size) (l:=[s]) (by simpa using hown2)
    ·obtain ⟨b,o,rfl,hbl,hc⟩:=HC.o 0 h0
     clear HC hc
     have HTK:Hid (∀w',Bw w w'→IsRow w' 1 (.slice (some ⟨b,o,none⟩) k c) k ((l.take k).map .string)):=fun w' hb'=>by
      have:=zBa ((HR.o.below hb').take hkle);rwa [List.length_take,Nat.min_eq_left hkle] at this
     have hkc:(k:Int)≤(c:Int):=by omega
     have hki:(k:Int)≤(l.length:Int):=by omega
     by_cases hcl:c=k
     ·subst c
      have HDR:Hid (∀w',Bw w w'→IsRow w' 1 (.slice (some ⟨b,o,none⟩) 0 0) 0 []):=fun w' _=>zBa (l:=[]) (Strs.nil _ _ _ (Nat.zero_le _));have hdr:l.drop k=[]:=List.drop_eq_nil_of_le (by omega);rw [hdr] at HF;clear hdr;have hown0:(w.alloc (.cells #[] 9)).ownsRow w.heap.size 9 1 (.slice (some ⟨w.heap.size,0,none⟩) 0 0) 0 []:=World.ownsRow_made w #[] 0 (Nat.le_refl _) (Nat.zero_le _) rfl;have hA0:=zAa w (.cells #[] 9)
      go_wp2_with (at_builtin;refine zAd rfl _ _ 50 rfl w.heap.size 9 i0 _ 1 16 Tryz.underlying50 hi hz0 hz1 hz2 rfl (by decide) _ _ _ rfl hown0 _ _ _ rfl (HTK.o _ hA0) (zBi _) (by unfold maxLen;omega) (by omega) (by simp) ?_)
      intro v1 w1 hown1 hg1 hb1;have hB1:Bw w w1:=hA0.grown hg1 (by simp) (fun k hk=>by cases hk;exact Nat.le_refl _);obtain ⟨a1,c1,rfl⟩:=zAk hown1;have hA1:=zAa w1 (.cells #[.string s] 9);have hrow1:IsRow (w1.alloc (.cells #[.string s] 9)) 1 (.slice (some ⟨w1.heap.size,0,none⟩) 1 1) 1 [.string s]:=zBa (zAi (B:=w1.heap.size) (l:=[s]) (zDf w1 w1.heap.size (Nat.le_refl _) (.string s) 9));have hs1:=hB1.size
      go_wp2_with (at_builtin;refine zAd rfl _ _ 50 rfl w.heap.size 9 i0 _ 1 16 Tryz.underlying50 hi hz0 hz1 hz2 rfl (by decide) _ _ _ rfl (hown1.alloc _) _ _ _ rfl hrow1 (by intro u hu;simp at hu;subst hu;rfl) (by unfold maxLen;omega) (by omega) (by simp;omega) ?_)
      intro v2 w2 hown2 hg2 hb2;have hB2:Bw w w2:=(hB1.trans (hA1.mono hB1.size)).grown hg2 (by simp;omega) (fun k hk=>(hown1.lt k hk).1);obtain ⟨a2,c2,rfl⟩:=zAk hown2;have hs2:=hB2.size;have HDw:=HDR.o w2 hB2;go_wp2_with (at_builtin;refine zAd rfl _ _ 50 rfl w.heap.size 9 i0 _ 1 16 Tryz.underlying50 hi hz0 hz1 hz2 rfl (by decide) _ _ _ rfl hown2 _ _ _ rfl HDw (by intro u hu;cases hu) (by unfold maxLen;omega) (by omega) (by omega) ?_)
      intro v3 w3 hown3 hg3 hb3;have hB3:Bw w w3:=hB2.grown hg3 hs2 (fun k hk=>(hown2.lt k hk).1);go_wp2;go_ret;refine ⟨v3,rfl,?_,hB3⟩;rw [HF.o];refine zAi (B:=w.heap.size) ?_;have hlen:(l.take k++[s]++[]).length=0+k+1+0:=by simp;omega
      rw [hlen]
      simpa using hown3
     ·have HDR:Hid (∀w',Bw w w'→IsRow w' 1 (.slice (some ⟨b,o+k,none⟩) (l.length - k) (c - k)) (l.length - k) ((l.drop k).map .string)):=fun w' hb'=>by
       have h1:Reads w' [] (strsT l) (.slice (some ⟨b,o,none⟩) l.length c):=zAg.2 ⟨HR.o.below hb',fun _ _ _=>by simp⟩;have h2:=(zAg.1 (Reads.dropRow (size:=1) (fun _=>rfl) h1 hkle)).1;rw [Nat.mul_one] at h2;have h3:=zBa h2;rwa [List.length_drop] at h3
      have hck:k<c:=by omega
      have hown0:(w.alloc (.cells #[] 9)).ownsRow w.heap.size 9 1 (.slice (some ⟨w.heap.size,0,none⟩) 0 0) 0 []:=World.ownsRow_made w #[] 0 (Nat.le_refl _) (Nat.zero_le _) rfl;have hA0:=zAa w (.cells #[] 9);go_wp2_with (at_builtin;refine zAd rfl _ _ 50 rfl w.heap.size 9 i0 _ 1 16 Tryz.underlying50 hi hz0 hz1 hz2 rfl (by decide) _ _ _ rfl hown0 _ _ _ rfl (HTK.o _ hA0) (zBi _) (by unfold maxLen;omega) (by omega) (by simp) ?_)
      intro v1 w1 hown1 hg1 hb1;have hB1:Bw w w1:=hA0.grown hg1 (by simp) (fun k hk=>by cases hk;exact Nat.le_refl _);obtain ⟨a1,c1,rfl⟩:=zAk hown1;have hA1:=zAa w1 (.cells #[.string s] 9);have hrow1:IsRow (w1.alloc (.cells #[.string s] 9)) 1 (.slice (some ⟨w1.heap.size,0,none⟩) 1 1) 1 [.string s]:=zBa (zAi (B:=w1.heap.size) (l:=[s]) (zDf w1 w1.heap.size (Nat.le_refl _) (.string s) 9));have hs1:=hB1.size
      go_wp2_with (at_builtin;refine zAd rfl _ _ 50 rfl w.heap.size 9 i0 _ 1 16 Tryz.underlying50 hi hz0 hz1 hz2 rfl (by decide) _ _ _ rfl (hown1.alloc _) _ _ _ rfl hrow1 (by intro u hu;simp at hu;subst hu;rfl) (by unfold maxLen;omega) (by omega) (by simp;omega) ?_)
      intro v2 w2 hown2 hg2 hb2;have hB2:Bw w w2:=(hB1.trans (hA1.mono hB1.size)).grown hg2 (by simp;omega) (fun k hk=>(hown1.lt k hk).1);obtain ⟨a2,c2,rfl⟩:=zAk hown2;have hs2:=hB2.size;have HDw:=HDR.o w2 hB2;go_wp2_with (at_builtin;refine zAd rfl _ _ 50 rfl w.heap.size 9 i0 _ 1 16 Tryz.underlying50 hi hz0 hz1 hz2 rfl (by decide) _ _ _ rfl hown2 _ _ _ rfl HDw (zBi _) (by unfold maxLen;omega) (by omega) (by omega) ?_)
      intro v3 w3 hown3 hg3 hb3;have hB3:Bw w w3:=hB2.grown hg3 hs2 (fun k hk=>(hown2.lt k hk).1);go_wp2;go_ret;refine ⟨v3,rfl,?_,hB3⟩;rw [HF.o];refine zAi (B:=w.heap.size) ?_;have hlen:(l.take k++[s]++l.drop k).length=0+k+1+(l.length - k):=by simp;omega
      rw [hlen]
      simpa using hown3
end Go.Proofs.YtfkjfdbjhlmjcaaGreatDoor
namespace Go.Proofs.YtfkjfdbjhlmjcaaGreatDoor
open Go.RowKit Go.Shelf
theorem yDq (x:Ex):∀d e,(preN x d).map (·.2)=(preN x e).map (·.2):=by
 refine Ex.ind (P:=fun x=>∀d e,(preN x d).map (·.2)=(preN x e).map (·.2)) (fun x ih d e=>?_) x;rw [zCc,zCc,List.map_cons,List.map_cons]
 congr 1
 have:∀l:List Ex,(∀y∈l,∀d e,(preN y d).map (·.2)=(preN y e).map (·.2))→∀d e,(preL l d).map (·.2)=(preL l e).map (·.2):=by
  intro l
  induction l with
  | nil=>intro _ _ _;rfl
  | cons y r ihr=>
   intro h d e;rw [preL,preL,List.map_append,List.map_append,h y (List.mem_cons_self ..) d e,ihr (fun z hz=>h z (List.mem_cons_of_mem _ hz)) d e]
 exact this _ ih _ _
def ValX (x:Ex):Prop:=∀y∈(preN x 1).map (·.2),nodeErr y=0
theorem zRt {l:List Ex} (h:firstE l=0):∀y∈l,nodeErr y=0:=by
 induction l with
 | nil=>intro y hy;cases hy
 | cons x r ih=>
  rw [firstE] at h;intro y hy
  by_cases hx:nodeErr x=0
  ·rw [if_pos hx] at h
   rcases List.mem_cons.1 hy with rfl|hy
   ·exact hx
   ·exact ih h y hy
  ·rw [if_neg hx] at h
   exact absurd h hx
theorem zGi {x:Ex} (h:exprErr x=0):ValX x:=by
 rw [exprErr] at h;split at h
 ·omega
 ·exact zRt h
theorem ValX.node {x:Ex} (h:ValX x):nodeErr x=0:=h x (by rw [zCc,List.map_cons];exact List.mem_cons_self ..)
theorem ValX.sub {x y:Ex} (h:ValX x) (hy:y∈x.subs):ValX y:=by
 intro z hz;refine h z ?_;rw [zCc,List.map_cons];refine List.mem_cons_of_mem _ ?_;rw [yDq y 1 (1+1)] at hz
 have:∀l:List Ex,y∈l→∀z∈(preN y (1+1)).map (·.2),z∈(preL l (1+1)).map (·.2):=by
  intro l
  induction l with
  | nil=>intro hy;cases hy
  | cons u r ih=>
   intro hy z hz;rw [preL,List.map_append,List.mem_append]
   rcases List.mem_cons.1 hy with rfl|hy
   ·exact .inl hz
   ·exact .inr (ih hy z hz)
 exact this _ hy z hz
theorem zDj {y:Ex} (h:nodeErr y=0):∃a b c,shapeK y.kind=some (a,b,c)∧y.subs.length=c:=by
 unfold nodeErr at h
 cases hs:shapeK y.kind with
 | none=>rw [hs] at h;simp at h
 | some p=>
  obtain ⟨a,b,c⟩:=p;rw [hs] at h;refine ⟨a,b,c,rfl,?_⟩;simp only [] at h
  by_cases hb:argBad y a b c=true
  ·rw [if_pos hb] at h;omega
  ·unfold argBad at hb
   simp only [Bool.or_eq_true,not_or] at hb
   have:=hb.2
   simpa using this
theorem ValX.var {x:Ex} (h:ValX x) (hk:x.kind=3):x.subs=[]:=by
 obtain ⟨a,b,c,hs,hl⟩:=zDj h.node;rw [hk] at hs;have:shapeK 3=some (1,0,0):=rfl;rw [this] at hs
 cases hs
 exact List.eq_nil_of_length_eq_zero hl
theorem ValX.funL {x:Ex} (h:ValX x) (hk:x.kind=6):x.subs.length=1:=by
 obtain ⟨a,b,c,hs,hl⟩:=zDj h.node;rw [hk] at hs;have:∃a b,shapeK 6=some (a,b,1):=⟨_,_,rfl⟩;obtain ⟨a',b',e⟩:=this;rw [e] at hs
 cases hs
 exact hl
theorem ValX.letL {x:Ex} (h:ValX x) (hk:x.kind=8):x.subs.length=2:=by
 obtain ⟨a,b,c,hs,hl⟩:=zDj h.node;rw [hk] at hs;have:∃a b,shapeK 8=some (a,b,2):=⟨_,_,rfl⟩;obtain ⟨a',b',e⟩:=this;rw [e] at hs
 cases hs
 exact hl
theorem ValX.caseL {x:Ex} (h:ValX x) (hk:x.kind=13):x.subs.length=3:=by
 obtain ⟨a,b,c,hs,hl⟩:=zDj h.node;rw [hk] at hs;have:∃a b,shapeK 13=some (a,b,3):=⟨_,_,rfl⟩;obtain ⟨a',b',e⟩:=this;rw [e] at hs
 cases hs
 exact hl
def withAll (l:List ByteArray) (ns:List ByteArray):List ByteArray:=ns.foldl withL l
theorem zRu (l a b:List ByteArray):withAll l (a++b)=withAll (withAll l a) b:=List.foldl_append ..
theorem yBd (l:List ByteArray) (s:ByteArray):withL l s≠[]:=by
 unfold withL;split
 ·next h=>intro e;rw [e] at h;simp at h
 ·simp
theorem zRv {l ns:List ByteArray} (h:withAll l ns=[]):l=[]∧ns=[]:=by
 induction ns generalizing l with
 | nil=>exact ⟨h,rfl⟩
 | cons s r ih=>exact absurd (ih h).1 (yBd l s)
theorem zXv (l:List ByteArray) (s:ByteArray):(withL l s).length≤l.length+1:=by
 unfold withL;split
 ·omega
 ·simp only [List.length_append,List.length_take,List.length_drop,List.length_cons,List.length_nil];omega
theorem zRw (l ns:List ByteArray):(withAll l ns).length≤l.length+ns.length:=by
 induction ns generalizing l with
 | nil=>exact Nat.le_refl _
 | cons s r ih=>
  have h1:=ih (withL l s);have h2:=zXv l s;show (withAll (withL l s) r).length≤l.length+(r.length+1)
  omega
theorem zPs (x:Ex) (j:Nat):boundAt (.mk x.kind x.name x.more 0 0 []) j=boundAt x j:=rfl
def freeP (x:Ex) (bd:List ByteArray) (j:Nat):List ByteArray:=freeL (x.subs.drop j) x.kind x.name x.more j bd
theorem zNr (x:Ex) (bd:List ByteArray):freeN x bd=if x.kind=3 then (if memS' x.name bd then [] else [x.name]) else freeP x bd 0:=by
 cases x;rw [freeN];rfl
theorem zDu {x y:Ex} {j:Nat} (bd:List ByteArray) (h:x.subs[j]?=some y):freeP x bd j=freeN y (bd++boundAt x j)++freeP x bd (j+1):=by
 unfold freeP;obtain ⟨hj,e⟩:=List.getElem?_eq_some_iff.1 h;rw [List.drop_eq_getElem_cons hj,e,freeL,zPs]
theorem zFd {x:Ex} {j:Nat} (bd:List ByteArray) (h:x.subs.length≤j):freeP x bd j=[]:=by
 unfold freeP;rw [List.drop_eq_nil_of_le h,freeL]
theorem zRx (x:Ex) (j:Nat):(boundAt x j).length≤2:=by
 unfold boundAt;split
 ·simp
 ·split
  ·simp
  ·split<;>simp
theorem zXw (x:Ex):∀bd,(freeN x bd).length≤nodesN x:=by
 refine Ex.ind (P:=fun x=>∀bd,(freeN x bd).length≤nodesN x) (fun x ih bd=>?_) x;rw [zNr,zBc];split
 ·split
  ·simp
  ·simp only [List.length_cons,List.length_nil];omega
 ·have:∀(l:List Ex),(∀y∈l,∀bd,(freeN y bd).length≤nodesN y)→∀(k:Int) (n m:ByteArray) (j:Nat),(freeL l k n m j bd).length≤nodesL l:=by
   intro l
   induction l with
   | nil=>intro _ _ _ _ _;rw [freeL];simp
   | cons y r ihr=>
    intro h k n m j;rw [freeL,List.length_append,nodesL];have h1:=h y (List.mem_cons_self ..) (bd++boundAt (.mk k n m 0 0 []) j);have h2:=ihr (fun z hz=>h z (List.mem_cons_of_mem _ hz)) k n m (j+1);omega
  have:=this x.subs ih x.kind x.name x.more 0;unfold freeP;rw [List.drop_zero];omega
theorem zHz {x y:Ex} (h:y∈x.subs):nodesN y+1≤nodesN x:=by
 rw [zBc x]
 have:∀l:List Ex,y∈l→nodesN y≤nodesL l:=by
  intro l
  induction l with
  | nil=>intro h;cases h
  | cons u r ih=>
   intro h;rw [nodesL]
   rcases List.mem_cons.1 h with rfl|h
   ·omega
   ·have:=ih h;omega
 have:=this _ h;omega
theorem zJd (s:ByteArray) (l:List ByteArray):memS' s l=memS s l:=rfl
end Go.Proofs.YtfkjfdbjhlmjcaaGreatDoor
namespace Go.Proofs.YtfkjfdbjhlmjcaaGreatDoor
open Go.RowKit Go.Shelf
attribute [local go_sem] Oper.semAt_some
theorem zRy (w:World) (B:Nat) (hB:B≤w.heap.size) (t:TypeId) (u0 u1:Value):(w.alloc (.cells #[u0,u1] t)).ownsRow B t 1 (.slice (some ⟨w.heap.size,0,none⟩) 2 2) 2 [u0,u1]:=
 ⟨rfl,.inr ⟨w.heap.size,2,_,rfl,hB,World.alloc_heap_new _ _,Nat.le_refl _,by unfold maxLen;omega,rfl,rfl⟩⟩
theorem zXx (x:Ex):∀(bd l:List ByteArray) (xa ba la:Option Addr) (xc bc lc:Nat) (w:World),Reads w [] (subsT x.subs) (.slice xa x.subs.length xc)→ValX x→Strs w (.slice ba bd.length bc) bd→Strs w (.slice la l.length lc) l→bd.length+2 * nodesN x≤40000→l.length+nodesN x≤40000 →
  Calls Tryz.prog 194 #[exV x xa xc,.slice ba bd.length bc,.slice la l.length lc] w fun e w'=>∃v,e=.returned v∧Strs w' v (withAll l (freeN x bd))∧Bw w w':=by
 refine Ex.ind (P:=fun x=>∀(bd l:List ByteArray) (xa ba la:Option Addr) (xc bc lc:Nat) (w:World),Reads w [] (subsT x.subs) (.slice xa x.subs.length xc)→ValX x→Strs w (.slice ba bd.length bc) bd→Strs w (.slice la l.length lc) l→bd.length+2 * nodesN x≤40000→l.length+nodesN x≤40000 →
  Calls Tryz.prog 194 #[exV x xa xc,.slice ba bd.length bc,.slice la l.length lc] w fun e w'=>∃v,e=.returned v∧Strs w' v (withAll l (freeN x bd))∧Bw w w') (fun x ih=>?_) x
 intro bd l xa ba la xc bc lc w hr hv hbd hl hb1 hb2;have HIH:=lH ih;have HR:=lH hr;have HV:=lH hv;have HBD:=lH hbd;have HL:=lH hl;have HF:=lH (zNr x bd);have hpos:=zEc x;have HB:=lH (CBox.new w 60 #[.int .i64 x.kind,.string x.name,.string x.more,.int .i64 x.num,.int .i64 x.den,.slice xa x.subs.length xc]);have hA:=zAa w (.cells #[.int .i64 x.kind,.string x.name,.string x.more,.int .i64 x.num,.int .i64 x.den,.slice xa x.subs.length xc] 60);have HH:=lH (fun w h=>zNm (.slice ba bd.length bc) x.name bd w h (by omega))
 unfold exV at *;clear ih hr hv hbd hl
 by_cases hk3:x.kind=3
 ·have hk:(x.kind==3)=true:=by rw [hk3];rfl
  rw [if_pos hk3] at HF;have hsub:=HV.o.var hk3;have hs0:x.subs.length=0:=by rw [hsub];rfl
  clear hsub;rw [hs0] at HB hA HR ⊢;clear hs0
  cases hm:memS x.name bd with
  | true=>
   rw [zJd,hm,if_pos rfl] at HF;rw [hm] at HH;have HT:Hid (withAll l (freeN x bd)=l):=by show _=_;rw [HF.o];rfl
   generalize withAll l (freeN x bd)=r at *;clear HF hk3
   go_enter Tryz.func194,Tryz.ntmps194
   go_wp2_with (fail)
   refine (HH.o _ (HBD.o.below hA)).mono ?_;rintro e w1 ⟨rfl,rfl⟩;go_wp2
   go_loopw [2,7] (fun lv iv wr=>lv=.slice la l.length lc∧iv=.int .i64 0∧CBox wr w.heap.size 60 #[.int .i64 x.kind,.string x.name,.string x.more,.int .i64 x.num,.int .i64 x.den,.slice xa 0 xc]∧Bw w wr) (fun _ _ _=>0)
   case atStart=>exact ⟨rfl,rfl,HB.o,hA⟩
   case round=>
    obtain ⟨rfl,rfl,hbox,hb⟩:=hrel;have c5:=hbox.cell (i:=5) (v:=.slice xa 0 xc) rfl;have lb:=hbox.lt;go_wp2;go_ret;exact ⟨_,rfl,by rw [HT.o];exact HL.o.below hb,hb⟩
  | false=>
   rw [zJd,hm] at HF;rw [hm] at HH
   have HT:Hid (withAll l (freeN x bd)=withL l x.name):=by show _=_;rw [HF.o];rfl
   have HW:=lH (fun w h=>yBc l x.name la lc w h (by omega));generalize withAll l (freeN x bd)=r at *;clear HF hk3;have c1:=HB.o.cell (i:=1) (v:=.string x.name) rfl
   go_enter Tryz.func194,Tryz.ntmps194
   go_wp2_with (fail)
   refine (HH.o _ (HBD.o.below hA)).mono ?_;rintro e w1 ⟨rfl,rfl⟩;go_wp2_with (fail)
   refine (HW.o _ (HL.o.below hA)).mono ?_;rintro e w1 ⟨v,rfl,hv,hb⟩;go_wp2;go_ret;exact ⟨_,rfl,by rw [HT.o];exact hv,zA hA hb⟩
 ·have hk:(x.kind==3)=false:=beq_eq_false_iff_ne.2 hk3
  rw [if_neg hk3] at HF
  have HZ:Hid (withAll l (freeN x bd)=withAll l (freeP x bd 0)):=by show _=_;rw [HF.o]
  generalize withAll l (freeN x bd)=r at *;obtain ⟨i0,hi,hz0,hz1,hz2⟩:=info_parts zGh;have hsl:nodesN x=1+nodesL x.subs:=zBc x;have hnl:=zBq x.subs;clear HF hk3 HH
  go_enter Tryz.func194,Tryz.ntmps194
  go_wp2
  go_loopw [2,7] (fun lv iv wr=>∃(k:Nat) (cur:List ByteArray) (la':Option Addr) (lc':Nat),k≤x.subs.length∧iv=.int .i64 k∧lv=.slice la' cur.length lc'∧Hid (Strs wr lv cur)∧Hid (r=withAll cur (freeP x bd k))∧Hid (cur.length+nodesL (x.subs.drop k)≤40000)∧CBox wr w.heap.size 60 #[.int .i64 x.kind,.string x.name,.string x.more,.int .i64 x.num,.int .i64 x.den,.slice xa x.subs.length xc]∧Bw w wr) (fun _ iv _=>x.subs.length - (intOf iv).toNat)
  case atStart=>exact ⟨0,l,la,lc,Nat.zero_le _,rfl,rfl,HL.o.below hA,HZ,by show _≤_;rw [List.drop_zero];omega,HB.o,hA⟩
  case round=>
   obtain ⟨k,cur,la',lc',hk',rfl,rfl,HLV,HZ',HC,hbox,hb⟩:=hrel;have c5:=hbox.cell (i:=5) (v:=.slice xa x.subs.length xc) rfl;have lb:=hbox.lt
   by_cases hkl:k<x.subs.length
   ·have hd:decide ((k:Int)<(x.subs.length:Int))=true:=decide_eq_true (by omega)
    obtain ⟨y,hy⟩:∃y,x.subs[k]?=some y:=⟨_,List.getElem?_eq_getElem hkl⟩;obtain ⟨yb,yo,ya,yc,rfl,hybl,y0,y1,y2,y3,y4,y5,hyc1,hyc2,hyr⟩:=zAx (HR.o.below hb) hy;have hym:=List.mem_of_getElem? hy;have hns:=zHz hym
    have hdl:nodesL (x.subs.drop k)=nodesN y+nodesL (x.subs.drop (k+1)):=by
     obtain ⟨hj,e⟩:=List.getElem?_eq_some_iff.1 hy;rw [List.drop_eq_getElem_cons hj,e,nodesL]
    have hbl2:=zRx x k;have HCC:=HC.o
    have HY:Hid (∀(n:Nat) (a2:Option Addr) (c2:Nat) (W:World),n=(bd++boundAt x k).length→Bw wr W→Strs W (.slice a2 n c2) (bd++boundAt x k) →
      Calls Tryz.prog 194 #[.agg #[.int .i64 y.kind,.string y.name,.string y.more,.int .i64 y.num,.int .i64 y.den,.slice ya y.subs.length yc],.slice a2 n c2,.slice la' cur.length lc'] W fun e w'=>∃v,e=.returned v∧Strs w' v (withAll cur (freeN y (bd++boundAt x k)))∧Bw W w'):=by
     rintro n a2 c2 W rfl hW hS;exact HIH.o y hym (bd++boundAt x k) cur ya a2 la' yc c2 lc' W (hyr.out.below hW) (HV.o.sub hym) hS (HLV.o.below hW) (by rw [List.length_append];omega) (by omega)
    have HZ2:Hid (r=withAll (withAll cur (freeN y (bd++boundAt x k))) (freeP x bd (k+1))):=by show _=_;rw [HZ'.o,zDu bd hy,zRu]
    have HC2:Hid ((withAll cur (freeN y (bd++boundAt x k))).length+nodesL (x.subs.drop (k+1))≤40000):=by
     have h1:=zRw cur (freeN y (bd++boundAt x k));have h2:=zXw y (bd++boundAt x k);show _≤_
     omega
    clear HIH HZ' HC HCC hdl hns hym;generalize hnx:withAll cur (freeN y (bd++boundAt x k))=nx at *;clear hnx;have HBA:Hid (boundAt x k=if x.kind=6 then [x.name] else if x.kind=8∧k=1 then [x.name] else if x.kind=13∧k=2 then [x.name,x.more] else []):=rfl;generalize boundAt x k=bA at *
    by_cases hk6:x.kind=6
    ·have q6:(x.kind==6)=true:=beq_iff_eq.2 hk6
     have hbe:bA=[x.name]:=by rw [HBA.o,if_pos hk6]
     subst hbe;clear HBA hk6;have hown0:(wr.alloc (.cells #[] 9)).ownsRow wr.heap.size 9 1 (.slice (some ⟨wr.heap.size,0,none⟩) 0 0) 0 []:=World.ownsRow_made wr #[] 0 (Nat.le_refl _) (Nat.zero_le _) rfl;have hA0:=zAa wr (.cells #[] 9);go_wp2_with (at_builtin;refine zAd rfl _ _ 50 rfl wr.heap.size 9 i0 _ 1 16 Tryz.underlying50 hi hz0 hz1 hz2 rfl (by decide) _ _ _ rfl hown0 _ _ _ rfl (zBa (HBD.o.below (hb.trans (hA0.mono hb.size)))) (zBi _) (by unfold maxLen;omega) (by omega) (by simp) ?_)
     intro v1 w1 hown1 hg1 hbk1;have hB1:Bw wr w1:=hA0.grown hg1 (by simp) (fun k hk=>by cases hk;exact Nat.le_refl _);obtain ⟨a1,c1',rfl⟩:=zAk hown1;have hbox1:=hbox.below hB1;have b0:=hbox1.cell (i:=0) (v:=.int .i64 x.kind) rfl;have b1:=hbox1.cell (i:=1) (v:=.string x.name) rfl;have b2:=hbox1.cell (i:=2) (v:=.string x.more) rfl;have b5:=hbox1.cell (i:=5) (v:=.slice (some ⟨yb,yo,none⟩) x.subs.length xc) rfl;have lb1:=hbox1.lt;have hA2:=zAa w1 (.cells #[.string x.name] 9)
     have hrow1:IsRow (w1.alloc (.cells #[.string x.name] 9)) 1 (.slice (some ⟨w1.heap.size,0,none⟩) 1 1) 1 [.string x.name]:=zBa (zAi (B:=w1.heap.size) (l:=[x.name]) (zDf w1 w1.heap.size (Nat.le_refl _) (.string x.name) 9));have hs1:=hB1.size;go_wp2_with (at_builtin;refine zAd rfl _ _ 50 rfl wr.heap.size 9 i0 _ 1 16 Tryz.underlying50 hi hz0 hz1 hz2 rfl (by decide) _ _ _ rfl (hown1.alloc _) _ _ _ rfl hrow1 (zBi [x.name]) (by unfold maxLen;omega) (by omega) (by simp;omega) ?_)
     intro v2 w2 hown2 hg2 hbk2;have hB2:Bw wr w2:=(hB1.trans (hA2.mono hB1.size)).grown hg2 (by simp;omega) (fun k hk=>(hown1.lt k hk).1);obtain ⟨a2,c2,rfl⟩:=zAk hown2;have hbox2:=hbox.below hB2;have d0:=hbox2.cell (i:=0) (v:=.int .i64 x.kind) rfl;have d5:=hbox2.cell (i:=5) (v:=.slice (some ⟨yb,yo,none⟩) x.subs.length xc) rfl;have lb2:=hbox2.lt;have yy0:=(hB2.cell (p:=⟨yb,_,none⟩) hybl).trans y0;have yy1:=(hB2.cell (p:=⟨yb,_,none⟩) hybl).trans y1;have yy2:=(hB2.cell (p:=⟨yb,_,none⟩) hybl).trans y2
     have yy3:=(hB2.cell (p:=⟨yb,_,none⟩) hybl).trans y3;have yy4:=(hB2.cell (p:=⟨yb,_,none⟩) hybl).trans y4;have yy5:=(hB2.cell (p:=⟨yb,_,none⟩) hybl).trans y5;have hyb1:yb<w2.heap.size:=Nat.lt_of_lt_of_le hybl hB2.size
     have hS1:Strs w2 (.slice a2 (bd.length+1) c2) (bd++[x.name]):=by
      refine zAi (B:=wr.heap.size) ?_;rw [show (bd++[x.name]).length=bd.length+1 by simp]
      simpa using hown2
     go_wp2_with (fail)
     refine (HY.o _ _ _ _ (by simp) hB2 hS1).mono ?_;rintro e w4 ⟨v4,rfl,hv4,hb4⟩;obtain ⟨a4,c4,rfl,-,-,-⟩:=hv4.shape;have hbw4:Bw wr w4:=hB2.trans (hb4.mono hB2.size);have hbox4:=hbox.below hbw4;go_wp2;go_roundw
     case rel=>exact ⟨k+1,nx,a4,c4,by omega,by go_num,rfl,hv4,HZ2,HC2,hbox4,hb.trans (hbw4.mono hb.size)⟩
     case measure=>simp [intOf];omega
    have q6:(x.kind==6)=false:=beq_eq_false_iff_ne.2 hk6
    by_cases hk8:x.kind=8∧k=1
    ·have hbe:bA=[x.name]:=by rw [HBA.o,if_neg hk6,if_pos hk8]
     subst hbe;have q8:(x.kind==8)=true:=beq_iff_eq.2 hk8.1;have qk:((k:Int)==1)=true:=beq_iff_eq.2 (by have:=hk8.2;omega);clear HBA hk6 hk8;have hown0:(wr.alloc (.cells #[] 9)).ownsRow wr.heap.size 9 1 (.slice (some ⟨wr.heap.size,0,none⟩) 0 0) 0 []:=World.ownsRow_made wr #[] 0 (Nat.le_refl _) (Nat.zero_le _) rfl;have hA0:=zAa wr (.cells #[] 9)
     go_wp2_with (at_builtin;refine zAd rfl _ _ 50 rfl wr.heap.size 9 i0 _ 1 16 Tryz.underlying50 hi hz0 hz1 hz2 rfl (by decide) _ _ _ rfl hown0 _ _ _ rfl (zBa (HBD.o.below (hb.trans (hA0.mono hb.size)))) (zBi _) (by unfold maxLen;omega) (by omega) (by simp) ?_)
     intro v1 w1 hown1 hg1 hbk1;have hB1:Bw wr w1:=hA0.grown hg1 (by simp) (fun k hk=>by cases hk;exact Nat.le_refl _);obtain ⟨a1,c1',rfl⟩:=zAk hown1;have hbox1:=hbox.below hB1;have b0:=hbox1.cell (i:=0) (v:=.int .i64 x.kind) rfl;have b1:=hbox1.cell (i:=1) (v:=.string x.name) rfl;have b2:=hbox1.cell (i:=2) (v:=.string x.more) rfl;have b5:=hbox1.cell (i:=5) (v:=.slice (some ⟨yb,yo,none⟩) x.subs.length xc) rfl;have lb1:=hbox1.lt;have hA2:=zAa w1 (.cells #[.string x.name] 9)
     have hrow1:IsRow (w1.alloc (.cells #[.string x.name] 9)) 1 (.slice (some ⟨w1.heap.size,0,none⟩) 1 1) 1 [.string x.name]:=zBa (zAi (B:=w1.heap.size) (l:=[x.name]) (zDf w1 w1.heap.size (Nat.le_refl _) (.string x.name) 9));have hs1:=hB1.size;go_wp2_with (at_builtin;refine zAd rfl _ _ 50 rfl wr.heap.size 9 i0 _ 1 16 Tryz.underlying50 hi hz0 hz1 hz2 rfl (by decide) _ _ _ rfl (hown1.alloc _) _ _ _ rfl hrow1 (zBi [x.name]) (by unfold maxLen;omega) (by omega) (by simp;omega) ?_)
     intro v2 w2 hown2 hg2 hbk2;have hB2:Bw wr w2:=(hB1.trans (hA2.mono hB1.size)).grown hg2 (by simp;omega) (fun k hk=>(hown1.lt k hk).1);obtain ⟨a2,c2,rfl⟩:=zAk hown2;have hbox2:=hbox.below hB2;have d0:=hbox2.cell (i:=0) (v:=.int .i64 x.kind) rfl;have d5:=hbox2.cell (i:=5) (v:=.slice (some ⟨yb,yo,none⟩) x.subs.length xc) rfl;have lb2:=hbox2.lt;have yy0:=(hB2.cell (p:=⟨yb,_,none⟩) hybl).trans y0;have yy1:=(hB2.cell (p:=⟨yb,_,none⟩) hybl).trans y1;have yy2:=(hB2.cell (p:=⟨yb,_,none⟩) hybl).trans y2
     have yy3:=(hB2.cell (p:=⟨yb,_,none⟩) hybl).trans y3;have yy4:=(hB2.cell (p:=⟨yb,_,none⟩) hybl).trans y4;have yy5:=(hB2.cell (p:=⟨yb,_,none⟩) hybl).trans y5;have hyb1:yb<w2.heap.size:=Nat.lt_of_lt_of_le hybl hB2.size
     have hS1:Strs w2 (.slice a2 (bd.length+1) c2) (bd++[x.name]):=by
      refine zAi (B:=wr.heap.size) ?_;rw [show (bd++[x.name]).length=bd.length+1 by simp]
      simpa using hown2
     go_wp2_with (fail)
     refine (HY.o _ _ _ _ (by simp) hB2 hS1).mono ?_;rintro e w4 ⟨v4,rfl,hv4,hb4⟩;obtain ⟨a4,c4,rfl,-,-,-⟩:=hv4.shape;have hbw4:Bw wr w4:=hB2.trans (hb4.mono hB2.size);have hbox4:=hbox.below hbw4;go_wp2;go_roundw
     case rel=>exact ⟨k+1,nx,a4,c4,by omega,by go_num,rfl,hv4,HZ2,HC2,hbox4,hb.trans (hbw4.mono hb.size)⟩
     case measure=>simp [intOf];omega
    by_cases hk13:x.kind=13∧k=2
    ·have hbe:bA=[x.name,x.more]:=by rw [HBA.o,if_neg hk6,if_neg hk8,if_pos hk13]
     subst hbe;have q8:(x.kind==8)=false:=beq_eq_false_iff_ne.2 (fun h=>by have:=hk13.1;omega);have q13:(x.kind==13)=true:=beq_iff_eq.2 hk13.1;have qk:((k:Int)==2)=true:=beq_iff_eq.2 (by have:=hk13.2;omega);clear HBA hk6 hk8 hk13;have hown0:(wr.alloc (.cells #[] 9)).ownsRow wr.heap.size 9 1 (.slice (some ⟨wr.heap.size,0,none⟩) 0 0) 0 []:=World.ownsRow_made wr #[] 0 (Nat.le_refl _) (Nat.zero_le _) rfl;have hA0:=zAa wr (.cells #[] 9)
     go_wp2_with (at_builtin;refine zAd rfl _ _ 50 rfl wr.heap.size 9 i0 _ 1 16 Tryz.underlying50 hi hz0 hz1 hz2 rfl (by decide) _ _ _ rfl hown0 _ _ _ rfl (zBa (HBD.o.below (hb.trans (hA0.mono hb.size)))) (zBi _) (by unfold maxLen;omega) (by omega) (by simp) ?_)
     intro v1 w1 hown1 hg1 hbk1;have hB1:Bw wr w1:=hA0.grown hg1 (by simp) (fun k hk=>by cases hk;exact Nat.le_refl _);obtain ⟨a1,c1',rfl⟩:=zAk hown1;have hbox1:=hbox.below hB1;have b0:=hbox1.cell (i:=0) (v:=.int .i64 x.kind) rfl;have b1:=hbox1.cell (i:=1) (v:=.string x.name) rfl;have b2:=hbox1.cell (i:=2) (v:=.string x.more) rfl;have b5:=hbox1.cell (i:=5) (v:=.slice (some ⟨yb,yo,none⟩) x.subs.length xc) rfl;have lb1:=hbox1.lt;have hA2:=zAa w1 (.cells #[.string x.name,.string x.more] 9)
     have hrow1:IsRow (w1.alloc (.cells #[.string x.name,.string x.more] 9)) 1 (.slice (some ⟨w1.heap.size,0,none⟩) 2 2) 2 [.string x.name,.string x.more]:=zBa (zAi (B:=w1.heap.size) (l:=[x.name,x.more]) (zRy w1 w1.heap.size (Nat.le_refl _) 9 (.string x.name) (.string x.more)));have hs1:=hB1.size
     go_wp2_with (at_builtin;refine zAd rfl _ _ 50 rfl wr.heap.size 9 i0 _ 1 16 Tryz.underlying50 hi hz0 hz1 hz2 rfl (by decide) _ _ _ rfl (hown1.alloc _) _ _ _ rfl hrow1 (zBi [x.name,x.more]) (by unfold maxLen;omega) (by omega) (by simp;omega) ?_)
     intro v2 w2 hown2 hg2 hbk2;have hB2:Bw wr w2:=(hB1.trans (hA2.mono hB1.size)).grown hg2 (by simp;omega) (fun k hk=>(hown1.lt k hk).1);obtain ⟨a2,c2,rfl⟩:=zAk hown2;have hbox2:=hbox.below hB2;have d0:=hbox2.cell (i:=0) (v:=.int .i64 x.kind) rfl;have d5:=hbox2.cell (i:=5) (v:=.slice (some ⟨yb,yo,none⟩) x.subs.length xc) rfl;have lb2:=hbox2.lt;have yy0:=(hB2.cell (p:=⟨yb,_,none⟩) hybl).trans y0;have yy1:=(hB2.cell (p:=⟨yb,_,none⟩) hybl).trans y1;have yy2:=(hB2.cell (p:=⟨yb,_,none⟩) hybl).trans y2
     have yy3:=(hB2.cell (p:=⟨yb,_,none⟩) hybl).trans y3;have yy4:=(hB2.cell (p:=⟨yb,_,none⟩) hybl).trans y4;have yy5:=(hB2.cell (p:=⟨yb,_,none⟩) hybl).trans y5;have hyb1:yb<w2.heap.size:=Nat.lt_of_lt_of_le hybl hB2.size
     have hS1:Strs w2 (.slice a2 (bd.length+2) c2) (bd++[x.name,x.more]):=by
      refine zAi (B:=wr.heap.size) ?_;rw [show (bd++[x.name,x.more]).length=bd.length+2 by simp]
      simpa using hown2
     go_wp2_with (fail)
     refine (HY.o _ _ _ _ (by simp) hB2 hS1).mono ?_;rintro e w4 ⟨v4,rfl,hv4,hb4⟩;obtain ⟨a4,c4,rfl,-,-,-⟩:=hv4.shape;have hbw4:Bw wr w4:=hB2.trans (hb4.mono hB2.size);have hbox4:=hbox.below hbw4;go_wp2;go_roundw
     case rel=>exact ⟨k+1,nx,a4,c4,by omega,by go_num,rfl,hv4,HZ2,HC2,hbox4,hb.trans (hbw4.mono hb.size)⟩
     case measure=>simp [intOf];omega
    have hbe:bA=[]:=by rw [HBA.o,if_neg hk6,if_neg hk8,if_neg hk13]
    subst hbe;clear HBA
    by_cases e8:x.kind=8
    ·have q8:(x.kind==8)=true:=beq_iff_eq.2 e8
     have qk:((k:Int)==1)=false:=beq_eq_false_iff_ne.2 (fun h=>hk8 ⟨e8,by omega⟩);have q13:(x.kind==13)=false:=beq_eq_false_iff_ne.2 (fun h=>by rw [e8] at h;omega);clear e8 hk6 hk8 hk13;have hown0:(wr.alloc (.cells #[] 9)).ownsRow wr.heap.size 9 1 (.slice (some ⟨wr.heap.size,0,none⟩) 0 0) 0 []:=World.ownsRow_made wr #[] 0 (Nat.le_refl _) (Nat.zero_le _) rfl;have hA0:=zAa wr (.cells #[] 9)
     go_wp2_with (at_builtin;refine zAd rfl _ _ 50 rfl wr.heap.size 9 i0 _ 1 16 Tryz.underlying50 hi hz0 hz1 hz2 rfl (by decide) _ _ _ rfl hown0 _ _ _ rfl (zBa (HBD.o.below (hb.trans (hA0.mono hb.size)))) (zBi _) (by unfold maxLen;omega) (by omega) (by simp) ?_)
     intro v1 w1 hown1 hg1 hbk1;have hB1:Bw wr w1:=hA0.grown hg1 (by simp) (fun k hk=>by cases hk;exact Nat.le_refl _);obtain ⟨a1,c1',rfl⟩:=zAk hown1;have hbox1:=hbox.below hB1;have b0:=hbox1.cell (i:=0) (v:=.int .i64 x.kind) rfl;have b1:=hbox1.cell (i:=1) (v:=.string x.name) rfl;have b2:=hbox1.cell (i:=2) (v:=.string x.more) rfl;have b5:=hbox1.cell (i:=5) (v:=.slice (some ⟨yb,yo,none⟩) x.subs.length xc) rfl;have lb1:=hbox1.lt;have yy0:=(hB1.cell (p:=⟨yb,_,none⟩) hybl).trans y0
     have yy1:=(hB1.cell (p:=⟨yb,_,none⟩) hybl).trans y1;have yy2:=(hB1.cell (p:=⟨yb,_,none⟩) hybl).trans y2;have yy3:=(hB1.cell (p:=⟨yb,_,none⟩) hybl).trans y3;have yy4:=(hB1.cell (p:=⟨yb,_,none⟩) hybl).trans y4;have yy5:=(hB1.cell (p:=⟨yb,_,none⟩) hybl).trans y5;have hyb1:yb<w1.heap.size:=Nat.lt_of_lt_of_le hybl hB1.size;have hS1:Strs w1 (.slice a1 (0+bd.length) c1') (bd++[]):=by rw [List.append_nil];exact zAi (B:=wr.heap.size) (by simpa using hown1)
     simp only [Nat.zero_add] at hS1
     go_wp2_with (fail)
     refine (HY.o _ _ _ _ (by simp) hB1 hS1).mono ?_;rintro e w4 ⟨v4,rfl,hv4,hb4⟩;obtain ⟨a4,c4,rfl,-,-,-⟩:=hv4.shape;have hbw4:Bw wr w4:=hB1.trans (hb4.mono hB1.size);have hbox4:=hbox.below hbw4;go_wp2;go_roundw
     case rel=>exact ⟨k+1,nx,a4,c4,by omega,by go_num,rfl,hv4,HZ2,HC2,hbox4,hb.trans (hbw4.mono hb.size)⟩
     case measure=>simp [intOf];omega
    by_cases e13:x.kind=13
    ·have q8:(x.kind==8)=false:=beq_eq_false_iff_ne.2 e8
     have q13:(x.kind==13)=true:=beq_iff_eq.2 e13;have qk:((k:Int)==2)=false:=beq_eq_false_iff_ne.2 (fun h=>hk13 ⟨e13,by omega⟩);clear e8 e13 hk6 hk8 hk13;have hown0:(wr.alloc (.cells #[] 9)).ownsRow wr.heap.size 9 1 (.slice (some ⟨wr.heap.size,0,none⟩) 0 0) 0 []:=World.ownsRow_made wr #[] 0 (Nat.le_refl _) (Nat.zero_le _) rfl;have hA0:=zAa wr (.cells #[] 9)
     go_wp2_with (at_builtin;refine zAd rfl _ _ 50 rfl wr.heap.size 9 i0 _ 1 16 Tryz.underlying50 hi hz0 hz1 hz2 rfl (by decide) _ _ _ rfl hown0 _ _ _ rfl (zBa (HBD.o.below (hb.trans (hA0.mono hb.size)))) (zBi _) (by unfold maxLen;omega) (by omega) (by simp) ?_)
     intro v1 w1 hown1 hg1 hbk1;have hB1:Bw wr w1:=hA0.grown hg1 (by simp) (fun k hk=>by cases hk;exact Nat.le_refl _);obtain ⟨a1,c1',rfl⟩:=zAk hown1;have hbox1:=hbox.below hB1;have b0:=hbox1.cell (i:=0) (v:=.int .i64 x.kind) rfl;have b1:=hbox1.cell (i:=1) (v:=.string x.name) rfl;have b2:=hbox1.cell (i:=2) (v:=.string x.more) rfl;have b5:=hbox1.cell (i:=5) (v:=.slice (some ⟨yb,yo,none⟩) x.subs.length xc) rfl;have lb1:=hbox1.lt;have yy0:=(hB1.cell (p:=⟨yb,_,none⟩) hybl).trans y0
     have yy1:=(hB1.cell (p:=⟨yb,_,none⟩) hybl).trans y1;have yy2:=(hB1.cell (p:=⟨yb,_,none⟩) hybl).trans y2;have yy3:=(hB1.cell (p:=⟨yb,_,none⟩) hybl).trans y3;have yy4:=(hB1.cell (p:=⟨yb,_,none⟩) hybl).trans y4;have yy5:=(hB1.cell (p:=⟨yb,_,none⟩) hybl).trans y5;have hyb1:yb<w1.heap.size:=Nat.lt_of_lt_of_le hybl hB1.size;have hS1:Strs w1 (.slice a1 (0+bd.length) c1') (bd++[]):=by rw [List.append_nil];exact zAi (B:=wr.heap.size) (by simpa using hown1)
     simp only [Nat.zero_add] at hS1
     go_wp2_with (fail)
     refine (HY.o _ _ _ _ (by simp) hB1 hS1).mono ?_;rintro e w4 ⟨v4,rfl,hv4,hb4⟩;obtain ⟨a4,c4,rfl,-,-,-⟩:=hv4.shape;have hbw4:Bw wr w4:=hB1.trans (hb4.mono hB1.size);have hbox4:=hbox.below hbw4;go_wp2;go_roundw
     case rel=>exact ⟨k+1,nx,a4,c4,by omega,by go_num,rfl,hv4,HZ2,HC2,hbox4,hb.trans (hbw4.mono hb.size)⟩
     case measure=>simp [intOf];omega
    ·have q8:(x.kind==8)=false:=beq_eq_false_iff_ne.2 e8
     have q13:(x.kind==13)=false:=beq_eq_false_iff_ne.2 e13;clear e8 e13 hk6 hk8 hk13;have hown0:(wr.alloc (.cells #[] 9)).ownsRow wr.heap.size 9 1 (.slice (some ⟨wr.heap.size,0,none⟩) 0 0) 0 []:=World.ownsRow_made wr #[] 0 (Nat.le_refl _) (Nat.zero_le _) rfl;have hA0:=zAa wr (.cells #[] 9)
     go_wp2_with (at_builtin;refine zAd rfl _ _ 50 rfl wr.heap.size 9 i0 _ 1 16 Tryz.underlying50 hi hz0 hz1 hz2 rfl (by decide) _ _ _ rfl hown0 _ _ _ rfl (zBa (HBD.o.below (hb.trans (hA0.mono hb.size)))) (zBi _) (by unfold maxLen;omega) (by omega) (by simp) ?_)
     intro v1 w1 hown1 hg1 hbk1;have hB1:Bw wr w1:=hA0.grown hg1 (by simp) (fun k hk=>by cases hk;exact Nat.le_refl _);obtain ⟨a1,c1',rfl⟩:=zAk hown1;have hbox1:=hbox.below hB1;have b0:=hbox1.cell (i:=0) (v:=.int .i64 x.kind) rfl;have b1:=hbox1.cell (i:=1) (v:=.string x.name) rfl;have b2:=hbox1.cell (i:=2) (v:=.string x.more) rfl;have b5:=hbox1.cell (i:=5) (v:=.slice (some ⟨yb,yo,none⟩) x.subs.length xc) rfl;have lb1:=hbox1.lt;have yy0:=(hB1.cell (p:=⟨yb,_,none⟩) hybl).trans y0
     have yy1:=(hB1.cell (p:=⟨yb,_,none⟩) hybl).trans y1;have yy2:=(hB1.cell (p:=⟨yb,_,none⟩) hybl).trans y2;have yy3:=(hB1.cell (p:=⟨yb,_,none⟩) hybl).trans y3;have yy4:=(hB1.cell (p:=⟨yb,_,none⟩) hybl).trans y4;have yy5:=(hB1.cell (p:=⟨yb,_,none⟩) hybl).trans y5;have hyb1:yb<w1.heap.size:=Nat.lt_of_lt_of_le hybl hB1.size;have hS1:Strs w1 (.slice a1 (0+bd.length) c1') (bd++[]):=by rw [List.append_nil];exact zAi (B:=wr.heap.size) (by simpa using hown1)
     simp only [Nat.zero_add] at hS1
     go_wp2_with (fail)
     refine (HY.o _ _ _ _ (by simp) hB1 hS1).mono ?_;rintro e w4 ⟨v4,rfl,hv4,hb4⟩;obtain ⟨a4,c4,rfl,-,-,-⟩:=hv4.shape;have hbw4:Bw wr w4:=hB1.trans (hb4.mono hB1.size);have hbox4:=hbox.below hbw4;go_wp2;go_roundw
     case rel=>exact ⟨k+1,nx,a4,c4,by omega,by go_num,rfl,hv4,HZ2,HC2,hbox4,hb.trans (hbw4.mono hb.size)⟩
     case measure=>simp [intOf];omega
   ·have hd:decide ((k:Int)<(x.subs.length:Int))=false:=decide_eq_false (by omega)
    have HT:Hid (r=cur):=by show _=_;rw [HZ'.o,zFd bd (by omega)];rfl
    go_wp2;go_ret;exact ⟨_,rfl,by rw [HT.o];exact HLV.o,hb⟩
def freeOf (x:Ex):List ByteArray:=if exprErr x=0 then withAll [] (freeN x []) else []
theorem zGx {x:Ex} (h:exprErr x=0):nodesN x≤400:=by
 rw [exprErr] at h;split at h<;>omega
theorem zXy (x:Ex) (xa:Option Addr) (xc:Nat) (w:World) (hr:Reads w [] (subsT x.subs) (.slice xa x.subs.length xc)) (hsm:SmX 40000 x) (hN:nodesN x≤4000000) :
  Calls Tryz.prog 166 #[exV x xa xc] w fun e w'=>∃v,e=.returned v∧Strs w' v (freeOf x)∧Bw w w':=by
 have HR:=lH hr;have HX:=lH (fun w h=>zGe x xa xc w h hsm hN);have HB:=lH (CBox.new w 60 #[.int .i64 x.kind,.string x.name,.string x.more,.int .i64 x.num,.int .i64 x.den,.slice xa x.subs.length xc]);have hA:=zAa w (.cells #[.int .i64 x.kind,.string x.name,.string x.more,.int .i64 x.num,.int .i64 x.den,.slice xa x.subs.length xc] 60);have HF:Hid (freeOf x=if exprErr x=0 then withAll [] (freeN x []) else []):=rfl;generalize freeOf x=r at *;clear hr
 by_cases h0:exprErr x=0
 ·have hs:=zGx h0
  have HV:=lH (zGi h0);have HG:=lH (fun (W:World) (h:Reads W [] (subsT x.subs) (.slice xa x.subs.length xc))=>zXx x [] [] xa none (some ⟨W.heap.size - 1,0,none⟩) xc 0 0 W h HV.o (Strs.nil _ _ _ (Nat.zero_le _)) (Strs.nil _ _ _ (Nat.zero_le _)) (by simp;omega) (by simp;omega));rw [if_pos h0] at HF;rw [h0] at HX;unfold exV at *;simp only [List.length_nil] at HG
  go_enter Tryz.func166,Tryz.ntmps166
  go_wp2_with (fail)
  refine (HX.o _ (HR.o.below hA)).mono ?_;rintro e w1 ⟨rfl,hb1⟩;have hbox:=HB.o.below hb1;obtain ⟨c0,c1,c2,c3,c4,c5,lb⟩:=zCv hbox;have hb2:=(zA hA hb1).trans ((zAa w1 (.cells #[] 9)).mono (zA hA hb1).size);have HC:=HG.o _ (HR.o.below hb2);rw [World.size_alloc,Nat.add_sub_cancel] at HC;have HC2:=lH HC;clear HG HC HX;go_wp2_with (fail)
  refine HC2.o.mono ?_;rintro e w3 ⟨v,rfl,hv,hb3⟩;go_wp2;go_ret;exact ⟨_,rfl,by rw [HF.o];exact hv,hb2.trans (hb3.mono (by have:=hb2.size;simpa using this))⟩
 ·rw [if_neg h0] at HF
  have hne:(exprErr x != 0)=true:=by simp [h0]
  generalize exprErr x=q at *;unfold exV at *;clear h0
  go_enter Tryz.func166,Tryz.ntmps166
  go_wp2_with (fail)
  refine (HX.o _ (HR.o.below hA)).mono ?_;rintro e w1 ⟨rfl,hb1⟩;go_wp2;go_ret;exact ⟨_,rfl,by rw [HF.o];exact Strs.nil _ _ _ (Nat.zero_le _),zA hA hb1⟩
def declErr (label:ByteArray) (d:ODecl):Int:=
 if d.id<1 then 2 else if rDeclErr d=0 then (if anyX (kindP 4) d.body then 9 else if (freeOf d.body).length=0 then (if anyX (refP label) d.body then 1 else 0) else 21) else rDeclErr d
theorem zRz (label:ByteArray) (d:ODecl) (an:Option Addr) (cn:Nat) (sa:Option Addr) (cs:Nat) (w:World) (hn:Strs w (.slice an d.names.length cn) d.names) (hr:Reads w [] (subsT d.body.subs) (.slice sa d.body.subs.length cs)) (hs:∀s∈d.names,s.size≤40000) (hl:d.names.length≤1000000)
  (hsm:SmX 40000 d.body) (hN:nodesN d.body≤4000000) :
  Calls Tryz.prog 113 #[.string label,declV d an cn sa cs] w fun e w'=>e=.returned (.int .i64 (declErr label d))∧Bw w w':=by
 have HX:=lH (fun w h1 h2=>zLn d an cn sa cs w h1 h2 hs hl hsm hN);have hsb:=hsm.mono (show 40000≤9223372036854775807 by omega);have HK:=lH (fun w h=>zVc 4 d.body sa cs w h hsb hN);have HG:=lH (fun w h=>zXy d.body sa cs w h hsm hN);have HT:=lH (fun w h=>zPk label d.body sa cs w h hsb hN);have HSR:=lH hr;have HR:=lH hn
 have HE:Hid (declErr label d=if d.id<1 then 2 else if rDeclErr d=0 then (if anyX (kindP 4) d.body then 9 else if (freeOf d.body).length=0 then (if anyX (refP label) d.body then 1 else 0) else 21) else rDeclErr d):=rfl;have HB:=lH (CBox.new w 62 #[.int .i64 d.id,.int .i64 d.kind,.bool d.pub,.slice an d.names.length cn,.bool d.doubt,.int .i64 d.body.kind,.string d.body.name,.string d.body.more,.int .i64 d.body.num,.int .i64 d.body.den,.slice sa d.body.subs.length cs])
 have hA:=zAa w (.cells #[.int .i64 d.id,.int .i64 d.kind,.bool d.pub,.slice an d.names.length cn,.bool d.doubt,.int .i64 d.body.kind,.string d.body.name,.string d.body.more,.int .i64 d.body.num,.int .i64 d.body.den,.slice sa d.body.subs.length cs] 62);generalize declErr label d=T at *;generalize anyX (kindP 4) d.body=bk at *;generalize anyX (refP label) d.body=br at *;generalize freeOf d.body=fl at *;generalize rDeclErr d=q at *;clear hr hn hs hsm hsb;unfold declV exV at *
 by_cases hi:d.id<1
 ·have hd:decide (d.id<1)=true:=decide_eq_true hi
  rw [if_pos hi] at HE
  go_enter Tryz.func113,Tryz.ntmps113
  go_wp2;go_ret;exact ⟨zAc HE.o.symm,hA⟩
 have hd:decide (d.id<1)=false:=decide_eq_false hi;rw [if_neg hi] at HE;clear hi
 by_cases hq:q=0
 ·rw [if_pos hq] at HE
  have hq2:(q != 0)=false:=by rw [hq];rfl
  clear hq
  go_enter Tryz.func113,Tryz.ntmps113
  go_wp2_with (fail)
  refine (HX.o _ (HR.o.below hA) (HSR.o.below hA)).mono ?_;rintro e w1 ⟨rfl,hb1⟩;have hB1:=zA hA hb1;have m1:=HB.o.below hb1;obtain ⟨-,-,-,-,-,m1c5,m1c6,m1c7,m1c8,m1c9,m1c10,m1l⟩:=zAz m1
  cases bk with
  | true=>
   go_wp2_with (fail)
   refine (HK.o _ (HSR.o.below hB1)).mono ?_;rintro e w2 ⟨rfl,hb2⟩;go_wp2;go_ret;exact ⟨zAc (by rw [HE.o];rfl),zA hB1 hb2⟩
  | false=>
   go_wp2_with (fail)
   refine (HK.o _ (HSR.o.below hB1)).mono ?_;rintro e w2 ⟨rfl,hb2⟩;have hB2:=zA hB1 hb2;have m2:=m1.below hb2;obtain ⟨-,-,-,-,-,m2c5,m2c6,m2c7,m2c8,m2c9,m2c10,m2l⟩:=zAz m2;go_wp2_with (fail)
   refine (HG.o _ (HSR.o.below hB2)).mono ?_;rintro e w3 ⟨v,rfl,hv,hb3⟩;obtain ⟨va,vc,rfl,-,-,-⟩:=hv.shape;have hB3:=zA hB2 hb3;have m3:=m2.below hb3;obtain ⟨-,-,-,-,-,m3c5,m3c6,m3c7,m3c8,m3c9,m3c10,m3l⟩:=zAz m3
   by_cases hf:fl.length=0
   ·have hf2:¬0<fl.length:=by omega
    rw [if_neg (by simp),if_pos hf] at HE;clear hf;go_wp2_with (fail)
    refine (HT.o _ (HSR.o.below hB3)).mono ?_;rintro e w4 ⟨rfl,hb4⟩
    cases br with
    | true=>
     go_wp2;go_ret;exact ⟨zAc (by rw [HE.o];rfl),zA hB3 hb4⟩
    | false=>
     go_wp2;go_ret;exact ⟨zAc (by rw [HE.o];rfl),zA hB3 hb4⟩
   ·have hf2:0<fl.length:=by omega
    rw [if_neg (by simp),if_neg hf] at HE;go_wp2;go_ret;exact ⟨zAc HE.o.symm,hB3⟩
 ·rw [if_neg hq] at HE
  have hq2:(q != 0)=true:=by simp [hq]
  clear hq
  go_enter Tryz.func113,Tryz.ntmps113
  go_wp2_with (fail)
  refine (HX.o _ (HR.o.below hA) (HSR.o.below hA)).mono ?_;rintro e w1 ⟨rfl,hb1⟩;go_wp2;go_ret;exact ⟨zAc HE.o.symm,zA hA hb1⟩
theorem zVq (ad:Addr) (n c:Nat) (w:World):(binOp .eql 50 (.slice (some ad) n c) (.slice none 0 0)).run Tryz.prog w=.ok (.bool false) w:=Lib.run_eql_slice_nil w _ _ (some ad) n c 0 0 Tryz.underlying50
theorem zVr (n c:Nat) (w:World):(binOp .eql 50 (.slice none n c) (.slice none 0 0)).run Tryz.prog w=.ok (.bool true) w:=Lib.run_eql_slice_nil w _ _ none n c 0 0 Tryz.underlying50
attribute [local go_sem] zVq zVr
theorem zCx (l:List ByteArray) (a:Option Addr) (c:Nat) (w:World) (hr:Strs w (.slice a l.length c) l) (hl:l.length≤1000000) :
  Calls Tryz.prog 30 #[.slice a l.length c] w fun e w'=>∃v,e=.returned v∧w'.ownsRow w.heap.size 9 1 v l.length (l.map .string)∧Bw w w':=by
 have HR:=lH hr;obtain ⟨i0,hi,hz0,hz1,hz2⟩:=info_parts zGh;obtain ⟨_,_,e,hlc,hcm,hcell⟩:=hr.shape
 cases e
 clear hr
 rcases Nat.eq_zero_or_pos l.length with h0|h0
 ·obtain rfl:l=[]:=List.eq_nil_of_length_eq_zero h0
  clear hcell h0 HR
  cases a with
  | none=>
   go_enter Tryz.func30,Tryz.ntmps30
   go_wp2;go_ret;exact ⟨_,rfl,World.ownsRow_nil _ _ _ _,zAl _⟩
  | some ad=>
   go_enter Tryz.func30,Tryz.ntmps30
   go_wp2;go_ret;exact ⟨_,rfl,World.ownsRow_made w #[] 0 (Nat.le_refl _) (Nat.zero_le _) rfl,zAa _ _⟩
 ·obtain ⟨b,o,rfl,hbl,hc⟩:=hcell 0 h0
  clear hcell hc;have hown0:(w.alloc (.cells #[] 9)).ownsRow w.heap.size 9 1 (.slice (some ⟨w.heap.size,0,none⟩) 0 0) 0 []:=World.ownsRow_made w #[] 0 (Nat.le_refl _) (Nat.zero_le _) rfl;have hA0:=zAa w (.cells #[] 9)
  go_enter Tryz.func30,Tryz.ntmps30
  go_wp2_with (at_builtin;refine zAd rfl _ _ 50 rfl w.heap.size 9 i0 _ 1 16 Tryz.underlying50 hi hz0 hz1 hz2 rfl (by decide) _ _ _ rfl hown0 _ _ _ rfl (zBa (HR.o.below hA0)) (zBi _) (by unfold maxLen;omega) (by omega) (by simp) ?_)
  intro v1 w1 hown1 hg1 hb1;have hB1:Bw w w1:=hA0.grown hg1 (by simp) (fun k hk=>by cases hk;exact Nat.le_refl _);go_wp2;go_ret;exact ⟨_,rfl,by simpa using hown1,hB1⟩
end Go.Proofs.YtfkjfdbjhlmjcaaGreatDoor
