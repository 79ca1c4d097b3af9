/- syntax.checkNode. -/
import Derived.Test.YtdpnfkjafhbndaaGreatDoorESyB
import Derived.Deep.DeepCutAuto
namespace Go.Proofs.YtdpnfkjafhbndaaGreatDoor
open Go.RowKit
def argR (n m:ByteArray) (i d:Int) (len a b c:Nat):Bool:=(decide (a < 1) && !(isE n)) || (decide (a < 2) && !(isE m)) || (decide (b < 1) && i != 0) || (decide (b < 2) && d != 0) || len != c
def nodeR (k:Int) (n m:ByteArray) (i d:Int) (len:Nat):Int:=
 match shapeK k with
 | none => 9
 | some (a,b,c) => if argR n m i d len a b c then 1 else if namesE k n m a = 0 then numsE k i d else namesE k n m a
theorem nodeErr_eq (x:Ex):nodeErr x = nodeR x.kind x.name x.more x.num x.den x.subs.length:=by
 unfold nodeErr nodeR
 cases shapeK x.kind with
 | none => rfl
 | some p =>
  obtain ⟨a,b,c⟩:=p;simp only []
  rw [show argBad x a b c = argR x.name x.more x.num x.den x.subs.length a b c from rfl,namesOk_eq,numsOk_eq];unfold namesE numsE
  cases argR x.name x.more x.num x.den x.subs.length a b c with
  | true => rfl
  | false =>
   cases namesR x.kind x.name x.more a with
   | false => rfl
   | true =>
    by_cases h:x.kind = 13∧x.name.data.toList = x.more.data.toList
    ·rw [if_pos h,if_pos h];rfl
    ·rw [if_neg h,if_neg h];rfl
theorem shape_ab {k:Int} {a b c:Nat} (h:shapeK k = some (a,b,c)):(a = 0∧b = 1)∨(a = 1∧b = 0)∨(a = 2∧b = 0)∨(a = 1∧b = 1)∨(a = 0∧b = 0)∨(a = 0∧b = 2):=by
 rcases shapeK_range k with hr | hr
 ·have:k = 1∨k = 2∨k = 3∨k = 4∨k = 5∨k = 6∨k = 7∨k = 8∨k = 9∨k = 10∨k = 11∨k = 12∨k = 13∨k = 14∨k = 15:=by omega
  rcases this with rfl | rfl | rfl | rfl | rfl | rfl | rfl | rfl | rfl | rfl | rfl | rfl | rfl | rfl | rfl <;> simp [shapeK] at h <;> obtain ⟨rfl,rfl,rfl⟩:=h <;> simp
 ·rw [hr] at h;cases h
theorem isE_tl (n:ByteArray):isE n = (n.toList == []):=by rw [isE,tl]
theorem bne_cast (len c:Nat):(len != c) = ((len:Int) != (c:Int)):=by
 rw [Bool.eq_iff_iff,bne_iff_ne,bne_iff_ne];omega
set_option maxRecDepth 100000 in
set_option maxHeartbeats 4000000 in
theorem checkNode_any (k i d:Int) (n m:ByteArray) (sa:Option Addr) (len sc:Nat) (hn:n.size≤40000) (hm:m.size≤40000) (w:World) :
  Calls Tryz.prog 208 #[.agg #[.int .i64 k,.string n,.string m,.int .i64 i,.int .i64 d,.slice sa len sc]] w fun e w' => e = .returned (.int .i64 (nodeR k n m i d len))∧Below w.heap.size w w':=by
 have HB:=lH (CBox.new w 66 #[.int .i64 k,.string n,.string m,.int .i64 i,.int .i64 d,.slice sa len sc]);have hA:=qalloc w (.cells #[.int .i64 k,.string n,.string m,.int .i64 i,.int .i64 d,.slice sa len sc] 66)
 have HN:Hid (nodeR k n m i d len = match shapeK k with
  | none => 9
  | some (a,b,c) => if argR n m i d len a b c then 1 else if namesE k n m a = 0 then numsE k i d else namesE k n m a):=rfl
 have HS:=lH (fun w => shapeOf_any k w);unfold shapeV at HS;have HEn:=lH (isE_tl n);have HEm:=lH (isE_tl m)
 cases hk:shapeK k with
 | none =>
  rw [hk] at HS HN
  go_enter Tryz.func208,Tryz.ntmps208
  go_wp2_with (fail)
  refine (HS.out _).mono ?_;rintro e w1 ⟨rfl,hb1⟩;go_wp2;go_ret;exact ⟨ret_int (by rw [HN.out]),qtrans (qtrans hA hb1) (qalloc _ _)⟩
 | some p =>
 obtain ⟨a,b,c⟩:=p;rw [hk] at HS HN;simp only [] at HS HN
 have HLe:=lH (bne_cast len c);have HK:=lH hk;have HCN:=lH (fun w => checkNames_any k i d n m (.slice sa len sc) a b c hk hn hm w);have HNU:=lH (fun w => checkNumbers_any k i d n m (.slice sa len sc) w);have hab:=shape_ab hk;clear hk
 go_enter Tryz.func208,Tryz.ntmps208
 go_wp2_with (fail)
 refine (HS.out _).mono ?_;rintro e w1 ⟨rfl,hb1⟩;have HB1:=lH (HB.out.below hb1);have hbb:=qtrans (qtrans hA hb1) (qalloc w1 (.cells #[.int .i64 (a:Int),.int .i64 (b:Int),.int .i64 (c:Int)] 241));have HX:=lH (HB1.out.alloc (.cells #[.int .i64 (a:Int),.int .i64 (b:Int),.int .i64 (c:Int)] 241));have HY:=lH (CBox.new w1 241 #[.int .i64 (a:Int),.int .i64 (b:Int),.int .i64 (c:Int)]);go_upto_region 4 with (fail)
 generalize w1.alloc (.cells #[.int .i64 (a:Int),.int .i64 (b:Int),.int .i64 (c:Int)] 241) = w2 at *;have y0:=HY.out.cell (i:=0) rfl;have y1:=HY.out.cell (i:=1) rfl;have y2:=HY.out.cell (i:=2) rfl;have yl:=HY.out.lt;have x0:=HX.out.cell (i:=0) rfl;have x1:=HX.out.cell (i:=1) rfl;have x2:=HX.out.cell (i:=2) rfl;have x3:=HX.out.cell (i:=3) rfl;have x4:=HX.out.cell (i:=4) rfl;have x5:=HX.out.cell (i:=5) rfl;have xl:=HX.out.lt
 go_cut [59] from 14 to 59 (fun v wx => v = .bool (argR n m i d len a b c)∧w2 = wx)
 case first =>
  clear HCN HNU HS HB HB1 hbb HN
  rcases hab with ⟨rfl,rfl⟩ | ⟨rfl,rfl⟩ | ⟨rfl,rfl⟩ | ⟨rfl,rfl⟩ | ⟨rfl,rfl⟩ | ⟨rfl,rfl⟩
  ·skip
   cases hn:(n.toList == []) with
   | true =>
    cases hm:(m.toList == []) with
    | true =>
     cases hd:(d != 0) with
     | true =>
      have HA:Hid (argR n m i d len 0 1 c = true):=by show _ = _;simp only [argR,HEn.out,HEm.out,HLe.out];simp [hn,hm,hd]
      go_wp2;go_meet
      case rel => exact ⟨by rw [HA.out],rfl⟩
     | false =>
      cases hl:((len:Int) != (c:Int)) with
      | true =>
       have HA:Hid (argR n m i d len 0 1 c = true):=by show _ = _;simp only [argR,HEn.out,HEm.out,HLe.out];simp [hn,hm,hd,hl]
       go_wp2;go_meet
       case rel => exact ⟨by rw [HA.out],rfl⟩
      | false =>
       have HA:Hid (argR n m i d len 0 1 c = false):=by show _ = _;simp only [argR,HEn.out,HEm.out,HLe.out];simp [hn,hm,hd,hl]
       go_wp2;go_meet
       case rel => exact ⟨by rw [HA.out],rfl⟩
    | false =>
     have HA:Hid (argR n m i d len 0 1 c = true):=by show _ = _;simp only [argR,HEn.out,HEm.out,HLe.out];simp [hn,hm]
     go_wp2;go_meet
     case rel => exact ⟨by rw [HA.out],rfl⟩
   | false =>
    have HA:Hid (argR n m i d len 0 1 c = true):=by show _ = _;simp only [argR,HEn.out,HEm.out,HLe.out];simp [hn]
    go_wp2;go_meet
    case rel => exact ⟨by rw [HA.out],rfl⟩
  ·skip
   cases hm:(m.toList == []) with
   | true =>
    cases hi:(i != 0) with
    | true =>
     have HA:Hid (argR n m i d len 1 0 c = true):=by show _ = _;simp only [argR,HEn.out,HEm.out,HLe.out];simp [hm,hi]
     go_wp2;go_meet
     case rel => exact ⟨by rw [HA.out],rfl⟩
    | false =>
     cases hd:(d != 0) with
     | true =>
      have HA:Hid (argR n m i d len 1 0 c = true):=by show _ = _;simp only [argR,HEn.out,HEm.out,HLe.out];simp [hm,hi,hd]
      go_wp2;go_meet
      case rel => exact ⟨by rw [HA.out],rfl⟩
     | false =>
      cases hl:((len:Int) != (c:Int)) with
      | true =>
       have HA:Hid (argR n m i d len 1 0 c = true):=by show _ = _;simp only [argR,HEn.out,HEm.out,HLe.out];simp [hm,hi,hd,hl]
       go_wp2;go_meet
       case rel => exact ⟨by rw [HA.out],rfl⟩
      | false =>
       have HA:Hid (argR n m i d len 1 0 c = false):=by show _ = _;simp only [argR,HEn.out,HEm.out,HLe.out];simp [hm,hi,hd,hl]
       go_wp2;go_meet
       case rel => exact ⟨by rw [HA.out],rfl⟩
   | false =>
    have HA:Hid (argR n m i d len 1 0 c = true):=by show _ = _;simp only [argR,HEn.out,HEm.out,HLe.out];simp [hm]
    go_wp2;go_meet
    case rel => exact ⟨by rw [HA.out],rfl⟩
  ·skip
   cases hi:(i != 0) with
   | true =>
    have HA:Hid (argR n m i d len 2 0 c = true):=by show _ = _;simp only [argR,HEn.out,HEm.out,HLe.out];simp [hi]
    go_wp2;go_meet
    case rel => exact ⟨by rw [HA.out],rfl⟩
   | false =>
    cases hd:(d != 0) with
    | true =>
     have HA:Hid (argR n m i d len 2 0 c = true):=by show _ = _;simp only [argR,HEn.out,HEm.out,HLe.out];simp [hi,hd]
     go_wp2;go_meet
     case rel => exact ⟨by rw [HA.out],rfl⟩
    | false =>
     cases hl:((len:Int) != (c:Int)) with
     | true =>
      have HA:Hid (argR n m i d len 2 0 c = true):=by show _ = _;simp only [argR,HEn.out,HEm.out,HLe.out];simp [hi,hd,hl]
      go_wp2;go_meet
      case rel => exact ⟨by rw [HA.out],rfl⟩
     | false =>
      have HA:Hid (argR n m i d len 2 0 c = false):=by show _ = _;simp only [argR,HEn.out,HEm.out,HLe.out];simp [hi,hd,hl]
      go_wp2;go_meet
      case rel => exact ⟨by rw [HA.out],rfl⟩
  ·skip
   cases hm:(m.toList == []) with
   | true =>
    cases hd:(d != 0) with
    | true =>
     have HA:Hid (argR n m i d len 1 1 c = true):=by show _ = _;simp only [argR,HEn.out,HEm.out,HLe.out];simp [hm,hd]
     go_wp2;go_meet
     case rel => exact ⟨by rw [HA.out],rfl⟩
    | false =>
     cases hl:((len:Int) != (c:Int)) with
     | true =>
      have HA:Hid (argR n m i d len 1 1 c = true):=by show _ = _;simp only [argR,HEn.out,HEm.out,HLe.out];simp [hm,hd,hl]
      go_wp2;go_meet
      case rel => exact ⟨by rw [HA.out],rfl⟩
     | false =>
      have HA:Hid (argR n m i d len 1 1 c = false):=by show _ = _;simp only [argR,HEn.out,HEm.out,HLe.out];simp [hm,hd,hl]
      go_wp2;go_meet
      case rel => exact ⟨by rw [HA.out],rfl⟩
   | false =>
    have HA:Hid (argR n m i d len 1 1 c = true):=by show _ = _;simp only [argR,HEn.out,HEm.out,HLe.out];simp [hm]
    go_wp2;go_meet
    case rel => exact ⟨by rw [HA.out],rfl⟩
  ·skip
   cases hn:(n.toList == []) with
   | true =>
    cases hm:(m.toList == []) with
    | true =>
     cases hi:(i != 0) with
     | true =>
      have HA:Hid (argR n m i d len 0 0 c = true):=by show _ = _;simp only [argR,HEn.out,HEm.out,HLe.out];simp [hn,hm,hi]
      go_wp2;go_meet
      case rel => exact ⟨by rw [HA.out],rfl⟩
     | false =>
      cases hd:(d != 0) with
      | true =>
       have HA:Hid (argR n m i d len 0 0 c = true):=by show _ = _;simp only [argR,HEn.out,HEm.out,HLe.out];simp [hn,hm,hi,hd]
       go_wp2;go_meet
       case rel => exact ⟨by rw [HA.out],rfl⟩
      | false =>
       cases hl:((len:Int) != (c:Int)) with
       | true =>
        have HA:Hid (argR n m i d len 0 0 c = true):=by show _ = _;simp only [argR,HEn.out,HEm.out,HLe.out];simp [hn,hm,hi,hd,hl]
        go_wp2;go_meet
        case rel => exact ⟨by rw [HA.out],rfl⟩
       | false =>
        have HA:Hid (argR n m i d len 0 0 c = false):=by show _ = _;simp only [argR,HEn.out,HEm.out,HLe.out];simp [hn,hm,hi,hd,hl]
        go_wp2;go_meet
        case rel => exact ⟨by rw [HA.out],rfl⟩
    | false =>
     have HA:Hid (argR n m i d len 0 0 c = true):=by show _ = _;simp only [argR,HEn.out,HEm.out,HLe.out];simp [hn,hm]
     go_wp2;go_meet
     case rel => exact ⟨by rw [HA.out],rfl⟩
   | false =>
    have HA:Hid (argR n m i d len 0 0 c = true):=by show _ = _;simp only [argR,HEn.out,HEm.out,HLe.out];simp [hn]
    go_wp2;go_meet
    case rel => exact ⟨by rw [HA.out],rfl⟩
  ·skip
   cases hn:(n.toList == []) with
   | true =>
    cases hm:(m.toList == []) with
    | true =>
     cases hl:((len:Int) != (c:Int)) with
     | true =>
      have HA:Hid (argR n m i d len 0 2 c = true):=by show _ = _;simp only [argR,HEn.out,HEm.out,HLe.out];simp [hn,hm,hl]
      go_wp2;go_meet
      case rel => exact ⟨by rw [HA.out],rfl⟩
     | false =>
      have HA:Hid (argR n m i d len 0 2 c = false):=by show _ = _;simp only [argR,HEn.out,HEm.out,HLe.out];simp [hn,hm,hl]
      go_wp2;go_meet
      case rel => exact ⟨by rw [HA.out],rfl⟩
    | false =>
     have HA:Hid (argR n m i d len 0 2 c = true):=by show _ = _;simp only [argR,HEn.out,HEm.out,HLe.out];simp [hn,hm]
     go_wp2;go_meet
     case rel => exact ⟨by rw [HA.out],rfl⟩
   | false =>
    have HA:Hid (argR n m i d len 0 2 c = true):=by show _ = _;simp only [argR,HEn.out,HEm.out,HLe.out];simp [hn]
    go_wp2;go_meet
    case rel => exact ⟨by rw [HA.out],rfl⟩
 case rest =>
 obtain ⟨rfl,rfl⟩:=hcut
 cases ha:argR n m i d len a b c with
 | true =>
  rw [ha] at HN;go_wp2;go_ret;exact ⟨ret_int (by rw [HN.out];rfl),hbb⟩
 | false =>
  rw [ha] at HN;generalize hq:namesE k n m a = q at *;clear hq;go_wp2_with (fail)
  refine (HCN.out _).mono ?_;rintro e w3 ⟨rfl,hb3⟩;have HX3:=lH (HX.out.below hb3);have z0:=HX3.out.cell (i:=0) rfl;have z1:=HX3.out.cell (i:=1) rfl;have z2:=HX3.out.cell (i:=2) rfl;have z3:=HX3.out.cell (i:=3) rfl;have z4:=HX3.out.cell (i:=4) rfl;have z5:=HX3.out.cell (i:=5) rfl;have zl:=HX3.out.lt
  by_cases hq:q = 0
  ·have hqb:(q != 0) = false:=by simp [hq]
   have HN2:Hid (nodeR k n m i d len = numsE k i d):=by show _ = _;rw [HN.out,if_neg (by simp),if_pos hq]
   generalize numsE k i d = r at *;clear hq;go_wp2_with (fail)
   refine (HNU.out _).mono ?_;rintro e w4 ⟨rfl,hb4⟩;go_wp2;go_ret;exact ⟨ret_int (by rw [HN2.out]),qtrans hbb (qtrans hb3 hb4)⟩
  ·have hqb:(q != 0) = true:=by simp [hq]
   have HN2:Hid (nodeR k n m i d len = q):=by show _ = _;rw [HN.out,if_neg (by simp),if_neg hq]
   go_wp2;go_ret;exact ⟨ret_int (by rw [HN2.out]),qtrans hbb hb3⟩
end Go.Proofs.YtdpnfkjafhbndaaGreatDoor

