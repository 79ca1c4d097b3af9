/- The reference's recursions over expressions: Nodes, Depth, long, Kinds, refersTo. The reference's recursions over expressions that look for a node: long, Kinds, refersTo. -/
import Derived.Test.YtdpnfkjafhbndaaGreatDoorEG1
import Derived.IntWalk
namespace Go.Proofs.YtdpnfkjafhbndaaGreatDoor
open Go.RowKit
theorem nodesL_take {l:List Ex} {k:Nat} {x:Ex} (h:l[k]? = some x):nodesL (l.take (k + 1)) = nodesL (l.take k) + nodesN x:=by
 rw [take_at h,nodesL_app];simp [nodesL]
theorem nodesL_take_le (l:List Ex) (k:Nat):nodesL (l.take k)≤nodesL l:=by
 have:=nodesL_app (l.take k) (l.drop k);rw [List.take_append_drop] at this;omega
set_option maxHeartbeats 1000000 in
theorem rNodes_any (x:Ex):∀ (a:Option Addr) (c:Nat) (w:World),Reads w [] (subsT x.subs) (.slice a x.subs.length c)→nodesN x≤4000000 →
  Calls Tryz.prog 90 #[exV x a c] w fun e w' => e = .returned (.int .i64 (nodesN x:Nat))∧Below w.heap.size w w':=by
 refine Ex.ind (P:=fun x => ∀ (a:Option Addr) (c:Nat) (w:World),Reads w [] (subsT x.subs) (.slice a x.subs.length c)→nodesN x≤4000000 →
  Calls Tryz.prog 90 #[exV x a c] w fun e w' => e = .returned (.int .i64 (nodesN x:Nat))∧Below w.heap.size w w') (fun x ih => ?_) x
 intro a c w hr hN;have HIH:=lH ih;have HR:=lH hr;have HNX:=lH (nodesN_eq x);have hnl:nodesL x.subs≤4000000:=by rw [nodesN_eq] at hN;omega
 have hll:=nodesL_len x.subs;have HB:=lH (CBox.new w 66 #[.int .i64 x.kind,.string x.name,.string x.more,.int .i64 x.num,.int .i64 x.den,.slice a x.subs.length c]);have hA:=qalloc w (.cells #[.int .i64 x.kind,.string x.name,.string x.more,.int .i64 x.num,.int .i64 x.den,.slice a x.subs.length c] 66);unfold exV;clear ih hr
 go_enter Tryz.func90,Tryz.ntmps90
 go_wp2;generalize w.alloc (.cells #[.int .i64 x.kind,.string x.name,.string x.more,.int .i64 x.num,.int .i64 x.den,.slice a x.subs.length c] 66) = w0 at *
 go_loopw [3,4] (fun nv iv wr => ∃ k:Nat,k≤x.subs.length∧iv = .int .i64 k∧nv = .int .i64 ((1 + nodesL (x.subs.take k):Nat):Int)∧CBox wr w.heap.size 66 #[.int .i64 x.kind,.string x.name,.string x.more,.int .i64 x.num,.int .i64 x.den,.slice a x.subs.length c]∧Below w.heap.size w wr) (fun _ iv _ => x.subs.length - (intOf iv).toNat)
 case atStart => exact ⟨0,Nat.zero_le _,rfl,rfl,HB.out,hA⟩
 case round =>
  obtain ⟨k,hk,rfl,rfl,hbx,hb⟩:=hrel;have b5:=hbx.cell (i:=5) rfl;have bl:=hbx.lt
  by_cases hlt:k < x.subs.length
  ·obtain ⟨y,hy⟩:∃ y,x.subs[k]? = some y:=⟨_,List.getElem?_eq_getElem hlt⟩
   obtain ⟨b,o,sa,sc,rfl,hbb,y0,y1,y2,y3,y4,y5,_,_,HRY⟩:=subs_elem (HR.out.below hb) hy;have hyn:=nodesL_mem (List.mem_of_getElem? hy);have htk:=nodesL_take_le x.subs (k + 1);have HTK:=lH (nodesL_take hy);rw [HTK.out] at htk;have HC:=lH (HIH.out y (List.mem_of_getElem? hy) sa sc wr HRY.out (by omega));unfold exV at HC;generalize hq:nodesN y = q at *;generalize hs:nodesL (x.subs.take k) = s at *;clear hy HRY hq
   have hw1:IntKind.i64.wrap (((1 + s:Nat):Int) + (q:Int)) = ((1 + (s + q):Nat):Int):=by
    rw [IntWalk.i64_in _ (by omega)];omega
   go_wp2_with (fail)
   refine HC.out.mono ?_;rintro e w1 ⟨rfl,hb1⟩;have hbx1:=hbx.below hb1;clear hbx b5 y0 y1 y2 y3 y4 y5;go_wp2;go_roundw
   case rel => exact ⟨k + 1,by omega,by go_num,by rw [HTK.out];exact congrArg (Value.int .i64) (by omega),hbx1,qtrans hb hb1⟩
   case measure => simp [intOf];omega
  ·have hkl:k = x.subs.length:=by omega
   rw [hkl,List.take_length];go_wp2;go_ret;exact ⟨ret_int (by rw [HNX.out]),hb⟩
theorem any_cons (p:Ex→Bool) (x:Ex) (d:Nat):((preN x d).any fun q => p q.2) = (p x || x.subs.any fun y => (preN y 1).any fun q => p q.2):=by
 have key:∀ (x:Ex) (d e:Nat),((preN x d).any fun q => p q.2) = ((preN x e).any fun q => p q.2):=by
  intro x;refine Ex.ind (P:=fun x => ∀ (d e:Nat),((preN x d).any fun q => p q.2) = ((preN x e).any fun q => p q.2)) (fun x ih d e => ?_) x;rw [preN_eq,preN_eq,List.any_cons,List.any_cons]
  congr 1
  have:∀ l:List Ex,(∀ y∈l,∀ d e,((preN y d).any fun q => p q.2) = ((preN y e).any fun q => p q.2))→∀ d e,((preL l d).any fun q => p q.2) = ((preL l e).any fun q => p q.2):=by
   intro l
   induction l with
   | nil => intro _ _ _;rfl
   | cons y r ihr =>
    intro h d e;rw [preL,preL,List.any_append,List.any_append,h y (List.mem_cons_self ..) d e,ihr (fun z hz => h z (List.mem_cons_of_mem _ hz)) d e]
  exact this _ ih _ _
 rw [preN_eq,List.any_cons]
 congr 1
 have:∀ l:List Ex,((preL l (d + 1)).any fun q => p q.2) = l.any fun y => (preN y 1).any fun q => p q.2:=by
  intro l
  induction l with
  | nil => rfl
  | cons y r ihr => rw [preL,List.any_append,List.any_cons,ihr,key y (d + 1) 1]
 exact this _
theorem any_take {α:Type} (p:α→Bool) {l:List α} {k:Nat} {y:α} (h:l[k]? = some y):(l.take (k + 1)).any p = ((l.take k).any p || p y):=by
 rw [take_at h,List.any_append];simp
theorem any_yes {α:Type} (p:α→Bool) {l:List α} {k:Nat} {y:α} (h:l[k]? = some y) (hp:p y = true):l.any p = true:=List.any_eq_true.2 ⟨y,List.mem_of_getElem? h,hp⟩
def anyX (p:Ex→Bool) (x:Ex):Bool:=(preN x 1).any fun q => p q.2
theorem anyX_eq (p:Ex→Bool) (x:Ex):anyX p x = (p x || x.subs.any (anyX p)):=any_cons p x 1
def longP (x:Ex):Bool:=decide (100 < x.name.size) || decide (100 < x.more.size)
def longB (x:Ex):Bool:=anyX longP x
def kindP (k:Int) (x:Ex):Bool:=x.kind == k
def refP (l:ByteArray) (x:Ex):Bool:=x.kind == 5 && x.name.data.toList == l.data.toList
set_option maxHeartbeats 2000000 in
theorem rlong_any  (x:Ex):∀ (a:Option Addr) (c:Nat) (w:World),Reads w [] (subsT x.subs) (.slice a x.subs.length c)→SmX 9223372036854775807 x→nodesN x≤4000000 →
  Calls Tryz.prog 91 #[exV x a c] w fun e w' => e = .returned (.bool (anyX longP x))∧Below w.heap.size w w':=by
 refine Ex.ind (P:=fun x => ∀ (a:Option Addr) (c:Nat) (w:World),Reads w [] (subsT x.subs) (.slice a x.subs.length c)→SmX 9223372036854775807 x→nodesN x≤4000000 →
  Calls Tryz.prog 91 #[exV x a c] w fun e w' => e = .returned (.bool (anyX longP x))∧Below w.heap.size w w') (fun x ih => ?_) x
 intro a c w hr hsm hN;have HIH:=lH ih;have HR:=lH hr;have HX:=lH (anyX_eq longP x);have HSM:=lH hsm.subs;have z1:=hsm.name;have z2:=hsm.more;have hnl:nodesL x.subs≤4000000:=by rw [nodesN_eq] at hN;omega
 have hll:=nodesL_len x.subs;have HB:=lH (CBox.new w 66 #[.int .i64 x.kind,.string x.name,.string x.more,.int .i64 x.num,.int .i64 x.den,.slice a x.subs.length c]);have hA:=qalloc w (.cells #[.int .i64 x.kind,.string x.name,.string x.more,.int .i64 x.num,.int .i64 x.den,.slice a x.subs.length c] 66);have HP:Hid (∀ v,longP x = v→longP x = v):=fun _ h => h;unfold exV;clear ih hr hsm
 by_cases h1:100 < x.name.size
 ·have HT:Hid (anyX longP x = true):=by show _ = _;rw [HX.out,longP,decide_eq_true h1];rfl
  go_enter Tryz.func91,Tryz.ntmps91
  go_wp2;go_ret;exact ⟨ret_bool (by rw [HT.out]),hA⟩
 by_cases h2:100 < x.more.size
 ·have HT:Hid (anyX longP x = true):=by show _ = _;rw [HX.out,longP,decide_eq_true h2,Bool.or_true];rfl
  go_enter Tryz.func91,Tryz.ntmps91
  go_wp2;go_ret;exact ⟨ret_bool (by rw [HT.out]),hA⟩
 have hp:longP x = false:=by rw [longP,decide_eq_false h1,decide_eq_false h2];rfl
 have HX2:Hid (anyX longP x = x.subs.any (anyX longP)):=by show _ = _;rw [HX.out,hp,Bool.false_or]
 clear HX HP
 go_enter Tryz.func91,Tryz.ntmps91
 all_goals
  go_wp2;generalize w.alloc (.cells #[.int .i64 x.kind,.string x.name,.string x.more,.int .i64 x.num,.int .i64 x.den,.slice a x.subs.length c] 66) = w0 at *
  go_loopw [3] (fun iv wr => ∃ k:Nat,k≤x.subs.length∧iv = .int .i64 k∧Hid ((x.subs.take k).any (anyX longP) = false)∧CBox wr w.heap.size 66 #[.int .i64 x.kind,.string x.name,.string x.more,.int .i64 x.num,.int .i64 x.den,.slice a x.subs.length c]∧Below w.heap.size w wr) (fun iv _ => x.subs.length - (intOf iv).toNat)
  case atStart => exact ⟨0,Nat.zero_le _,rfl,rfl,HB.out,hA⟩
  case round =>
   obtain ⟨q,hq,rfl,HF,hbx,hb⟩:=hrel;have b5:=hbx.cell (i:=5) rfl;have bl:=hbx.lt
   by_cases hlt:q < x.subs.length
   ·obtain ⟨y,hy⟩:∃ y,x.subs[q]? = some y:=⟨_,List.getElem?_eq_getElem hlt⟩
    obtain ⟨b,o,sa,sc,rfl,hbb,y0,y1,y2,y3,y4,y5,_,_,HRY⟩:=subs_elem (HR.out.below hb) hy;have hyn:=nodesL_mem (List.mem_of_getElem? hy);have HTK:=lH (any_take (anyX longP) hy);have HYS:=lH (fun h => any_yes (anyX longP) hy h);have HC:=lH (HIH.out y (List.mem_of_getElem? hy) sa sc wr HRY.out (HSM.out y (List.mem_of_getElem? hy)) (by omega));unfold exV at HC;generalize hr:anyX longP y = r at *;clear hy HRY hr;go_wp2_with (fail)
    refine HC.out.mono ?_;rintro e w1 ⟨rfl,hb1⟩;have hbx1:=hbx.below hb1;clear hbx b5 y0 y1 y2 y3 y4 y5
    cases r with
    | true =>
     go_wp2;go_ret;exact ⟨ret_bool (by rw [HX2.out];exact (HYS.out (by first | rfl | trivial)).symm),qtrans hb hb1⟩
    | false =>
     go_wp2;go_roundw
     case rel => exact ⟨q + 1,by omega,by go_num,by show _ = _;rw [HTK.out,HF.out];rfl,hbx1,qtrans hb hb1⟩
     case measure => simp [intOf];omega
   ·have hkl:q = x.subs.length:=by omega
    rw [hkl,List.take_length] at HF;go_wp2;go_ret;exact ⟨ret_bool (by rw [HX2.out,HF.out]),hb⟩
end Go.Proofs.YtdpnfkjafhbndaaGreatDoor

