/- Plain: when expressions, lists of strings, declarations are equal. The reference's SameStrings, slices.Equal over strings. The reference's Same over expressions. The reference's SameDecl, SameDecls, Great of expressions and declarations (lines of SEe and T9, without what chapter 34 alone needs). -/
import Derived.Test.YtdpnfkjafhbndaaGreatDoorRT4
import Derived.Test.YtdpnfkjafhbndaaGreatDoorRTB
namespace Go.Proofs.YtdpnfkjafhbndaaGreatDoor
open Go.RowKit Go.Shelf
def eqS (a b:ByteArray):Bool:=a.toList == b.toList
theorem eqS_iff {a b:ByteArray}:eqS a b = true↔a = b:=by
 unfold eqS;rw [beq_iff_eq,tl,tl]
 constructor
 ·intro h
  cases a;cases b
  have:=Array.toList_inj.1 h;simp only at this
  rw [this]
 ·intro h;rw [h]
theorem eqS_self (a:ByteArray):eqS a a = true:=eqS_iff.2 rfl
def sameSs:List ByteArray→List ByteArray→Bool
 | [],[] => true
 | a :: r,b :: s => eqS a b && sameSs r s
 | _,_ => false
theorem sameSs_iff:∀ {l m:List ByteArray},sameSs l m = true↔l = m
 | [],[] => by simp [sameSs]
 | [],b :: s => by simp [sameSs]
 | a :: r,[] => by simp [sameSs]
 | a :: r,b :: s => by simp [sameSs,eqS_iff,sameSs_iff]
theorem sameSs_len {l m:List ByteArray} (h:l.length≠m.length):sameSs l m = false:=by
 cases e:sameSs l m with
 | false => rfl
 | true => exact absurd (congrArg List.length (sameSs_iff.1 e)) h
theorem sAt_of {l:List ByteArray} {i:Nat} (h:i < l.length):sAt l i = l[i]:=by
 unfold sAt;simp [h]
theorem sameSs_at {l m:List ByteArray} {i:Nat} (hl:i < l.length) (hm:i < m.length):sameSs (l.drop i) (m.drop i) = (eqS (sAt l i) (sAt m i) && sameSs (l.drop (i + 1)) (m.drop (i + 1))):=by
 rw [List.drop_eq_getElem_cons hl,List.drop_eq_getElem_cons hm,sameSs,sAt_of hl,sAt_of hm]
theorem sameSs_end {l m:List ByteArray} {i:Nat} (hl:l.length≤i) (hm:m.length≤i):sameSs (l.drop i) (m.drop i) = true:=by
 rw [List.drop_eq_nil_of_le hl,List.drop_eq_nil_of_le hm,sameSs]
def headB (x y:Ex):Bool:=x.kind == y.kind && (eqS x.name y.name && (eqS x.more y.more && (x.num == y.num && x.den == y.den)))
mutual
def sameX:Ex→Ex→Bool
 | .mk k n m i d s,y => headB (.mk k n m i d []) y && sameL s y.subs
def sameL:List Ex→List Ex→Bool
 | [],l => l.isEmpty
 | x :: r,l => match l with
  | [] => false
  | y :: s => sameX x y && sameL r s
end
theorem sameX_eq (x y:Ex):sameX x y = (headB x y && sameL x.subs y.subs):=by cases x;rw [sameX];rfl
theorem sameL_nil:sameL [] [] = true:=by rw [sameL];rfl
theorem sameL_cons (x y:Ex) (r s:List Ex):sameL (x :: r) (y :: s) = (sameX x y && sameL r s):=by rw [sameL]
theorem sameX_iff (x:Ex):∀ y,sameX x y = true↔x = y:=by
 refine Ex.ind (P:=fun x => ∀ y,sameX x y = true↔x = y) (fun x ih y => ?_) x
 have hl:∀ l:List Ex,(∀ z∈l,∀ y,sameX z y = true↔z = y)→∀ m,sameL l m = true↔l = m:=by
  intro l
  induction l with
  | nil =>
   intro _ m;rw [sameL,List.isEmpty_iff];exact ⟨fun h => h.symm,fun h => h.symm⟩
  | cons z r ihr =>
   intro h m
   cases m with
   | nil => rw [sameL];simp
   | cons y s =>
    rw [sameL_cons,Bool.and_eq_true,h z (List.mem_cons_self ..),ihr (fun u hu => h u (List.mem_cons_of_mem _ hu))];simp
 rw [sameX_eq,Bool.and_eq_true,hl _ ih]
 cases x with
 | mk k n m i d s =>
  cases y with
  | mk k' n' m' i' d' s' =>
   simp only [headB,Ex.kind,Ex.name,Ex.more,Ex.num,Ex.den,Ex.subs,Bool.and_eq_true,beq_iff_eq,eqS_iff,Ex.mk.injEq]
   constructor
   ·rintro ⟨⟨a,b,c,d,e⟩,f⟩;exact ⟨a,b,c,d,e,f⟩
   ·rintro ⟨a,b,c,d,e,f⟩;exact ⟨⟨a,b,c,d,e⟩,f⟩
theorem sameL_len:∀ {l m:List Ex},l.length≠m.length→sameL l m = false:=by
 intro l
 induction l with
 | nil =>
  intro m h
  cases m with
  | nil => exact absurd rfl h
  | cons y s => rw [sameL];rfl
 | cons x r ih =>
  intro m h
  cases m with
  | nil => rw [sameL]
  | cons y s =>
   rw [sameL_cons,ih (fun e => h (by rw [List.length_cons,List.length_cons,e])),Bool.and_false]
theorem sameL_at {l m:List Ex} {i:Nat} {x y:Ex} (hx:l[i]? = some x) (hy:m[i]? = some y):sameL (l.drop i) (m.drop i) = (sameX x y && sameL (l.drop (i + 1)) (m.drop (i + 1))):=by
 obtain ⟨h1,e1⟩:=List.getElem?_eq_some_iff.1 hx;obtain ⟨h2,e2⟩:=List.getElem?_eq_some_iff.1 hy;rw [List.drop_eq_getElem_cons h1,List.drop_eq_getElem_cons h2,sameL_cons,e1,e2]
theorem sameL_end {l m:List Ex} {i:Nat} (hl:l.length≤i) (hm:m.length≤i):sameL (l.drop i) (m.drop i) = true:=by
 rw [List.drop_eq_nil_of_le hl,List.drop_eq_nil_of_le hm,sameL_nil]
def sameHd (a b:ODecl):Bool:=a.kind == b.kind && (a.pub == b.pub && a.doubt == b.doubt)
def sameD (a b:ODecl):Bool:=a.id == b.id && (sameHd a b && (sameSs a.names b.names && sameX a.body b.body))
theorem sameD_iff {a b:ODecl}:sameD a b = true↔a = b:=by
 cases a;cases b
 simp only [sameD,sameHd,Bool.and_eq_true,beq_iff_eq,sameSs_iff,sameX_iff,ODecl.mk.injEq]
 constructor
 ·rintro ⟨a,⟨b,c,d⟩,e,f⟩;exact ⟨a,b,c,e,d,f⟩
 ·rintro ⟨a,b,c,e,d,f⟩;exact ⟨a,⟨b,c,d⟩,e,f⟩
end Go.Proofs.YtdpnfkjafhbndaaGreatDoor
namespace Go.Proofs.YtdpnfkjafhbndaaGreatDoor
open Go.RowKit Go.Shelf
attribute [local go_sem] Oper.semAt_some
set_option maxRecDepth 100000 in
set_option maxHeartbeats 1000000 in
theorem rSameStrings_any (l m:List ByteArray) (a b:Option Addr) (c d:Nat) (w:World) (hl:Strs w (.slice a l.length c) l) (hm:Strs w (.slice b m.length d) m) (hb:l.length≤1000000) :
  Calls Tryz.prog 88 #[.slice a l.length c,.slice b m.length d] w fun e w' => e = .returned (.bool (sameSs l m))∧Bw w w':=by
 have HL:=lH hl;have HM:=lH hm;clear hl hm
 by_cases hne:l.length = m.length
 ·have q1:((l.length:Int) != (m.length:Int)) = false:=by rw [hne];simp
  have HE:Hid (sameSs l m = sameSs (l.drop 0) (m.drop 0)):=rfl;generalize sameSs l m = T at *;have hle:m.length = l.length:=hne.symm;rw [hle] at HM q1 ⊢;have HLE:=lH hle;clear hne hle
  go_enter Tryz.func88,Tryz.ntmps88
  go_wp2
  go_loopw [5] (fun iv wr => ∃ i:Nat,i≤l.length∧iv = .int .i64 i∧Hid (T = sameSs (l.drop i) (m.drop i))∧Bw w wr) (fun iv _ => l.length - (intOf iv).toNat)
  case atStart => exact ⟨0,Nat.zero_le _,rfl,HE,qrefl _⟩
  case round =>
   obtain ⟨i,hil,rfl,HI,hb'⟩:=hrel
   by_cases hi:i < l.length
   ·have hd:decide ((i:Int) < (l.length:Int)) = true:=decide_eq_true (by omega)
    obtain ⟨_,_,e,_,_,hcell⟩:=(HL.out.below hb').shape;obtain ⟨b1,o1,e',hbl1,hc1⟩:=hcell i hi
    cases e
    subst e';have x1:wr.cell? ⟨b1,o1 + i,none⟩ = some (.string (sAt l i)):=hc1 i hi
    have HM2:Hid (Strs wr (.slice b m.length d) m):=by
     show Strs _ _ _
     have:=HM.out.below hb';rw [← HLE.out] at this;exact this
    obtain ⟨_,_,e,_,_,hcell2⟩:=HM2.out.shape;obtain ⟨b2,o2,e',hbl2,hc2⟩:=hcell2 i (by rw [HLE.out];exact hi)
    cases e
    subst e';have x2:wr.cell? ⟨b2,o2 + i,none⟩ = some (.string (sAt m i)):=hc2 i (by rw [HLE.out];exact hi);have HN:=lH (HI.out.trans (sameSs_at hi (by rw [HLE.out];exact hi)));have HQ:Hid (eqS (sAt l i) (sAt m i) = ((sAt l i).toList == (sAt m i).toList)):=rfl;have hir:(i:Int) < (l.length:Int):=by omega
    clear hcell hc1 hcell2 hc2 HI HM2;generalize sAt l i = s at *;generalize sAt m i = t at *
    cases hst:(s.toList == t.toList) with
    | true =>
     rw [HQ.out,hst,Bool.true_and] at HN;clear HQ;go_wp2_with (fail)
     go_quiet (fail)
     go_wp2;go_roundw
     case rel => exact ⟨i + 1,by omega,by go_num,HN,below_drewN hb' _⟩
     case measure => simp [intOf];omega
    | false =>
     rw [HQ.out,hst,Bool.false_and] at HN;clear HQ;go_wp2_with (fail)
     go_quiet (fail)
     go_wp2;go_ret;exact ⟨ret_bool HN.out.symm,below_drewN hb' _⟩
   ·have hd:decide ((i:Int) < (l.length:Int)) = false:=decide_eq_false (by omega)
    have HF:Hid (T = true):=by show _ = _;rw [HI.out,sameSs_end (by omega) (by rw [HLE.out];omega)]
    go_wp2;go_ret;exact ⟨ret_bool HF.out.symm,hb'⟩
 ·have q1:((l.length:Int) != (m.length:Int)) = true:=bne_iff_ne.2 (by omega)
  have HE:=lH (sameSs_len hne);generalize sameSs l m = T at *
  go_enter Tryz.func88,Tryz.ntmps88
  go_wp2;go_ret;exact ⟨ret_bool HE.out.symm,qrefl _⟩
set_option maxRecDepth 100000 in
set_option maxHeartbeats 1000000 in
theorem EqualS_any (l m:List ByteArray) (a b:Option Addr) (c d:Nat) (w:World) (hl:Strs w (.slice a l.length c) l) (hm:Strs w (.slice b m.length d) m) (hb:l.length≤1000000) :
  Calls Tryz.prog 185 #[.slice a l.length c,.slice b m.length d] w fun e w' => e = .returned (.bool (sameSs l m))∧Bw w w':=by
 have HL:=lH hl;have HM:=lH hm;clear hl hm
 by_cases hne:l.length = m.length
 ·have q1:((l.length:Int) != (m.length:Int)) = false:=by rw [hne];simp
  have HE:Hid (sameSs l m = sameSs (l.drop 0) (m.drop 0)):=rfl;generalize sameSs l m = T at *;have hle:m.length = l.length:=hne.symm;rw [hle] at HM q1 ⊢;have HLE:=lH hle;clear hne hle
  go_enter Tryz.func185,Tryz.ntmps185
  go_wp2
  go_loopw [13] (fun iv wr => ∃ i:Nat,i≤l.length∧iv = .int .i64 i∧Hid (T = sameSs (l.drop i) (m.drop i))∧Bw w wr) (fun iv _ => l.length - (intOf iv).toNat)
  case atStart => exact ⟨0,Nat.zero_le _,rfl,HE,qrefl _⟩
  case round =>
   obtain ⟨i,hil,rfl,HI,hb'⟩:=hrel
   by_cases hi:i < l.length
   ·have hd:decide ((i:Int) < (l.length:Int)) = true:=decide_eq_true (by omega)
    obtain ⟨_,_,e,_,_,hcell⟩:=(HL.out.below hb').shape;obtain ⟨b1,o1,e',hbl1,hc1⟩:=hcell i hi
    cases e
    subst e';have x1:wr.cell? ⟨b1,o1 + i,none⟩ = some (.string (sAt l i)):=hc1 i hi
    have HM2:Hid (Strs wr (.slice b m.length d) m):=by
     show Strs _ _ _
     have:=HM.out.below hb';rw [← HLE.out] at this;exact this
    obtain ⟨_,_,e,_,_,hcell2⟩:=HM2.out.shape;obtain ⟨b2,o2,e',hbl2,hc2⟩:=hcell2 i (by rw [HLE.out];exact hi)
    cases e
    subst e';have x2:wr.cell? ⟨b2,o2 + i,none⟩ = some (.string (sAt m i)):=hc2 i (by rw [HLE.out];exact hi);have HN:=lH (HI.out.trans (sameSs_at hi (by rw [HLE.out];exact hi)));have HQ:Hid (eqS (sAt l i) (sAt m i) = ((sAt l i).toList == (sAt m i).toList)):=rfl;have hir:(i:Int) < (l.length:Int):=by omega
    clear hcell hc1 hcell2 hc2 HI HM2;generalize sAt l i = s at *;generalize sAt m i = t at *
    cases hst:(s.toList == t.toList) with
    | true =>
     rw [HQ.out,hst,Bool.true_and] at HN;clear HQ;go_wp2_with (fail)
     go_quiet (fail)
     go_wp2;go_roundw
     case rel => exact ⟨i + 1,by omega,by go_num,HN,below_drewN hb' _⟩
     case measure => simp [intOf];omega
    | false =>
     rw [HQ.out,hst,Bool.false_and] at HN;clear HQ;go_wp2_with (fail)
     go_quiet (fail)
     go_wp2;go_ret;exact ⟨ret_bool HN.out.symm,below_drewN hb' _⟩
   ·have hd:decide ((i:Int) < (l.length:Int)) = false:=decide_eq_false (by omega)
    have HF:Hid (T = true):=by show _ = _;rw [HI.out,sameSs_end (by omega) (by rw [HLE.out];omega)]
    go_wp2;go_ret;exact ⟨ret_bool HF.out.symm,hb'⟩
 ·have q1:((l.length:Int) != (m.length:Int)) = true:=bne_iff_ne.2 (by omega)
  have HE:=lH (sameSs_len hne);generalize sameSs l m = T at *
  go_enter Tryz.func185,Tryz.ntmps185
  go_wp2;go_ret;exact ⟨ret_bool HE.out.symm,qrefl _⟩
end Go.Proofs.YtdpnfkjafhbndaaGreatDoor
namespace Go.Proofs.YtdpnfkjafhbndaaGreatDoor
open Go.RowKit Go.Shelf
attribute [local go_sem] Oper.semAt_some
set_option maxRecDepth 100000 in
set_option maxHeartbeats 4000000 in
theorem rSameX_any (x:Ex):∀ (y:Ex) (a b:Option Addr) (c d:Nat) (w:World),Reads w [] (subsT x.subs) (.slice a x.subs.length c)→Reads w [] (subsT y.subs) (.slice b y.subs.length d)→nodesN x≤4000000 →
  Calls Tryz.prog 44 #[exV x a c,exV y b d] w fun e w' => e = .returned (.bool (sameX x y))∧Bw w w':=by
 refine Ex.ind (P:=fun x => ∀ (y:Ex) (a b:Option Addr) (c d:Nat) (w:World),Reads w [] (subsT x.subs) (.slice a x.subs.length c)→Reads w [] (subsT y.subs) (.slice b y.subs.length d)→nodesN x≤4000000 →
  Calls Tryz.prog 44 #[exV x a c,exV y b d] w fun e w' => e = .returned (.bool (sameX x y))∧Bw w w') (fun x ih => ?_) x
 intro y a b c d w hx hy hN;have HIH:=lH ih;have HX:=lH hx;have HY:=lH hy;have hns:nodesN x = 1 + nodesL x.subs:=nodesN_eq x;have hnl:=nodesL_len x.subs;clear ih hx hy;have HE:Hid (sameX x y = (headB x y && sameL x.subs y.subs)):=sameX_eq x y;have HH:Hid (headB x y = (x.kind == y.kind && (eqS x.name y.name && (eqS x.more y.more && (x.num == y.num && x.den == y.den))))):=rfl;have HB1:Hid (CBox ((w.alloc (.cells (xA x a c) 66)).alloc (.cells (xA y b d) 66)) w.heap.size 66 (xA x a c)):=(CBox.new w 66 (xA x a c)).alloc _
 have HB2:Hid (CBox ((w.alloc (.cells (xA x a c) 66)).alloc (.cells (xA y b d) 66)) (w.heap.size + 1) 66 (xA y b d)):=by
  have:=CBox.new (w.alloc (.cells (xA x a c) 66)) 66 (xA y b d);rwa [World.size_alloc] at this
 have hA:Bw w ((w.alloc (.cells (xA x a c) 66)).alloc (.cells (xA y b d) 66)):=qtrans (qalloc _ _) (qalloc _ _);generalize sameX x y = T at *;unfold exV at *
 have hcase:headB x y = false∨(headB x y = true∧x.subs.length≠y.subs.length)∨(headB x y = true∧x.subs.length = y.subs.length):=by
  cases headB x y
  ·exact .inl rfl
  ·by_cases h:x.subs.length = y.subs.length
   ·exact .inr (.inr ⟨rfl,h⟩)
   ·exact .inr (.inl ⟨rfl,h⟩)
 have HQ:Hid ((x.kind != y.kind) = !(x.kind == y.kind)∧(x.num != y.num) = !(x.num == y.num)∧(x.den != y.den) = !(x.den == y.den)∧eqS x.name y.name = (x.name.toList == y.name.toList)∧eqS x.more y.more = (x.more.toList == y.more.toList)):=⟨rfl,rfl,rfl,rfl,rfl⟩;obtain ⟨k1,k2,k3,k4,k5,e1,e2,e3,e4,e5⟩:∃ k1 k2 k3 k4 k5,(x.kind == y.kind) = k1∧(x.name.toList == y.name.toList) = k2∧(x.more.toList == y.more.toList) = k3∧(x.num == y.num) = k4∧(x.den == y.den) = k5:=⟨_,_,_,_,_,rfl,rfl,rfl,rfl,rfl⟩;obtain ⟨h1,h2,h3,h4,h5⟩:=HQ.out
 rw [h4,h5,e1,e2,e3,e4,e5] at HH;rw [e1] at h1;rw [e4] at h2;rw [e5] at h3;clear h4 h5 HQ e1 e4 e5;have finish:∀ (r:Bool),T = r→Ending.returned (.bool r) = .returned (.bool T):=fun r h => by rw [h]
 go_enter Tryz.func44,Tryz.ntmps44
 go_upto_region 1 with (fail)
 generalize hW:((w.alloc (.cells (xA x a c) 66)).alloc (.cells (xA y b d) 66)) = W0 at *;clear hW;obtain ⟨x0,x1,x2,x3,x4,x5,-⟩:=cells6 HB1.out;obtain ⟨y0,y1,y2,y3,y4,y5,-⟩:=cells6 HB2.out;have l1:=HB1.out.lt;have l2:=HB2.out.lt;obtain ⟨k6,e6⟩:∃ k6,((x.subs.length:Int) != (y.subs.length:Int)) = k6:=⟨_,rfl⟩;have HL6:Hid (k6 = !decide (x.subs.length = y.subs.length)):=by show _ = _;rw [← e6];by_cases h:x.subs.length = y.subs.length <;> simp [h];omega
 go_cut [47] from 6 to 47 (fun v wx => v = .bool (!(headB x y && decide (x.subs.length = y.subs.length)))∧wx = W0)
 case first =>
  clear HE HIH HX HY HB1 HB2 finish hcase
  cases k1 with
  | false =>
   have HR:Hid ((!(headB x y && decide (x.subs.length = y.subs.length))) = true):=by show _ = _;rw [HH.out];simp
   clear HH HL6;go_wp2;go_meet
   case rel => exact ⟨by rw [HR.out],rfl⟩
  | true =>
   cases k2 with
   | false =>
    have HR:Hid ((!(headB x y && decide (x.subs.length = y.subs.length))) = true):=by show _ = _;rw [HH.out];simp
    clear HH HL6;go_wp2;go_meet
    case rel => exact ⟨by rw [HR.out],rfl⟩
   | true =>
    cases k3 with
    | false =>
     have HR:Hid ((!(headB x y && decide (x.subs.length = y.subs.length))) = true):=by show _ = _;rw [HH.out];simp
     clear HH HL6;go_wp2;go_meet
     case rel => exact ⟨by rw [HR.out],rfl⟩
    | true =>
     cases k4 with
     | false =>
      have HR:Hid ((!(headB x y && decide (x.subs.length = y.subs.length))) = true):=by show _ = _;rw [HH.out];simp
      clear HH HL6;go_wp2;go_meet
      case rel => exact ⟨by rw [HR.out],rfl⟩
     | true =>
      cases k5 with
      | false =>
       have HR:Hid ((!(headB x y && decide (x.subs.length = y.subs.length))) = true):=by show _ = _;rw [HH.out];simp
       clear HH HL6;go_wp2;go_meet
       case rel => exact ⟨by rw [HR.out],rfl⟩
      | true =>
       cases k6 with
       | true =>
        have HR:Hid ((!(headB x y && decide (x.subs.length = y.subs.length))) = true):=by show _ = _;rw [HH.out];have:=HL6.out;simp at this;simp [this]
        clear HH HL6;go_wp2;go_meet
        case rel => exact ⟨by rw [HR.out],rfl⟩
       | false =>
        have HR:Hid ((!(headB x y && decide (x.subs.length = y.subs.length))) = false):=by show _ = _;rw [HH.out];have:=HL6.out;simp at this;simp [this]
        clear HH HL6;go_wp2;go_meet
        case rel => exact ⟨by rw [HR.out],rfl⟩
 case rest =>
 obtain ⟨rfl,rfl⟩:=hcut;clear h1 h2 h3 HH e2 e3 HL6 e6
 rcases hcase with h | ⟨h,hl⟩ | ⟨h,hl⟩
 ·rw [h,Bool.false_and] at HE
  rw [h];simp only [Bool.false_and,Bool.not_false]
  go_wp2;go_ret;exact ⟨ret_bool HE.out.symm,hA⟩
 ·rw [h,Bool.true_and,sameL_len hl] at HE
  rw [h];have hd:decide (x.subs.length = y.subs.length) = false:=decide_eq_false hl;rw [hd];simp only [Bool.and_false,Bool.not_false]
  go_wp2;go_ret;exact ⟨ret_bool HE.out.symm,hA⟩
 ·rw [h,Bool.true_and] at HE
  rw [h];have hd:decide (x.subs.length = y.subs.length) = true:=decide_eq_true hl;rw [hd];clear hd h;simp only [Bool.and_true,Bool.not_true]
  have HLE:=lH hl;unfold xA at HB2;rw [← hl] at HY HB2 y5;have HY2:=HY;clear hl;have HE0:Hid (T = sameL (x.subs.drop 0) (y.subs.drop 0)):=HE;go_wp2;clear x0 x1 x2 x3 x4 x5 y0 y1 y2 y3 y4 y5 l1 l2
  go_loopw [5] (fun iv wr => ∃ i:Nat,i≤x.subs.length∧iv = .int .i64 i∧Hid (T = sameL (x.subs.drop i) (y.subs.drop i))∧Bw wc wr) (fun iv _ => x.subs.length - (intOf iv).toNat)
  case atStart => exact ⟨0,Nat.zero_le _,rfl,HE0,qrefl _⟩
  case round =>
   obtain ⟨i,hil,rfl,HI,hb⟩:=hrel;have bx:=HB1.out.below hb;have bY:=HB2.out.below hb;have x5:=bx.cell (i:=5) (v:=.slice a x.subs.length c) rfl;have y5:=bY.cell (i:=5) (v:=.slice b x.subs.length d) rfl;have l1:=bx.lt;have l2:=bY.lt;have hB:=qtrans hA hb
   by_cases hi:i < x.subs.length
   ·have hd:decide ((i:Int) < (x.subs.length:Int)) = true:=decide_eq_true (by omega)
    have hir:(i:Int) < (x.subs.length:Int):=by omega
    obtain ⟨u,hu⟩:∃ u,x.subs[i]? = some u:=⟨_,List.getElem?_eq_getElem hi⟩;obtain ⟨v,hv⟩:∃ v,y.subs[i]? = some v:=⟨_,List.getElem?_eq_getElem (by rw [← HLE.out];exact hi)⟩;have hY3:Reads wr [] (subsT y.subs) (.slice b y.subs.length d):=by rw [← HLE.out];exact HY.out.below hB
    obtain ⟨b1,o1,ua,uc,rfl,hb1,u0,u1,u2,u3,u4,u5,-,-,hur⟩:=subs_elem (HX.out.below hB) hu;obtain ⟨b2,o2,va,vc,rfl,hb2,v0,v1,v2,v3,v4,v5,-,-,hvr⟩:=subs_elem hY3 hv;have hum:=List.mem_of_getElem? hu;have hun:=nodesN_sub hum;have HC:=lH (fun w' (h':Bw wr w') => HIH.out u hum v ua va uc vc w' (hur.out.below h') (hvr.out.below h') (by omega));have HN:=lH (HI.out.trans (sameL_at hu hv));clear hY3 HI hun hum hur hvr;generalize sameX u v = r at *;go_upto_region 6 with (fail)
    go_cut [66] from 55 to 66 (fun v wx => v = .bool (!r)∧Bw wr wx)
    case first =>
     refine wp_region_noPanic (region_lexT (fun W:World => W.cell? ⟨w.heap.size,5,none⟩ = some (.slice (some ⟨b1,o1,none⟩) x.subs.length c)∧W.cell? ⟨w.heap.size + 1,5,none⟩ = some (.slice (some ⟨b2,o2,none⟩) x.subs.length d)∧b1 < W.heap.size∧b2 < W.heap.size∧w.heap.size < W.heap.size∧w.heap.size + 1 < W.heap.size∧W.cell? ⟨b1,o1 + i * 6,none⟩ = some (.int .i64 u.kind)∧W.cell? ⟨b1,o1 + i * 6 + 1,none⟩ = some (.string u.name)∧W.cell? ⟨b1,o1 + i * 6 + 2,none⟩ = some (.string u.more)∧W.cell? ⟨b1,o1 + i * 6 + 3,none⟩ = some (.int .i64 u.num)∧W.cell? ⟨b1,o1 + i * 6 + 4,none⟩ = some (.int .i64 u.den)∧W.cell? ⟨b1,o1 + i * 6 + 5,none⟩ = some (.slice ua u.subs.length uc)∧W.cell? ⟨b2,o2 + i * 6,none⟩ = some (.int .i64 v.kind)∧W.cell? ⟨b2,o2 + i * 6 + 1,none⟩ = some (.string v.name)∧W.cell? ⟨b2,o2 + i * 6 + 2,none⟩ = some (.string v.more)∧W.cell? ⟨b2,o2 + i * 6 + 3,none⟩ = some (.int .i64 v.num)∧W.cell? ⟨b2,o2 + i * 6 + 4,none⟩ = some (.int .i64 v.den)∧W.cell? ⟨b2,o2 + i * 6 + 5,none⟩ = some (.slice va v.subs.length vc)) [true,true,true,true,true,true,true,true,true,true] mixedK (by kernel_rfl) (fun _ _ _ _ _ h => h) ⟨x5,y5,hb1,hb2,l1,l2,u0,u1,u2,u3,u4,u5,v0,v1,v2,v3,v4,v5⟩ (fun hHeld => ?_))
     iterate 10 (first | (refine lexT_skip (by rfl) ?_;(try simp only [Act.put,List.setIfInBounds_toArray,List.set_cons_zero,List.set_cons_succ])) | (refine lexT_take (v:=?_) (by rfl) ?_ ?_;rotate_left;(focus (intro wq hSw;(try dsimp only at hSw);go_simp;(try with_reducible rfl)));(try simp only [Act.put,List.setIfInBounds_toArray,List.set_cons_zero,List.set_cons_succ])))
     refine lexT_end ?_;have hdr:Bw wr wr.drew:=(Mod.refl [] wr).drew.below;clear hHeld x5 y5 u0 u1 u2 u3 u4 u5 v0 v1 v2 v3 v4 v5 l1 l2;generalize wr.drew = wd at *;go_wp2_with (fail)
     refine (HC.out _ hdr).mono ?_;rintro e w3 ⟨rfl,hb3⟩;go_wp2;refine NoPanic.normal ?_;go_wp2;go_meet
     case rel => exact ⟨rfl,qtrans hdr hb3⟩
    case rest =>
    obtain ⟨rfl,hb4⟩:=hcut;have hB4:=hb.trans (hb4.mono hb.size)
    cases r with
    | true =>
     rw [Bool.true_and] at HN;simp only [Bool.not_true]
     go_wp2;go_roundw
     case rel => exact ⟨i + 1,by omega,by go_num,HN,hB4⟩
     case measure => simp [intOf];omega
    | false =>
     rw [Bool.false_and] at HN;simp only [Bool.not_false]
     go_wp2;go_ret;exact ⟨ret_bool HN.out.symm,qtrans hA hB4⟩
   ·have hd:decide ((i:Int) < (x.subs.length:Int)) = false:=decide_eq_false (by omega)
    have HF:Hid (T = true):=by show _ = _;rw [HI.out,sameL_end (by omega) (by rw [← HLE.out];omega)]
    go_wp2;go_ret;exact ⟨ret_bool HF.out.symm,hB⟩
end Go.Proofs.YtdpnfkjafhbndaaGreatDoor
namespace Go.Proofs.YtdpnfkjafhbndaaGreatDoor
open Go.RowKit Go.Shelf
attribute [local go_sem] Oper.semAt_some
structure DeclIn (w:World) (d:ODecl) (an:Option Addr) (cn:Nat) (sa:Option Addr) (cs:Nat):Prop where
  names:Reads w [] (strsT d.names) (.slice an d.names.length cn)
  subs:Reads w [] (subsT d.body.subs) (.slice sa d.body.subs.length cs)
  hn1:d.names.length≤cn
  hn2:cn≤9223372036854775807
  hs1:d.body.subs.length≤cs
  hs2:cs≤9223372036854775807
theorem DeclIn.below {w w':World} {d:ODecl} {an:Option Addr} {cn:Nat} {sa:Option Addr} {cs:Nat} (h:DeclIn w d an cn sa cs) (m:Bw w w'):DeclIn w' d an cn sa cs:=⟨h.names.below m,h.subs.below m,h.hn1,h.hn2,h.hs1,h.hs2⟩
set_option maxHeartbeats 1000000 in
set_option maxHeartbeats 4000000 in
theorem rSameDecl_any (d f:ODecl) (an:Option Addr) (cn:Nat) (sa:Option Addr) (cs:Nat) (bn:Option Addr) (cm:Nat) (sb:Option Addr) (ct:Nat) (w:World) (hd:DeclIn w d an cn sa cs) (hf:DeclIn w f bn cm sb ct) (hsd:d.names.length≤1000000) (hN:nodesN d.body≤1000000) :
  Calls Tryz.prog 130 #[declV d an cn sa cs,declV f bn cm sb ct] w fun e w' => e = .returned (.bool (sameD d f))∧Bw w w':=by
 have HB1:Hid (CBox ((w.alloc (.cells (dA d an cn sa cs) 69)).alloc (.cells (dA f bn cm sb ct) 69)) w.heap.size 69 (dA d an cn sa cs)):=(CBox.new w 69 (dA d an cn sa cs)).alloc _
 have HB2:Hid (CBox ((w.alloc (.cells (dA d an cn sa cs) 69)).alloc (.cells (dA f bn cm sb ct) 69)) (w.heap.size + 1) 69 (dA f bn cm sb ct)):=by
  have:=CBox.new (w.alloc (.cells (dA d an cn sa cs) 69)) 69 (dA f bn cm sb ct);rwa [World.size_alloc] at this
 have hA:Bw w ((w.alloc (.cells (dA d an cn sa cs) 69)).alloc (.cells (dA f bn cm sb ct) 69)):=qtrans (qalloc _ _) (qalloc _ _);have HT:Hid (sameD d f = (d.id == f.id && ((d.kind == f.kind && (d.pub == f.pub && d.doubt == f.doubt)) && (sameSs d.names f.names && sameX d.body f.body)))):=rfl;have HN:=lH (fun w h1 h2 => rSameStrings_any d.names f.names an bn cn cm w h1 h2 hsd);have HX:=lH (fun w h1 h2 => rSameX_any d.body f.body sa sb cs ct w h1 h2 (by omega));have HD:=lH hd;have HF:=lH hf
 obtain ⟨k1,k2,k5,k6,e1,e2,e3,e4⟩:∃ k1 k2 k3 k4,(d.id == f.id) = k1∧(d.kind == f.kind) = k2∧(d.pub == f.pub) = k3∧(d.doubt == f.doubt) = k4:=⟨_,_,_,_,rfl,rfl,rfl,rfl⟩;rw [e1,e2,e3,e4] at HT;generalize sameD d f = T at *;generalize sameSs d.names f.names = k3 at *;generalize sameX d.body f.body = k4 at *;unfold declV exV at *;clear hd hf
 cases k1 with
 | false =>
  go_enter Tryz.func130,Tryz.ntmps130
  go_wp2;go_ret;exact ⟨ret_bool (by rw [HT.out];rfl),hA⟩
 | true =>
  cases k2 with
  | false =>
   go_enter Tryz.func130,Tryz.ntmps130
   go_wp2;go_ret;exact ⟨ret_bool (by rw [HT.out];simp),hA⟩
  | true =>
   cases k5 with
   | false =>
    go_enter Tryz.func130,Tryz.ntmps130
    go_wp2;go_ret;exact ⟨ret_bool (by rw [HT.out];simp),hA⟩
   | true =>
    cases k6 with
    | false =>
     go_enter Tryz.func130,Tryz.ntmps130
     go_wp2;go_ret;exact ⟨ret_bool (by rw [HT.out];simp),hA⟩
    | true =>
     go_enter Tryz.func130,Tryz.ntmps130
     go_wp2_with (fail)
     refine (HN.out _ (reads_strs.1 (HD.out.below hA).names).1 (reads_strs.1 (HF.out.below hA).names).1).mono ?_;rintro e w2 ⟨rfl,hb2⟩;have hB2:=qtrans hA hb2;have qx:=HB1.out.below hb2;have qy:=HB2.out.below hb2;obtain ⟨qx0,qx1,qx2,qx3,qx4,qx5,qx6,qx7,qx8,qx9,qx10,-⟩:=cells11 qx;obtain ⟨qy0,qy1,qy2,qy3,qy4,qy5,qy6,qy7,qy8,qy9,qy10,-⟩:=cells11 qy;have qlx:=qx.lt;have qly:=qy.lt
     cases k3 with
     | false =>
      go_wp2;go_ret;exact ⟨ret_bool (by rw [HT.out];rfl),hB2⟩
     | true =>
      go_wp2_with (fail)
      refine (HX.out _ (HD.out.below hB2).subs (HF.out.below hB2).subs).mono ?_;rintro e w3 ⟨rfl,hb3⟩;go_wp2;go_ret;exact ⟨ret_bool (by rw [HT.out];rfl),qtrans hB2 hb3⟩
end Go.Proofs.YtdpnfkjafhbndaaGreatDoor
namespace Go.Proofs.YtdpnfkjafhbndaaGreatDoor
open Go.RowKit Go.Shelf
attribute [local go_sem] Oper.semAt_some
def sameDs:List ODecl→List ODecl→Bool
 | [],[] => true
 | a :: r,b :: s => sameD a b && sameDs r s
 | _,_ => false
theorem sameDs_iff:∀ {l m:List ODecl},sameDs l m = true↔l = m
 | [],[] => by simp [sameDs]
 | [],b :: s => by simp [sameDs]
 | a :: r,[] => by simp [sameDs]
 | a :: r,b :: s => by simp [sameDs,sameD_iff,sameDs_iff]
theorem sameDs_len {l m:List ODecl} (h:l.length≠m.length):sameDs l m = false:=by
 cases e:sameDs l m with
 | false => rfl
 | true => exact absurd (congrArg List.length (sameDs_iff.1 e)) h
theorem sameDs_at {l m:List ODecl} {i:Nat} {x y:ODecl} (hx:l[i]? = some x) (hy:m[i]? = some y):sameDs (l.drop i) (m.drop i) = (sameD x y && sameDs (l.drop (i + 1)) (m.drop (i + 1))):=by
 obtain ⟨h1,e1⟩:=List.getElem?_eq_some_iff.1 hx;obtain ⟨h2,e2⟩:=List.getElem?_eq_some_iff.1 hy;rw [List.drop_eq_getElem_cons h1,List.drop_eq_getElem_cons h2,sameDs,e1,e2]
theorem sameDs_end {l m:List ODecl} {i:Nat} (hl:l.length≤i) (hm:m.length≤i):sameDs (l.drop i) (m.drop i) = true:=by
 rw [List.drop_eq_nil_of_le hl,List.drop_eq_nil_of_le hm,sameDs]
set_option maxRecDepth 100000 in
set_option maxHeartbeats 8000000 in
theorem rSameDecls_any (l m:List ODecl) (a b:Option Addr) (c d:Nat) (w:World) (hl:Reads w [] (declsT l) (.slice a l.length c)) (hm:Reads w [] (declsT m) (.slice b m.length d)) (hs:∀ x∈l,x.names.length≤1000000∧nodesN x.body≤1000000) (hn:l.length≤1000000) :
  Calls Tryz.prog 89 #[.slice a l.length c,.slice b m.length d] w fun e w' => e = .returned (.bool (sameDs l m))∧Bw w w':=by
 have HL:=lH hl;have HM:=lH hm;have HS:=lH hs;have HE:Hid (sameDs l m = sameDs (l.drop 0) (m.drop 0)):=rfl;have HLEN:=lH (sameDs_len (l:=l) (m:=m));clear hl hm hs;generalize sameDs l m = T at *
 by_cases hlen:l.length = m.length
 rotate_left
 ·have q1:((l.length:Int) != (m.length:Int)) = true:=bne_iff_ne.2 (by omega)
  have HF:=lH (HLEN.out hlen);clear hlen HLEN
  go_enter Tryz.func89,Tryz.ntmps89
  go_wp2;go_ret;exact ⟨ret_bool HF.out.symm,qrefl _⟩
 have q1:((l.length:Int) != (m.length:Int)) = false:=by rw [hlen];simp
 have HLE:=lH hlen;clear hlen HLEN
 go_enter Tryz.func89,Tryz.ntmps89
 go_wp2
 go_loopw [5] (fun iv wr => ∃ i:Nat,i≤l.length∧iv = .int .i64 i∧Hid (T = sameDs (l.drop i) (m.drop i))∧Bw w wr) (fun iv _ => l.length - (intOf iv).toNat)
 case atStart => exact ⟨0,Nat.zero_le _,rfl,HE,qrefl _⟩
 case round =>
  obtain ⟨i,hil,rfl,HI,hb⟩:=hrel
  by_cases hi:i < l.length
  ·have hd:decide ((i:Int) < (l.length:Int)) = true:=decide_eq_true (by omega)
   have hi2:i < m.length:=by rw [← HLE.out];exact hi
   have hir:(i:Int) < (l.length:Int):=by omega
   have hir2:(i:Int) < (m.length:Int):=by omega
   obtain ⟨x,hx⟩:∃ x,l[i]? = some x:=⟨_,List.getElem?_eq_getElem hi⟩;obtain ⟨y,hy⟩:∃ y,m[i]? = some y:=⟨_,List.getElem?_eq_getElem hi2⟩;obtain ⟨b1,o1,an,cn,sa,cs,rfl,hb1,hc1,xn1,xn2,xsn,xs1,xs2,xsr⟩:=decls_elem (HL.out.below hb) hx;obtain ⟨b2,o2,bn,cm,sb,ct,rfl,hb2,hc2,yn1,yn2,ysn,ys1,ys2,ysr⟩:=decls_elem (HM.out.below hb) hy;have hsx:=HS.out x (List.mem_of_getElem? hx)
   have HC:=lH (fun w' (h':Bw wr w') => rSameDecl_any x y an cn sa cs bn cm sb ct w' (DeclIn.below ⟨xsn.out,xsr.out,xn1,xn2,xs1,xs2⟩ h') (DeclIn.below ⟨ysn.out,ysr.out,yn1,yn2,ys1,ys2⟩ h') hsx.1 hsx.2);have HN:=lH (HI.out.trans (sameDs_at hx hy));have x0:=hc1 0 _ rfl;have y0:=hc2 0 _ rfl;have x1:=hc1 1 _ rfl;have y1:=hc2 1 _ rfl;have x2:=hc1 2 _ rfl;have y2:=hc2 2 _ rfl;have x3:=hc1 3 _ rfl;have y3:=hc2 3 _ rfl;have x4:=hc1 4 _ rfl;have y4:=hc2 4 _ rfl;have x5:=hc1 5 _ rfl;have y5:=hc2 5 _ rfl;have x6:=hc1 6 _ rfl
   have y6:=hc2 6 _ rfl;have x7:=hc1 7 _ rfl;have y7:=hc2 7 _ rfl;have x8:=hc1 8 _ rfl;have y8:=hc2 8 _ rfl;have x9:=hc1 9 _ rfl;have y9:=hc2 9 _ rfl;have x10:=hc1 10 _ rfl;have y10:=hc2 10 _ rfl;rw [Nat.add_zero] at x0 y0;clear hc1 hc2 xsn xsr ysn ysr hsx HI hx hy;unfold declL declV at *;generalize sameD x y = r at *
   have SW:Hid (∀ W:World,Bw wr W→(b1 < W.heap.size∧b2 < W.heap.size∧W.cell? ⟨b1,o1 + i * 11,none⟩ = some (.int .i64 x.id)∧W.cell? ⟨b1,o1 + i * 11 + 1,none⟩ = some (.int .i64 x.kind)∧W.cell? ⟨b1,o1 + i * 11 + 2,none⟩ = some (.bool x.pub)∧W.cell? ⟨b1,o1 + i * 11 + 3,none⟩ = some (.slice an x.names.length cn)∧W.cell? ⟨b1,o1 + i * 11 + 4,none⟩ = some (.bool x.doubt)∧W.cell? ⟨b1,o1 + i * 11 + 5,none⟩ = some (.int .i64 x.body.kind)∧W.cell? ⟨b1,o1 + i * 11 + 6,none⟩ = some (.string x.body.name)∧W.cell? ⟨b1,o1 + i * 11 + 7,none⟩ = some (.string x.body.more)∧W.cell? ⟨b1,o1 + i * 11 + 8,none⟩ = some (.int .i64 x.body.num)∧W.cell? ⟨b1,o1 + i * 11 + 9,none⟩ = some (.int .i64 x.body.den)∧W.cell? ⟨b1,o1 + i * 11 + 10,none⟩ = some (.slice sa x.body.subs.length cs)∧W.cell? ⟨b2,o2 + i * 11,none⟩ = some (.int .i64 y.id)∧W.cell? ⟨b2,o2 + i * 11 + 1,none⟩ = some (.int .i64 y.kind)∧W.cell? ⟨b2,o2 + i * 11 + 2,none⟩ = some (.bool y.pub)∧W.cell? ⟨b2,o2 + i * 11 + 3,none⟩ = some (.slice bn y.names.length cm)∧W.cell? ⟨b2,o2 + i * 11 + 4,none⟩ = some (.bool y.doubt)∧W.cell? ⟨b2,o2 + i * 11 + 5,none⟩ = some (.int .i64 y.body.kind)∧W.cell? ⟨b2,o2 + i * 11 + 6,none⟩ = some (.string y.body.name)∧W.cell? ⟨b2,o2 + i * 11 + 7,none⟩ = some (.string y.body.more)∧W.cell? ⟨b2,o2 + i * 11 + 8,none⟩ = some (.int .i64 y.body.num)∧W.cell? ⟨b2,o2 + i * 11 + 9,none⟩ = some (.int .i64 y.body.den)∧W.cell? ⟨b2,o2 + i * 11 + 10,none⟩ = some (.slice sb y.body.subs.length ct))):=lH (fun W hW => ⟨Nat.lt_of_lt_of_le hb1 hW.size,Nat.lt_of_lt_of_le hb2 hW.size,(hW.cell (p:=⟨b1,_,none⟩) hb1).trans x0,(hW.cell (p:=⟨b1,_,none⟩) hb1).trans x1,(hW.cell (p:=⟨b1,_,none⟩) hb1).trans x2,(hW.cell (p:=⟨b1,_,none⟩) hb1).trans x3,(hW.cell (p:=⟨b1,_,none⟩) hb1).trans x4,(hW.cell (p:=⟨b1,_,none⟩) hb1).trans x5,(hW.cell (p:=⟨b1,_,none⟩) hb1).trans x6,(hW.cell (p:=⟨b1,_,none⟩) hb1).trans x7,(hW.cell (p:=⟨b1,_,none⟩) hb1).trans x8,(hW.cell (p:=⟨b1,_,none⟩) hb1).trans x9,(hW.cell (p:=⟨b1,_,none⟩) hb1).trans x10,(hW.cell (p:=⟨b2,_,none⟩) hb2).trans y0,(hW.cell (p:=⟨b2,_,none⟩) hb2).trans y1,(hW.cell (p:=⟨b2,_,none⟩) hb2).trans y2,(hW.cell (p:=⟨b2,_,none⟩) hb2).trans y3,(hW.cell (p:=⟨b2,_,none⟩) hb2).trans y4,(hW.cell (p:=⟨b2,_,none⟩) hb2).trans y5,(hW.cell (p:=⟨b2,_,none⟩) hb2).trans y6,(hW.cell (p:=⟨b2,_,none⟩) hb2).trans y7,(hW.cell (p:=⟨b2,_,none⟩) hb2).trans y8,(hW.cell (p:=⟨b2,_,none⟩) hb2).trans y9,(hW.cell (p:=⟨b2,_,none⟩) hb2).trans y10⟩)
   have hdr:Bw wr wr.drew:=(Mod.refl [] wr).drew.below;clear x0 y0 x1 y1 x2 y2 x3 y3 x4 y4 x5 y5 x6 y6 x7 y7 x8 y8 x9 y9 x10 y10;go_upto_region 6 with (fail)
   go_cut [26] from 11 to 26 (fun v wx => v = .bool (!r)∧Bw wr wx)
   case first =>
    refine wp_region_noPanic (region_lex (fun W:World => b1 < W.heap.size∧b2 < W.heap.size∧W.cell? ⟨b1,o1 + i * 11,none⟩ = some (.int .i64 x.id)∧W.cell? ⟨b1,o1 + i * 11 + 1,none⟩ = some (.int .i64 x.kind)∧W.cell? ⟨b1,o1 + i * 11 + 2,none⟩ = some (.bool x.pub)∧W.cell? ⟨b1,o1 + i * 11 + 3,none⟩ = some (.slice an x.names.length cn)∧W.cell? ⟨b1,o1 + i * 11 + 4,none⟩ = some (.bool x.doubt)∧W.cell? ⟨b1,o1 + i * 11 + 5,none⟩ = some (.int .i64 x.body.kind)∧W.cell? ⟨b1,o1 + i * 11 + 6,none⟩ = some (.string x.body.name)∧W.cell? ⟨b1,o1 + i * 11 + 7,none⟩ = some (.string x.body.more)∧W.cell? ⟨b1,o1 + i * 11 + 8,none⟩ = some (.int .i64 x.body.num)∧W.cell? ⟨b1,o1 + i * 11 + 9,none⟩ = some (.int .i64 x.body.den)∧W.cell? ⟨b1,o1 + i * 11 + 10,none⟩ = some (.slice sa x.body.subs.length cs)∧W.cell? ⟨b2,o2 + i * 11,none⟩ = some (.int .i64 y.id)∧W.cell? ⟨b2,o2 + i * 11 + 1,none⟩ = some (.int .i64 y.kind)∧W.cell? ⟨b2,o2 + i * 11 + 2,none⟩ = some (.bool y.pub)∧W.cell? ⟨b2,o2 + i * 11 + 3,none⟩ = some (.slice bn y.names.length cm)∧W.cell? ⟨b2,o2 + i * 11 + 4,none⟩ = some (.bool y.doubt)∧W.cell? ⟨b2,o2 + i * 11 + 5,none⟩ = some (.int .i64 y.body.kind)∧W.cell? ⟨b2,o2 + i * 11 + 6,none⟩ = some (.string y.body.name)∧W.cell? ⟨b2,o2 + i * 11 + 7,none⟩ = some (.string y.body.more)∧W.cell? ⟨b2,o2 + i * 11 + 8,none⟩ = some (.int .i64 y.body.num)∧W.cell? ⟨b2,o2 + i * 11 + 9,none⟩ = some (.int .i64 y.body.den)∧W.cell? ⟨b2,o2 + i * 11 + 10,none⟩ = some (.slice sb y.body.subs.length ct)) [true,true,true,true,true,true,true,true,false,true] mixedK (by kernel_rfl) (fun _ _ _ _ _ h => h) (SW.out _ hdr) (fun hHeld => ?_))
    iterate 8 (first | (refine lex_skip (by rfl) ?_;(try simp only [Act.put,List.setIfInBounds_toArray,List.set_cons_zero,List.set_cons_succ])) | (refine lex_take (v:=?_) (by rfl) ?_ ?_;rotate_left;(focus (intro wq hSw;(try dsimp only at hSw);go_simp;(try with_reducible rfl)));(try simp only [Act.put,List.setIfInBounds_toArray,List.set_cons_zero,List.set_cons_succ])))
    clear hHeld;generalize wr.drew = wd at *
    (refine lex_do (by rfl) (fun K hK => ?_);go_simp)
    refine (HC.out _ hdr).mono ?_;rintro r w3 ⟨rfl,hb3⟩
    (try go_simp)
    have hb4:=qtrans hdr hb3;refine hK.out _ _ (SW.out _ hb4) (fun _ => ?_);clear hK K;(try simp only [Act.put,List.setIfInBounds_toArray,List.set_cons_zero,List.set_cons_succ])
    (first | (refine lex_skip (by rfl) ?_;(try simp only [Act.put,List.setIfInBounds_toArray,List.set_cons_zero,List.set_cons_succ])) | (refine lex_take (v:=?_) (by rfl) ?_ ?_;rotate_left;(focus (intro wq hSw;(try dsimp only at hSw);go_simp;(try with_reducible rfl)));(try simp only [Act.put,List.setIfInBounds_toArray,List.set_cons_zero,List.set_cons_succ])))
    refine lex_end ?_;refine NoPanic.normal ?_
    (try go_wp2)
    go_meet
    case rel => exact ⟨rfl,hb4⟩
   case rest =>
   obtain ⟨rfl,hb4⟩:=hcut;have hB4:=hb.trans (hb4.mono hb.size);clear SW HC hdr
   cases r with
   | true =>
    rw [Bool.true_and] at HN;simp only [Bool.not_true]
    go_wp2;go_roundw
    case rel => exact ⟨i + 1,by omega,by go_num,HN,hB4⟩
    case measure => simp [intOf];omega
   | false =>
    rw [Bool.false_and] at HN;simp only [Bool.not_false]
    go_wp2;go_ret;exact ⟨ret_bool HN.out.symm,hB4⟩
  ·have hd:decide ((i:Int) < (l.length:Int)) = false:=decide_eq_false (by omega)
   have HF:Hid (T = true):=by show _ = _;rw [HI.out,sameDs_end (by omega) (by rw [← HLE.out];omega)]
   go_wp2;go_ret;exact ⟨ret_bool HF.out.symm,hb⟩
def greatX (x:Ex):Bool:=decide (40 < nodesN x) || longB x
def greatD (d:ODecl):Bool:=decide (5 < d.names.length) || greatX d.body || d.names.any fun s => decide (100 < s.size)
def greatDs (l:List ODecl):Bool:=if 8 < l.length then true else l.any greatD
theorem any_at {α:Type} {l:List α} {f:α→Bool} {i:Nat} {x:α} (h:l[i]? = some x):(l.drop i).any f = (f x || (l.drop (i + 1)).any f):=by
 obtain ⟨h1,h2⟩:=List.getElem?_eq_some_iff.1 h;rw [List.drop_eq_getElem_cons h1,List.any_cons,h2]
theorem any_end {α:Type} {l:List α} {f:α→Bool} {i:Nat} (h:l.length≤i):(l.drop i).any f = false:=by
 rw [List.drop_eq_nil_of_le h];rfl
set_option maxHeartbeats 2000000 in
theorem rGreatX_any (x:Ex) (a:Option Addr) (c:Nat) (w:World) (h:Reads w [] (subsT x.subs) (.slice a x.subs.length c)) (hs:SmX 9223372036854775807 x) (hn:nodesN x≤4000000) :
  Calls Tryz.prog 42 #[exV x a c] w fun r w' => r = .returned (.bool (greatX x))∧Bw w w':=by
 have HN:=lH (fun W (hb:Bw w W) => rNodes_any x a c W (h.below hb) hn);have HL:=lH (fun W (hb:Bw w W) => rlong_any x a c W (h.below hb) hs hn);have HB:=lH (CBox.new w 66 (xA x a c));have hA:=qalloc w (.cells (xA x a c) 66);have HG:Hid (greatX x = (decide (40 < nodesN x) || anyX longP x)):=rfl;clear h hs;unfold exV at *;generalize greatX x = T at *;generalize anyX longP x = lb at *;generalize nodesN x = N at *
 go_enter Tryz.func42,Tryz.ntmps42
 go_wp2_with (fail)
 refine (HN.out _ hA).mono ?_;rintro r w1 ⟨rfl,hb1⟩;have hB1:=qtrans hA hb1
 by_cases h40:40 < N
 ·have q1:decide ((40:Int) < (N:Int)) = true:=decide_eq_true (by omega)
  have HF:Hid (T = true):=by show _ = _;rw [HG.out,decide_eq_true h40,Bool.true_or]
  clear h40;go_wp2;go_ret;exact ⟨ret_bool HF.out.symm,hB1⟩
 ·have q1:decide ((40:Int) < (N:Int)) = false:=decide_eq_false (by omega)
  have HF:Hid (T = lb):=by show _ = _;rw [HG.out,decide_eq_false h40,Bool.false_or]
  clear h40;have b1:=HB.out.below hb1;obtain ⟨c0,c1,c2,c3,c4,c5,cl⟩:=cells6 b1;clear b1 HB;go_wp2_with (fail)
  refine (HL.out _ hB1).mono ?_;rintro r w2 ⟨rfl,hb2⟩;go_wp2;go_ret;exact ⟨ret_bool HF.out.symm,qtrans hB1 hb2⟩
structure BigD (d:ODecl):Prop where
 body:SmX 9223372036854775807 d.body
 nodes:nodesN d.body≤4000000
 nsz:∀ s∈d.names,s.size≤4000000
set_option maxRecDepth 100000 in
set_option maxHeartbeats 4000000 in
theorem rGreatDecls_any (l:List ODecl) (a:Option Addr) (c:Nat) (w:World) (hl:Reads w [] (declsT l) (.slice a l.length c)) (hs:∀ d∈l,BigD d) :
  Calls Tryz.prog 47 #[.slice a l.length c] w fun r w' => r = .returned (.bool (greatDs l))∧Bw w w':=by
 have HL:=lH hl;have HS:=lH hs;clear hl hs
 by_cases h8:8 < l.length
 ·have q1:decide ((8:Int) < (l.length:Int)) = true:=decide_eq_true (by omega)
  have HF:Hid (greatDs l = true):=if_pos h8;clear h8;generalize greatDs l = T at *
  go_enter Tryz.func47,Tryz.ntmps47
  go_wp2;go_ret;exact ⟨ret_bool HF.out.symm,qrefl _⟩
 have q1:decide ((8:Int) < (l.length:Int)) = false:=decide_eq_false (by omega);have HE:Hid (greatDs l = (l.drop 0).any greatD):=if_neg h8;generalize greatDs l = T at *
 go_enter Tryz.func47,Tryz.ntmps47
 go_wp2;clear q1
 go_loopw [3] (fun iv wr => ∃ i:Nat,i≤l.length∧iv = .int .i64 i∧Hid (T = (l.drop i).any greatD)∧Bw w wr) (fun iv _ => l.length - (intOf iv).toNat)
 case atStart => exact ⟨0,Nat.zero_le _,rfl,HE,qrefl _⟩
 case round =>
  obtain ⟨i,hil,rfl,HI,hb⟩:=hrel
  by_cases hi:i < l.length
  ·have hd:decide ((i:Int) < (l.length:Int)) = true:=decide_eq_true (by omega)
   have hir:(i:Int) < (l.length:Int):=by omega
   obtain ⟨d,hdi⟩:∃ d,l[i]? = some d:=⟨_,List.getElem?_eq_getElem hi⟩;obtain ⟨b,o,an,cn,sa,cs,rfl,hbl,hcell,hn1,hn2,hsn,hs1,hs2,hsr⟩:=decls_elem (HL.out.below hb) hdi;have hsd:=HS.out d (List.mem_of_getElem? hdi);have HN:=lH (HI.out.trans (any_at (f:=greatD) hdi));have HGD:Hid (greatD d = (decide (5 < d.names.length) || greatX d.body || d.names.any fun s => decide (100 < s.size))):=rfl;have HX:=lH (rGreatX_any d.body sa cs wr hsr.out hsd.body hsd.nodes);have HSN:=lH (reads_strs.1 hsn.out).1;have HSZ:=lH hsd.nsz;have x3:=hcell 3 _ rfl
   have x5:=hcell 5 _ rfl;have x6:=hcell 6 _ rfl;have x7:=hcell 7 _ rfl;have x8:=hcell 8 _ rfl;have x9:=hcell 9 _ rfl;have x10:=hcell 10 _ rfl;clear hcell hsn hsr hsd HI hdi;unfold declL exV at *;generalize greatD d = gd at *;generalize greatX d.body = gx at *
   by_cases h5:5 < d.names.length
   ·have q2:decide ((5:Int) < (d.names.length:Int)) = true:=decide_eq_true (by omega)
    have HF:Hid (T = true):=by show _ = _;rw [HN.out,HGD.out,decide_eq_true h5,Bool.true_or,Bool.true_or,Bool.true_or]
    clear h5;go_wp2;go_ret;exact ⟨ret_bool HF.out.symm,hb⟩
   have q2:decide ((5:Int) < (d.names.length:Int)) = false:=decide_eq_false (by omega);rw [decide_eq_false h5,Bool.false_or] at HGD
   cases gx with
   | true =>
    have HF:Hid (T = true):=by show _ = _;rw [HN.out,HGD.out,Bool.true_or,Bool.true_or]
    go_wp2_with (fail)
    refine HX.out.mono ?_;rintro r w1 ⟨rfl,hb1⟩;go_wp2;go_ret;exact ⟨ret_bool HF.out.symm,hb.trans (hb1.mono hb.size)⟩
   | false =>
    rw [Bool.false_or] at HGD;go_wp2_with (fail)
    refine HX.out.mono ?_;rintro r w1 ⟨rfl,hb1⟩;have hB1:=hb.trans (hb1.mono hb.size);have y3:=(hb1.cell (p:=⟨b,_,none⟩) hbl).trans x3;have ybl:=Nat.lt_of_lt_of_le hbl hb1.size;have HSN1:=lH (HSN.out.below hb1);have HE2:Hid (gd = (d.names.drop 0).any fun s => decide (100 < s.size)):=HGD;clear x3 x5 x6 x7 x8 x9 x10 HX HGD;go_wp2;clear q2
    go_loopw [4] (fun jv ww => ∃ k:Nat,k≤d.names.length∧jv = .int .i64 k∧Hid (gd = (d.names.drop k).any fun s => decide (100 < s.size))∧Hid (ww = w1)) (fun jv _ => d.names.length - (intOf jv).toNat)
    case atStart => exact ⟨0,Nat.zero_le _,rfl,HE2,rfl⟩
    case round =>
     obtain ⟨k,hkl,rfl,HK,HW⟩:=hrel;have hW:=HW.out;subst hW
     by_cases hk:k < d.names.length
     ·have hd2:decide ((k:Int) < (d.names.length:Int)) = true:=decide_eq_true (by omega)
      have hkr:(k:Int) < (d.names.length:Int):=by omega
      obtain ⟨s,hsk⟩:∃ s,d.names[k]? = some s:=⟨_,List.getElem?_eq_getElem hk⟩;obtain ⟨_,_,e,hlc,hcm,hcellS⟩:=HSN1.out.shape
      cases e
      obtain ⟨b2,o2,rfl,hbl2,hc2⟩:=hcellS k hk;have ck:wr.cell? ⟨b2,o2 + k,none⟩ = some (.string (sAt d.names k)):=hc2 k (by omega);rw [sAt_of hk] at ck;have hss:d.names[k] = s:=(List.getElem?_eq_some_iff.1 hsk).2;rw [hss] at ck;have HN2:=lH (HK.out.trans (any_at (f:=fun s => decide (100 < s.size)) hsk));have hsz:=HSZ.out s (List.mem_of_getElem? hsk);clear hc2 hcellS hss hsk HK HW
      by_cases h1:100 < s.size
      ·have q3:decide ((100:Int) < (s.size:Int)) = true:=decide_eq_true (by omega)
       have HF:Hid (T = true):=by show _ = _;rw [HN.out,HN2.out,decide_eq_true h1,Bool.true_or,Bool.true_or]
       clear h1;go_wp2;go_ret;exact ⟨ret_bool HF.out.symm,hB1⟩
      ·have q3:decide ((100:Int) < (s.size:Int)) = false:=decide_eq_false (by omega)
       rw [decide_eq_false h1,Bool.false_or] at HN2;clear h1;go_wp2;go_roundw
       case rel => exact ⟨k + 1,by omega,by go_num,HN2,by first | exact rfl | exact lH trivial⟩
       case measure => simp [intOf];omega
     ·have hd2:decide ((k:Int) < (d.names.length:Int)) = false:=decide_eq_false (by omega)
      have HF:Hid (T = (l.drop (i + 1)).any greatD):=by show _ = _;rw [HN.out,HK.out,any_end (by omega),Bool.false_or]
      go_wp2;go_roundw
      case rel => exact ⟨i + 1,by omega,by go_num,HF,hB1⟩
      case measure => simp [intOf];omega
  ·have hd:decide ((i:Int) < (l.length:Int)) = false:=decide_eq_false (by omega)
   have HF:Hid (T = false):=by show _ = _;rw [HI.out,any_end (by omega)]
   go_wp2;go_ret;exact ⟨ret_bool HF.out.symm,hb⟩
end Go.Proofs.YtdpnfkjafhbndaaGreatDoor

