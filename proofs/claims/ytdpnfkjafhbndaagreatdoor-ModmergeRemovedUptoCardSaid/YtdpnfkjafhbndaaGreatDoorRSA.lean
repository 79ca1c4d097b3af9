/- Plain: a conflict of an expression that gives way to a side (chapter 32), as the program and the reference reckon it. exprmerge.settleOne is setX. exprmerge.Settle. -/
import Derived.Test.YtdpnfkjafhbndaaGreatDoorRNC
import Derived.Test.YtdpnfkjafhbndaaGreatDoorRXC
import Derived.Test.YtdpnfkjafhbndaaGreatDoorRG8
import Derived.Test.YtdpnfkjafhbndaaGreatDoorRXG
namespace Go.Proofs.YtdpnfkjafhbndaaGreatDoor
def subAt (l:List Ex) (k:Nat):Ex:=(l[k]?).getD noX
mutual
def setX (k:Nat):Ex→Nat→Ex
 | .mk kd n m a b l,i => if kd = 15∧i = 0 then subAt l k else .mk kd n m a b (setXL k l (if kd = 15 then i - 1 else i))
def setXL (k:Nat):List Ex→Nat→List Ex
 | [],_ => []
 | x :: l,i => if i < confX x then setX k x i :: l else x :: setXL k l (i - confX x)
end
theorem setX_eq (k:Nat) (x:Ex) (i:Nat):setX k x i = if x.kind = 15∧i = 0 then subAt x.subs k else .mk x.kind x.name x.more x.num x.den (setXL k x.subs (if x.kind = 15 then i - 1 else i)):=by
 cases x;rw [setX];rfl
theorem confL_append:∀ a b:List Ex,confL (a ++ b) = confL a + confL b
 | [],b => by show confL b = confL [] + confL b;rw [confL];omega
 | x :: a,b => by
  show confL (x :: (a ++ b)) = _
  rw [confL,confL,confL_append a b];omega
theorem setXL_len (k:Nat):∀ (l:List Ex) (i:Nat),(setXL k l i).length = l.length
 | [],_ => by rw [setXL]
 | x :: l,i => by
  rw [setXL];split
  ·rfl
  ·rw [List.length_cons,List.length_cons,setXL_len k l]
theorem setXL_ge (k:Nat):∀ (l:List Ex) (i:Nat),confL l≤i→setXL k l i = l
 | [],_,_ => by rw [setXL]
 | x :: l,i,h => by
  rw [confL] at h;rw [setXL,if_neg (by omega),setXL_ge k l _ (by omega)]
theorem setXL_left (k:Nat):∀ (a b:List Ex) (i:Nat),i < confL a→setXL k (a ++ b) i = setXL k a i ++ b
 | [],_,_,h => by rw [confL] at h;omega
 | x :: a,b,i,h => by
  rw [confL] at h;show setXL k (x :: (a ++ b)) i = _
  rw [setXL,setXL];split
  ·rfl
  ·rw [setXL_left k a b _ (by omega)];rfl
theorem setXL_right (k:Nat):∀ (a b:List Ex) (i:Nat),confL a≤i→setXL k (a ++ b) i = a ++ setXL k b (i - confL a)
 | [],b,i,_ => by rw [confL];rfl
 | x :: a,b,i,h => by
  rw [confL] at h;show setXL k (x :: (a ++ b)) i = _
  rw [setXL,if_neg (by omega),setXL_right k a b _ (by omega),confL];rw [show i - confX x - confL a = i - (confX x + confL a) by omega];rfl
def leftX (c:Nat) (i:Nat):Int:=if i < c then -1 else ((i - c:Nat):Int)
theorem setXL_step (k:Nat) {l:List Ex} {t:Nat} {x:Ex} (h:l[t]? = some x) (i:Nat) :
    (confL (l.take t)≤i→setXL k (l.take (t + 1)) i = l.take t ++ [if i - confL (l.take t) < confX x then setX k x (i - confL (l.take t)) else x])∧confL (l.take (t + 1)) = confL (l.take t) + confX x:=by
  obtain ⟨ht,rfl⟩:=List.getElem?_eq_some_iff.1 h
  have e:l.take (t + 1) = l.take t ++ [l[t]]:=by rw [List.take_add_one,List.getElem?_eq_getElem ht];rfl
  have e1:∀ y:Ex,confL [y] = confX y:=fun y => by rw [confL,confL];omega
  refine ⟨fun hc => ?_,by rw [e,confL_append,e1]⟩
  rw [e,setXL_right k _ _ _ hc,setXL,setXL]
  split <;> rfl
end Go.Proofs.YtdpnfkjafhbndaaGreatDoor
namespace Go.Proofs.YtdpnfkjafhbndaaGreatDoor
open Go.RowKit Go.Shelf
attribute [local go_sem] Oper.semAt_some
theorem setX_ge (k:Nat) {x:Ex} {i:Nat} (h:confX x≤i):setX k x i = x:=by
 rw [setX_eq];rw [confX_eq] at h
 by_cases hk:x.kind = 15
 ·rw [if_pos hk] at h
  rw [if_neg (by omega),if_pos hk,setXL_ge k _ _ (by omega)]
  cases x;rfl
 ·rw [if_neg hk] at h
  rw [if_neg (fun e => hk e.1),if_neg hk,setXL_ge k _ _ (by omega)]
  cases x;rfl
theorem left_sub {c i j:Nat} (h:i = j + 1):leftX (1 + c) i = leftX c j:=by
 subst h;unfold leftX
 by_cases h1:j < c
 ·rw [if_pos (by omega),if_pos h1]
 ·rw [if_neg (by omega),if_neg h1]
  omega
theorem left_step {c d i:Nat} (h:c≤i):leftX d (i - c) = leftX (c + d) i:=by
 unfold leftX
 by_cases h1:i - c < d
 ·rw [if_pos h1,if_pos (by omega)]
 ·rw [if_neg h1,if_neg (by omega)]
  omega
theorem setXL_next (k:Nat) {l:List Ex} {t:Nat} {x:Ex} (h:l[t]? = some x) {i:Nat} (hi:confL (l.take t)≤i):setXL k (l.take (t + 1)) i = l.take t ++ [setX k x (i - confL (l.take t))]:=by
 rw [(setXL_step k h i).1 hi];split
 ·rfl
 ·rw [setX_ge k (by omega)]
theorem ValX.three {x:Ex} (h:ValX x) (hk:x.kind = 15):x.subs.length = 3:=by
 have h0:=h.node;unfold nodeErr at h0;rw [hk,show shapeK 15 = some (0,0,3) from rfl] at h0;dsimp only at h0
 split at h0
 ·cases h0
 ·rename_i hb
  unfold argBad at hb;simp only [Bool.or_eq_true,not_or,Bool.not_eq_true,bne_eq_false_iff_eq] at hb
  exact hb.2
theorem exprs_len (m:List Ex):(m.flatMap exprT).length = m.length * 6:=by
 induction m with
 | nil => rfl
 | cons x m ih => rw [List.flatMap_cons,List.length_append,ih,exprT_len,List.length_cons];omega
theorem exprs_split {w:World} {X:List Nat} {l m:List Ex} {x:Ex} {vs:List Value} (h:ReadsL w X ((l ++ x :: m).flatMap exprT) vs) :
  ∃ A C a c,vs = A ++ (.int .i64 x.kind :: .string x.name :: .string x.more :: .int .i64 x.num :: .int .i64 x.den :: .slice a x.subs.length c :: C)∧A.length = l.length * 6∧ReadsL w X (l.flatMap exprT) A∧ReadsL w X (m.flatMap exprT) C∧ExIn w X x a c:=by
 rw [List.flatMap_append,List.flatMap_cons] at h;have h1:=h.take (l.flatMap exprT).length;have h2:=h.drop (l.flatMap exprT).length;rw [List.take_left] at h1;rw [List.drop_left] at h2;have h3:=h2.take (exprT x).length;have h4:=h2.drop (exprT x).length;rw [List.take_left] at h3;rw [List.drop_left] at h4;obtain ⟨a,c,e,hc1,hc2,hr⟩:=expr_cells h3;refine ⟨_,_,a,c,?_,h1.len.trans (exprs_len l),h1,h4,⟨hr,hc1,hc2⟩⟩;have e1:=List.take_append_drop (l.flatMap exprT).length vs;have e2:=List.take_append_drop (exprT x).length (vs.drop (l.flatMap exprT).length)
 rw [e] at e2;exact e1.symm.trans (congrArg (fun z => List.take (l.flatMap exprT).length vs ++ z) e2.symm)
theorem exprs_put {w:World} {X:List Nat} {l m:List Ex} {x:Ex} {A C:List Value} {a:Option Addr} {c:Nat} (hA:ReadsL w X (l.flatMap exprT) A) (hC:ReadsL w X (m.flatMap exprT) C) (hx:Reads w X (subsT x.subs) (.slice a x.subs.length c)) :
  ReadsL w X ((l ++ x :: m).flatMap exprT) (A ++ (.int .i64 x.kind :: .string x.name :: .string x.more :: .int .i64 x.num :: .int .i64 x.den :: .slice a x.subs.length c :: C)):=by
 rw [List.flatMap_append,List.flatMap_cons];exact ReadsL.append (ReadsL.append hC (cells_expr hx)) hA
theorem set_six {α:Type} (A C:List α) (a0 a1 a2 a3 a4 a5 v0 v1 v2 v3 v4 v5:α) {n:Nat} (h:A.length = n) :
  ((((((A ++ (a0 :: a1 :: a2 :: a3 :: a4 :: a5 :: C)).set n v0).set (n + 1) v1).set (n + 2) v2).set (n + 3) v3).set (n + 4) v4).set (n + 5) v5 = A ++ (v0 :: v1 :: v2 :: v3 :: v4 :: v5 :: C):=by
 subst h;simp [List.set_append_right]
theorem row_put {w:World} {R n:Nat} {t:TypeId} {A C:List Value} {a0 a1 a2 a3 a4 a5:Value} (h:CBox w R t (A ++ (a0 :: a1 :: a2 :: a3 :: a4 :: a5 :: C)).toArray) (hA:A.length = n) (v0 v1 v2 v3 v4 v5:Value) :
  CBox ((((((w.setCell ⟨R,n,none⟩ v0).setCell ⟨R,n + 1,none⟩ v1).setCell ⟨R,n + 2,none⟩ v2).setCell ⟨R,n + 3,none⟩ v3).setCell ⟨R,n + 4,none⟩ v4).setCell ⟨R,n + 5,none⟩ v5) R t (A ++ (v0 :: v1 :: v2 :: v3 :: v4 :: v5 :: C)).toArray:=by
 have h6:=(((((h.set n v0).set (n + 1) v1).set (n + 2) v2).set (n + 3) v3).set (n + 4) v4).set (n + 5) v5;simp only [List.setIfInBounds_toArray] at h6
 rwa [set_six A C a0 a1 a2 a3 a4 a5 v0 v1 v2 v3 v4 v5 hA] at h6
theorem row_cells {w:World} {R n:Nat} {t:TypeId} {A C:List Value} {a0 a1 a2 a3 a4 a5:Value} (h:CBox w R t (A ++ (a0 :: a1 :: a2 :: a3 :: a4 :: a5 :: C)).toArray) (hA:A.length = n) :
  w.cell? ⟨R,n,none⟩ = some a0∧w.cell? ⟨R,n + 1,none⟩ = some a1∧w.cell? ⟨R,n + 2,none⟩ = some a2∧w.cell? ⟨R,n + 3,none⟩ = some a3∧w.cell? ⟨R,n + 4,none⟩ = some a4∧w.cell? ⟨R,n + 5,none⟩ = some a5:=by
 subst hA;refine ⟨h.cell (v:=a0) ?_,h.cell (v:=a1) ?_,h.cell (v:=a2) ?_,h.cell (v:=a3) ?_,h.cell (v:=a4) ?_,h.cell (v:=a5) ?_⟩ <;> simp
theorem run_copy_any {P:Program} (w:World) (dT sT ty elem:TypeId) (sz g n dCap:Nat) (a:Option Addr) (sCap:Nat) (cur:Array Value) (t:TypeId) (cs:List Value)
    (hu:P.underlying dT = some (.slice elem)) (hs:(P.info? elem).map (·.size) = some sz)
    (hg:w.heap[g]? = some (.cells cur t (0,0))) (hr:IsRow w sz (.slice a n sCap) n cs) (hfit:cs.length = cur.size) (h1:∀ v∈cs,v.oneCell' = true) :
    (Builtin.copy_ #[dT,sT] ty #[.slice (some ⟨g,0,none⟩) n dCap,.slice a n sCap]).run P w = .ok (goInt n) (w.setRow g cs.toArray):=by
  obtain ⟨hn,a',cap',he,_,_,hc⟩:=hr
  injection he with e1 e2 e3
  subst e1 e3
  cases a with
  | some ad =>
    refine run_copy_rows w dT sT ty elem sz g n dCap ad sCap cur t cs hu hs hg hn (fun j v hj => ?_) hfit h1
    rcases Nat.eq_zero_or_pos n with h0 | h0
    · subst h0
      rw [Nat.zero_mul] at hn
      rw [List.length_eq_zero_iff.1 hn] at hj
      cases hj
    · obtain ⟨b,o,he,_,hc2⟩:=hc h0
      cases he
      by_cases hj0:j = 0
      · subst hj0
        simpa [Addr.add] using hc2 0 v hj
      · simpa [Addr.add,hj0] using hc2 j v hj
  | none =>
    have h0:n = 0:=Nat.eq_zero_of_not_pos (fun h => by obtain ⟨b,o,he,_⟩:=hc h;cases he)
    subst h0
    rw [Nat.zero_mul] at hn
    obtain rfl:=List.length_eq_zero_iff.1 hn
    have hst:=run_storeCells_at P g 0 t [] 0 cur w hg (by simp) (by simp)
    have hcur:cur = #[]:=by
      rw [List.length_nil] at hfit
      exact Array.size_eq_zero_iff.1 hfit.symm
    subst hcur
    cases hq:P.info? elem with
    | none => simp [hq] at hs
    | some i =>
      simp at hst
      simp [Builtin.copy_,run_underlying hu,Builtin.lenOf,Builtin.firstCells,sizeOf,typeInfo,hq,hst]
structure SetOne (T:Ex) (L:Int) (X:List Nat) (w:World) (e:Ending) (w':World):Prop where
  of ::
  out:∃ a c,e = .returned (.tuple #[exV T a c,.int .i64 L])∧ExIn w' X T a c∧Below w.heap.size w w'
set_option maxRecDepth 100000 in
set_option maxHeartbeats 16000000 in
theorem settleOne_any (k:Nat) (hk:k < 3) (x:Ex):∀ (i:Nat) (a:Option Addr) (c:Nat) (X:List Nat) (w:World),(∀ k,k∈X→k < w.heap.size)→ExIn w X x a c→ValX x→nodesN x≤1000000→i≤1000000 →
  Calls Tryz.prog 188 #[exV x a c,.int .i64 i,.int .i64 k] w (SetOne (setX k x i) (leftX (confX x) i) X w):=by
 refine Ex.ind (P:=fun x => ∀ (i:Nat) (a:Option Addr) (c:Nat) (X:List Nat) (w:World),(∀ k,k∈X→k < w.heap.size)→ExIn w X x a c→ValX x→nodesN x≤1000000→i≤1000000 →
  Calls Tryz.prog 188 #[exV x a c,.int .i64 i,.int .i64 k] w (SetOne (setX k x i) (leftX (confX x) i) X w)) (fun x ih => ?_) x
 intro i a c X w hX hx hv hN hI;have HIH:=lH ih;have HXX:=lH hX;have HXI:=lH hx;have HVX:=lH hv;have HSX:=lH (setX_eq k x i);have HLX:Hid (leftX (confX x) i = leftX ((if x.kind = 15 then 1 else 0) + confL x.subs) i):=by show _ = _;rw [confX_eq]
 have hnn:=nodesN_eq x;have hnl:=nodesL_len x.subs;have hkI:(k:Int) < 3:=by omega
 clear ih hX hx hv;have gx:CBox ((w.alloc (.cells #[.int .i64 x.kind,.string x.name,.string x.more,.int .i64 x.num,.int .i64 x.den,.slice a x.subs.length c] 66)).alloc (.cells #[.int .i64 0,.string ⟨#[]⟩,.string ⟨#[]⟩,.int .i64 0,.int .i64 0,.slice none 0 0] 66)) w.heap.size 66 #[.int .i64 x.kind,.string x.name,.string x.more,.int .i64 x.num,.int .i64 x.den,.slice a x.subs.length c]:=(CBox.new w 66 _).alloc _
 have go:=CBox.new (w.alloc (.cells #[.int .i64 x.kind,.string x.name,.string x.more,.int .i64 x.num,.int .i64 x.den,.slice a x.subs.length c] 66)) 66 #[.int .i64 0,.string ⟨#[]⟩,.string ⟨#[]⟩,.int .i64 0,.int .i64 0,.slice none 0 0];rw [World.size_alloc] at go;have hA:Bw w ((w.alloc (.cells #[.int .i64 x.kind,.string x.name,.string x.more,.int .i64 x.num,.int .i64 x.den,.slice a x.subs.length c] 66)).alloc (.cells #[.int .i64 0,.string ⟨#[]⟩,.string ⟨#[]⟩,.int .i64 0,.int .i64 0,.slice none 0 0] 66)):=qtrans (qalloc _ _) (qalloc _ _)
 have hs4:((w.alloc (.cells #[.int .i64 x.kind,.string x.name,.string x.more,.int .i64 x.num,.int .i64 x.den,.slice a x.subs.length c] 66)).alloc (.cells #[.int .i64 0,.string ⟨#[]⟩,.string ⟨#[]⟩,.int .i64 0,.int .i64 0,.slice none 0 0] 66)).heap.size = w.heap.size + 1 + 1:=by simp only [World.size_alloc]
 generalize setX k x i = T at *;generalize leftX (confX x) i = L at *;unfold exV at *
 go_enter Tryz.func188,Tryz.ntmps188
 go_upto_region 1 with (fail)
 generalize ((w.alloc (.cells #[.int .i64 x.kind,.string x.name,.string x.more,.int .i64 x.num,.int .i64 x.den,.slice a x.subs.length c] 66)).alloc (.cells #[.int .i64 0,.string ⟨#[]⟩,.string ⟨#[]⟩,.int .i64 0,.int .i64 0,.slice none 0 0] 66)) = W0 at *;generalize hn3:w.heap.size + 1 = n3 at *;have m1:w.heap.size < n3:=by omega
 have hsW:n3 < W0.heap.size:=by omega
 have hwW:w.heap.size≤W0.heap.size:=by omega
 clear hn3 hs4;have HXW:Hid (ExIn W0 (n3 :: w.heap.size :: X) x a c):=((HXI.out.more (k:=w.heap.size) (Nat.le_refl _)).more (k:=n3) (by omega)).below hA;have Gx:=lH gx;have Go:=lH go;clear gx go;obtain ⟨x0,x1,x2,x3,x4,x5,xl⟩:=cells6 Gx.out
 by_cases hc:x.kind = 15∧i = 0
 ·obtain ⟨h15,h0⟩:=hc
  have hT:Hid (T = subAt x.subs k):=by show _ = _;rw [HSX.out,if_pos ⟨h15,h0⟩]
  have hL:Hid (L = -1):=by show _ = _;rw [HLX.out,if_pos h15];unfold leftX;rw [if_pos (by omega)]
  have h3:=HVX.out.three h15;obtain ⟨y,hy⟩:∃ y,x.subs[k]? = some y:=⟨_,List.getElem?_eq_getElem (by omega)⟩;have HY:=lH (show subAt x.subs k = y by unfold subAt;rw [hy];rfl);have hxw:=HXW.out.subs;obtain ⟨b1,o1,ua,uc,rfl,hb1,c0,c1,c2,c3,c4,c5,hu1,hu2,hur⟩:=subs_elem hxw hy;have hkn:decide ((k:Int) < (x.subs.length:Int)) = true:=decide_eq_true (by omega);have hki:(k:Int) < (x.subs.length:Int):=by omega
  have hq1:(x.kind == 15) = true:=by rw [h15];rfl
  have hq2:((i:Int) == 0) = true:=by rw [h0];rfl
  have HUU:Hid (ExIn W0 (n3 :: w.heap.size :: X) y ua uc):=⟨hur.out,hu1,hu2⟩;have HKN:=lH h3;clear h15 h0 hy hxw HSX HLX HIH hur hu1 hu2 hnn hnl h3 hkI;obtain ⟨o0,o1,o2,o3,o4,o5,ol⟩:=cells6 Go.out;obtain ⟨fo0,fo1,fo2,fo3,fo4,fo5⟩:=frozen6 Go.out;go_wp2;clear o0 o1 o2 o3 o4 o5 fo0 fo1 fo2 fo3 fo4 fo5 ol x0 x1 x2 x3 x4 x5 xl c0 c1 c2 c3 c4 c5;obtain ⟨HC9,HM9⟩:=CBox.six (Go.out) (.int .i64 y.kind) (.string y.name) (.string y.more) (.int .i64 y.num) (.int .i64 y.den) (.slice ua y.subs.length uc);generalize World.setCell _ ⟨n3,5,none⟩ _ = W9 at *
  obtain ⟨r0,r1,r2,r3,r4,r5,-⟩:=cells6 HC9;refine bodyPost_ret (by simp [results,Tryz.results188,go_sem,r0,r1,r2,r3,r4,r5];try rfl) rfl ?_;have hd9:Bw w W9:=hA.trans (HM9.upto hA.size (by intro k hk;simp at hk;omega));have e1:T = y:=by rw [hT.out,HY.out]
  have e2:L = -1:=hL.out;clear hT hL HY;subst e1 e2;exact ⟨ua,uc,rfl,(HUU.out.mod (HM9.mono inC)).fewer (fun k hk => List.mem_cons_of_mem _ (List.mem_cons_of_mem _ hk)),hd9⟩
 ·obtain ⟨j,hj⟩:∃ j:Nat,(x.kind = 15∧i = j + 1)∨(x.kind≠15∧i = j):=by
   by_cases h1:x.kind = 15
   ·exact ⟨i - 1,.inl ⟨h1,by have:i≠0:=fun e => hc ⟨h1,e⟩;omega⟩⟩
   ·exact ⟨i,.inr ⟨h1,rfl⟩⟩
  have hT:Hid (T = .mk x.kind x.name x.more x.num x.den (setXL k x.subs j)):=by
   show _ = _
   rw [HSX.out,if_neg hc]
   rcases hj with ⟨h1,h2⟩ | ⟨h1,h2⟩
   ·rw [if_pos h1,h2];rfl
   ·rw [if_neg h1,h2]
  have hL:Hid (L = leftX (confL x.subs) j):=by
   show _ = _
   rw [HLX.out]
   rcases hj with ⟨h1,h2⟩ | ⟨h1,h2⟩
   ·rw [if_pos h1];exact left_sub h2
   ·rw [if_neg h1,Nat.zero_add,h2]
  have hjI:j≤1000000:=by omega
  clear HSX HLX hI
  rcases hj with ⟨h1,h2⟩ | ⟨h1,h2⟩
  case' inl =>
   have hq1:(x.kind == 15) = true:=by rw [h1];rfl
   have hq2:((i:Int) == 0) = false:=by rw [h2];simp;omega
   have hq3:(i:Int) - 1 = (j:Int):=by omega
   clear h1 h2 hc;go_upto_region 5 with (fail)
   clear hq1 hq2 hq3
  case' inr =>
   have hq1:(x.kind == 15) = false:=by simpa using h1
   have h2:=h2.symm;subst h2;clear h1 hc;go_upto_region 5 with (fail)
   clear hq1
  all_goals (
   obtain ⟨i0,hi,hz0,hz1,hz2⟩:=info_parts infoExpr;obtain ⟨xs,hrow,hne,hrd⟩:=HXW.out.subs.toRow;have hmk:=run_make (P:=Tryz.prog) W0 64 66 i0 _ Tryz.underlying64 hi hz0 .i64 .i64 (x.subs.length:Int) (x.subs.length:Int) (by omega) (Int.le_refl _) (by rw [hz2];omega) (by omega);simp only [Int.toNat_natCast,hz1] at hmk
   have HC5:=lH (CBox.new W0 66 (madeCells (Value.agg #[.int .i64 0,.string ⟨#[]⟩,.string ⟨#[]⟩,.int .i64 0,.int .i64 0,.slice none 0 0]).cells (x.subs.length * 6)));have hq5:=qalloc W0 (.cells (madeCells (Value.agg #[.int .i64 0,.string ⟨#[]⟩,.string ⟨#[]⟩,.int .i64 0,.int .i64 0,.slice none 0 0]).cells (x.subs.length * 6)) 66);have HZ5:Hid ((madeCells (Value.agg #[.int .i64 0,.string ⟨#[]⟩,.string ⟨#[]⟩,.int .i64 0,.int .i64 0,.slice none 0 0]).cells (x.subs.length * 6)).size = x.subs.length * 6):=size_madeCells _ _
   generalize (madeCells (Value.agg #[.int .i64 0,.string ⟨#[]⟩,.string ⟨#[]⟩,.int .i64 0,.int .i64 0,.slice none 0 0]).cells (x.subs.length * 6)) = cur0 at *;generalize World.alloc W0 _ = w5 at *;have y5:=(Gx.out.below hq5).cell (i:=5) (v:=.slice a x.subs.length c) rfl;have yl:=(Gx.out.below hq5).lt;have hcp:=run_copy_any (P:=Tryz.prog) w5 64 64 3 66 6 W0.heap.size x.subs.length x.subs.length a c cur0 66 xs Tryz.underlying64 (by rw [hi,Option.map_some,hz1]) HC5.out (hrow.below hq5) (by rw [HZ5.out];exact hrow.1) (exprs_one hrd)
   have hm6:Mod [W0.heap.size] w5 (w5.setRow W0.heap.size xs.toArray):=⟨rfl,rfl,rfl,by simp [World.setRow],fun k hk hx => setRow_other _ W0.heap.size k _ (fun e => hx (by simp [e]))⟩;have HC6:Hid (CBox (w5.setRow W0.heap.size xs.toArray) W0.heap.size 66 xs.toArray):=setRow_heap _ W0.heap.size cur0 _ 66 _ HC5.out;have HGX:=lH ((Gx.out.below hq5).mod hm6 (by simp;omega));have HGO:=lH ((Go.out.below hq5).mod hm6 (by simp;omega));have hw5:=qtrans hA hq5
   have HW6:Hid (Bw w (w5.setRow W0.heap.size xs.toArray)):=hw5.trans (hm6.upto hw5.size (by intro k hk;simp at hk;omega));have HRD6:Hid (ReadsL (w5.setRow W0.heap.size xs.toArray) (W0.heap.size :: n3 :: w.heap.size :: X) (x.subs.flatMap exprT) xs):=(((hrd.more (k:=W0.heap.size) (Nat.le_refl _)).below hq5).mod (hm6.mono inC));have HXL:Hid (xs.length = x.subs.length * 6):=hrow.1
   have HSZ:Hid (∀ k,k∈W0.heap.size :: n3 :: w.heap.size :: X→k < (w5.setRow W0.heap.size xs.toArray).heap.size):=by
    intro k hk;have h5:(w5.setRow W0.heap.size xs.toArray).heap.size = w5.heap.size:=by simp [World.setRow]
    have:=HC5.out.lt;rw [h5]
    rcases List.mem_cons.1 hk with rfl | hk
    ·exact this
    ·rcases List.mem_cons.1 hk with rfl | hk
     ·omega
     ·rcases List.mem_cons.1 hk with rfl | hk
      ·omega
      ·have:=HXX.out _ hk;omega
   have HNX:Hid (W0.heap.size ∉ X):=fun h => by have:=HXX.out _ h;omega
   go_upto_region 7 with (fail)
   generalize (w5.setRow W0.heap.size xs.toArray) = w6 at *;clear hmk hcp hm6 hw5 y5 yl hrow hne hrd hq5 HC5 HZ5 Gx Go hA HXW x0 x1 x2 x3 x4 x5 xl;generalize W0.heap.size = R at *;have HmR:Hid (n3 < R):=hsW;have Hm1:=lH m1;clear hsW hwW;go_wp2
   go_loopw [9,1] (fun kv iv wr => ∃ (t:Nat) (vs:List Value) (q:Int),t≤x.subs.length∧kv = .int .i64 t∧iv = .int .i64 q∧Hid (q = leftX (confL (x.subs.take t)) j)∧Hid (CBox wr R 66 vs.toArray)∧Hid (ReadsL wr (R :: n3 :: w.heap.size :: X) ((setXL k (x.subs.take t) j ++ x.subs.drop t).flatMap exprT) vs)∧Hid (Mod [R] w6 wr)) (fun kv _ _ => x.subs.length - (intOf kv).toNat)
   case atStart => exact ⟨0,xs,_,Nat.zero_le _,rfl,rfl,by show (j:Int) = leftX (confL (x.subs.take 0)) j;rw [List.take_zero,confL];unfold leftX;rw [if_neg (by omega)];rfl,HC6,by show ReadsL _ _ _ _;rw [List.take_zero,setXL];exact HRD6.out,Mod.refl _ _⟩
   case round =>
    obtain ⟨t,vs,q,htn,rfl,rfl,HQ,HC,HRD,HM⟩:=hrel;clear HC6 HRD6
    by_cases hgo:t < x.subs.length∧confL (x.subs.take t)≤j
    ·obtain ⟨ht,hcj⟩:=hgo
     obtain ⟨y,hy⟩:∃ y,x.subs[t]? = some y:=⟨_,List.getElem?_eq_getElem ht⟩
     have hdr:x.subs.drop t = y :: x.subs.drop (t + 1):=by
      rw [List.drop_eq_getElem_cons ht];rw [List.getElem?_eq_getElem ht] at hy
      injection hy with hy
      rw [hy]
     have hym:=List.mem_of_getElem? hy;have hyn:=nodesN_sub hym;obtain ⟨p,hp⟩:∃ p:Nat,p = j - confL (x.subs.take t):=⟨_,rfl⟩;have hqp:q = (p:Int):=by rw [HQ.out];unfold leftX;rw [if_neg (by omega),← hp]
     subst hqp;have hrd:=HRD.out;rw [setXL_ge k _ _ hcj,hdr] at hrd;obtain ⟨A,C,ya,yc,rfl,hAl,hrA,hrC,hyx⟩:=exprs_split hrd;have hAl:A.length = t * 6:=by rw [hAl,List.length_take,Nat.min_eq_left htn]
     have hsub:=HVX.out.sub hym;have hpI:p≤1000000:=by omega
     have HSW:Hid (∀ k,k∈R :: n3 :: w.heap.size :: X→k < wr.heap.size):=fun k hk => Nat.lt_of_lt_of_le (HSZ.out k hk) HM.out.size;have HCA:=lH (fun w' (h':Bw wr w') => HIH.out y hym p ya yc (R :: n3 :: w.heap.size :: X) w' (fun k hk => Nat.lt_of_lt_of_le (HSW.out k hk) h'.size) (hyx.below h') hsub (by omega) hpI)
     have HTK:Hid (setXL k (x.subs.take (t + 1)) j = x.subs.take t ++ [setX k y p]):=by
      show _ = _
      rw [setXL_next k hy hcj,hp]
     have HLQ:Hid (leftX (confX y) p = leftX (confL (x.subs.take (t + 1))) j):=by
      show _ = _
      rw [(setXL_step k hy j).2,hp];exact left_step hcj
     have hd:decide ((t:Int) < (x.subs.length:Int)) = true:=decide_eq_true (by omega);have hir:(t:Int) < (x.subs.length:Int):=by omega
     have hg:decide ((p:Int) ≥ 0) = true:=decide_eq_true (by omega);have hg2:decide ((0:Int)≤(p:Int)) = true:=decide_eq_true (by omega);have HRA:=lH hrA;have HRC:=lH hrC;have HAL:=lH hAl;obtain ⟨mc0,mc1,mc2,mc3,mc4,mc5⟩:=row_cells HC.out hAl;have ml:=HC.out.lt;generalize setX k y p = z at *;generalize leftX (confX y) p = l2 at *;clear hy hdr hym hyn hp HQ HRD hrd hcj hsub hpI hrA hrC hyx hAl;go_wp2_with (fail)
     refine (HCA.out _ (qrefl _)).mono ?_;rintro e v1 ⟨za,zc,rfl,hzx,hqv⟩;unfold exV;clear mc0 mc1 mc2 mc3 mc4 mc5 ml HCA;have HC1:=lH (HC.out.below hqv);have HMv:Hid (Mod [R] w6 v1):=HM.out.trans (Mod.of hqv);have HRA1:=lH (HRA.out.below hqv);have HRC1:=lH (HRC.out.below hqv);have HZX:=lH hzx;obtain ⟨mc0,mc1,mc2,mc3,mc4,mc5⟩:=row_cells HC1.out HAL.out;have mf0:=HC1.out.frozen (t * 6);have mf1:=HC1.out.frozen (t * 6 + 1);have mf2:=HC1.out.frozen (t * 6 + 2);have mf3:=HC1.out.frozen (t * 6 + 3);have mf4:=HC1.out.frozen (t * 6 + 4)
     have mf5:=HC1.out.frozen (t * 6 + 5);have ml:=HC1.out.lt;clear hzx HRA HRC;go_upto_region 9 with (fail)
     have HC2:=lH (row_put HC1.out HAL.out (.int .i64 z.kind) (.string z.name) (.string z.more) (.int .i64 z.num) (.int .i64 z.den) (.slice za z.subs.length zc));have HM2:=lH (mod_six v1 R (t * 6) (.int .i64 z.kind) (.string z.name) (.string z.more) (.int .i64 z.num) (.int .i64 z.den) (.slice za z.subs.length zc));generalize World.setCell _ ⟨R,t * 6 + 5,none⟩ _ = v2 at *;clear mc0 mc1 mc2 mc3 mc4 mc5 mf0 mf1 mf2 mf3 mf4 mf5 ml;have HMN:Hid (Mod [R] w6 v2):=HMv.out.trans HM2.out
     have HRN:Hid (ReadsL v2 (R :: n3 :: w.heap.size :: X) ((setXL k (x.subs.take (t + 1)) j ++ x.subs.drop (t + 1)).flatMap exprT) (A ++ (.int .i64 z.kind :: .string z.name :: .string z.more :: .int .i64 z.num :: .int .i64 z.den :: .slice za z.subs.length zc :: C))):=by
      show ReadsL _ _ _ _
      have hmm:Mod (R :: n3 :: w.heap.size :: X) v1 v2:=HM2.out.mono (by intro k hk;rw [List.mem_singleton.1 hk];exact List.mem_cons_self ..);rw [HTK.out,List.append_assoc];exact exprs_put (HRA1.out.mod hmm) (HRC1.out.mod hmm) (HZX.out.subs.mod hmm)
     clear HTK HRA1 HRC1 HZX HM2 HMv HC HM HC1 HAL HSW hqv hg hg2 hd;go_wp2;go_roundw
     case rel => exact ⟨t + 1,_,l2,by omega,by go_num,rfl,HLQ,HC2,HRN,HMN⟩
     case measure => simp [intOf];omega
    ·have HEX:q = leftX (confL x.subs) j∧setXL k (x.subs.take t) j ++ x.subs.drop t = setXL k x.subs j:=by
      have hap:x.subs.take t ++ x.subs.drop t = x.subs:=List.take_append_drop _ _;have hcl:confL x.subs = confL (x.subs.take t) + confL (x.subs.drop t):=by rw [← confL_append,hap]
      by_cases h1:t < x.subs.length
      ·have h2:j < confL (x.subs.take t):=Nat.lt_of_not_le (fun h => hgo ⟨h1,h⟩)
       refine ⟨?_,?_⟩
       ·rw [HQ.out];unfold leftX;rw [if_pos h2,if_pos (by omega)]
       ·rw [← setXL_left k _ _ _ h2,hap]
      ·have h2:t = x.subs.length:=by omega
       refine ⟨by rw [HQ.out,h2,List.take_length],by rw [h2,List.take_length,List.drop_length,List.append_nil]⟩
     obtain ⟨hq9,hs9⟩:=HEX
     have hstop:t < x.subs.length→q < 0:=fun h1 => by
      have h2:j < confL (x.subs.take t):=Nat.lt_of_not_le (fun h => hgo ⟨h1,h⟩);rw [HQ.out];unfold leftX;rw [if_pos h2];omega
     have hrd:=HRD.out;rw [hs9] at hrd;have HRR:=lH hrd;have HQ9:=lH hq9
     have HVL:Hid (vs.length = x.subs.length * 6):=by
      show _ = _
      rw [hrd.len,exprs_len,setXL_len]
     clear hq9 hs9 hrd HRD HQ hgo HIH
     rcases Nat.lt_or_ge t x.subs.length with ht | ht
     case' inl =>
      have hd:decide ((t:Int) < (x.subs.length:Int)) = true:=decide_eq_true (by omega);have hir:(t:Int) < (x.subs.length:Int):=by omega
      have hqn:=hstop ht;have hg:decide (q ≥ 0) = false:=decide_eq_false (by omega);clear hstop;go_upto_region 11 with (fail)
      clear hd hir hqn hg
     case' inr =>
      have hd:decide ((t:Int) < (x.subs.length:Int)) = false:=decide_eq_false (by omega);have hir:¬ (t:Int) < (x.subs.length:Int):=by omega
      clear hstop;go_upto_region 11 with (fail)
      clear hd hir
     all_goals (
      have HGr:=lH (HGX.out.mod HM.out (by have:=HmR.out;have:=Hm1.out;simp;omega));have HOr:=lH (HGO.out.mod HM.out (by have:=HmR.out;simp;omega));have g5:=HGr.out.cell (i:=5) (v:=.slice a x.subs.length c) rfl;have g5f:=HGr.out.frozen 5;have gl:=HGr.out.lt;go_upto_region 12 with (fail)
      clear g5 g5f gl;have HGE:=lH (HGr.out.set 5 (.slice (some ⟨R,0,none⟩) x.subs.length x.subs.length));have HME:Hid (Mod [w.heap.size] wr (wr.setCell ⟨w.heap.size,5,none⟩ (.slice (some ⟨R,0,none⟩) x.subs.length x.subs.length))):=(Mod.refl [w.heap.size] wr).setCell (p:=⟨w.heap.size,5,none⟩) (by simp) _;generalize World.setCell _ ⟨w.heap.size,5,none⟩ _ = wE at *;have HGE:Hid (CBox wE w.heap.size 66 #[.int .i64 x.kind,.string x.name,.string x.more,.int .i64 x.num,.int .i64 x.den,.slice (some ⟨R,0,none⟩) x.subs.length x.subs.length]):=HGE.out
      have HOE:=lH (HOr.out.mod HME.out (by have:=Hm1.out;simp;omega));obtain ⟨e0,e1,e2,e3,e4,e5,el⟩:=cells6 HGE.out;obtain ⟨o0,o1,o2,o3,o4,o5,ol⟩:=cells6 HOE.out;obtain ⟨fo0,fo1,fo2,fo3,fo4,fo5⟩:=frozen6 HOE.out;go_wp2;clear e0 e1 e2 e3 e4 e5 el o0 o1 o2 o3 o4 o5 fo0 fo1 fo2 fo3 fo4 fo5 ol;obtain ⟨HC9,HM9⟩:=CBox.six (HOE.out) (.int .i64 x.kind) (.string x.name) (.string x.more) (.int .i64 x.num) (.int .i64 x.den) (.slice (some ⟨R,0,none⟩) x.subs.length x.subs.length);generalize World.setCell _ ⟨n3,5,none⟩ _ = W9 at *
      obtain ⟨r0,r1,r2,r3,r4,r5,-⟩:=cells6 HC9;refine bodyPost_ret (by simp [results,Tryz.results188,go_sem,r0,r1,r2,r3,r4,r5];try rfl) rfl ?_;have hdr:Bw w wr:=HW6.out.trans (HM.out.upto HW6.out.size (by intro k hk;simp at hk;have:=HmR.out;have:=Hm1.out;omega));have hde:Bw w wE:=hdr.trans (HME.out.upto hdr.size (by intro k hk;simp at hk;omega));have hd9:Bw w W9:=hde.trans (HM9.upto hde.size (by intro k hk;simp at hk;have:=Hm1.out;omega))
      have hcR:CBox W9 R 66 vs.toArray:=(HC.out.mod HME.out (by have:=HmR.out;have:=Hm1.out;simp;omega)).mod HM9 (by have:=HmR.out;simp;omega)
      have hrR:ReadsL W9 X ((setXL k x.subs j).flatMap exprT) vs:=((HRR.out.mod (HME.out.mono (fun k hk => by rw [List.mem_singleton.1 hk];exact List.mem_cons_of_mem _ (List.mem_cons_of_mem _ (List.mem_cons_self ..))))).mod (HM9.mono (fun k hk => by rw [List.mem_singleton.1 hk];exact List.mem_cons_of_mem _ (List.mem_cons_self ..)))).fewer (fun k hk => List.mem_cons_of_mem _ (List.mem_cons_of_mem _ (List.mem_cons_of_mem _ hk)));have hlen:=setXL_len k x.subs j
      have hF9:Reads W9 X (subsT (setXL k x.subs j)) (.slice (some ⟨R,0,none⟩) (setXL k x.subs j).length x.subs.length):=by
       refine Reads.ofRow (f:=exprT) (l:=setXL k x.subs j) (xs:=vs) ⟨by rw [hlen];exact HVL.out,some ⟨R,0,none⟩,x.subs.length,rfl,by omega,by unfold maxLen;omega,fun _ => ⟨R,0,rfl,hcR.lt,fun j u hj => ?_⟩⟩ (fun _ k hk => by cases hk;exact HNX.out) hrR;rw [Nat.zero_add];exact hcR.cell (by rw [List.getElem?_toArray];exact hj)
      have e1:T = _:=hT.out;have e2:L = q:=by rw [hL.out,HQ9.out]
      clear hT hL HQ9;subst e1 e2;refine ⟨some ⟨R,0,none⟩,x.subs.length,?_,⟨hF9,Nat.le_of_eq hlen,by omega⟩,hd9⟩;show Ending.returned (.tuple #[.agg #[.int .i64 x.kind,.string x.name,.string x.more,.int .i64 x.num,.int .i64 x.den,.slice (some ⟨R,0,none⟩) x.subs.length x.subs.length],_]) = Ending.returned (.tuple #[.agg #[.int .i64 x.kind,.string x.name,.string x.more,.int .i64 x.num,.int .i64 x.den,.slice (some ⟨R,0,none⟩) (setXL k x.subs j).length x.subs.length],_])
      rw [hlen]))
end Go.Proofs.YtdpnfkjafhbndaaGreatDoor
namespace Go.Proofs.YtdpnfkjafhbndaaGreatDoor
open Go.RowKit Go.Shelf
attribute [local go_sem] Oper.semAt_some
def setErr (x:Ex) (i s:Int):Int:=if exprErr x≠0 then exprErr x else if s < 0∨2 < s∨i < 0∨(confX x:Int)≤i then 2 else 0
def setOut (x:Ex) (i s:Int):Ex:=if setErr x i s = 0 then setX s.toNat x i.toNat else noX
structure SettledX (x:Ex) (i s:Int) (X:List Nat) (w:World) (e:Ending) (w':World):Prop where
 of ::
 out:∃ a c,e = .returned (.tuple #[exV (setOut x i s) a c,.int .i64 (setErr x i s)])∧ExIn w' X (setOut x i s) a c∧Bw w w'
set_option maxRecDepth 100000 in
set_option maxHeartbeats 16000000 in
theorem xSettle_any (x:Ex) (i s:Int) (a:Option Addr) (c:Nat) (X:List Nat) (w:World) (hX:∀ k,k∈X→k < w.heap.size) (hx:ExIn w X x a c) (sx:SmX 40000 x) (hN:nodesN x≤1000000) :
  Calls Tryz.prog 133 #[exV x a c,.int .i64 i,.int .i64 s] w (SettledX x i s X w):=by
 have HXX:=lH hX;have HXI:=lH hx;have HCK:=lH (fun W (h:Bw w W) => CheckExpr_any x a c W (hx.below h).subs.free hx.h1 hx.h2 sx (by omega));have HCO:=lH (fun W (h:Bw w W) => xConflicts_any x a c W (hx.below h).subs.free (by omega));have HER:Hid (setErr x i s = if exprErr x≠0 then exprErr x else if s < 0∨2 < s∨i < 0∨(confX x:Int)≤i then 2 else 0):=rfl;have HOU:Hid (setOut x i s = if setErr x i s = 0 then setX s.toNat x i.toNat else noX):=rfl
 have HSO:=lH (fun (W:World) (n3:Nat) (h0:exprErr x = 0) (hs:0≤s∧s≤2) (hi:0≤i∧i < (confX x:Int)) (h:Bw w W) (hn:w.heap.size≤n3) (hn3:n3 < W.heap.size) => (show Calls Tryz.prog 188 #[exV x a c,.int .i64 i,.int .i64 s] W (SetOne (setX s.toNat x i.toNat) (leftX (confX x) i.toNat) (n3 :: w.heap.size :: X) W) by
  have h1:=settleOne_any s.toNat (by omega) x i.toNat a c (n3 :: w.heap.size :: X) W (fun k hk => by
   rcases List.mem_cons.1 hk with rfl | hk
   ·exact hn3
   ·rcases List.mem_cons.1 hk with rfl | hk
    ·omega
    ·exact Nat.lt_of_lt_of_le (hX k hk) h.size) (((hx.more (k:=w.heap.size) (Nat.le_refl _)).more (k:=n3) hn).below h) (exprErr_val h0) hN (by have:=conf_nodes x;omega)
  rwa [show ((i.toNat:Nat):Int) = i by omega,show ((s.toNat:Nat):Int) = s by omega] at h1))
 clear hX hx sx;have gx:CBox ((w.alloc (.cells #[.int .i64 x.kind,.string x.name,.string x.more,.int .i64 x.num,.int .i64 x.den,.slice a x.subs.length c] 66)).alloc (.cells #[.int .i64 0,.string ⟨#[]⟩,.string ⟨#[]⟩,.int .i64 0,.int .i64 0,.slice none 0 0] 66)) w.heap.size 66 #[.int .i64 x.kind,.string x.name,.string x.more,.int .i64 x.num,.int .i64 x.den,.slice a x.subs.length c]:=(CBox.new w 66 _).alloc _
 have go:=CBox.new (w.alloc (.cells #[.int .i64 x.kind,.string x.name,.string x.more,.int .i64 x.num,.int .i64 x.den,.slice a x.subs.length c] 66)) 66 #[.int .i64 0,.string ⟨#[]⟩,.string ⟨#[]⟩,.int .i64 0,.int .i64 0,.slice none 0 0];rw [World.size_alloc] at go;have hA:Bw w ((w.alloc (.cells #[.int .i64 x.kind,.string x.name,.string x.more,.int .i64 x.num,.int .i64 x.den,.slice a x.subs.length c] 66)).alloc (.cells #[.int .i64 0,.string ⟨#[]⟩,.string ⟨#[]⟩,.int .i64 0,.int .i64 0,.slice none 0 0] 66)):=qtrans (qalloc _ _) (qalloc _ _)
 have hs4:((w.alloc (.cells #[.int .i64 x.kind,.string x.name,.string x.more,.int .i64 x.num,.int .i64 x.den,.slice a x.subs.length c] 66)).alloc (.cells #[.int .i64 0,.string ⟨#[]⟩,.string ⟨#[]⟩,.int .i64 0,.int .i64 0,.slice none 0 0] 66)).heap.size = w.heap.size + 1 + 1:=by simp only [World.size_alloc]
 unfold exV at HCK HCO HSO ⊢
 go_enter Tryz.func133,Tryz.ntmps133
 go_upto_region 1 with (fail)
 generalize ((w.alloc (.cells #[.int .i64 x.kind,.string x.name,.string x.more,.int .i64 x.num,.int .i64 x.den,.slice a x.subs.length c] 66)).alloc (.cells #[.int .i64 0,.string ⟨#[]⟩,.string ⟨#[]⟩,.int .i64 0,.int .i64 0,.slice none 0 0] 66)) = W0 at *;generalize hn3:w.heap.size + 1 = n3 at *;have m1:w.heap.size < n3:=by omega
 have hsW:n3 < W0.heap.size:=by omega
 clear hn3 hs4;have Gx:=lH gx;have Go:=lH go;clear gx go;obtain ⟨x0,x1,x2,x3,x4,x5,xl⟩:=cells6 Gx.out;go_wp2_with (fail)
 refine (HCK.out W0 hA).mono ?_;rintro e w1 ⟨rfl,hb1⟩;clear x0 x1 x2 x3 x4 x5 xl HCK;have hw1:=qtrans hA hb1;obtain ⟨q,hq⟩:∃ q,exprErr x = q:=⟨_,rfl⟩;rw [hq]
 by_cases hq0:q = 0
 case neg =>
  have HE:Hid (setErr x i s = q):=by show _ = _;rw [HER.out,hq,if_pos hq0]
  have HO:Hid (setOut x i s = noX):=by show _ = _;rw [HOU.out,HE.out,if_neg hq0]
  have hq3:(q != 0) = true:=by simpa using hq0
  clear hq hq0 HER HOU HSO HCO;obtain ⟨o0,o1,o2,o3,o4,o5,ol⟩:=cells6 (Go.out.below hb1);obtain ⟨fo0,fo1,fo2,fo3,fo4,fo5⟩:=frozen6 (Go.out.below hb1);go_wp2;clear o0 o1 o2 o3 o4 o5 fo0 fo1 fo2 fo3 fo4 fo5 ol;obtain ⟨HC9,HM9⟩:=CBox.six (Go.out.below hb1) (.int .i64 0) (.string ⟨#[]⟩) (.string ⟨#[]⟩) (.int .i64 0) (.int .i64 0) (.slice none 0 0);generalize World.setCell _ ⟨n3,5,none⟩ _ = W9 at *;obtain ⟨r0,r1,r2,r3,r4,r5,-⟩:=cells6 HC9;refine bodyPost_ret (by simp [results,Tryz.results133,go_sem,r0,r1,r2,r3,r4,r5];try rfl) rfl ?_
  have hd9:Bw w W9:=hw1.trans (HM9.upto hw1.size (by intro k hk;simp at hk;omega));exact ⟨none,0,by rw [HE.out,HO.out];rfl,by rw [HO.out];exact noX_in _ _,hd9⟩
 case pos =>
  have hq3:(q != 0) = false:=by simpa using hq0
  have HQ:Hid (exprErr x = 0):=hq.trans hq0;have HER2:Hid (setErr x i s = if s < 0∨2 < s∨i < 0∨(confX x:Int)≤i then 2 else 0):=by show _ = _;rw [HER.out,if_neg (fun h => h HQ.out)]
  clear hq hq0 HER
  rcases (by omega:s < 0∨(¬ s < 0∧2 < s)∨(¬ s < 0∧¬ 2 < s∧i < 0)∨(¬ s < 0∧¬ 2 < s∧¬ i < 0)) with h1 | ⟨h1,h2⟩ | ⟨h1,h2,h3⟩ | ⟨h1,h2,h3⟩
  case' inl =>
   have HE:Hid (setErr x i s = 2):=by show _ = _;rw [HER2.out,if_pos (.inl h1)]
   have d1:decide (s < 0) = true:=decide_eq_true h1;go_upto_region 5 with (fail)
   clear d1 h1
  case' inr.inl =>
   have HE:Hid (setErr x i s = 2):=by show _ = _;rw [HER2.out,if_pos (.inr (.inl h2))]
   have d1:decide (s < 0) = false:=decide_eq_false h1;have d2:decide (s > 2) = true:=decide_eq_true h2;go_upto_region 5 with (fail)
   clear d1 d2 h1 h2
  case' inr.inr.inl =>
   have HE:Hid (setErr x i s = 2):=by show _ = _;rw [HER2.out,if_pos (.inr (.inr (.inl h3)))]
   have d1:decide (s < 0) = false:=decide_eq_false h1;have d2:decide (s > 2) = false:=decide_eq_false h2;have d3:decide (i < 0) = true:=decide_eq_true h3;go_upto_region 5 with (fail)
   clear d1 d2 d3 h1 h2 h3
  case' inr.inr.inr =>
   have d1:decide (s < 0) = false:=decide_eq_false h1;have d2:decide (s > 2) = false:=decide_eq_false h2;have d3:decide (i < 0) = false:=decide_eq_false h3;obtain ⟨x0,x1,x2,x3,x4,x5,xl⟩:=cells6 (Gx.out.below hb1);go_wp2_with (fail)
   refine (HCO.out w1 hw1).mono ?_;rintro e w2 ⟨rfl,hb2⟩;clear x0 x1 x2 x3 x4 x5 xl d1 d2 d3;have hb1:=qtrans hb1 hb2;have hw1:=qtrans hA hb1
   by_cases h4:(confX x:Int)≤i
   case' pos =>
    have HE:Hid (setErr x i s = 2):=by show _ = _;rw [HER2.out,if_pos (.inr (.inr (.inr h4)))]
    have d4:decide (i ≥ (confX x:Int)) = true:=decide_eq_true h4;go_upto_region 5 with (fail)
    clear d4 h1 h2 h3 h4 hb2;generalize w2 = w1 at *
   case neg =>
    have HE:Hid (setErr x i s = 0):=by show _ = _;rw [HER2.out,if_neg (by omega)]
    have HO:Hid (setOut x i s = setX s.toNat x i.toNat):=by show _ = _;rw [HOU.out,HE.out,if_pos rfl]
    have d4:decide (i ≥ (confX x:Int)) = false:=decide_eq_false h4;have HS2:=lH (HSO.out w2 n3 HQ.out (by omega) (by omega) hw1 (by omega) (by have:=hb1.size;omega));clear HSO HER2 HOU HCO h1 h2 h3 h4 hb2 HQ hq3;generalize setX s.toNat x i.toNat = z at *;obtain ⟨x0,x1,x2,x3,x4,x5,xl⟩:=cells6 (Gx.out.below hb1);go_wp2_with (fail)
    refine HS2.out.mono ?_;rintro e w3 ⟨za,zc,rfl,hzx,hb3⟩;unfold exV;clear x0 x1 x2 x3 x4 x5 xl d4 HS2;have hb3:=qtrans hb1 hb3;have HZX:=lH hzx;have hw3:=qtrans hA hb3;clear hzx hb1 hw1;obtain ⟨x0,x1,x2,x3,x4,x5,xl⟩:=cells6 (Gx.out.below hb3);obtain ⟨fx0,fx1,fx2,fx3,fx4,fx5⟩:=frozen6 (Gx.out.below hb3);go_upto_region 7 with (fail)
    clear x0 x1 x2 x3 x4 x5 fx0 fx1 fx2 fx3 fx4 fx5 xl;obtain ⟨HC4,HM4⟩:=CBox.six (Gx.out.below hb3) (.int .i64 z.kind) (.string z.name) (.string z.more) (.int .i64 z.num) (.int .i64 z.den) (.slice za z.subs.length zc);generalize World.setCell _ ⟨w.heap.size,5,none⟩ _ = w4 at *;have HOB:=lH ((Go.out.below hb3).mod HM4 (by simp;omega));have HC5:=lH HC4;have hw4:Bw w w4:=hw3.trans (HM4.upto hw3.size (by intro k hk;simp at hk;omega))
    have HZ4:=lH (HZX.out.mod (HM4.mono (fun k hk => by rw [List.mem_singleton.1 hk];exact List.mem_cons_of_mem _ (List.mem_cons_self ..))));clear HC4 HM4 HZX;obtain ⟨e0,e1,e2,e3,e4,e5,el⟩:=cells6 HC5.out;obtain ⟨o0,o1,o2,o3,o4,o5,ol⟩:=cells6 HOB.out;obtain ⟨fo0,fo1,fo2,fo3,fo4,fo5⟩:=frozen6 HOB.out;go_wp2;clear e0 e1 e2 e3 e4 e5 el o0 o1 o2 o3 o4 o5 fo0 fo1 fo2 fo3 fo4 fo5 ol;obtain ⟨HC9,HM9⟩:=CBox.six (HOB.out) (.int .i64 z.kind) (.string z.name) (.string z.more) (.int .i64 z.num) (.int .i64 z.den) (.slice za z.subs.length zc)
    generalize World.setCell _ ⟨n3,5,none⟩ _ = W9 at *;obtain ⟨r0,r1,r2,r3,r4,r5,-⟩:=cells6 HC9;refine bodyPost_ret (by simp [results,Tryz.results133,go_sem,r0,r1,r2,r3,r4,r5];try rfl) rfl ?_;have hd9:Bw w W9:=hw4.trans (HM9.upto hw4.size (by intro k hk;simp at hk;omega));exact ⟨za,zc,by rw [HE.out,HO.out];rfl,by rw [HO.out];exact (HZ4.out.mod (HM9.mono inC)).fewer (fun k hk => List.mem_cons_of_mem _ (List.mem_cons_of_mem _ hk)),hd9⟩
  all_goals (
   have HO:Hid (setOut x i s = noX):=by show _ = _;rw [HOU.out,HE.out,if_neg (by decide)]
   clear HOU HSO HCO HER2 HQ hq3;obtain ⟨o0,o1,o2,o3,o4,o5,ol⟩:=cells6 (Go.out.below hb1);obtain ⟨fo0,fo1,fo2,fo3,fo4,fo5⟩:=frozen6 (Go.out.below hb1);go_wp2;clear o0 o1 o2 o3 o4 o5 fo0 fo1 fo2 fo3 fo4 fo5 ol;obtain ⟨HC9,HM9⟩:=CBox.six (Go.out.below hb1) (.int .i64 0) (.string ⟨#[]⟩) (.string ⟨#[]⟩) (.int .i64 0) (.int .i64 0) (.slice none 0 0);generalize World.setCell _ ⟨n3,5,none⟩ _ = W9 at *;obtain ⟨r0,r1,r2,r3,r4,r5,-⟩:=cells6 HC9;refine bodyPost_ret (by simp [results,Tryz.results133,go_sem,r0,r1,r2,r3,r4,r5];try rfl) rfl ?_
   have hd9:Bw w W9:=hw1.trans (HM9.upto hw1.size (by intro k hk;simp at hk;omega))
   exact ⟨none,0,by rw [HE.out,HO.out];rfl,by rw [HO.out];exact noX_in _ _,hd9⟩)
end Go.Proofs.YtdpnfkjafhbndaaGreatDoor

