/- Expressions, declarations, modules and edits, plainly: what the chapters 21, 24 and 34 say of them. No program in sight. Expressions, declarations, modules and edits in memory. -/
import Derived.Test.YtdpnfkjafhbndaaGreatDoorRG2
namespace Go.Proofs.YtdpnfkjafhbndaaGreatDoor
inductive Ex where
 | mk (kind:Int) (name more:ByteArray) (num den:Int) (subs:List Ex)
def Ex.kind:Ex→Int | .mk k _ _ _ _ _ => k
def Ex.name:Ex→ByteArray | .mk _ n _ _ _ _ => n
def Ex.more:Ex→ByteArray | .mk _ _ m _ _ _ => m
def Ex.num:Ex→Int | .mk _ _ _ i _ _ => i
def Ex.den:Ex→Int | .mk _ _ _ _ d _ => d
def Ex.subs:Ex→List Ex | .mk _ _ _ _ _ s => s
theorem Ex.ind {P:Ex→Prop} (h:∀ x:Ex,(∀ y∈x.subs,P y)→P x) (x:Ex):P x:=
 Ex.rec (motive_1:=P) (motive_2:=fun l => ∀ y∈l,P y) (fun k n m i d s ih => h (.mk k n m i d s) ih) (fun y hy => by cases hy)
  (fun a l ha hl y hy => by rcases List.mem_cons.1 hy with rfl | hy;exact ha;exact hl y hy) x
mutual
def nodesN:Ex→Nat
 | .mk _ _ _ _ _ s => 1 + nodesL s
def nodesL:List Ex→Nat
 | [] => 0
 | x :: r => nodesN x + nodesL r
end
mutual
def depthN:Ex→Nat
 | .mk _ _ _ _ _ s => depthL s + 1
def depthL:List Ex→Nat
 | [] => 0
 | x :: r => max (depthN x) (depthL r)
end
theorem nodesN_eq (x:Ex):nodesN x = 1 + nodesL x.subs:=by cases x;rw [nodesN];rfl
theorem depthN_eq (x:Ex):depthN x = depthL x.subs + 1:=by cases x;rw [depthN];rfl
theorem nodesL_app (a b:List Ex):nodesL (a ++ b) = nodesL a + nodesL b:=by
 induction a with
 | nil => simp [nodesL]
 | cons x r ih => rw [List.cons_append,nodesL,nodesL,ih];omega
theorem nodesN_pos (x:Ex):1≤nodesN x:=by rw [nodesN_eq];omega
theorem nodesL_mem {x:Ex} {l:List Ex} (h:x∈l):nodesN x≤nodesL l:=by
 induction l with
 | nil => cases h
 | cons y r ih =>
  rw [nodesL]
  rcases List.mem_cons.1 h with rfl | h
  ·omega
  ·have:=ih h;omega
theorem nodesL_len (l:List Ex):l.length≤nodesL l:=by
 induction l with
 | nil => exact Nat.zero_le _
 | cons y r ih => rw [nodesL,List.length_cons];have:=nodesN_pos y;omega
mutual
def preN:Ex→Nat→List (Nat × Ex)
 | .mk k n m i e s,d => (d,.mk k n m i e s) :: preL s (d + 1)
def preL:List Ex→Nat→List (Nat × Ex)
 | [],_ => []
 | x :: r,d => preN x d ++ preL r d
end
theorem preN_eq (x:Ex) (d:Nat):preN x d = (d,x) :: preL x.subs (d + 1):=by cases x;rw [preN];rfl
theorem pre_len:∀ (x:Ex) (d:Nat),(preN x d).length = nodesN x:=by
 intro x;refine Ex.ind (P:=fun x => ∀ d,(preN x d).length = nodesN x) (fun x ih d => ?_) x;rw [preN_eq,nodesN_eq,List.length_cons]
 have:∀ (l:List Ex),(∀ y∈l,∀ d,(preN y d).length = nodesN y)→∀ d,(preL l d).length = nodesL l:=by
  intro l
  induction l with
  | nil => intro _ d;rfl
  | cons y r ihr =>
   intro h d;rw [preL,nodesL,List.length_append,h y (List.mem_cons_self ..),ihr (fun z hz => h z (List.mem_cons_of_mem _ hz))]
 rw [this _ ih];omega
def resL:List (List UInt8):=[[99,97,115,101],[99,104,97,110,99,101],[99,111,110,102,108,105,99,116],[101,108,115,101],[102,97,108,115,101],[102,108,97,107,121],[102,117,110],[105,102],[105,110],
 [108,101,116],[110,105,108],[111,102],[112,117,98],[116,101,115,116],[116,104,101,110],[116,114,117,101],[117,115,101]]
def resB (s:ByteArray):Bool:=resL.any fun l => s.data.toList == l
def nmS (s:ByteArray):Bool:=wordS 24 s && !(resB s)
def isE (s:ByteArray):Bool:=s.data.toList == []
def opB (s:ByteArray):Bool:=s.data.toList == [43] || s.data.toList == [45] || s.data.toList == [42] || s.data.toList == [61] || s.data.toList == [60]
def shapeK (k:Int):Option (Nat × Nat × Nat):=
  if k = 1 then some (0,1,0) else if k = 2 then some (0,1,0) else if k = 3 then some (1,0,0) else if k = 4 then some (2,0,0) else if k = 5 then some (1,1,0)
  else if k = 6 then some (1,0,1) else if k = 7 then some (0,0,2) else if k = 8 then some (1,0,2) else if k = 9 then some (0,0,3) else if k = 10 then some (1,0,2)
  else if k = 11 then some (0,0,0) else if k = 12 then some (0,0,2) else if k = 13 then some (2,0,3) else if k = 14 then some (0,2,0) else if k = 15 then some (0,0,3) else none
def namesOk (x:Ex) (a:Nat):Bool:=
 (if x.kind = 5 then isE x.name || labelS x.name else if x.kind = 10 then opB x.name else decide (a < 1) || nmS x.name) && (!(decide (a = 2)) || nmS x.more)
def numsOk (x:Ex):Bool:=
 if x.kind = 1 then decide (-999999999≤x.num) && decide (x.num≤999999999) else if x.kind = 2 then x.num == 0 || x.num == 1
 else if x.kind = 5 then decide (1≤x.num) && decide (x.num≤999999) else if x.kind = 14 then decide (1≤x.den) && decide (x.den≤999999) && decide (0≤x.num) && decide (x.num≤x.den) else true
def argBad (x:Ex) (a b c:Nat):Bool:=(decide (a < 1) && !(isE x.name)) || (decide (a < 2) && !(isE x.more)) || (decide (b < 1) && x.num != 0) || (decide (b < 2) && x.den != 0) || x.subs.length != c
def nodeErr (x:Ex):Int:=
 match shapeK x.kind with
 | none => 9
 | some (a,b,c) => if argBad x a b c then 1 else if !(namesOk x a) then 6 else if x.kind = 13∧x.name.data.toList = x.more.data.toList then 7 else if numsOk x then 0 else 2
def firstE:List Ex→Int
  | [] => 0
  | x :: r => if nodeErr x = 0 then firstE r else nodeErr x
theorem firstE_app (a b:List Ex):firstE (a ++ b) = if firstE a = 0 then firstE b else firstE a:=by
 induction a with
 | nil => simp [firstE]
 | cons x r ih =>
  rw [List.cons_append,firstE,firstE,ih]
  by_cases h:nodeErr x = 0
  ·simp [h]
  ·simp [h]
def exprErr (x:Ex):Int:=if 400 < nodesN x∨40 < depthN x then 4 else firstE ((preN x 1).map (·.2))
def memS' (s:ByteArray) (l:List ByteArray):Bool:=l.any fun t => s.data.toList == t.data.toList
def boundAt (x:Ex) (i:Nat):List ByteArray:=if x.kind = 6 then [x.name] else if x.kind = 8∧i = 1 then [x.name] else if x.kind = 13∧i = 2 then [x.name,x.more] else []
mutual
def freeN:Ex→List ByteArray→List ByteArray
 | .mk k n m _ _ s,bd => if k = 3 then (if memS' n bd then [] else [n]) else freeL s k n m 0 bd
def freeL:List Ex→Int→ByteArray→ByteArray→Nat→List ByteArray→List ByteArray
 | [],_,_,_,_,_ => []
 | x :: r,k,n,m,j,bd => freeN x (bd ++ boundAt (.mk k n m 0 0 []) j) ++ freeL r k n m (j + 1) bd
end
end Go.Proofs.YtdpnfkjafhbndaaGreatDoor
namespace Go.Proofs.YtdpnfkjafhbndaaGreatDoor
open Go.RowKit
def inI (n:Int):Prop:=-9223372036854775808≤n∧n≤9223372036854775807
inductive SmX (B:Nat):Ex→Prop
  | mk {k:Int} {n m:ByteArray} {i d:Int} {s:List Ex}:n.size≤B→m.size≤B→inI k→inI i→inI d→(∀ y∈s,SmX B y)→SmX B (.mk k n m i d s)
theorem SmX.name {B:Nat} {x:Ex} (h:SmX B x):x.name.size≤B:=by cases h;assumption
theorem SmX.more {B:Nat} {x:Ex} (h:SmX B x):x.more.size≤B:=by cases h;assumption
theorem SmX.kind {B:Nat} {x:Ex} (h:SmX B x):inI x.kind:=by cases h;assumption
theorem SmX.num {B:Nat} {x:Ex} (h:SmX B x):inI x.num:=by cases h;assumption
theorem SmX.den {B:Nat} {x:Ex} (h:SmX B x):inI x.den:=by cases h;assumption
theorem SmX.subs {B:Nat} {x:Ex} (h:SmX B x):∀ y∈x.subs,SmX B y:=by cases h;assumption
theorem SmX.mono {B C:Nat} (hBC:B≤C) {x:Ex} (h:SmX B x):SmX C x:=by
 induction h with
 | mk h1 h2 h3 h4 h5 _ ih => exact .mk (by omega) (by omega) h3 h4 h5 ih
mutual
def exprT:Ex→List Tree
 | .mk k n m i d s => [.leaf (.int .i64 k),strT n,strT m,.leaf (.int .i64 i),.leaf (.int .i64 d),.row 6 s.length (exprsT s)]
def exprsT:List Ex→List Tree
 | [] => []
 | x :: r => exprT x ++ exprsT r
end
theorem exprsT_eq (s:List Ex):exprsT s = s.flatMap exprT:=by
 induction s with
 | nil => rfl
 | cons x r ih => rw [exprsT,ih];rfl
def subsT (s:List Ex):Tree:=rowT 6 exprT s
theorem exprT_eq (x:Ex):exprT x = [.leaf (.int .i64 x.kind),strT x.name,strT x.more,.leaf (.int .i64 x.num),.leaf (.int .i64 x.den),subsT x.subs]:=by
 cases x;rw [exprT,exprsT_eq];rfl
theorem exprT_len (x:Ex):(exprT x).length = 6:=by rw [exprT_eq];rfl
def exV (x:Ex) (a:Option Addr) (c:Nat):Value:=.agg #[.int .i64 x.kind,.string x.name,.string x.more,.int .i64 x.num,.int .i64 x.den,.slice a x.subs.length c]
theorem subs_val {w:World} {X:List Nat} {l:List Ex} {v:Value} (h:Reads w X (subsT l) v):∃ (a:Option Addr) (cap:Nat),v = .slice a l.length cap∧l.length≤cap∧cap≤9223372036854775807:=h.val
theorem expr_cells {w:World} {X:List Nat} {x:Ex} {cs:List Value} (h:ReadsL w X (exprT x) cs) :
  ∃ (a:Option Addr) (c:Nat),cs = [.int .i64 x.kind,.string x.name,.string x.more,.int .i64 x.num,.int .i64 x.den,.slice a x.subs.length c]∧x.subs.length≤c∧c≤9223372036854775807∧Reads w X (subsT x.subs) (.slice a x.subs.length c):=by
 rw [exprT_eq] at h;obtain ⟨x0,r0,rfl,h0,h⟩:=h.inv;obtain ⟨x1,r1,rfl,h1,h⟩:=h.inv;obtain ⟨x2,r2,rfl,h2,h⟩:=h.inv;obtain ⟨x3,r3,rfl,h3,h⟩:=h.inv;obtain ⟨x4,r4,rfl,h4,h⟩:=h.inv;obtain ⟨x5,r5,rfl,h5,h⟩:=h.inv;rw [ReadsL] at h;subst h;obtain ⟨a,c,rfl,hc1,hc2⟩:=subs_val h5;rw [Reads.leafv h0,Reads.leafv h1,Reads.leafv h2,Reads.leafv h3,Reads.leafv h4];exact ⟨a,c,rfl,hc1,hc2,h5⟩
theorem cells_expr {w:World} {X:List Nat} {x:Ex} {a:Option Addr} {c:Nat} (h:Reads w X (subsT x.subs) (.slice a x.subs.length c)) :
  ReadsL w X (exprT x) [.int .i64 x.kind,.string x.name,.string x.more,.int .i64 x.num,.int .i64 x.den,.slice a x.subs.length c]:=by
 rw [exprT_eq];exact ReadsL.cons (Reads.leaf' _ _ _) (ReadsL.cons (Reads.leaf' _ _ _) (ReadsL.cons (Reads.leaf' _ _ _) (ReadsL.cons (Reads.leaf' _ _ _) (ReadsL.cons (Reads.leaf' _ _ _) (ReadsL.cons h (ReadsL.nil _ _))))))
theorem subs_elem {w:World} {X:List Nat} {l:List Ex} {a:Option Addr} {cap:Nat} (h:Reads w X (subsT l) (.slice a l.length cap)) {i:Nat} {x:Ex} (hi:l[i]? = some x) :
    ∃ (b o:Nat) (sa:Option Addr) (cs:Nat),a = some ⟨b,o,none⟩∧b < w.heap.size∧w.cell? ⟨b,o + i * 6,none⟩ = some (.int .i64 x.kind)∧w.cell? ⟨b,o + i * 6 + 1,none⟩ = some (.string x.name)∧w.cell? ⟨b,o + i * 6 + 2,none⟩ = some (.string x.more) ∧
      w.cell? ⟨b,o + i * 6 + 3,none⟩ = some (.int .i64 x.num)∧w.cell? ⟨b,o + i * 6 + 4,none⟩ = some (.int .i64 x.den)∧w.cell? ⟨b,o + i * 6 + 5,none⟩ = some (.slice sa x.subs.length cs)∧x.subs.length≤cs∧cs≤9223372036854775807∧Hid (Reads w X (subsT x.subs) (.slice sa x.subs.length cs)):=by
  obtain ⟨b,o,rfl,hb,hc⟩:=Reads.elem (size:=6) (f:=exprT) exprT_len h hi
  rw [exprT_eq] at hc
  obtain ⟨u0,e0,d0⟩:=hc 0 _ rfl
  obtain ⟨u1,e1,d1⟩:=hc 1 _ rfl
  obtain ⟨u2,e2,d2⟩:=hc 2 _ rfl
  obtain ⟨u3,e3,d3⟩:=hc 3 _ rfl
  obtain ⟨u4,e4,d4⟩:=hc 4 _ rfl
  obtain ⟨u5,e5,d5⟩:=hc 5 _ rfl
  rw [Reads.leafv d0] at e0
  rw [Reads.leafv d1] at e1
  rw [Reads.leafv d2] at e2
  rw [Reads.leafv d3] at e3
  rw [Reads.leafv d4] at e4
  obtain ⟨sa,cs,rfl,h1,h2⟩:=subs_val d5
  exact ⟨b,o,sa,cs,rfl,hb,e0,e1,e2,e3,e4,e5,h1,h2,d5⟩
structure ODecl where
 id:Int
 kind:Int
 pub:Bool
 names:List ByteArray
 doubt:Bool
 body:Ex
def declT (d:ODecl):List Tree:=[.leaf (.int .i64 d.id),.leaf (.int .i64 d.kind),.leaf (.bool d.pub),strsT d.names,.leaf (.bool d.doubt)] ++ exprT d.body
def declsT (l:List ODecl):Tree:=rowT 11 declT l
theorem declT_len (d:ODecl):(declT d).length = 11:=by rw [declT,List.length_append,exprT_len];rfl
def declV (d:ODecl) (an:Option Addr) (cn:Nat) (sa:Option Addr) (cs:Nat):Value:=
  .agg #[.int .i64 d.id,.int .i64 d.kind,.bool d.pub,.slice an d.names.length cn,.bool d.doubt,.int .i64 d.body.kind,.string d.body.name,.string d.body.more,.int .i64 d.body.num,.int .i64 d.body.den,.slice sa d.body.subs.length cs]
def declL (d:ODecl) (an:Option Addr) (cn:Nat) (sa:Option Addr) (cs:Nat):List Value:=
 [.int .i64 d.id,.int .i64 d.kind,.bool d.pub,.slice an d.names.length cn,.bool d.doubt,.int .i64 d.body.kind,.string d.body.name,.string d.body.more,.int .i64 d.body.num,.int .i64 d.body.den,.slice sa d.body.subs.length cs]
theorem strs_val {w:World} {X:List Nat} {l:List ByteArray} {v:Value} (h:Reads w X (strsT l) v):∃ (a:Option Addr) (cap:Nat),v = .slice a l.length cap∧l.length≤cap∧cap≤9223372036854775807:=h.val
theorem decl_cells {w:World} {X:List Nat} {d:ODecl} {cs:List Value} (h:ReadsL w X (declT d) cs) :
  ∃ (an:Option Addr) (cn:Nat) (sa:Option Addr) (c:Nat),cs = declL d an cn sa c∧d.names.length≤cn∧cn≤9223372036854775807∧Reads w X (strsT d.names) (.slice an d.names.length cn) ∧
   d.body.subs.length≤c∧c≤9223372036854775807∧Reads w X (subsT d.body.subs) (.slice sa d.body.subs.length c):=by
 obtain ⟨x0,r0,rfl,h0,g0⟩:=ReadsL.inv (show ReadsL w X (.leaf (.int .i64 d.id) :: .leaf (.int .i64 d.kind) :: .leaf (.bool d.pub) :: strsT d.names :: .leaf (.bool d.doubt) :: exprT d.body) cs from h);obtain ⟨x1,r1,rfl,h1,g1⟩:=g0.inv;obtain ⟨x2,r2,rfl,h2,g2⟩:=g1.inv;obtain ⟨x3,r3,rfl,h3,g3⟩:=g2.inv;obtain ⟨x4,r4,rfl,h4,g4⟩:=g3.inv;obtain ⟨an,cn,rfl,hn1,hn2⟩:=strs_val h3;obtain ⟨sa,c,rfl,hc1,hc2,h5⟩:=expr_cells g4;rw [Reads.leafv h0,Reads.leafv h1,Reads.leafv h2,Reads.leafv h4];exact ⟨an,cn,sa,c,rfl,hn1,hn2,h3,hc1,hc2,h5⟩
theorem cells_decl {w:World} {X:List Nat} {d:ODecl} {an:Option Addr} {cn:Nat} {sa:Option Addr} {c:Nat} (h1:Reads w X (strsT d.names) (.slice an d.names.length cn)) (h2:Reads w X (subsT d.body.subs) (.slice sa d.body.subs.length c)) :
  ReadsL w X (declT d) (declL d an cn sa c):=
 ReadsL.cons (Reads.leaf' _ _ _) (ReadsL.cons (Reads.leaf' _ _ _) (ReadsL.cons (Reads.leaf' _ _ _) (ReadsL.cons h1 (ReadsL.cons (Reads.leaf' _ _ _) (cells_expr h2)))))
theorem decls_val {w:World} {X:List Nat} {l:List ODecl} {v:Value} (h:Reads w X (declsT l) v):∃ (a:Option Addr) (cap:Nat),v = .slice a l.length cap∧l.length≤cap∧cap≤9223372036854775807:=h.val
theorem decls_elem {w:World} {X:List Nat} {l:List ODecl} {a:Option Addr} {cap:Nat} (h:Reads w X (declsT l) (.slice a l.length cap)) {i:Nat} {d:ODecl} (hi:l[i]? = some d) :
    ∃ (b o:Nat) (an:Option Addr) (cn:Nat) (sa:Option Addr) (c:Nat),a = some ⟨b,o,none⟩∧b < w.heap.size∧(∀ (j:Nat) (u:Value),(declL d an cn sa c)[j]? = some u→w.cell? ⟨b,o + i * 11 + j,none⟩ = some u) ∧
      d.names.length≤cn∧cn≤9223372036854775807∧Hid (Reads w X (strsT d.names) (.slice an d.names.length cn))∧d.body.subs.length≤c∧c≤9223372036854775807∧Hid (Reads w X (subsT d.body.subs) (.slice sa d.body.subs.length c)):=by
  obtain ⟨b,o,rfl,hb,hc⟩:=Reads.elem (size:=11) (f:=declT) declT_len h hi
  have key:∀ (j:Nat) (t:Tree),(declT d)[j]? = some t→∃ u,w.cell? ⟨b,o + i * 11 + j,none⟩ = some u∧Reads w X t u:=hc
  rw [declT,exprT_eq] at key
  obtain ⟨u3,e3,d3⟩:=key 3 _ rfl
  obtain ⟨u10,e10,d10⟩:=key 10 _ rfl
  obtain ⟨an,cn,rfl,hn1,hn2⟩:=strs_val d3
  obtain ⟨sa,c,rfl,hc1,hc2⟩:=subs_val d10
  refine ⟨b,o,an,cn,sa,c,rfl,hb,fun j u hj => ?_,hn1,hn2,d3,hc1,hc2,d10⟩
  have lf:∀ (j:Nat) (v:Value),w.cell? ⟨b,o + i * 11 + j,none⟩ = some v→v = u→w.cell? ⟨b,o + i * 11 + j,none⟩ = some u:=fun j v h e => by rw [h,e]
  match j,hj with
  | 0,hj => obtain ⟨v,e,r⟩:=key 0 _ rfl;exact lf 0 v e ((Reads.leafv r).trans (Option.some.inj hj))
  | 1,hj => obtain ⟨v,e,r⟩:=key 1 _ rfl;exact lf 1 v e ((Reads.leafv r).trans (Option.some.inj hj))
  | 2,hj => obtain ⟨v,e,r⟩:=key 2 _ rfl;exact lf 2 v e ((Reads.leafv r).trans (Option.some.inj hj))
  | 3,hj => exact lf 3 _ e3 (Option.some.inj hj)
  | 4,hj => obtain ⟨v,e,r⟩:=key 4 _ rfl;exact lf 4 v e ((Reads.leafv r).trans (Option.some.inj hj))
  | 5,hj => obtain ⟨v,e,r⟩:=key 5 _ rfl;exact lf 5 v e ((Reads.leafv r).trans (Option.some.inj hj))
  | 6,hj => obtain ⟨v,e,r⟩:=key 6 _ rfl;exact lf 6 v e ((Reads.leafv r).trans (Option.some.inj hj))
  | 7,hj => obtain ⟨v,e,r⟩:=key 7 _ rfl;exact lf 7 v e ((Reads.leafv r).trans (Option.some.inj hj))
  | 8,hj => obtain ⟨v,e,r⟩:=key 8 _ rfl;exact lf 8 v e ((Reads.leafv r).trans (Option.some.inj hj))
  | 9,hj => obtain ⟨v,e,r⟩:=key 9 _ rfl;exact lf 9 v e ((Reads.leafv r).trans (Option.some.inj hj))
  | 10,hj => exact lf 10 _ e10 (Option.some.inj hj)
  | (j + 11),hj => exact absurd hj (by simp [declL])
structure OMod where
 label:ByteArray
 uses:List ByteArray
 decls:List ODecl
abbrev dA (d:ODecl) (a:Option Addr) (c:Nat) (s:Option Addr) (k:Nat):Array Value:=#[.int .i64 d.id,.int .i64 d.kind,.bool d.pub,.slice a d.names.length c,.bool d.doubt,.int .i64 d.body.kind,.string d.body.name,.string d.body.more,.int .i64 d.body.num,.int .i64 d.body.den,.slice s d.body.subs.length k]
abbrev xA (x:Ex) (a:Option Addr) (c:Nat):Array Value:=#[.int .i64 x.kind,.string x.name,.string x.more,.int .i64 x.num,.int .i64 x.den,.slice a x.subs.length c]
abbrev mA (m:OMod) (a:Option Addr) (c:Nat) (s:Option Addr) (k:Nat):Array Value:=#[.string m.label,.slice a m.uses.length c,.slice s m.decls.length k]
abbrev dZ:Array Value:=#[.int .i64 0,.int .i64 0,.bool false,.slice none 0 0,.bool false,.int .i64 0,.string ⟨#[]⟩,.string ⟨#[]⟩,.int .i64 0,.int .i64 0,.slice none 0 0]
abbrev xZ:Array Value:=#[.int .i64 0,.string ⟨#[]⟩,.string ⟨#[]⟩,.int .i64 0,.int .i64 0,.slice none 0 0]
abbrev mZ:Array Value:=#[.string ⟨#[]⟩,.slice none 0 0,.slice none 0 0]
def modT (m:OMod):List Tree:=[strT m.label,strsT m.uses,declsT m.decls]
theorem mod_cells {w:World} {X:List Nat} {m:OMod} {cs:List Value} (h:ReadsL w X (modT m) cs) :
  ∃ (au:Option Addr) (cu:Nat) (ad:Option Addr) (cd:Nat),cs = [.string m.label,.slice au m.uses.length cu,.slice ad m.decls.length cd]∧m.uses.length≤cu∧cu≤9223372036854775807∧Reads w X (strsT m.uses) (.slice au m.uses.length cu) ∧
   m.decls.length≤cd∧cd≤9223372036854775807∧Reads w X (declsT m.decls) (.slice ad m.decls.length cd):=by
 obtain ⟨x0,r0,rfl,h0,h⟩:=ReadsL.inv (show ReadsL w X [strT m.label,strsT m.uses,declsT m.decls] cs from h);obtain ⟨x1,r1,rfl,h1,h⟩:=h.inv;obtain ⟨x2,r2,rfl,h2,h⟩:=h.inv;rw [ReadsL] at h;subst h;obtain ⟨au,cu,rfl,hu1,hu2⟩:=strs_val h1;obtain ⟨ad,cd,rfl,hd1,hd2⟩:=decls_val h2;rw [Reads.leafv h0];exact ⟨au,cu,ad,cd,rfl,hu1,hu2,h1,hd1,hd2,h2⟩
end Go.Proofs.YtdpnfkjafhbndaaGreatDoor

