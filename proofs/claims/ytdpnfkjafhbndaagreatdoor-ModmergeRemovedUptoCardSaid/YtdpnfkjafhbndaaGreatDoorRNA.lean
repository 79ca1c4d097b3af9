/- Merging expressions, declarations and modules, plainly: what the chapters 32 and 33 say. No program in sight. -/
import Derived.Test.YtdpnfkjafhbndaaGreatDoorRT5
namespace Go.Proofs.YtdpnfkjafhbndaaGreatDoor
def alikeB (a b:Ex):Bool:=a.kind == b.kind && (eqS a.name b.name && (eqS a.more b.more && (a.num == b.num && (a.den == b.den && decide (a.subs.length = b.subs.length)))))
theorem alikeB_eq (a b:Ex):alikeB a b = (headB a b && decide (a.subs.length = b.subs.length)):=by
 unfold alikeB headB;simp only [Bool.and_assoc]
theorem alikeB_len {a b:Ex} (h:alikeB a b = true):a.subs.length = b.subs.length:=by
 rw [alikeB_eq,Bool.and_eq_true] at h;exact of_decide_eq_true h.2
mutual
def mergeX:Ex→Ex→Ex→Ex
 | .mk k n m i d s,l,r =>
  if sameX l r || sameX r (.mk k n m i d s) then l
  else if sameX l (.mk k n m i d s) then r
  else if alikeB (.mk k n m i d s) l && (alikeB (.mk k n m i d s) r && (!(k == 15) && !s.isEmpty)) then .mk k n m i d (mergeL s l.subs r.subs)
  else .mk 15 ⟨#[]⟩ ⟨#[]⟩ 0 0 [l,.mk k n m i d s,r]
def mergeL:List Ex→List Ex→List Ex→List Ex
 | [],_,_ => []
 | x :: s,l,r => match l,r with
  | a :: l',b :: r' => mergeX x a b :: mergeL s l' r'
  | _,_ => []
end
def recB (b l r:Ex):Bool:=alikeB b l && (alikeB b r && (!(b.kind == 15) && !b.subs.isEmpty))
def clashX (b l r:Ex):Ex:=.mk 15 ⟨#[]⟩ ⟨#[]⟩ 0 0 [l,b,r]
def deepX (b l r:Ex):Ex:=.mk b.kind b.name b.more b.num b.den (mergeL b.subs l.subs r.subs)
theorem mergeX_eq (b l r:Ex):mergeX b l r = if sameX l r || sameX r b then l else if sameX l b then r else if recB b l r then deepX b l r else clashX b l r:=by
 cases b;rw [mergeX];rfl
theorem mergeL_nil (l r:List Ex):mergeL [] l r = []:=by rw [mergeL]
theorem mergeL_cons (x a b:Ex) (s l r:List Ex):mergeL (x :: s) (a :: l) (b :: r) = mergeX x a b :: mergeL s l r:=by rw [mergeL]
theorem mergeL_nil2 (s r:List Ex):mergeL s [] r = []:=by
 cases s with
 | nil => rw [mergeL]
 | cons x s =>
  rw [mergeL];intro _ _ _ _ h
  cases h
theorem mergeL_nil3 (s l:List Ex):mergeL s l [] = []:=by
 cases s with
 | nil => rw [mergeL]
 | cons x s =>
  rw [mergeL];intro _ _ _ _ _ h
  cases h
theorem mergeL_len:∀ {s l r:List Ex},s.length = l.length→s.length = r.length→(mergeL s l r).length = s.length
 | [],l,r,_,_ => by rw [mergeL_nil]
 | x :: s,[],r,h,_ => by simp at h
 | x :: s,a :: l,[],_,h => by simp at h
 | x :: s,a :: l,b :: r,h1,h2 => by
  rw [mergeL_cons,List.length_cons,List.length_cons,mergeL_len (by simpa using h1) (by simpa using h2)]
theorem mergeL_at:∀ {s l r:List Ex} {i:Nat} {x a b:Ex},s[i]? = some x→l[i]? = some a→r[i]? = some b→s.length = l.length→s.length = r.length→(mergeL s l r)[i]? = some (mergeX x a b)
 | [],_,_,_,_,_,_,h,_,_,_,_ => by simp at h
 | x :: s,[],r,_,_,_,_,_,h,_,_,_ => by simp at h
 | x :: s,a :: l,[],_,_,_,_,_,_,h,_,_ => by simp at h
 | x :: s,a :: l,b :: r,0,y,c,d,h1,h2,h3,_,_ => by
  rw [mergeL_cons];simp only [List.getElem?_cons_zero,Option.some.injEq] at *
  subst h1;subst h2;subst h3;rfl
 | x :: s,a :: l,b :: r,i + 1,y,c,d,h1,h2,h3,h4,h5 => by
  rw [mergeL_cons];simp only [List.getElem?_cons_succ] at *
  exact mergeL_at h1 h2 h3 (by simpa using h4) (by simpa using h5)
theorem mergeL_take_succ {s l r:List Ex} {i:Nat} {x a b:Ex} (h1:s[i]? = some x) (h2:l[i]? = some a) (h3:r[i]? = some b) (h4:s.length = l.length) (h5:s.length = r.length) :
  (mergeL s l r).take (i + 1) = (mergeL s l r).take i ++ [mergeX x a b]:=by
 rw [List.take_add_one,mergeL_at h1 h2 h3 h4 h5];rfl
theorem mergeX_sm {B:Nat} (b:Ex):∀ l r,SmX B b→SmX B l→SmX B r→SmX B (mergeX b l r):=by
 refine Ex.ind (P:=fun b => ∀ l r,SmX B b→SmX B l→SmX B r→SmX B (mergeX b l r)) (fun b ih l r hb hl hr => ?_) b;rw [mergeX_eq];split
 ·exact hl
 ·split
  ·exact hr
  ·split
   ·have key:∀ (s l r:List Ex),(∀ x∈s,∀ l r,SmX B x→SmX B l→SmX B r→SmX B (mergeX x l r))→(∀ x∈s,SmX B x)→(∀ x∈l,SmX B x)→(∀ x∈r,SmX B x)→∀ y∈mergeL s l r,SmX B y:=by
     intro s
     induction s with
     | nil => intro l r _ _ _ _ y hy;rw [mergeL_nil] at hy;simp at hy
     | cons x s ihs =>
      intro l r h h1 h2 h3 y hy
      cases l with
      | nil => rw [mergeL_nil2] at hy;simp at hy
      | cons a l =>
       cases r with
       | nil => rw [mergeL_nil3] at hy;simp at hy
       | cons c r =>
        rw [mergeL_cons] at hy
        rcases List.mem_cons.1 hy with rfl | hy
        ·exact h x (List.mem_cons_self ..) a c (h1 x (List.mem_cons_self ..)) (h2 a (List.mem_cons_self ..)) (h3 c (List.mem_cons_self ..))
        ·exact ihs l r (fun z hz => h z (List.mem_cons_of_mem _ hz)) (fun z hz => h1 z (List.mem_cons_of_mem _ hz)) (fun z hz => h2 z (List.mem_cons_of_mem _ hz)) (fun z hz => h3 z (List.mem_cons_of_mem _ hz)) y hy
    exact SmX.mk hb.name hb.more hb.kind hb.num hb.den (key _ _ _ (fun x hx => ih x hx) hb.subs hl.subs hr.subs)
   ·refine SmX.mk (by simp [ByteArray.size]) (by simp [ByteArray.size]) (by unfold inI;omega) (by unfold inI;omega) (by unfold inI;omega) ?_
    intro y hy;simp only [List.mem_cons,List.not_mem_nil,or_false] at hy
    rcases hy with rfl | rfl | rfl
    ·exact hl
    ·exact hb
    ·exact hr
theorem mergeX_nodes (b:Ex):∀ l r,nodesN (mergeX b l r)≤2 * nodesN b + nodesN l + nodesN r:=by
 refine Ex.ind (P:=fun b => ∀ l r,nodesN (mergeX b l r)≤2 * nodesN b + nodesN l + nodesN r) (fun b ih l r => ?_) b;have hb:=nodesN_pos b;rw [mergeX_eq];split
 ·omega
 ·split
  ·omega
  ·split
   ·have key:∀ (s l r:List Ex),(∀ x∈s,∀ l r,nodesN (mergeX x l r)≤2 * nodesN x + nodesN l + nodesN r)→nodesL (mergeL s l r)≤2 * nodesL s + nodesL l + nodesL r:=by
     intro s
     induction s with
     | nil => intro l r _;rw [mergeL_nil,nodesL];omega
     | cons x s ihs =>
      intro l r h
      cases l with
      | nil => rw [mergeL_nil2,nodesL];omega
      | cons a l =>
       cases r with
       | nil => rw [mergeL_nil3,nodesL];omega
       | cons c r =>
        rw [mergeL_cons,nodesL,nodesL,nodesL,nodesL];have h1:=h x (List.mem_cons_self ..) a c;have h2:=ihs l r (fun z hz => h z (List.mem_cons_of_mem _ hz));omega
    have hk:=key b.subs l.subs r.subs (fun x hx => ih x hx);have e1:nodesN (deepX b l r) = 1 + nodesL (mergeL b.subs l.subs r.subs):=nodesN_eq _;have e2:=nodesN_eq b;have e3:=nodesN_eq l;have e4:=nodesN_eq r;omega
   ·have e1:nodesN (clashX b l r) = 1 + (nodesN l + (nodesN b + (nodesN r + 0))):=by
     rw [nodesN_eq];rfl
    omega
def mergeXErr (b l r:Ex):Int:=if exprErr b = 0 then (if exprErr l = 0 then (if exprErr r = 0 then (if exprErr (mergeX b l r) = 0 then 0 else 4) else exprErr r) else exprErr l) else exprErr b
def noX:Ex:=.mk 0 ⟨#[]⟩ ⟨#[]⟩ 0 0 []
def mergeXOut (b l r:Ex):Ex:=if mergeXErr b l r = 0 then mergeX b l r else noX
def truthB (b l r:Bool):Bool:=if l == b then r else l
def kindM (b l r:Int):Int:=if l = r∨r = b then l else if l = b then r else min l r
def kindC (b l r:Int):Bool:=!(decide (l = r) || decide (r = b) || decide (l = b))
def namesC (b l r:List ByteArray):Bool:=!(sameSs l r || sameSs r b || sameSs l b) && (b.length != 1 || l.length != 1 || r.length != 1)
def namesM (b l r:List ByteArray):List ByteArray:=if sameSs l r || sameSs r b then l else if sameSs l b then r else [sAt l 0,sAt b 0,sAt r 0]
def bothErr (b l r:ODecl):Int:=if namesC b.names l.names r.names then 17 else mergeXErr b.body l.body r.body
def bothM (b l r:ODecl):ODecl:=⟨l.id,kindM b.kind l.kind r.kind,truthB b.pub l.pub r.pub,namesM b.names l.names r.names,truthB b.doubt l.doubt r.doubt || kindC b.kind l.kind r.kind,mergeX b.body l.body r.body⟩
def bothOut (b l r:ODecl):ODecl:=if bothErr b l r = 0 then bothM b l r else noDecl
def nilX:Ex:=.mk 11 ⟨#[]⟩ ⟨#[]⟩ 0 0 []
def oldD:ODecl:=⟨0,0,false,[⟨#[]⟩],false,nilX⟩
def mergeDErr (b l r:Option ODecl):Int:=match l,r with
  | some l,some r => bothErr (b.getD oldD) l r
  | _,_ => 0
def doubtD (d:ODecl):ODecl:=⟨d.id,d.kind,d.pub,d.names,true,d.body⟩
def oneD (b:Option ODecl) (d:ODecl):Option ODecl:=match b with
 | none => some d
 | some b => if sameD d b then none else some (doubtD d)
def mergeD (b l r:Option ODecl):Option ODecl:=match l,r with
 | some l,some r => some (bothM (b.getD oldD) l r)
 | some l,none => oneD b l
 | none,some r => oneD b r
 | none,none => none
def findD (l:List ODecl) (id:Int):Option ODecl:=l.find? fun d => d.id == id
def insI (l:List Int) (x:Int):List Int:=if (l.dropWhile fun y => decide (y < x)).head? = some x then l else l.takeWhile (fun y => decide (y < x)) ++ [x] ++ l.dropWhile (fun y => decide (y < x))
def idsD (l:List Int) (ds:List ODecl):List Int:=ds.foldl (fun l d => insI l d.id) l
def usesM (b l r:List ByteArray):List ByteArray:=(withAll [] (l ++ r)).filter fun s => truthB (memS s b) (memS s l) (memS s r)
def aliasDup (l:List ByteArray):Bool:=(List.range l.length).any fun i => (List.range i).any fun k => (aliasS (sAt l k)).toList == (aliasS (sAt l i)).toList
def declsErrM (b l r:List ODecl):List Int→Int
 | [] => 0
 | i :: s => if mergeDErr (findD b i) (findD l i) (findD r i) = 0 then declsErrM b l r s else mergeDErr (findD b i) (findD l i) (findD r i)
def declsM (b l r:List ODecl) (ids:List Int):List ODecl:=ids.filterMap fun i => mergeD (findD b i) (findD l i) (findD r i)
def idsM (b l r:OMod):List Int:=idsD (idsD (idsD [] b.decls) l.decls) r.decls
def noMod:OMod:=⟨⟨#[]⟩,[],[]⟩
def outM (b l r:OMod):OMod:=⟨b.label,usesM b.uses l.uses r.uses,declsM b.decls l.decls r.decls (idsM b l r)⟩
def mergeMErr (b l r:OMod):Int:=
 if modErr b = 0 then (if modErr l = 0 then (if modErr r = 0 then
  (if eqS b.label l.label && eqS b.label r.label then
   (if (usesM b.uses l.uses r.uses).length≤20 then
    (if aliasDup (usesM b.uses l.uses r.uses) then 17
    else if declsErrM b.decls l.decls r.decls (idsM b l r) = 0 then (if (declsM b.decls l.decls r.decls (idsM b l r)).length≤100 then 0 else 4)
    else declsErrM b.decls l.decls r.decls (idsM b l r))
   else 4)
  else 11) else modErr r) else modErr l) else modErr b
def mergeM (b l r:OMod):OMod:=if mergeMErr b l r = 0 then outM b l r else noMod
end Go.Proofs.YtdpnfkjafhbndaaGreatDoor

