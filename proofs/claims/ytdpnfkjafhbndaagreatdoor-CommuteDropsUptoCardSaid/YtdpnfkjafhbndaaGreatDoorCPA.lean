/- Ascending lists, plainly: where a key stands, what putting in, taking out and setting do. No program in sight. Applying edits to modules, plainly; the same on what stands under keys. No program in sight. Edits under the keys: leading back, in the other order. No program in sight. Valid modules; the laws of applying edits, plainly. No program in sight. Moving an edit in a list: what it leads to, and moving back. No program in sight. The edits from modules to others, plainly; applying them leads there. No program in sight. Applying the edits from modules to others leads there. No program in sight. -/
import Derived.Test.YtdpnfkjafhbndaaGreatDoorCSEr
import Derived.Test.YtdpnfkjafhbndaaGreatDoorCV1
namespace Go.Proofs.YtdpnfkjafhbndaaGreatDoor
structure SO {κ:Type} (lt:κ→κ→Bool):Prop where
  irr:∀ a,lt a a = false
  tr:∀ {a b c},lt a b = true→lt b c = true→lt a c = true
  tot:∀ {a b},lt a b = false→lt b a = false→a = b
section
variable {α κ:Type} (lt:κ→κ→Bool) (key:α→κ)
def Asc (l:List α):Prop:=l.Pairwise fun a b => lt (key a) (key b) = true
def plc (l:List α) (k:κ):Nat:=l.findIdx fun x => !(lt (key x) k)
inductive Plc (l:List α) (k:κ):Prop
  | hit (P R:List α) (y:α):l = P ++ y :: R→P.length = plc lt key l k→key y = k→(∀ x∈P,lt (key x) k = true)→(∀ x∈R,lt k (key x) = true)→Plc l k
  | miss (P R:List α):l = P ++ R→P.length = plc lt key l k→(∀ x∈P,lt (key x) k = true)→(∀ x∈R,lt k (key x) = true)→Plc l k
variable {lt:κ→κ→Bool} {key:α→κ}
theorem plc_le (l:List α) (k:κ):plc lt key l k≤l.length:=List.findIdx_le_length
theorem plc_cases (S:SO lt) {l:List α} (h:Asc lt key l) (k:κ):Plc lt key l k:=by
 have hs:l = l.take (plc lt key l k) ++ l.drop (plc lt key l k):=(List.take_append_drop _ _).symm;have hl:(l.take (plc lt key l k)).length = plc lt key l k:=by rw [List.length_take];exact Nat.min_eq_left (plc_le l k)
 have h1:∀ x∈l.take (plc lt key l k),lt (key x) k = true:=by
  intro x hx;obtain ⟨j,hj,rfl⟩:=List.mem_iff_getElem.1 hx;rw [hl] at hj;have:=List.not_of_lt_findIdx (p:=fun x => !(lt (key x) k)) (xs:=l) (i:=j) hj;rw [List.getElem_take]
  simpa using this
 cases hd:l.drop (plc lt key l k) with
 | nil => exact .miss _ [] (by rw [hd] at hs;exact hs) hl h1 (fun x hx => by cases hx)
 | cons y R =>
  have hlt:plc lt key l k < l.length:=by
   rcases Nat.lt_or_ge (plc lt key l k) l.length with h | h
   ·exact h
   ·rw [List.drop_eq_nil_of_le h] at hd;cases hd
  have hy:l[plc lt key l k] = y:=by
   rw [List.drop_eq_getElem_cons hlt] at hd;injection hd
  have hyk:lt (key y) k = false:=by
   have:=List.findIdx_getElem (p:=fun x => !(lt (key x) k)) (xs:=l) (w:=hlt);rw [← hy];simp only [Bool.not_eq_true'] at this
   exact this
  have hA:Asc lt key (l.drop (plc lt key l k)):=h.sublist (List.drop_sublist _ _);rw [hd] at hA hs;have hR:=(List.pairwise_cons.1 hA).1
  cases hk:lt k (key y) with
  | false => 
   have e:=S.tot hyk hk;exact .hit _ R y hs hl e h1 (fun x hx => by rw [← e];exact hR x hx)
  | true => exact .miss _ (y :: R) hs hl h1 (fun x hx => by
    rcases List.mem_cons.1 hx with rfl | hx
    ·exact hk
    ·exact S.tr hk (hR x hx))
def insAt (l:List α) (i:Nat) (x:α):List α:=l.take i ++ x :: l.drop i
def delAt (l:List α) (i:Nat):List α:=l.take i ++ l.drop (i + 1)
theorem insAt_split {P R:List α} {i:Nat} (h:P.length = i) (x:α):insAt (P ++ R) i x = P ++ x :: R:=by
 subst h;unfold insAt;rw [List.take_left,List.drop_left]
theorem delAt_split {P R:List α} {i:Nat} {y:α} (h:P.length = i):delAt (P ++ y :: R) i = P ++ R:=by
 subst h;unfold delAt;rw [List.take_left,List.drop_append,List.drop_eq_nil_of_le (by omega)];simp
theorem set_split {P R:List α} {i:Nat} {y:α} (h:P.length = i) (x:α):(P ++ y :: R).set i x = P ++ x :: R:=by
 subst h;rw [List.set_append_right _ _ (Nat.le_refl _)];simp
theorem at_split {P R:List α} {i:Nat} {y:α} (h:P.length = i):(P ++ y :: R)[i]? = some y:=by
 subst h;rw [List.getElem?_append_right (Nat.le_refl _)];simp
theorem asc_split {P R:List α}:Asc lt key (P ++ R)↔Asc lt key P∧Asc lt key R∧∀ x∈P,∀ y∈R,lt (key x) (key y) = true:=List.pairwise_append
theorem asc_cons {y:α} {R:List α}:Asc lt key (y :: R)↔(∀ x∈R,lt (key y) (key x) = true)∧Asc lt key R:=List.pairwise_cons
theorem asc_inj (S:SO lt) {l:List α} (h:Asc lt key l) {x y:α} (hx:x∈l) (hy:y∈l) (e:key x = key y):x = y:=by
  obtain ⟨i,hi,rfl⟩:=List.mem_iff_getElem.1 hx
  obtain ⟨j,hj,rfl⟩:=List.mem_iff_getElem.1 hy
  have hp:=List.pairwise_iff_getElem.1 h
  rcases Nat.lt_trichotomy i j with hij | hij | hij
  · have:=hp i j hi hj hij;rw [e,S.irr] at this;cases this
  · subst hij;rfl
  · have:=hp j i hj hi hij;rw [e,S.irr] at this;cases this
theorem asc_nodup (S:SO lt) {l:List α} (h:Asc lt key l):l.Nodup:=h.imp fun {a b} h e => by subst e;rw [S.irr] at h;cases h
theorem asc_unique (S:SO lt) {l m:List α} (hl:Asc lt key l) (hm:Asc lt key m) (h:∀ x,x∈l↔x∈m):l = m:=
 List.Perm.eq_of_pairwise (le:=fun a b => lt (key a) (key b) = true) (fun a b _ _ h1 h2 => by have:=S.tr h1 h2;rw [S.irr] at this;cases this) hl hm ((List.perm_ext_iff_of_nodup (asc_nodup S hl) (asc_nodup S hm)).2 h)
def eqK (lt:κ→κ→Bool) (a b:κ):Bool:=!(lt a b) && !(lt b a)
theorem eqK_iff (S:SO lt) {a b:κ}:eqK lt a b = true↔a = b:=by
 unfold eqK
 constructor
 ·intro h;simp at h;exact S.tot h.1 h.2
 ·rintro rfl;rw [S.irr];rfl
theorem eqK_no (S:SO lt) {a b:κ} (h:a≠b):eqK lt a b = false:=by
 rw [← Bool.not_eq_true,eqK_iff S];exact h
theorem eqK_yes (S:SO lt) {a b:κ} (h:a = b):eqK lt a b = true:=(eqK_iff S).2 h
def look (lt:κ→κ→Bool) (key:α→κ) (l:List α) (k:κ):Option α:=l.find? fun x => eqK lt (key x) k
theorem look_in (S:SO lt) {l:List α} {k:κ} {x:α} (h:look lt key l k = some x):x∈l∧key x = k:=
 ⟨List.mem_of_find?_eq_some h,(eqK_iff S).1 (List.find?_some (p:=fun x => eqK lt (key x) k) h)⟩
theorem look_of (S:SO lt) {l:List α} (h:Asc lt key l) {x:α} (hx:x∈l):look lt key l (key x) = some x:=by
 cases hf:look lt key l (key x) with
 | none => unfold look at hf;rw [List.find?_eq_none] at hf;exact absurd (eqK_yes S rfl) (hf x hx)
 | some y => obtain ⟨h1,h2⟩:=look_in S hf;rw [asc_inj S h h1 hx h2]
theorem look_none (S:SO lt) {l:List α} {k:κ}:look lt key l k = none↔∀ x∈l,key x≠k:=by
 unfold look;rw [List.find?_eq_none];exact ⟨fun h x hx e => h x hx ((eqK_iff S).2 e),fun h x hx e => h x hx ((eqK_iff S).1 e)⟩
theorem look_unique (S:SO lt) {l m:List α} (hl:Asc lt key l) (hm:Asc lt key m) (h:∀ k,look lt key l k = look lt key m k):l = m:=
 asc_unique S hl hm fun x => by
  constructor
  ·intro hx;exact (look_in S ((h (key x)).symm.trans (look_of S hl hx))).1
  ·intro hx;exact (look_in S ((h (key x)).trans (look_of S hm hx))).1
theorem look_append (P R:List α) (k:κ):look lt key (P ++ R) k = (look lt key P k).or (look lt key R k):=by
 unfold look;rw [List.find?_append]
theorem look_here (S:SO lt) {y:α} (R:List α) {k:κ} (h:key y = k):look lt key (y :: R) k = some y:=by
 unfold look;rw [List.find?_cons,eqK_yes S h]
theorem look_there (S:SO lt) {y:α} (R:List α) {k:κ} (h:key y≠k):look lt key (y :: R) k = look lt key R k:=by
 unfold look;rw [List.find?_cons,eqK_no S h]
theorem ne_of_lt (S:SO lt) {a b:κ} (h:lt a b = true):a≠b:=fun e => by rw [e,S.irr] at h;cases h
structure Hit (lt:κ→κ→Bool) (key:α→κ) (l:List α) (k:κ) (y:α):Prop where
  le:plc lt key l k < l.length
  elt:l[plc lt key l k]? = some y
  ky:key y = k
  look:look lt key l k = some y
  del:Asc lt key (delAt l (plc lt key l k))
  delk:Go.Proofs.YtdpnfkjafhbndaaGreatDoor.look lt key (delAt l (plc lt key l k)) k = none
  delj:∀ j,j≠k→Go.Proofs.YtdpnfkjafhbndaaGreatDoor.look lt key (delAt l (plc lt key l k)) j = Go.Proofs.YtdpnfkjafhbndaaGreatDoor.look lt key l j
  set:∀ x,key x = k→Asc lt key (l.set (plc lt key l k) x)
  setk:∀ x,key x = k→Go.Proofs.YtdpnfkjafhbndaaGreatDoor.look lt key (l.set (plc lt key l k) x) k = some x
  setj:∀ x,key x = k→∀ j,j≠k→Go.Proofs.YtdpnfkjafhbndaaGreatDoor.look lt key (l.set (plc lt key l k) x) j = Go.Proofs.YtdpnfkjafhbndaaGreatDoor.look lt key l j
structure Miss (lt:κ→κ→Bool) (key:α→κ) (l:List α) (k:κ):Prop where
  elt:∀ y,l[plc lt key l k]? = some y→key y≠k
  look:look lt key l k = none
  ins:∀ x,key x = k→Asc lt key (insAt l (plc lt key l k) x)
  insk:∀ x,key x = k→Go.Proofs.YtdpnfkjafhbndaaGreatDoor.look lt key (insAt l (plc lt key l k) x) k = some x
  insj:∀ x,key x = k→∀ j,j≠k→Go.Proofs.YtdpnfkjafhbndaaGreatDoor.look lt key (insAt l (plc lt key l k) x) j = Go.Proofs.YtdpnfkjafhbndaaGreatDoor.look lt key l j
theorem hit_or_miss (S:SO lt) {l:List α} (h:Asc lt key l) (k:κ):(∃ y,Hit lt key l k y)∨Miss lt key l k:=by
 rcases plc_cases S h k with ⟨P,R,y,hl,hp,hk,h1,h2⟩ | ⟨P,R,hl,hp,h1,h2⟩
 ·have hP:look lt key P k = none:=(look_none S).2 fun x hx => ne_of_lt S (h1 x hx)
  have hR:look lt key R k = none:=(look_none S).2 fun x hx => (ne_of_lt S (h2 x hx)).symm;have hA:=h;rw [hl,asc_split,asc_cons] at hA;obtain ⟨a1,⟨a2,a3⟩,a4⟩:=hA;have e1:delAt l P.length = P ++ R:=by rw [hl];exact delAt_split rfl
  have e2:∀ x,l.set P.length x = P ++ x :: R:=fun x => by rw [hl];exact set_split rfl x
  have aj:∀ (x:α) (j:κ),key x = k→j≠k→look lt key (P ++ x :: R) j = (look lt key P j).or (look lt key R j):=fun x j hx hj => by
   rw [look_append,look_there S R (by rw [hx];exact fun e => hj e.symm)]
  have ak:∀ x:α,key x = k→look lt key (P ++ x :: R) k = some x:=fun x hx => by
   rw [look_append,hP,look_here S R hx];rfl
  refine .inl ⟨y,?_,?_,hk,?_,?_,?_,fun j hj => ?_,fun x hx => ?_,fun x hx => ?_,fun x hx j hj => ?_⟩
  ·rw [← hp,hl,List.length_append,List.length_cons];omega
  ·rw [← hp];subst hl;exact at_split rfl
  ·rw [hl];exact ak y hk
  ·rw [← hp,e1];exact asc_split.2 ⟨a1,a3,fun x hx z hz => a4 x hx z (List.mem_cons_of_mem _ hz)⟩
  ·rw [← hp,e1,look_append,hP,hR];rfl
  ·rw [← hp,e1,look_append,hl,aj y j hk hj]
  ·rw [← hp,e2]
   refine asc_split.2 ⟨a1,asc_cons.2 ⟨fun z hz => by rw [hx];exact h2 z hz,a3⟩,fun z hz u hu => ?_⟩
   rcases List.mem_cons.1 hu with rfl | hu
   ·rw [hx];exact h1 z hz
   ·exact a4 z hz u (List.mem_cons_of_mem _ hu)
  ·rw [← hp,e2];exact ak x hx
  ·rw [← hp,e2,aj x j hx hj,hl,aj y j hk hj]
 ·have hP:look lt key P k = none:=(look_none S).2 fun x hx => ne_of_lt S (h1 x hx)
  have hR:look lt key R k = none:=(look_none S).2 fun x hx => (ne_of_lt S (h2 x hx)).symm;have e1:∀ x,insAt l P.length x = P ++ x :: R:=fun x => by rw [hl];exact insAt_split rfl x
  have hA:=h;rw [hl,asc_split] at hA;obtain ⟨a1,a3,a4⟩:=hA;refine .inr ⟨fun y hy => ?_,?_,fun x hx => ?_,fun x hx => ?_,fun x hx j hj => ?_⟩
  ·rw [← hp,hl,List.getElem?_append_right (Nat.le_refl _),Nat.sub_self] at hy
   cases R with
   | nil => cases hy
   | cons z R => simp at hy;subst hy;exact (ne_of_lt S (h2 z (List.mem_cons_self ..))).symm
  ·rw [hl,look_append,hP,hR];rfl
  ·rw [← hp,e1]
   refine asc_split.2 ⟨a1,asc_cons.2 ⟨fun z hz => by rw [hx];exact h2 z hz,a3⟩,fun z hz u hu => ?_⟩
   rcases List.mem_cons.1 hu with rfl | hu
   ·rw [hx];exact h1 z hz
   ·exact a4 z hz u hu
  ·rw [← hp,e1,look_append,hP,look_here S R hx];rfl
  ·rw [← hp,e1,look_append,look_there S R (by rw [hx];exact fun e => hj e.symm),hl,look_append]
end
theorem less_irrefl:∀ a:List UInt8,Op.bytesLess a a = false
 | [] => by simp [Op.bytesLess]
 | x :: a => by simp [Op.bytesLess,less_irrefl a]
theorem less_trans:∀ {a b c:List UInt8},Op.bytesLess a b = true→Op.bytesLess b c = true→Op.bytesLess a c = true
 | [],[],_,h,_ => by simp [Op.bytesLess] at h
 | _,_ :: _,[],_,h => by simp [Op.bytesLess] at h
 | [],_ :: _,_ :: _,_,_ => by simp [Op.bytesLess]
 | _ :: _,[],_,h,_ => by simp [Op.bytesLess] at h
 | x :: a,y :: b,z :: c,h1,h2 => by
  simp only [Op.bytesLess,Bool.or_eq_true,decide_eq_true_eq,Bool.and_eq_true,beq_iff_eq] at h1 h2 ⊢
  rcases h1 with h1 | ⟨rfl,h1⟩
  ·rcases h2 with h2 | ⟨rfl,h2⟩
   ·exact .inl (UInt8.lt_trans h1 h2)
   ·exact .inl h1
  ·rcases h2 with h2 | ⟨rfl,h2⟩
   ·exact .inl h2
   ·exact .inr ⟨rfl,less_trans h1 h2⟩
theorem less_total:∀ a b:List UInt8,Op.bytesLess a b = true∨a = b∨Op.bytesLess b a = true
 | [],[] => .inr (.inl rfl)
 | [],_ :: _ => .inl (by simp [Op.bytesLess])
 | _ :: _,[] => .inr (.inr (by simp [Op.bytesLess]))
 | x :: a,y :: b => by
  simp only [Op.bytesLess,Bool.or_eq_true,decide_eq_true_eq,Bool.and_eq_true,beq_iff_eq]
  rcases Nat.lt_trichotomy x.toNat y.toNat with h | h | h
  ·exact .inl (.inl (UInt8.lt_iff_toNat_lt.2 h))
  ·have e:x = y:=UInt8.toNat_inj.1 h
   subst e
   rcases less_total a b with h | h | h
   ·exact .inl (.inr ⟨rfl,h⟩)
   ·exact .inr (.inl (by rw [h]))
   ·exact .inr (.inr (.inr ⟨rfl,h⟩))
  ·exact .inr (.inr (.inl (UInt8.lt_iff_toNat_lt.2 h)))
def ltB (a b:ByteArray):Bool:=Op.bytesLess a.toList b.toList
def ltI (a b:Int):Bool:=decide (a < b)
theorem ba_eq {a b:ByteArray} (h:a.data.toList = b.data.toList):a = b:=by
 cases a;cases b;simp only [ByteArray.mk.injEq];exact Array.toList_inj.1 h
theorem so_B:SO ltB:=⟨fun a => less_irrefl _,fun h k => less_trans h k,fun {a b} h k => by
 unfold ltB at h k
 rcases less_total a.toList b.toList with h1 | h1 | h1
 ·rw [h] at h1;cases h1
 ·rw [tl,tl] at h1;exact ba_eq h1
 ·rw [k] at h1;cases h1⟩
theorem so_I:SO ltI:=⟨fun a => by simp [ltI],fun h k => by simp [ltI] at *;omega,fun h k => by simp [ltI] at *;omega⟩
def setPart (k:Int) (d f:ODecl):ODecl:=if k = 7 then ⟨d.id,d.kind,d.pub,f.names,d.doubt,d.body⟩ else if k = 8 then ⟨d.id,d.kind,d.pub,d.names,d.doubt,f.body⟩ else ⟨d.id,f.kind,f.pub,d.names,f.doubt,d.body⟩
def inMod (m:OMod) (e:OEdit):OMod × Int:=
 if e.kind = 3 then (match look ltB id m.uses e.text with
  | some _ => (m,7)
  | none => (⟨m.label,insAt m.uses (plc ltB id m.uses e.text) e.text,m.decls⟩,0))
 else if e.kind = 4 then (match look ltB id m.uses e.text with
  | some _ => (⟨m.label,delAt m.uses (plc ltB id m.uses e.text),m.decls⟩,0)
  | none => (m,8))
 else if e.kind = 5 then (match look ltI ODecl.id m.decls (dAt e.fresh 0).id with
  | some _ => (m,7)
  | none => (⟨m.label,m.uses,insAt m.decls (plc ltI ODecl.id m.decls (dAt e.fresh 0).id) (dAt e.fresh 0)⟩,0))
 else match look ltI ODecl.id m.decls (dAt e.old 0).id with
  | none => (m,8)
  | some d => if sameD (partD e.kind d) (dAt e.old 0) then
    (if e.kind = 6 then (⟨m.label,m.uses,delAt m.decls (plc ltI ODecl.id m.decls (dAt e.old 0).id)⟩,0)
     else (⟨m.label,m.uses,m.decls.set (plc ltI ODecl.id m.decls (dAt e.old 0).id) (setPart e.kind d (dAt e.fresh 0))⟩,0))
   else (m,17)
def oneL (l:List OMod) (e:OEdit):List OMod × Int:=
 match look ltB OMod.label l e.pack with
 | none => if e.kind = 1 then (insAt l (plc ltB OMod.label l e.pack) ⟨e.pack,[],[]⟩,0) else (l,8)
 | some m => if e.kind = 1 then (l,7) else if e.kind = 2 then (if m.uses = []∧m.decls = [] then (delAt l (plc ltB OMod.label l e.pack),0) else (l,17))
   else (l.set (plc ltB OMod.label l e.pack) (inMod m e).1,(inMod m e).2)
def runL:List OMod→List OEdit→List OMod × Int
 | l,[] => (l,0)
 | l,e :: r => if editErr e = 0 then (if (oneL l e).2 = 0 then runL (oneL l e).1 r else oneL l e) else (l,editErr e)
def ordAt (l:List OMod) (i:Nat):Int:=if 0 < i∧ltB (mAt l (i - 1)).label (mAt l i).label = false then 10 else 0
def modsErr (l:List OMod):Int:=if nzFrom (ordAt l) l.length 0 = 0 then testErr l else 10
def appR (l:List OMod) (es:List OEdit):List OMod × Int:=
 if modsErr l = 0 then (if (runL l es).2 = 0 then (if testErr (runL l es).1 = 0 then ((runL l es).1,0) else ([],testErr (runL l es).1)) else ([],(runL l es).2)) else ([],modsErr l)
structure SrtM (m:OMod):Prop where
 uses:Asc ltB id m.uses
 decls:Asc ltI ODecl.id m.decls
structure Srt (l:List OMod):Prop where
 labels:Asc ltB OMod.label l
 mods:∀ m∈l,SrtM m
inductive Key where
 | m (s:ByteArray)
 | u (s t:ByteArray)
 | d (s:ByteArray) (i:Int)
def Key.pack:Key→ByteArray
 | .m s => s
 | .u s _ => s
 | .d s _ => s
abbrev Ab:=Key→Option ODecl
def abM (m:OMod):Key→Option ODecl
 | .m _ => some noDecl
 | .u _ t => (look ltB id m.uses t).map fun _ => noDecl
 | .d _ i => look ltI ODecl.id m.decls i
def ab (l:List OMod):Ab:=fun k => match look ltB OMod.label l k.pack with
 | some m => abM m k
 | none => none
theorem srtM_unique {m n:OMod} (hm:SrtM m) (hn:SrtM n) (e:m.label = n.label) (h:∀ k,k.pack = m.label→abM m k = abM n k):m = n:=by
 have h1:m.uses = n.uses:=look_unique so_B hm.uses hn.uses fun t => by
  have this:(look ltB id m.uses t).map (fun _ => noDecl) = (look ltB id n.uses t).map (fun _ => noDecl):=h (.u m.label t) rfl
  cases ha:look ltB id m.uses t with
  | none => rw [ha] at this;cases hb:look ltB id n.uses t with
   | none => rfl
   | some y => rw [hb] at this;cases this
  | some x => rw [ha] at this;cases hb:look ltB id n.uses t with
   | none => rw [hb] at this;cases this
   | some y => rw [show x = t from (look_in so_B ha).2,show y = t from (look_in so_B hb).2]
 have h2:m.decls = n.decls:=look_unique so_I hm.decls hn.decls fun i => h (.d m.label i) rfl
 cases m;cases n;simp only at e h1 h2;subst e h1 h2;rfl
theorem ab_inj {l m:List OMod} (hl:Srt l) (hm:Srt m) (h:ab l = ab m):l = m:=by
 refine look_unique so_B hl.labels hm.labels fun s => ?_;have h1:=congrFun h (.m s);unfold ab at h1;simp only [Key.pack] at h1
 cases ha:look ltB OMod.label l s with
 | none => rw [ha] at h1;cases hb:look ltB OMod.label m s with
  | none => rfl
  | some y => rw [hb] at h1;cases h1
 | some x => rw [ha] at h1;cases hb:look ltB OMod.label m s with
  | none => rw [hb] at h1;cases h1
  | some y =>
   obtain ⟨hx,ex⟩:=look_in so_B ha;obtain ⟨hy,ey⟩:=look_in so_B hb;refine congrArg some (srtM_unique (hl.mods x hx) (hm.mods y hy) (by rw [ex,ey]) fun k hk => ?_);have:=congrFun h k;unfold ab at this;rw [hk,ex] at this;rw [ha,hb] at this;exact this
def keyE (e:OEdit):Key:=if e.kind≤2 then .m e.pack else if e.kind≤4 then .u e.pack e.text else .d e.pack (concI e)
def locE (e:OEdit) (v:Option ODecl):Option (Option ODecl):=
 if e.kind = 1∨e.kind = 3 then (match v with | none => some (some noDecl) | some _ => none)
 else if e.kind = 2∨e.kind = 4 then (match v with | none => none | some _ => some none)
 else if e.kind = 5 then (match v with | none => some (some (dAt e.fresh 0)) | some _ => none)
 else match v with
  | none => none
  | some d => if sameD (partD e.kind d) (dAt e.old 0) then some (if e.kind = 6 then none else some (setPart e.kind d (dAt e.fresh 0))) else none
theorem keyE_pack (e:OEdit):(keyE e).pack = e.pack:=by
 unfold keyE;split
 ·rfl
 ·split <;> rfl
theorem setPart_id (k:Int) (d f:ODecl):(setPart k d f).id = d.id:=by
 unfold setPart;split
 ·rfl
 ·split <;> rfl
theorem inMod_key {m:OMod} (hm:SrtM m) {e:OEdit} (h3:3≤e.kind) (h9:e.kind≤9) :
    (∃ v,locE e (abM m (keyE e)) = some v∧(inMod m e).2 = 0∧(inMod m e).1.label = m.label∧SrtM (inMod m e).1∧abM (inMod m e).1 (keyE e) = v∧∀ k,k.pack = e.pack→k≠keyE e→abM (inMod m e).1 k = abM m k) ∨
    (locE e (abM m (keyE e)) = none∧(inMod m e).2≠0):=by
  have h:e.kind = 3∨e.kind = 4∨e.kind = 5∨6≤e.kind:=by omega
  rcases h with h | h | h | h
  · have hk:keyE e = .u e.pack e.text:=by unfold keyE;rw [if_neg (by omega),if_pos (by omega)]
    rw [hk]
    unfold locE inMod
    rw [if_pos (.inr h),if_pos h]
    rcases hit_or_miss so_B hm.uses e.text with ⟨y,H⟩ | H
    · refine .inr ⟨?_,?_⟩
      · show (match (look ltB id m.uses e.text).map (fun _ => noDecl) with | none => some (some noDecl) | some _ => none) = none
        rw [H.look];rfl
      · rw [H.look];simp
    · refine .inl ⟨some noDecl,?_,?_,?_,?_,?_,?_⟩
      · show (match (look ltB id m.uses e.text).map (fun _ => noDecl) with | none => some (some noDecl) | some _ => none) = _
        rw [H.look];rfl
      · rw [H.look]
      · rw [H.look]
      · rw [H.look];exact ⟨H.ins _ rfl,hm.decls⟩
      · rw [H.look];show (look ltB id (insAt m.uses (plc ltB id m.uses e.text) e.text) e.text).map _ = _
        rw [H.insk _ rfl];rfl
      · rw [H.look];intro k hk hne
        cases k with
        | m s => rfl
        | d s i => rfl
        | u s t =>
          show (look ltB id (insAt m.uses (plc ltB id m.uses e.text) e.text) t).map _ = (look ltB id m.uses t).map _
          rw [H.insj _ rfl t (fun c => hne (by rw [c,show s = e.pack from hk]))]
  · have hk:keyE e = .u e.pack e.text:=by unfold keyE;rw [if_neg (by omega),if_pos (by omega)]
    rw [hk]
    unfold locE inMod
    rw [if_neg (by omega),if_pos (.inr h),if_neg (by omega),if_pos h]
    rcases hit_or_miss so_B hm.uses e.text with ⟨y,H⟩ | H
    · refine .inl ⟨none,?_,?_,?_,?_,?_,?_⟩
      · show (match (look ltB id m.uses e.text).map (fun _ => noDecl) with | none => none | some _ => some none) = _
        rw [H.look];rfl
      · rw [H.look]
      · rw [H.look]
      · rw [H.look];exact ⟨H.del,hm.decls⟩
      · rw [H.look];show (look ltB id (delAt m.uses (plc ltB id m.uses e.text)) e.text).map _ = _
        rw [H.delk];rfl
      · rw [H.look];intro k hk hne
        cases k with
        | m s => rfl
        | d s i => rfl
        | u s t =>
          show (look ltB id (delAt m.uses (plc ltB id m.uses e.text)) t).map _ = (look ltB id m.uses t).map _
          rw [H.delj t (fun c => hne (by rw [c,show s = e.pack from hk]))]
    · refine .inr ⟨?_,?_⟩
      · show (match (look ltB id m.uses e.text).map (fun _ => noDecl) with | none => none | some _ => some none) = none
        rw [H.look];rfl
      · rw [H.look];simp
  · have hk:keyE e = .d e.pack (dAt e.fresh 0).id:=by unfold keyE concI;rw [if_neg (by omega),if_neg (by omega),if_neg (by omega),if_pos h]
    rw [hk]
    unfold locE inMod
    rw [if_neg (by omega),if_neg (by omega),if_pos h,if_neg (by omega),if_neg (by omega),if_pos h]
    show (∃ v,(match look ltI ODecl.id m.decls (dAt e.fresh 0).id with | none => some (some (dAt e.fresh 0)) | some _ => none) = some v∧_)∨((match look ltI ODecl.id m.decls (dAt e.fresh 0).id with | none => some (some (dAt e.fresh 0)) | some _ => none) = none∧_)
    rcases hit_or_miss so_I hm.decls (dAt e.fresh 0).id with ⟨y,H⟩ | H
    · rw [H.look];exact .inr ⟨rfl,by simp⟩
    · rw [H.look]
      refine .inl ⟨_,rfl,rfl,rfl,⟨hm.uses,H.ins _ rfl⟩,H.insk _ rfl,?_⟩
      intro k hk hne
      cases k with
      | m s => rfl
      | u s t => rfl
      | d s i => exact H.insj _ rfl i (fun c => hne (by rw [c,show s = e.pack from hk]))
  · have hk:keyE e = .d e.pack (dAt e.old 0).id:=by unfold keyE concI;rw [if_neg (by omega),if_neg (by omega),if_neg (by omega),if_neg (by omega)]
    rw [hk]
    unfold locE inMod
    rw [if_neg (by omega),if_neg (by omega),if_neg (by omega),if_neg (by omega),if_neg (by omega),if_neg (by omega)]
    show (∃ v,(match look ltI ODecl.id m.decls (dAt e.old 0).id with | none => none | some d => if sameD (partD e.kind d) (dAt e.old 0) then some (if e.kind = 6 then none else some (setPart e.kind d (dAt e.fresh 0))) else none) = some v∧_) ∨
      ((match look ltI ODecl.id m.decls (dAt e.old 0).id with | none => none | some d => if sameD (partD e.kind d) (dAt e.old 0) then some (if e.kind = 6 then none else some (setPart e.kind d (dAt e.fresh 0))) else none) = none∧_)
    rcases hit_or_miss so_I hm.decls (dAt e.old 0).id with ⟨y,H⟩ | H
    · rw [H.look]
      show (∃ v,(if sameD (partD e.kind y) (dAt e.old 0) then some (if e.kind = 6 then none else some (setPart e.kind y (dAt e.fresh 0))) else none) = some v∧_)∨((if sameD (partD e.kind y) (dAt e.old 0) then some (if e.kind = 6 then none else some (setPart e.kind y (dAt e.fresh 0))) else none) = none∧_)
      by_cases hs:sameD (partD e.kind y) (dAt e.old 0) = true
      · rw [if_pos hs]
        by_cases h6:e.kind = 6
        · rw [if_pos h6]
          refine .inl ⟨_,rfl,?_⟩
          simp only [if_true,h6]
          rw [if_pos (by rw [h6] at hs;exact hs)]
          refine ⟨rfl,rfl,⟨hm.uses,H.del⟩,H.delk,?_⟩
          intro k hk hne
          cases k with
          | m s => rfl
          | u s t => rfl
          | d s i => exact H.delj i (fun c => hne (by rw [c,show s = e.pack from hk]))
        · rw [if_neg h6]
          refine .inl ⟨_,rfl,?_⟩
          simp only [hs,if_true,if_neg h6]
          have hid:(setPart e.kind y (dAt e.fresh 0)).id = (dAt e.old 0).id:=by rw [setPart_id];exact H.ky
          refine ⟨trivial,trivial,⟨hm.uses,H.set _ hid⟩,H.setk _ hid,?_⟩
          intro k hk hne
          cases k with
          | m s => rfl
          | u s t => rfl
          | d s i => exact H.setj _ hid i (fun c => hne (by rw [c,show s = e.pack from hk]))
      · rw [if_neg hs]
        refine .inr ⟨rfl,?_⟩
        simp [hs]
    · rw [H.look];exact .inr ⟨rfl,by simp⟩
open Classical in
noncomputable def upd (A:Ab) (k:Key) (v:Option ODecl):Ab:=fun j => if j = k then v else A j
theorem upd_at (A:Ab) (k:Key) (v:Option ODecl):upd A k v k = v:=by unfold upd;rw [if_pos rfl]
theorem upd_no (A:Ab) {k j:Key} (v:Option ODecl) (h:j≠k):upd A k v j = A j:=by unfold upd;rw [if_neg h]
theorem upd_comm (A:Ab) {k j:Key} (h:j≠k) (v u:Option ODecl):upd (upd A k v) j u = upd (upd A j u) k v:=by
 funext i
 by_cases h1:i = k
 ·subst h1;rw [upd_no _ _ h.symm,upd_at,upd_at]
 ·by_cases h2:i = j
  ·subst h2;rw [upd_at,upd_no _ _ h,upd_at]
  ·rw [upd_no _ _ h2,upd_no _ _ h1,upd_no _ _ h1,upd_no _ _ h2]
theorem upd_upd (A:Ab) (k:Key) (v u:Option ODecl):upd (upd A k v) k u = upd A k u:=by
 funext i
 by_cases h1:i = k
 ·subst h1;rw [upd_at,upd_at]
 ·rw [upd_no _ _ h1,upd_no _ _ h1,upd_no _ _ h1]
structure OkE (A:Ab) (e:OEdit):Prop where
 there:2≤e.kind→A (.m e.pack)≠none
 empty:e.kind = 2→(∀ t,A (.u e.pack t) = none)∧∀ i,A (.d e.pack i) = none
structure Step (A:Ab) (e:OEdit) (B:Ab):Prop where
 kd:1≤e.kind∧e.kind≤9
 ok:OkE A e
 loc:∃ v,locE e (A (keyE e)) = some v∧B = upd A (keyE e) v
theorem Step.det {A B C:Ab} {e:OEdit} (h:Step A e B) (k:Step A e C):B = C:=by
 obtain ⟨_,_,v,h1,rfl⟩:=h;obtain ⟨_,_,u,h2,rfl⟩:=k
 rw [h1] at h2;injection h2 with h2;rw [h2]
theorem ab_some {l:List OMod} {k:Key} {m:OMod} (h:look ltB OMod.label l k.pack = some m):ab l k = abM m k:=by unfold ab;rw [h]
theorem ab_none {l:List OMod} {k:Key} (h:look ltB OMod.label l k.pack = none):ab l k = none:=by unfold ab;rw [h]
theorem look_nil_iff {m:OMod} (hm:SrtM m):(m.uses = []∧m.decls = [])↔(∀ s t,abM m (.u s t) = none)∧∀ s i,abM m (.d s i) = none:=by
 constructor
 ·rintro ⟨h1,h2⟩
  refine ⟨fun s t => ?_,fun s i => ?_⟩
  ·show (look ltB id m.uses t).map _ = none;rw [h1];rfl
  ·show look ltI ODecl.id m.decls i = none;rw [h2];rfl
 ·rintro ⟨h1,h2⟩
  constructor
  ·cases hu:m.uses with
   | nil => rfl
   | cons x r =>
    have:=h1 m.label x;have e:=look_of so_B hm.uses (x:=x) (by rw [hu];exact List.mem_cons_self ..);have:(look ltB id m.uses x).map (fun _ => noDecl) = none:=this;rw [show look ltB id m.uses x = some x from e] at this;cases this
  ·cases hu:m.decls with
   | nil => rfl
   | cons x r =>
    have e:=look_of so_I hm.decls (x:=x) (by rw [hu];exact List.mem_cons_self ..);have:look ltI ODecl.id m.decls x.id = none:=h2 m.label x.id;rw [e] at this;cases this
theorem srt_mem {l:List OMod} {s:ByteArray} {m:OMod} (h:look ltB OMod.label l s = some m):m∈l∧m.label = s:=look_in so_B h
theorem oneL_key {l:List OMod} (hl:Srt l) {e:OEdit} (h1:1≤e.kind) (h9:e.kind≤9) :
    ((oneL l e).2 = 0∧Srt (oneL l e).1∧Step (ab l) e (ab (oneL l e).1))∨((oneL l e).2≠0∧∀ B,¬ Step (ab l) e B):=by
  rcases hit_or_miss so_B hl.labels e.pack with ⟨m,H⟩ | H
  · have hm:SrtM m:=hl.mods m (look_in so_B H.look).1
    have hkey:∀ k:Key,k.pack = e.pack→ab l k = abM m k:=fun k hk => ab_some (by rw [hk];exact H.look)
    by_cases k1:e.kind = 1
    · refine .inr ⟨by unfold oneL;rw [H.look];simp [k1],fun B hB => ?_⟩
      obtain ⟨v,h,_⟩:=hB.loc
      have hk:keyE e = .m e.pack:=by unfold keyE;rw [if_pos (by omega)]
      rw [hk,hkey _ rfl] at h
      unfold locE at h
      rw [if_pos (.inl k1)] at h
      cases h
    by_cases k2:e.kind = 2
    · have hk:keyE e = .m e.pack:=by unfold keyE;rw [if_pos (by omega)]
      by_cases he:m.uses = []∧m.decls = []
      · have e0:oneL l e = (delAt l (plc ltB OMod.label l e.pack),0):=by unfold oneL;rw [H.look];simp [k2,he]
        rw [e0]
        obtain ⟨n1,n2⟩:=(look_nil_iff hm).1 he
        refine .inl ⟨rfl,⟨H.del,fun x hx => hl.mods x ?_⟩,⟨h1,h9⟩,⟨fun _ => ?_,fun _ => ⟨fun t => ?_,fun i => ?_⟩⟩,none,?_,?_⟩
        · unfold delAt at hx
          rcases List.mem_append.1 hx with hx | hx
          · exact List.mem_of_mem_take hx
          · exact List.mem_of_mem_drop hx
        · rw [hkey _ rfl];exact fun c => by cases c
        · rw [hkey _ rfl];exact n1 _ _
        · rw [hkey _ rfl];exact n2 _ _
        · rw [hk,hkey _ rfl];unfold locE;rw [if_neg (by omega),if_pos (.inl k2)];rfl
        · funext k
          rw [hk]
          by_cases hp:k.pack = e.pack
          · rw [ab_none (by rw [hp];exact H.delk)]
            cases k with
            | m s => rw [show s = e.pack from hp,upd_at]
            | u s t => rw [upd_no _ _ (by simp),hkey _ hp];exact (n1 _ _).symm
            | d s i => rw [upd_no _ _ (by simp),hkey _ hp];exact (n2 _ _).symm
          · rw [upd_no _ _ (fun c => hp (by rw [c];rfl))]
            unfold ab
            rw [H.delj _ hp]
      · refine .inr ⟨by unfold oneL;rw [H.look];simp [k2,he],fun B hB => he ((look_nil_iff hm).2 ?_)⟩
        obtain ⟨n1,n2⟩:=hB.ok.empty k2
        refine ⟨fun s t => ?_,fun s i => ?_⟩
        · have:=n1 t;rw [hkey _ rfl] at this;exact this
        · have:=n2 i;rw [hkey _ rfl] at this;exact this
    have e0:oneL l e = (l.set (plc ltB OMod.label l e.pack) (inMod m e).1,(inMod m e).2):=by unfold oneL;rw [H.look];simp [k1,k2]
    rw [e0]
    rcases inMod_key hm (e:=e) (by omega) h9 with ⟨v,a1,a2,a3,a4,a5,a6⟩ | ⟨a1,a2⟩
    · have hlab:(inMod m e).1.label = e.pack:=by rw [a3];exact H.ky
      refine .inl ⟨a2,⟨H.set _ hlab,fun x hx => ?_⟩,⟨h1,h9⟩,⟨fun _ => ?_,fun c => absurd c k2⟩,v,?_,?_⟩
      · rcases List.mem_or_eq_of_mem_set hx with hx | hx
        · exact hl.mods x hx
        · rw [hx];exact a4
      · rw [hkey _ rfl];exact fun c => by cases c
      · rw [hkey _ (keyE_pack e)];exact a1
      · funext k
        by_cases hp:k.pack = e.pack
        · rw [ab_some (m:=(inMod m e).1) (by rw [hp];exact H.setk _ hlab)]
          by_cases hk:k = keyE e
          · rw [hk,upd_at];exact a5
          · rw [upd_no _ _ hk,hkey _ hp];exact a6 k hp hk
        · rw [upd_no _ _ (fun c => hp (by rw [c];exact keyE_pack e))]
          unfold ab
          rw [H.setj _ hlab _ hp]
    · refine .inr ⟨a2,fun B hB => ?_⟩
      obtain ⟨v,h,_⟩:=hB.loc
      rw [hkey _ (keyE_pack e),a1] at h;cases h
  · have hkey:∀ k:Key,k.pack = e.pack→ab l k = none:=fun k hk => ab_none (by rw [hk];exact H.look)
    by_cases k1:e.kind = 1
    · have hk:keyE e = .m e.pack:=by unfold keyE;rw [if_pos (by omega)]
      have e0:oneL l e = (insAt l (plc ltB OMod.label l e.pack) ⟨e.pack,[],[]⟩,0):=by unfold oneL;rw [H.look];simp [k1]
      rw [e0]
      refine .inl ⟨rfl,⟨H.ins _ rfl,fun x hx => ?_⟩,⟨h1,h9⟩,⟨fun c => by omega,fun c => by omega⟩,some noDecl,?_,?_⟩
      · unfold insAt at hx
        rcases List.mem_append.1 hx with hx | hx
        · exact hl.mods x (List.mem_of_mem_take hx)
        · rcases List.mem_cons.1 hx with rfl | hx
          · exact ⟨List.Pairwise.nil,List.Pairwise.nil⟩
          · exact hl.mods x (List.mem_of_mem_drop hx)
      · rw [hk,hkey _ rfl];unfold locE;rw [if_pos (.inl k1)]
      · funext k
        rw [hk]
        by_cases hp:k.pack = e.pack
        · rw [ab_some (m:=⟨e.pack,[],[]⟩) (by rw [hp];exact H.insk _ rfl)]
          cases k with
          | m s => rw [show s = e.pack from hp,upd_at];rfl
          | u s t => rw [upd_no _ _ (by simp),hkey _ hp];rfl
          | d s i => rw [upd_no _ _ (by simp),hkey _ hp];rfl
        · rw [upd_no _ _ (fun c => hp (by rw [c];rfl))]
          unfold ab
          rw [H.insj _ rfl _ hp]
    · refine .inr ⟨by unfold oneL;rw [H.look];simp [k1],fun B hB => hB.ok.there (by omega) (hkey _ rfl)⟩
def Run:Ab→List OEdit→Ab→Prop
  | A,[],B => B = A
  | A,e :: r,B => editErr e = 0∧∃ C,Step A e C∧Run C r B
theorem runL_key:∀ {es:List OEdit} {l:List OMod},Srt l→((runL l es).2 = 0∧Srt (runL l es).1∧Run (ab l) es (ab (runL l es).1))∨((runL l es).2≠0∧∀ B,¬ Run (ab l) es B)
 | [],l,hl => .inl ⟨rfl,hl,rfl⟩
 | e :: r,l,hl => by
  unfold runL
  by_cases he:editErr e = 0
  ·rw [if_pos he]
   obtain ⟨⟨h1,h9⟩,_⟩:=editErr_zero.1 he
   rcases oneL_key hl h1 h9 with ⟨a1,a2,a3⟩ | ⟨a1,a2⟩
   ·rw [if_pos a1]
    rcases runL_key (es:=r) a2 with ⟨b1,b2,b3⟩ | ⟨b1,b2⟩
    ·exact .inl ⟨b1,b2,he,_,a3,b3⟩
    ·exact .inr ⟨b1,fun B ⟨_,C,hC,hB⟩ => b2 B (by rw [← hC.det a3];exact hB)⟩
   ·rw [if_neg a1];exact .inr ⟨a1,fun B ⟨_,C,hC,_⟩ => a2 C hC⟩
  ·rw [if_neg he];exact .inr ⟨he,fun B h => he h.1⟩
theorem Run.det:∀ {es:List OEdit} {A B C:Ab},Run A es B→Run A es C→B = C
 | [],_,_,_,h,k => by rw [show _ = _ from h,show _ = _ from k]
 | e :: r,_,_,_,⟨_,_,h1,h2⟩,⟨_,_,k1,k2⟩ => by rw [h1.det k1] at h2;exact Run.det h2 k2
theorem run_append:∀ {es fs:List OEdit} {A B:Ab},Run A (es ++ fs) B↔∃ C,Run A es C∧Run C fs B
 | [],fs,A,B => ⟨fun h => ⟨A,rfl,h⟩,fun ⟨C,h1,h2⟩ => by rw [show C = A from h1] at h2;exact h2⟩
 | e :: r,fs,A,B => by
  constructor
  ·rintro ⟨h1,C,h2,h3⟩
   obtain ⟨D,h4,h5⟩:=run_append.1 h3;exact ⟨D,⟨h1,C,h2,h4⟩,h5⟩
  ·rintro ⟨D,⟨h1,C,h2,h4⟩,h5⟩
   exact ⟨h1,C,h2,run_append.2 ⟨D,h4,h5⟩⟩
theorem runL_iff {es:List OEdit} {l m:List OMod} (hl:Srt l) (hm:Srt m):Run (ab l) es (ab m)↔runL l es = (m,0):=by
  rcases runL_key (es:=es) hl with ⟨a1,a2,a3⟩ | ⟨a1,a2⟩
  · constructor
    · intro h
      have:=ab_inj a2 hm (a3.det h)
      rw [← this,← a1]
    · intro h;rw [h] at a3;exact a3
  · constructor
    · intro h;exact absurd h (a2 _)
    · intro h;rw [h] at a1;exact absurd rfl a1
end Go.Proofs.YtdpnfkjafhbndaaGreatDoor
namespace Go.Proofs.YtdpnfkjafhbndaaGreatDoor
theorem fit7 {e:OEdit} (h:editErr e = 0) (h7:7≤e.kind):dAt e.old 0 = partD e.kind (dAt e.old 0)∧dAt e.fresh 0 = partD e.kind (dAt e.fresh 0)∧(dAt e.old 0).id = (dAt e.fresh 0).id∧dAt e.old 0≠dAt e.fresh 0:=by
  obtain ⟨_,hf,_⟩:=editErr_zero.1 h
  unfold fitsB at hf
  split at hf
  · split at hf
    · cases hf
    · rw [if_neg (by omega)] at hf
      unfold changeB at hf
      simp only [Bool.and_eq_true,beq_iff_eq,Bool.not_eq_true'] at hf
      refine ⟨sameD_iff.1 hf.1,sameD_iff.1 hf.2.1,hf.2.2.1,fun c => ?_⟩
      have:=hf.2.2.2
      rw [sameD_iff.2 c] at this;cases this
  · cases hf
theorem key_use {e:OEdit} (h:3≤e.kind) (h4:e.kind≤4):keyE e = .u e.pack e.text:=by unfold keyE;rw [if_neg (by omega),if_pos h4]
theorem key_decl {e:OEdit} (h:5≤e.kind):keyE e = .d e.pack (concI e):=by unfold keyE;rw [if_neg (by omega),if_neg (by omega)]
theorem loc_7 {e:OEdit} (h:7≤e.kind) {v:Option ODecl} {u:Option ODecl}:locE e v = some u↔∃ d,v = some d∧partD e.kind d = dAt e.old 0∧u = some (setPart e.kind d (dAt e.fresh 0)):=by
 unfold locE;rw [if_neg (by omega),if_neg (by omega),if_neg (by omega)]
 cases v with
 | none => simp
 | some x =>
  simp only [if_neg (show ¬ e.kind = 6 by omega)]
  constructor
  ·intro hh
   split at hh
   ·rename_i hs;injection hh with hh;exact ⟨x,rfl,sameD_iff.1 hs,hh.symm⟩
   ·cases hh
  ·rintro ⟨d,h1,h2,h3⟩;injection h1 with h1;subst h1;rw [if_pos (sameD_iff.2 h2),h3]
theorem step_swap {A B C:Ab} {a b:OEdit} (hi:indepB a b = true) (h1:Step A a B) (h2:Step B b C):∃ D,Step A b D∧Step D a C:=by
 obtain ⟨ka,oa,va,la,rfl⟩:=h1;obtain ⟨kb,ob,vb,lb,rfl⟩:=h2
 by_cases hp:a.pack = b.pack
 ·unfold indepB at hi
  rw [if_pos (eqS_iff.2 hp)] at hi;split at hi
  ·cases hi
  ·rename_i hz
   simp only [Bool.or_eq_true,not_or,Bool.not_eq_true] at hz
   obtain ⟨⟨za,zb⟩,zs⟩:=hz
   have low:∀ e:OEdit,1≤e.kind→zeroC e = false→3≤e.kind:=fun e h1 hz => by
    rcases Int.lt_or_le e.kind 3 with h | h
    ·have:zeroC e = true:=by unfold zeroC concT concI concP;rw [if_neg (by omega),if_pos (by omega),if_pos (by omega),eqS_self];rfl
     rw [this] at hz;cases hz
    ·exact h
   have a3:=low a ka.1 za;have b3:=low b kb.1 zb;have nm:∀ e:OEdit,3≤e.kind→∀ s,Key.m s≠keyE e:=fun e h s => by unfold keyE;rw [if_neg (by omega)];split <;> simp
   have obA:OkE A b:=⟨fun _ => by have:=ob.there (by omega);rwa [upd_no _ _ (nm a a3 _)] at this,fun c => by omega⟩;have oaD:∀ v,OkE (upd A (keyE b) v) a:=fun v => ⟨fun _ => by rw [upd_no _ _ (nm b b3 _)];exact oa.there (by omega),fun c => by omega⟩
   by_cases hk:keyE a = keyE b
   ·rw [← hk,upd_at] at lb
    have a5:5≤a.kind:=by
     rcases Int.lt_or_le a.kind 5 with h | h
     ·exfalso
      rw [key_use a3 (by omega)] at hk
      have hb4:b.kind≤4:=by
       rcases Int.lt_or_le b.kind 5 with h | h
       ·omega
       ·rw [key_decl h] at hk;cases hk
      rw [key_use b3 hb4] at hk
      injection hk with _ hk
      have:sameC a b = true:=by
       unfold sameC concT concI concP;rw [if_pos (by omega),if_pos (by omega),if_pos (by omega),if_pos hb4,if_pos (by omega),if_pos (by omega),eqS_iff.2 hk];rfl
      rw [this] at zs;cases zs
     ·exact h
    have b5:5≤b.kind:=by
     rcases Int.lt_or_le b.kind 5 with h | h
     ·rw [key_use b3 (by omega),key_decl a5] at hk;cases hk
     ·exact h
    have hid:concI a = concI b:=by rw [key_decl a5,key_decl b5] at hk;injection hk
    have hct:∀ e:OEdit,5≤e.kind→concT e = ⟨#[]⟩:=fun e h => by unfold concT;rw [if_neg (by omega)]
    have hpp:concP a≠0∧concP b≠0:=by
     split at hi
     ·rename_i hc
      rw [hct a a5,hct b b5,hid] at hc;simp [eqS_self] at hc
     ·simpa using hi
    have a7:7≤a.kind:=by
     rcases Int.lt_or_le a.kind 7 with h | h
     ·exact absurd (by unfold concP;rw [if_pos (by omega)]) hpp.1
     ·exact h
    have b7:7≤b.kind:=by
     rcases Int.lt_or_le b.kind 7 with h | h
     ·exact absurd (by unfold concP;rw [if_pos (by omega)]) hpp.2
     ·exact h
    have hne:a.kind≠b.kind:=fun c => by
     have:sameC a b = true:=by
      unfold sameC;rw [hct a a5,hct b b5,eqS_self,hid];unfold concP;rw [if_neg (by omega),if_neg (by omega),c];simp
     rw [this] at zs;cases zs
    obtain ⟨d,d1,d2,rfl⟩:=(loc_7 a7).1 la;obtain ⟨d',e1,e2,rfl⟩:=(loc_7 b7).1 lb
    injection e1 with e1
    subst e1;have hA:a.kind = 7∨a.kind = 8∨a.kind = 9:=by omega
    have hB:b.kind = 7∨b.kind = 8∨b.kind = 9:=by omega
    refine ⟨upd A (keyE b) (some (setPart b.kind d (dAt b.fresh 0))),⟨kb,obA,_,(loc_7 b7).2 ⟨d,by rw [← hk];exact d1,?_,rfl⟩,rfl⟩,⟨ka,oaD _,some (setPart a.kind (setPart b.kind d (dAt b.fresh 0)) (dAt a.fresh 0)),(loc_7 a7).2 ⟨_,by rw [hk,upd_at],?_,rfl⟩,?_⟩⟩
    ·rw [← e2]
     rcases hA with hA | hA | hA <;> rcases hB with hB | hB | hB <;> rw [hA,hB] <;> first | (exfalso;omega) | simp [partD,setPart]
    ·rw [← d2]
     rcases hA with hA | hA | hA <;> rcases hB with hB | hB | hB <;> rw [hA,hB] <;> first | (exfalso;omega) | simp [partD,setPart]
    ·rw [hk,upd_upd,upd_upd]
     congr 2
     rcases hA with hA | hA | hA <;> rcases hB with hB | hB | hB <;> rw [hA,hB] <;> first | (exfalso;omega) | simp [setPart]
   ·rw [upd_no _ _ (fun c => hk c.symm)] at lb
    exact ⟨_,⟨kb,obA,vb,lb,rfl⟩,ka,oaD _,va,by rw [upd_no _ _ hk];exact la,upd_comm _ (fun c => hk c.symm) _ _⟩
 ·have hk:∀ k:Key,k.pack = b.pack→k≠keyE a:=fun k h c => hp (by rw [← h,c,keyE_pack])
  have hk':∀ k:Key,k.pack = a.pack→k≠keyE b:=fun k h c => hp (by rw [← h,c,keyE_pack]);rw [upd_no _ _ (hk _ (keyE_pack b))] at lb;refine ⟨_,⟨kb,⟨fun h => ?_,fun h => ⟨fun t => ?_,fun i => ?_⟩⟩,vb,lb,rfl⟩,ka,⟨fun h => ?_,fun h => ⟨fun t => ?_,fun i => ?_⟩⟩,va,?_,?_⟩
  ·have:=ob.there h;rwa [upd_no _ _ (hk (.m b.pack) rfl)] at this
  ·have:=(ob.empty h).1 t;rwa [upd_no _ _ (hk (.u b.pack t) rfl)] at this
  ·have:=(ob.empty h).2 i;rwa [upd_no _ _ (hk (.d b.pack i) rfl)] at this
  ·rw [upd_no _ _ (hk' (.m a.pack) rfl)];exact oa.there h
  ·rw [upd_no _ _ (hk' (.u a.pack t) rfl)];exact (oa.empty h).1 t
  ·rw [upd_no _ _ (hk' (.d a.pack i) rfl)];exact (oa.empty h).2 i
  ·rw [upd_no _ _ (hk' _ (keyE_pack a))];exact la
  ·exact upd_comm _ (hk _ (keyE_pack b)) _ _
theorem run_two {A B:Ab} {a b:OEdit} {r:List OEdit} (hs:swapB a b = true) (h:Run A (a :: b :: r) B):Run A (b :: a :: r) B:=by
 unfold swapB at hs;simp only [Bool.and_eq_true,beq_iff_eq] at hs
 obtain ⟨ha,hb,hi⟩:=hs;obtain ⟨_,C,h1,_,D,h2,h3⟩:=h;obtain ⟨E,k1,k2⟩:=step_swap hi h1 h2;exact ⟨hb,E,k1,ha,D,k2,h3⟩
theorem run_swap {A B:Ab} {P R:List OEdit} {a b:OEdit} (hs:swapB a b = true):Run A (P ++ a :: b :: R) B↔Run A (P ++ b :: a :: R) B:=by
  rw [run_append,run_append]
  exact ⟨fun ⟨C,h1,h2⟩ => ⟨C,h1,run_two hs h2⟩,fun ⟨C,h1,h2⟩ => ⟨C,h1,run_two (by rw [swapB_symm];exact hs) h2⟩⟩
end Go.Proofs.YtdpnfkjafhbndaaGreatDoor
namespace Go.Proofs.YtdpnfkjafhbndaaGreatDoor
structure ValM (m:OMod):Prop where
  label:labelS m.label = true
  uses:Asc ltB id m.uses
  ulen:m.uses.length≤20
  ulab:∀ s∈m.uses,labelS s = true
  uerr:∀ i,i < m.uses.length→useErr m.label m.uses i = 0
  dlen:m.decls.length≤100
  ids:Asc ltI ODecl.id m.decls
  decl:∀ d∈m.decls,declErr m.label d = 0
theorem pairwise_next {α:Type} {R:α→α→Prop} (htr:∀ a b c,R a b→R b c→R a c):∀ {l:List α},(∀ (i:Nat) (a b:α),l[i]? = some a→l[i + 1]? = some b→R a b)→l.Pairwise R
 | [],_ => List.Pairwise.nil
 | [a],_ => List.pairwise_singleton _ _
 | a :: b :: r,h => by
  have ih:=pairwise_next htr (l:=b :: r) (fun i x y hx hy => h (i + 1) x y hx hy);have hab:=h 0 a b rfl rfl;refine List.pairwise_cons.2 ⟨fun x hx => ?_,ih⟩
  rcases List.mem_cons.1 hx with rfl | hx
  ·exact hab
  ·exact htr _ _ _ hab ((List.pairwise_cons.1 ih).1 x hx)
theorem sAt_some {l:List ByteArray} {i:Nat} {a:ByteArray} (h:l[i]? = some a):sAt l i = a:=by
 unfold sAt;rw [List.getD_eq_getElem?_getD,h];rfl
theorem asc_of_at {α κ:Type} {lt:κ→κ→Bool} {key:α→κ} (S:SO lt) {l:List α} (h:∀ (i:Nat) (a b:α),l[i]? = some a→l[i + 1]? = some b→lt (key a) (key b) = true):Asc lt key l:=
 pairwise_next (R:=fun a b => lt (key a) (key b) = true) (fun _ _ _ h k => S.tr h k) h
theorem asc_at {α κ:Type} {lt:κ→κ→Bool} {key:α→κ} {l:List α} (h:Asc lt key l) {i j:Nat} {a b:α} (hij:i < j) (ha:l[i]? = some a) (hb:l[j]? = some b):lt (key a) (key b) = true:=by
 obtain ⟨hi,rfl⟩:=List.getElem?_eq_some_iff.1 ha;obtain ⟨hj,rfl⟩:=List.getElem?_eq_some_iff.1 hb;exact List.pairwise_iff_getElem.1 h i j hi hj hij
theorem usesErr_zero {l:List ByteArray}:usesErr l = 0↔l.length≤20∧(∀ s∈l,labelS s = true)∧Asc ltB id l:=by
 unfold usesErr
 constructor
 ·intro h
  split at h
  ·omega
  ·rename_i hl
   rw [nz_zero] at h
   have hu:∀ i,i < l.length→labelS (sAt l i) = true∧(0 < i→ltB (sAt l (i - 1)) (sAt l i) = true):=by
    intro i hi;have:=h i hi;unfold useAt at this;split at this
    ·rename_i h1
     split at this
     ·omega
     ·rename_i h2;exact ⟨h1,fun h0 => by unfold ltB;rw [← Bool.not_eq_false];exact fun e => h2 ⟨h0,e⟩⟩
    ·omega
   refine ⟨by omega,fun s hs => ?_,asc_of_at so_B fun i a b ha hb => ?_⟩
   ·obtain ⟨i,hi,rfl⟩:=List.mem_iff_getElem.1 hs
    have:=(hu i hi).1;rwa [sAt_some (List.getElem?_eq_getElem hi)] at this
   ·have hi:i + 1 < l.length:=(List.getElem?_eq_some_iff.1 hb).1
    have:=(hu (i + 1) hi).2 (by omega);rwa [Nat.add_sub_cancel,sAt_some ha,sAt_some hb] at this
 ·rintro ⟨h1,h2,h3⟩
  rw [if_neg (by omega),nz_zero];intro i hi;unfold useAt;rw [sAt_some (List.getElem?_eq_getElem hi),if_pos (h2 _ (List.getElem_mem hi)),if_neg];rintro ⟨h0,hc⟩;rw [sAt_some (List.getElem?_eq_getElem (show i - 1 < l.length by omega))] at hc;have:=asc_at h3 (show i - 1 < i by omega) (List.getElem?_eq_getElem (show i - 1 < l.length by omega)) (List.getElem?_eq_getElem hi);exact absurd (this.symm.trans hc) (by simp)
theorem declsAt_zero {label:ByteArray} {l:List ODecl}:nzFrom (declAt label l) l.length 0 = 0↔(∀ d∈l,declErr label d = 0)∧Asc ltI ODecl.id l:=by
 rw [nz_zero]
 constructor
 ·intro h
  have hd:∀ k,k < l.length→declErr label (dAt l k) = 0∧(0 < k→(dAt l (k - 1)).id < (dAt l k).id):=by
   intro k hk;have:=h k hk;unfold declAt at this;split at this
   ·rename_i h1
    split at this
    ·omega
    ·rename_i h2;exact ⟨h1,fun h0 => by have:=fun e => h2 ⟨h0,e⟩;omega⟩
   ·rename_i h1;exact absurd this h1
  refine ⟨fun d hd' => ?_,asc_of_at so_I fun i a b ha hb => ?_⟩
  ·obtain ⟨i,hi,rfl⟩:=List.mem_iff_getElem.1 hd'
   have:=(hd i hi).1;rwa [dAt_of (List.getElem?_eq_getElem hi)] at this
  ·have hi:i + 1 < l.length:=(List.getElem?_eq_some_iff.1 hb).1
   have:=(hd (i + 1) hi).2 (by omega);rw [Nat.add_sub_cancel,dAt_of ha,dAt_of hb] at this;exact decide_eq_true this
 ·rintro ⟨h1,h2⟩ k hk
  unfold declAt;rw [dAt_of (List.getElem?_eq_getElem hk),if_pos (h1 _ (List.getElem_mem hk)),if_neg];rintro ⟨h0,hc⟩;rw [dAt_of (List.getElem?_eq_getElem (show k - 1 < l.length by omega))] at hc;have:=of_decide_eq_true (asc_at h2 (show k - 1 < k by omega) (List.getElem?_eq_getElem (show k - 1 < l.length by omega)) (List.getElem?_eq_getElem hk));omega
theorem modErr_zero {m:OMod}:modErr m = 0↔ValM m:=by
 unfold modErr
 constructor
 ·intro h
  split at h
  ·rename_i hl
   split at h
   ·rename_i hu
    split at h
    ·rename_i hue
     split at h
     ·omega
     ·rename_i hd
      obtain ⟨u1,u2,u3⟩:=usesErr_zero.1 hu;obtain ⟨d1,d2⟩:=declsAt_zero.1 h;exact ⟨hl,u3,u1,u2,nz_zero.1 hue,by omega,d2,d1⟩
    ·rename_i hue;exact absurd h hue
   ·rename_i hu;exact absurd h hu
  ·omega
 ·intro V
  rw [if_pos V.label,if_pos (usesErr_zero.2 ⟨V.ulen,V.ulab,V.uses⟩),if_pos (nz_zero.2 V.uerr),if_neg (by have:=V.dlen;omega),declsAt_zero.2 ⟨V.decl,V.ids⟩]
theorem ValM.srt {m:OMod} (V:ValM m):SrtM m:=⟨V.uses,V.ids⟩
theorem ordAt_zero {l:List OMod}:nzFrom (ordAt l) l.length 0 = 0↔Asc ltB OMod.label l:=by
 rw [nz_zero]
 constructor
 ·intro h
  refine asc_of_at so_B fun i a b ha hb => ?_;have hi:i + 1 < l.length:=(List.getElem?_eq_some_iff.1 hb).1;have:=h (i + 1) hi;unfold ordAt at this;rw [Nat.add_sub_cancel,mAt_of ha,mAt_of hb] at this;split at this
  ·omega
  ·rename_i h2;rw [← Bool.not_eq_false];exact fun e => h2 ⟨by omega,e⟩
 ·intro h i hi
  unfold ordAt;rw [if_neg];rintro ⟨h0,hc⟩;rw [mAt_of (List.getElem?_eq_getElem (show i - 1 < l.length by omega)),mAt_of (List.getElem?_eq_getElem hi)] at hc;have:=asc_at h (show i - 1 < i by omega) (List.getElem?_eq_getElem (show i - 1 < l.length by omega)) (List.getElem?_eq_getElem hi);rw [hc] at this;cases this
theorem modsErr_zero {l:List OMod}:modsErr l = 0↔Asc ltB OMod.label l∧testErr l = 0:=by
 unfold modsErr
 constructor
 ·intro h
  split at h
  ·rename_i h1;exact ⟨ordAt_zero.1 h1,h⟩
  ·omega
 ·rintro ⟨h1,h2⟩;rw [if_pos (ordAt_zero.2 h1)];exact h2
theorem srt_of {l:List OMod} (h:modsErr l = 0):Srt l:=by
 obtain ⟨h1,h2⟩:=modsErr_zero.1 h;exact ⟨h1,fun m hm => (modErr_zero.1 (testErr_zero.1 h2 m hm)).srt⟩
theorem appR_ok {l m:List OMod} {es:List OEdit}:appR l es = (m,0)↔modsErr l = 0∧runL l es = (m,0)∧testErr m = 0:=by
  unfold appR
  constructor
  · intro h
    split at h
    · rename_i h1
      split at h
      · rename_i h2
        split at h
        · rename_i h3
          injection h with h4 h5
          rw [← h4]
          exact ⟨h1,by rw [← h2],h3⟩
        · rename_i h3;injection h with h4 h5;exact absurd h5 h3
      · rename_i h2;injection h with h4 h5;exact absurd h5 h2
    · rename_i h1;injection h with h4 h5;exact absurd h5 h1
  · rintro ⟨h1,h2,h3⟩
    rw [if_pos h1,h2];simp [h3]
theorem appR_bad {l:List OMod} {es:List OEdit} (h:(appR l es).2≠0):(appR l es).1 = []:=by
 unfold appR at h ⊢;split
 ·rename_i h1
  rw [if_pos h1] at h;split
  ·rename_i h2
   rw [if_pos h2] at h;split
   ·rename_i h3;rw [if_pos h3] at h;exact absurd rfl h
   ·rfl
  ·rfl
 ·rfl
theorem appR_pair {l:List OMod} {es:List OEdit} (h:(appR l es).2 = 0):appR l es = ((appR l es).1,0):=by rw [← h]
theorem runL_srt {l m:List OMod} {es:List OEdit} (hl:Srt l) (h:runL l es = (m,0)):Srt m:=by
 rcases runL_key (es:=es) hl with ⟨_,a2,_⟩ | ⟨a1,_⟩
 ·rw [h] at a2;exact a2
 ·rw [h] at a1;exact absurd rfl a1
theorem app_same {l:List OMod} {es fs:List OEdit} (h:∀ A B,Run A es B↔Run A fs B):((appR l es).2 = 0↔(appR l fs).2 = 0)∧(appR l es).1 = (appR l fs).1:=by
  have one:∀ {es fs:List OEdit},(∀ A B,Run A es B↔Run A fs B)→(appR l es).2 = 0→appR l fs = appR l es:=fun {es fs} h h0 => by
    obtain ⟨h1,h2,h3⟩:=appR_ok.1 (appR_pair h0)
    have hl:=srt_of h1
    have hs:=runL_srt hl h2
    rw [appR_pair h0]
    exact appR_ok.2 ⟨h1,(runL_iff hl hs).1 ((h _ _).1 ((runL_iff hl hs).2 h2)),h3⟩
  by_cases h1:(appR l es).2 = 0
  · have:=one h h1
    rw [this];exact ⟨Iff.rfl,rfl⟩
  · by_cases h2:(appR l fs).2 = 0
    · have:=one (fun A B => (h A B).symm) h2
      rw [this];exact ⟨Iff.rfl,rfl⟩
    · exact ⟨⟨fun c => absurd c h1,fun c => absurd c h2⟩,by rw [appR_bad h1,appR_bad h2]⟩
theorem app_order {l:List OMod} {a b:OEdit} (h:swapB a b = true):((appR l [a,b]).2 = 0↔(appR l [b,a]).2 = 0)∧(appR l [a,b]).1 = (appR l [b,a]).1:=
  app_same fun _ _ => run_swap (P:=[]) (R:=[]) h
end Go.Proofs.YtdpnfkjafhbndaaGreatDoor
namespace Go.Proofs.YtdpnfkjafhbndaaGreatDoor
theorem run_swapAt {l:List OEdit} {k:Nat} (hk:k + 1 < l.length) (hs:swapB (eAt l k) (eAt l (k + 1)) = true) (A B:Ab):Run A l B↔Run A (swapAt l k) B:=by
 obtain ⟨P,R,h1,h2⟩:=split_at hk;generalize eAt l k = a at *;generalize eAt l (k + 1) = b at *;subst h1;rw [← h2,swapAt_split];exact run_swap hs
theorem mv_run:∀ (n:Nat) {l m:List OEdit} {f t:Nat},f - t + (t - f) = n→f < l.length→t < l.length→mv l f t = some m→∀ A B,Run A l B↔Run A m B
 | n,l,m,f,t,hn,hf,ht,h => by
  rcases Nat.lt_trichotomy f t with hc | hc | hc
  ·rw [mv_up hc] at h
   split at h
   ·rename_i hs
    intro A B;rw [run_swapAt (by omega) hs A B];exact mv_run (n - 1) (by omega) (by rw [swapAt_len];omega) (by rw [swapAt_len];omega) h A B
   ·cases h
  ·subst hc
   rw [mv_same] at h
   injection h with h
   subst h;exact fun _ _ => Iff.rfl
  ·rw [mv_down hc] at h
   split at h
   ·rename_i hs
    intro A B;rw [run_swapAt (k:=f - 1) (by omega) (by rw [show f - 1 + 1 = f by omega];exact hs) A B];exact mv_run (n - 1) (by omega) (by rw [swapAt_len];omega) (by rw [swapAt_len];omega) h A B
   ·cases h
termination_by n => n
theorem swapAt_at {l:List OEdit} {k:Nat} (hk:k + 1 < l.length):eAt (swapAt l k) k = eAt l (k + 1)∧eAt (swapAt l k) (k + 1) = eAt l k∧swapAt (swapAt l k) k = l:=by
 obtain ⟨P,R,h1,h2⟩:=split_at hk;generalize ha:eAt l k = a at *;generalize hb:eAt l (k + 1) = b at *;subst h1;rw [← h2,swapAt_split];refine ⟨eAt_of (by rw [List.getElem?_append_right (by omega)];simp),eAt_of (by rw [List.getElem?_append_right (by omega)];simp),swapAt_split⟩
theorem mv_last_up:∀ (n:Nat) {l:List OEdit} {f t:Nat},t - f = n→f < t→t < l.length→mv l f t = (mv l f (t - 1)).bind fun x => if swapB (eAt x (t - 1)) (eAt x t) then some (swapAt x (t - 1)) else none
  | n,l,f,t,hn,hc,ht => by
    rw [mv_up hc]
    by_cases h1:f + 1 = t
    · subst h1
      rw [Nat.add_sub_cancel,mv_same l f,mv_same (swapAt l f) (f + 1)]
      rfl
    · rw [mv_up (show f < t - 1 by omega)]
      split
      · exact mv_last_up (n - 1) (by omega) (by omega) (by rw [swapAt_len];omega)
      · rfl
theorem mv_last_down:∀ (n:Nat) {l:List OEdit} {f t:Nat},f - t = n→t < f→f < l.length→mv l f t = (mv l f (t + 1)).bind fun x => if swapB (eAt x t) (eAt x (t + 1)) then some (swapAt x t) else none
 | n,l,f,t,hn,hc,hf => by
  rw [mv_down hc]
  by_cases h1:f = t + 1
  ·subst h1
   rw [Nat.add_sub_cancel,mv_same l (t + 1),mv_same (swapAt l t) t];rfl
  ·rw [mv_down (show t + 1 < f by omega)]
   split
   ·exact mv_last_down (n - 1) (by omega) (by omega) (by rw [swapAt_len];omega)
   ·rfl
theorem mv_len:∀ (n:Nat) {l m:List OEdit} {f t:Nat},f - t + (t - f) = n→mv l f t = some m→m.length = l.length
 | n,l,m,f,t,hn,h => by
  rcases Nat.lt_trichotomy f t with hc | hc | hc
  ·rw [mv_up hc] at h
   split at h
   ·rw [mv_len (n - 1) (by omega) h,swapAt_len]
   ·cases h
  ·subst hc;rw [mv_same] at h;injection h with h;subst h;rfl
  ·rw [mv_down hc] at h
   split at h
   ·rw [mv_len (n - 1) (by omega) h,swapAt_len]
   ·cases h
termination_by n => n
theorem mv_back:∀ (n:Nat) {l m:List OEdit} {f t:Nat},f - t + (t - f) = n→f < l.length→t < l.length→mv l f t = some m→mv m t f = some l
  | n,l,m,f,t,hn,hf,ht,h => by
    have hlen:=mv_len n hn h
    rcases Nat.lt_trichotomy f t with hc | hc | hc
    · rw [mv_up hc] at h
      split at h
      · rename_i hs
        have ih:=mv_back (n - 1) (l:=swapAt l f) (by omega) (by rw [swapAt_len];omega) (by rw [swapAt_len];omega) h
        obtain ⟨s1,s2,s3⟩:=swapAt_at (l:=l) (k:=f) (by omega)
        rw [mv_last_down (t - f) rfl hc (by omega),ih]
        show (if swapB (eAt (swapAt l f) f) (eAt (swapAt l f) (f + 1)) = true then some (swapAt (swapAt l f) f) else none) = some l
        rw [s1,s2,s3,swapB_symm,if_pos hs]
      · cases h
    · subst hc;rw [mv_same] at h;injection h with h;subst h;rw [mv_same]
    · rw [mv_down hc] at h
      split at h
      · rename_i hs
        have ih:=mv_back (n - 1) (l:=swapAt l (f - 1)) (by omega) (by rw [swapAt_len];omega) (by rw [swapAt_len];omega) h
        have e1:f - 1 + 1 = f:=by omega
        obtain ⟨s1,s2,s3⟩:=swapAt_at (l:=l) (k:=f - 1) (by omega)
        rw [e1] at s1 s2
        rw [mv_last_up (f - t) rfl hc (by omega),ih]
        show (if swapB (eAt (swapAt l (f - 1)) (f - 1)) (eAt (swapAt l (f - 1)) f) = true then some (swapAt (swapAt l (f - 1)) (f - 1)) else none) = some l
        rw [s1,s2,s3,swapB_symm,if_pos hs]
      · cases h
termination_by n => n
theorem moveL_run {l m:List OEdit} {f t:Int} (h:moveL l f t = some m):moveL m t f = some l∧∀ A B,Run A l B↔Run A m B:=by
  unfold moveL at h ⊢
  split at h
  · cases h
  · rename_i hc
    simp only [not_or] at hc
    have hf:f.toNat < l.length:=by omega
    have ht:t.toNat < l.length:=by omega
    have hlen:=mv_len _ rfl h
    refine ⟨?_,mv_run _ rfl hf ht h⟩
    rw [hlen,if_neg (by omega)]
    exact mv_back _ rfl hf ht h
end Go.Proofs.YtdpnfkjafhbndaaGreatDoor
namespace Go.Proofs.YtdpnfkjafhbndaaGreatDoor
end Go.Proofs.YtdpnfkjafhbndaaGreatDoor
namespace Go.Proofs.YtdpnfkjafhbndaaGreatDoor
theorem use_ok {m:OMod} (V:ValM m) {u:ByteArray} (hu:u∈m.uses):labelS u = true∧nmS (aliasS u) = true∧u≠m.label:=by
 obtain ⟨i,hi,rfl⟩:=List.mem_iff_getElem.1 hu;have h:=V.uerr i hi;unfold useErr at h;rw [sAt_some (List.getElem?_eq_getElem hi)] at h;split at h
 ·rename_i h1
  split at h
  ·omega
  ·split at h
   ·omega
   ·rename_i h3
    exact ⟨V.ulab _ hu,h1,fun e => h3 (by rw [e];simp)⟩
 ·omega
theorem rDeclErr_zero {d:ODecl}:rDeclErr d = 0↔0≤d.id∧d.id≤999999∧(1≤d.kind∧d.kind≤3)∧namesErr d.names = 0∧exprErr d.body = 0:=by
 unfold rDeclErr
 by_cases h1:d.id < 0∨999999 < d.id
 ·rw [if_pos h1];exact ⟨fun c => by omega,fun c => by omega⟩
 ·rw [if_neg h1]
  by_cases h2:d.kind < 1∨3 < d.kind
  ·rw [if_pos h2];exact ⟨fun c => by omega,fun c => by omega⟩
  ·rw [if_neg h2]
   by_cases h3:namesErr d.names = 0
   ·rw [if_pos h3];exact ⟨fun c => ⟨by omega,by omega,by omega,h3,c⟩,fun c => c.2.2.2.2⟩
   ·rw [if_neg h3];exact ⟨fun c => absurd c h3,fun c => absurd c.2.2.2.1 h3⟩
theorem declErr_parts {p:ByteArray} {d:ODecl}:declErr p d = 0↔1≤d.id∧d.id≤999999∧(1≤d.kind∧d.kind≤3)∧namesErr d.names = 0∧exprErr d.body = 0∧anyX (kindP 4) d.body = false∧(freeOf d.body).length = 0∧anyX (refP p) d.body = false:=by
 unfold declErr
 by_cases h1:d.id < 1
 ·rw [if_pos h1];exact ⟨fun c => by omega,fun c => by omega⟩
 ·rw [if_neg h1]
  by_cases h2:rDeclErr d = 0
  ·rw [if_pos h2]
   obtain ⟨_,g2,g3,g4,g5⟩:=rDeclErr_zero.1 h2
   by_cases h3:anyX (kindP 4) d.body = true
   ·rw [if_pos h3];exact ⟨fun c => by omega,fun c => by rw [c.2.2.2.2.2.1] at h3;cases h3⟩
   ·rw [if_neg h3]
    by_cases h4:(freeOf d.body).length = 0
    ·rw [if_pos h4]
     by_cases h5:anyX (refP p) d.body = true
     ·rw [if_pos h5];exact ⟨fun c => by omega,fun c => by rw [c.2.2.2.2.2.2.2] at h5;cases h5⟩
     ·rw [if_neg h5];exact ⟨fun _ => ⟨by omega,g2,g3,g4,g5,by simpa using h3,h4,by simpa using h5⟩,fun _ => rfl⟩
    ·rw [if_neg h4];exact ⟨fun c => by omega,fun c => absurd c.2.2.2.2.2.2.1 h4⟩
  ·rw [if_neg h2];exact ⟨fun c => absurd c h2,fun c => absurd (rDeclErr_zero.2 ⟨by omega,c.2.1,c.2.2.1,c.2.2.2.1,c.2.2.2.2.1⟩) h2⟩
end Go.Proofs.YtdpnfkjafhbndaaGreatDoor

