/- Ascending lists, plainly: where a key stands, what putting in, taking out and setting do. No program in sight. Applying edits to modules, plainly; the same on what stands under keys. No program in sight. Edits under the keys: leading back, in the other order. No program in sight. Valid modules; the laws of applying edits, plainly. No program in sight. -/
import Derived.Test.YtdpnfkjafhbndaaGreatDoorESEr
namespace Go.Proofs.YtdpnfkjafhbndaaGreatDoor
structure SO {κ:Type} (lt:κ→κ→Bool):Prop where
  irr:∀ a,lt a a = false
  tr:∀ {a b c},lt a b = true→lt b c = true→lt a c = true
  tot:∀ {a b},lt a b = false→lt b a = false→a = b
section
variable {α κ:Type} (lt:κ→κ→Bool) (key:α→κ)
def Asc (l:List α):Prop:=l.Pairwise fun a b => lt (key a) (key b) = true
def plc (l:List α) (k:κ):Nat:=l.findIdx fun x => !(lt (key x) k)
inductive Plc (l:List α) (k:κ):Prop
  | hit (P R:List α) (y:α):l = P ++ y :: R→P.length = plc lt key l k→key y = k→(∀ x∈P,lt (key x) k = true)→(∀ x∈R,lt k (key x) = true)→Plc l k
  | miss (P R:List α):l = P ++ R→P.length = plc lt key l k→(∀ x∈P,lt (key x) k = true)→(∀ x∈R,lt k (key x) = true)→Plc l k
variable {lt:κ→κ→Bool} {key:α→κ}
theorem plc_le (l:List α) (k:κ):plc lt key l k≤l.length:=List.findIdx_le_length
theorem plc_cases (S:SO lt) {l:List α} (h:Asc lt key l) (k:κ):Plc lt key l k:=by
 have hs:l = l.take (plc lt key l k) ++ l.drop (plc lt key l k):=(List.take_append_drop _ _).symm;have hl:(l.take (plc lt key l k)).length = plc lt key l k:=by rw [List.length_take];exact Nat.min_eq_left (plc_le l k)
 have h1:∀ x∈l.take (plc lt key l k),lt (key x) k = true:=by
  intro x hx;obtain ⟨j,hj,rfl⟩:=List.mem_iff_getElem.1 hx;rw [hl] at hj;have:=List.not_of_lt_findIdx (p:=fun x => !(lt (key x) k)) (xs:=l) (i:=j) hj;rw [List.getElem_take]
  simpa using this
 cases hd:l.drop (plc lt key l k) with
 | nil => exact .miss _ [] (by rw [hd] at hs;exact hs) hl h1 (fun x hx => by cases hx)
 | cons y R =>
  have hlt:plc lt key l k < l.length:=by
   rcases Nat.lt_or_ge (plc lt key l k) l.length with h | h
   ·exact h
   ·rw [List.drop_eq_nil_of_le h] at hd;cases hd
  have hy:l[plc lt key l k] = y:=by
   rw [List.drop_eq_getElem_cons hlt] at hd;injection hd
  have hyk:lt (key y) k = false:=by
   have:=List.findIdx_getElem (p:=fun x => !(lt (key x) k)) (xs:=l) (w:=hlt);rw [← hy];simp only [Bool.not_eq_true'] at this
   exact this
  have hA:Asc lt key (l.drop (plc lt key l k)):=h.sublist (List.drop_sublist _ _);rw [hd] at hA hs;have hR:=(List.pairwise_cons.1 hA).1
  cases hk:lt k (key y) with
  | false => 
   have e:=S.tot hyk hk;exact .hit _ R y hs hl e h1 (fun x hx => by rw [← e];exact hR x hx)
  | true => exact .miss _ (y :: R) hs hl h1 (fun x hx => by
    rcases List.mem_cons.1 hx with rfl | hx
    ·exact hk
    ·exact S.tr hk (hR x hx))
def insAt (l:List α) (i:Nat) (x:α):List α:=l.take i ++ x :: l.drop i
def delAt (l:List α) (i:Nat):List α:=l.take i ++ l.drop (i + 1)
theorem insAt_split {P R:List α} {i:Nat} (h:P.length = i) (x:α):insAt (P ++ R) i x = P ++ x :: R:=by
 subst h;unfold insAt;rw [List.take_left,List.drop_left]
theorem delAt_split {P R:List α} {i:Nat} {y:α} (h:P.length = i):delAt (P ++ y :: R) i = P ++ R:=by
 subst h;unfold delAt;rw [List.take_left,List.drop_append,List.drop_eq_nil_of_le (by omega)];simp
theorem set_split {P R:List α} {i:Nat} {y:α} (h:P.length = i) (x:α):(P ++ y :: R).set i x = P ++ x :: R:=by
 subst h;rw [List.set_append_right _ _ (Nat.le_refl _)];simp
theorem at_split {P R:List α} {i:Nat} {y:α} (h:P.length = i):(P ++ y :: R)[i]? = some y:=by
 subst h;rw [List.getElem?_append_right (Nat.le_refl _)];simp
theorem asc_split {P R:List α}:Asc lt key (P ++ R)↔Asc lt key P∧Asc lt key R∧∀ x∈P,∀ y∈R,lt (key x) (key y) = true:=List.pairwise_append
theorem asc_cons {y:α} {R:List α}:Asc lt key (y :: R)↔(∀ x∈R,lt (key y) (key x) = true)∧Asc lt key R:=List.pairwise_cons
theorem asc_inj (S:SO lt) {l:List α} (h:Asc lt key l) {x y:α} (hx:x∈l) (hy:y∈l) (e:key x = key y):x = y:=by
  obtain ⟨i,hi,rfl⟩:=List.mem_iff_getElem.1 hx
  obtain ⟨j,hj,rfl⟩:=List.mem_iff_getElem.1 hy
  have hp:=List.pairwise_iff_getElem.1 h
  rcases Nat.lt_trichotomy i j with hij | hij | hij
  · have:=hp i j hi hj hij;rw [e,S.irr] at this;cases this
  · subst hij;rfl
  · have:=hp j i hj hi hij;rw [e,S.irr] at this;cases this
theorem asc_nodup (S:SO lt) {l:List α} (h:Asc lt key l):l.Nodup:=h.imp fun {a b} h e => by subst e;rw [S.irr] at h;cases h
theorem asc_unique (S:SO lt) {l m:List α} (hl:Asc lt key l) (hm:Asc lt key m) (h:∀ x,x∈l↔x∈m):l = m:=
 List.Perm.eq_of_pairwise (le:=fun a b => lt (key a) (key b) = true) (fun a b _ _ h1 h2 => by have:=S.tr h1 h2;rw [S.irr] at this;cases this) hl hm ((List.perm_ext_iff_of_nodup (asc_nodup S hl) (asc_nodup S hm)).2 h)
def eqK (lt:κ→κ→Bool) (a b:κ):Bool:=!(lt a b) && !(lt b a)
theorem eqK_iff (S:SO lt) {a b:κ}:eqK lt a b = true↔a = b:=by
 unfold eqK
 constructor
 ·intro h;simp at h;exact S.tot h.1 h.2
 ·rintro rfl;rw [S.irr];rfl
theorem eqK_no (S:SO lt) {a b:κ} (h:a≠b):eqK lt a b = false:=by
 rw [← Bool.not_eq_true,eqK_iff S];exact h
theorem eqK_yes (S:SO lt) {a b:κ} (h:a = b):eqK lt a b = true:=(eqK_iff S).2 h
def look (lt:κ→κ→Bool) (key:α→κ) (l:List α) (k:κ):Option α:=l.find? fun x => eqK lt (key x) k
theorem look_in (S:SO lt) {l:List α} {k:κ} {x:α} (h:look lt key l k = some x):x∈l∧key x = k:=
 ⟨List.mem_of_find?_eq_some h,(eqK_iff S).1 (List.find?_some (p:=fun x => eqK lt (key x) k) h)⟩
theorem look_of (S:SO lt) {l:List α} (h:Asc lt key l) {x:α} (hx:x∈l):look lt key l (key x) = some x:=by
 cases hf:look lt key l (key x) with
 | none => unfold look at hf;rw [List.find?_eq_none] at hf;exact absurd (eqK_yes S rfl) (hf x hx)
 | some y => obtain ⟨h1,h2⟩:=look_in S hf;rw [asc_inj S h h1 hx h2]
theorem look_none (S:SO lt) {l:List α} {k:κ}:look lt key l k = none↔∀ x∈l,key x≠k:=by
 unfold look;rw [List.find?_eq_none];exact ⟨fun h x hx e => h x hx ((eqK_iff S).2 e),fun h x hx e => h x hx ((eqK_iff S).1 e)⟩
theorem look_unique (S:SO lt) {l m:List α} (hl:Asc lt key l) (hm:Asc lt key m) (h:∀ k,look lt key l k = look lt key m k):l = m:=
 asc_unique S hl hm fun x => by
  constructor
  ·intro hx;exact (look_in S ((h (key x)).symm.trans (look_of S hl hx))).1
  ·intro hx;exact (look_in S ((h (key x)).trans (look_of S hm hx))).1
theorem look_append (P R:List α) (k:κ):look lt key (P ++ R) k = (look lt key P k).or (look lt key R k):=by
 unfold look;rw [List.find?_append]
theorem look_here (S:SO lt) {y:α} (R:List α) {k:κ} (h:key y = k):look lt key (y :: R) k = some y:=by
 unfold look;rw [List.find?_cons,eqK_yes S h]
theorem look_there (S:SO lt) {y:α} (R:List α) {k:κ} (h:key y≠k):look lt key (y :: R) k = look lt key R k:=by
 unfold look;rw [List.find?_cons,eqK_no S h]
theorem ne_of_lt (S:SO lt) {a b:κ} (h:lt a b = true):a≠b:=fun e => by rw [e,S.irr] at h;cases h
structure Hit (lt:κ→κ→Bool) (key:α→κ) (l:List α) (k:κ) (y:α):Prop where
  le:plc lt key l k < l.length
  elt:l[plc lt key l k]? = some y
  ky:key y = k
  look:look lt key l k = some y
  del:Asc lt key (delAt l (plc lt key l k))
  delk:Go.Proofs.YtdpnfkjafhbndaaGreatDoor.look lt key (delAt l (plc lt key l k)) k = none
  delj:∀ j,j≠k→Go.Proofs.YtdpnfkjafhbndaaGreatDoor.look lt key (delAt l (plc lt key l k)) j = Go.Proofs.YtdpnfkjafhbndaaGreatDoor.look lt key l j
  set:∀ x,key x = k→Asc lt key (l.set (plc lt key l k) x)
  setk:∀ x,key x = k→Go.Proofs.YtdpnfkjafhbndaaGreatDoor.look lt key (l.set (plc lt key l k) x) k = some x
  setj:∀ x,key x = k→∀ j,j≠k→Go.Proofs.YtdpnfkjafhbndaaGreatDoor.look lt key (l.set (plc lt key l k) x) j = Go.Proofs.YtdpnfkjafhbndaaGreatDoor.look lt key l j
structure Miss (lt:κ→κ→Bool) (key:α→κ) (l:List α) (k:κ):Prop where
  elt:∀ y,l[plc lt key l k]? = some y→key y≠k
  look:look lt key l k = none
  ins:∀ x,key x = k→Asc lt key (insAt l (plc lt key l k) x)
  insk:∀ x,key x = k→Go.Proofs.YtdpnfkjafhbndaaGreatDoor.look lt key (insAt l (plc lt key l k) x) k = some x
  insj:∀ x,key x = k→∀ j,j≠k→Go.Proofs.YtdpnfkjafhbndaaGreatDoor.look lt key (insAt l (plc lt key l k) x) j = Go.Proofs.YtdpnfkjafhbndaaGreatDoor.look lt key l j
theorem hit_or_miss (S:SO lt) {l:List α} (h:Asc lt key l) (k:κ):(∃ y,Hit lt key l k y)∨Miss lt key l k:=by
 rcases plc_cases S h k with ⟨P,R,y,hl,hp,hk,h1,h2⟩ | ⟨P,R,hl,hp,h1,h2⟩
 ·have hP:look lt key P k = none:=(look_none S).2 fun x hx => ne_of_lt S (h1 x hx)
  have hR:look lt key R k = none:=(look_none S).2 fun x hx => (ne_of_lt S (h2 x hx)).symm;have hA:=h;rw [hl,asc_split,asc_cons] at hA;obtain ⟨a1,⟨a2,a3⟩,a4⟩:=hA;have e1:delAt l P.length = P ++ R:=by rw [hl];exact delAt_split rfl
  have e2:∀ x,l.set P.length x = P ++ x :: R:=fun x => by rw [hl];exact set_split rfl x
  have aj:∀ (x:α) (j:κ),key x = k→j≠k→look lt key (P ++ x :: R) j = (look lt key P j).or (look lt key R j):=fun x j hx hj => by
   rw [look_append,look_there S R (by rw [hx];exact fun e => hj e.symm)]
  have ak:∀ x:α,key x = k→look lt key (P ++ x :: R) k = some x:=fun x hx => by
   rw [look_append,hP,look_here S R hx];rfl
  refine .inl ⟨y,?_,?_,hk,?_,?_,?_,fun j hj => ?_,fun x hx => ?_,fun x hx => ?_,fun x hx j hj => ?_⟩
  ·rw [← hp,hl,List.length_append,List.length_cons];omega
  ·rw [← hp];subst hl;exact at_split rfl
  ·rw [hl];exact ak y hk
  ·rw [← hp,e1];exact asc_split.2 ⟨a1,a3,fun x hx z hz => a4 x hx z (List.mem_cons_of_mem _ hz)⟩
  ·rw [← hp,e1,look_append,hP,hR];rfl
  ·rw [← hp,e1,look_append,hl,aj y j hk hj]
  ·rw [← hp,e2]
   refine asc_split.2 ⟨a1,asc_cons.2 ⟨fun z hz => by rw [hx];exact h2 z hz,a3⟩,fun z hz u hu => ?_⟩
   rcases List.mem_cons.1 hu with rfl | hu
   ·rw [hx];exact h1 z hz
   ·exact a4 z hz u (List.mem_cons_of_mem _ hu)
  ·rw [← hp,e2];exact ak x hx
  ·rw [← hp,e2,aj x j hx hj,hl,aj y j hk hj]
 ·have hP:look lt key P k = none:=(look_none S).2 fun x hx => ne_of_lt S (h1 x hx)
  have hR:look lt key R k = none:=(look_none S).2 fun x hx => (ne_of_lt S (h2 x hx)).symm;have e1:∀ x,insAt l P.length x = P ++ x :: R:=fun x => by rw [hl];exact insAt_split rfl x
  have hA:=h;rw [hl,asc_split] at hA;obtain ⟨a1,a3,a4⟩:=hA;refine .inr ⟨fun y hy => ?_,?_,fun x hx => ?_,fun x hx => ?_,fun x hx j hj => ?_⟩
  ·rw [← hp,hl,List.getElem?_append_right (Nat.le_refl _),Nat.sub_self] at hy
   cases R with
   | nil => cases hy
   | cons z R => simp at hy;subst hy;exact (ne_of_lt S (h2 z (List.mem_cons_self ..))).symm
  ·rw [hl,look_append,hP,hR];rfl
  ·rw [← hp,e1]
   refine asc_split.2 ⟨a1,asc_cons.2 ⟨fun z hz => by rw [hx];exact h2 z hz,a3⟩,fun z hz u hu => ?_⟩
   rcases List.mem_cons.1 hu with rfl | hu
   ·rw [hx];exact h1 z hz
   ·exact a4 z hz u hu
  ·rw [← hp,e1,look_append,hP,look_here S R hx];rfl
  ·rw [← hp,e1,look_append,look_there S R (by rw [hx];exact fun e => hj e.symm),hl,look_append]
end
theorem less_irrefl:∀ a:List UInt8,Op.bytesLess a a = false
 | [] => by simp [Op.bytesLess]
 | x :: a => by simp [Op.bytesLess,less_irrefl a]
theorem less_trans:∀ {a b c:List UInt8},Op.bytesLess a b = true→Op.bytesLess b c = true→Op.bytesLess a c = true
 | [],[],_,h,_ => by simp [Op.bytesLess] at h
 | _,_ :: _,[],_,h => by simp [Op.bytesLess] at h
 | [],_ :: _,_ :: _,_,_ => by simp [Op.bytesLess]
 | _ :: _,[],_,h,_ => by simp [Op.bytesLess] at h
 | x :: a,y :: b,z :: c,h1,h2 => by
  simp only [Op.bytesLess,Bool.or_eq_true,decide_eq_true_eq,Bool.and_eq_true,beq_iff_eq] at h1 h2 ⊢
  rcases h1 with h1 | ⟨rfl,h1⟩
  ·rcases h2 with h2 | ⟨rfl,h2⟩
   ·exact .inl (UInt8.lt_trans h1 h2)
   ·exact .inl h1
  ·rcases h2 with h2 | ⟨rfl,h2⟩
   ·exact .inl h2
   ·exact .inr ⟨rfl,less_trans h1 h2⟩
theorem less_total:∀ a b:List UInt8,Op.bytesLess a b = true∨a = b∨Op.bytesLess b a = true
 | [],[] => .inr (.inl rfl)
 | [],_ :: _ => .inl (by simp [Op.bytesLess])
 | _ :: _,[] => .inr (.inr (by simp [Op.bytesLess]))
 | x :: a,y :: b => by
  simp only [Op.bytesLess,Bool.or_eq_true,decide_eq_true_eq,Bool.and_eq_true,beq_iff_eq]
  rcases Nat.lt_trichotomy x.toNat y.toNat with h | h | h
  ·exact .inl (.inl (UInt8.lt_iff_toNat_lt.2 h))
  ·have e:x = y:=UInt8.toNat_inj.1 h
   subst e
   rcases less_total a b with h | h | h
   ·exact .inl (.inr ⟨rfl,h⟩)
   ·exact .inr (.inl (by rw [h]))
   ·exact .inr (.inr (.inr ⟨rfl,h⟩))
  ·exact .inr (.inr (.inl (UInt8.lt_iff_toNat_lt.2 h)))
def ltB (a b:ByteArray):Bool:=Op.bytesLess a.toList b.toList
def ltI (a b:Int):Bool:=decide (a < b)
theorem ba_eq {a b:ByteArray} (h:a.data.toList = b.data.toList):a = b:=by
 cases a;cases b;simp only [ByteArray.mk.injEq];exact Array.toList_inj.1 h
theorem so_B:SO ltB:=⟨fun a => less_irrefl _,fun h k => less_trans h k,fun {a b} h k => by
 unfold ltB at h k
 rcases less_total a.toList b.toList with h1 | h1 | h1
 ·rw [h] at h1;cases h1
 ·rw [tl,tl] at h1;exact ba_eq h1
 ·rw [k] at h1;cases h1⟩
theorem so_I:SO ltI:=⟨fun a => by simp [ltI],fun h k => by simp [ltI] at *;omega,fun h k => by simp [ltI] at *;omega⟩
def setPart (k:Int) (d f:ODecl):ODecl:=if k = 7 then ⟨d.id,d.kind,d.pub,f.names,d.doubt,d.body⟩ else if k = 8 then ⟨d.id,d.kind,d.pub,d.names,d.doubt,f.body⟩ else ⟨d.id,f.kind,f.pub,d.names,f.doubt,d.body⟩
def inMod (m:OMod) (e:OEdit):OMod × Int:=
 if e.kind = 3 then (match look ltB id m.uses e.text with
  | some _ => (m,7)
  | none => (⟨m.label,insAt m.uses (plc ltB id m.uses e.text) e.text,m.decls⟩,0))
 else if e.kind = 4 then (match look ltB id m.uses e.text with
  | some _ => (⟨m.label,delAt m.uses (plc ltB id m.uses e.text),m.decls⟩,0)
  | none => (m,8))
 else if e.kind = 5 then (match look ltI ODecl.id m.decls (dAt e.fresh 0).id with
  | some _ => (m,7)
  | none => (⟨m.label,m.uses,insAt m.decls (plc ltI ODecl.id m.decls (dAt e.fresh 0).id) (dAt e.fresh 0)⟩,0))
 else match look ltI ODecl.id m.decls (dAt e.old 0).id with
  | none => (m,8)
  | some d => if sameD (partD e.kind d) (dAt e.old 0) then
    (if e.kind = 6 then (⟨m.label,m.uses,delAt m.decls (plc ltI ODecl.id m.decls (dAt e.old 0).id)⟩,0)
     else (⟨m.label,m.uses,m.decls.set (plc ltI ODecl.id m.decls (dAt e.old 0).id) (setPart e.kind d (dAt e.fresh 0))⟩,0))
   else (m,17)
def oneL (l:List OMod) (e:OEdit):List OMod × Int:=
 match look ltB OMod.label l e.pack with
 | none => if e.kind = 1 then (insAt l (plc ltB OMod.label l e.pack) ⟨e.pack,[],[]⟩,0) else (l,8)
 | some m => if e.kind = 1 then (l,7) else if e.kind = 2 then (if m.uses = []∧m.decls = [] then (delAt l (plc ltB OMod.label l e.pack),0) else (l,17))
   else (l.set (plc ltB OMod.label l e.pack) (inMod m e).1,(inMod m e).2)
def runL:List OMod→List OEdit→List OMod × Int
 | l,[] => (l,0)
 | l,e :: r => if editErr e = 0 then (if (oneL l e).2 = 0 then runL (oneL l e).1 r else oneL l e) else (l,editErr e)
def ordAt (l:List OMod) (i:Nat):Int:=if 0 < i∧ltB (mAt l (i - 1)).label (mAt l i).label = false then 10 else 0
def modsErr (l:List OMod):Int:=if nzFrom (ordAt l) l.length 0 = 0 then testErr l else 10
def appR (l:List OMod) (es:List OEdit):List OMod × Int:=
 if modsErr l = 0 then (if (runL l es).2 = 0 then (if testErr (runL l es).1 = 0 then ((runL l es).1,0) else ([],testErr (runL l es).1)) else ([],(runL l es).2)) else ([],modsErr l)
structure SrtM (m:OMod):Prop where
 uses:Asc ltB id m.uses
 decls:Asc ltI ODecl.id m.decls
structure Srt (l:List OMod):Prop where
 labels:Asc ltB OMod.label l
 mods:∀ m∈l,SrtM m
inductive Key where
 | m (s:ByteArray)
 | u (s t:ByteArray)
 | d (s:ByteArray) (i:Int)
def Key.pack:Key→ByteArray
 | .m s => s
 | .u s _ => s
 | .d s _ => s
abbrev Ab:=Key→Option ODecl
def abM (m:OMod):Key→Option ODecl
 | .m _ => some noDecl
 | .u _ t => (look ltB id m.uses t).map fun _ => noDecl
 | .d _ i => look ltI ODecl.id m.decls i
def ab (l:List OMod):Ab:=fun k => match look ltB OMod.label l k.pack with
 | some m => abM m k
 | none => none
theorem srtM_unique {m n:OMod} (hm:SrtM m) (hn:SrtM n) (e:m.label = n.label) (h:∀ k,k.pack = m.label→abM m k = abM n k):m = n:=by
 have h1:m.uses = n.uses:=look_unique so_B hm.uses hn.uses fun t => by
  have this:(look ltB id m.uses t).map (fun _ => noDecl) = (look ltB id n.uses t).map (fun _ => noDecl):=h (.u m.label t) rfl
  cases ha:look ltB id m.uses t with
  | none => rw [ha] at this;cases hb:look ltB id n.uses t with
   | none => rfl
   | some y => rw [hb] at this;cases this
  | some x => rw [ha] at this;cases hb:look ltB id n.uses t with
   | none => rw [hb] at this;cases this
   | some y => rw [show x = t from (look_in so_B ha).2,show y = t from (look_in so_B hb).2]
 have h2:m.decls = n.decls:=look_unique so_I hm.decls hn.decls fun i => h (.d m.label i) rfl
 cases m;cases n;simp only at e h1 h2;subst e h1 h2;rfl
theorem ab_inj {l m:List OMod} (hl:Srt l) (hm:Srt m) (h:ab l = ab m):l = m:=by
 refine look_unique so_B hl.labels hm.labels fun s => ?_;have h1:=congrFun h (.m s);unfold ab at h1;simp only [Key.pack] at h1
 cases ha:look ltB OMod.label l s with
 | none => rw [ha] at h1;cases hb:look ltB OMod.label m s with
  | none => rfl
  | some y => rw [hb] at h1;cases h1
 | some x => rw [ha] at h1;cases hb:look ltB OMod.label m s with
  | none => rw [hb] at h1;cases h1
  | some y =>
   obtain ⟨hx,ex⟩:=look_in so_B ha;obtain ⟨hy,ey⟩:=look_in so_B hb;refine congrArg some (srtM_unique (hl.mods x hx) (hm.mods y hy) (by rw [ex,ey]) fun k hk => ?_);have:=congrFun h k;unfold ab at this;rw [hk,ex] at this;rw [ha,hb] at this;exact this
def keyE (e:OEdit):Key:=if e.kind≤2 then .m e.pack else if e.kind≤4 then .u e.pack e.text else .d e.pack (concI e)
def locE (e:OEdit) (v:Option ODecl):Option (Option ODecl):=
 if e.kind = 1∨e.kind = 3 then (match v with | none => some (some noDecl) | some _ => none)
 else if e.kind = 2∨e.kind = 4 then (match v with | none => none | some _ => some none)
 else if e.kind = 5 then (match v with | none => some (some (dAt e.fresh 0)) | some _ => none)
 else match v with
  | none => none
  | some d => if sameD (partD e.kind d) (dAt e.old 0) then some (if e.kind = 6 then none else some (setPart e.kind d (dAt e.fresh 0))) else none
theorem keyE_pack (e:OEdit):(keyE e).pack = e.pack:=by
 unfold keyE;split
 ·rfl
 ·split <;> rfl
theorem setPart_id (k:Int) (d f:ODecl):(setPart k d f).id = d.id:=by
 unfold setPart;split
 ·rfl
 ·split <;> rfl
theorem inMod_key {m:OMod} (hm:SrtM m) {e:OEdit} (h3:3≤e.kind) (h9:e.kind≤9) :
    (∃ v,locE e (abM m (keyE e)) = some v∧(inMod m e).2 = 0∧(inMod m e).1.label = m.label∧SrtM (inMod m e).1∧abM (inMod m e).1 (keyE e) = v∧∀ k,k.pack = e.pack→k≠keyE e→abM (inMod m e).1 k = abM m k) ∨
    (locE e (abM m (keyE e)) = none∧(inMod m e).2≠0):=by
  have h:e.kind = 3∨e.kind = 4∨e.kind = 5∨6≤e.kind:=by omega
  rcases h with h | h | h | h
  · have hk:keyE e = .u e.pack e.text:=by unfold keyE;rw [if_neg (by omega),if_pos (by omega)]
    rw [hk]
    unfold locE inMod
    rw [if_pos (.inr h),if_pos h]
    rcases hit_or_miss so_B hm.uses e.text with ⟨y,H⟩ | H
    · refine .inr ⟨?_,?_⟩
      · show (match (look ltB id m.uses e.text).map (fun _ => noDecl) with | none => some (some noDecl) | some _ => none) = none
        rw [H.look];rfl
      · rw [H.look];simp
    · refine .inl ⟨some noDecl,?_,?_,?_,?_,?_,?_⟩
      · show (match (look ltB id m.uses e.text).map (fun _ => noDecl) with | none => some (some noDecl) | some _ => none) = _
        rw [H.look];rfl
      · rw [H.look]
      · rw [H.look]
      · rw [H.look];exact ⟨H.ins _ rfl,hm.decls⟩
      · rw [H.look];show (look ltB id (insAt m.uses (plc ltB id m.uses e.text) e.text) e.text).map _ = _
        rw [H.insk _ rfl];rfl
      · rw [H.look];intro k hk hne
        cases k with
        | m s => rfl
        | d s i => rfl
        | u s t =>
          show (look ltB id (insAt m.uses (plc ltB id m.uses e.text) e.text) t).map _ = (look ltB id m.uses t).map _
          rw [H.insj _ rfl t (fun c => hne (by rw [c,show s = e.pack from hk]))]
  · have hk:keyE e = .u e.pack e.text:=by unfold keyE;rw [if_neg (by omega),if_pos (by omega)]
    rw [hk]
    unfold locE inMod
    rw [if_neg (by omega),if_pos (.inr h),if_neg (by omega),if_pos h]
    rcases hit_or_miss so_B hm.uses e.text with ⟨y,H⟩ | H
    · refine .inl ⟨none,?_,?_,?_,?_,?_,?_⟩
      · show (match (look ltB id m.uses e.text).map (fun _ => noDecl) with | none => none | some _ => some none) = _
        rw [H.look];rfl
      · rw [H.look]
      · rw [H.look]
      · rw [H.look];exact ⟨H.del,hm.decls⟩
      · rw [H.look];show (look ltB id (delAt m.uses (plc ltB id m.uses e.text)) e.text).map _ = _
        rw [H.delk];rfl
      · rw [H.look];intro k hk hne
        cases k with
        | m s => rfl
        | d s i => rfl
        | u s t =>
          show (look ltB id (delAt m.uses (plc ltB id m.uses e.text)) t).map _ = (look ltB id m.uses t).map _
          rw [H.delj t (fun c => hne (by rw [c,show s = e.pack from hk]))]
    · refine .inr ⟨?_,?_⟩
      · show (match (look ltB id m.uses e.text).map (fun _ => noDecl) with | none => none | some _ => some none) = none
        rw [H.look];rfl
      · rw [H.look];simp
  · have hk:keyE e = .d e.pack (dAt e.fresh 0).id:=by unfold keyE concI;rw [if_neg (by omega),if_neg (by omega),if_neg (by omega),if_pos h]
    rw [hk]
    unfold locE inMod
    rw [if_neg (by omega),if_neg (by omega),if_pos h,if_neg (by omega),if_neg (by omega),if_pos h]
    show (∃ v,(match look ltI ODecl.id m.decls (dAt e.fresh 0).id with | none => some (some (dAt e.fresh 0)) | some _ => none) = some v∧_)∨((match look ltI ODecl.id m.decls (dAt e.fresh 0).id with | none => some (some (dAt e.fresh 0)) | some _ => none) = none∧_)
    rcases hit_or_miss so_I hm.decls (dAt e.fresh 0).id with ⟨y,H⟩ | H
    · rw [H.look];exact .inr ⟨rfl,by simp⟩
    · rw [H.look]
      refine .inl ⟨_,rfl,rfl,rfl,⟨hm.uses,H.ins _ rfl⟩,H.insk _ rfl,?_⟩
      intro k hk hne
      cases k with
      | m s => rfl
      | u s t => rfl
      | d s i => exact H.insj _ rfl i (fun c => hne (by rw [c,show s = e.pack from hk]))
  · have hk:keyE e = .d e.pack (dAt e.old 0).id:=by unfold keyE concI;rw [if_neg (by omega),if_neg (by omega),if_neg (by omega),if_neg (by omega)]
    rw [hk]
    unfold locE inMod
    rw [if_neg (by omega),if_neg (by omega),if_neg (by omega),if_neg (by omega),if_neg (by omega),if_neg (by omega)]
    show (∃ v,(match look ltI ODecl.id m.decls (dAt e.old 0).id with | none => none | some d => if sameD (partD e.kind d) (dAt e.old 0) then some (if e.kind = 6 then none else some (setPart e.kind d (dAt e.fresh 0))) else none) = some v∧_) ∨
      ((match look ltI ODecl.id m.decls (dAt e.old 0).id with | none => none | some d => if sameD (partD e.kind d) (dAt e.old 0) then some (if e.kind = 6 then none else some (setPart e.kind d (dAt e.fresh 0))) else none) = none∧_)
    rcases hit_or_miss so_I hm.decls (dAt e.old 0).id with ⟨y,H⟩ | H
    · rw [H.look]
      show (∃ v,(if sameD (partD e.kind y) (dAt e.old 0) then some (if e.kind = 6 then none else some (setPart e.kind y (dAt e.fresh 0))) else none) = some v∧_)∨((if sameD (partD e.kind y) (dAt e.old 0) then some (if e.kind = 6 then none else some (setPart e.kind y (dAt e.fresh 0))) else none) = none∧_)
      by_cases hs:sameD (partD e.kind y) (dAt e.old 0) = true
      · rw [if_pos hs]
        by_cases h6:e.kind = 6
        · rw [if_pos h6]
          refine .inl ⟨_,rfl,?_⟩
          simp only [if_true,h6]
          rw [if_pos (by rw [h6] at hs;exact hs)]
          refine ⟨rfl,rfl,⟨hm.uses,H.del⟩,H.delk,?_⟩
          intro k hk hne
          cases k with
          | m s => rfl
          | u s t => rfl
          | d s i => exact H.delj i (fun c => hne (by rw [c,show s = e.pack from hk]))
        · rw [if_neg h6]
          refine .inl ⟨_,rfl,?_⟩
          simp only [hs,if_true,if_neg h6]
          have hid:(setPart e.kind y (dAt e.fresh 0)).id = (dAt e.old 0).id:=by rw [setPart_id];exact H.ky
          refine ⟨trivial,trivial,⟨hm.uses,H.set _ hid⟩,H.setk _ hid,?_⟩
          intro k hk hne
          cases k with
          | m s => rfl
          | u s t => rfl
          | d s i => exact H.setj _ hid i (fun c => hne (by rw [c,show s = e.pack from hk]))
      · rw [if_neg hs]
        refine .inr ⟨rfl,?_⟩
        simp [hs]
    · rw [H.look];exact .inr ⟨rfl,by simp⟩
open Classical in
noncomputable def upd (A:Ab) (k:Key) (v:Option ODecl):Ab:=fun j => if j = k then v else A j
theorem upd_at (A:Ab) (k:Key) (v:Option ODecl):upd A k v k = v:=by unfold upd;rw [if_pos rfl]
theorem upd_no (A:Ab) {k j:Key} (v:Option ODecl) (h:j≠k):upd A k v j = A j:=by unfold upd;rw [if_neg h]
theorem upd_upd (A:Ab) (k:Key) (v u:Option ODecl):upd (upd A k v) k u = upd A k u:=by
 funext i
 by_cases h1:i = k
 ·subst h1;rw [upd_at,upd_at]
 ·rw [upd_no _ _ h1,upd_no _ _ h1,upd_no _ _ h1]
theorem upd_same (A:Ab) (k:Key):upd A k (A k) = A:=by
 funext i
 by_cases h1:i = k
 ·subst h1;rw [upd_at]
 ·rw [upd_no _ _ h1]
structure OkE (A:Ab) (e:OEdit):Prop where
 there:2≤e.kind→A (.m e.pack)≠none
 empty:e.kind = 2→(∀ t,A (.u e.pack t) = none)∧∀ i,A (.d e.pack i) = none
structure Step (A:Ab) (e:OEdit) (B:Ab):Prop where
 kd:1≤e.kind∧e.kind≤9
 ok:OkE A e
 loc:∃ v,locE e (A (keyE e)) = some v∧B = upd A (keyE e) v
theorem Step.det {A B C:Ab} {e:OEdit} (h:Step A e B) (k:Step A e C):B = C:=by
 obtain ⟨_,_,v,h1,rfl⟩:=h;obtain ⟨_,_,u,h2,rfl⟩:=k
 rw [h1] at h2;injection h2 with h2;rw [h2]
theorem ab_some {l:List OMod} {k:Key} {m:OMod} (h:look ltB OMod.label l k.pack = some m):ab l k = abM m k:=by unfold ab;rw [h]
theorem ab_none {l:List OMod} {k:Key} (h:look ltB OMod.label l k.pack = none):ab l k = none:=by unfold ab;rw [h]
theorem ab_m {l:List OMod} {s:ByteArray}:ab l (.m s) = none↔look ltB OMod.label l s = none:=by
 cases h:look ltB OMod.label l s with
 | none => rw [ab_none (k:=.m s) h];simp
 | some m => rw [ab_some (k:=.m s) h];exact ⟨fun c => (by cases c),fun c => (by cases c)⟩
theorem look_nil_iff {m:OMod} (hm:SrtM m):(m.uses = []∧m.decls = [])↔(∀ s t,abM m (.u s t) = none)∧∀ s i,abM m (.d s i) = none:=by
 constructor
 ·rintro ⟨h1,h2⟩
  refine ⟨fun s t => ?_,fun s i => ?_⟩
  ·show (look ltB id m.uses t).map _ = none;rw [h1];rfl
  ·show look ltI ODecl.id m.decls i = none;rw [h2];rfl
 ·rintro ⟨h1,h2⟩
  constructor
  ·cases hu:m.uses with
   | nil => rfl
   | cons x r =>
    have:=h1 m.label x;have e:=look_of so_B hm.uses (x:=x) (by rw [hu];exact List.mem_cons_self ..);have:(look ltB id m.uses x).map (fun _ => noDecl) = none:=this;rw [show look ltB id m.uses x = some x from e] at this;cases this
  ·cases hu:m.decls with
   | nil => rfl
   | cons x r =>
    have e:=look_of so_I hm.decls (x:=x) (by rw [hu];exact List.mem_cons_self ..);have:look ltI ODecl.id m.decls x.id = none:=h2 m.label x.id;rw [e] at this;cases this
theorem oneL_key {l:List OMod} (hl:Srt l) {e:OEdit} (h1:1≤e.kind) (h9:e.kind≤9) :
    ((oneL l e).2 = 0∧Srt (oneL l e).1∧Step (ab l) e (ab (oneL l e).1))∨((oneL l e).2≠0∧∀ B,¬ Step (ab l) e B):=by
  rcases hit_or_miss so_B hl.labels e.pack with ⟨m,H⟩ | H
  · have hm:SrtM m:=hl.mods m (look_in so_B H.look).1
    have hkey:∀ k:Key,k.pack = e.pack→ab l k = abM m k:=fun k hk => ab_some (by rw [hk];exact H.look)
    by_cases k1:e.kind = 1
    · refine .inr ⟨by unfold oneL;rw [H.look];simp [k1],fun B hB => ?_⟩
      obtain ⟨v,h,_⟩:=hB.loc
      have hk:keyE e = .m e.pack:=by unfold keyE;rw [if_pos (by omega)]
      rw [hk,hkey _ rfl] at h
      unfold locE at h
      rw [if_pos (.inl k1)] at h
      cases h
    by_cases k2:e.kind = 2
    · have hk:keyE e = .m e.pack:=by unfold keyE;rw [if_pos (by omega)]
      by_cases he:m.uses = []∧m.decls = []
      · have e0:oneL l e = (delAt l (plc ltB OMod.label l e.pack),0):=by unfold oneL;rw [H.look];simp [k2,he]
        rw [e0]
        obtain ⟨n1,n2⟩:=(look_nil_iff hm).1 he
        refine .inl ⟨rfl,⟨H.del,fun x hx => hl.mods x ?_⟩,⟨h1,h9⟩,⟨fun _ => ?_,fun _ => ⟨fun t => ?_,fun i => ?_⟩⟩,none,?_,?_⟩
        · unfold delAt at hx
          rcases List.mem_append.1 hx with hx | hx
          · exact List.mem_of_mem_take hx
          · exact List.mem_of_mem_drop hx
        · rw [hkey _ rfl];exact fun c => by cases c
        · rw [hkey _ rfl];exact n1 _ _
        · rw [hkey _ rfl];exact n2 _ _
        · rw [hk,hkey _ rfl];unfold locE;rw [if_neg (by omega),if_pos (.inl k2)];rfl
        · funext k
          rw [hk]
          by_cases hp:k.pack = e.pack
          · rw [ab_none (by rw [hp];exact H.delk)]
            cases k with
            | m s => rw [show s = e.pack from hp,upd_at]
            | u s t => rw [upd_no _ _ (by simp),hkey _ hp];exact (n1 _ _).symm
            | d s i => rw [upd_no _ _ (by simp),hkey _ hp];exact (n2 _ _).symm
          · rw [upd_no _ _ (fun c => hp (by rw [c];rfl))]
            unfold ab
            rw [H.delj _ hp]
      · refine .inr ⟨by unfold oneL;rw [H.look];simp [k2,he],fun B hB => he ((look_nil_iff hm).2 ?_)⟩
        obtain ⟨n1,n2⟩:=hB.ok.empty k2
        refine ⟨fun s t => ?_,fun s i => ?_⟩
        · have:=n1 t;rw [hkey _ rfl] at this;exact this
        · have:=n2 i;rw [hkey _ rfl] at this;exact this
    have e0:oneL l e = (l.set (plc ltB OMod.label l e.pack) (inMod m e).1,(inMod m e).2):=by unfold oneL;rw [H.look];simp [k1,k2]
    rw [e0]
    rcases inMod_key hm (e:=e) (by omega) h9 with ⟨v,a1,a2,a3,a4,a5,a6⟩ | ⟨a1,a2⟩
    · have hlab:(inMod m e).1.label = e.pack:=by rw [a3];exact H.ky
      refine .inl ⟨a2,⟨H.set _ hlab,fun x hx => ?_⟩,⟨h1,h9⟩,⟨fun _ => ?_,fun c => absurd c k2⟩,v,?_,?_⟩
      · rcases List.mem_or_eq_of_mem_set hx with hx | hx
        · exact hl.mods x hx
        · rw [hx];exact a4
      · rw [hkey _ rfl];exact fun c => by cases c
      · rw [hkey _ (keyE_pack e)];exact a1
      · funext k
        by_cases hp:k.pack = e.pack
        · rw [ab_some (m:=(inMod m e).1) (by rw [hp];exact H.setk _ hlab)]
          by_cases hk:k = keyE e
          · rw [hk,upd_at];exact a5
          · rw [upd_no _ _ hk,hkey _ hp];exact a6 k hp hk
        · rw [upd_no _ _ (fun c => hp (by rw [c];exact keyE_pack e))]
          unfold ab
          rw [H.setj _ hlab _ hp]
    · refine .inr ⟨a2,fun B hB => ?_⟩
      obtain ⟨v,h,_⟩:=hB.loc
      rw [hkey _ (keyE_pack e),a1] at h;cases h
  · have hkey:∀ k:Key,k.pack = e.pack→ab l k = none:=fun k hk => ab_none (by rw [hk];exact H.look)
    by_cases k1:e.kind = 1
    · have hk:keyE e = .m e.pack:=by unfold keyE;rw [if_pos (by omega)]
      have e0:oneL l e = (insAt l (plc ltB OMod.label l e.pack) ⟨e.pack,[],[]⟩,0):=by unfold oneL;rw [H.look];simp [k1]
      rw [e0]
      refine .inl ⟨rfl,⟨H.ins _ rfl,fun x hx => ?_⟩,⟨h1,h9⟩,⟨fun c => by omega,fun c => by omega⟩,some noDecl,?_,?_⟩
      · unfold insAt at hx
        rcases List.mem_append.1 hx with hx | hx
        · exact hl.mods x (List.mem_of_mem_take hx)
        · rcases List.mem_cons.1 hx with rfl | hx
          · exact ⟨List.Pairwise.nil,List.Pairwise.nil⟩
          · exact hl.mods x (List.mem_of_mem_drop hx)
      · rw [hk,hkey _ rfl];unfold locE;rw [if_pos (.inl k1)]
      · funext k
        rw [hk]
        by_cases hp:k.pack = e.pack
        · rw [ab_some (m:=⟨e.pack,[],[]⟩) (by rw [hp];exact H.insk _ rfl)]
          cases k with
          | m s => rw [show s = e.pack from hp,upd_at];rfl
          | u s t => rw [upd_no _ _ (by simp),hkey _ hp];rfl
          | d s i => rw [upd_no _ _ (by simp),hkey _ hp];rfl
        · rw [upd_no _ _ (fun c => hp (by rw [c];rfl))]
          unfold ab
          rw [H.insj _ rfl _ hp]
    · refine .inr ⟨by unfold oneL;rw [H.look];simp [k1],fun B hB => hB.ok.there (by omega) (hkey _ rfl)⟩
def Run:Ab→List OEdit→Ab→Prop
  | A,[],B => B = A
  | A,e :: r,B => editErr e = 0∧∃ C,Step A e C∧Run C r B
theorem runL_key:∀ {es:List OEdit} {l:List OMod},Srt l→((runL l es).2 = 0∧Srt (runL l es).1∧Run (ab l) es (ab (runL l es).1))∨((runL l es).2≠0∧∀ B,¬ Run (ab l) es B)
 | [],l,hl => .inl ⟨rfl,hl,rfl⟩
 | e :: r,l,hl => by
  unfold runL
  by_cases he:editErr e = 0
  ·rw [if_pos he]
   obtain ⟨⟨h1,h9⟩,_⟩:=editErr_zero.1 he
   rcases oneL_key hl h1 h9 with ⟨a1,a2,a3⟩ | ⟨a1,a2⟩
   ·rw [if_pos a1]
    rcases runL_key (es:=r) a2 with ⟨b1,b2,b3⟩ | ⟨b1,b2⟩
    ·exact .inl ⟨b1,b2,he,_,a3,b3⟩
    ·exact .inr ⟨b1,fun B ⟨_,C,hC,hB⟩ => b2 B (by rw [← hC.det a3];exact hB)⟩
   ·rw [if_neg a1];exact .inr ⟨a1,fun B ⟨_,C,hC,_⟩ => a2 C hC⟩
  ·rw [if_neg he];exact .inr ⟨he,fun B h => he h.1⟩
theorem Run.det:∀ {es:List OEdit} {A B C:Ab},Run A es B→Run A es C→B = C
 | [],_,_,_,h,k => by rw [show _ = _ from h,show _ = _ from k]
 | e :: r,_,_,_,⟨_,_,h1,h2⟩,⟨_,_,k1,k2⟩ => by rw [h1.det k1] at h2;exact Run.det h2 k2
theorem run_append:∀ {es fs:List OEdit} {A B:Ab},Run A (es ++ fs) B↔∃ C,Run A es C∧Run C fs B
 | [],fs,A,B => ⟨fun h => ⟨A,rfl,h⟩,fun ⟨C,h1,h2⟩ => by rw [show C = A from h1] at h2;exact h2⟩
 | e :: r,fs,A,B => by
  constructor
  ·rintro ⟨h1,C,h2,h3⟩
   obtain ⟨D,h4,h5⟩:=run_append.1 h3;exact ⟨D,⟨h1,C,h2,h4⟩,h5⟩
  ·rintro ⟨D,⟨h1,C,h2,h4⟩,h5⟩
   exact ⟨h1,C,h2,run_append.2 ⟨D,h4,h5⟩⟩
theorem runL_iff {es:List OEdit} {l m:List OMod} (hl:Srt l) (hm:Srt m):Run (ab l) es (ab m)↔runL l es = (m,0):=by
  rcases runL_key (es:=es) hl with ⟨a1,a2,a3⟩ | ⟨a1,a2⟩
  · constructor
    · intro h
      have:=ab_inj a2 hm (a3.det h)
      rw [← this,← a1]
    · intro h;rw [h] at a3;exact a3
  · constructor
    · intro h;exact absurd h (a2 _)
    · intro h;rw [h] at a1;exact absurd rfl a1
end Go.Proofs.YtdpnfkjafhbndaaGreatDoor
namespace Go.Proofs.YtdpnfkjafhbndaaGreatDoor
theorem fit7 {e:OEdit} (h:editErr e = 0) (h7:7≤e.kind):dAt e.old 0 = partD e.kind (dAt e.old 0)∧dAt e.fresh 0 = partD e.kind (dAt e.fresh 0)∧(dAt e.old 0).id = (dAt e.fresh 0).id∧dAt e.old 0≠dAt e.fresh 0:=by
  obtain ⟨_,hf,_⟩:=editErr_zero.1 h
  unfold fitsB at hf
  split at hf
  · split at hf
    · cases hf
    · rw [if_neg (by omega)] at hf
      unfold changeB at hf
      simp only [Bool.and_eq_true,beq_iff_eq,Bool.not_eq_true'] at hf
      refine ⟨sameD_iff.1 hf.1,sameD_iff.1 hf.2.1,hf.2.2.1,fun c => ?_⟩
      have:=hf.2.2.2
      rw [sameD_iff.2 c] at this;cases this
  · cases hf
structure WfA (A:Ab):Prop where
 wf:∀ k,A (.m k.pack) = none→A k = none
 nm:∀ s x,A (.m s) = some x→x = noDecl
 nu:∀ s t x,A (.u s t) = some x→x = noDecl
theorem wf_ab (l:List OMod):WfA (ab l):=by
 refine ⟨fun k h => ab_none (ab_m.1 h),fun s x h => ?_,fun s t x h => ?_⟩
 ·cases hk:look ltB OMod.label l s with
  | none => rw [ab_none (k:=.m s) hk] at h;cases h
  | some m => rw [ab_some (k:=.m s) hk] at h;injection h with h;exact h.symm
 ·cases hk:look ltB OMod.label l s with
  | none => rw [ab_none (k:=.u s t) hk] at h;cases h
  | some m =>
   rw [ab_some (k:=.u s t) hk] at h;have h:(look ltB id m.uses t).map (fun _ => noDecl) = some x:=h
   cases hu:look ltB id m.uses t with
   | none => rw [hu] at h;cases h
   | some y => rw [hu] at h;injection h with h;exact h.symm
theorem key_low {e:OEdit} (h:e.kind≤2):keyE e = .m e.pack:=by unfold keyE;rw [if_pos h]
theorem key_use {e:OEdit} (h:3≤e.kind) (h4:e.kind≤4):keyE e = .u e.pack e.text:=by unfold keyE;rw [if_neg (by omega),if_pos h4]
theorem key_decl {e:OEdit} (h:5≤e.kind):keyE e = .d e.pack (concI e):=by unfold keyE;rw [if_neg (by omega),if_neg (by omega)]
theorem loc_13 {e:OEdit} (h:e.kind = 1∨e.kind = 3) {v:Option ODecl} {u:Option ODecl}:locE e v = some u↔v = none∧u = some noDecl:=by
 unfold locE;rw [if_pos h]
 cases v with
 | none => simp [eq_comm]
 | some x => simp
theorem loc_24 {e:OEdit} (h:e.kind = 2∨e.kind = 4) {v:Option ODecl} {u:Option ODecl}:locE e v = some u↔v≠none∧u = none:=by
 unfold locE;rw [if_neg (by omega),if_pos h]
 cases v with
 | none => simp
 | some x => simp [eq_comm]
theorem loc_5 {e:OEdit} (h:e.kind = 5) {v:Option ODecl} {u:Option ODecl}:locE e v = some u↔v = none∧u = some (dAt e.fresh 0):=by
 unfold locE;rw [if_neg (by omega),if_neg (by omega),if_pos h]
 cases v with
 | none => simp [eq_comm]
 | some x => simp
theorem loc_6 {e:OEdit} (h:e.kind = 6) {v:Option ODecl} {u:Option ODecl}:locE e v = some u↔v = some (dAt e.old 0)∧u = none:=by
 unfold locE;rw [if_neg (by omega),if_neg (by omega),if_neg (by omega)]
 cases v with
 | none => simp
 | some x =>
  have e1:partD e.kind x = x:=partD_low (by omega) x;simp only [e1,if_pos h,Option.some.injEq]
  constructor
  ·intro hh
   split at hh
   ·rename_i hs;injection hh with hh;exact ⟨sameD_iff.1 hs,hh.symm⟩
   ·cases hh
  ·rintro ⟨h1,h2⟩;rw [if_pos (sameD_iff.2 h1),h2]
theorem loc_7 {e:OEdit} (h:7≤e.kind) {v:Option ODecl} {u:Option ODecl}:locE e v = some u↔∃ d,v = some d∧partD e.kind d = dAt e.old 0∧u = some (setPart e.kind d (dAt e.fresh 0)):=by
 unfold locE;rw [if_neg (by omega),if_neg (by omega),if_neg (by omega)]
 cases v with
 | none => simp
 | some x =>
  simp only [if_neg (show ¬ e.kind = 6 by omega)]
  constructor
  ·intro hh
   split at hh
   ·rename_i hs;injection hh with hh;exact ⟨x,rfl,sameD_iff.1 hs,hh.symm⟩
   ·cases hh
  ·rintro ⟨d,h1,h2,h3⟩;injection h1 with h1;subst h1;rw [if_pos (sameD_iff.2 h2),h3]
theorem kinds {k:Int} (h:1≤k∧k≤9):k = 1∨k = 2∨k = 3∨k = 4∨k = 5∨k = 6∨7≤k:=by omega
theorem step_wf {A B:Ab} {e:OEdit} (hw:WfA A) (h:Step A e B):WfA B:=by
 obtain ⟨kd,ok,v,hl,rfl⟩:=h
 by_cases h2:e.kind≤2
 ·rw [key_low h2] at hl ⊢
  have hv:∀ x,v = some x→x = noDecl:=fun x hx => by
   by_cases k1:e.kind = 1
   ·rw [((loc_13 (.inl k1)).1 hl).2] at hx;injection hx with hx;exact hx.symm
   ·rw [((loc_24 (.inl (by omega))).1 hl).2] at hx;cases hx
  refine ⟨fun k hk => ?_,fun s x hx => ?_,fun s t x hx => ?_⟩
  ·by_cases hp:k.pack = e.pack
   ·rw [hp,upd_at] at hk
    by_cases k1:e.kind = 1
    ·rw [((loc_13 (.inl k1)).1 hl).2] at hk;cases hk
    ·obtain ⟨n1,n2⟩:=ok.empty (by omega)
     cases k with
     | m s => rw [show s = e.pack from hp,upd_at,hk]
     | u s t => rw [upd_no _ _ (by simp),show s = e.pack from hp];exact n1 t
     | d s i => rw [upd_no _ _ (by simp),show s = e.pack from hp];exact n2 i
   ·rw [upd_no _ _ (fun c => hp (by injection c))] at hk
    rw [upd_no _ _ (fun c => hp (by rw [c];rfl))];exact hw.wf k hk
  ·by_cases hp:s = e.pack
   ·rw [hp,upd_at] at hx;exact hv x hx
   ·rw [upd_no _ _ (fun c => hp (by injection c))] at hx;exact hw.nm s x hx
  ·rw [upd_no _ _ (by simp)] at hx;exact hw.nu s t x hx
 ·have e1:∀ s,Key.m s≠keyE e:=fun s => by unfold keyE;rw [if_neg h2];split <;> simp
  refine ⟨fun k hk => ?_,fun s x hx => ?_,fun s t x hx => ?_⟩
  ·rw [upd_no _ _ (e1 _)] at hk
   have hne:k≠keyE e:=fun c => ok.there (by omega) (by rw [c,keyE_pack] at hk;exact hk);rw [upd_no _ _ hne];exact hw.wf k hk
  ·rw [upd_no _ _ (e1 _)] at hx;exact hw.nm s x hx
  ·by_cases hk:Key.u s t = keyE e
   ·rw [hk,upd_at] at hx
    by_cases h4:e.kind≤4
    ·by_cases k3:e.kind = 3
     ·rw [((loc_13 (.inr k3)).1 hl).2] at hx;injection hx with hx;exact hx.symm
     ·rw [((loc_24 (.inr (by omega))).1 hl).2] at hx;cases hx
    ·rw [key_decl (by omega)] at hk;cases hk
   ·rw [upd_no _ _ hk] at hx;exact hw.nu s t x hx
theorem partD_setPart {k:Int} (h7:7≤k) (h9:k≤9) (d f:ODecl) (hf:f = partD k f) (hid:d.id = f.id):partD k (setPart k d f) = f:=by
 have h:k = 7∨k = 8∨k = 9:=by omega
 rw [hf]
 rcases h with rfl | rfl | rfl <;> simp [partD,setPart,hid]
theorem setPart_back {k:Int} (h7:7≤k) (h9:k≤9) (d f:ODecl):setPart k (setPart k d f) (partD k d) = d:=by
 have h:k = 7∨k = 8∨k = 9:=by omega
 cases d
 rcases h with rfl | rfl | rfl <;> simp [partD,setPart]
theorem partD_id (k:Int) (d:ODecl):(partD k d).id = d.id:=by
 unfold partD;split
 ·rfl
 ·split
  ·rfl
  ·split <;> rfl
theorem step_inv {A B:Ab} {e:OEdit} (he:editErr e = 0) (hw:WfA A) (h:Step A e B):Step B (invE e) A:=by
  obtain ⟨kd,ok,v,hl,rfl⟩:=h
  obtain ⟨o1,o2,o3,o4,o5,o6,o7,o8⟩:=opp_cases kd.1 kd.2
  have hopp:(invE e).kind = opp e.kind:=rfl
  rcases kinds kd with h | h | h | h | h | h | h
  · have hk:(invE e).kind = 2:=by rw [hopp,h];rfl
    rw [key_low (by omega)] at hl ⊢
    obtain ⟨a1,rfl⟩:=(loc_13 (.inl h)).1 hl
    refine ⟨by omega,⟨fun _ => ?_,fun _ => ⟨fun t => ?_,fun i => ?_⟩⟩,none,?_,?_⟩
    · show upd A (.m e.pack) (some noDecl) (.m e.pack)≠none;rw [upd_at];simp
    · show upd A (.m e.pack) (some noDecl) (.u e.pack t) = none;rw [upd_no _ _ (by simp)];exact hw.wf (.u e.pack t) a1
    · show upd A (.m e.pack) (some noDecl) (.d e.pack i) = none;rw [upd_no _ _ (by simp)];exact hw.wf (.d e.pack i) a1
    · rw [key_low (by omega)];refine (loc_24 (.inl hk)).2 ⟨?_,rfl⟩
      show upd A (.m e.pack) (some noDecl) (.m e.pack)≠none;rw [upd_at];simp
    · rw [key_low (by omega)];show A = upd (upd A (.m e.pack) _) (.m e.pack) none;rw [upd_upd,← a1,upd_same]
  · have hk:(invE e).kind = 1:=by rw [hopp,h];rfl
    rw [key_low (by omega)] at hl ⊢
    obtain ⟨a1,rfl⟩:=(loc_24 (.inl h)).1 hl
    refine ⟨by omega,⟨fun c => by omega,fun c => by omega⟩,some noDecl,?_,?_⟩
    · rw [key_low (by omega)];exact (loc_13 (.inl hk)).2 ⟨upd_at _ _ _,rfl⟩
    · rw [key_low (by omega)];show A = upd (upd A (.m e.pack) _) (.m e.pack) _
      rw [upd_upd]
      obtain ⟨x,hx⟩:=Option.ne_none_iff_exists'.1 a1
      rw [← hw.nm _ x hx,← hx,upd_same]
  · have hk:(invE e).kind = 4:=by rw [hopp,h];rfl
    have hk1:keyE (invE e) = keyE e:=by rw [key_use (by omega) (by omega),key_use (by omega) (by omega)];rfl
    obtain ⟨a1,rfl⟩:=(loc_13 (.inr h)).1 hl
    refine ⟨by omega,⟨fun _ => ?_,fun c => by omega⟩,none,?_,?_⟩
    · rw [upd_no _ _ (by rw [key_use (by omega) (by omega)];simp)];exact ok.there (by omega)
    · rw [hk1,upd_at];exact (loc_24 (.inr hk)).2 ⟨by simp,rfl⟩
    · rw [hk1,upd_upd,← a1,upd_same]
  · have hk:(invE e).kind = 3:=by rw [hopp,h];rfl
    have e1:keyE e = .u e.pack e.text:=key_use (by omega) (by omega)
    have hk1:keyE (invE e) = keyE e:=by rw [key_use (by omega) (by omega),e1];rfl
    obtain ⟨a1,rfl⟩:=(loc_24 (.inr h)).1 hl
    refine ⟨by omega,⟨fun _ => ?_,fun c => by omega⟩,some noDecl,?_,?_⟩
    · rw [upd_no _ _ (by rw [e1];simp)];exact ok.there (by omega)
    · rw [hk1,upd_at];exact (loc_13 (.inr hk)).2 ⟨rfl,rfl⟩
    · rw [hk1,upd_upd]
      obtain ⟨x,hx⟩:=Option.ne_none_iff_exists'.1 a1
      rw [e1] at hx ⊢
      rw [← hw.nu _ _ x hx,← hx,upd_same]
  · have hk:(invE e).kind = 6:=by rw [hopp,h];rfl
    have hk1:keyE (invE e) = keyE e:=by rw [key_decl (by omega),key_decl (by omega),concI_inv he];rfl
    obtain ⟨a1,rfl⟩:=(loc_5 h).1 hl
    refine ⟨by omega,⟨fun _ => ?_,fun c => by omega⟩,none,?_,?_⟩
    · rw [upd_no _ _ (by rw [key_decl (by omega)];simp)];exact ok.there (by omega)
    · rw [hk1,upd_at];exact (loc_6 hk).2 ⟨rfl,rfl⟩
    · rw [hk1,upd_upd,← a1,upd_same]
  · have hk:(invE e).kind = 5:=by rw [hopp,h];rfl
    have hk1:keyE (invE e) = keyE e:=by rw [key_decl (by omega),key_decl (by omega),concI_inv he];rfl
    obtain ⟨a1,rfl⟩:=(loc_6 h).1 hl
    refine ⟨by omega,⟨fun _ => ?_,fun c => by omega⟩,some (dAt e.old 0),?_,?_⟩
    · rw [upd_no _ _ (by rw [key_decl (by omega)];simp)];exact ok.there (by omega)
    · rw [hk1,upd_at];exact (loc_5 hk).2 ⟨rfl,rfl⟩
    · rw [hk1,upd_upd,← a1,upd_same]
  · have hk:(invE e).kind = e.kind:=by rw [hopp];exact o6 h
    have hk1:keyE (invE e) = keyE e:=by rw [key_decl (by omega),key_decl (by omega),concI_inv he];rfl
    obtain ⟨d,a1,a2,rfl⟩:=(loc_7 h).1 hl
    obtain ⟨f1,f2,f3,_⟩:=fit7 he h
    have hid:d.id = (dAt e.fresh 0).id:=by rw [← f3,← a2,partD_id]
    refine ⟨by omega,⟨fun _ => ?_,fun c => by omega⟩,some d,?_,?_⟩
    · rw [upd_no _ _ (by rw [key_decl (by omega)];simp)];exact ok.there (by omega)
    · rw [hk1,upd_at]
      refine (loc_7 (by omega)).2 ⟨_,rfl,?_,?_⟩
      · rw [hk];exact partD_setPart h kd.2 d _ f2 hid
      · rw [hk];show some d = some (setPart e.kind (setPart e.kind d (dAt e.fresh 0)) (dAt e.old 0))
        rw [← a2,setPart_back h kd.2]
    · rw [hk1,upd_upd,← a1,upd_same]
theorem run_inv:∀ {es:List OEdit} {A B:Ab},WfA A→Run A es B→Run B (invL es) A
 | [],_,_,_,h => Eq.symm h
 | e :: r,A,B,hw,⟨h0,C,h1,h2⟩ => by
  have e1:invL (e :: r) = invL r ++ [invE e]:=by unfold invL;rw [List.map_cons,List.reverse_cons]
  rw [e1];exact run_append.2 ⟨C,run_inv (step_wf hw h1) h2,editErr_inv h0,A,step_inv h0 hw h1,rfl⟩
theorem step_twice {A B C:Ab} {e:OEdit} (he:editErr e = 0) (h:Step A e B):¬ Step B e C:=by
  rintro ⟨-,-,u,hu,-⟩
  obtain ⟨kd,ok,v,hl,rfl⟩:=h
  rw [upd_at] at hu
  rcases kinds kd with h | h | h | h | h | h | h
  · rw [((loc_13 (.inl h)).1 hl).2] at hu;have:=((loc_13 (.inl h)).1 hu).1;cases this
  · rw [((loc_24 (.inl h)).1 hl).2] at hu;exact ((loc_24 (.inl h)).1 hu).1 rfl
  · rw [((loc_13 (.inr h)).1 hl).2] at hu;have:=((loc_13 (.inr h)).1 hu).1;cases this
  · rw [((loc_24 (.inr h)).1 hl).2] at hu;exact ((loc_24 (.inr h)).1 hu).1 rfl
  · rw [((loc_5 h).1 hl).2] at hu;have:=((loc_5 h).1 hu).1;cases this
  · rw [((loc_6 h).1 hl).2] at hu;have:=((loc_6 h).1 hu).1;cases this
  · obtain ⟨d,a1,a2,rfl⟩:=(loc_7 h).1 hl
    obtain ⟨d',b1,b2,_⟩:=(loc_7 h).1 hu
    injection b1 with b1
    subst b1
    obtain ⟨f1,f2,f3,f4⟩:=fit7 he h
    rw [partD_setPart h kd.2 d _ f2 (by rw [← f3,← a2,partD_id])] at b2
    exact f4 b2.symm
end Go.Proofs.YtdpnfkjafhbndaaGreatDoor
namespace Go.Proofs.YtdpnfkjafhbndaaGreatDoor
structure ValM (m:OMod):Prop where
  label:labelS m.label = true
  uses:Asc ltB id m.uses
  ulen:m.uses.length≤20
  ulab:∀ s∈m.uses,labelS s = true
  uerr:∀ i,i < m.uses.length→useErr m.label m.uses i = 0
  dlen:m.decls.length≤100
  ids:Asc ltI ODecl.id m.decls
  decl:∀ d∈m.decls,declErr m.label d = 0
theorem pairwise_next {α:Type} {R:α→α→Prop} (htr:∀ a b c,R a b→R b c→R a c):∀ {l:List α},(∀ (i:Nat) (a b:α),l[i]? = some a→l[i + 1]? = some b→R a b)→l.Pairwise R
 | [],_ => List.Pairwise.nil
 | [a],_ => List.pairwise_singleton _ _
 | a :: b :: r,h => by
  have ih:=pairwise_next htr (l:=b :: r) (fun i x y hx hy => h (i + 1) x y hx hy);have hab:=h 0 a b rfl rfl;refine List.pairwise_cons.2 ⟨fun x hx => ?_,ih⟩
  rcases List.mem_cons.1 hx with rfl | hx
  ·exact hab
  ·exact htr _ _ _ hab ((List.pairwise_cons.1 ih).1 x hx)
theorem sAt_some {l:List ByteArray} {i:Nat} {a:ByteArray} (h:l[i]? = some a):sAt l i = a:=by
 unfold sAt;rw [List.getD_eq_getElem?_getD,h];rfl
theorem asc_of_at {α κ:Type} {lt:κ→κ→Bool} {key:α→κ} (S:SO lt) {l:List α} (h:∀ (i:Nat) (a b:α),l[i]? = some a→l[i + 1]? = some b→lt (key a) (key b) = true):Asc lt key l:=
 pairwise_next (R:=fun a b => lt (key a) (key b) = true) (fun _ _ _ h k => S.tr h k) h
theorem asc_at {α κ:Type} {lt:κ→κ→Bool} {key:α→κ} {l:List α} (h:Asc lt key l) {i j:Nat} {a b:α} (hij:i < j) (ha:l[i]? = some a) (hb:l[j]? = some b):lt (key a) (key b) = true:=by
 obtain ⟨hi,rfl⟩:=List.getElem?_eq_some_iff.1 ha;obtain ⟨hj,rfl⟩:=List.getElem?_eq_some_iff.1 hb;exact List.pairwise_iff_getElem.1 h i j hi hj hij
theorem usesErr_zero {l:List ByteArray}:usesErr l = 0↔l.length≤20∧(∀ s∈l,labelS s = true)∧Asc ltB id l:=by
 unfold usesErr
 constructor
 ·intro h
  split at h
  ·omega
  ·rename_i hl
   rw [nz_zero] at h
   have hu:∀ i,i < l.length→labelS (sAt l i) = true∧(0 < i→ltB (sAt l (i - 1)) (sAt l i) = true):=by
    intro i hi;have:=h i hi;unfold useAt at this;split at this
    ·rename_i h1
     split at this
     ·omega
     ·rename_i h2;exact ⟨h1,fun h0 => by unfold ltB;rw [← Bool.not_eq_false];exact fun e => h2 ⟨h0,e⟩⟩
    ·omega
   refine ⟨by omega,fun s hs => ?_,asc_of_at so_B fun i a b ha hb => ?_⟩
   ·obtain ⟨i,hi,rfl⟩:=List.mem_iff_getElem.1 hs
    have:=(hu i hi).1;rwa [sAt_some (List.getElem?_eq_getElem hi)] at this
   ·have hi:i + 1 < l.length:=(List.getElem?_eq_some_iff.1 hb).1
    have:=(hu (i + 1) hi).2 (by omega);rwa [Nat.add_sub_cancel,sAt_some ha,sAt_some hb] at this
 ·rintro ⟨h1,h2,h3⟩
  rw [if_neg (by omega),nz_zero];intro i hi;unfold useAt;rw [sAt_some (List.getElem?_eq_getElem hi),if_pos (h2 _ (List.getElem_mem hi)),if_neg];rintro ⟨h0,hc⟩;rw [sAt_some (List.getElem?_eq_getElem (show i - 1 < l.length by omega))] at hc;have:=asc_at h3 (show i - 1 < i by omega) (List.getElem?_eq_getElem (show i - 1 < l.length by omega)) (List.getElem?_eq_getElem hi);exact absurd (this.symm.trans hc) (by simp)
theorem declsAt_zero {label:ByteArray} {l:List ODecl}:nzFrom (declAt label l) l.length 0 = 0↔(∀ d∈l,declErr label d = 0)∧Asc ltI ODecl.id l:=by
 rw [nz_zero]
 constructor
 ·intro h
  have hd:∀ k,k < l.length→declErr label (dAt l k) = 0∧(0 < k→(dAt l (k - 1)).id < (dAt l k).id):=by
   intro k hk;have:=h k hk;unfold declAt at this;split at this
   ·rename_i h1
    split at this
    ·omega
    ·rename_i h2;exact ⟨h1,fun h0 => by have:=fun e => h2 ⟨h0,e⟩;omega⟩
   ·rename_i h1;exact absurd this h1
  refine ⟨fun d hd' => ?_,asc_of_at so_I fun i a b ha hb => ?_⟩
  ·obtain ⟨i,hi,rfl⟩:=List.mem_iff_getElem.1 hd'
   have:=(hd i hi).1;rwa [dAt_of (List.getElem?_eq_getElem hi)] at this
  ·have hi:i + 1 < l.length:=(List.getElem?_eq_some_iff.1 hb).1
   have:=(hd (i + 1) hi).2 (by omega);rw [Nat.add_sub_cancel,dAt_of ha,dAt_of hb] at this;exact decide_eq_true this
 ·rintro ⟨h1,h2⟩ k hk
  unfold declAt;rw [dAt_of (List.getElem?_eq_getElem hk),if_pos (h1 _ (List.getElem_mem hk)),if_neg];rintro ⟨h0,hc⟩;rw [dAt_of (List.getElem?_eq_getElem (show k - 1 < l.length by omega))] at hc;have:=of_decide_eq_true (asc_at h2 (show k - 1 < k by omega) (List.getElem?_eq_getElem (show k - 1 < l.length by omega)) (List.getElem?_eq_getElem hk));omega
theorem modErr_zero {m:OMod}:modErr m = 0↔ValM m:=by
 unfold modErr
 constructor
 ·intro h
  split at h
  ·rename_i hl
   split at h
   ·rename_i hu
    split at h
    ·rename_i hue
     split at h
     ·omega
     ·rename_i hd
      obtain ⟨u1,u2,u3⟩:=usesErr_zero.1 hu;obtain ⟨d1,d2⟩:=declsAt_zero.1 h;exact ⟨hl,u3,u1,u2,nz_zero.1 hue,by omega,d2,d1⟩
    ·rename_i hue;exact absurd h hue
   ·rename_i hu;exact absurd h hu
  ·omega
 ·intro V
  rw [if_pos V.label,if_pos (usesErr_zero.2 ⟨V.ulen,V.ulab,V.uses⟩),if_pos (nz_zero.2 V.uerr),if_neg (by have:=V.dlen;omega),declsAt_zero.2 ⟨V.decl,V.ids⟩]
theorem ValM.srt {m:OMod} (V:ValM m):SrtM m:=⟨V.uses,V.ids⟩
theorem ordAt_zero {l:List OMod}:nzFrom (ordAt l) l.length 0 = 0↔Asc ltB OMod.label l:=by
 rw [nz_zero]
 constructor
 ·intro h
  refine asc_of_at so_B fun i a b ha hb => ?_;have hi:i + 1 < l.length:=(List.getElem?_eq_some_iff.1 hb).1;have:=h (i + 1) hi;unfold ordAt at this;rw [Nat.add_sub_cancel,mAt_of ha,mAt_of hb] at this;split at this
  ·omega
  ·rename_i h2;rw [← Bool.not_eq_false];exact fun e => h2 ⟨by omega,e⟩
 ·intro h i hi
  unfold ordAt;rw [if_neg];rintro ⟨h0,hc⟩;rw [mAt_of (List.getElem?_eq_getElem (show i - 1 < l.length by omega)),mAt_of (List.getElem?_eq_getElem hi)] at hc;have:=asc_at h (show i - 1 < i by omega) (List.getElem?_eq_getElem (show i - 1 < l.length by omega)) (List.getElem?_eq_getElem hi);rw [hc] at this;cases this
theorem modsErr_zero {l:List OMod}:modsErr l = 0↔Asc ltB OMod.label l∧testErr l = 0:=by
 unfold modsErr
 constructor
 ·intro h
  split at h
  ·rename_i h1;exact ⟨ordAt_zero.1 h1,h⟩
  ·omega
 ·rintro ⟨h1,h2⟩;rw [if_pos (ordAt_zero.2 h1)];exact h2
theorem srt_of {l:List OMod} (h:modsErr l = 0):Srt l:=by
 obtain ⟨h1,h2⟩:=modsErr_zero.1 h;exact ⟨h1,fun m hm => (modErr_zero.1 (testErr_zero.1 h2 m hm)).srt⟩
theorem srt_err {l:List OMod} (h:Srt l):modsErr l = testErr l:=by
 unfold modsErr;rw [if_pos (ordAt_zero.2 h.labels)]
theorem appR_ok {l m:List OMod} {es:List OEdit}:appR l es = (m,0)↔modsErr l = 0∧runL l es = (m,0)∧testErr m = 0:=by
  unfold appR
  constructor
  · intro h
    split at h
    · rename_i h1
      split at h
      · rename_i h2
        split at h
        · rename_i h3
          injection h with h4 h5
          rw [← h4]
          exact ⟨h1,by rw [← h2],h3⟩
        · rename_i h3;injection h with h4 h5;exact absurd h5 h3
      · rename_i h2;injection h with h4 h5;exact absurd h5 h2
    · rename_i h1;injection h with h4 h5;exact absurd h5 h1
  · rintro ⟨h1,h2,h3⟩
    rw [if_pos h1,h2];simp [h3]
theorem appR_bad {l:List OMod} {es:List OEdit} (h:(appR l es).2≠0):(appR l es).1 = []:=by
 unfold appR at h ⊢;split
 ·rename_i h1
  rw [if_pos h1] at h;split
  ·rename_i h2
   rw [if_pos h2] at h;split
   ·rename_i h3;rw [if_pos h3] at h;exact absurd rfl h
   ·rfl
  ·rfl
 ·rfl
theorem appR_pair {l:List OMod} {es:List OEdit} (h:(appR l es).2 = 0):appR l es = ((appR l es).1,0):=by rw [← h]
theorem runL_srt {l m:List OMod} {es:List OEdit} (hl:Srt l) (h:runL l es = (m,0)):Srt m:=by
 rcases runL_key (es:=es) hl with ⟨_,a2,_⟩ | ⟨a1,_⟩
 ·rw [h] at a2;exact a2
 ·rw [h] at a1;exact absurd rfl a1
theorem runL_append:∀ {es fs:List OEdit} {l:List OMod},runL l (es ++ fs) = if (runL l es).2 = 0 then runL (runL l es).1 fs else runL l es
 | [],fs,l => by rw [List.nil_append];rfl
 | e :: r,fs,l => by
  rw [List.cons_append,runL,runL]
  by_cases h1:editErr e = 0
  ·rw [if_pos h1,if_pos h1]
   by_cases h2:(oneL l e).2 = 0
   ·rw [if_pos h2,if_pos h2];exact runL_append
   ·rw [if_neg h2,if_neg h2,if_neg h2]
  ·rw [if_neg h1,if_neg h1,if_neg h1]
theorem app_steps {l half:List OMod} {es fs:List OEdit} (h:appR l es = (half,0)):appR half fs = appR l (es ++ fs):=by
  obtain ⟨h1,h2,h3⟩:=appR_ok.1 h
  have hs:=runL_srt (srt_of h1) h2
  unfold appR
  rw [if_pos h1,if_pos (by rw [srt_err hs];exact h3),runL_append,h2]
  simp
theorem oneL_errs (l:List OMod) (e:OEdit):(oneL l e).2 = 0∨(oneL l e).2 = 7∨(oneL l e).2 = 8∨(oneL l e).2 = 17:=by
 unfold oneL inMod
 repeat' split
 all_goals simp
theorem app_twice {l once:List OMod} {e:OEdit} (h:appR l [e] = (once,0)):(appR once [e]).2 = 7∨(appR once [e]).2 = 8∨(appR once [e]).2 = 17:=by
  obtain ⟨h1,h2,h3⟩:=appR_ok.1 h
  have hl:=srt_of h1
  have hs:=runL_srt hl h2
  obtain ⟨he,C,hC,hD⟩:=(runL_iff hl hs).2 h2
  have hD:ab once = C:=hD
  subst hD
  have e1:(appR once [e]).2 = (oneL once e).2:=by
    have hne:(oneL once e).2≠0:=by
      obtain ⟨⟨k1,k9⟩,_⟩:=editErr_zero.1 he
      rcases oneL_key hs k1 k9 with ⟨a1,a2,a3⟩ | ⟨a1,a2⟩
      · exact absurd a3 (step_twice he hC)
      · exact a1
    have hr:runL once [e] = oneL once e:=by rw [runL,if_pos he,if_neg hne]
    unfold appR
    rw [if_pos (by rw [srt_err hs];exact h3),hr,if_neg hne]
  rw [e1]
  rcases oneL_errs once e with h | h | h | h
  · exfalso
    obtain ⟨⟨k1,k9⟩,_⟩:=editErr_zero.1 he
    rcases oneL_key hs k1 k9 with ⟨a1,a2,a3⟩ | ⟨a1,a2⟩
    · exact step_twice he hC a3
    · exact a1 h
  · exact .inl h
  · exact .inr (.inl h)
  · exact .inr (.inr h)
theorem app_back {l m:List OMod} {es:List OEdit} (h:appR l es = (m,0)):appR m (invL es) = (l,0):=by
 obtain ⟨h1,h2,h3⟩:=appR_ok.1 h;have hl:=srt_of h1;have hs:=runL_srt hl h2;exact appR_ok.2 ⟨by rw [srt_err hs];exact h3,(runL_iff hs hl).1 (run_inv (wf_ab l) ((runL_iff hl hs).2 h2)),(modsErr_zero.1 h1).2⟩
end Go.Proofs.YtdpnfkjafhbndaaGreatDoor

