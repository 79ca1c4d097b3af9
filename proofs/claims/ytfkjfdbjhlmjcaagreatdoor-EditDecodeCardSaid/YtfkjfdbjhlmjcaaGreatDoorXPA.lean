/- Ascending lists, plainly: -/
import Derived.Test.YtfkjfdbjhlmjcaaGreatDoorXSEr
namespace Go.Proofs.YtfkjfdbjhlmjcaaGreatDoor
structure SO {κ:Type} (lt:κ→κ→Bool):Prop where
  irr:∀a,lt a a=false
  tr:∀{a b c},lt a b=true→lt b c=true→lt a c=true
  tot:∀{a b},lt a b=false→lt b a=false→a=b
section
variable {α κ:Type} (lt:κ→κ→Bool) (key:α→κ)
def Asc (l:List α):Prop:=l.Pairwise fun a b=>lt (key a) (key b)=true
def plc (l:List α) (k:κ):Nat:=l.findIdx fun x=>!(lt (key x) k)
inductive Plc (l:List α) (k:κ):Prop
  | hit (P R:List α) (y:α):l=P++y::R→P.length=plc lt key l k→key y=k→(∀x∈P,lt (key x) k=true)→(∀x∈R,lt k (key x)=true)→Plc l k
  | miss (P R:List α):l=P++R→P.length=plc lt key l k→(∀x∈P,lt (key x) k=true)→(∀x∈R,lt k (key x)=true)→Plc l k
variable {lt:κ→κ→Bool} {key:α→κ}
theorem zTx (l:List α) (k:κ):plc lt key l k≤l.length:=List.findIdx_le_length
theorem zQ (S:SO lt) {l:List α} (h:Asc lt key l) (k:κ):Plc lt key l k:=by
 have hs:l=l.take (plc lt key l k)++l.drop (plc lt key l k):=(List.take_append_drop _ _).symm;have hl:(l.take (plc lt key l k)).length=plc lt key l k:=by rw [List.length_take];exact Nat.min_eq_left (zTx l k)
 have h1:∀x∈l.take (plc lt key l k),lt (key x) k=true:=by
  intro x hx;obtain ⟨j,hj,rfl⟩:=List.mem_iff_getElem.1 hx;rw [hl] at hj;have:=List.not_of_lt_findIdx (p:=fun x=>!(lt (key x) k)) (xs:=l) (i:=j) hj;rw [List.getElem_take]
  simpa using this
 cases hd:l.drop (plc lt key l k) with
 | nil=>exact .miss _ [] (by rw [hd] at hs;exact hs) hl h1 (fun x hx=>by cases hx)
 | cons y R=>
  have hlt:plc lt key l k<l.length:=by
   rcases Nat.lt_or_ge (plc lt key l k) l.length with h|h
   ·exact h
   ·rw [List.drop_eq_nil_of_le h] at hd;cases hd
  have hy:l[plc lt key l k]=y:=by
   rw [List.drop_eq_getElem_cons hlt] at hd;injection hd
  have hyk:lt (key y) k=false:=by
   have:=List.findIdx_getElem (p:=fun x=>!(lt (key x) k)) (xs:=l) (w:=hlt);rw [←hy];simp only [Bool.not_eq_true'] at this
   exact this
  have hA:Asc lt key (l.drop (plc lt key l k)):=h.sublist (List.drop_sublist _ _);rw [hd] at hA hs;have hR:=(List.pairwise_cons.1 hA).1
  cases hk:lt k (key y) with
  | false=>
   have e:=S.tot hyk hk;exact .hit _ R y hs hl e h1 (fun x hx=>by rw [←e];exact hR x hx)
  | true=>exact .miss _ (y::R) hs hl h1 (fun x hx=>by
    rcases List.mem_cons.1 hx with rfl|hx
    ·exact hk
    ·exact S.tr hk (hR x hx))
def insAt (l:List α) (i:Nat) (x:α):List α:=l.take i++x::l.drop i
def delAt (l:List α) (i:Nat):List α:=l.take i++l.drop (i+1)
theorem zSf {P R:List α} {i:Nat} (h:P.length=i) (x:α):insAt (P++R) i x=P++x::R:=by
 subst h;unfold insAt;rw [List.take_left,List.drop_left]
theorem zSg {P R:List α} {i:Nat} {y:α} (h:P.length=i):delAt (P++y::R) i=P++R:=by
 subst h;unfold delAt;rw [List.take_left,List.drop_append,List.drop_eq_nil_of_le (by omega)];simp
theorem zQa {P R:List α} {i:Nat} {y:α} (h:P.length=i) (x:α):(P++y::R).set i x=P++x::R:=by
 subst h;rw [List.set_append_right _ _ (Nat.le_refl _)];simp
theorem yBl {P R:List α} {i:Nat} {y:α} (h:P.length=i):(P++y::R)[i]?=some y:=by
 subst h;rw [List.getElem?_append_right (Nat.le_refl _)];simp
theorem zFi {P R:List α}:Asc lt key (P++R)↔Asc lt key P∧Asc lt key R∧∀x∈P,∀y∈R,lt (key x) (key y)=true:=List.pairwise_append
theorem zNz {y:α} {R:List α}:Asc lt key (y::R)↔(∀x∈R,lt (key y) (key x)=true)∧Asc lt key R:=List.pairwise_cons
theorem yDu (S:SO lt) {l:List α} (h:Asc lt key l) {x y:α} (hx:x∈l) (hy:y∈l) (e:key x=key y):x=y:=by
  obtain ⟨i,hi,rfl⟩:=List.mem_iff_getElem.1 hx
  obtain ⟨j,hj,rfl⟩:=List.mem_iff_getElem.1 hy
  have hp:=List.pairwise_iff_getElem.1 h
  rcases Nat.lt_trichotomy i j with hij|hij|hij
  · have:=hp i j hi hj hij;rw [e,S.irr] at this;cases this
  · subst hij;rfl
  · have:=hp j i hj hi hij;rw [e,S.irr] at this;cases this
def eqK (lt:κ→κ→Bool) (a b:κ):Bool:=!(lt a b) && !(lt b a)
theorem zKh (S:SO lt) {a b:κ}:eqK lt a b=true↔a=b:=by
 unfold eqK
 constructor
 ·intro h;simp at h;exact S.tot h.1 h.2
 ·rintro rfl;rw [S.irr];rfl
theorem yEv (S:SO lt) {a b:κ} (h:a≠b):eqK lt a b=false:=by
 rw [←Bool.not_eq_true,zKh S];exact h
theorem zYn (S:SO lt) {a b:κ} (h:a=b):eqK lt a b=true:=(zKh S).2 h
def look (lt:κ→κ→Bool) (key:α→κ) (l:List α) (k:κ):Option α:=l.find? fun x=>eqK lt (key x) k
theorem zO (S:SO lt) {l:List α} {k:κ} {x:α} (h:look lt key l k=some x):x∈l∧key x=k:=
 ⟨List.mem_of_find?_eq_some h,(zKh S).1 (List.find?_some (p:=fun x=>eqK lt (key x) k) h)⟩
theorem zYo (S:SO lt) {l:List α} (h:Asc lt key l) {x:α} (hx:x∈l):look lt key l (key x)=some x:=by
 cases hf:look lt key l (key x) with
 | none=>unfold look at hf;rw [List.find?_eq_none] at hf;exact absurd (zYn S rfl) (hf x hx)
 | some y=>obtain ⟨h1,h2⟩:=zO S hf;rw [yDu S h h1 hx h2]
theorem zHg (S:SO lt) {l:List α} {k:κ}:look lt key l k=none↔∀x∈l,key x≠k:=by
 unfold look;rw [List.find?_eq_none];exact ⟨fun h x hx e=>h x hx ((zKh S).2 e),fun h x hx e=>h x hx ((zKh S).1 e)⟩
theorem zCe (P R:List α) (k:κ):look lt key (P++R) k=(look lt key P k).or (look lt key R k):=by
 unfold look;rw [List.find?_append]
theorem zQb (S:SO lt) {y:α} (R:List α) {k:κ} (h:key y=k):look lt key (y::R) k=some y:=by
 unfold look;rw [List.find?_cons,zYn S h]
theorem zMm (S:SO lt) {y:α} (R:List α) {k:κ} (h:key y≠k):look lt key (y::R) k=look lt key R k:=by
 unfold look;rw [List.find?_cons,yEv S h]
theorem zEu (S:SO lt) {a b:κ} (h:lt a b=true):a≠b:=fun e=>by rw [e,S.irr] at h;cases h
structure Hit (lt:κ→κ→Bool) (key:α→κ) (l:List α) (k:κ) (y:α):Prop where
  le:plc lt key l k<l.length
  elt:l[plc lt key l k]?=some y
  ky:key y=k
  look:look lt key l k=some y
  del:Asc lt key (delAt l (plc lt key l k))
  delk:Go.Proofs.YtfkjfdbjhlmjcaaGreatDoor.look lt key (delAt l (plc lt key l k)) k=none
  delj:∀j,j≠k→Go.Proofs.YtfkjfdbjhlmjcaaGreatDoor.look lt key (delAt l (plc lt key l k)) j=Go.Proofs.YtfkjfdbjhlmjcaaGreatDoor.look lt key l j
  set:∀x,key x=k→Asc lt key (l.set (plc lt key l k) x)
  setk:∀x,key x=k→Go.Proofs.YtfkjfdbjhlmjcaaGreatDoor.look lt key (l.set (plc lt key l k) x) k=some x
  setj:∀x,key x=k→∀j,j≠k→Go.Proofs.YtfkjfdbjhlmjcaaGreatDoor.look lt key (l.set (plc lt key l k) x) j=Go.Proofs.YtfkjfdbjhlmjcaaGreatDoor.look lt key l j
structure Miss (lt:κ→κ→Bool) (key:α→κ) (l:List α) (k:κ):Prop where
  elt:∀y,l[plc lt key l k]?=some y→key y≠k
  look:look lt key l k=none
  ins:∀x,key x=k→Asc lt key (insAt l (plc lt key l k) x)
  insk:∀x,key x=k→Go.Proofs.YtfkjfdbjhlmjcaaGreatDoor.look lt key (insAt l (plc lt key l k) x) k=some x
  insj:∀x,key x=k→∀j,j≠k→Go.Proofs.YtfkjfdbjhlmjcaaGreatDoor.look lt key (insAt l (plc lt key l k) x) j=Go.Proofs.YtfkjfdbjhlmjcaaGreatDoor.look lt key l j
theorem zCf (S:SO lt) {l:List α} (h:Asc lt key l) (k:κ):(∃y,Hit lt key l k y)∨Miss lt key l k:=by
 rcases zQ S h k with ⟨P,R,y,hl,hp,hk,h1,h2⟩|⟨P,R,hl,hp,h1,h2⟩
 ·have hP:look lt key P k=none:=(zHg S).2 fun x hx=>zEu S (h1 x hx)
  have hR:look lt key R k=none:=(zHg S).2 fun x hx=>(zEu S (h2 x hx)).symm;have hA:=h;rw [hl,zFi,zNz] at hA;obtain ⟨a1,⟨a2,a3⟩,a4⟩:=hA;have e1:delAt l P.length=P++R:=by rw [hl];exact zSg rfl
  have e2:∀x,l.set P.length x=P++x::R:=fun x=>by rw [hl];exact zQa rfl x
  have aj:∀(x:α) (j:κ),key x=k→j≠k→look lt key (P++x::R) j=(look lt key P j).or (look lt key R j):=fun x j hx hj=>by
   rw [zCe,zMm S R (by rw [hx];exact fun e=>hj e.symm)]
  have ak:∀x:α,key x=k→look lt key (P++x::R) k=some x:=fun x hx=>by
   rw [zCe,hP,zQb S R hx];rfl
  refine .inl ⟨y,?_,?_,hk,?_,?_,?_,fun j hj=>?_,fun x hx=>?_,fun x hx=>?_,fun x hx j hj=>?_⟩
  ·rw [←hp,hl,List.length_append,List.length_cons];omega
  ·rw [←hp];subst hl;exact yBl rfl
  ·rw [hl];exact ak y hk
  ·rw [←hp,e1];exact zFi.2 ⟨a1,a3,fun x hx z hz=>a4 x hx z (List.mem_cons_of_mem _ hz)⟩
  ·rw [←hp,e1,zCe,hP,hR];rfl
  ·rw [←hp,e1,zCe,hl,aj y j hk hj]
  ·rw [←hp,e2]
   refine zFi.2 ⟨a1,zNz.2 ⟨fun z hz=>by rw [hx];exact h2 z hz,a3⟩,fun z hz u hu=>?_⟩
   rcases List.mem_cons.1 hu with rfl|hu
   ·rw [hx];exact h1 z hz
   ·exact a4 z hz u (List.mem_cons_of_mem _ hu)
  ·rw [←hp,e2];exact ak x hx
  ·rw [←hp,e2,aj x j hx hj,hl,aj y j hk hj]
 ·have hP:look lt key P k=none:=(zHg S).2 fun x hx=>zEu S (h1 x hx)
  have hR:look lt key R k=none:=(zHg S).2 fun x hx=>(zEu S (h2 x hx)).symm;have e1:∀x,insAt l P.length x=P++x::R:=fun x=>by rw [hl];exact zSf rfl x
  have hA:=h;rw [hl,zFi] at hA;obtain ⟨a1,a3,a4⟩:=hA;refine .inr ⟨fun y hy=>?_,?_,fun x hx=>?_,fun x hx=>?_,fun x hx j hj=>?_⟩
  ·rw [←hp,hl,List.getElem?_append_right (Nat.le_refl _),Nat.sub_self] at hy
   cases R with
   | nil=>cases hy
   | cons z R=>simp at hy;subst hy;exact (zEu S (h2 z (List.mem_cons_self ..))).symm
  ·rw [hl,zCe,hP,hR];rfl
  ·rw [←hp,e1]
   refine zFi.2 ⟨a1,zNz.2 ⟨fun z hz=>by rw [hx];exact h2 z hz,a3⟩,fun z hz u hu=>?_⟩
   rcases List.mem_cons.1 hu with rfl|hu
   ·rw [hx];exact h1 z hz
   ·exact a4 z hz u hu
  ·rw [←hp,e1,zCe,hP,zQb S R hx];rfl
  ·rw [←hp,e1,zCe,zMm S R (by rw [hx];exact fun e=>hj e.symm),hl,zCe]
end
theorem zKi:∀a:List UInt8,Op.bytesLess a a=false
 | []=>by simp [Op.bytesLess]
 | x::a=>by simp [Op.bytesLess,zKi a]
theorem zMn:∀{a b c:List UInt8},Op.bytesLess a b=true→Op.bytesLess b c=true→Op.bytesLess a c=true
 | [],[],_,h,_=>by simp [Op.bytesLess] at h
 | _,_::_,[],_,h=>by simp [Op.bytesLess] at h
 | [],_::_,_::_,_,_=>by simp [Op.bytesLess]
 | _::_,[],_,h,_=>by simp [Op.bytesLess] at h
 | x::a,y::b,z::c,h1,h2=>by
  simp only [Op.bytesLess,Bool.or_eq_true,decide_eq_true_eq,Bool.and_eq_true,beq_iff_eq] at h1 h2 ⊢
  rcases h1 with h1|⟨rfl,h1⟩
  ·rcases h2 with h2|⟨rfl,h2⟩
   ·exact .inl (UInt8.lt_trans h1 h2)
   ·exact .inl h1
  ·rcases h2 with h2|⟨rfl,h2⟩
   ·exact .inl h2
   ·exact .inr ⟨rfl,zMn h1 h2⟩
theorem zMo:∀a b:List UInt8,Op.bytesLess a b=true∨a=b∨Op.bytesLess b a=true
 | [],[]=>.inr (.inl rfl)
 | [],_::_=>.inl (by simp [Op.bytesLess])
 | _::_,[]=>.inr (.inr (by simp [Op.bytesLess]))
 | x::a,y::b=>by
  simp only [Op.bytesLess,Bool.or_eq_true,decide_eq_true_eq,Bool.and_eq_true,beq_iff_eq]
  rcases Nat.lt_trichotomy x.toNat y.toNat with h|h|h
  ·exact .inl (.inl (UInt8.lt_iff_toNat_lt.2 h))
  ·have e:x=y:=UInt8.toNat_inj.1 h
   subst e
   rcases zMo a b with h|h|h
   ·exact .inl (.inr ⟨rfl,h⟩)
   ·exact .inr (.inl (by rw [h]))
   ·exact .inr (.inr (.inr ⟨rfl,h⟩))
  ·exact .inr (.inr (.inl (UInt8.lt_iff_toNat_lt.2 h)))
def ltB (a b:ByteArray):Bool:=Op.bytesLess a.toList b.toList
def ltI (a b:Int):Bool:=decide (a<b)
theorem yEw {a b:ByteArray} (h:a.data.toList=b.data.toList):a=b:=by
 cases a;cases b;simp only [ByteArray.mk.injEq];exact Array.toList_inj.1 h
theorem zOa:SO ltB:=⟨fun a=>zKi _,fun h k=>zMn h k,fun {a b} h k=>by
 unfold ltB at h k
 rcases zMo a.toList b.toList with h1|h1|h1
 ·rw [h] at h1;cases h1
 ·rw [tl,tl] at h1;exact yEw h1
 ·rw [k] at h1;cases h1⟩
theorem yDv:SO ltI:=⟨fun a=>by simp [ltI],fun h k=>by simp [ltI] at *;omega,fun h k=>by simp [ltI] at *;omega⟩
def setPart (k:Int) (d f:ODecl):ODecl:=if k=7 then ⟨d.id,d.kind,d.pub,f.names,d.doubt,d.body⟩ else if k=8 then ⟨d.id,d.kind,d.pub,d.names,d.doubt,f.body⟩ else ⟨d.id,f.kind,f.pub,d.names,f.doubt,d.body⟩
def inMod (m:OMod) (e:OEdit):OMod×Int:=
 if e.kind=3 then (match look ltB id m.uses e.text with
  | some _=>(m,7)
  | none=>(⟨m.label,insAt m.uses (plc ltB id m.uses e.text) e.text,m.decls⟩,0))
 else if e.kind=4 then (match look ltB id m.uses e.text with
  | some _=>(⟨m.label,delAt m.uses (plc ltB id m.uses e.text),m.decls⟩,0)
  | none=>(m,8))
 else if e.kind=5 then (match look ltI ODecl.id m.decls (dAt e.fresh 0).id with
  | some _=>(m,7)
  | none=>(⟨m.label,m.uses,insAt m.decls (plc ltI ODecl.id m.decls (dAt e.fresh 0).id) (dAt e.fresh 0)⟩,0))
 else match look ltI ODecl.id m.decls (dAt e.old 0).id with
  | none=>(m,8)
  | some d=>if sameD (partD e.kind d) (dAt e.old 0) then
    (if e.kind=6 then (⟨m.label,m.uses,delAt m.decls (plc ltI ODecl.id m.decls (dAt e.old 0).id)⟩,0)
     else (⟨m.label,m.uses,m.decls.set (plc ltI ODecl.id m.decls (dAt e.old 0).id) (setPart e.kind d (dAt e.fresh 0))⟩,0))
   else (m,17)
def oneL (l:List OMod) (e:OEdit):List OMod×Int:=
 match look ltB OMod.label l e.pack with
 | none=>if e.kind=1 then (insAt l (plc ltB OMod.label l e.pack) ⟨e.pack,[],[]⟩,0) else (l,8)
 | some m=>if e.kind=1 then (l,7) else if e.kind=2 then (if m.uses=[]∧m.decls=[] then (delAt l (plc ltB OMod.label l e.pack),0) else (l,17))
   else (l.set (plc ltB OMod.label l e.pack) (inMod m e).1,(inMod m e).2)
def runL:List OMod→List OEdit→List OMod×Int
 | l,[]=>(l,0)
 | l,e::r=>if editErr e=0 then (if (oneL l e).2=0 then runL (oneL l e).1 r else oneL l e) else (l,editErr e)
def ordAt (l:List OMod) (i:Nat):Int:=if 0<i∧ltB (mAt l (i - 1)).label (mAt l i).label=false then 10 else 0
def modsErr (l:List OMod):Int:=if nzFrom (ordAt l) l.length 0=0 then testErr l else 10
def appR (l:List OMod) (es:List OEdit):List OMod×Int:=
 if modsErr l=0 then (if (runL l es).2=0 then (if testErr (runL l es).1=0 then ((runL l es).1,0) else ([],testErr (runL l es).1)) else ([],(runL l es).2)) else ([],modsErr l)
structure SrtM (m:OMod):Prop where
 uses:Asc ltB id m.uses
 decls:Asc ltI ODecl.id m.decls
structure Srt (l:List OMod):Prop where
 labels:Asc ltB OMod.label l
 mods:∀m∈l,SrtM m
inductive Key where
 | m (s:ByteArray)
 | u (s t:ByteArray)
 | d (s:ByteArray) (i:Int)
def Key.pack:Key→ByteArray
 | .m s=>s
 | .u s _=>s
 | .d s _=>s
abbrev Ab:=Key→Option ODecl
def abM (m:OMod):Key→Option ODecl
 | .m _=>some noDecl
 | .u _ t=>(look ltB id m.uses t).map fun _=>noDecl
 | .d _ i=>look ltI ODecl.id m.decls i
def ab (l:List OMod):Ab:=fun k=>match look ltB OMod.label l k.pack with
 | some m=>abM m k
 | none=>none
def keyE (e:OEdit):Key:=if e.kind≤2 then .m e.pack else if e.kind≤4 then .u e.pack e.text else .d e.pack (concI e)
def locE (e:OEdit) (v:Option ODecl):Option (Option ODecl):=
 if e.kind=1∨e.kind=3 then (match v with|none=>some (some noDecl)|some _=>none)
 else if e.kind=2∨e.kind=4 then (match v with|none=>none|some _=>some none)
 else if e.kind=5 then (match v with|none=>some (some (dAt e.fresh 0))|some _=>none)
 else match v with
  | none=>none
  | some d=>if sameD (partD e.kind d) (dAt e.old 0) then some (if e.kind=6 then none else some (setPart e.kind d (dAt e.fresh 0))) else none
theorem zKj (e:OEdit):(keyE e).pack=e.pack:=by
 unfold keyE;split
 ·rfl
 ·split<;>rfl
theorem zWa (k:Int) (d f:ODecl):(setPart k d f).id=d.id:=by
 unfold setPart;split
 ·rfl
 ·split<;>rfl
theorem zYp {m:OMod} (hm:SrtM m) {e:OEdit} (h3:3≤e.kind) (h9:e.kind≤9) :
    (∃v,locE e (abM m (keyE e))=some v∧(inMod m e).2=0∧(inMod m e).1.label=m.label∧SrtM (inMod m e).1∧abM (inMod m e).1 (keyE e)=v∧∀k,k.pack=e.pack→k≠keyE e→abM (inMod m e).1 k=abM m k) ∨
    (locE e (abM m (keyE e))=none∧(inMod m e).2≠0):=by
  have h:e.kind=3∨e.kind=4∨e.kind=5∨6≤e.kind:=by omega
  rcases h with h|h|h|h
  · have hk:keyE e=.u e.pack e.text:=by unfold keyE;rw [if_neg (by omega),if_pos (by omega)]
    rw [hk]
    unfold locE inMod
    rw [if_pos (.inr h),if_pos h]
    rcases zCf zOa hm.uses e.text with ⟨y,H⟩|H
    · refine .inr ⟨?_,?_⟩
      · show (match (look ltB id m.uses e.text).map (fun _=>noDecl) with|none=>some (some noDecl)|some _=>none)=none
        rw [H.look];rfl
      · rw [H.look];simp
    · refine .inl ⟨some noDecl,?_,?_,?_,?_,?_,?_⟩
      · show (match (look ltB id m.uses e.text).map (fun _=>noDecl) with|none=>some (some noDecl)|some _=>none)=_
        rw [H.look];rfl
      · rw [H.look]
      · rw [H.look]
      · rw [H.look];exact ⟨H.ins _ rfl,hm.decls⟩
      · rw [H.look];show (look ltB id (insAt m.uses (plc ltB id m.uses e.text) e.text) e.text).map _=_
        rw [H.insk _ rfl];rfl
      · rw [H.look];intro k hk hne
        cases k with
        | m s=>rfl
        | d s i=>rfl
        | u s t=>
          show (look ltB id (insAt m.uses (plc ltB id m.uses e.text) e.text) t).map _=(look ltB id m.uses t).map _
          rw [H.insj _ rfl t (fun c=>hne (by rw [c,show s=e.pack from hk]))]
  · have hk:keyE e=.u e.pack e.text:=by unfold keyE;rw [if_neg (by omega),if_pos (by omega)]
    rw [hk]
    unfold locE inMod
    rw [if_neg (by omega),if_pos (.inr h),if_neg (by omega),if_pos h]
    rcases zCf zOa hm.uses e.text with ⟨y,H⟩|H
    · refine .inl ⟨none,?_,?_,?_,?_,?_,?_⟩
      · show (match (look ltB id m.uses e.text).map (fun _=>noDecl) with|none=>none|some _=>some none)=_
        rw [H.look];rfl
      · rw [H.look]
      · rw [H.look]
      · rw [H.look];exact ⟨H.del,hm.decls⟩
      · rw [H.look];show (look ltB id (delAt m.uses (plc ltB id m.uses e.text)) e.text).map _=_
        rw [H.delk];rfl
      · rw [H.look];intro k hk hne
        cases k with
        | m s=>rfl
        | d s i=>rfl
        | u s t=>
          show (look ltB id (delAt m.uses (plc ltB id m.uses e.text)) t).map _=(look ltB id m.uses t).map _
          rw [H.delj t (fun c=>hne (by rw [c,show s=e.pack from hk]))]
    · refine .inr ⟨?_,?_⟩
      · show (match (look ltB id m.uses e.text).map (fun _=>noDecl) with|none=>none|some _=>some none)=none
        rw [H.look];rfl
      · rw [H.look];simp
  · have hk:keyE e=.d e.pack (dAt e.fresh 0).id:=by unfold keyE concI;rw [if_neg (by omega),if_neg (by omega),if_neg (by omega),if_pos h]
    rw [hk]
    unfold locE inMod
    rw [if_neg (by omega),if_neg (by omega),if_pos h,if_neg (by omega),if_neg (by omega),if_pos h]
    show (∃v,(match look ltI ODecl.id m.decls (dAt e.fresh 0).id with|none=>some (some (dAt e.fresh 0))|some _=>none)=some v∧_)∨((match look ltI ODecl.id m.decls (dAt e.fresh 0).id with|none=>some (some (dAt e.fresh 0))|some _=>none)=none∧_)
    rcases zCf yDv hm.decls (dAt e.fresh 0).id with ⟨y,H⟩|H
    · rw [H.look];exact .inr ⟨rfl,by simp⟩
    · rw [H.look]
      refine .inl ⟨_,rfl,rfl,rfl,⟨hm.uses,H.ins _ rfl⟩,H.insk _ rfl,?_⟩
      intro k hk hne
      cases k with
      | m s=>rfl
      | u s t=>rfl
      | d s i=>exact H.insj _ rfl i (fun c=>hne (by rw [c,show s=e.pack from hk]))
  · have hk:keyE e=.d e.pack (dAt e.old 0).id:=by unfold keyE concI;rw [if_neg (by omega),if_neg (by omega),if_neg (by omega),if_neg (by omega)]
    rw [hk]
    unfold locE inMod
    rw [if_neg (by omega),if_neg (by omega),if_neg (by omega),if_neg (by omega),if_neg (by omega),if_neg (by omega)]
    show (∃v,(match look ltI ODecl.id m.decls (dAt e.old 0).id with|none=>none|some d=>if sameD (partD e.kind d) (dAt e.old 0) then some (if e.kind=6 then none else some (setPart e.kind d (dAt e.fresh 0))) else none)=some v∧_) ∨
      ((match look ltI ODecl.id m.decls (dAt e.old 0).id with|none=>none|some d=>if sameD (partD e.kind d) (dAt e.old 0) then some (if e.kind=6 then none else some (setPart e.kind d (dAt e.fresh 0))) else none)=none∧_)
    rcases zCf yDv hm.decls (dAt e.old 0).id with ⟨y,H⟩|H
    · rw [H.look]
      show (∃v,(if sameD (partD e.kind y) (dAt e.old 0) then some (if e.kind=6 then none else some (setPart e.kind y (dAt e.fresh 0))) else none)=some v∧_)∨((if sameD (partD e.kind y) (dAt e.old 0) then some (if e.kind=6 then none else some (setPart e.kind y (dAt e.fresh 0))) else none)=none∧_)
      by_cases hs:sameD (partD e.kind y) (dAt e.old 0)=true
      · rw [if_pos hs]
        by_cases h6:e.kind=6
        · rw [if_pos h6]
          refine .inl ⟨_,rfl,?_⟩
          simp only [if_true,h6]
          rw [if_pos (by rw [h6] at hs;exact hs)]
          refine ⟨rfl,rfl,⟨hm.uses,H.del⟩,H.delk,?_⟩
          intro k hk hne
          cases k with
          | m s=>rfl
          | u s t=>rfl
          | d s i=>exact H.delj i (fun c=>hne (by rw [c,show s=e.pack from hk]))
        · rw [if_neg h6]
          refine .inl ⟨_,rfl,?_⟩
          simp only [hs,if_true,if_neg h6]
          have hid:(setPart e.kind y (dAt e.fresh 0)).id=(dAt e.old 0).id:=by rw [zWa];exact H.ky
          refine ⟨trivial,trivial,⟨hm.uses,H.set _ hid⟩,H.setk _ hid,?_⟩
          intro k hk hne
          cases k with
          | m s=>rfl
          | u s t=>rfl
          | d s i=>exact H.setj _ hid i (fun c=>hne (by rw [c,show s=e.pack from hk]))
      · rw [if_neg hs]
        refine .inr ⟨rfl,?_⟩
        simp [hs]
    · rw [H.look];exact .inr ⟨rfl,by simp⟩
open Classical in
noncomputable def upd (A:Ab) (k:Key) (v:Option ODecl):Ab:=fun j=>if j=k then v else A j
theorem zYq (A:Ab) (k:Key) (v:Option ODecl):upd A k v k=v:=by unfold upd;rw [if_pos rfl]
theorem zIt (A:Ab) {k j:Key} (v:Option ODecl) (h:j≠k):upd A k v j=A j:=by unfold upd;rw [if_neg h]
structure OkE (A:Ab) (e:OEdit):Prop where
 there:2≤e.kind→A (.m e.pack)≠none
 empty:e.kind=2→(∀t,A (.u e.pack t)=none)∧∀i,A (.d e.pack i)=none
structure Step (A:Ab) (e:OEdit) (B:Ab):Prop where
 kd:1≤e.kind∧e.kind≤9
 ok:OkE A e
 loc:∃v,locE e (A (keyE e))=some v∧B=upd A (keyE e) v
theorem zSh {l:List OMod} {k:Key} {m:OMod} (h:look ltB OMod.label l k.pack=some m):ab l k=abM m k:=by unfold ab;rw [h]
theorem zYr {l:List OMod} {k:Key} (h:look ltB OMod.label l k.pack=none):ab l k=none:=by unfold ab;rw [h]
theorem zIu {m:OMod} (hm:SrtM m):(m.uses=[]∧m.decls=[])↔(∀s t,abM m (.u s t)=none)∧∀s i,abM m (.d s i)=none:=by
 constructor
 ·rintro ⟨h1,h2⟩
  refine ⟨fun s t=>?_,fun s i=>?_⟩
  ·show (look ltB id m.uses t).map _=none;rw [h1];rfl
  ·show look ltI ODecl.id m.decls i=none;rw [h2];rfl
 ·rintro ⟨h1,h2⟩
  constructor
  ·cases hu:m.uses with
   | nil=>rfl
   | cons x r=>
    have:=h1 m.label x;have e:=zYo zOa hm.uses (x:=x) (by rw [hu];exact List.mem_cons_self ..);have:(look ltB id m.uses x).map (fun _=>noDecl)=none:=this;rw [show look ltB id m.uses x=some x from e] at this;cases this
  ·cases hu:m.decls with
   | nil=>rfl
   | cons x r=>
    have e:=zYo yDv hm.decls (x:=x) (by rw [hu];exact List.mem_cons_self ..);have:look ltI ODecl.id m.decls x.id=none:=h2 m.label x.id;rw [e] at this;cases this
theorem yBm {l:List OMod} (hl:Srt l) {e:OEdit} (h1:1≤e.kind) (h9:e.kind≤9) :
    ((oneL l e).2=0∧Srt (oneL l e).1∧Step (ab l) e (ab (oneL l e).1))∨((oneL l e).2≠0∧∀B,¬Step (ab l) e B):=by
  rcases zCf zOa hl.labels e.pack with ⟨m,H⟩|H
  · have hm:SrtM m:=hl.mods m (zO zOa H.look).1
    have hkey:∀k:Key,k.pack=e.pack→ab l k=abM m k:=fun k hk=>zSh (by rw [hk];exact H.look)
    by_cases k1:e.kind=1
    · refine .inr ⟨by unfold oneL;rw [H.look];simp [k1],fun B hB=>?_⟩
      obtain ⟨v,h,_⟩:=hB.loc
      have hk:keyE e=.m e.pack:=by unfold keyE;rw [if_pos (by omega)]
      rw [hk,hkey _ rfl] at h
      unfold locE at h
      rw [if_pos (.inl k1)] at h
      cases h
    by_cases k2:e.kind=2
    · have hk:keyE e=.m e.pack:=by unfold keyE;rw [if_pos (by omega)]
      by_cases he:m.uses=[]∧m.decls=[]
      · have e0:oneL l e=(delAt l (plc ltB OMod.label l e.pack),0):=by unfold oneL;rw [H.look];simp [k2,he]
        rw [e0]
        obtain ⟨n1,n2⟩:=(zIu hm).1 he
        refine .inl ⟨rfl,⟨H.del,fun x hx=>hl.mods x ?_⟩,⟨h1,h9⟩,⟨fun _=>?_,fun _=>⟨fun t=>?_,fun i=>?_⟩⟩,none,?_,?_⟩
        · unfold delAt at hx
          rcases List.mem_append.1 hx with hx|hx
          · exact List.mem_of_mem_take hx
          · exact List.mem_of_mem_drop hx
        · rw [hkey _ rfl];exact fun c=>by cases c
        · rw [hkey _ rfl];exact n1 _ _
        · rw [hkey _ rfl];exact n2 _ _
        · rw [hk,hkey _ rfl];unfold locE;rw [if_neg (by omega),if_pos (.inl k2)];rfl
        · funext k
          rw [hk]
          by_cases hp:k.pack=e.pack
          · rw [zYr (by rw [hp];exact H.delk)]
            cases k with
            | m s=>rw [show s=e.pack from hp,zYq]
            | u s t=>rw [zIt _ _ (by simp),hkey _ hp];exact (n1 _ _).symm
            | d s i=>rw [zIt _ _ (by simp),hkey _ hp];exact (n2 _ _).symm
          · rw [zIt _ _ (fun c=>hp (by rw [c];rfl))]
            unfold ab
            rw [H.delj _ hp]
      · refine .inr ⟨by unfold oneL;rw [H.look];simp [k2,he],fun B hB=>he ((zIu hm).2 ?_)⟩
        obtain ⟨n1,n2⟩:=hB.ok.empty k2
        refine ⟨fun s t=>?_,fun s i=>?_⟩
        · have:=n1 t;rw [hkey _ rfl] at this;exact this
        · have:=n2 i;rw [hkey _ rfl] at this;exact this
    have e0:oneL l e=(l.set (plc ltB OMod.label l e.pack) (inMod m e).1,(inMod m e).2):=by unfold oneL;rw [H.look];simp [k1,k2]
    rw [e0]
    rcases zYp hm (e:=e) (by omega) h9 with ⟨v,a1,a2,a3,a4,a5,a6⟩|⟨a1,a2⟩
    · have hlab:(inMod m e).1.label=e.pack:=by rw [a3];exact H.ky
      refine .inl ⟨a2,⟨H.set _ hlab,fun x hx=>?_⟩,⟨h1,h9⟩,⟨fun _=>?_,fun c=>absurd c k2⟩,v,?_,?_⟩
      · rcases List.mem_or_eq_of_mem_set hx with hx|hx
        · exact hl.mods x hx
        · rw [hx];exact a4
      · rw [hkey _ rfl];exact fun c=>by cases c
      · rw [hkey _ (zKj e)];exact a1
      · funext k
        by_cases hp:k.pack=e.pack
        · rw [zSh (m:=(inMod m e).1) (by rw [hp];exact H.setk _ hlab)]
          by_cases hk:k=keyE e
          · rw [hk,zYq];exact a5
          · rw [zIt _ _ hk,hkey _ hp];exact a6 k hp hk
        · rw [zIt _ _ (fun c=>hp (by rw [c];exact zKj e))]
          unfold ab
          rw [H.setj _ hlab _ hp]
    · refine .inr ⟨a2,fun B hB=>?_⟩
      obtain ⟨v,h,_⟩:=hB.loc
      rw [hkey _ (zKj e),a1] at h;cases h
  · have hkey:∀k:Key,k.pack=e.pack→ab l k=none:=fun k hk=>zYr (by rw [hk];exact H.look)
    by_cases k1:e.kind=1
    · have hk:keyE e=.m e.pack:=by unfold keyE;rw [if_pos (by omega)]
      have e0:oneL l e=(insAt l (plc ltB OMod.label l e.pack) ⟨e.pack,[],[]⟩,0):=by unfold oneL;rw [H.look];simp [k1]
      rw [e0]
      refine .inl ⟨rfl,⟨H.ins _ rfl,fun x hx=>?_⟩,⟨h1,h9⟩,⟨fun c=>by omega,fun c=>by omega⟩,some noDecl,?_,?_⟩
      · unfold insAt at hx
        rcases List.mem_append.1 hx with hx|hx
        · exact hl.mods x (List.mem_of_mem_take hx)
        · rcases List.mem_cons.1 hx with rfl|hx
          · exact ⟨List.Pairwise.nil,List.Pairwise.nil⟩
          · exact hl.mods x (List.mem_of_mem_drop hx)
      · rw [hk,hkey _ rfl];unfold locE;rw [if_pos (.inl k1)]
      · funext k
        rw [hk]
        by_cases hp:k.pack=e.pack
        · rw [zSh (m:=⟨e.pack,[],[]⟩) (by rw [hp];exact H.insk _ rfl)]
          cases k with
          | m s=>rw [show s=e.pack from hp,zYq];rfl
          | u s t=>rw [zIt _ _ (by simp),hkey _ hp];rfl
          | d s i=>rw [zIt _ _ (by simp),hkey _ hp];rfl
        · rw [zIt _ _ (fun c=>hp (by rw [c];rfl))]
          unfold ab
          rw [H.insj _ rfl _ hp]
    · refine .inr ⟨by unfold oneL;rw [H.look];simp [k1],fun B hB=>hB.ok.there (by omega) (hkey _ rfl)⟩
end Go.Proofs.YtfkjfdbjhlmjcaaGreatDoor
namespace Go.Proofs.YtfkjfdbjhlmjcaaGreatDoor
theorem yFj {e:OEdit} (h:editErr e=0) (h7:7≤e.kind):dAt e.old 0=partD e.kind (dAt e.old 0)∧dAt e.fresh 0=partD e.kind (dAt e.fresh 0)∧(dAt e.old 0).id=(dAt e.fresh 0).id∧dAt e.old 0≠dAt e.fresh 0:=by
  obtain ⟨_,hf,_⟩:=zIs.1 h
  unfold fitsB at hf
  split at hf
  · split at hf
    · cases hf
    · rw [if_neg (by omega)] at hf
      unfold changeB at hf
      simp only [Bool.and_eq_true,beq_iff_eq,Bool.not_eq_true'] at hf
      refine ⟨zFf.1 hf.1,zFf.1 hf.2.1,hf.2.2.1,fun c=>?_⟩
      have:=hf.2.2.2
      rw [zFf.2 c] at this;cases this
  · cases hf
structure ValM (m:OMod):Prop where
  label:labelS m.label=true
  uses:Asc ltB id m.uses
  ulen:m.uses.length≤20
  ulab:∀s∈m.uses,labelS s=true
  uerr:∀i,i<m.uses.length→useErr m.label m.uses i=0
  dlen:m.decls.length≤100
  ids:Asc ltI ODecl.id m.decls
  decl:∀d∈m.decls,declErr m.label d=0
theorem zHh {α:Type} {R:α→α→Prop} (htr:∀a b c,R a b→R b c→R a c):∀{l:List α},(∀(i:Nat) (a b:α),l[i]?=some a→l[i+1]?=some b→R a b)→l.Pairwise R
 | [],_=>List.Pairwise.nil
 | [a],_=>List.pairwise_singleton _ _
 | a::b::r,h=>by
  have ih:=zHh htr (l:=b::r) (fun i x y hx hy=>h (i+1) x y hx hy);have hab:=h 0 a b rfl rfl;refine List.pairwise_cons.2 ⟨fun x hx=>?_,ih⟩
  rcases List.mem_cons.1 hx with rfl|hx
  ·exact hab
  ·exact htr _ _ _ hab ((List.pairwise_cons.1 ih).1 x hx)
theorem zDw {l:List ByteArray} {i:Nat} {a:ByteArray} (h:l[i]?=some a):sAt l i=a:=by
 unfold sAt;rw [List.getD_eq_getElem?_getD,h];rfl
theorem zKk {α κ:Type} {lt:κ→κ→Bool} {key:α→κ} (S:SO lt) {l:List α} (h:∀(i:Nat) (a b:α),l[i]?=some a→l[i+1]?=some b→lt (key a) (key b)=true):Asc lt key l:=
 zHh (R:=fun a b=>lt (key a) (key b)=true) (fun _ _ _ h k=>S.tr h k) h
theorem zYs {α κ:Type} {lt:κ→κ→Bool} {key:α→κ} {l:List α} (h:Asc lt key l) {i j:Nat} {a b:α} (hij:i<j) (ha:l[i]?=some a) (hb:l[j]?=some b):lt (key a) (key b)=true:=by
 obtain ⟨hi,rfl⟩:=List.getElem?_eq_some_iff.1 ha;obtain ⟨hj,rfl⟩:=List.getElem?_eq_some_iff.1 hb;exact List.pairwise_iff_getElem.1 h i j hi hj hij
theorem zIv {l:List ByteArray}:usesErr l=0↔l.length≤20∧(∀s∈l,labelS s=true)∧Asc ltB id l:=by
 unfold usesErr
 constructor
 ·intro h
  split at h
  ·omega
  ·rename_i hl
   rw [zGo] at h
   have hu:∀i,i<l.length→labelS (sAt l i)=true∧(0<i→ltB (sAt l (i - 1)) (sAt l i)=true):=by
    intro i hi;have:=h i hi;unfold useAt at this;split at this
    ·rename_i h1
     split at this
     ·omega
     ·rename_i h2;exact ⟨h1,fun h0=>by unfold ltB;rw [←Bool.not_eq_false];exact fun e=>h2 ⟨h0,e⟩⟩
    ·omega
   refine ⟨by omega,fun s hs=>?_,zKk zOa fun i a b ha hb=>?_⟩
   ·obtain ⟨i,hi,rfl⟩:=List.mem_iff_getElem.1 hs
    have:=(hu i hi).1;rwa [zDw (List.getElem?_eq_getElem hi)] at this
   ·have hi:i+1<l.length:=(List.getElem?_eq_some_iff.1 hb).1
    have:=(hu (i+1) hi).2 (by omega);rwa [Nat.add_sub_cancel,zDw ha,zDw hb] at this
 ·rintro ⟨h1,h2,h3⟩
  rw [if_neg (by omega),zGo];intro i hi;unfold useAt;rw [zDw (List.getElem?_eq_getElem hi),if_pos (h2 _ (List.getElem_mem hi)),if_neg];rintro ⟨h0,hc⟩;rw [zDw (List.getElem?_eq_getElem (show i - 1<l.length by omega))] at hc;have:=zYs h3 (show i - 1<i by omega) (List.getElem?_eq_getElem (show i - 1<l.length by omega)) (List.getElem?_eq_getElem hi);exact absurd (this.symm.trans hc) (by simp)
theorem zIw {label:ByteArray} {l:List ODecl}:nzFrom (declAt label l) l.length 0=0↔(∀d∈l,declErr label d=0)∧Asc ltI ODecl.id l:=by
 rw [zGo]
 constructor
 ·intro h
  have hd:∀k,k<l.length→declErr label (dAt l k)=0∧(0<k→(dAt l (k - 1)).id<(dAt l k).id):=by
   intro k hk;have:=h k hk;unfold declAt at this;split at this
   ·rename_i h1
    split at this
    ·omega
    ·rename_i h2;exact ⟨h1,fun h0=>by have:=fun e=>h2 ⟨h0,e⟩;omega⟩
   ·rename_i h1;exact absurd this h1
  refine ⟨fun d hd'=>?_,zKk yDv fun i a b ha hb=>?_⟩
  ·obtain ⟨i,hi,rfl⟩:=List.mem_iff_getElem.1 hd'
   have:=(hd i hi).1;rwa [zDi (List.getElem?_eq_getElem hi)] at this
  ·have hi:i+1<l.length:=(List.getElem?_eq_some_iff.1 hb).1
   have:=(hd (i+1) hi).2 (by omega);rw [Nat.add_sub_cancel,zDi ha,zDi hb] at this;exact decide_eq_true this
 ·rintro ⟨h1,h2⟩ k hk
  unfold declAt;rw [zDi (List.getElem?_eq_getElem hk),if_pos (h1 _ (List.getElem_mem hk)),if_neg];rintro ⟨h0,hc⟩;rw [zDi (List.getElem?_eq_getElem (show k - 1<l.length by omega))] at hc;have:=of_decide_eq_true (zYs h2 (show k - 1<k by omega) (List.getElem?_eq_getElem (show k - 1<l.length by omega)) (List.getElem?_eq_getElem hk));omega
theorem zKl {m:OMod}:modErr m=0↔ValM m:=by
 unfold modErr
 constructor
 ·intro h
  split at h
  ·rename_i hl
   split at h
   ·rename_i hu
    split at h
    ·rename_i hue
     split at h
     ·omega
     ·rename_i hd
      obtain ⟨u1,u2,u3⟩:=zIv.1 hu;obtain ⟨d1,d2⟩:=zIw.1 h;exact ⟨hl,u3,u1,u2,zGo.1 hue,by omega,d2,d1⟩
    ·rename_i hue;exact absurd h hue
   ·rename_i hu;exact absurd h hu
  ·omega
 ·intro V
  rw [if_pos V.label,if_pos (zIv.2 ⟨V.ulen,V.ulab,V.uses⟩),if_pos (zGo.2 V.uerr),if_neg (by have:=V.dlen;omega),zIw.2 ⟨V.decl,V.ids⟩]
theorem ValM.srt {m:OMod} (V:ValM m):SrtM m:=⟨V.uses,V.ids⟩
theorem zMp {l:List OMod}:nzFrom (ordAt l) l.length 0=0↔Asc ltB OMod.label l:=by
 rw [zGo]
 constructor
 ·intro h
  refine zKk zOa fun i a b ha hb=>?_;have hi:i+1<l.length:=(List.getElem?_eq_some_iff.1 hb).1;have:=h (i+1) hi;unfold ordAt at this;rw [Nat.add_sub_cancel,zF ha,zF hb] at this;split at this
  ·omega
  ·rename_i h2;rw [←Bool.not_eq_false];exact fun e=>h2 ⟨by omega,e⟩
 ·intro h i hi
  unfold ordAt;rw [if_neg];rintro ⟨h0,hc⟩;rw [zF (List.getElem?_eq_getElem (show i - 1<l.length by omega)),zF (List.getElem?_eq_getElem hi)] at hc;have:=zYs h (show i - 1<i by omega) (List.getElem?_eq_getElem (show i - 1<l.length by omega)) (List.getElem?_eq_getElem hi);rw [hc] at this;cases this
theorem zQc {l:List OMod}:modsErr l=0↔Asc ltB OMod.label l∧testErr l=0:=by
 unfold modsErr
 constructor
 ·intro h
  split at h
  ·rename_i h1;exact ⟨zMp.1 h1,h⟩
  ·omega
 ·rintro ⟨h1,h2⟩;rw [if_pos (zMp.2 h1)];exact h2
theorem yEx {l:List OMod} (h:modsErr l=0):Srt l:=by
 obtain ⟨h1,h2⟩:=zQc.1 h;exact ⟨h1,fun m hm=>(zKl.1 (zIr.1 h2 m hm)).srt⟩
end Go.Proofs.YtfkjfdbjhlmjcaaGreatDoor
