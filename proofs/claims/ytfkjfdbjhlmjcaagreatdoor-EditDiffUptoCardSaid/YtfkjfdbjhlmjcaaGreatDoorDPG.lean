/- Applying the edits from modules to others leads there. -/
import Derived.Test.YtfkjfdbjhlmjcaaGreatDoorDCA
namespace Go.Proofs.YtfkjfdbjhlmjcaaGreatDoor
theorem yDn {p:ByteArray} (h:labelS p=true):modErr ⟨p,[],[]⟩=0:=
 zDe.2 ⟨h,List.Pairwise.nil,Nat.zero_le _,fun s hs=>(by cases hs),fun i hi=>absurd hi (Nat.not_lt_zero i),Nat.zero_le _,List.Pairwise.nil,fun d hd=>by cases hd⟩
theorem zGu (k:Int):textBad k noText=false:=by
 have e:noText.toList=[]:=by rw [tl];rfl
 unfold textBad;rw [e];rfl
theorem zYt {p:ByteArray} (h:labelS p=true) {k:Int} (hk:k=1∨k=2):editErr ⟨k,p,noText,[],[]⟩=0:=by
 refine zCe.2 ⟨by show 1≤k∧k≤9;omega,?_,fun m hm=>?_⟩
 ·rcases hk with rfl|rfl<;>simp [fitsB,oldsN,newsN,zGu]
 ·unfold testsOf at hm
  rw [if_pos hk,List.mem_singleton] at hm;rw [hm];exact yDn h
theorem yEc {m:OMod} (V:ValM m) {u:ByteArray} (hu:u∈m.uses):labelS u=true∧nmS (aliasS u)=true∧u≠m.label:=by
 obtain ⟨i,hi,rfl⟩:=List.mem_iff_getElem.1 hu;have h:=V.uerr i hi;unfold useErr at h;rw [zDr (List.getElem?_eq_getElem hi)] at h;split at h
 ·rename_i h1
  split at h
  ·omega
  ·split at h
   ·omega
   ·rename_i h3
    exact ⟨V.ulab _ hu,h1,fun e=>h3 (by rw [e];simp)⟩
 ·omega
theorem zYu {m:OMod} (V:ValM m) {u:ByteArray} (hu:u∈m.uses) {k:Int} (hk:k=3∨k=4):editErr ⟨k,m.label,u,[],[]⟩=0:=by
 obtain ⟨h1,h2,h3⟩:=yEc V hu;refine zCe.2 ⟨by show 1≤k∧k≤9;omega,?_,fun x hx=>?_⟩
 ·rcases hk with rfl|rfl<;>simp [fitsB,oldsN,newsN,textBad]
 ·unfold testsOf at hx
  rw [if_neg (by show ¬(k=1∨k=2);omega),if_pos hk,List.mem_singleton] at hx;rw [hx];refine zDe.2 ⟨V.label,List.pairwise_singleton _ _,by simp,fun s hs=>?_,fun i hi=>?_,Nat.zero_le _,List.Pairwise.nil,fun d hd=>by cases hd⟩
  ·rw [List.mem_singleton] at hs;rw [hs];exact h1
  ·have hi0:i=0:=by simp at hi;exact hi
   subst hi0;unfold useErr;rw [zDr (a:=u) rfl,if_pos h2,if_neg (by simp [dupB]),if_neg];intro c;rw [tl,tl] at c;exact h3 (yAb (by simpa using c))
theorem zJw {p:ByteArray} (h:labelS p=true) {d:ODecl} (hd:declErr p d=0):modErr ⟨p,[],[d]⟩=0:=
 zDe.2 ⟨h,List.Pairwise.nil,Nat.zero_le _,fun s hs=>(by cases hs),fun i hi=>absurd hi (Nat.not_lt_zero i),by simp,List.pairwise_singleton _ _,fun x hx=>by rw [List.mem_singleton] at hx;rw [hx];exact hd⟩
theorem zTq {p:ByteArray} (h:labelS p=true) {d:ODecl} (hd:declErr p d=0):editErr (remD p d)=0∧editErr (addD p d)=0:=by
 constructor
 ·refine zCe.2 ⟨by show (1:Int)≤6∧(6:Int)≤9;omega,by simp [remD,fitsB,oldsN,newsN,zGu],fun m hm=>?_⟩
  unfold testsOf remD at hm;simp [compD] at hm
  rw [hm];exact zJw h hd
 ·refine zCe.2 ⟨by show (1:Int)≤5∧(5:Int)≤9;omega,by simp [addD,fitsB,oldsN,newsN,zGu],fun m hm=>?_⟩
  unfold testsOf addD at hm;simp [compD] at hm
  rw [hm];exact zJw h hd
theorem zIa {d:ODecl}:rDeclErr d=0↔0≤d.id∧d.id≤999999∧(1≤d.kind∧d.kind≤3)∧namesErr d.names=0∧exprErr d.body=0:=by
 unfold rDeclErr
 by_cases h1:d.id<0∨999999<d.id
 ·rw [if_pos h1];exact ⟨fun c=>by omega,fun c=>by omega⟩
 ·rw [if_neg h1]
  by_cases h2:d.kind<1∨3<d.kind
  ·rw [if_pos h2];exact ⟨fun c=>by omega,fun c=>by omega⟩
  ·rw [if_neg h2]
   by_cases h3:namesErr d.names=0
   ·rw [if_pos h3];exact ⟨fun c=>⟨by omega,by omega,by omega,h3,c⟩,fun c=>c.2.2.2.2⟩
   ·rw [if_neg h3];exact ⟨fun c=>absurd c h3,fun c=>absurd c.2.2.2.1 h3⟩
theorem zIb {p:ByteArray} {d:ODecl}:declErr p d=0↔1≤d.id∧d.id≤999999∧(1≤d.kind∧d.kind≤3)∧namesErr d.names=0∧exprErr d.body=0∧anyX (kindP 4) d.body=false∧(freeOf d.body).length=0∧anyX (refP p) d.body=false:=by
 unfold declErr
 by_cases h1:d.id<1
 ·rw [if_pos h1];exact ⟨fun c=>by omega,fun c=>by omega⟩
 ·rw [if_neg h1]
  by_cases h2:rDeclErr d=0
  ·rw [if_pos h2]
   obtain ⟨_,g2,g3,g4,g5⟩:=zIa.1 h2
   by_cases h3:anyX (kindP 4) d.body=true
   ·rw [if_pos h3];exact ⟨fun c=>by omega,fun c=>by rw [c.2.2.2.2.2.1] at h3;cases h3⟩
   ·rw [if_neg h3]
    by_cases h4:(freeOf d.body).length=0
    ·rw [if_pos h4]
     by_cases h5:anyX (refP p) d.body=true
     ·rw [if_pos h5];exact ⟨fun c=>by omega,fun c=>by rw [c.2.2.2.2.2.2.2] at h5;cases h5⟩
     ·rw [if_neg h5];exact ⟨fun _=>⟨by omega,g2,g3,g4,g5,by simpa using h3,h4,by simpa using h5⟩,fun _=>rfl⟩
    ·rw [if_neg h4];exact ⟨fun c=>by omega,fun c=>absurd c.2.2.2.2.2.2.1 h4⟩
  ·rw [if_neg h2];exact ⟨fun c=>absurd c h2,fun c=>absurd (zIa.2 ⟨by omega,c.2.1,c.2.2.1,c.2.2.2.1,c.2.2.2.2.1⟩) h2⟩
theorem yDo (p:ByteArray):exprErr nilX=0∧anyX (kindP 4) nilX=false∧(freeOf nilX).length=0∧anyX (refP p) nilX=false:=by
 refine ⟨by decide,by decide,by decide,?_⟩;rw [zIl];simp [refP,nilX,Ex.kind,Ex.subs]
theorem zTr:namesErr [aName]=0:=by decide
theorem zQq {p:ByteArray} {k:Int} (hk:k=7∨k=8∨k=9) {d:ODecl} (hd:declErr p d=0):declErr p (compD k (partD k d))=0:=by
 obtain ⟨h1,h2,h3,h4,h5,h6,h7,h8⟩:=zIb.1 hd;obtain ⟨n1,n2,n3,n4⟩:=yDo p;refine zIb.2 ?_
 rcases hk with rfl|rfl|rfl
 ·exact ⟨h1,h2,by simp [compD,partD],h4,n1,n2,n3,n4⟩
 ·exact ⟨h1,h2,by simp [compD,partD],zTr,h5,h6,h7,h8⟩
 ·exact ⟨h1,h2,h3,zTr,n1,n2,n3,n4⟩
theorem zNh {k:Int} (hk:k=7∨k=8∨k=9) (d:ODecl):partD k (partD k d)=partD k d:=by
 rcases hk with rfl|rfl|rfl<;>rfl
theorem yBq {p:ByteArray} (h:labelS p=true) {a b:ODecl} (ha:declErr p a=0) (hb:declErr p b=0) (hid:a.id=b.id) {k:Int} (hk:k=7∨k=8∨k=9) (hne:sameD (partD k a) (partD k b)=false):editErr (partE7 p a b k)=0:=by
 refine zCe.2 ⟨by show 1≤k∧k≤9;omega,?_,fun m hm=>?_⟩
 ·unfold fitsB
  rw [if_pos (by show 1=oldsN k∧1=newsN k;unfold oldsN newsN;rw [if_pos (by omega),if_pos (by omega)];exact ⟨rfl,rfl⟩),if_neg (by show ¬textBad k noText=true;rw [zGu];simp),if_neg (by show ¬k<7;omega)];show changeB k (partD k a) (partD k b)=true
  unfold changeB;rw [zNh hk,zNh hk,zDj.2 rfl,zDj.2 rfl,zOb,zOb,hid,hne];simp
 ·unfold testsOf at hm
  rw [if_neg (by show ¬(k=1∨k=2);omega),if_neg (by show ¬(k=3∨k=4);omega)] at hm;obtain ⟨d,hd,rfl⟩:=List.mem_map.1 hm;have hd:d∈[partD k a]++[partD k b]:=hd
  rcases List.mem_append.1 hd with hd|hd<;>rw [List.mem_singleton] at hd<;>subst hd
  ·exact zJw h (zQq hk ha)
  ·exact zJw h (zQq hk hb)
noncomputable def updAll (v:Option ODecl):Ab→List OEdit→Ab
 | A,[]=>A
 | A,e::r=>updAll v (upd A (keyE e) v) r
theorem zBm {v:Option ODecl} {k:Key}:∀{es:List OEdit} {A:Ab},(∀e∈es,keyE e≠k)→updAll v A es k=A k
 | [],_,_=>rfl
 | e::r,A,h=>by
  rw [updAll,zBm fun x hx=>h x (List.mem_cons_of_mem _ hx),zBr _ _ (h e (List.mem_cons_self ..)).symm]
theorem zFx {v:Option ODecl} {e:OEdit}:∀{es:List OEdit} {A:Ab},e∈es→updAll v A es (keyE e)=v
 | x::r,A,h=>by
  rw [updAll]
  by_cases hr:∃y∈r,keyE y=keyE e
  ·obtain ⟨y,hy,he⟩:=hr
   rw [←he];exact zFx hy
  ·have hno:∀y∈r,keyE y≠keyE e:=fun y hy c=>hr ⟨y,hy,c⟩
   rcases List.mem_cons.1 h with rfl|h
   ·rw [zBm hno,zFj]
   ·exact absurd rfl (hno e h)
theorem yDp {A:Ab} {e f:OEdit} {v:Option ODecl} (h:OkE A e) (hc:e.kind=1∨(e.kind=2∧f.kind=2∧keyE e≠keyE f)∨(3≤e.kind∧3≤f.kind)):OkE (upd A (keyE f) v) e:=by
 rcases hc with hc|⟨h1,h2,h3⟩|⟨h1,h2⟩
 ·exact ⟨fun c=>by omega,fun c=>by omega⟩
 ·rw [zOa (by omega),zOa (by omega)] at h3
  rw [zOa (by omega)];refine ⟨fun c=>?_,fun c=>⟨fun t=>?_,fun i=>?_⟩⟩
  ·rw [zBr _ _ h3];exact h.there c
  ·rw [zBr _ _ (by simp)];exact (h.empty c).1 t
  ·rw [zBr _ _ (by simp)];exact (h.empty c).2 i
 ·have nm:Key.m e.pack≠keyE f:=by unfold keyE;rw [if_neg (by omega)];split<;>simp
  exact ⟨fun c=>by rw [zBr _ _ nm];exact h.there c,fun c=>by omega⟩
theorem zLz {v:Option ODecl}:∀{es:List OEdit} {A:Ab},(es.map keyE).Nodup→(∀e∈es,editErr e=0∧OkE A e∧locE e (A (keyE e))=some v)→((∀e∈es,e.kind=1)∨(∀e∈es,e.kind=2)∨∀e∈es,3≤e.kind)→Run A es (updAll v A es)
 | [],_,_,_,_=>rfl
 | e::r,A,hn,h,hc=>by
  obtain ⟨h1,h2,h3⟩:=h e (List.mem_cons_self ..);rw [List.map_cons,List.nodup_cons] at hn;have hne:∀x∈r,keyE x≠keyE e:=fun x hx c=>hn.1 (by rw [←c];exact List.mem_map.2 ⟨x,hx,rfl⟩);refine ⟨h1,_,⟨(zCe.1 h1).1,h2,v,h3,rfl⟩,?_⟩;refine zLz hn.2 (fun x hx=>?_) ?_
  ·obtain ⟨g1,g2,g3⟩:=h x (List.mem_cons_of_mem _ hx)
   refine ⟨g1,yDp g2 ?_,by rw [zBr _ _ (hne x hx)];exact g3⟩
   rcases hc with hc|hc|hc
   ·exact .inl (hc x (List.mem_cons_of_mem _ hx))
   ·exact .inr (.inl ⟨hc x (List.mem_cons_of_mem _ hx),hc e (List.mem_cons_self ..),hne x hx⟩)
   ·exact .inr (.inr ⟨hc x (List.mem_cons_of_mem _ hx),hc e (List.mem_cons_self ..)⟩)
  ·rcases hc with hc|hc|hc
   ·exact .inl fun x hx=>hc x (List.mem_cons_of_mem _ hx)
   ·exact .inr (.inl fun x hx=>hc x (List.mem_cons_of_mem _ hx))
   ·exact .inr (.inr fun x hx=>hc x (List.mem_cons_of_mem _ hx))
theorem zIc (k:Int) (hk:k=7∨k=8∨k=9) (d b:ODecl):setPart k d (partD k b)=setPart k d b:=by
 rcases hk with rfl|rfl|rfl<;>rfl
theorem zOp {A:Ab} {p:ByteArray} {a b x:ODecl} {k:Int} (hk:k=7∨k=8∨k=9) (hl:labelS p=true) (ha:declErr p a=0) (hb:declErr p b=0) (hid:a.id=b.id) (hm:A (.m p)≠none) (hx:A (.d p a.id)=some x) (hp:partD k x=partD k a) :
  Run A (if sameD (partD k a) (partD k b) then [] else [partE7 p a b k]) (upd A (.d p a.id) (some (setPart k x b))):=by
 by_cases h:sameD (partD k a) (partD k b)=true
 ·rw [if_pos h]
  have e:setPart k x b=x:=by
   have:=zDj.1 h;rw [←zIc k hk,←this,←hp]
   cases x;rcases hk with rfl|rfl|rfl<;>rfl
  rw [e,←hx,yAc];rfl
 ·rw [if_neg h]
  have hv:=yBq hl ha hb hid hk (by simpa using h)
  have hkey:keyE (partE7 p a b k)=.d p a.id:=by
   unfold keyE concI;rw [if_neg (by show ¬k≤2;omega),if_neg (by show ¬k≤4;omega),if_neg (by show ¬k≤4;omega),if_neg (by show ¬k=5;omega)];show Key.d p (partD k a).id=_
   rw [zOb]
  refine ⟨hv,_,⟨by show 1≤k∧k≤9;omega,⟨fun _=>hm,fun c=>absurd c (by show ¬k=2;omega)⟩,some (setPart k x b),?_,by rw [hkey]⟩,rfl⟩;rw [hkey,hx];refine (yEj (by show 7≤k;omega)).2 ⟨x,rfl,hp,?_⟩;show some (setPart k x b)=some (setPart k x (partD k b))
  rw [zIc k hk]
theorem zYv {A:Ab} {p:ByteArray} {a b:ODecl} (hl:labelS p=true) (ha:declErr p a=0) (hb:declErr p b=0) (hid:a.id=b.id) (hm:A (.m p)≠none) (hx:A (.d p a.id)=some a):Run A (partsL p a b) (upd A (.d p a.id) (some b)):=by
 have e:partsL p a b=(if sameD (partD 7 a) (partD 7 b) then [] else [partE7 p a b 7])++((if sameD (partD 8 a) (partD 8 b) then [] else [partE7 p a b 8])++(if sameD (partD 9 a) (partD 9 b) then [] else [partE7 p a b 9])):=by
  unfold partsL
  cases h7:sameD (partD 7 a) (partD 7 b)<;>cases h8:sameD (partD 8 a) (partD 8 b)<;>cases h9:sameD (partD 9 a) (partD 9 b)<;>simp [List.filter,h7,h8,h9]
 rw [e];have s7:=zOp (k:=7) (.inl rfl) hl ha hb hid hm hx rfl;have s8:=zOp (k:=8) (A:=upd A (.d p a.id) (some (setPart 7 a b))) (.inr (.inl rfl)) hl ha hb hid (by rw [zBr _ _ (by simp)];exact hm) (zFj _ _ _) rfl;rw [zXc] at s8;have s9:=zOp (k:=9) (A:=upd A (.d p a.id) (some (setPart 8 (setPart 7 a b) b))) (.inr (.inr rfl)) hl ha hb hid (by rw [zBr _ _ (by simp)];exact hm) (zFj _ _ _) rfl;rw [zXc] at s9;have eb:setPart 9 (setPart 8 (setPart 7 a b) b) b=b:=by cases a;cases b;simp only at hid;subst hid;rfl
 rw [eb] at s9;exact zCa.2 ⟨_,s7,zCa.2 ⟨_,s8,s9⟩⟩
def idIn (i:Int) (l:List ODecl):Prop:=∃x∈l,x.id=i
theorem zYw {p:ByteArray} (hl:labelS p=true):∀(n:Nat) {xs bs:List ODecl} {A:Ab},xs.length+bs.length=n→Asc ltI ODecl.id xs→Asc ltI ODecl.id bs→(∀d∈xs,declErr p d=0)→(∀d∈bs,declErr p d=0)→A (.m p)≠none →
  (∀i,idIn i xs∨idIn i bs→A (.d p i)=look ltI ODecl.id xs i) →
  ∃B,Run A (declE p xs bs) B∧(∀i,idIn i xs∨idIn i bs→B (.d p i)=look ltI ODecl.id bs i)∧∀k,(∀i,idIn i xs∨idIn i bs→k≠.d p i)→B k=A k:=by
 intro n
 induction n using Nat.strongRecOn with
 | _ n ih=>
  intro xs bs A hn ha hb va vb hm hA;have lt:∀{i j:Int},ltI i j=true→i≠j:=fun h c=>by rw [c] at h;simp [ltI] at h
  have rem:∀{a:ODecl} {r:List ODecl},xs=a::r→(∀x∈bs,ltI a.id x.id=true)→(∀x∈r,ltI a.id x.id=true)→Asc ltI ODecl.id r→∃B,Run A (remD p a::declE p r bs) B∧(∀i,idIn i xs∨idIn i bs→B (.d p i)=look ltI ODecl.id bs i)∧∀k,(∀i,idIn i xs∨idIn i bs→k≠.d p i)→B k=A k:=by
   intro a r has hlow hlr hr;subst has;have haa:A (.d p a.id)=some a:=by rw [hA _ (.inl ⟨a,List.mem_cons_self ..,rfl⟩),zBx zLf _ rfl]
   have hne:∀i,idIn i r∨idIn i bs→i≠a.id:=by
    rintro i (⟨x,hx,rfl⟩|⟨x,hx,rfl⟩)
    ·exact (lt (hlr x hx)).symm
    ·exact (lt (hlow x hx)).symm
   obtain ⟨B,h1,h2,h3⟩:=ih (r.length+bs.length) (by simp at hn;omega) (A:=upd A (.d p a.id) none) rfl hr hb (fun d hd=>va d (List.mem_cons_of_mem _ hd)) vb (by rw [zBr _ _ (by simp)];exact hm) (fun i hi=>by
    rw [zBr _ _ (fun c=>hne i hi (by injection c)),hA i (hi.elim (fun ⟨x,hx,e⟩=>.inl ⟨x,List.mem_cons_of_mem _ hx,e⟩) .inr),zDd zLf _ (fun c=>hne i hi c.symm)])
   have hk:keyE (remD p a)=.d p a.id:=rfl;refine ⟨B,⟨(zTq hl (va a (List.mem_cons_self ..))).1,_,⟨by show (1:Int)≤6∧(6:Int)≤9;omega,⟨fun _=>hm,fun c=>absurd c (by show ¬(6:Int)=2;omega)⟩,none,?_,by rw [hk]⟩,h1⟩,?_,?_⟩
   ·rw [hk,haa];exact (yEi rfl).2 ⟨rfl,rfl⟩
   ·intro i hi
    by_cases e:i=a.id
    ·by_cases hin:idIn i r∨idIn i bs
     ·exact h2 i hin
     ·rw [h3 (.d p i) (fun j hj c=>hin (by injection c with _ c;rw [c];exact hj)),e,zFj]
      exact ((zCp zLf).2 fun x hx=>(lt (hlow x hx)).symm).symm
    ·refine h2 i (hi.elim (fun ⟨x,hx,ex⟩=>?_) .inr)
     rcases List.mem_cons.1 hx with rfl|hx
     ·exact absurd ex.symm e
     ·exact .inl ⟨x,hx,ex⟩
   ·intro k hk2
    rw [h3 k (fun i hi=>hk2 i (hi.elim (fun ⟨x,hx,e⟩=>.inl ⟨x,List.mem_cons_of_mem _ hx,e⟩) .inr)),zBr _ _ (hk2 a.id (.inl ⟨a,List.mem_cons_self ..,rfl⟩))]
  have add:∀{b:ODecl} {r:List ODecl},bs=b::r→(∀x∈xs,ltI b.id x.id=true)→(∀x∈r,ltI b.id x.id=true)→Asc ltI ODecl.id r→∃B,Run A (addD p b::declE p xs r) B∧(∀i,idIn i xs∨idIn i bs→B (.d p i)=look ltI ODecl.id bs i)∧∀k,(∀i,idIn i xs∨idIn i bs→k≠.d p i)→B k=A k:=by
   intro b r hbs hlow hlr hr;subst hbs
   have haa:A (.d p b.id)=none:=by
    rw [hA _ (.inr ⟨b,List.mem_cons_self ..,rfl⟩)];exact (zCp zLf).2 fun x hx=>(lt (hlow x hx)).symm
   have hne:∀i,idIn i xs∨idIn i r→i≠b.id:=by
    rintro i (⟨x,hx,rfl⟩|⟨x,hx,rfl⟩)
    ·exact (lt (hlow x hx)).symm
    ·exact (lt (hlr x hx)).symm
   obtain ⟨B,h1,h2,h3⟩:=ih (xs.length+r.length) (by simp at hn;omega) (A:=upd A (.d p b.id) (some b)) rfl ha hr va (fun d hd=>vb d (List.mem_cons_of_mem _ hd)) (by rw [zBr _ _ (by simp)];exact hm) (fun i hi=>by
    rw [zBr _ _ (fun c=>hne i hi (by injection c)),hA i (hi.elim .inl (fun ⟨x,hx,e⟩=>.inr ⟨x,List.mem_cons_of_mem _ hx,e⟩))])
   have hk:keyE (addD p b)=.d p b.id:=rfl;refine ⟨B,⟨(zTq hl (vb b (List.mem_cons_self ..))).2,_,⟨by show (1:Int)≤5∧(5:Int)≤9;omega,⟨fun _=>hm,fun c=>absurd c (by show ¬(5:Int)=2;omega)⟩,some b,?_,by rw [hk]⟩,h1⟩,?_,?_⟩
   ·rw [hk,haa];exact (yEh rfl).2 ⟨rfl,rfl⟩
   ·intro i hi
    by_cases e:i=b.id
    ·by_cases hin:idIn i xs∨idIn i r
     ·exact absurd e (hne i hin)
     ·rw [h3 (.d p i) (fun j hj c=>hin (by injection c with _ c;rw [c];exact hj)),e,zFj,zBx zLf _ rfl]
    ·rw [zDd zLf _ (fun c=>e c.symm)]
     refine h2 i (hi.elim .inl (fun ⟨x,hx,ex⟩=>?_))
     rcases List.mem_cons.1 hx with rfl|hx
     ·exact absurd ex.symm e
     ·exact .inr ⟨x,hx,ex⟩
   ·intro k hk2
    rw [h3 k (fun i hi=>hk2 i (hi.elim .inl (fun ⟨x,hx,e⟩=>.inr ⟨x,List.mem_cons_of_mem _ hx,e⟩))),zBr _ _ (hk2 b.id (.inr ⟨b,List.mem_cons_self ..,rfl⟩))]
  cases xs with
  | nil=>
   cases bs with
   | nil=>rw [declE];exact ⟨A,rfl,fun i hi=>(by rcases hi with ⟨x,hx,_⟩|⟨x,hx,_⟩<;>cases hx),fun _ _=>rfl⟩
   | cons b r=>
    obtain ⟨hb1,hb2⟩:=zBs.1 hb;rw [declE];exact add rfl (fun x hx=>by cases hx) hb1 hb2
  | cons a xs=>
   obtain ⟨ha1,ha2⟩:=zBs.1 ha
   cases bs with
   | nil=>rw [declE];exact rem rfl (fun x hx=>by cases hx) ha1 ha2
   | cons b bs=>
    obtain ⟨hb1,hb2⟩:=zBs.1 hb;rw [declE]
    by_cases h1:a.id<b.id
    ·rw [if_pos h1]
     have h1':ltI a.id b.id=true:=decide_eq_true h1
     exact rem rfl (fun x hx=>by
      rcases List.mem_cons.1 hx with rfl|hx
      ·exact h1'
      ·exact zLf.tr h1' (hb1 x hx)) ha1 ha2
    ·rw [if_neg h1]
     by_cases h2:b.id<a.id
     ·rw [if_pos h2]
      have h2':ltI b.id a.id=true:=decide_eq_true h2
      exact add rfl (fun x hx=>by
       rcases List.mem_cons.1 hx with rfl|hx
       ·exact h2'
       ·exact zLf.tr h2' (ha1 x hx)) hb1 hb2
     ·rw [if_neg h2]
      have hid:a.id=b.id:=by omega
      have haa:A (.d p a.id)=some a:=by rw [hA _ (.inl ⟨a,List.mem_cons_self ..,rfl⟩),zBx zLf _ rfl]
      have s:=zYv hl (va a (List.mem_cons_self ..)) (vb b (List.mem_cons_self ..)) hid hm haa
      have hne:∀i,idIn i xs∨idIn i bs→i≠a.id:=by
       rintro i (⟨x,hx,rfl⟩|⟨x,hx,rfl⟩)
       ·exact (lt (ha1 x hx)).symm
       ·rw [hid];exact (lt (hb1 x hx)).symm
      obtain ⟨B,h3,h4,h5⟩:=ih (xs.length+bs.length) (by simp at hn;omega) (A:=upd A (.d p a.id) (some b)) rfl ha2 hb2 (fun d hd=>va d (List.mem_cons_of_mem _ hd)) (fun d hd=>vb d (List.mem_cons_of_mem _ hd)) (by rw [zBr _ _ (by simp)];exact hm) (fun i hi=>by
       rw [zBr _ _ (fun c=>hne i hi (by injection c)),hA i (hi.elim (fun ⟨x,hx,e⟩=>.inl ⟨x,List.mem_cons_of_mem _ hx,e⟩) (fun ⟨x,hx,e⟩=>.inr ⟨x,List.mem_cons_of_mem _ hx,e⟩)),zDd zLf _ (fun c=>hne i hi c.symm)])
      refine ⟨B,zCa.2 ⟨_,s,h3⟩,?_,?_⟩
      ·intro i hi
       by_cases e:i=a.id
       ·have hin:¬(idIn i xs∨idIn i bs):=fun hin=>hne i hin e
        rw [h5 (.d p i) (fun j hj c=>hin (by injection c with _ c;rw [c];exact hj)),e,zFj,zBx zLf _ hid.symm]
       ·rw [zDd zLf _ (fun c=>e (c.symm.trans hid.symm))]
        refine h4 i (hi.elim (fun ⟨x,hx,ex⟩=>?_) (fun ⟨x,hx,ex⟩=>?_))
        ·rcases List.mem_cons.1 hx with rfl|hx
         ·exact absurd ex.symm e
         ·exact .inl ⟨x,hx,ex⟩
        ·rcases List.mem_cons.1 hx with rfl|hx
         ·exact absurd (ex.symm.trans hid.symm) e
         ·exact .inr ⟨x,hx,ex⟩
      ·intro k hk2
       rw [h5 k (fun i hi=>hk2 i (hi.elim (fun ⟨x,hx,e⟩=>.inl ⟨x,List.mem_cons_of_mem _ hx,e⟩) (fun ⟨x,hx,e⟩=>.inr ⟨x,List.mem_cons_of_mem _ hx,e⟩))),zBr _ _ (hk2 a.id (.inl ⟨a,List.mem_cons_self ..,rfl⟩))]
end Go.Proofs.YtfkjfdbjhlmjcaaGreatDoor
