/- Applying the edits from modules to others leads there. No program in sight. Applying the edits from modules to others leads there; and back; there are none from modules to themselves. No program in sight. The example of chapter 34. Parts of lists of edits; the edits of Diff are small; inverting twice. -/
import Derived.Test.YtdpnfkjafhbndaaGreatDoorEPF
import Derived.Test.YtdpnfkjafhbndaaGreatDoorEDE
import Derived.Test.YtdpnfkjafhbndaaGreatDoorEW1
namespace Go.Proofs.YtdpnfkjafhbndaaGreatDoor
theorem val_one {p:ByteArray} (h:labelS p = true):modErr ⟨p,[],[]⟩ = 0:=
 modErr_zero.2 ⟨h,List.Pairwise.nil,Nat.zero_le _,fun s hs => (by cases hs),fun i hi => absurd hi (Nat.not_lt_zero i),Nat.zero_le _,List.Pairwise.nil,fun d hd => by cases hd⟩
theorem noText_bad (k:Int):textBad k noText = false:=by
 have e:noText.toList = []:=by rw [tl];rfl
 unfold textBad;rw [e];rfl
theorem val_mod {p:ByteArray} (h:labelS p = true) {k:Int} (hk:k = 1∨k = 2):editErr ⟨k,p,noText,[],[]⟩ = 0:=by
 refine editErr_zero.2 ⟨by show 1≤k∧k≤9;omega,?_,fun m hm => ?_⟩
 ·rcases hk with rfl | rfl <;> simp [fitsB,oldsN,newsN,noText_bad]
 ·unfold testsOf at hm
  rw [if_pos hk,List.mem_singleton] at hm;rw [hm];exact val_one h
theorem use_ok {m:OMod} (V:ValM m) {u:ByteArray} (hu:u∈m.uses):labelS u = true∧nmS (aliasS u) = true∧u≠m.label:=by
 obtain ⟨i,hi,rfl⟩:=List.mem_iff_getElem.1 hu;have h:=V.uerr i hi;unfold useErr at h;rw [sAt_some (List.getElem?_eq_getElem hi)] at h;split at h
 ·rename_i h1
  split at h
  ·omega
  ·split at h
   ·omega
   ·rename_i h3
    exact ⟨V.ulab _ hu,h1,fun e => h3 (by rw [e];simp)⟩
 ·omega
theorem val_use {m:OMod} (V:ValM m) {u:ByteArray} (hu:u∈m.uses) {k:Int} (hk:k = 3∨k = 4):editErr ⟨k,m.label,u,[],[]⟩ = 0:=by
 obtain ⟨h1,h2,h3⟩:=use_ok V hu;refine editErr_zero.2 ⟨by show 1≤k∧k≤9;omega,?_,fun x hx => ?_⟩
 ·rcases hk with rfl | rfl <;> simp [fitsB,oldsN,newsN,textBad]
 ·unfold testsOf at hx
  rw [if_neg (by show ¬ (k = 1∨k = 2);omega),if_pos hk,List.mem_singleton] at hx;rw [hx];refine modErr_zero.2 ⟨V.label,List.pairwise_singleton _ _,by simp,fun s hs => ?_,fun i hi => ?_,Nat.zero_le _,List.Pairwise.nil,fun d hd => by cases hd⟩
  ·rw [List.mem_singleton] at hs;rw [hs];exact h1
  ·have hi0:i = 0:=by simp at hi;exact hi
   subst hi0;unfold useErr;rw [sAt_some (a:=u) rfl,if_pos h2,if_neg (by simp [dupB]),if_neg];intro c;rw [tl,tl] at c;exact h3 (ba_eq (by simpa using c))
theorem val_dmod {p:ByteArray} (h:labelS p = true) {d:ODecl} (hd:declErr p d = 0):modErr ⟨p,[],[d]⟩ = 0:=
 modErr_zero.2 ⟨h,List.Pairwise.nil,Nat.zero_le _,fun s hs => (by cases hs),fun i hi => absurd hi (Nat.not_lt_zero i),by simp,List.pairwise_singleton _ _,fun x hx => by rw [List.mem_singleton] at hx;rw [hx];exact hd⟩
theorem val_decl {p:ByteArray} (h:labelS p = true) {d:ODecl} (hd:declErr p d = 0):editErr (remD p d) = 0∧editErr (addD p d) = 0:=by
 constructor
 ·refine editErr_zero.2 ⟨by show (1:Int)≤6∧(6:Int)≤9;omega,by simp [remD,fitsB,oldsN,newsN,noText_bad],fun m hm => ?_⟩
  unfold testsOf remD at hm;simp [compD] at hm
  rw [hm];exact val_dmod h hd
 ·refine editErr_zero.2 ⟨by show (1:Int)≤5∧(5:Int)≤9;omega,by simp [addD,fitsB,oldsN,newsN,noText_bad],fun m hm => ?_⟩
  unfold testsOf addD at hm;simp [compD] at hm
  rw [hm];exact val_dmod h hd
theorem rDeclErr_zero {d:ODecl}:rDeclErr d = 0↔0≤d.id∧d.id≤999999∧(1≤d.kind∧d.kind≤3)∧namesErr d.names = 0∧exprErr d.body = 0:=by
 unfold rDeclErr
 by_cases h1:d.id < 0∨999999 < d.id
 ·rw [if_pos h1];exact ⟨fun c => by omega,fun c => by omega⟩
 ·rw [if_neg h1]
  by_cases h2:d.kind < 1∨3 < d.kind
  ·rw [if_pos h2];exact ⟨fun c => by omega,fun c => by omega⟩
  ·rw [if_neg h2]
   by_cases h3:namesErr d.names = 0
   ·rw [if_pos h3];exact ⟨fun c => ⟨by omega,by omega,by omega,h3,c⟩,fun c => c.2.2.2.2⟩
   ·rw [if_neg h3];exact ⟨fun c => absurd c h3,fun c => absurd c.2.2.2.1 h3⟩
theorem declErr_parts {p:ByteArray} {d:ODecl}:declErr p d = 0↔1≤d.id∧d.id≤999999∧(1≤d.kind∧d.kind≤3)∧namesErr d.names = 0∧exprErr d.body = 0∧anyX (kindP 4) d.body = false∧(freeOf d.body).length = 0∧anyX (refP p) d.body = false:=by
 unfold declErr
 by_cases h1:d.id < 1
 ·rw [if_pos h1];exact ⟨fun c => by omega,fun c => by omega⟩
 ·rw [if_neg h1]
  by_cases h2:rDeclErr d = 0
  ·rw [if_pos h2]
   obtain ⟨_,g2,g3,g4,g5⟩:=rDeclErr_zero.1 h2
   by_cases h3:anyX (kindP 4) d.body = true
   ·rw [if_pos h3];exact ⟨fun c => by omega,fun c => by rw [c.2.2.2.2.2.1] at h3;cases h3⟩
   ·rw [if_neg h3]
    by_cases h4:(freeOf d.body).length = 0
    ·rw [if_pos h4]
     by_cases h5:anyX (refP p) d.body = true
     ·rw [if_pos h5];exact ⟨fun c => by omega,fun c => by rw [c.2.2.2.2.2.2.2] at h5;cases h5⟩
     ·rw [if_neg h5];exact ⟨fun _ => ⟨by omega,g2,g3,g4,g5,by simpa using h3,h4,by simpa using h5⟩,fun _ => rfl⟩
    ·rw [if_neg h4];exact ⟨fun c => by omega,fun c => absurd c.2.2.2.2.2.2.1 h4⟩
  ·rw [if_neg h2];exact ⟨fun c => absurd c h2,fun c => absurd (rDeclErr_zero.2 ⟨by omega,c.2.1,c.2.2.1,c.2.2.2.1,c.2.2.2.2.1⟩) h2⟩
theorem nilX_ok (p:ByteArray):exprErr nilX = 0∧anyX (kindP 4) nilX = false∧(freeOf nilX).length = 0∧anyX (refP p) nilX = false:=by
 refine ⟨by decide,by decide,by decide,?_⟩;rw [anyX_eq];simp [refP,nilX,Ex.kind,Ex.subs]
theorem aName_ok:namesErr [aName] = 0:=by decide
theorem comp_part {p:ByteArray} {k:Int} (hk:k = 7∨k = 8∨k = 9) {d:ODecl} (hd:declErr p d = 0):declErr p (compD k (partD k d)) = 0:=by
 obtain ⟨h1,h2,h3,h4,h5,h6,h7,h8⟩:=declErr_parts.1 hd;obtain ⟨n1,n2,n3,n4⟩:=nilX_ok p;refine declErr_parts.2 ?_
 rcases hk with rfl | rfl | rfl
 ·exact ⟨h1,h2,by simp [compD,partD],h4,n1,n2,n3,n4⟩
 ·exact ⟨h1,h2,by simp [compD,partD],aName_ok,h5,h6,h7,h8⟩
 ·exact ⟨h1,h2,h3,aName_ok,n1,n2,n3,n4⟩
theorem partD_idem {k:Int} (hk:k = 7∨k = 8∨k = 9) (d:ODecl):partD k (partD k d) = partD k d:=by
 rcases hk with rfl | rfl | rfl <;> rfl
theorem val_part {p:ByteArray} (h:labelS p = true) {a b:ODecl} (ha:declErr p a = 0) (hb:declErr p b = 0) (hid:a.id = b.id) {k:Int} (hk:k = 7∨k = 8∨k = 9) (hne:sameD (partD k a) (partD k b) = false):editErr (partE7 p a b k) = 0:=by
 refine editErr_zero.2 ⟨by show 1≤k∧k≤9;omega,?_,fun m hm => ?_⟩
 ·unfold fitsB
  rw [if_pos (by show 1 = oldsN k∧1 = newsN k;unfold oldsN newsN;rw [if_pos (by omega),if_pos (by omega)];exact ⟨rfl,rfl⟩),if_neg (by show ¬ textBad k noText = true;rw [noText_bad];simp),if_neg (by show ¬ k < 7;omega)];show changeB k (partD k a) (partD k b) = true
  unfold changeB;rw [partD_idem hk,partD_idem hk,sameD_iff.2 rfl,sameD_iff.2 rfl,partD_id,partD_id,hid,hne];simp
 ·unfold testsOf at hm
  rw [if_neg (by show ¬ (k = 1∨k = 2);omega),if_neg (by show ¬ (k = 3∨k = 4);omega)] at hm;obtain ⟨d,hd,rfl⟩:=List.mem_map.1 hm;have hd:d∈[partD k a] ++ [partD k b]:=hd
  rcases List.mem_append.1 hd with hd | hd <;> rw [List.mem_singleton] at hd <;> subst hd
  ·exact val_dmod h (comp_part hk ha)
  ·exact val_dmod h (comp_part hk hb)
noncomputable def updAll (v:Option ODecl):Ab→List OEdit→Ab
 | A,[] => A
 | A,e :: r => updAll v (upd A (keyE e) v) r
theorem updAll_no {v:Option ODecl} {k:Key}:∀ {es:List OEdit} {A:Ab},(∀ e∈es,keyE e≠k)→updAll v A es k = A k
 | [],_,_ => rfl
 | e :: r,A,h => by
  rw [updAll,updAll_no fun x hx => h x (List.mem_cons_of_mem _ hx),upd_no _ _ (h e (List.mem_cons_self ..)).symm]
theorem updAll_at {v:Option ODecl} {e:OEdit}:∀ {es:List OEdit} {A:Ab},e∈es→updAll v A es (keyE e) = v
 | x :: r,A,h => by
  rw [updAll]
  by_cases hr:∃ y∈r,keyE y = keyE e
  ·obtain ⟨y,hy,he⟩:=hr
   rw [← he];exact updAll_at hy
  ·have hno:∀ y∈r,keyE y≠keyE e:=fun y hy c => hr ⟨y,hy,c⟩
   rcases List.mem_cons.1 h with rfl | h
   ·rw [updAll_no hno,upd_at]
   ·exact absurd rfl (hno e h)
theorem okE_upd {A:Ab} {e f:OEdit} {v:Option ODecl} (h:OkE A e) (hc:e.kind = 1∨(e.kind = 2∧f.kind = 2∧keyE e≠keyE f)∨(3≤e.kind∧3≤f.kind)):OkE (upd A (keyE f) v) e:=by
 rcases hc with hc | ⟨h1,h2,h3⟩ | ⟨h1,h2⟩
 ·exact ⟨fun c => by omega,fun c => by omega⟩
 ·rw [key_low (by omega),key_low (by omega)] at h3
  rw [key_low (by omega)];refine ⟨fun c => ?_,fun c => ⟨fun t => ?_,fun i => ?_⟩⟩
  ·rw [upd_no _ _ h3];exact h.there c
  ·rw [upd_no _ _ (by simp)];exact (h.empty c).1 t
  ·rw [upd_no _ _ (by simp)];exact (h.empty c).2 i
 ·have nm:Key.m e.pack≠keyE f:=by unfold keyE;rw [if_neg (by omega)];split <;> simp
  exact ⟨fun c => by rw [upd_no _ _ nm];exact h.there c,fun c => by omega⟩
theorem run_all {v:Option ODecl}:∀ {es:List OEdit} {A:Ab},(es.map keyE).Nodup→(∀ e∈es,editErr e = 0∧OkE A e∧locE e (A (keyE e)) = some v)→((∀ e∈es,e.kind = 1)∨(∀ e∈es,e.kind = 2)∨∀ e∈es,3≤e.kind)→Run A es (updAll v A es)
 | [],_,_,_,_ => rfl
 | e :: r,A,hn,h,hc => by
  obtain ⟨h1,h2,h3⟩:=h e (List.mem_cons_self ..);rw [List.map_cons,List.nodup_cons] at hn;have hne:∀ x∈r,keyE x≠keyE e:=fun x hx c => hn.1 (by rw [← c];exact List.mem_map.2 ⟨x,hx,rfl⟩);refine ⟨h1,_,⟨(editErr_zero.1 h1).1,h2,v,h3,rfl⟩,?_⟩;refine run_all hn.2 (fun x hx => ?_) ?_
  ·obtain ⟨g1,g2,g3⟩:=h x (List.mem_cons_of_mem _ hx)
   refine ⟨g1,okE_upd g2 ?_,by rw [upd_no _ _ (hne x hx)];exact g3⟩
   rcases hc with hc | hc | hc
   ·exact .inl (hc x (List.mem_cons_of_mem _ hx))
   ·exact .inr (.inl ⟨hc x (List.mem_cons_of_mem _ hx),hc e (List.mem_cons_self ..),hne x hx⟩)
   ·exact .inr (.inr ⟨hc x (List.mem_cons_of_mem _ hx),hc e (List.mem_cons_self ..)⟩)
  ·rcases hc with hc | hc | hc
   ·exact .inl fun x hx => hc x (List.mem_cons_of_mem _ hx)
   ·exact .inr (.inl fun x hx => hc x (List.mem_cons_of_mem _ hx))
   ·exact .inr (.inr fun x hx => hc x (List.mem_cons_of_mem _ hx))
theorem setPart_partD (k:Int) (hk:k = 7∨k = 8∨k = 9) (d b:ODecl):setPart k d (partD k b) = setPart k d b:=by
 rcases hk with rfl | rfl | rfl <;> rfl
theorem run_part {A:Ab} {p:ByteArray} {a b x:ODecl} {k:Int} (hk:k = 7∨k = 8∨k = 9) (hl:labelS p = true) (ha:declErr p a = 0) (hb:declErr p b = 0) (hid:a.id = b.id) (hm:A (.m p)≠none) (hx:A (.d p a.id) = some x) (hp:partD k x = partD k a) :
  Run A (if sameD (partD k a) (partD k b) then [] else [partE7 p a b k]) (upd A (.d p a.id) (some (setPart k x b))):=by
 by_cases h:sameD (partD k a) (partD k b) = true
 ·rw [if_pos h]
  have e:setPart k x b = x:=by
   have:=sameD_iff.1 h;rw [← setPart_partD k hk,← this,← hp]
   cases x;rcases hk with rfl | rfl | rfl <;> rfl
  rw [e,← hx,upd_same];rfl
 ·rw [if_neg h]
  have hv:=val_part hl ha hb hid hk (by simpa using h)
  have hkey:keyE (partE7 p a b k) = .d p a.id:=by
   unfold keyE concI;rw [if_neg (by show ¬ k≤2;omega),if_neg (by show ¬ k≤4;omega),if_neg (by show ¬ k≤4;omega),if_neg (by show ¬ k = 5;omega)];show Key.d p (partD k a).id = _
   rw [partD_id]
  refine ⟨hv,_,⟨by show 1≤k∧k≤9;omega,⟨fun _ => hm,fun c => absurd c (by show ¬ k = 2;omega)⟩,some (setPart k x b),?_,by rw [hkey]⟩,rfl⟩;rw [hkey,hx];refine (loc_7 (by show 7≤k;omega)).2 ⟨x,rfl,hp,?_⟩;show some (setPart k x b) = some (setPart k x (partD k b))
  rw [setPart_partD k hk]
theorem run_parts {A:Ab} {p:ByteArray} {a b:ODecl} (hl:labelS p = true) (ha:declErr p a = 0) (hb:declErr p b = 0) (hid:a.id = b.id) (hm:A (.m p)≠none) (hx:A (.d p a.id) = some a):Run A (partsL p a b) (upd A (.d p a.id) (some b)):=by
 have e:partsL p a b = (if sameD (partD 7 a) (partD 7 b) then [] else [partE7 p a b 7]) ++ ((if sameD (partD 8 a) (partD 8 b) then [] else [partE7 p a b 8]) ++ (if sameD (partD 9 a) (partD 9 b) then [] else [partE7 p a b 9])):=by
  unfold partsL
  cases h7:sameD (partD 7 a) (partD 7 b) <;> cases h8:sameD (partD 8 a) (partD 8 b) <;> cases h9:sameD (partD 9 a) (partD 9 b) <;> simp [List.filter,h7,h8,h9]
 rw [e];have s7:=run_part (k:=7) (.inl rfl) hl ha hb hid hm hx rfl;have s8:=run_part (k:=8) (A:=upd A (.d p a.id) (some (setPart 7 a b))) (.inr (.inl rfl)) hl ha hb hid (by rw [upd_no _ _ (by simp)];exact hm) (upd_at _ _ _) rfl;rw [upd_upd] at s8;have s9:=run_part (k:=9) (A:=upd A (.d p a.id) (some (setPart 8 (setPart 7 a b) b))) (.inr (.inr rfl)) hl ha hb hid (by rw [upd_no _ _ (by simp)];exact hm) (upd_at _ _ _) rfl;rw [upd_upd] at s9;have eb:setPart 9 (setPart 8 (setPart 7 a b) b) b = b:=by cases a;cases b;simp only at hid;subst hid;rfl
 rw [eb] at s9;exact run_append.2 ⟨_,s7,run_append.2 ⟨_,s8,s9⟩⟩
def idIn (i:Int) (l:List ODecl):Prop:=∃ x∈l,x.id = i
theorem run_decls {p:ByteArray} (hl:labelS p = true):∀ (n:Nat) {xs bs:List ODecl} {A:Ab},xs.length + bs.length = n→Asc ltI ODecl.id xs→Asc ltI ODecl.id bs→(∀ d∈xs,declErr p d = 0)→(∀ d∈bs,declErr p d = 0)→A (.m p)≠none →
  (∀ i,idIn i xs∨idIn i bs→A (.d p i) = look ltI ODecl.id xs i) →
  ∃ B,Run A (declE p xs bs) B∧(∀ i,idIn i xs∨idIn i bs→B (.d p i) = look ltI ODecl.id bs i)∧∀ k,(∀ i,idIn i xs∨idIn i bs→k≠.d p i)→B k = A k:=by
 intro n
 induction n using Nat.strongRecOn with
 | _ n ih =>
  intro xs bs A hn ha hb va vb hm hA;have lt:∀ {i j:Int},ltI i j = true→i≠j:=fun h c => by rw [c] at h;simp [ltI] at h
  have rem:∀ {a:ODecl} {r:List ODecl},xs = a :: r→(∀ x∈bs,ltI a.id x.id = true)→(∀ x∈r,ltI a.id x.id = true)→Asc ltI ODecl.id r→∃ B,Run A (remD p a :: declE p r bs) B∧(∀ i,idIn i xs∨idIn i bs→B (.d p i) = look ltI ODecl.id bs i)∧∀ k,(∀ i,idIn i xs∨idIn i bs→k≠.d p i)→B k = A k:=by
   intro a r has hlow hlr hr;subst has;have haa:A (.d p a.id) = some a:=by rw [hA _ (.inl ⟨a,List.mem_cons_self ..,rfl⟩),look_here so_I _ rfl]
   have hne:∀ i,idIn i r∨idIn i bs→i≠a.id:=by
    rintro i (⟨x,hx,rfl⟩ | ⟨x,hx,rfl⟩)
    ·exact (lt (hlr x hx)).symm
    ·exact (lt (hlow x hx)).symm
   obtain ⟨B,h1,h2,h3⟩:=ih (r.length + bs.length) (by simp at hn;omega) (A:=upd A (.d p a.id) none) rfl hr hb (fun d hd => va d (List.mem_cons_of_mem _ hd)) vb (by rw [upd_no _ _ (by simp)];exact hm) (fun i hi => by
    rw [upd_no _ _ (fun c => hne i hi (by injection c)),hA i (hi.elim (fun ⟨x,hx,e⟩ => .inl ⟨x,List.mem_cons_of_mem _ hx,e⟩) .inr),look_there so_I _ (fun c => hne i hi c.symm)])
   have hk:keyE (remD p a) = .d p a.id:=rfl;refine ⟨B,⟨(val_decl hl (va a (List.mem_cons_self ..))).1,_,⟨by show (1:Int)≤6∧(6:Int)≤9;omega,⟨fun _ => hm,fun c => absurd c (by show ¬ (6:Int) = 2;omega)⟩,none,?_,by rw [hk]⟩,h1⟩,?_,?_⟩
   ·rw [hk,haa];exact (loc_6 rfl).2 ⟨rfl,rfl⟩
   ·intro i hi
    by_cases e:i = a.id
    ·by_cases hin:idIn i r∨idIn i bs
     ·exact h2 i hin
     ·rw [h3 (.d p i) (fun j hj c => hin (by injection c with _ c;rw [c];exact hj)),e,upd_at]
      exact ((look_none so_I).2 fun x hx => (lt (hlow x hx)).symm).symm
    ·refine h2 i (hi.elim (fun ⟨x,hx,ex⟩ => ?_) .inr)
     rcases List.mem_cons.1 hx with rfl | hx
     ·exact absurd ex.symm e
     ·exact .inl ⟨x,hx,ex⟩
   ·intro k hk2
    rw [h3 k (fun i hi => hk2 i (hi.elim (fun ⟨x,hx,e⟩ => .inl ⟨x,List.mem_cons_of_mem _ hx,e⟩) .inr)),upd_no _ _ (hk2 a.id (.inl ⟨a,List.mem_cons_self ..,rfl⟩))]
  have add:∀ {b:ODecl} {r:List ODecl},bs = b :: r→(∀ x∈xs,ltI b.id x.id = true)→(∀ x∈r,ltI b.id x.id = true)→Asc ltI ODecl.id r→∃ B,Run A (addD p b :: declE p xs r) B∧(∀ i,idIn i xs∨idIn i bs→B (.d p i) = look ltI ODecl.id bs i)∧∀ k,(∀ i,idIn i xs∨idIn i bs→k≠.d p i)→B k = A k:=by
   intro b r hbs hlow hlr hr;subst hbs
   have haa:A (.d p b.id) = none:=by
    rw [hA _ (.inr ⟨b,List.mem_cons_self ..,rfl⟩)];exact (look_none so_I).2 fun x hx => (lt (hlow x hx)).symm
   have hne:∀ i,idIn i xs∨idIn i r→i≠b.id:=by
    rintro i (⟨x,hx,rfl⟩ | ⟨x,hx,rfl⟩)
    ·exact (lt (hlow x hx)).symm
    ·exact (lt (hlr x hx)).symm
   obtain ⟨B,h1,h2,h3⟩:=ih (xs.length + r.length) (by simp at hn;omega) (A:=upd A (.d p b.id) (some b)) rfl ha hr va (fun d hd => vb d (List.mem_cons_of_mem _ hd)) (by rw [upd_no _ _ (by simp)];exact hm) (fun i hi => by
    rw [upd_no _ _ (fun c => hne i hi (by injection c)),hA i (hi.elim .inl (fun ⟨x,hx,e⟩ => .inr ⟨x,List.mem_cons_of_mem _ hx,e⟩))])
   have hk:keyE (addD p b) = .d p b.id:=rfl;refine ⟨B,⟨(val_decl hl (vb b (List.mem_cons_self ..))).2,_,⟨by show (1:Int)≤5∧(5:Int)≤9;omega,⟨fun _ => hm,fun c => absurd c (by show ¬ (5:Int) = 2;omega)⟩,some b,?_,by rw [hk]⟩,h1⟩,?_,?_⟩
   ·rw [hk,haa];exact (loc_5 rfl).2 ⟨rfl,rfl⟩
   ·intro i hi
    by_cases e:i = b.id
    ·by_cases hin:idIn i xs∨idIn i r
     ·exact absurd e (hne i hin)
     ·rw [h3 (.d p i) (fun j hj c => hin (by injection c with _ c;rw [c];exact hj)),e,upd_at,look_here so_I _ rfl]
    ·rw [look_there so_I _ (fun c => e c.symm)]
     refine h2 i (hi.elim .inl (fun ⟨x,hx,ex⟩ => ?_))
     rcases List.mem_cons.1 hx with rfl | hx
     ·exact absurd ex.symm e
     ·exact .inr ⟨x,hx,ex⟩
   ·intro k hk2
    rw [h3 k (fun i hi => hk2 i (hi.elim .inl (fun ⟨x,hx,e⟩ => .inr ⟨x,List.mem_cons_of_mem _ hx,e⟩))),upd_no _ _ (hk2 b.id (.inr ⟨b,List.mem_cons_self ..,rfl⟩))]
  cases xs with
  | nil =>
   cases bs with
   | nil => rw [declE];exact ⟨A,rfl,fun i hi => (by rcases hi with ⟨x,hx,_⟩ | ⟨x,hx,_⟩ <;> cases hx),fun _ _ => rfl⟩
   | cons b r =>
    obtain ⟨hb1,hb2⟩:=asc_cons.1 hb;rw [declE];exact add rfl (fun x hx => by cases hx) hb1 hb2
  | cons a xs =>
   obtain ⟨ha1,ha2⟩:=asc_cons.1 ha
   cases bs with
   | nil => rw [declE];exact rem rfl (fun x hx => by cases hx) ha1 ha2
   | cons b bs =>
    obtain ⟨hb1,hb2⟩:=asc_cons.1 hb;rw [declE]
    by_cases h1:a.id < b.id
    ·rw [if_pos h1]
     have h1':ltI a.id b.id = true:=decide_eq_true h1
     exact rem rfl (fun x hx => by
      rcases List.mem_cons.1 hx with rfl | hx
      ·exact h1'
      ·exact so_I.tr h1' (hb1 x hx)) ha1 ha2
    ·rw [if_neg h1]
     by_cases h2:b.id < a.id
     ·rw [if_pos h2]
      have h2':ltI b.id a.id = true:=decide_eq_true h2
      exact add rfl (fun x hx => by
       rcases List.mem_cons.1 hx with rfl | hx
       ·exact h2'
       ·exact so_I.tr h2' (ha1 x hx)) hb1 hb2
     ·rw [if_neg h2]
      have hid:a.id = b.id:=by omega
      have haa:A (.d p a.id) = some a:=by rw [hA _ (.inl ⟨a,List.mem_cons_self ..,rfl⟩),look_here so_I _ rfl]
      have s:=run_parts hl (va a (List.mem_cons_self ..)) (vb b (List.mem_cons_self ..)) hid hm haa
      have hne:∀ i,idIn i xs∨idIn i bs→i≠a.id:=by
       rintro i (⟨x,hx,rfl⟩ | ⟨x,hx,rfl⟩)
       ·exact (lt (ha1 x hx)).symm
       ·rw [hid];exact (lt (hb1 x hx)).symm
      obtain ⟨B,h3,h4,h5⟩:=ih (xs.length + bs.length) (by simp at hn;omega) (A:=upd A (.d p a.id) (some b)) rfl ha2 hb2 (fun d hd => va d (List.mem_cons_of_mem _ hd)) (fun d hd => vb d (List.mem_cons_of_mem _ hd)) (by rw [upd_no _ _ (by simp)];exact hm) (fun i hi => by
       rw [upd_no _ _ (fun c => hne i hi (by injection c)),hA i (hi.elim (fun ⟨x,hx,e⟩ => .inl ⟨x,List.mem_cons_of_mem _ hx,e⟩) (fun ⟨x,hx,e⟩ => .inr ⟨x,List.mem_cons_of_mem _ hx,e⟩)),look_there so_I _ (fun c => hne i hi c.symm)])
      refine ⟨B,run_append.2 ⟨_,s,h3⟩,?_,?_⟩
      ·intro i hi
       by_cases e:i = a.id
       ·have hin:¬ (idIn i xs∨idIn i bs):=fun hin => hne i hin e
        rw [h5 (.d p i) (fun j hj c => hin (by injection c with _ c;rw [c];exact hj)),e,upd_at,look_here so_I _ hid.symm]
       ·rw [look_there so_I _ (fun c => e (c.symm.trans hid.symm))]
        refine h4 i (hi.elim (fun ⟨x,hx,ex⟩ => ?_) (fun ⟨x,hx,ex⟩ => ?_))
        ·rcases List.mem_cons.1 hx with rfl | hx
         ·exact absurd ex.symm e
         ·exact .inl ⟨x,hx,ex⟩
        ·rcases List.mem_cons.1 hx with rfl | hx
         ·exact absurd (ex.symm.trans hid.symm) e
         ·exact .inr ⟨x,hx,ex⟩
      ·intro k hk2
       rw [h5 k (fun i hi => hk2 i (hi.elim (fun ⟨x,hx,e⟩ => .inl ⟨x,List.mem_cons_of_mem _ hx,e⟩) (fun ⟨x,hx,e⟩ => .inr ⟨x,List.mem_cons_of_mem _ hx,e⟩))),upd_no _ _ (hk2 a.id (.inl ⟨a,List.mem_cons_self ..,rfl⟩))]
theorem ab_u {l:List OMod} {s t:ByteArray}:ab l (.u s t) = (look ltB id (usesO (look ltB OMod.label l s)) t).map fun _ => noDecl:=by
 cases h:look ltB OMod.label l s with
 | none => rw [ab_none (k:=.u s t) h];rfl
 | some m => rw [ab_some (k:=.u s t) h];rfl
theorem ab_d {l:List OMod} {s:ByteArray} {i:Int}:ab l (.d s i) = look ltI ODecl.id (declsO (look ltB OMod.label l s)) i:=by
 cases h:look ltB OMod.label l s with
 | none => rw [ab_none (k:=.d s i) h];rfl
 | some m => rw [ab_some (k:=.d s i) h];rfl
theorem ab_m' {l:List OMod} {s:ByteArray}:ab l (.m s) = (look ltB OMod.label l s).map fun _ => noDecl:=by
 cases h:look ltB OMod.label l s with
 | none => rw [ab_none (k:=.m s) h];rfl
 | some m => rw [ab_some (k:=.m s) h];rfl
theorem memS_iff {s:ByteArray} {l:List ByteArray}:memS s l = true↔s∈l:=by
 unfold memS;rw [List.any_eq_true]
 constructor
 ·rintro ⟨t,ht,e⟩;rw [show s = t from ba_eq (by simpa using e)];exact ht
 ·intro h;exact ⟨s,h,by simp⟩
theorem use_look {l:List ByteArray} {t:ByteArray}:((look ltB id l t).map fun _ => noDecl) = if memS t l then some noDecl else none:=by
 by_cases h:t∈l
 ·rw [if_pos (memS_iff.2 h)]
  cases hl:look ltB id l t with
  | some _ => rfl
  | none => exact absurd rfl ((look_none so_B).1 hl t h)
 ·rw [if_neg (fun c => h (memS_iff.1 c))]
  cases hl:look ltB id l t with
  | none => rfl
  | some x => obtain ⟨h1,h2⟩:=look_in so_B hl;exact absurd (by rw [← show x = t from h2];exact h1) h
theorem mem_useE {k:Int} {p:ByteArray} {uses others:List ByteArray} {e:OEdit}:e∈useE k p uses others↔∃ u,u∈uses∧u ∉ others∧e = ⟨k,p,u,[],[]⟩:=by
 unfold useE;rw [List.mem_map]
 constructor
 ·rintro ⟨u,hu,rfl⟩
  rw [List.mem_filter] at hu;exact ⟨u,hu.1,fun c => by have:=memS_iff.2 c;rw [this] at hu;simp at hu,rfl⟩
 ·rintro ⟨u,h1,h2,rfl⟩
  exact ⟨u,List.mem_filter.2 ⟨h1,by rw [Bool.not_eq_true',← Bool.not_eq_true];exact fun c => h2 (memS_iff.1 c)⟩,rfl⟩
structure PairsOk (a b:List OMod) (ps:List Pair):Prop where
  asc:Asc ltB Pair.label ps
  pa:∀ p∈ps,p.a = look ltB OMod.label a p.label
  pb:∀ p∈ps,p.b = look ltB OMod.label b p.label
  all:∀ s,(look ltB OMod.label a s≠none∨look ltB OMod.label b s≠none)→∃ p∈ps,p.label = s
  lab:∀ p∈ps,labelS p.label = true
  va:∀ p∈ps,∀ m,p.a = some m→ValM m∧m.label = p.label
  vb:∀ p∈ps,∀ m,p.b = some m→ValM m∧m.label = p.label
theorem pairs_ok {a b:List OMod} (ha:modsErr a = 0) (hb:modsErr b = 0):PairsOk a b (pairsL a b):=by
 obtain ⟨a1,a2⟩:=modsErr_zero.1 ha;obtain ⟨b1,b2⟩:=modsErr_zero.1 hb;obtain ⟨h1,h2,h3⟩:=pairs_spec _ rfl a1 b1;have va:∀ m∈a,ValM m:=fun m hm => modErr_zero.1 (testErr_zero.1 a2 m hm);have vb:∀ m∈b,ValM m:=fun m hm => modErr_zero.1 (testErr_zero.1 b2 m hm);refine ⟨h1,fun p hp => (h2 p hp).1,fun p hp => (h2 p hp).2.1,fun s hs => ?_,fun p hp => ?_,fun p hp m hm => ?_,fun p hp m hm => ?_⟩
 ·rcases hs with hs | hs
  ·obtain ⟨m,hm⟩:=Option.ne_none_iff_exists'.1 hs
   obtain ⟨c1,c2⟩:=look_in so_B hm;obtain ⟨p,hp,e⟩:=h3 m (.inl c1);exact ⟨p,hp,e.trans c2⟩
  ·obtain ⟨m,hm⟩:=Option.ne_none_iff_exists'.1 hs
   obtain ⟨c1,c2⟩:=look_in so_B hm;obtain ⟨p,hp,e⟩:=h3 m (.inr c1);exact ⟨p,hp,e.trans c2⟩
 ·rcases (h2 p hp).2.2 with ⟨m,hm,e⟩ | ⟨m,hm,e⟩
  ·rw [← e];exact (va m hm).label
  ·rw [← e];exact (vb m hm).label
 ·rw [(h2 p hp).1] at hm
  obtain ⟨c1,c2⟩:=look_in so_B hm;exact ⟨va m c1,c2⟩
 ·rw [(h2 p hp).2.1] at hm
  obtain ⟨c1,c2⟩:=look_in so_B hm;exact ⟨vb m c1,c2⟩
theorem mods_nodup {ps:List Pair} (h:Asc ltB Pair.label ps) (f:Pair→Bool) (k:Int) (hk:k≤2):(((ps.filter f).map fun p => (⟨k,p.label,noText,[],[]⟩:OEdit)).map keyE).Nodup:=by
 rw [List.map_map];have e:(keyE ∘ fun p:Pair => (⟨k,p.label,noText,[],[]⟩:OEdit)) = fun p => Key.m p.label:=by funext p;exact key_low hk
 rw [e];have h2:Asc ltB Pair.label (ps.filter f):=h.sublist List.filter_sublist;rw [List.Nodup,List.pairwise_map]
 exact h2.imp fun {p q} hpq c => by injection c with c;exact ne_of_lt so_B hpq c
theorem uses_nodup {k:Int} (hk:k = 3∨k = 4) {f g:Pair→List ByteArray}:∀ {ps:List Pair},Asc ltB Pair.label ps→(∀ p∈ps,Asc ltB id (f p))→((ps.flatMap fun p => useE k p.label (f p) (g p)).map keyE).Nodup
 | [],_,_ => List.nodup_nil
 | p :: r,h,hs => by
  obtain ⟨h1,h2⟩:=asc_cons.1 h;rw [List.flatMap_cons,List.map_append,List.nodup_append]
  have key:∀ {q:ByteArray} {us os:List ByteArray} {x:Key},x∈(useE k q us os).map keyE→∃ u,x = .u q u:=by
   intro q us os x hx;obtain ⟨e,he,rfl⟩:=List.mem_map.1 hx;obtain ⟨u,_,_,rfl⟩:=mem_useE.1 he;exact ⟨u,key_use (by show 3≤k;omega) (by show k≤4;omega)⟩
  refine ⟨?_,uses_nodup hk h2 fun q hq => hs q (List.mem_cons_of_mem _ hq),?_⟩
  ·unfold useE
   rw [List.map_map,List.Nodup,List.pairwise_map];have h3:Asc ltB id ((f p).filter fun u => !memS u (g p)):=(hs p (List.mem_cons_self ..)).sublist List.filter_sublist
   exact h3.imp fun {u v} huv c => by
    have e:∀ u,(keyE ∘ fun u => (⟨k,p.label,u,[],[]⟩:OEdit)) u = .u p.label u:=fun u => key_use (by show 3≤k;omega) (by show k≤4;omega);rw [e,e] at c
    injection c with _ c
    exact ne_of_lt so_B huv c
  ·intro x hx y hy c
   obtain ⟨u,rfl⟩:=key hx;obtain ⟨e,he,rfl⟩:=List.mem_map.1 hy;obtain ⟨q,hq,he⟩:=List.mem_flatMap.1 he;obtain ⟨v,e2⟩:=key (List.mem_map.2 ⟨e,he,rfl⟩);rw [e2] at c
   injection c with c _
   exact ne_of_lt so_B (h1 q hq) c
theorem run_chg:∀ {ps:List Pair} {A:Ab},Asc ltB Pair.label ps→(∀ p∈ps,labelS p.label = true∧A (.m p.label)≠none∧(∀ d∈declsO p.a,declErr p.label d = 0)∧(∀ d∈declsO p.b,declErr p.label d = 0)∧Asc ltI ODecl.id (declsO p.a)∧Asc ltI ODecl.id (declsO p.b)∧∀ i,A (.d p.label i) = look ltI ODecl.id (declsO p.a) i) →
  ∃ B,Run A (chgD ps) B∧(∀ p∈ps,∀ i,B (.d p.label i) = look ltI ODecl.id (declsO p.b) i)∧∀ k,(∀ p∈ps,∀ i,k≠.d p.label i)→B k = A k
 | [],A,_,_ => ⟨A,rfl,fun p hp => (by cases hp),fun _ _ => rfl⟩
 | p :: r,A,h,hs => by
  obtain ⟨h1,h2⟩:=asc_cons.1 h;obtain ⟨q1,q2,q3,q4,q5,q6,q7⟩:=hs p (List.mem_cons_self ..);obtain ⟨C,c1,c2,c3⟩:=run_decls q1 _ rfl q5 q6 q3 q4 q2 (fun i _ => q7 i)
  have cd:∀ i,C (.d p.label i) = look ltI ODecl.id (declsO p.b) i:=fun i => by
   by_cases hi:idIn i (declsO p.a)∨idIn i (declsO p.b)
   ·exact c2 i hi
   ·rw [c3 (.d p.label i) (fun j hj c => hi (by injection c with _ c;rw [c];exact hj)),q7 i]
    rw [(look_none so_I).2 fun x hx c => hi (.inl ⟨x,hx,c⟩),(look_none so_I).2 fun x hx c => hi (.inr ⟨x,hx,c⟩)]
  have other:∀ q∈r,q.label≠p.label:=fun q hq c => ne_of_lt so_B (h1 q hq) c.symm
  obtain ⟨B,b1,b2,b3⟩:=run_chg (ps:=r) (A:=C) h2 (fun q hq => by
   obtain ⟨g1,g2,g3,g4,g5,g6,g7⟩:=hs q (List.mem_cons_of_mem _ hq);refine ⟨g1,by rw [c3 _ (fun i _ c => by cases c)];exact g2,g3,g4,g5,g6,fun i => ?_⟩
   rw [c3 _ (fun j _ c => by injection c with c _;exact other q hq c)];exact g7 i)
  refine ⟨B,run_append.2 ⟨C,c1,b1⟩,fun q hq i => ?_,fun k hk => ?_⟩
  ·rcases List.mem_cons.1 hq with rfl | hq
   ·rw [b3 _ (fun x hx j c => by injection c with c _;exact other x hx c.symm)];exact cd i
   ·exact b2 q hq i
  ·rw [b3 k (fun q hq => hk q (List.mem_cons_of_mem _ hq)),c3 k (fun i _ => hk p (List.mem_cons_self ..) i)]
theorem run_diff {a b:List OMod} {ps:List Pair} (hp:PairsOk a b ps):Run (ab a) (diffP ps) (ab b):=by
  have lk:∀ {p q:Pair},p∈ps→q∈ps→p.label = q.label→p = q:=fun hp1 hq e => asc_inj so_B hp.asc hp1 hq e
  have asrt:∀ {p:Pair},p∈ps→Asc ltB id (usesO p.a)∧Asc ltI ODecl.id (declsO p.a)∧(∀ d∈declsO p.a,declErr p.label d = 0):=fun {p} h => by
    cases hm:p.a with
    | none => exact ⟨List.Pairwise.nil,List.Pairwise.nil,fun d hd => by cases hd⟩
    | some m => obtain ⟨V,e⟩:=hp.va p h m hm;exact ⟨V.uses,V.ids,fun d hd => by rw [← e];exact V.decl d hd⟩
  have bsrt:∀ {p:Pair},p∈ps→Asc ltB id (usesO p.b)∧Asc ltI ODecl.id (declsO p.b)∧(∀ d∈declsO p.b,declErr p.label d = 0):=fun {p} h => by
    cases hm:p.b with
    | none => exact ⟨List.Pairwise.nil,List.Pairwise.nil,fun d hd => by cases hd⟩
    | some m => obtain ⟨V,e⟩:=hp.vb p h m hm;exact ⟨V.uses,V.ids,fun d hd => by rw [← e];exact V.decl d hd⟩
  have vuse:∀ {p:Pair} {u:ByteArray} {k:Int},p∈ps→(u∈usesO p.a∨u∈usesO p.b)→(k = 3∨k = 4)→editErr ⟨k,p.label,u,[],[]⟩ = 0:=fun {p u k} h hu hk => by
    rcases hu with hu | hu
    · cases hm:p.a with
      | none => rw [hm] at hu;cases hu
      | some m => rw [hm] at hu;obtain ⟨V,e⟩:=hp.va p h m hm;rw [← e];exact val_use V hu hk
    · cases hm:p.b with
      | none => rw [hm] at hu;cases hu
      | some m => rw [hm] at hu;obtain ⟨V,e⟩:=hp.vb p h m hm;rw [← e];exact val_use V hu hk
  -- modules that are new
  have r1:Run (ab a) (addM ps) (updAll (some noDecl) (ab a) (addM ps)):=by
    refine run_all (mods_nodup hp.asc _ 1 (by omega)) (fun e he => ?_) (.inl fun e he => ?_)
    · obtain ⟨p,hpp,rfl⟩:=List.mem_map.1 he
      obtain ⟨h1,h2⟩:=List.mem_filter.1 hpp
      refine ⟨val_mod (hp.lab p h1) (.inl rfl),⟨fun c => absurd c (by show ¬ (2:Int)≤1;omega),fun c => absurd c (by show ¬ (1:Int) = 2;omega)⟩,(loc_13 (.inl rfl)).2 ⟨?_,rfl⟩⟩
      show ab a (.m p.label) = none
      rw [ab_m]
      rw [← hp.pa p h1];simpa using h2
    · obtain ⟨p,hpp,rfl⟩:=List.mem_map.1 he;rfl
  generalize hA1:updAll (some noDecl) (ab a) (addM ps) = A1 at r1
  have m1:∀ p∈ps,A1 (.m p.label) = some noDecl:=fun p h => by
    by_cases hn:p.a.isNone = true
    · have he:(⟨1,p.label,noText,[],[]⟩:OEdit)∈addM ps:=List.mem_map.2 ⟨p,List.mem_filter.2 ⟨h,hn⟩,rfl⟩
      rw [← hA1];exact updAll_at he
    · rw [← hA1,updAll_no,ab_m',← hp.pa p h]
      · cases hm:p.a with
        | none => rw [hm] at hn;exact absurd rfl hn
        | some m => rfl
      · intro e he c
        obtain ⟨q,hq,rfl⟩:=List.mem_map.1 he
        obtain ⟨g1,g2⟩:=List.mem_filter.1 hq
        have c:Key.m q.label = .m p.label:=c
        injection c with c
        rw [lk g1 h c] at g2;exact hn g2
  have u1:∀ s t,A1 (.u s t) = ab a (.u s t):=fun s t => by
    rw [← hA1];exact updAll_no fun e he c => by obtain ⟨q,hq,rfl⟩:=List.mem_map.1 he;cases c
  have d1:∀ s i,A1 (.d s i) = ab a (.d s i):=fun s i => by
    rw [← hA1];exact updAll_no fun e he c => by obtain ⟨q,hq,rfl⟩:=List.mem_map.1 he;cases c
  have n1:∀ s,(∀ p∈ps,p.label≠s)→A1 (.m s) = ab a (.m s):=fun s h => by
    rw [← hA1];refine updAll_no fun e he c => ?_
    obtain ⟨q,hq,rfl⟩:=List.mem_map.1 he
    have c:Key.m q.label = .m s:=c
    injection c with c
    exact h q (List.mem_filter.1 hq).1 c
  clear hA1
  -- uses that are new
  have memU:∀ {k:Int} {f g:Pair→List ByteArray} {e:OEdit},e∈(ps.flatMap fun p => useE k p.label (f p) (g p))→∃ p∈ps,∃ u,u∈f p∧u ∉ g p∧e = ⟨k,p.label,u,[],[]⟩:=fun {k f g e} he => by
    obtain ⟨p,h,he⟩:=List.mem_flatMap.1 he
    obtain ⟨u,g1,g2,rfl⟩:=mem_useE.1 he
    exact ⟨p,h,u,g1,g2,rfl⟩
  have keyU:∀ {k:Int} {s t:ByteArray},(k = 3∨k = 4)→keyE ⟨k,s,t,[],[]⟩ = .u s t:=fun {k s t} hk => key_use (by show 3≤k;omega) (by show k≤4;omega)
  have r2:Run A1 (addU ps) (updAll (some noDecl) A1 (addU ps)):=by
    refine run_all (uses_nodup (.inl rfl) hp.asc fun p h => (bsrt h).1) (fun e he => ?_) (.inr (.inr fun e he => ?_))
    · obtain ⟨p,h,u,g1,g2,rfl⟩:=memU he
      refine ⟨vuse h (.inr g1) (.inl rfl),⟨fun _ => ?_,fun c => absurd c (by show ¬ (3:Int) = 2;omega)⟩,(loc_13 (.inr rfl)).2 ⟨?_,rfl⟩⟩
      · show A1 (.m p.label)≠none;rw [m1 p h];simp
      · rw [keyU (.inl rfl),u1,ab_u,← hp.pa p h,use_look,if_neg (fun c => g2 (memS_iff.1 c))]
    · obtain ⟨p,h,u,g1,g2,rfl⟩:=memU he;show (3:Int)≤3;omega
  generalize hA2:updAll (some noDecl) A1 (addU ps) = A2 at r2
  have m2:∀ s,A2 (.m s) = A1 (.m s):=fun s => by
    rw [← hA2];refine updAll_no fun e he c => ?_
    obtain ⟨p,h,u,g1,g2,rfl⟩:=memU he;rw [keyU (.inl rfl)] at c;cases c
  have d2:∀ s i,A2 (.d s i) = ab a (.d s i):=fun s i => by
    rw [← d1,← hA2];refine updAll_no fun e he c => ?_
    obtain ⟨p,h,u,g1,g2,rfl⟩:=memU he;rw [keyU (.inl rfl)] at c;cases c
  have u2:∀ p∈ps,∀ t,A2 (.u p.label t) = if memS t (usesO p.a) || memS t (usesO p.b) then some noDecl else none:=fun p h t => by
    by_cases hin:t∈usesO p.b∧t ∉ usesO p.a
    · have he:(⟨3,p.label,t,[],[]⟩:OEdit)∈addU ps:=List.mem_flatMap.2 ⟨p,h,mem_useE.2 ⟨t,hin.1,hin.2,rfl⟩⟩
      have:=updAll_at (v:=some noDecl) (A:=A1) he
      rw [hA2,keyU (.inl rfl)] at this
      rw [this,memS_iff.2 hin.1];simp
    · rw [← hA2,updAll_no,u1,ab_u,← hp.pa p h,use_look]
      · by_cases h1:t∈usesO p.a
        · rw [memS_iff.2 h1];simp
        · have h2:memS t (usesO p.b) = false:=by rw [← Bool.not_eq_true];exact fun c => hin ⟨memS_iff.1 c,h1⟩
          rw [h2];simp
      · intro e he c
        obtain ⟨q,hq,u,g1,g2,rfl⟩:=memU he
        rw [keyU (.inl rfl)] at c
        injection c with c1 c2
        have:=lk hq h c1
        subst this c2
        exact hin ⟨g1,g2⟩
  have o2:∀ s t,(∀ p∈ps,p.label≠s)→A2 (.u s t) = ab a (.u s t):=fun s t h => by
    rw [← u1,← hA2];refine updAll_no fun e he c => ?_
    obtain ⟨q,hq,u,g1,g2,rfl⟩:=memU he
    rw [keyU (.inl rfl)] at c
    injection c with c _
    exact h q hq c
  clear hA2
  -- declarations
  obtain ⟨A3,r3,d3,k3⟩:=run_chg (ps:=ps) (A:=A2) hp.asc (fun p h => ⟨hp.lab p h,by rw [m2,m1 p h];simp,(asrt h).2.2,(bsrt h).2.2,(asrt h).2.1,(bsrt h).2.1,fun i => by rw [d2,ab_d,← hp.pa p h]⟩)
  have m3:∀ s,A3 (.m s) = A1 (.m s):=fun s => by rw [k3 _ (fun p _ i c => by cases c),m2]
  have u3:∀ s t,A3 (.u s t) = A2 (.u s t):=fun s t => k3 _ fun p _ i c => by cases c
  -- uses that are gone
  have r4:Run A3 (remU ps) (updAll none A3 (remU ps)):=by
    refine run_all (uses_nodup (.inr rfl) hp.asc fun p h => (asrt h).1) (fun e he => ?_) (.inr (.inr fun e he => ?_))
    · obtain ⟨p,h,u,g1,g2,rfl⟩:=memU he
      refine ⟨vuse h (.inl g1) (.inr rfl),⟨fun _ => ?_,fun c => absurd c (by show ¬ (4:Int) = 2;omega)⟩,(loc_24 (.inr rfl)).2 ⟨?_,rfl⟩⟩
      · show A3 (.m p.label)≠none;rw [m3,m1 p h];simp
      · rw [keyU (.inr rfl),u3,u2 p h,memS_iff.2 g1];simp
    · obtain ⟨p,h,u,g1,g2,rfl⟩:=memU he;show (3:Int)≤4;omega
  generalize hA4:updAll none A3 (remU ps) = A4 at r4
  have m4:∀ s,A4 (.m s) = A1 (.m s):=fun s => by
    rw [← m3,← hA4];refine updAll_no fun e he c => ?_
    obtain ⟨p,h,u,g1,g2,rfl⟩:=memU he;rw [keyU (.inr rfl)] at c;cases c
  have d4:∀ s i,A4 (.d s i) = A3 (.d s i):=fun s i => by
    rw [← hA4];refine updAll_no fun e he c => ?_
    obtain ⟨p,h,u,g1,g2,rfl⟩:=memU he;rw [keyU (.inr rfl)] at c;cases c
  have u4:∀ p∈ps,∀ t,A4 (.u p.label t) = if memS t (usesO p.b) then some noDecl else none:=fun p h t => by
    by_cases hin:t∈usesO p.a∧t ∉ usesO p.b
    · have he:(⟨4,p.label,t,[],[]⟩:OEdit)∈remU ps:=List.mem_flatMap.2 ⟨p,h,mem_useE.2 ⟨t,hin.1,hin.2,rfl⟩⟩
      have:=updAll_at (v:=none) (A:=A3) he
      rw [hA4,keyU (.inr rfl)] at this
      rw [this,if_neg (fun c => hin.2 (memS_iff.1 c))]
    · rw [← hA4,updAll_no,u3,u2 p h]
      · by_cases h1:t∈usesO p.b
        · rw [memS_iff.2 h1];simp
        · have h2:memS t (usesO p.a) = false:=by rw [← Bool.not_eq_true];exact fun c => hin ⟨memS_iff.1 c,h1⟩
          rw [h2];simp
      · intro e he c
        obtain ⟨q,hq,u,g1,g2,rfl⟩:=memU he
        rw [keyU (.inr rfl)] at c
        injection c with c1 c2
        have:=lk hq h c1
        subst this c2
        exact hin ⟨g1,g2⟩
  have o4:∀ s t,(∀ p∈ps,p.label≠s)→A4 (.u s t) = ab a (.u s t):=fun s t h => by
    rw [← o2 s t h,← u3,← hA4];refine updAll_no fun e he c => ?_
    obtain ⟨q,hq,u,g1,g2,rfl⟩:=memU he
    rw [keyU (.inr rfl)] at c
    injection c with c _
    exact h q hq c
  clear hA4
  -- modules that are gone
  have r5:Run A4 (remM ps) (updAll none A4 (remM ps)):=by
    refine run_all (mods_nodup hp.asc _ 2 (by omega)) (fun e he => ?_) (.inr (.inl fun e he => ?_))
    · obtain ⟨p,hpp,rfl⟩:=List.mem_map.1 he
      obtain ⟨h,h2⟩:=List.mem_filter.1 hpp
      have hb:p.b = none:=by simpa using h2
      have hmm:A4 (.m p.label)≠none:=by rw [m4,m1 p h];simp
      refine ⟨val_mod (hp.lab p h) (.inr rfl),⟨fun _ => hmm,fun _ => ⟨fun t => ?_,fun i => ?_⟩⟩,(loc_24 (.inl rfl)).2 ⟨hmm,rfl⟩⟩
      · show A4 (.u p.label t) = none;rw [u4 p h,hb];rfl
      · show A4 (.d p.label i) = none;rw [d4,d3 p h,hb];rfl
    · obtain ⟨p,hpp,rfl⟩:=List.mem_map.1 he;rfl
  have hfin:updAll none A4 (remM ps) = ab b:=by
    have keep:∀ {k:Key},(∀ p∈ps,p.b = none→k≠.m p.label)→updAll none A4 (remM ps) k = A4 k:=fun {k} h => updAll_no fun e he c => by
      obtain ⟨p,hpp,rfl⟩:=List.mem_map.1 he
      obtain ⟨h1,h2⟩:=List.mem_filter.1 hpp
      exact h p h1 (by simpa using h2) c.symm
    have out:∀ s,(∀ p∈ps,p.label≠s)→look ltB OMod.label a s = none∧look ltB OMod.label b s = none:=fun s h => by
      constructor
      · cases hm:look ltB OMod.label a s with
        | none => rfl
        | some m => obtain ⟨p,h1,h2⟩:=hp.all s (.inl (by rw [hm];simp));exact absurd h2 (h p h1)
      · cases hm:look ltB OMod.label b s with
        | none => rfl
        | some m => obtain ⟨p,h1,h2⟩:=hp.all s (.inr (by rw [hm];simp));exact absurd h2 (h p h1)
    funext k
    by_cases hs:∃ p∈ps,p.label = k.pack
    · obtain ⟨p,h,e⟩:=hs
      cases k with
      | m s =>
        have e:p.label = s:=e
        subst e
        by_cases hb:p.b = none
        · have he:(⟨2,p.label,noText,[],[]⟩:OEdit)∈remM ps:=List.mem_map.2 ⟨p,List.mem_filter.2 ⟨h,by rw [hb];rfl⟩,rfl⟩
          have:=updAll_at (v:=none) (A:=A4) he
          rw [show Key.m p.label = keyE ⟨2,p.label,noText,[],[]⟩ from rfl,this]
          show none = ab b (.m p.label)
          rw [ab_m',← hp.pb p h,hb];rfl
        · rw [keep fun q hq hqb c => hb (by injection c with c;rw [lk h hq c];exact hqb),m4,m1 p h,ab_m',← hp.pb p h]
          obtain ⟨m,hm⟩:=Option.ne_none_iff_exists'.1 hb
          rw [hm];rfl
      | u s t =>
        have e:p.label = s:=e
        subst e
        rw [keep fun q hq hqb c => (by cases c),u4 p h,ab_u,← hp.pb p h,use_look]
      | d s i =>
        have e:p.label = s:=e
        subst e
        rw [keep fun q hq hqb c => (by cases c),d4,d3 p h,ab_d,← hp.pb p h]
    · have hs:∀ p∈ps,p.label≠k.pack:=fun p h c => hs ⟨p,h,c⟩
      obtain ⟨oa,ob⟩:=out _ hs
      rw [keep fun q hq hqb c => hs q hq (by rw [c];rfl),ab_none ob]
      cases k with
      | m s => rw [m4,n1 s hs,ab_none (k:=.m s) oa]
      | u s t => rw [o4 s t hs,ab_none (k:=.u s t) oa]
      | d s i => rw [d4,k3 _ (fun p h j c => by injection c with c _;exact hs p h c.symm),d2,ab_none (k:=.d s i) oa]
  rw [hfin] at r5
  exact run_append.2 ⟨A4,run_append.2 ⟨A3,run_append.2 ⟨A2,run_append.2 ⟨A1,r1,r2⟩,r3⟩,r4⟩,r5⟩
theorem app_diff {a b:List OMod} (ha:modsErr a = 0) (hb:modsErr b = 0):appR a (diffL a b) = (b,0):=
 appR_ok.2 ⟨ha,(runL_iff (srt_of ha) (srt_of hb)).1 (run_diff (pairs_ok ha hb)),(modsErr_zero.1 hb).2⟩
theorem declE_self (p:ByteArray):∀ l:List ODecl,declE p l l = []
 | [] => by rw [declE]
 | d :: r => by
  rw [declE,if_neg (by omega),if_neg (by omega),declE_self p r];unfold partsL;have e:∀ k,sameD (partD k d) (partD k d) = true:=fun k => sameD_iff.2 rfl;simp [e]
theorem pairs_self:∀ l:List OMod,pairsL l l = l.map fun m => ⟨m.label,some m,some m⟩
 | [] => by rw [pairsL];rfl
 | m :: r => by
  rw [pairsL,if_neg (by rw [so_B.irr];simp),if_neg (by rw [so_B.irr];simp),pairs_self r];rfl
theorem diff_self (l:List OMod):diffL l l = []:=by
  unfold diffL diffP addM addU chgD remU remM
  rw [pairs_self]
  have hu:∀ (k:Int) (p:ByteArray) (u:List ByteArray),useE k p u u = []:=fun k p u => by
    unfold useE
    rw [List.map_eq_nil_iff,List.filter_eq_nil_iff]
    intro x hx;rw [memS_iff.2 hx];simp
  simp only [List.append_eq_nil_iff,List.map_eq_nil_iff,List.filter_eq_nil_iff,List.flatMap_eq_nil_iff,List.mem_map]
  refine ⟨⟨⟨⟨?_,?_⟩,?_⟩,?_⟩,?_⟩
  · rintro p ⟨m,_,rfl⟩;simp
  · rintro p ⟨m,_,rfl⟩;exact hu _ _ _
  · rintro p ⟨m,_,rfl⟩;exact declE_self _ _
  · rintro p ⟨m,_,rfl⟩;exact hu _ _ _
  · rintro p ⟨m,_,rfl⟩;simp
end Go.Proofs.YtdpnfkjafhbndaaGreatDoor
namespace Go.Proofs.YtdpnfkjafhbndaaGreatDoor
open Go.RowKit Go.Shelf
attribute [local go_sem] Oper.semAt_some
def mN34:ByteArray:=⟨#[109]⟩
def m34D (s:ByteArray) (n:Int):ODecl:=⟨7,1,false,[s],false,.mk 1 ⟨#[]⟩ ⟨#[]⟩ n 0 []⟩
def m34 (s:ByteArray) (n:Int):OMod:=⟨mN34,[],[m34D s n]⟩
theorem m34D_sm (s:ByteArray) (n:Int) (hs:s.size≤40000) (hn:inI n):SmD (m34D s n)∧nodesN (m34D s n).body≤1000000:=
 ⟨⟨fun x hx => by simp only [m34D,List.mem_singleton] at hx;subst hx;exact hs,(by decide:1≤1000000),smX_leaf 1 n ⟨by decide,by decide⟩ hn,(by decide:1≤4000000)⟩,(by decide:1≤1000000)⟩
theorem m34_sz (s:ByteArray) (n:Int) (hs:s.size≤40000) (hn:inI n):SzB 10 [m34 s n]:=
 ⟨by simp,fun m hm => by
  rw [List.mem_singleton] at hm;subst hm
  exact ⟨⟨(by decide:mN34.size≤40000),fun x hx => (by simp [m34] at hx),Nat.zero_le _,(by simp [m34])⟩,fun d hd => by
   simp only [m34,List.mem_singleton] at hd
   subst hd
   exact m34D_sm s n hs hn⟩⟩
theorem m34_err1:modsErr [m34 fName 1] = 0:=by kernel_rfl
theorem m34_err2:modsErr [m34 gName 2] = 0:=by kernel_rfl
def e34 (k:Int):OEdit:=partE7 mN34 (m34D fName 1) (m34D gName 2) k
theorem m34_diff:diffL [m34 fName 1] [m34 gName 2] = [e34 7,e34 8]:=by
 have h0:¬ ltB mN34 mN34 = true:=by rw [so_B.irr];simp
 have h1:pairsL [m34 fName 1] [m34 gName 2] = [⟨mN34,some (m34 fName 1),some (m34 gName 2)⟩]:=by
  rw [pairsL,if_neg (show ¬ ltB (m34 fName 1).label (m34 gName 2).label = true from h0),if_neg (show ¬ ltB (m34 gName 2).label (m34 fName 1).label = true from h0),pairsL];rfl
 have h2:declE mN34 [m34D fName 1] [m34D gName 2] = partsL mN34 (m34D fName 1) (m34D gName 2):=by
  rw [declE,if_neg (show ¬ (m34D fName 1).id < (m34D gName 2).id by decide),if_neg (show ¬ (m34D gName 2).id < (m34D fName 1).id by decide),declE,List.append_nil]
 have h3:partsL mN34 (m34D fName 1) (m34D gName 2) = [e34 7,e34 8]:=by kernel_rfl
 unfold diffL;rw [h1];show [] ++ (([]:List OEdit) ++ []) ++ (declE mN34 [m34D fName 1] [m34D gName 2] ++ []) ++ (([]:List OEdit) ++ []) ++ [] = _
 rw [h2,h3];rfl
theorem m34_diffE:diffErr [m34 fName 1] [m34 gName 2] = 0:=by unfold diffErr;rw [if_pos m34_err1,m34_err2]
theorem m34_diffR:diffR [m34 fName 1] [m34 gName 2] = [e34 7,e34 8]:=by unfold diffR;rw [if_pos m34_diffE,m34_diff]
theorem m34_app:appR [m34 fName 1] [e34 7,e34 8] = ([m34 gName 2],0):=by rw [← m34_diff];exact app_diff m34_err1 m34_err2
theorem part_sm {k:Int} {d:ODecl} (h:SmD d∧nodesN d.body≤1000000):SmD (partD k d)∧nodesN (partD k d).body≤1000000:=by
 have hx:SmX 40000 exZ:=.mk (by decide) (by decide) ⟨by decide,by decide⟩ ⟨by decide,by decide⟩ ⟨by decide,by decide⟩ (fun y hy => by cases hy);have hz:nodesN exZ≤1000000:=by decide
 unfold partD;split
 ·exact ⟨⟨h.1.names,h.1.len,hx,by show nodesN exZ≤_;omega⟩,hz⟩
 split
 ·exact ⟨⟨fun s hs => (List.not_mem_nil hs).elim,Nat.zero_le _,h.1.body,h.1.nodes⟩,h.2⟩
 split
 ·exact ⟨⟨fun s hs => (List.not_mem_nil hs).elim,Nat.zero_le _,hx,by show nodesN exZ≤_;omega⟩,hz⟩
 ·exact h
theorem partE7_sm {p:ByteArray} {a b:ODecl} {k:Int} (hp:p.size≤40000) (ha:SmD a∧nodesN a.body≤1000000) (hb:SmD b∧nodesN b.body≤1000000):SmE (partE7 p a b k):=
 ⟨hp,(by decide:noText.size≤40000),fun d hd => by
  have:d = partD k a:=by simpa [partE7] using hd
  rw [this];exact part_sm ha,fun d hd => by
  have:d = partD k b:=by simpa [partE7] using hd
  rw [this];exact part_sm hb,(by decide:1≤1000000),(by decide:1≤1000000)⟩
theorem e34_sm (k:Int):SmE (e34 k):=partE7_sm (by decide) (m34D_sm _ _ (by decide) ⟨by decide,by decide⟩) (m34D_sm _ _ (by decide) ⟨by decide,by decide⟩)
set_option maxRecDepth 100000 in
set_option maxHeartbeats 2000000 in
theorem module34_any (s:ByteArray) (n:Int) (w:World) :
  Calls Tryz.prog 48 #[.string s,.int .i64 n] w fun r w' => ∃ a c,r = .returned (.slice a 1 c)∧Reads w' [] (modsT [m34 s n]) (.slice a 1 c)∧Below w.heap.size w w':=by
 have h1:=strs_text w s;have hq1:=qalloc w (.cells #[.string s] 9);have hs1:(w.alloc (.cells #[.string s] 9)).heap.size = w.heap.size + 1:=by rw [World.size_alloc]
 have hq2:=qalloc (w.alloc (.cells #[.string s] 9)) (.cells #[.int .i64 7,.int .i64 1,.bool false,.slice (some ⟨w.heap.size,0,none⟩) 1 1,.bool false,.int .i64 1,.string ⟨#[]⟩,.string ⟨#[]⟩,.int .i64 n,.int .i64 0,.slice none 0 0] 69);have hx2:=CBox.new (w.alloc (.cells #[.string s] 9)) 69 #[.int .i64 7,.int .i64 1,.bool false,.slice (some ⟨w.heap.size,0,none⟩) 1 1,.bool false,.int .i64 1,.string ⟨#[]⟩,.string ⟨#[]⟩,.int .i64 n,.int .i64 0,.slice none 0 0];rw [hs1] at hx2
 have hs2:((w.alloc (.cells #[.string s] 9)).alloc (.cells #[.int .i64 7,.int .i64 1,.bool false,.slice (some ⟨w.heap.size,0,none⟩) 1 1,.bool false,.int .i64 1,.string ⟨#[]⟩,.string ⟨#[]⟩,.int .i64 n,.int .i64 0,.slice none 0 0] 69)).heap.size = w.heap.size + 1 + 1:=by rw [World.size_alloc,hs1]
 have h2:=h1.below hq2;have hb2:=qtrans hq1 hq2;obtain ⟨w2,hw2⟩:∃ w2,(w.alloc (.cells #[.string s] 9)).alloc (.cells #[.int .i64 7,.int .i64 1,.bool false,.slice (some ⟨w.heap.size,0,none⟩) 1 1,.bool false,.int .i64 1,.string ⟨#[]⟩,.string ⟨#[]⟩,.int .i64 n,.int .i64 0,.slice none 0 0] 69) = w2:=⟨_,rfl⟩;rw [hw2] at hq2 hx2 hs2 h2 hb2
 have hd:Reads w2 [] (declsT [m34D s n]) (.slice (some ⟨w.heap.size + 1,0,none⟩) 1 1):=decl_new (Y:=[]) (d:=m34D s n) (an:=some ⟨w.heap.size,0,none⟩) (cn:=1) (sa:=none) (cs:=0) hx2 (cells_decl h2 (Reads.nilRow _ _ _ _)) (by simp);have hq3:=qalloc w2 (.cells #[.string ⟨#[109]⟩,.slice none 0 0,.slice (some ⟨w.heap.size + 1,0,none⟩) 1 1] 52);have hR:=owns_row (own_many w2 w2.heap.size (Nat.le_refl _) 52 #[.string ⟨#[109]⟩,.slice none 0 0,.slice (some ⟨w.heap.size + 1,0,none⟩) 1 1] 3 1 rfl (by omega));rw [hs2] at hR
 have hrm:Reads (w2.alloc (.cells #[.string ⟨#[109]⟩,.slice none 0 0,.slice (some ⟨w.heap.size + 1,0,none⟩) 1 1] 52)) [] (modsT [m34 s n]) (.slice (some ⟨w.heap.size + 1 + 1,0,none⟩) 1 1):=
  Reads.ofRow (l:=[m34 s n]) hR (fun _ b _ => by simp) (ReadsL.cons (Reads.leaf' _ _ _) (ReadsL.cons (Reads.nilRow _ _ _ _) (ReadsL.cons (hd.below hq3) (ReadsL.nil _ _))))
 have HRM:=lH hrm;have HBB:=lH (qtrans hb2 hq3);have HW2:=lH hw2;clear h1 hq1 hs1 hq2 hx2 hs2 h2 hb2 hd hq3 hR hrm hw2
 go_enter Tryz.func48,Tryz.ntmps48
 go_wp2
 (try rw [HW2.out])
 go_ret;exact ⟨_,_,rfl,HRM.out,HBB.out⟩
set_option maxRecDepth 100000 in
set_option maxHeartbeats 4000000 in
theorem awake34_any (w:World):Calls Tryz.prog 16 #[] w fun r w' => r = .returned (.bool true)∧Below w.heap.size w w':=by
 have hz1:=m34_sz fName 1 (by decide) ⟨by decide,by decide⟩;have hz2:=m34_sz gName 2 (by decide) ⟨by decide,by decide⟩;have HM:=lH (fun W => module34_any fName 1 W);have HM2:=lH (fun W => module34_any gName 2 W);have HD:=lH (fun (a b:Option Addr) (c d:Nat) (W:World) (h1:Reads W [] (modsT [m34 fName 1]) (.slice a 1 c)) (h2:Reads W [] (modsT [m34 gName 2]) (.slice b 1 d)) => eDiff_any [m34 fName 1] [m34 gName 2] a b c d 10 W h1 h2 hz1 hz2 (by omega))
 have HS:Hid (∀ x∈[e34 7,e34 8],SmE x):=fun x hx => by
  simp only [List.mem_cons,List.not_mem_nil,or_false] at hx
  rcases hx with rfl | rfl <;> exact e34_sm _
 have HA:=lH (fun (a b:Option Addr) (c d:Nat) (W:World) (h1:Reads W [] (modsT [m34 fName 1]) (.slice a 1 c)) (h2:Reads W [] (editsT [e34 7,e34 8]) (.slice b 2 d)) => eApply_any [m34 fName 1] [e34 7,e34 8] a c b d 10 W h1 h2 hz1 (by simp) HS.out);have HZ2:=lH hz2;clear hz1 hz2;unfold DiffPost at HD;rw [m34_diffE,m34_diffR] at HD;unfold AppPost at HA;rw [m34_app] at HA;simp only [List.length_cons,List.length_nil,Nat.zero_add,Nat.reduceAdd] at HD HA
 unfold fName at HM;unfold gName at HM2
 go_enter Tryz.func16,Tryz.ntmps16
 go_wp2_with (fail)
 refine (HM.out w).mono ?_;rintro r w1 ⟨a1,c1,rfl,hr1,hb1⟩;have HR1:=lH hr1;have HB1:=lH hb1;clear hr1 hb1;go_wp2_with (fail)
 refine (HM2.out w1).mono ?_;rintro r w2 ⟨a2,c2,rfl,hr2,hb2⟩;have HD2:=lH (HD.out a1 a2 c1 c2 w2 (HR1.out.below hb2) hr2);have HB2:=lH (qtrans HB1.out hb2);clear hr2 hb2 HB1 HR1 HD;go_wp2_with (fail)
 refine HD2.out.mono ?_;rintro r w3 ⟨v3,rfl,hr3,hb3⟩;obtain ⟨a3,c3,rfl,-,-⟩:=edits_val hr3;have HR3:=lH hr3;have HB3:=lH (qtrans HB2.out hb3);clear hr3 hb3 HD2 HB2;simp only [List.length_cons,List.length_nil,Nat.zero_add,Nat.reduceAdd] at HR3 ⊢
 go_wp2_with (fail)
 refine (HM.out w3).mono ?_;rintro r w4 ⟨a4,c4,rfl,hr4,hb4⟩;have HA4:=lH (HA.out a4 a3 c4 c3 w4 hr4 (HR3.out.below hb4));have HR4:=lH (HR3.out.below hb4);have HB4:=lH (qtrans HB3.out hb4);clear hr4 hb4 HB3 HR3 HA HM;go_wp2_with (fail)
 refine HA4.out.mono ?_;rintro r w5 ⟨v5,rfl,hr5,hb5⟩;obtain ⟨a5,c5,rfl,-,-⟩:=mods_val hr5;have HR5:=lH hr5;have hr4:=HR4.out.below hb5;have HB5:=lH (qtrans HB4.out hb5);obtain ⟨b,o,_,_,_,_,e1,hl,x0,-,-,-,-,-⟩:=cells_edit (l:=[e34 7,e34 8]) hr4 (i:=0) (e:=e34 7) rfl;obtain ⟨b',o',_,_,_,_,e2,-,y0,-,-,-,-,-⟩:=cells_edit (l:=[e34 7,e34 8]) hr4 (i:=1) (e:=e34 8) rfl;subst e1
 injection e2 with e2
 injection e2 with e2 e3
 subst e2 e3;rw [Nat.zero_mul,Nat.add_zero] at x0;rw [Nat.one_mul] at y0;have x0':w5.cell? ⟨b,o,none⟩ = some (.int .i64 7):=x0;have y0':w5.cell? ⟨b,o + 5,none⟩ = some (.int .i64 8):=y0;clear x0 y0 hr5 hb5 HA4 HB4 HR4 hr4;simp only [List.length_cons,List.length_nil,Nat.zero_add] at HR5 ⊢
 go_wp2_with (fail)
 refine (HM2.out w5).mono ?_;rintro r w6 ⟨a6,c6,rfl,hr6,hb6⟩
 have HSA:=lH (r24SameMods_any [m34 gName 2] [m34 gName 2] a5 a6 c5 c6 w6 (HR5.out.below hb6) hr6 (fun m hm => by
  have k:=HZ2.out.mods m hm
  exact ⟨fun x hx => ⟨(k.2 x hx).1.len,(k.2 x hx).2⟩,by have:=k.1.2.2.1;omega,by have:=k.1.2.2.2;omega⟩) (by simp))
 rw [sameMs_iff.2 (rfl:[m34 gName 2] = [m34 gName 2])] at HSA;simp only [List.length_cons,List.length_nil,Nat.zero_add] at HSA
 have HB6:=lH (qtrans HB5.out hb6);clear hr6 hb6 HR5 HB5 HM2;go_wp2_with (fail)
 refine HSA.out.mono ?_;rintro r w7 ⟨rfl,hb7⟩;have HB7:=lH (qtrans HB6.out hb7);clear hb7 HSA;go_wp2;go_ret;exact ⟨rfl,HB7.out⟩
end Go.Proofs.YtdpnfkjafhbndaaGreatDoor
namespace Go.Proofs.YtdpnfkjafhbndaaGreatDoor
open Go.RowKit Go.Shelf
theorem reads_pre {α:Type} {size:Nat} {f:α→List Tree} (hf:∀ x,(f x).length = size) {w:World} {X:List Nat} {l:List α} {a:Option Addr} {c:Nat} (h:Reads w X (rowT size f l) (.slice a l.length c)) {k:Nat} (hk:k≤l.length):Reads w X (rowT size f (l.take k)) (.slice a k c):=by
 obtain ⟨xs,hr,hx0,hx⟩:=Reads.toRow h;have hl:(l.take k).length = k:=by rw [List.length_take];omega
 refine Reads.ofRow (by rw [hl];exact row_preN hr hk) (fun h0 b hb => hx0 (by rw [hl] at h0;omega) b (by cases a <;> exact hb)) ?_;have:=hx.take (k * size)
 rwa [show (l.flatMap f).take (k * size) = (l.take k).flatMap f by
  conv => lhs;rw [← List.take_append_drop k l,List.flatMap_append]
  exact List.take_left' (by rw [flatMap_len hf,hl])] at this
theorem reads_suf {α:Type} {size:Nat} {f:α→List Tree} (hf:∀ x,(f x).length = size) {w:World} {l:List α} {a:Option Addr} {c:Nat} (h:Reads w [] (rowT size f l) (.slice a l.length c)) {k:Nat} (hk:k≤l.length) (a':Option Addr) (ha:∀ b o,k < l.length→a = some ⟨b,o,none⟩→a' = some ⟨b,o + k * size,none⟩):Reads w [] (rowT size f (l.drop k)) (.slice a' (l.length - k) (c - k)):=by
 obtain ⟨xs,hr,hx0,hx⟩:=Reads.toRow h;have hl:(l.drop k).length = l.length - k:=List.length_drop ..;refine Reads.ofRow (by rw [hl];exact row_sufN hr hk ha) (fun _ b _ => by simp) ?_;have:=hx.drop (k * size)
 rwa [show (l.flatMap f).drop (k * size) = (l.drop k).flatMap f by
  conv => lhs;rw [← List.take_append_drop k l,List.flatMap_append]
  exact List.drop_left' (by rw [flatMap_len hf,List.length_take,Nat.min_eq_left hk])] at this
theorem edits_single (W:World) (e:OEdit) (ao:Option Addr) (co:Nat) (af:Option Addr) (cf:Nat) (he:EditIn W e ao co af cf) :
  Reads (W.alloc (.cells #[.int .i64 e.kind,.string e.pack,.string e.text,.slice ao e.old.length co,.slice af e.fresh.length cf] 35)) [] (editsT [e]) (.slice (some ⟨W.heap.size,0,none⟩) 1 1):=by
 refine Reads.ofRow (l:=[e]) (owns_row (own_many W W.heap.size (Nat.le_refl _) 35 _ 5 1 rfl (by omega))) (fun _ b _ => by simp) ?_;have h1:=he.below (qalloc W (.cells #[.int .i64 e.kind,.string e.pack,.string e.text,.slice ao e.old.length co,.slice af e.fresh.length cf] 35));rw [List.flatMap_cons,List.flatMap_nil,List.append_nil];exact ReadsL.cons (Reads.leaf' _ _ _) (ReadsL.cons (Reads.leaf' _ _ _) (ReadsL.cons (Reads.leaf' _ _ _) (ReadsL.cons h1.old (ReadsL.cons h1.fresh (ReadsL.nil _ _)))))
theorem inv_sm {e:OEdit} (h:SmE e):SmE (invE e):=⟨h.pack,h.text,h.fresh,h.old,h.flen,h.olen⟩
theorem invL_sm {l:List OEdit} (h:∀ e∈l,SmE e):∀ e∈invL l,SmE e:=fun e he => by
 unfold invL at he;obtain ⟨x,hx,rfl⟩:=List.mem_map.1 (List.mem_reverse.1 he);exact inv_sm (h x hx)
theorem opp_opp (k:Int):opp (opp k) = k:=by
 unfold opp
 repeat' split
 all_goals omega
theorem invE_twice (e:OEdit):invE (invE e) = e:=by
 unfold invE;simp only [opp_opp]
theorem invL_invL (l:List OEdit):invL (invL l) = l:=by
 unfold invL;rw [List.map_reverse,List.reverse_reverse,List.map_map]
 conv => rhs;rw [← List.map_id l]
 congr 1
 funext e
 exact invE_twice e
def PSz (p:Pair):Prop:=p.label.size≤40000∧(∀ s∈usesO p.a,s.size≤40000)∧(∀ s∈usesO p.b,s.size≤40000)∧(∀ d∈declsO p.a,SmD d∧nodesN d.body≤1000000)∧∀ d∈declsO p.b,SmD d∧nodesN d.body≤1000000
theorem noText_sz:noText.size≤40000:=by decide
theorem bare_sm {k:Int} {p t:ByteArray} (hp:p.size≤40000) (ht:t.size≤40000):SmE ⟨k,p,t,[],[]⟩:=⟨hp,ht,fun _ h => (List.not_mem_nil h).elim,fun _ h => (List.not_mem_nil h).elim,Nat.zero_le _,Nat.zero_le _⟩
theorem useE_sm {k:Int} {p:ByteArray} {us os:List ByteArray} (hp:p.size≤40000) (hu:∀ s∈us,s.size≤40000):∀ e∈useE k p us os,SmE e:=fun e he => by
 unfold useE at he;obtain ⟨u,hu',rfl⟩:=List.mem_map.1 he;exact bare_sm hp (hu u (List.mem_filter.1 hu').1)
theorem one_sm {d:ODecl} (h:SmD d∧nodesN d.body≤1000000):∀ x∈[d],SmD x∧nodesN x.body≤1000000:=fun x hx => by rw [List.mem_singleton] at hx;rw [hx];exact h
theorem declE_sm {p:ByteArray} (hp:p.size≤40000):∀ (n:Nat) {xs bs:List ODecl},xs.length + bs.length = n→(∀ d∈xs,SmD d∧nodesN d.body≤1000000)→(∀ d∈bs,SmD d∧nodesN d.body≤1000000)→∀ e∈declE p xs bs,SmE e:=by
 have hrem:∀ d:ODecl,(SmD d∧nodesN d.body≤1000000)→SmE (remD p d):=fun d h => ⟨hp,noText_sz,one_sm h,fun _ h => (List.not_mem_nil h).elim,(by decide:1≤1000000),Nat.zero_le _⟩;have hadd:∀ d:ODecl,(SmD d∧nodesN d.body≤1000000)→SmE (addD p d):=fun d h => ⟨hp,noText_sz,fun _ h => (List.not_mem_nil h).elim,one_sm h,Nat.zero_le _,(by decide:1≤1000000)⟩;intro n
 induction n using Nat.strongRecOn with
 | ind n ih =>
  intro xs bs hn ha hb e he
  match xs,bs with
  | [],[] => rw [declE] at he;cases he
  | a :: xs,[] =>
   rw [declE] at he
   rcases List.mem_cons.1 he with rfl | he
   ·exact hrem a (ha a (List.mem_cons_self ..))
   ·exact ih (xs.length + ([]:List ODecl).length) (by simp at hn ⊢;omega) rfl (fun d hd => ha d (List.mem_cons_of_mem _ hd)) hb e he
  | [],b :: bs =>
   rw [declE] at he
   rcases List.mem_cons.1 he with rfl | he
   ·exact hadd b (hb b (List.mem_cons_self ..))
   ·exact ih (([]:List ODecl).length + bs.length) (by simp at hn ⊢;omega) rfl ha (fun d hd => hb d (List.mem_cons_of_mem _ hd)) e he
  | a :: xs,b :: bs =>
   rw [declE] at he;split at he
   ·rcases List.mem_cons.1 he with rfl | he
    ·exact hrem a (ha a (List.mem_cons_self ..))
    ·exact ih (xs.length + (b :: bs).length) (by simp at hn ⊢;omega) rfl (fun d hd => ha d (List.mem_cons_of_mem _ hd)) hb e he
   split at he
   ·rcases List.mem_cons.1 he with rfl | he
    ·exact hadd b (hb b (List.mem_cons_self ..))
    ·exact ih ((a :: xs).length + bs.length) (by simp at hn ⊢;omega) rfl ha (fun d hd => hb d (List.mem_cons_of_mem _ hd)) e he
   ·rcases List.mem_append.1 he with he | he
    ·unfold partsL at he
     obtain ⟨k,_,rfl⟩:=List.mem_map.1 he;exact partE7_sm hp (ha a (List.mem_cons_self ..)) (hb b (List.mem_cons_self ..))
    ·exact ih (xs.length + bs.length) (by simp at hn ⊢;omega) rfl (fun d hd => ha d (List.mem_cons_of_mem _ hd)) (fun d hd => hb d (List.mem_cons_of_mem _ hd)) e he
theorem diffP_sm {ps:List Pair} (h:∀ p∈ps,PSz p):∀ e∈diffP ps,SmE e:=fun e he => by
 unfold diffP at he
 rcases List.mem_append.1 he with he | he
 rcases List.mem_append.1 he with he | he
 rcases List.mem_append.1 he with he | he
 rcases List.mem_append.1 he with he | he
 ·unfold addM at he
  obtain ⟨p,hp,rfl⟩:=List.mem_map.1 he;exact bare_sm (h p (List.mem_filter.1 hp).1).1 noText_sz
 ·unfold addU at he
  obtain ⟨p,hp,he⟩:=List.mem_flatMap.1 he;exact useE_sm (h p hp).1 (h p hp).2.2.1 e he
 ·unfold chgD at he
  obtain ⟨p,hp,he⟩:=List.mem_flatMap.1 he;exact declE_sm (h p hp).1 _ rfl (h p hp).2.2.2.1 (h p hp).2.2.2.2 e he
 ·unfold remU at he
  obtain ⟨p,hp,he⟩:=List.mem_flatMap.1 he;exact useE_sm (h p hp).1 (h p hp).2.1 e he
 ·unfold remM at he
  obtain ⟨p,hp,rfl⟩:=List.mem_map.1 he;exact bare_sm (h p (List.mem_filter.1 hp).1).1 noText_sz
theorem pairs_label {Q:ByteArray→Prop}:∀ (n:Nat) {a b:List OMod},a.length + b.length = n→(∀ m∈a,Q m.label)→(∀ m∈b,Q m.label)→∀ p∈pairsL a b,Q p.label:=by
 intro n
 induction n using Nat.strongRecOn with
 | ind n ih =>
  intro a b hn ha hb p hp
  match a,b with
  | [],[] => rw [pairsL] at hp;cases hp
  | x :: a,[] =>
   rw [pairsL] at hp
   rcases List.mem_cons.1 hp with rfl | hp
   ·exact ha x (List.mem_cons_self ..)
   ·exact ih (a.length + ([]:List OMod).length) (by simp at hn ⊢;omega) rfl (fun m hm => ha m (List.mem_cons_of_mem _ hm)) hb p hp
  | [],y :: b =>
   rw [pairsL] at hp
   rcases List.mem_cons.1 hp with rfl | hp
   ·exact hb y (List.mem_cons_self ..)
   ·exact ih (([]:List OMod).length + b.length) (by simp at hn ⊢;omega) rfl ha (fun m hm => hb m (List.mem_cons_of_mem _ hm)) p hp
  | x :: a,y :: b =>
   rw [pairsL] at hp;split at hp
   ·rcases List.mem_cons.1 hp with rfl | hp
    ·exact ha x (List.mem_cons_self ..)
    ·exact ih (a.length + (y :: b).length) (by simp at hn ⊢;omega) rfl (fun m hm => ha m (List.mem_cons_of_mem _ hm)) hb p hp
   split at hp
   ·rcases List.mem_cons.1 hp with rfl | hp
    ·exact hb y (List.mem_cons_self ..)
    ·exact ih ((x :: a).length + b.length) (by simp at hn ⊢;omega) rfl ha (fun m hm => hb m (List.mem_cons_of_mem _ hm)) p hp
   ·rcases List.mem_cons.1 hp with rfl | hp
    ·exact hb y (List.mem_cons_self ..)
    ·exact ih (a.length + b.length) (by simp at hn ⊢;omega) rfl (fun m hm => ha m (List.mem_cons_of_mem _ hm)) (fun m hm => hb m (List.mem_cons_of_mem _ hm)) p hp
theorem diffL_sm {n:Nat} {a b:List OMod} (ha:SzB n a) (hb:SzB n b):∀ e∈diffL a b,SmE e:=by
 refine diffP_sm fun p hp => ?_;obtain ⟨h1,h2⟩:=pairs_mem (Q:=fun m => (∀ s∈m.uses,s.size≤40000)∧∀ d∈m.decls,SmD d∧nodesN d.body≤1000000) _ rfl (fun m hm => ⟨(ha.mods m hm).1.2.1,(ha.mods m hm).2⟩) (fun m hm => ⟨(hb.mods m hm).1.2.1,(hb.mods m hm).2⟩) p hp
 exact ⟨pairs_label (Q:=fun s => s.size≤40000) _ rfl (fun m hm => (ha.mods m hm).1.1) (fun m hm => (hb.mods m hm).1.1) p hp,usesO_of (Q:=fun l => ∀ s∈l,s.size≤40000) (fun _ h => (List.not_mem_nil h).elim) fun x e => (h1 x e).1,usesO_of (Q:=fun l => ∀ s∈l,s.size≤40000) (fun _ h => (List.not_mem_nil h).elim) fun x e => (h2 x e).1,declsO_of (Q:=fun l => ∀ d∈l,SmD d∧nodesN d.body≤1000000) (fun _ h => (List.not_mem_nil h).elim) fun x e => (h1 x e).2,declsO_of (Q:=fun l => ∀ d∈l,SmD d∧nodesN d.body≤1000000) (fun _ h => (List.not_mem_nil h).elim) fun x e => (h2 x e).2⟩
theorem diffR_sm {n:Nat} {a b:List OMod} (ha:SzB n a) (hb:SzB n b):∀ e∈diffR a b,SmE e:=fun e he => by
 unfold diffR at he;split at he
 ·exact diffL_sm ha hb e he
 ·exact (List.not_mem_nil he).elim
theorem diffL_len {a b:List OMod} (ha:SzB 10 a) (hb:SzB 10 b):(diffL a b).length≤2000:=by
 have hps:=pairs_len _ (a:=a) (b:=b) rfl;have hal:=ha.len;have hbl:=hb.len
 have hm:∀ p∈pairsL a b,(usesO p.a).length≤10∧(usesO p.b).length≤10∧(declsO p.a).length≤10∧(declsO p.b).length≤10:=fun p hp => by
  obtain ⟨h1,h2⟩:=pairs_mem (Q:=fun m => m.uses.length≤10∧m.decls.length≤10) _ rfl (fun m hm => ⟨(ha.mods m hm).1.2.2.1,(ha.mods m hm).1.2.2.2⟩) (fun m hm => ⟨(hb.mods m hm).1.2.2.1,(hb.mods m hm).1.2.2.2⟩) p hp;exact ⟨usesO_of (Q:=fun l => l.length≤10) (Nat.zero_le _) fun x e => (h1 x e).1,usesO_of (Q:=fun l => l.length≤10) (Nat.zero_le _) fun x e => (h2 x e).1,declsO_of (Q:=fun l => l.length≤10) (Nat.zero_le _) fun x e => (h1 x e).2,declsO_of (Q:=fun l => l.length≤10) (Nat.zero_le _) fun x e => (h2 x e).2⟩
 unfold diffL diffP;generalize pairsL a b = ps at *;have h1:(addM ps).length≤20:=by unfold addM;rw [List.length_map];exact Nat.le_trans (List.length_filter_le _ _) (by omega)
 have h5:(remM ps).length≤20:=by unfold remM;rw [List.length_map];exact Nat.le_trans (List.length_filter_le _ _) (by omega)
 have h2:(addU ps).length≤200:=by
  unfold addU;exact Nat.le_trans (flat_lenK (K:=10) fun p hp => Nat.le_trans (useE_len _ _ _ _) (hm p hp).2.1) (by omega)
 have h4:(remU ps).length≤200:=by
  unfold remU;exact Nat.le_trans (flat_lenK (K:=10) fun p hp => Nat.le_trans (useE_len _ _ _ _) (hm p hp).1) (by omega)
 have h3:(chgD ps).length≤1200:=by
  unfold chgD;refine Nat.le_trans (flat_lenK (K:=60) fun p hp => ?_) (by omega);have h1:=declE_len p.label _ (xs:=declsO p.a) (bs:=declsO p.b) rfl;have h2:=hm p hp;omega
 simp only [List.length_append]
 omega
end Go.Proofs.YtdpnfkjafhbndaaGreatDoor

