/- Applying the edits from modules to others leads there; and back; there are none from. -/
import Derived.Test.YtfkjfdbjhlmjcaaGreatDoorDPG
namespace Go.Proofs.YtfkjfdbjhlmjcaaGreatDoor
theorem yEl {l:List OMod} {s t:ByteArray}:ab l (.u s t)=(look ltB id (usesO (look ltB OMod.label l s)) t).map fun _=>noDecl:=by
 cases h:look ltB OMod.label l s with
 | none=>rw [zEs (k:=.u s t) h];rfl
 | some m=>rw [zHf (k:=.u s t) h];rfl
theorem yEo {l:List OMod} {s:ByteArray} {i:Int}:ab l (.d s i)=look ltI ODecl.id (declsO (look ltB OMod.label l s)) i:=by
 cases h:look ltB OMod.label l s with
 | none=>rw [zEs (k:=.d s i) h];rfl
 | some m=>rw [zHf (k:=.d s i) h];rfl
theorem yDq {l:List OMod} {s:ByteArray}:ab l (.m s)=(look ltB OMod.label l s).map fun _=>noDecl:=by
 cases h:look ltB OMod.label l s with
 | none=>rw [zEs (k:=.m s) h];rfl
 | some m=>rw [zHf (k:=.m s) h];rfl
theorem zCt {s:ByteArray} {l:List ByteArray}:memS s l=true↔s∈l:=by
 unfold memS;rw [List.any_eq_true]
 constructor
 ·rintro ⟨t,ht,e⟩;rw [show s=t from yAb (by simpa using e)];exact ht
 ·intro h;exact ⟨s,h,by simp⟩
theorem zOq {l:List ByteArray} {t:ByteArray}:((look ltB id l t).map fun _=>noDecl)=if memS t l then some noDecl else none:=by
 by_cases h:t∈l
 ·rw [if_pos (zCt.2 h)]
  cases hl:look ltB id l t with
  | some _=>rfl
  | none=>exact absurd rfl ((zCp zD).1 hl t h)
 ·rw [if_neg (fun c=>h (zCt.1 c))]
  cases hl:look ltB id l t with
  | none=>rfl
  | some x=>obtain ⟨h1,h2⟩:=zCu zD hl;exact absurd (by rw [←show x=t from h2];exact h1) h
theorem zJx {k:Int} {p:ByteArray} {uses others:List ByteArray} {e:OEdit}:e∈useE k p uses others↔∃u,u∈uses∧u∉others∧e=⟨k,p,u,[],[]⟩:=by
 unfold useE;rw [List.mem_map]
 constructor
 ·rintro ⟨u,hu,rfl⟩
  rw [List.mem_filter] at hu;exact ⟨u,hu.1,fun c=>by have:=zCt.2 c;rw [this] at hu;simp at hu,rfl⟩
 ·rintro ⟨u,h1,h2,rfl⟩
  exact ⟨u,List.mem_filter.2 ⟨h1,by rw [Bool.not_eq_true',←Bool.not_eq_true];exact fun c=>h2 (zCt.1 c)⟩,rfl⟩
structure PairsOk (a b:List OMod) (ps:List Pair):Prop where
  asc:Asc ltB Pair.label ps
  pa:∀p∈ps,p.a=look ltB OMod.label a p.label
  pb:∀p∈ps,p.b=look ltB OMod.label b p.label
  all:∀s,(look ltB OMod.label a s≠none∨look ltB OMod.label b s≠none)→∃p∈ps,p.label=s
  lab:∀p∈ps,labelS p.label=true
  va:∀p∈ps,∀m,p.a=some m→ValM m∧m.label=p.label
  vb:∀p∈ps,∀m,p.b=some m→ValM m∧m.label=p.label
theorem yBr {a b:List OMod} (ha:modsErr a=0) (hb:modsErr b=0):PairsOk a b (pairsL a b):=by
 obtain ⟨a1,a2⟩:=zCw.1 ha;obtain ⟨b1,b2⟩:=zCw.1 hb;obtain ⟨h1,h2,h3⟩:=zGo _ rfl a1 b1;have va:∀m∈a,ValM m:=fun m hm=>zDe.1 (zEm.1 a2 m hm);have vb:∀m∈b,ValM m:=fun m hm=>zDe.1 (zEm.1 b2 m hm);refine ⟨h1,fun p hp=>(h2 p hp).1,fun p hp=>(h2 p hp).2.1,fun s hs=>?_,fun p hp=>?_,fun p hp m hm=>?_,fun p hp m hm=>?_⟩
 ·rcases hs with hs|hs
  ·obtain ⟨m,hm⟩:=Option.ne_none_iff_exists'.1 hs
   obtain ⟨c1,c2⟩:=zCu zD hm;obtain ⟨p,hp,e⟩:=h3 m (.inl c1);exact ⟨p,hp,e.trans c2⟩
  ·obtain ⟨m,hm⟩:=Option.ne_none_iff_exists'.1 hs
   obtain ⟨c1,c2⟩:=zCu zD hm;obtain ⟨p,hp,e⟩:=h3 m (.inr c1);exact ⟨p,hp,e.trans c2⟩
 ·rcases (h2 p hp).2.2 with ⟨m,hm,e⟩|⟨m,hm,e⟩
  ·rw [←e];exact (va m hm).label
  ·rw [←e];exact (vb m hm).label
 ·rw [(h2 p hp).1] at hm
  obtain ⟨c1,c2⟩:=zCu zD hm;exact ⟨va m c1,c2⟩
 ·rw [(h2 p hp).2.1] at hm
  obtain ⟨c1,c2⟩:=zCu zD hm;exact ⟨vb m c1,c2⟩
theorem zNi {ps:List Pair} (h:Asc ltB Pair.label ps) (f:Pair→Bool) (k:Int) (hk:k≤2):(((ps.filter f).map fun p=>(⟨k,p.label,noText,[],[]⟩:OEdit)).map keyE).Nodup:=by
 rw [List.map_map];have e:(keyE ∘ fun p:Pair=>(⟨k,p.label,noText,[],[]⟩:OEdit))=fun p=>Key.m p.label:=by funext p;exact zOa hk
 rw [e];have h2:Asc ltB Pair.label (ps.filter f):=h.sublist List.filter_sublist;rw [List.Nodup,List.pairwise_map]
 exact h2.imp fun {p q} hpq c=>by injection c with c;exact zCk zD hpq c
theorem zIw {k:Int} (hk:k=3∨k=4) {f g:Pair→List ByteArray}:∀{ps:List Pair},Asc ltB Pair.label ps→(∀p∈ps,Asc ltB id (f p))→((ps.flatMap fun p=>useE k p.label (f p) (g p)).map keyE).Nodup
 | [],_,_=>List.nodup_nil
 | p::r,h,hs=>by
  obtain ⟨h1,h2⟩:=zBs.1 h;rw [List.flatMap_cons,List.map_append,List.nodup_append]
  have key:∀{q:ByteArray} {us os:List ByteArray} {x:Key},x∈(useE k q us os).map keyE→∃u,x=.u q u:=by
   intro q us os x hx;obtain ⟨e,he,rfl⟩:=List.mem_map.1 hx;obtain ⟨u,_,_,rfl⟩:=zJx.1 he;exact ⟨u,zSa (by show 3≤k;omega) (by show k≤4;omega)⟩
  refine ⟨?_,zIw hk h2 fun q hq=>hs q (List.mem_cons_of_mem _ hq),?_⟩
  ·unfold useE
   rw [List.map_map,List.Nodup,List.pairwise_map];have h3:Asc ltB id ((f p).filter fun u=>!memS u (g p)):=(hs p (List.mem_cons_self ..)).sublist List.filter_sublist
   exact h3.imp fun {u v} huv c=>by
    have e:∀u,(keyE ∘ fun u=>(⟨k,p.label,u,[],[]⟩:OEdit)) u=.u p.label u:=fun u=>zSa (by show 3≤k;omega) (by show k≤4;omega);rw [e,e] at c
    injection c with _ c
    exact zCk zD huv c
  ·intro x hx y hy c
   obtain ⟨u,rfl⟩:=key hx;obtain ⟨e,he,rfl⟩:=List.mem_map.1 hy;obtain ⟨q,hq,he⟩:=List.mem_flatMap.1 he;obtain ⟨v,e2⟩:=key (List.mem_map.2 ⟨e,he,rfl⟩);rw [e2] at c
   injection c with c _
   exact zCk zD (h1 q hq) c
theorem zYx:∀{ps:List Pair} {A:Ab},Asc ltB Pair.label ps→(∀p∈ps,labelS p.label=true∧A (.m p.label)≠none∧(∀d∈declsO p.a,declErr p.label d=0)∧(∀d∈declsO p.b,declErr p.label d=0)∧Asc ltI ODecl.id (declsO p.a)∧Asc ltI ODecl.id (declsO p.b)∧∀i,A (.d p.label i)=look ltI ODecl.id (declsO p.a) i) →
  ∃B,Run A (chgD ps) B∧(∀p∈ps,∀i,B (.d p.label i)=look ltI ODecl.id (declsO p.b) i)∧∀k,(∀p∈ps,∀i,k≠.d p.label i)→B k=A k
 | [],A,_,_=>⟨A,rfl,fun p hp=>(by cases hp),fun _ _=>rfl⟩
 | p::r,A,h,hs=>by
  obtain ⟨h1,h2⟩:=zBs.1 h;obtain ⟨q1,q2,q3,q4,q5,q6,q7⟩:=hs p (List.mem_cons_self ..);obtain ⟨C,c1,c2,c3⟩:=zYw q1 _ rfl q5 q6 q3 q4 q2 (fun i _=>q7 i)
  have cd:∀i,C (.d p.label i)=look ltI ODecl.id (declsO p.b) i:=fun i=>by
   by_cases hi:idIn i (declsO p.a)∨idIn i (declsO p.b)
   ·exact c2 i hi
   ·rw [c3 (.d p.label i) (fun j hj c=>hi (by injection c with _ c;rw [c];exact hj)),q7 i]
    rw [(zCp zLf).2 fun x hx c=>hi (.inl ⟨x,hx,c⟩),(zCp zLf).2 fun x hx c=>hi (.inr ⟨x,hx,c⟩)]
  have other:∀q∈r,q.label≠p.label:=fun q hq c=>zCk zD (h1 q hq) c.symm
  obtain ⟨B,b1,b2,b3⟩:=zYx (ps:=r) (A:=C) h2 (fun q hq=>by
   obtain ⟨g1,g2,g3,g4,g5,g6,g7⟩:=hs q (List.mem_cons_of_mem _ hq);refine ⟨g1,by rw [c3 _ (fun i _ c=>by cases c)];exact g2,g3,g4,g5,g6,fun i=>?_⟩
   rw [c3 _ (fun j _ c=>by injection c with c _;exact other q hq c)];exact g7 i)
  refine ⟨B,zCa.2 ⟨C,c1,b1⟩,fun q hq i=>?_,fun k hk=>?_⟩
  ·rcases List.mem_cons.1 hq with rfl|hq
   ·rw [b3 _ (fun x hx j c=>by injection c with c _;exact other x hx c.symm)];exact cd i
   ·exact b2 q hq i
  ·rw [b3 k (fun q hq=>hk q (List.mem_cons_of_mem _ hq)),c3 k (fun i _=>hk p (List.mem_cons_self ..) i)]
theorem yBs {a b:List OMod} {ps:List Pair} (hp:PairsOk a b ps):Run (ab a) (diffP ps) (ab b):=by
  have lk:∀{p q:Pair},p∈ps→q∈ps→p.label=q.label→p=q:=fun hp1 hq e=>zX zD hp.asc hp1 hq e
  have asrt:∀{p:Pair},p∈ps→Asc ltB id (usesO p.a)∧Asc ltI ODecl.id (declsO p.a)∧(∀d∈declsO p.a,declErr p.label d=0):=fun {p} h=>by
    cases hm:p.a with
    | none=>exact ⟨List.Pairwise.nil,List.Pairwise.nil,fun d hd=>by cases hd⟩
    | some m=>obtain ⟨V,e⟩:=hp.va p h m hm;exact ⟨V.uses,V.ids,fun d hd=>by rw [←e];exact V.decl d hd⟩
  have bsrt:∀{p:Pair},p∈ps→Asc ltB id (usesO p.b)∧Asc ltI ODecl.id (declsO p.b)∧(∀d∈declsO p.b,declErr p.label d=0):=fun {p} h=>by
    cases hm:p.b with
    | none=>exact ⟨List.Pairwise.nil,List.Pairwise.nil,fun d hd=>by cases hd⟩
    | some m=>obtain ⟨V,e⟩:=hp.vb p h m hm;exact ⟨V.uses,V.ids,fun d hd=>by rw [←e];exact V.decl d hd⟩
  have vuse:∀{p:Pair} {u:ByteArray} {k:Int},p∈ps→(u∈usesO p.a∨u∈usesO p.b)→(k=3∨k=4)→editErr ⟨k,p.label,u,[],[]⟩=0:=fun {p u k} h hu hk=>by
    rcases hu with hu|hu
    · cases hm:p.a with
      | none=>rw [hm] at hu;cases hu
      | some m=>rw [hm] at hu;obtain ⟨V,e⟩:=hp.va p h m hm;rw [←e];exact zYu V hu hk
    · cases hm:p.b with
      | none=>rw [hm] at hu;cases hu
      | some m=>rw [hm] at hu;obtain ⟨V,e⟩:=hp.vb p h m hm;rw [←e];exact zYu V hu hk
  -- modules that are new
  have r1:Run (ab a) (addM ps) (updAll (some noDecl) (ab a) (addM ps)):=by
    refine zLz (zNi hp.asc _ 1 (by omega)) (fun e he=>?_) (.inl fun e he=>?_)
    · obtain ⟨p,hpp,rfl⟩:=List.mem_map.1 he
      obtain ⟨h1,h2⟩:=List.mem_filter.1 hpp
      refine ⟨zYt (hp.lab p h1) (.inl rfl),⟨fun c=>absurd c (by show ¬(2:Int)≤1;omega),fun c=>absurd c (by show ¬(1:Int)=2;omega)⟩,(yCd (.inl rfl)).2 ⟨?_,rfl⟩⟩
      show ab a (.m p.label)=none
      rw [yEq]
      rw [←hp.pa p h1];simpa using h2
    · obtain ⟨p,hpp,rfl⟩:=List.mem_map.1 he;rfl
  generalize hA1:updAll (some noDecl) (ab a) (addM ps)=A1 at r1
  have m1:∀p∈ps,A1 (.m p.label)=some noDecl:=fun p h=>by
    by_cases hn:p.a.isNone=true
    · have he:(⟨1,p.label,noText,[],[]⟩:OEdit)∈addM ps:=List.mem_map.2 ⟨p,List.mem_filter.2 ⟨h,hn⟩,rfl⟩
      rw [←hA1];exact zFx he
    · rw [←hA1,zBm,yDq,←hp.pa p h]
      · cases hm:p.a with
        | none=>rw [hm] at hn;exact absurd rfl hn
        | some m=>rfl
      · intro e he c
        obtain ⟨q,hq,rfl⟩:=List.mem_map.1 he
        obtain ⟨g1,g2⟩:=List.mem_filter.1 hq
        have c:Key.m q.label=.m p.label:=c
        injection c with c
        rw [lk g1 h c] at g2;exact hn g2
  have u1:∀s t,A1 (.u s t)=ab a (.u s t):=fun s t=>by
    rw [←hA1];exact zBm fun e he c=>by obtain ⟨q,hq,rfl⟩:=List.mem_map.1 he;cases c
  have d1:∀s i,A1 (.d s i)=ab a (.d s i):=fun s i=>by
    rw [←hA1];exact zBm fun e he c=>by obtain ⟨q,hq,rfl⟩:=List.mem_map.1 he;cases c
  have n1:∀s,(∀p∈ps,p.label≠s)→A1 (.m s)=ab a (.m s):=fun s h=>by
    rw [←hA1];refine zBm fun e he c=>?_
    obtain ⟨q,hq,rfl⟩:=List.mem_map.1 he
    have c:Key.m q.label=.m s:=c
    injection c with c
    exact h q (List.mem_filter.1 hq).1 c
  clear hA1
  -- uses that are new
  have memU:∀{k:Int} {f g:Pair→List ByteArray} {e:OEdit},e∈(ps.flatMap fun p=>useE k p.label (f p) (g p))→∃p∈ps,∃u,u∈f p∧u∉g p∧e=⟨k,p.label,u,[],[]⟩:=fun {k f g e} he=>by
    obtain ⟨p,h,he⟩:=List.mem_flatMap.1 he
    obtain ⟨u,g1,g2,rfl⟩:=zJx.1 he
    exact ⟨p,h,u,g1,g2,rfl⟩
  have keyU:∀{k:Int} {s t:ByteArray},(k=3∨k=4)→keyE ⟨k,s,t,[],[]⟩=.u s t:=fun {k s t} hk=>zSa (by show 3≤k;omega) (by show k≤4;omega)
  have r2:Run A1 (addU ps) (updAll (some noDecl) A1 (addU ps)):=by
    refine zLz (zIw (.inl rfl) hp.asc fun p h=>(bsrt h).1) (fun e he=>?_) (.inr (.inr fun e he=>?_))
    · obtain ⟨p,h,u,g1,g2,rfl⟩:=memU he
      refine ⟨vuse h (.inr g1) (.inl rfl),⟨fun _=>?_,fun c=>absurd c (by show ¬(3:Int)=2;omega)⟩,(yCd (.inr rfl)).2 ⟨?_,rfl⟩⟩
      · show A1 (.m p.label)≠none;rw [m1 p h];simp
      · rw [keyU (.inl rfl),u1,yEl,←hp.pa p h,zOq,if_neg (fun c=>g2 (zCt.1 c))]
    · obtain ⟨p,h,u,g1,g2,rfl⟩:=memU he;show (3:Int)≤3;omega
  generalize hA2:updAll (some noDecl) A1 (addU ps)=A2 at r2
  have m2:∀s,A2 (.m s)=A1 (.m s):=fun s=>by
    rw [←hA2];refine zBm fun e he c=>?_
    obtain ⟨p,h,u,g1,g2,rfl⟩:=memU he;rw [keyU (.inl rfl)] at c;cases c
  have d2:∀s i,A2 (.d s i)=ab a (.d s i):=fun s i=>by
    rw [←d1,←hA2];refine zBm fun e he c=>?_
    obtain ⟨p,h,u,g1,g2,rfl⟩:=memU he;rw [keyU (.inl rfl)] at c;cases c
  have u2:∀p∈ps,∀t,A2 (.u p.label t)=if memS t (usesO p.a) || memS t (usesO p.b) then some noDecl else none:=fun p h t=>by
    by_cases hin:t∈usesO p.b∧t∉usesO p.a
    · have he:(⟨3,p.label,t,[],[]⟩:OEdit)∈addU ps:=List.mem_flatMap.2 ⟨p,h,zJx.2 ⟨t,hin.1,hin.2,rfl⟩⟩
      have:=zFx (v:=some noDecl) (A:=A1) he
      rw [hA2,keyU (.inl rfl)] at this
      rw [this,zCt.2 hin.1];simp
    · rw [←hA2,zBm,u1,yEl,←hp.pa p h,zOq]
      · by_cases h1:t∈usesO p.a
        · rw [zCt.2 h1];simp
        · have h2:memS t (usesO p.b)=false:=by rw [←Bool.not_eq_true];exact fun c=>hin ⟨zCt.1 c,h1⟩
          rw [h2];simp
      · intro e he c
        obtain ⟨q,hq,u,g1,g2,rfl⟩:=memU he
        rw [keyU (.inl rfl)] at c
        injection c with c1 c2
        have:=lk hq h c1
        subst this c2
        exact hin ⟨g1,g2⟩
  have o2:∀s t,(∀p∈ps,p.label≠s)→A2 (.u s t)=ab a (.u s t):=fun s t h=>by
    rw [←u1,←hA2];refine zBm fun e he c=>?_
    obtain ⟨q,hq,u,g1,g2,rfl⟩:=memU he
    rw [keyU (.inl rfl)] at c
    injection c with c _
    exact h q hq c
  clear hA2
  -- declarations
  obtain ⟨A3,r3,d3,k3⟩:=zYx (ps:=ps) (A:=A2) hp.asc (fun p h=>⟨hp.lab p h,by rw [m2,m1 p h];simp,(asrt h).2.2,(bsrt h).2.2,(asrt h).2.1,(bsrt h).2.1,fun i=>by rw [d2,yEo,←hp.pa p h]⟩)
  have m3:∀s,A3 (.m s)=A1 (.m s):=fun s=>by rw [k3 _ (fun p _ i c=>by cases c),m2]
  have u3:∀s t,A3 (.u s t)=A2 (.u s t):=fun s t=>k3 _ fun p _ i c=>by cases c
  -- uses that are gone
  have r4:Run A3 (remU ps) (updAll none A3 (remU ps)):=by
    refine zLz (zIw (.inr rfl) hp.asc fun p h=>(asrt h).1) (fun e he=>?_) (.inr (.inr fun e he=>?_))
    · obtain ⟨p,h,u,g1,g2,rfl⟩:=memU he
      refine ⟨vuse h (.inl g1) (.inr rfl),⟨fun _=>?_,fun c=>absurd c (by show ¬(4:Int)=2;omega)⟩,(yCe (.inr rfl)).2 ⟨?_,rfl⟩⟩
      · show A3 (.m p.label)≠none;rw [m3,m1 p h];simp
      · rw [keyU (.inr rfl),u3,u2 p h,zCt.2 g1];simp
    · obtain ⟨p,h,u,g1,g2,rfl⟩:=memU he;show (3:Int)≤4;omega
  generalize hA4:updAll none A3 (remU ps)=A4 at r4
  have m4:∀s,A4 (.m s)=A1 (.m s):=fun s=>by
    rw [←m3,←hA4];refine zBm fun e he c=>?_
    obtain ⟨p,h,u,g1,g2,rfl⟩:=memU he;rw [keyU (.inr rfl)] at c;cases c
  have d4:∀s i,A4 (.d s i)=A3 (.d s i):=fun s i=>by
    rw [←hA4];refine zBm fun e he c=>?_
    obtain ⟨p,h,u,g1,g2,rfl⟩:=memU he;rw [keyU (.inr rfl)] at c;cases c
  have u4:∀p∈ps,∀t,A4 (.u p.label t)=if memS t (usesO p.b) then some noDecl else none:=fun p h t=>by
    by_cases hin:t∈usesO p.a∧t∉usesO p.b
    · have he:(⟨4,p.label,t,[],[]⟩:OEdit)∈remU ps:=List.mem_flatMap.2 ⟨p,h,zJx.2 ⟨t,hin.1,hin.2,rfl⟩⟩
      have:=zFx (v:=none) (A:=A3) he
      rw [hA4,keyU (.inr rfl)] at this
      rw [this,if_neg (fun c=>hin.2 (zCt.1 c))]
    · rw [←hA4,zBm,u3,u2 p h]
      · by_cases h1:t∈usesO p.b
        · rw [zCt.2 h1];simp
        · have h2:memS t (usesO p.a)=false:=by rw [←Bool.not_eq_true];exact fun c=>hin ⟨zCt.1 c,h1⟩
          rw [h2];simp
      · intro e he c
        obtain ⟨q,hq,u,g1,g2,rfl⟩:=memU he
        rw [keyU (.inr rfl)] at c
        injection c with c1 c2
        have:=lk hq h c1
        subst this c2
        exact hin ⟨g1,g2⟩
  have o4:∀s t,(∀p∈ps,p.label≠s)→A4 (.u s t)=ab a (.u s t):=fun s t h=>by
    rw [←o2 s t h,←u3,←hA4];refine zBm fun e he c=>?_
    obtain ⟨q,hq,u,g1,g2,rfl⟩:=memU he
    rw [keyU (.inr rfl)] at c
    injection c with c _
    exact h q hq c
  clear hA4
  -- modules that are gone
  have r5:Run A4 (remM ps) (updAll none A4 (remM ps)):=by
    refine zLz (zNi hp.asc _ 2 (by omega)) (fun e he=>?_) (.inr (.inl fun e he=>?_))
    · obtain ⟨p,hpp,rfl⟩:=List.mem_map.1 he
      obtain ⟨h,h2⟩:=List.mem_filter.1 hpp
      have hb:p.b=none:=by simpa using h2
      have hmm:A4 (.m p.label)≠none:=by rw [m4,m1 p h];simp
      refine ⟨zYt (hp.lab p h) (.inr rfl),⟨fun _=>hmm,fun _=>⟨fun t=>?_,fun i=>?_⟩⟩,(yCe (.inl rfl)).2 ⟨hmm,rfl⟩⟩
      · show A4 (.u p.label t)=none;rw [u4 p h,hb];rfl
      · show A4 (.d p.label i)=none;rw [d4,d3 p h,hb];rfl
    · obtain ⟨p,hpp,rfl⟩:=List.mem_map.1 he;rfl
  have hfin:updAll none A4 (remM ps)=ab b:=by
    have keep:∀{k:Key},(∀p∈ps,p.b=none→k≠.m p.label)→updAll none A4 (remM ps) k=A4 k:=fun {k} h=>zBm fun e he c=>by
      obtain ⟨p,hpp,rfl⟩:=List.mem_map.1 he
      obtain ⟨h1,h2⟩:=List.mem_filter.1 hpp
      exact h p h1 (by simpa using h2) c.symm
    have out:∀s,(∀p∈ps,p.label≠s)→look ltB OMod.label a s=none∧look ltB OMod.label b s=none:=fun s h=>by
      constructor
      · cases hm:look ltB OMod.label a s with
        | none=>rfl
        | some m=>obtain ⟨p,h1,h2⟩:=hp.all s (.inl (by rw [hm];simp));exact absurd h2 (h p h1)
      · cases hm:look ltB OMod.label b s with
        | none=>rfl
        | some m=>obtain ⟨p,h1,h2⟩:=hp.all s (.inr (by rw [hm];simp));exact absurd h2 (h p h1)
    funext k
    by_cases hs:∃p∈ps,p.label=k.pack
    · obtain ⟨p,h,e⟩:=hs
      cases k with
      | m s=>
        have e:p.label=s:=e
        subst e
        by_cases hb:p.b=none
        · have he:(⟨2,p.label,noText,[],[]⟩:OEdit)∈remM ps:=List.mem_map.2 ⟨p,List.mem_filter.2 ⟨h,by rw [hb];rfl⟩,rfl⟩
          have:=zFx (v:=none) (A:=A4) he
          rw [show Key.m p.label=keyE ⟨2,p.label,noText,[],[]⟩ from rfl,this]
          show none=ab b (.m p.label)
          rw [yDq,←hp.pb p h,hb];rfl
        · rw [keep fun q hq hqb c=>hb (by injection c with c;rw [lk h hq c];exact hqb),m4,m1 p h,yDq,←hp.pb p h]
          obtain ⟨m,hm⟩:=Option.ne_none_iff_exists'.1 hb
          rw [hm];rfl
      | u s t=>
        have e:p.label=s:=e
        subst e
        rw [keep fun q hq hqb c=>(by cases c),u4 p h,yEl,←hp.pb p h,zOq]
      | d s i=>
        have e:p.label=s:=e
        subst e
        rw [keep fun q hq hqb c=>(by cases c),d4,d3 p h,yEo,←hp.pb p h]
    · have hs:∀p∈ps,p.label≠k.pack:=fun p h c=>hs ⟨p,h,c⟩
      obtain ⟨oa,ob⟩:=out _ hs
      rw [keep fun q hq hqb c=>hs q hq (by rw [c];rfl),zEs ob]
      cases k with
      | m s=>rw [m4,n1 s hs,zEs (k:=.m s) oa]
      | u s t=>rw [o4 s t hs,zEs (k:=.u s t) oa]
      | d s i=>rw [d4,k3 _ (fun p h j c=>by injection c with c _;exact hs p h c.symm),d2,zEs (k:=.d s i) oa]
  rw [hfin] at r5
  exact zCa.2 ⟨A4,zCa.2 ⟨A3,zCa.2 ⟨A2,zCa.2 ⟨A1,r1,r2⟩,r3⟩,r4⟩,r5⟩
theorem yBt {a b:List OMod} (ha:modsErr a=0) (hb:modsErr b=0):appR a (diffL a b)=(b,0):=
 yCx.2 ⟨ha,(yAd (zXe ha) (zXe hb)).1 (yBs (yBr ha hb)),(zCw.1 hb).2⟩
end Go.Proofs.YtfkjfdbjhlmjcaaGreatDoor
