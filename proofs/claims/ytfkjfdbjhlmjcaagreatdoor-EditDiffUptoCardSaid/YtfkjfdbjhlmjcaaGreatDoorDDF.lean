/- Lists of edits built side by side, with the box of a pair; how long they become. -/
import Derived.Test.YtfkjfdbjhlmjcaaGreatDoorDDB
namespace Go.Proofs.YtfkjfdbjhlmjcaaGreatDoor
open Go.RowKit Go.Shelf
structure FamD (w0 w:World) (R:List (Value×List OEdit)) (D:Nat) (arr:Array Value):Prop where
  fam:Fam w0 w R
  box:CBox w D 71 arr
  off:∀k∈blksF R,k≠D
theorem FamD.below {w0 w w':World} {R:List (Value×List OEdit)} {D:Nat} {arr:Array Value} (h:FamD w0 w R D arr) (m:Bw w w'):FamD w0 w' R D arr:=⟨h.fam.below m,h.box.below m,h.off⟩
theorem FamD.grown {w0 w w':World} {D:Nat} {arr:Array Value} {P S:List (Value×List OEdit)} {v v':Value} {l l2:List OEdit} {xs news:List Value} (h:FamD w0 w (P++(v,l)::S) D arr)
  (h2:ReadsL w (blksF (P++(v,l)::S)) (l.flatMap editT) xs) (h3:ReadsL w (blksF (P++(v,l)::S)) (l2.flatMap editT) news) (ho:w'.ownsRow w0.heap.size 39 5 v' (l.length+l2.length) (xs++news)) (hg:w.grownBy w' v.ownBlock) (hb:v'.ownBlock=v.ownBlock∨v'.ownBlock=some w.heap.size):FamD w0 w' (P++(v',l++l2)::S) D arr:=by
 refine ⟨h.fam.grown h2 h3 ho hg hb,h.box.mod (zAr hg) (fun c=>?_),fun k hk e=>?_⟩
 ·exact h.off D (zBz.2 ⟨(v,l),List.mem_append_right _ (List.mem_cons_self ..),by simpa using c⟩) rfl
 ·subst e
  obtain ⟨q,hq,e⟩:=zBz.1 hk
  rcases List.mem_append.1 hq with hq|hq
  ·exact h.off k (zBz.2 ⟨q,List.mem_append_left _ hq,e⟩) rfl
  rcases List.mem_cons.1 hq with rfl|hq
  ·rcases hb with hb|hb
   ·exact h.off k (zBz.2 ⟨(v,l),List.mem_append_right _ (List.mem_cons_self ..),hb.symm.trans e⟩) rfl
   ·have h4:=hb.symm.trans e
    injection h4 with h4
    have:=h.box.lt;omega
  ·exact h.off k (zBz.2 ⟨q,List.mem_append_right _ (List.mem_cons_of_mem _ hq),e⟩) rfl
theorem FamD.row {w0 w:World} {D:Nat} {arr:Array Value} {P S:List (Value×List OEdit)} {v:Value} {l:List OEdit} (h:FamD w0 w (P++(v,l)::S) D arr):∃xs,w.ownsRow w0.heap.size 39 5 v l.length xs∧ReadsL w (blksF (P++(v,l)::S)) (l.flatMap editT) xs:=h.fam.rows (v,l) (List.mem_append_right _ (List.mem_cons_self ..))
theorem Fam.val {w0 w:World} {P S:List (Value×List OEdit)} {v:Value} {l:List OEdit} (h:Fam w0 w (P++(v,l)::S)):∃a c,v=.slice a l.length c:=by
 obtain ⟨xs,h1,_⟩:=h.rows (v,l) (List.mem_append_right _ (List.mem_cons_self ..));exact zAh h1
theorem zHw {w:World} {X Y:List Nat}:∀{l:List OEdit} {xs:List Value},(∀e∈l,e.old=[]∧e.fresh=[])→ReadsL w X (l.flatMap editT) xs→ReadsL w Y (l.flatMap editT) xs
  | [],xs,_,h=>by
    have:xs=[]:=by rw [show ([]:List OEdit).flatMap editT=[] from rfl,ReadsL] at h;exact h
    subst this;exact ReadsL.nil _ _
  | e::r,xs,hb,h=>by
    rw [List.flatMap_cons] at h ⊢
    have h1:=h.take 5
    have h2:=h.drop 5
    rw [List.take_left' (show (editT e).length=5 from rfl)] at h1
    rw [List.drop_left' (show (editT e).length=5 from rfl)] at h2
    rw [←List.take_append_drop 5 xs]
    refine ReadsL.append (zHw (fun x hx=>hb x (List.mem_cons_of_mem _ hx)) h2) ?_
    obtain ⟨ao,co,an,cn,e1,o1,o2,ho,f1,f2,hf⟩:=zGa h1
    rw [e1]
    obtain ⟨b1,b2⟩:=hb e (List.mem_cons_self ..)
    rw [b1] at ho ⊢
    rw [b2] at hf ⊢
    have hz:∀{a:Option Addr} {c:Nat},Reads w X (declsT []) (.slice a ([]:List ODecl).length c)→Reads w Y (declsT []) (.slice a ([]:List ODecl).length c):=fun h=>by
      obtain ⟨ys,h1,h2,h3⟩:=Reads.toRow h
      have:ys=[]:=by rw [show ([]:List ODecl).flatMap declT=[] from rfl,ReadsL] at h3;exact h3
      subst this
      exact Reads.ofRow h1 (fun c=>absurd c (by simp)) (ReadsL.nil _ _)
    have e2:editT e=[.leaf (.int .i64 e.kind),strT e.pack,strT e.text,declsT [],declsT []]:=by unfold editT;rw [b1,b2]
    rw [e2]
    exact ReadsL.cons (Reads.leaf' _ _ _) (ReadsL.cons (Reads.leaf' _ _ _) (ReadsL.cons (Reads.leaf' _ _ _) (ReadsL.cons (hz ho) (ReadsL.cons (hz hf) (ReadsL.nil _ _)))))
theorem zHx {k:Int} {p:ByteArray} {us os:List ByteArray}:∀e∈useE k p us os,e.old=[]∧e.fresh=[]:=fun e he=>by
 unfold useE at he;obtain ⟨u,_,rfl⟩:=List.mem_map.1 he;exact ⟨rfl,rfl⟩
theorem zYq {w:World} {ps:List Pair} {a:Option Addr} {c:Nat} (h:Reads w [] (rowT 9 bothT ps) (.slice a ps.length c)) {i:Nat} {p:Pair} (hi:ps[i]?=some p) :
    ∃(b o:Nat) (ua:Option Addr) (uc:Nat) (da:Option Addr) (dc:Nat) (ub:Option Addr) (uk:Nat) (db:Option Addr) (dk:Nat),a=some ⟨b,o,none⟩∧b<w.heap.size ∧
      (∀(j:Nat) (u:Value),[.string p.label,.bool p.a.isSome,.bool p.b.isSome,.string (p.a.getD noMod).label,.slice ua (p.a.getD noMod).uses.length uc,.slice da (p.a.getD noMod).decls.length dc,.string (p.b.getD noMod).label,.slice ub (p.b.getD noMod).uses.length uk,.slice db (p.b.getD noMod).decls.length dk][j]?=some u→w.cell? ⟨b,o+i * 9+j,none⟩=some u) ∧
      Reads w [] (strsT (p.a.getD noMod).uses) (.slice ua (p.a.getD noMod).uses.length uc)∧Reads w [] (declsT (p.a.getD noMod).decls) (.slice da (p.a.getD noMod).decls.length dc)∧Reads w [] (strsT (p.b.getD noMod).uses) (.slice ub (p.b.getD noMod).uses.length uk)∧Reads w [] (declsT (p.b.getD noMod).decls) (.slice db (p.b.getD noMod).decls.length dk):=by
  obtain ⟨b,o,e,hb,hc⟩:=Reads.elem (size:=9) (f:=bothT) (fun _=>rfl) h hi
  obtain ⟨u0,c0,d0⟩:=hc 0 _ rfl
  obtain ⟨u1,c1,d1⟩:=hc 1 _ rfl
  obtain ⟨u2,c2,d2⟩:=hc 2 _ rfl
  obtain ⟨u3,c3,d3⟩:=hc 3 _ rfl
  obtain ⟨u4,c4,d4⟩:=hc 4 _ rfl
  obtain ⟨u5,c5,d5⟩:=hc 5 _ rfl
  obtain ⟨u6,c6,d6⟩:=hc 6 _ rfl
  obtain ⟨u7,c7,d7⟩:=hc 7 _ rfl
  obtain ⟨u8,c8,d8⟩:=hc 8 _ rfl
  obtain rfl:=Reads.leafv d0
  obtain rfl:=Reads.leafv d1
  obtain rfl:=Reads.leafv d2
  obtain rfl:=Reads.leafv d3
  obtain rfl:=Reads.leafv d6
  obtain ⟨ua,uc,rfl,-⟩:=(zAf.1 d4).1.shape
  obtain ⟨da,dc,rfl,-⟩:=zBj d5
  obtain ⟨ub,uk,rfl,-⟩:=(zAf.1 d7).1.shape
  obtain ⟨db,dk,rfl,-⟩:=zBj d8
  refine ⟨b,o,ua,uc,da,dc,ub,uk,db,dk,e,hb,fun j u hj=>?_,d4,d5,d7,d8⟩
  match j,hj with
  | 0,hj=>cases hj;exact c0
  | 1,hj=>cases hj;exact c1
  | 2,hj=>cases hj;exact c2
  | 3,hj=>cases hj;exact c3
  | 4,hj=>cases hj;exact c4
  | 5,hj=>cases hj;exact c5
  | 6,hj=>cases hj;exact c6
  | 7,hj=>cases hj;exact c7
  | 8,hj=>cases hj;exact c8
  | j+9,hj=>cases hj
theorem zDh (k:Int) (p:ByteArray) (us os:List ByteArray):(useE k p us os).length≤us.length:=by
 unfold useE;rw [List.length_map];exact List.length_filter_le _ _
theorem zVm (p:ByteArray) (a b:ODecl) (ks:List Int):(((ks.filter fun k=>!sameD (partD k a) (partD k b)).map (partE7 p a b))).length≤ks.length:=by
 rw [List.length_map];exact List.length_filter_le _ _
theorem zFw (p:ByteArray):∀(n:Nat) {xs bs:List ODecl},xs.length+bs.length=n→(declE p xs bs).length≤3 * n:=by
 intro n
 induction n using Nat.strongRecOn with
 | ind n ih=>
  intro xs bs hn
  match xs,bs with
  | [],[]=>rw [declE];exact Nat.zero_le _
  | a::xs,[]=>
   rw [declE,List.length_cons];have:=ih (xs.length+([]:List ODecl).length) (by simp at hn ⊢;omega) (xs:=xs) (bs:=[]) rfl;simp at hn this;omega
  | [],b::bs=>
   rw [declE,List.length_cons];have:=ih (([]:List ODecl).length+bs.length) (by simp at hn ⊢;omega) (xs:=[]) (bs:=bs) rfl;simp at hn this;omega
  | a::xs,b::bs=>
   rw [declE];split
   ·rw [List.length_cons]
    have:=ih (xs.length+(b::bs).length) (by simp at hn ⊢;omega) (xs:=xs) (bs:=b::bs) rfl;simp at hn this;omega
   split
   ·rw [List.length_cons]
    have:=ih ((a::xs).length+bs.length) (by simp at hn ⊢;omega) (xs:=a::xs) (bs:=bs) rfl;simp at hn this;omega
   ·rw [List.length_append]
    have:=ih (xs.length+bs.length) (by simp at hn ⊢;omega) (xs:=xs) (bs:=bs) rfl;have h2:=zVm p a b [7,8,9];unfold partsL;simp at hn this h2 ⊢;omega
def PSm (p:Pair):Prop:=(usesO p.a).length≤100∧(usesO p.b).length≤100∧(declsO p.a).length≤100∧(declsO p.b).length≤100
theorem zEf {α β:Type} {f:α→List β} {K:Nat}:∀{l:List α},(∀x∈l,(f x).length≤K)→(l.flatMap f).length≤l.length * K
 | [],_=>by simp
 | x::r,h=>by
  rw [List.flatMap_cons,List.length_append,List.length_cons,Nat.succ_mul];have h1:=h x (List.mem_cons_self ..);have h2:=zEf (f:=f) (K:=K) (l:=r) fun y hy=>h y (List.mem_cons_of_mem _ hy);omega
theorem zGq {qs:List Pair} (h:∀p∈qs,PSm p) (hl:qs.length≤200):(addM qs).length≤200∧(addU qs).length≤20000∧(chgD qs).length≤120000∧(remU qs).length≤20000∧(remM qs).length≤200:=by
 refine ⟨?_,?_,?_,?_,?_⟩
 ·unfold addM;rw [List.length_map];exact Nat.le_trans (List.length_filter_le _ _) hl
 ·unfold addU
  exact Nat.le_trans (zEf (K:=100) fun p hp=>Nat.le_trans (zDh _ _ _ _) (h p hp).2.1) (by omega)
 ·unfold chgD
  refine Nat.le_trans (zEf (K:=600) fun p hp=>?_) (by omega);have h1:=zFw p.label _ (xs:=declsO p.a) (bs:=declsO p.b) rfl;have h2:=h p hp;unfold PSm at h2;omega
 ·unfold remU
  exact Nat.le_trans (zEf (K:=100) fun p hp=>Nat.le_trans (zDh _ _ _ _) (h p hp).1) (by omega)
 ·unfold remM;rw [List.length_map];exact Nat.le_trans (List.length_filter_le _ _) hl
theorem zLw:∀(n:Nat) {a b:List OMod},a.length+b.length=n→(pairsL a b).length≤n:=by
 intro n
 induction n using Nat.strongRecOn with
 | ind n ih=>
  intro a b hn
  match a,b with
  | [],[]=>rw [pairsL];exact Nat.zero_le _
  | x::a,[]=>
   rw [pairsL,List.length_cons];have:=ih (a.length+([]:List OMod).length) (by simp at hn ⊢;omega) (a:=a) (b:=[]) rfl;simp at hn this;omega
  | [],y::b=>
   rw [pairsL,List.length_cons];have:=ih (([]:List OMod).length+b.length) (by simp at hn ⊢;omega) (a:=[]) (b:=b) rfl;simp at hn this;omega
  | x::a,y::b=>
   rw [pairsL];split
   ·rw [List.length_cons]
    have:=ih (a.length+(y::b).length) (by simp at hn ⊢;omega) (a:=a) (b:=y::b) rfl;simp at hn this;omega
   split
   ·rw [List.length_cons]
    have:=ih ((x::a).length+b.length) (by simp at hn ⊢;omega) (a:=x::a) (b:=b) rfl;simp at hn this;omega
   ·rw [List.length_cons]
    have:=ih (a.length+b.length) (by simp at hn ⊢;omega) (a:=a) (b:=b) rfl;simp at hn this;omega
theorem zHy {Q:OMod→Prop}:∀(n:Nat) {a b:List OMod},a.length+b.length=n→(∀m∈a,Q m)→(∀m∈b,Q m)→∀p∈pairsL a b,(∀m,p.a=some m→Q m)∧∀m,p.b=some m→Q m:=by
  intro n
  induction n using Nat.strongRecOn with
  | ind n ih=>
    intro a b hn ha hb p hp
    have hN:∀m,(none:Option OMod)=some m→Q m:=fun m e=>by cases e
    have hS:∀{x:OMod},Q x→∀m,some x=some m→Q m:=fun h m e=>by cases e;exact h
    match a,b with
    | [],[]=>rw [pairsL] at hp;cases hp
    | x::a,[]=>
      rw [pairsL] at hp
      rcases List.mem_cons.1 hp with rfl|hp
      · exact ⟨hS (ha x (List.mem_cons_self ..)),hN⟩
      · exact ih (a.length+([]:List OMod).length) (by simp at hn ⊢;omega) rfl (fun m hm=>ha m (List.mem_cons_of_mem _ hm)) hb p hp
    | [],y::b=>
      rw [pairsL] at hp
      rcases List.mem_cons.1 hp with rfl|hp
      · exact ⟨hN,hS (hb y (List.mem_cons_self ..))⟩
      · exact ih (([]:List OMod).length+b.length) (by simp at hn ⊢;omega) rfl ha (fun m hm=>hb m (List.mem_cons_of_mem _ hm)) p hp
    | x::a,y::b=>
      rw [pairsL] at hp
      split at hp
      · rcases List.mem_cons.1 hp with rfl|hp
        · exact ⟨hS (ha x (List.mem_cons_self ..)),hN⟩
        · exact ih (a.length+(y::b).length) (by simp at hn ⊢;omega) rfl (fun m hm=>ha m (List.mem_cons_of_mem _ hm)) hb p hp
      split at hp
      · rcases List.mem_cons.1 hp with rfl|hp
        · exact ⟨hN,hS (hb y (List.mem_cons_self ..))⟩
        · exact ih ((x::a).length+b.length) (by simp at hn ⊢;omega) rfl ha (fun m hm=>hb m (List.mem_cons_of_mem _ hm)) p hp
      · rcases List.mem_cons.1 hp with rfl|hp
        · exact ⟨hS (ha x (List.mem_cons_self ..)),hS (hb y (List.mem_cons_self ..))⟩
        · exact ih (a.length+b.length) (by simp at hn ⊢;omega) rfl (fun m hm=>ha m (List.mem_cons_of_mem _ hm)) (fun m hm=>hb m (List.mem_cons_of_mem _ hm)) p hp
theorem zGr {Q:List ByteArray→Prop} {m:Option OMod} (h0:Q []) (h:∀x,m=some x→Q x.uses):Q (usesO m):=by
 cases m with
 | none=>exact h0
 | some x=>exact h x rfl
theorem zDk {Q:List ODecl→Prop} {m:Option OMod} (h0:Q []) (h:∀x,m=some x→Q x.decls):Q (declsO m):=by
 cases m with
 | none=>exact h0
 | some x=>exact h x rfl
theorem zLx {n:Nat} {a b:List OMod} (ha:SzB n a) (hb:SzB n b) (hn:n≤100):(∀p∈pairsL a b,PSm p)∧(∀p∈pairsL a b,(∀d∈declsO p.a,d.names.length≤1000000∧nodesN d.body≤1000000)∧∀d∈declsO p.b,d.names.length≤1000000∧nodesN d.body≤1000000):=by
 refine ⟨fun p hp=>?_,fun p hp=>?_⟩
 ·obtain ⟨h1,h2⟩:=zHy (Q:=fun m=>m.uses.length≤100∧m.decls.length≤100) _ rfl (fun m hm=>⟨Nat.le_trans (ha.mods m hm).1.2.2.1 hn,Nat.le_trans (ha.mods m hm).1.2.2.2 hn⟩) (fun m hm=>⟨Nat.le_trans (hb.mods m hm).1.2.2.1 hn,Nat.le_trans (hb.mods m hm).1.2.2.2 hn⟩) p hp
  exact ⟨zGr (Q:=fun l=>l.length≤100) (Nat.zero_le _) fun x e=>(h1 x e).1,zGr (Q:=fun l=>l.length≤100) (Nat.zero_le _) fun x e=>(h2 x e).1,zDk (Q:=fun l=>l.length≤100) (Nat.zero_le _) fun x e=>(h1 x e).2,zDk (Q:=fun l=>l.length≤100) (Nat.zero_le _) fun x e=>(h2 x e).2⟩
 ·obtain ⟨h1,h2⟩:=zHy (Q:=fun m=>∀d∈m.decls,d.names.length≤1000000∧nodesN d.body≤1000000) _ rfl (fun m hm d hd=>⟨((ha.mods m hm).2 d hd).1.len,((ha.mods m hm).2 d hd).2⟩) (fun m hm d hd=>⟨((hb.mods m hm).2 d hd).1.len,((hb.mods m hm).2 d hd).2⟩) p hp
  exact ⟨zDk (Q:=fun l=>∀d∈l,d.names.length≤1000000∧nodesN d.body≤1000000) (fun d h=>(List.not_mem_nil h).elim) fun x e=>h1 x e,zDk (Q:=fun l=>∀d∈l,d.names.length≤1000000∧nodesN d.body≤1000000) (fun d h=>(List.not_mem_nil h).elim) fun x e=>h2 x e⟩
theorem zQh {ps:List Pair} {i:Nat} {p:Pair} (h:ps[i]?=some p):addM (ps.take (i+1))=addM (ps.take i)++if p.a.isSome then [] else [⟨1,p.label,noText,[],[]⟩]:=by
 unfold addM;rw [zDs h,List.filter_append,List.map_append,List.filter_cons]
 cases p.a<;>rfl
theorem zQi {ps:List Pair} {i:Nat} {p:Pair} (h:ps[i]?=some p):remM (ps.take (i+1))=remM (ps.take i)++if p.b.isSome then [] else [⟨2,p.label,noText,[],[]⟩]:=by
 unfold remM;rw [zDs h,List.filter_append,List.map_append,List.filter_cons]
 cases p.b<;>rfl
theorem zQj {ps:List Pair} {i:Nat} {p:Pair} (h:ps[i]?=some p):addU (ps.take (i+1))=addU (ps.take i)++useE 3 p.label (usesO p.b) (usesO p.a):=by
 unfold addU;rw [zDs h,List.flatMap_append,List.flatMap_cons,List.flatMap_nil,List.append_nil]
theorem zQk {ps:List Pair} {i:Nat} {p:Pair} (h:ps[i]?=some p):chgD (ps.take (i+1))=chgD (ps.take i)++declE p.label (declsO p.a) (declsO p.b):=by
 unfold chgD;rw [zDs h,List.flatMap_append,List.flatMap_cons,List.flatMap_nil,List.append_nil]
theorem zQl {ps:List Pair} {i:Nat} {p:Pair} (h:ps[i]?=some p):remU (ps.take (i+1))=remU (ps.take i)++useE 4 p.label (usesO p.a) (usesO p.b):=by
 unfold remU;rw [zDs h,List.flatMap_append,List.flatMap_cons,List.flatMap_nil,List.append_nil]
end Go.Proofs.YtfkjfdbjhlmjcaaGreatDoor
