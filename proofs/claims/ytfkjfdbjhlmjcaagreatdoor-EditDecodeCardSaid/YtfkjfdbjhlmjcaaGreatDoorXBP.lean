/- Reference 34: -/
import Derived.Test.YtfkjfdbjhlmjcaaGreatDoorXCA
namespace Go.Proofs.YtfkjfdbjhlmjcaaGreatDoor
open Go.RowKit Go.Shelf
attribute [local go_sem] Oper.semAt_some
end Go.Proofs.YtfkjfdbjhlmjcaaGreatDoor
namespace Go.Proofs.YtfkjfdbjhlmjcaaGreatDoor
open Go.RowKit Go.Shelf
theorem yC {w:World} {a:Option Addr} {n c k sz:Nat} {xs:List Value} {a':Option Addr} (h:IsRow w sz (.slice a n c) n xs) (hk:k≤n) (ha:∀b o,k<n→a=some ⟨b,o,none⟩→a'=some ⟨b,o+k * sz,none⟩):IsRow w sz (.slice a' (n - k) (c - k)) (n - k) (xs.drop (k * sz)):=by
 obtain ⟨hl,a1,cap,e,h1,h2,h3⟩:=h
 injection e with e1 e2 e3
 subst e1 e3;refine ⟨by rw [List.length_drop,hl,Nat.sub_mul],_,_,rfl,by omega,by omega,fun h0=>?_⟩;obtain ⟨b,o,e,hb,hc⟩:=h3 (by omega);refine ⟨b,o+k * sz,ha b o (by omega) e,hb,fun j v hj=>?_⟩;rw [List.getElem?_drop] at hj;rw [Nat.add_assoc];exact hc _ v hj
theorem yEb {W:World} {B:Nat} {d:ODecl} {an:Option Addr} {cn:Nat} {sa:Option Addr} {cs:Nat} (h:CBox W B 62 (declL d an cn sa cs).toArray):IsRow W 11 (.slice (some ⟨B,0,none⟩) 1 1) 1 (declL d an cn sa cs):=by
 refine ⟨rfl,_,_,rfl,Nat.le_refl _,by unfold maxLen;omega,fun _=>⟨B,0,rfl,h.lt,fun j v hj=>?_⟩⟩;rw [Nat.zero_add];exact h.cell (by rw [List.getElem?_toArray];exact hj)
theorem zGp {w:World} {X:List Nat} {l:List ODecl} {a:Option Addr} {c:Nat} (h:Reads w X (declsT l) (.slice a l.length c)) {d:ODecl} (hl:l[0]?=some d) :
    ∃(b o:Nat) (an:Option Addr) (cn:Nat) (sa:Option Addr) (cs:Nat),a=some ⟨b,o,none⟩∧b<w.heap.size∧(∀(j:Nat) (u:Value),(declL d an cn sa cs)[j]?=some u→w.cell? ⟨b,o+j,none⟩=some u)∧ReadsL w X (declT d) (declL d an cn sa cs)∧DeclIn w d an cn sa cs∧Reads w X (strsT d.names) (.slice an d.names.length cn)∧Reads w X (subsT d.body.subs) (.slice sa d.body.subs.length cs):=by
  obtain ⟨b,o,an,cn,sa,cs,e,hb,hc,n1,n2,HN,s1,s2,HS⟩:=zAv h hl
  exact ⟨b,o,an,cn,sa,cs,e,hb,fun j u hj=>by have:=hc j u hj;rwa [Nat.zero_mul,Nat.add_zero] at this,zBr HN.o HS.o,⟨HN.o.fewer (by simp),HS.o.fewer (by simp),n1,n2,s1,s2⟩,HN.o,HS.o⟩
def blksF (R:List (Value×List OEdit)):List Nat:=R.flatMap fun q=>blk q.1
structure Fam (w0 w:World) (R:List (Value×List OEdit)):Prop where
  old:Below w0.heap.size w0 w
  rows:∀q∈R,∃xs,w.ownsRow w0.heap.size 39 5 q.1 q.2.length xs∧ReadsL w (blksF R) (q.2.flatMap editT) xs
  apart:R.Pairwise fun p q=>∀b,p.1.ownBlock=some b→q.1.ownBlock≠some b
theorem Fam.below {w0 w w':World} {R:List (Value×List OEdit)} (h:Fam w0 w R) (m:Bw w w'):Fam w0 w' R:=
 ⟨zA h.old m,fun q hq=>by obtain ⟨xs,h1,h2⟩:=h.rows q hq;exact ⟨xs,zAq h1 m,h2.below m⟩,h.apart⟩
theorem zC {R:List (Value×List OEdit)} {k:Nat}:k∈blksF R↔∃q∈R,q.1.ownBlock=some k:=by
 unfold blksF;rw [List.mem_flatMap];exact ⟨fun ⟨q,h1,h2⟩=>⟨q,h1,zBd.1 h2⟩,fun ⟨q,h1,h2⟩=>⟨q,h1,zBd.2 h2⟩⟩
theorem Fam.lt {w0 w:World} {R:List (Value×List OEdit)} (h:Fam w0 w R) {k:Nat} (hk:k∈blksF R):w0.heap.size≤k∧k<w.heap.size:=by
 obtain ⟨q,hq,e⟩:=zC.1 hk;obtain ⟨xs,h1,_⟩:=h.rows q hq;exact h1.lt k e
theorem Fam.grown {w0 w w':World} {P S:List (Value×List OEdit)} {v v':Value} {l l2:List OEdit} {xs news:List Value} (h:Fam w0 w (P++(v,l)::S))
    (h2:ReadsL w (blksF (P++(v,l)::S)) (l.flatMap editT) xs) (h3:ReadsL w (blksF (P++(v,l)::S)) (l2.flatMap editT) news) (ho:w'.ownsRow w0.heap.size 39 5 v' (l.length+l2.length) (xs++news)) (hg:w.grownBy w' v.ownBlock) (hb:v'.ownBlock=v.ownBlock∨v'.ownBlock=some w.heap.size):Fam w0 w' (P++(v',l++l2)::S):=by
  have m:=zAp hg
  have hsub:∀k∈blksF (P++(v',l++l2)::S),k=w.heap.size∨k∈blksF (P++(v,l)::S):=fun k hk=>by
    obtain ⟨q,hq,e⟩:=zC.1 hk
    rcases List.mem_append.1 hq with hq|hq
    · exact .inr (zC.2 ⟨q,List.mem_append_left _ hq,e⟩)
    rcases List.mem_cons.1 hq with rfl|hq
    · rcases hb with hb|hb
      · exact .inr (zC.2 ⟨(v,l),List.mem_append_right _ (List.mem_cons_self ..),hb.symm.trans e⟩)
      · left;have:=hb.symm.trans e;injection this with this;exact this.symm
    · exact .inr (zC.2 ⟨q,List.mem_append_right _ (List.mem_cons_of_mem _ hq),e⟩)
  have hmv:∀k∈v.ownBlock.toList,k∈blksF (P++(v,l)::S):=fun k hk=>zC.2 ⟨(v,l),List.mem_append_right _ (List.mem_cons_self ..),by simpa using hk⟩
  have hrd:∀{L:List OEdit} {ys:List Value},ReadsL w (blksF (P++(v,l)::S)) (L.flatMap editT) ys→ReadsL w' (blksF (P++(v',l++l2)::S)) (L.flatMap editT) ys:=fun hr=>
    ((hr.more (Nat.le_refl _)).mod (m.mono fun k hk=>List.mem_cons_of_mem _ (hmv k hk))).fewer fun k hk=>by
      rcases hsub k hk with rfl|q
      · exact List.mem_cons_self
      · exact List.mem_cons_of_mem _ q
  obtain ⟨a1,a2,a3⟩:=List.pairwise_append.1 h.apart
  obtain ⟨b1,b2⟩:=List.pairwise_cons.1 a2
  have hoth:∀q,(q∈P∨q∈S)→∀b,q.1.ownBlock=some b→b∉v.ownBlock.toList:=fun q hq b e c=>by
    have c':v.ownBlock=some b:=by simpa using c
    rcases hq with hq|hq
    · exact a3 q hq (v,l) (List.mem_cons_self ..) b e c'
    · exact b1 q hq b c' e
  have hfr:∀q,(q∈P∨q∈S)→∀b,q.1.ownBlock=some b→b<w.heap.size:=fun q hq b e=>(h.lt (zC.2 ⟨q,by
    rcases hq with hq|hq
    · exact List.mem_append_left _ hq
    · exact List.mem_append_right _ (List.mem_cons_of_mem _ hq),e⟩)).2
  have hnew:∀q,(q∈P∨q∈S)→∀b,q.1.ownBlock=some b→v'.ownBlock≠some b:=fun q hq b e c=>by
    rcases hb with hb|hb
    · exact hoth q hq b e (by rw [←hb,c];simp)
    · have:=hfr q hq b e
      rw [hb] at c
      injection c with c
      omega
  refine ⟨?_,fun q hq=>?_,?_⟩
  · exact h.old.trans (m.upto h.old.size fun k hk=>(h.lt (hmv k hk)).1)
  · rcases List.mem_append.1 hq with hq|hq
    · obtain ⟨ys,h4,h5⟩:=h.rows q (List.mem_append_left _ hq)
      exact ⟨ys,zEm h4 m (hoth q (.inl hq)),hrd h5⟩
    rcases List.mem_cons.1 hq with rfl|hq
    · refine ⟨xs++news,by rw [List.length_append];exact ho,?_⟩
      rw [List.flatMap_append]
      exact ReadsL.append (hrd h3) (hrd h2)
    · obtain ⟨ys,h4,h5⟩:=h.rows q (List.mem_append_right _ (List.mem_cons_of_mem _ hq))
      exact ⟨ys,zEm h4 m (hoth q (.inr hq)),hrd h5⟩
  · exact List.pairwise_append.2 ⟨a1,List.pairwise_cons.2 ⟨fun q hq b e c=>hnew q (.inr hq) b c e,b2⟩,fun p hp q hq b e=>by
      rcases List.mem_cons.1 hq with rfl|hq
      · exact hnew p (.inl hp) b e
      · exact a3 p hp q (List.mem_cons_of_mem _ hq) b e⟩
theorem Fam.reads {w0 w:World} {R:List (Value×List OEdit)} (h:Fam w0 w R) {q:Value×List OEdit} (hq:q∈R):Reads w [] (editsT q.2) q.1:=by
 obtain ⟨xs,h1,h2⟩:=h.rows q hq;exact Reads.ofRow (zAs h1) (fun _ b _=>by simp) (h2.fewer fun k hk=>by simp at hk)
theorem Fam.start (w0:World) (w:World) (hb:Bw w0 w) (n:Nat):Fam w0 w (List.replicate n (.slice none 0 0,[])):=
 ⟨hb,fun q hq=>by rw [List.eq_of_mem_replicate hq];exact ⟨[],World.ownsRow_nil _ _ _ _,ReadsL.nil _ _⟩,List.pairwise_replicate.2 (.inr fun b e=>by cases e)⟩
def noMod:OMod:=⟨⟨#[]⟩,[],[]⟩
def bothT (p:Pair):List Tree:=[strT p.label,.leaf (.bool p.a.isSome),.leaf (.bool p.b.isSome)]++modT (p.a.getD noMod)++modT (p.b.getD noMod)
theorem zOh (m:Option OMod):usesO m=(m.getD noMod).uses:=by cases m<;>rfl
theorem zFm (m:Option OMod):declsO m=(m.getD noMod).decls:=by cases m<;>rfl
def OwnP (w0 w:World) (B:Nat) (v:Value) (l:List Pair):Prop:=∃xs,w.ownsRow B 71 9 v l.length xs∧ReadsL w0 [] (l.flatMap bothT) xs
theorem OwnP.nil (w0 w:World) (B:Nat):OwnP w0 w B (.slice none 0 0) []:=⟨[],World.ownsRow_nil _ _ _ _,ReadsL.nil _ _⟩
theorem OwnP.reads {w0 w:World} {B:Nat} {v:Value} {l:List Pair} (h:OwnP w0 w B v l) (m:Bw w0 w):Reads w [] (rowT 9 bothT l) v:=by
 obtain ⟨xs,h1,h2⟩:=h;exact Reads.ofRow (zAs h1) (fun _ b _=>by simp) (h2.below m)
theorem zGa {α:Type} {size:Nat} {f:α→List Tree} (hf:∀x,(f x).length=size) {w:World} {X:List Nat} {x:α} {r:List α} {a:Option Addr} {c:Nat} (h:Reads w X (rowT size f (x::r)) (.slice a (r.length+1) c)) (a':Option Addr) (ha:∀b o,0<r.length→a=some ⟨b,o,none⟩→a'=some ⟨b,o+size,none⟩):Reads w X (rowT size f r) (.slice a' r.length (c - 1)):=by
  obtain ⟨xs,hr,hx0,hx⟩:=Reads.toRow h
  have hs:=yC (k:=1) (a':=a') hr (by simp) (fun b o h1 h2=>by rw [Nat.one_mul];exact ha b o (by simp at h1;omega) h2)
  simp only [Nat.add_sub_cancel,Nat.one_mul] at hs
  refine Reads.ofRow hs (fun h0 b hb=>?_) ?_
  · obtain ⟨_,a1,cap,e,_,_,h3⟩:=hr
    injection e with e1 e2 e3
    subst e1
    obtain ⟨b',o,e,_,_⟩:=h3 (by simp)
    have:=ha b' o h0 e
    rw [this] at hb
    have hbb:b'=b:=by simpa [Value.ownBlock] using hb
    exact hx0 (by simp) b (by rw [e,←hbb];rfl)
  · have:=hx.drop size
    rw [List.flatMap_cons,List.drop_left' (hf x)] at this
    exact this
end Go.Proofs.YtfkjfdbjhlmjcaaGreatDoor
