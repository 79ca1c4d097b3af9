/- The effects of edits on uses. -/
import Derived.Test.YtfkjfdbjhlmjcaaGreatDoorXBA
namespace Go.Proofs.YtfkjfdbjhlmjcaaGreatDoor
open Go.RowKit Go.Shelf
attribute [local go_sem] Oper.semAt_some
structure EffIn (w0 w:World) (g o:Nat) (x:MV) (e:OEdit) (ao:Option Addr) (co:Nat) (af:Option Addr) (cf:Nat):Prop where
  old:Below w0.heap.size w0 w
  mr:MR w0 w x
  at_:ModAt w g o x
  gu:x.u.ownBlock≠some g
  gd:x.d.ownBlock≠some g
  ed:EditIn w0 e ao co af cf
  srt:SrtM x.m
  ul:x.m.uses.length≤100000
  dl:x.m.decls.length≤100000
theorem zQf {w:World} {B B':Nat} {e e':TypeId} {s s':Nat} {v v':Value} {n n':Nat} {xs xs':List Value} (he:e≠e') (h:w.ownsRow B e s v n xs) (h':w.ownsRow B' e' s' v' n' xs'):∀b,v.ownBlock=some b→v'.ownBlock≠some b:=by
 intro b hb hb'
 have k:∀{B:Nat} {e:TypeId} {s:Nat} {v:Value} {n:Nat} {xs:List Value},w.ownsRow B e s v n xs→v.ownBlock=some b→∃c,w.heap[b]?=some (.cells c e (0,0)):=fun h hb=>by
  rcases h.2 with ⟨rfl,_⟩|⟨g,cap,cur,rfl,_,hg,_⟩
  ·cases hb
  ·injection hb with hb;have hb:g=b:=hb;subst hb;exact ⟨cur,hg⟩
 obtain ⟨c,h1⟩:=k h hb;obtain ⟨c',h2⟩:=k h' hb';rw [h1] at h2
 injection h2 with h2
 injection h2 with _ h2
 exact he h2
theorem zMq {w:World} {l:List ODecl} {a:Option Addr} {c:Nat} (h:Reads w [] (declsT l) (.slice a l.length c)) {d:ODecl} (hl:l[0]?=some d) :
    ∃(b o:Nat) (an:Option Addr) (cn:Nat) (sa:Option Addr) (cs:Nat),a=some ⟨b,o,none⟩∧b<w.heap.size∧(∀(j:Nat) (u:Value),(declL d an cn sa cs)[j]?=some u→w.cell? ⟨b,o+j,none⟩=some u)∧ReadsL w [] (declT d) (declL d an cn sa cs)∧DeclIn w d an cn sa cs:=by
  obtain ⟨b,o,an,cn,sa,cs,e,hb,hc,n1,n2,HN,s1,s2,HS⟩:=zAv h hl
  exact ⟨b,o,an,cn,sa,cs,e,hb,fun j u hj=>by have:=hc j u hj;rwa [Nat.zero_mul,Nat.add_zero] at this,zBr HN.o HS.o,⟨HN.o,HS.o,n1,n2,s1,s2⟩⟩
theorem yBp (l:List ODecl):(l.flatMap declT).length=l.length * 11:=zEj zDa l
structure EffD (x:MV) (e:OEdit):Prop where
  rng:∀d∈x.m.decls,inR d.id
  ro:inR (dAt e.old 0).id
  rf:inR (dAt e.fresh 0).id
end Go.Proofs.YtfkjfdbjhlmjcaaGreatDoor
