/- Rows that are cut, and lists that a call builds anew: -/
import Derived.Test.YtfkjfdbjhlmjcaaGreatDoorKBS
namespace Go.Proofs.YtfkjfdbjhlmjcaaGreatDoor
open Go.RowKit Go.Shelf
theorem yBp {w:World} {a:Option Addr} {n c k sz:Nat} {xs:List Value} {a':Option Addr} (h:IsRow w sz (.slice a n c) n xs) (hk:k≤n) (ha:∀b o,k<n→a=some ⟨b,o,none⟩→a'=some ⟨b,o+k * sz,none⟩):IsRow w sz (.slice a' (n - k) (c - k)) (n - k) (xs.drop (k * sz)):=by
 obtain ⟨hl,a1,cap,e,h1,h2,h3⟩:=h
 injection e with e1 e2 e3
 subst e1 e3;refine ⟨by rw [List.length_drop,hl,Nat.sub_mul],_,_,rfl,by omega,by omega,fun h0=>?_⟩;obtain ⟨b,o,e,hb,hc⟩:=h3 (by omega);refine ⟨b,o+k * sz,ha b o (by omega) e,hb,fun j v hj=>?_⟩;rw [List.getElem?_drop] at hj;rw [Nat.add_assoc];exact hc _ v hj
theorem yDj {W:World} {B:Nat} {d:ODecl} {an:Option Addr} {cn:Nat} {sa:Option Addr} {cs:Nat} (h:CBox W B 62 (declL d an cn sa cs).toArray):IsRow W 11 (.slice (some ⟨B,0,none⟩) 1 1) 1 (declL d an cn sa cs):=by
 refine ⟨rfl,_,_,rfl,Nat.le_refl _,by unfold maxLen;omega,fun _=>⟨B,0,rfl,h.lt,fun j v hj=>?_⟩⟩;rw [Nat.zero_add];exact h.cell (by rw [List.getElem?_toArray];exact hj)
theorem zGb {w:World} {X:List Nat} {l:List ODecl} {a:Option Addr} {c:Nat} (h:Reads w X (declsT l) (.slice a l.length c)) {d:ODecl} (hl:l[0]?=some d) :
    ∃(b o:Nat) (an:Option Addr) (cn:Nat) (sa:Option Addr) (cs:Nat),a=some ⟨b,o,none⟩∧b<w.heap.size∧(∀(j:Nat) (u:Value),(declL d an cn sa cs)[j]?=some u→w.cell? ⟨b,o+j,none⟩=some u)∧ReadsL w X (declT d) (declL d an cn sa cs)∧DeclIn w d an cn sa cs∧Reads w X (strsT d.names) (.slice an d.names.length cn)∧Reads w X (subsT d.body.subs) (.slice sa d.body.subs.length cs):=by
  obtain ⟨b,o,an,cn,sa,cs,e,hb,hc,n1,n2,HN,s1,s2,HS⟩:=zAq h hl
  exact ⟨b,o,an,cn,sa,cs,e,hb,fun j u hj=>by have:=hc j u hj;rwa [Nat.zero_mul,Nat.add_zero] at this,zBk HN.o HS.o,⟨HN.o.fewer (by simp),HS.o.fewer (by simp),n1,n2,s1,s2⟩,HN.o,HS.o⟩
end Go.Proofs.YtfkjfdbjhlmjcaaGreatDoor
