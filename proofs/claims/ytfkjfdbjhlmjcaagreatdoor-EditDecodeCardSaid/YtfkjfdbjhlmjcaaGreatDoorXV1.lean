/- The reference's id, Independent of chapter 35. -/
import Derived.Test.YtfkjfdbjhlmjcaaGreatDoorXSEr
namespace Go.Proofs.YtfkjfdbjhlmjcaaGreatDoor
open Go.RowKit Go.Shelf
attribute [local go_sem] Oper.semAt_some
def swapAt (l:List OEdit) (k:Nat):List OEdit:=(l.set k (eAt l (k+1))).set (k+1) (eAt l k)
def moveUp:Nat→List OEdit→Nat→Option (List OEdit)
 | 0,l,_=>some l
 | d+1,l,f=>if swapB (eAt l f) (eAt l (f+1)) then moveUp d (swapAt l f) (f+1) else none
def moveDown:Nat→List OEdit→Nat→Option (List OEdit)
 | 0,l,_=>some l
 | d+1,l,f=>if swapB (eAt l (f - 1)) (eAt l f) then moveDown d (swapAt l (f - 1)) (f - 1) else none
def mv (l:List OEdit) (f t:Nat):Option (List OEdit):=if f≤t then moveUp (t - f) l f else moveDown (f - t) l f
section
variable {w:World} {B:Nat} {e:TypeId} {n cap sz:Nat} {xs:List Value}
theorem zDq {g:Nat} (h:w.ownsRow B e sz (.slice (some ⟨g,0,none⟩) n cap) n xs) (_hn:0<n) (i:Nat) (v:Value):(w.setCell ⟨g,i,none⟩ v).ownsRow B e sz (.slice (some ⟨g,0,none⟩) n cap) n (xs.set i v):=by
  obtain ⟨hl,h2⟩:=h
  rcases h2 with ⟨hv,h0⟩|⟨g',cap',cur,hv,hg,hh,hn',hc,hs,ht⟩
  · cases hv
  · injection hv with e1 e2 e3
    injection e1 with e1
    injection e1 with e1
    subst e1 e3
    refine ⟨by rw [List.length_set];exact hl,.inr ⟨g,cap,cur.setIfInBounds i v,rfl,hg,CBox.set (B:=g) hh i v,hn',hc,by rw [Array.size_setIfInBounds];exact hs,?_⟩⟩
    rw [Array.toList_setIfInBounds,List.take_set,ht]
end
theorem zQg (e:OEdit):(editT e).length=5:=rfl
theorem zHj {w:World} {X:List Nat}:∀{l:List OEdit} {xs:List Value},ReadsL w X (l.flatMap editT) xs→∀u∈xs,u.oneCell'=true:=by
 intro l
 induction l with
 | nil=>intro xs h;rw [List.flatMap_nil,ReadsL] at h;subst h;intro u hu;cases hu
 | cons y r ih=>
  intro xs h u hu;rw [List.flatMap_cons] at h;have h1:=h.take 5;have h2:=h.drop 5;rw [List.take_left' (zQg y)] at h1;rw [List.drop_left' (zQg y)] at h2;rw [←List.take_append_drop 5 xs,List.mem_append] at hu
  rcases hu with hu|hu
  ·obtain ⟨ao,co,af,cf,e,_⟩:=zLz h1
   rw [e] at hu;simp only [List.mem_cons,List.not_mem_nil,or_false] at hu
   rcases hu with rfl|rfl|rfl|rfl|rfl<;>rfl
  ·exact ih h2 u hu
theorem zSi (ad:Addr) (n c:Nat) (w:World):(binOp .eql 23 (.slice (some ad) n c) (.slice none 0 0)).run Tryz.prog w=.ok (.bool false) w:=Lib.run_eql_slice_nil w _ _ (some ad) n c 0 0 Tryz.underlying23
attribute [local go_sem] zSi
end Go.Proofs.YtfkjfdbjhlmjcaaGreatDoor
