/- The closures of the law ModmergeFields: what they write into a declaration. -/
import Derived.Test.YtdpnfkjafhbndaaGreatDoorRYH
import Derived.Test.YtdpnfkjafhbndaaGreatDoorRNC
import Derived.Test.YtdpnfkjafhbndaaGreatDoorRYC
import Derived.Test.YtdpnfkjafhbndaaGreatDoorRR7
import Derived.Test.YtdpnfkjafhbndaaGreatDoorRG8
import Derived.Test.YtdpnfkjafhbndaaGreatDoorRGC
namespace Go.Proofs.YtdpnfkjafhbndaaGreatDoor
open Go.RowKit Go.Shelf
attribute [local go_sem] Oper.semAt_some
def putL (g o:Nat) (ps:List (Nat × Value)) (w:World):World:=ps.foldl (fun w p => w.setCell ⟨g,o + p.1,none⟩ p.2) w
def setP (ps:List (Nat × Value)) (c:List Value):List Value:=ps.foldl (fun c p => c.set p.1 p.2) c
theorem putL_mod (g o:Nat):∀ (ps:List (Nat × Value)) (w:World),Mod [g] w (putL g o ps w)
 | [],w => Mod.refl _ _
 | p :: ps,w => ((Mod.refl [g] w).setCell (p:=⟨g,o + p.1,none⟩) (by simp) p.2).trans (putL_mod g o ps _)
theorem owns_setF {w:World} {B:Nat} {e:TypeId} {n cap sz:Nat} {xs:List Value} {g:Nat} (h:w.ownsRow B e sz (.slice (some ⟨g,0,none⟩) n cap) n xs) (i:Nat) (v:Value):(w.setCell ⟨g,i,none⟩ v).ownsRow B e sz (.slice (some ⟨g,0,none⟩) n cap) n (xs.set i v):=by
 obtain ⟨hl,h2⟩:=h
 rcases h2 with ⟨hv,h0⟩ | ⟨g',cap',cur,hv,hg,hh,hn',hc,hs,ht⟩
 ·cases hv
 ·injection hv with e1 e2 e3
  injection e1 with e1
  injection e1 with e1
  subst e1 e3;refine ⟨by rw [List.length_set];exact hl,.inr ⟨g,cap,cur.setIfInBounds i v,rfl,hg,CBox.set (B:=g) hh i v,hn',hc,by rw [Array.size_setIfInBounds];exact hs,?_⟩⟩;rw [Array.toList_setIfInBounds,List.take_set,ht]
theorem putL_own {B:Nat} {e:TypeId} {n cap sz g o:Nat} {A C:List Value} (hA:A.length = o):∀ (ps:List (Nat × Value)) {cs:List Value} {w:World},(∀ p∈ps,p.1 < cs.length)→w.ownsRow B e sz (.slice (some ⟨g,0,none⟩) n cap) n (A ++ (cs ++ C))→(putL g o ps w).ownsRow B e sz (.slice (some ⟨g,0,none⟩) n cap) n (A ++ (setP ps cs ++ C))
 | [],_,_,_,h => h
 | p :: ps,cs,w,hp,h => by
  have h1:=owns_setF h (o + p.1) p.2;have hp1:=hp p (List.mem_cons_self ..)
  have e1:(A ++ (cs ++ C)).set (o + p.1) p.2 = A ++ (cs.set p.1 p.2 ++ C):=by
   rw [List.set_append_right _ _ (by omega),show o + p.1 - A.length = p.1 by omega,List.set_append_left _ _ hp1]
  rw [e1] at h1;exact putL_own hA ps (cs:=cs.set p.1 p.2) (fun q hq => by rw [List.length_set];exact hp q (List.mem_cons_of_mem _ hq)) h1
theorem readsL_split {w:World} {X:List Nat} {ds es:List Tree} {xs:List Value} (h:ReadsL w X (ds ++ es) xs):∃ a b,xs = a ++ b∧ReadsL w X ds a∧ReadsL w X es b∧a.length = ds.length:=by
 have h1:=h.take ds.length;have h2:=h.drop ds.length;rw [List.take_left] at h1;rw [List.drop_left] at h2;exact ⟨_,_,(List.take_append_drop _ _).symm,h1,h2,h1.len⟩
theorem decls_split {w:World} {X:List Nat} {l:List ODecl} {xs:List Value} {k:Nat} {d:ODecl} (h:ReadsL w X (l.flatMap declT) xs) (hk:l[k]? = some d) :
  ∃ A C an cn sa cs,xs = A ++ (declL d an cn sa cs ++ C)∧A.length = k * 11∧ReadsL w X ((l.take k).flatMap declT) A∧ReadsL w X ((l.drop (k + 1)).flatMap declT) C∧DecX w X d an cn sa cs:=by
 obtain ⟨hkl,rfl⟩:=List.getElem?_eq_some_iff.1 hk;have e:l = l.take k ++ (l[k] :: l.drop (k + 1)):=by rw [← List.drop_eq_getElem_cons hkl,List.take_append_drop]
 rw [e,List.flatMap_append,List.flatMap_cons] at h;have e2:(l.take k ++ (l[k] :: l.drop (k + 1)))[k]? = l[k]?:=by rw [← e]
 obtain ⟨A,b,rfl,hA,hb,hl⟩:=readsL_split h;obtain ⟨c,C,rfl,hc,hC,-⟩:=readsL_split hb;obtain ⟨an,cn,sa,cs,rfl,h1,h2,h3,h4,h5,h6⟩:=decl_cells hc;refine ⟨A,C,an,cn,sa,cs,rfl,?_,hA,hC,⟨h3,h6,h1,h2,h4,h5⟩⟩;rw [hl]
 have:∀ m:List ODecl,(m.flatMap declT).length = m.length * 11:=fun m => by
  induction m with
  | nil => rfl
  | cons x m ih => rw [List.flatMap_cons,List.length_append,ih,declT_len,List.length_cons];omega
 rw [this,List.length_take];omega
theorem decls_put {w:World} {X:List Nat} {l:List ODecl} {k:Nat} {d:ODecl} {A C:List Value} {an:Option Addr} {cn:Nat} {sa:Option Addr} {cs:Nat} (hk:k < l.length) (hA:ReadsL w X ((l.take k).flatMap declT) A) (hC:ReadsL w X ((l.drop (k + 1)).flatMap declT) C) (hd:DecX w X d an cn sa cs) :
  ReadsL w X ((l.set k d).flatMap declT) (A ++ (declL d an cn sa cs ++ C)):=by
 rw [List.set_eq_take_append_cons_drop,if_pos hk,List.flatMap_append,List.flatMap_cons];exact ReadsL.append (ReadsL.append hC (cells_decl hd.names hd.subs)) hA
structure DAt (W:World) (g o:Nat) (d:ODecl) (an:Option Addr) (cn:Nat) (sa:Option Addr) (cs:Nat):Prop where
  lt:g < W.heap.size
  cell:∀ j u,(declL d an cn sa cs)[j]? = some u→W.cell? ⟨g,o + j,none⟩ = some u
  frz:∀ i,W.frozen? ⟨g,i,none⟩ = false
end Go.Proofs.YtdpnfkjafhbndaaGreatDoor

