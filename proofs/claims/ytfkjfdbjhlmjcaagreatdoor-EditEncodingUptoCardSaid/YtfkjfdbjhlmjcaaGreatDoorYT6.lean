/- The fields of a declaration that an edit mentions; the rest completed. -/
import Derived.Test.YtfkjfdbjhlmjcaaGreatDoorYSEd
import Derived.Handy
set_option maxHeartbeats 16000000
namespace Go.Proofs.YtfkjfdbjhlmjcaaGreatDoor
open Go.RowKit Go.Shelf
attribute [local go_sem] Oper.semAt_some
def exZ:Ex:=.mk 0 ⟨#[]⟩ ⟨#[]⟩ 0 0 []
def partD (k:Int) (d:ODecl):ODecl:=if k=7 then ⟨d.id,0,false,d.names,false,exZ⟩ else if k=8 then ⟨d.id,0,false,[],false,d.body⟩ else if k=9 then ⟨d.id,d.kind,d.pub,[],d.doubt,exZ⟩ else d
theorem zDv (w:World):Reads w [] (strsT []) (.slice none 0 0):=Reads.nilRow _ _ _ _
theorem zJe (w:World):Reads w [] (subsT []) (.slice none 0 0):=Reads.nilRow _ _ _ _
theorem DeclIn.onlyNames {w:World} {d:ODecl} {an:Option Addr} {cn:Nat} {sa:Option Addr} {cs:Nat} (h:DeclIn w d an cn sa cs) (i k:Int) (p q:Bool):DeclIn w ⟨i,k,p,d.names,q,exZ⟩ an cn none 0:=⟨h.names,zJe w,h.hn1,h.hn2,Nat.le_refl _,Nat.zero_le _⟩
theorem DeclIn.onlyBody {w:World} {d:ODecl} {an:Option Addr} {cn:Nat} {sa:Option Addr} {cs:Nat} (h:DeclIn w d an cn sa cs) (i k:Int) (p q:Bool):DeclIn w ⟨i,k,p,[],q,d.body⟩ none 0 sa cs:=⟨zDv w,h.subs,Nat.le_refl _,Nat.zero_le _,h.hs1,h.hs2⟩
theorem zJf (w:World) (i k:Int) (p q:Bool):DeclIn w ⟨i,k,p,[],q,exZ⟩ none 0 none 0:=⟨zDv w,zJe w,Nat.le_refl _,Nat.zero_le _,Nat.le_refl _,Nat.zero_le _⟩
theorem zDw (k:Int) (d:ODecl) (an:Option Addr) (cn:Nat) (sa:Option Addr) (cs:Nat) (w:World) (hd:DeclIn w d an cn sa cs) :
  Calls Tryz.prog 89 #[.int .i64 k,declV d an cn sa cs] w fun e w'=>∃an' cn' sa' cs',e=.returned (declV (partD k d) an' cn' sa' cs')∧DeclIn w' (partD k d) an' cn' sa' cs'∧Bw w w':=by
 have HD:=lH hd;clear hd;have hA:∀o1 o2,Bw w ((w.alloc o1).alloc o2):=fun _ _=>zA (zAa _ _) (zAa _ _);have hp:partD k d=if k=7 then ⟨d.id,0,false,d.names,false,exZ⟩ else if k=8 then ⟨d.id,0,false,[],false,d.body⟩ else if k=9 then ⟨d.id,d.kind,d.pub,[],d.doubt,exZ⟩ else d:=rfl
 by_cases h7:k=7
 ·have q7:(k==7)=true:=beq_iff_eq.2 h7
  rw [if_pos h7] at hp;have HP:=lH hp;clear hp h7;unfold declV
  go_enter Tryz.func89,Tryz.ntmps89
  go_wp2;go_returns;exact ⟨an,cn,none,0,by rw [HP.o];rfl,by rw [HP.o];exact (HD.o.below (hA _ _)).onlyNames _ _ _ _,hA _ _⟩
 have q7:(k==7)=false:=beq_eq_false_iff_ne.2 h7;rw [if_neg h7] at hp;clear h7
 by_cases h8:k=8
 ·have q8:(k==8)=true:=beq_iff_eq.2 h8
  rw [if_pos h8] at hp;have HP:=lH hp;clear hp h8;unfold declV
  go_enter Tryz.func89,Tryz.ntmps89
  go_wp2;go_returns;exact ⟨none,0,sa,cs,by rw [HP.o];rfl,by rw [HP.o];exact (HD.o.below (hA _ _)).onlyBody _ _ _ _,hA _ _⟩
 have q8:(k==8)=false:=beq_eq_false_iff_ne.2 h8;rw [if_neg h8] at hp;clear h8
 by_cases h9:k=9
 ·have q9:(k==9)=true:=beq_iff_eq.2 h9
  rw [if_pos h9] at hp;have HP:=lH hp;clear hp h9;unfold declV
  go_enter Tryz.func89,Tryz.ntmps89
  go_wp2;go_returns;exact ⟨none,0,none,0,by rw [HP.o];rfl,by rw [HP.o];exact zJf _ _ _ _ _,hA _ _⟩
 ·have q9:(k==9)=false:=beq_eq_false_iff_ne.2 h9
  rw [if_neg h9] at hp;have HP:=lH hp;clear hp h9;unfold declV
  go_enter Tryz.func89,Tryz.ntmps89
  go_wp2;go_returns;exact ⟨an,cn,sa,cs,by rw [HP.o],by rw [HP.o];exact HD.o.below (hA _ _),hA _ _⟩
def nilX:Ex:=.mk 11 ⟨#[]⟩ ⟨#[]⟩ 0 0 []
def aName:ByteArray:=⟨#[97]⟩
def compD (k:Int) (d:ODecl):ODecl:=⟨d.id,if 7≤k∧k≠9 then 1 else d.kind,d.pub,if 7≤k∧k≠7 then [aName] else d.names,d.doubt,if 7≤k∧k≠8 then nilX else d.body⟩
theorem zVd {k:Int} (h:k<7) (d:ODecl):compD k d=d:=by
 unfold compD;rw [if_neg (by omega),if_neg (by omega),if_neg (by omega)]
theorem zTl (w:World) (B:Nat) (h:w.heap[B]?=some (.cells #[.string aName] 9 (0,0))):Reads w [] (strsT [aName]) (.slice (some ⟨B,0,none⟩) 1 1):=by
 refine zAg.2 ⟨⟨rfl,_,1,rfl,Nat.le_refl _,by unfold maxLen;omega,fun _=>⟨B,0,rfl,(Array.getElem?_eq_some_iff.1 h).1,fun j u hj=>?_⟩⟩,fun _ b _=>by simp⟩
 cases j with
 | zero=>simp at hj;subst hj;simp [World.cell?,h]
 | succ j=>simp at hj
end Go.Proofs.YtfkjfdbjhlmjcaaGreatDoor
