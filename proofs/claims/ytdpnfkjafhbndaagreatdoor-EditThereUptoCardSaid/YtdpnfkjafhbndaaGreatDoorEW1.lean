/- Plain: what the search for needed edits meets. The reference's check of chapter 35. The reference's needed of chapter 35. The reference's Needs; Pick both. The chapter's example, reckoned; SameInts; the example's closures. The chapter's example holds. Pick, both. Plain: what is dropped; the reference's Drop. commute.Drop. -/
import Derived.Test.YtdpnfkjafhbndaaGreatDoorET8
import Derived.Test.YtdpnfkjafhbndaaGreatDoorEV1
import Derived.Test.YtdpnfkjafhbndaaGreatDoorESEr
namespace Go.Proofs.YtdpnfkjafhbndaaGreatDoor
open Go.RowKit
end Go.Proofs.YtdpnfkjafhbndaaGreatDoor
namespace Go.Proofs.YtdpnfkjafhbndaaGreatDoor
open Go.RowKit Go.Shelf
attribute [local go_sem] Oper.semAt_some
end Go.Proofs.YtdpnfkjafhbndaaGreatDoor
namespace Go.Proofs.YtdpnfkjafhbndaaGreatDoor
open Go.RowKit Go.Shelf
attribute [local go_sem] Oper.semAt_some
end Go.Proofs.YtdpnfkjafhbndaaGreatDoor
namespace Go.Proofs.YtdpnfkjafhbndaaGreatDoor
open Go.RowKit Go.Shelf
attribute [local go_sem] Oper.semAt_some
end Go.Proofs.YtdpnfkjafhbndaaGreatDoor
namespace Go.Proofs.YtdpnfkjafhbndaaGreatDoor
open Go.RowKit Go.Shelf
attribute [local go_sem] Oper.semAt_some
def fName:ByteArray:=⟨#[102]⟩
def gName:ByteArray:=⟨#[103]⟩
theorem smX_leaf (k n:Int) (hk:inI k) (hn:inI n):SmX 40000 (.mk k ⟨#[]⟩ ⟨#[]⟩ n 0 []):=.mk (by decide) (by decide) hk hn ⟨by decide,by decide⟩ (fun y hy => by cases hy)
end Go.Proofs.YtdpnfkjafhbndaaGreatDoor
namespace Go.Proofs.YtdpnfkjafhbndaaGreatDoor
open Go.RowKit Go.Shelf
attribute [local go_sem] Oper.semAt_some
theorem own_many (w:World) (B:Nat) (hB:B≤w.heap.size) (t:TypeId) (xs:Array Value) (sz n:Nat) (h:xs.size = n * sz) (hn:n≤1000000):(w.alloc (.cells xs t)).ownsRow B t sz (.slice (some ⟨w.heap.size,0,none⟩) n n) n xs.toList:=
 ⟨by rw [Array.length_toList];exact h,.inr ⟨w.heap.size,n,_,rfl,hB,World.alloc_heap_new _ _,Nat.le_refl _,by unfold maxLen;omega,h,by rw [← h,← Array.length_toList,List.take_length]⟩⟩
end Go.Proofs.YtdpnfkjafhbndaaGreatDoor
namespace Go.Proofs.YtdpnfkjafhbndaaGreatDoor
open Go.RowKit Go.Shelf
attribute [local go_sem] Oper.semAt_some
def OwnE (w0 w:World) (B:Nat) (v:Value) (l:List OEdit):Prop:=∃ xs,w.ownsRow B 35 5 v l.length xs∧ReadsL w0 [] (l.flatMap editT) xs
theorem OwnE.nil (w0 w:World) (B:Nat):OwnE w0 w B (.slice none 0 0) []:=⟨[],World.ownsRow_nil _ _ _ _,ReadsL.nil _ _⟩
theorem OwnE.val {w0 w:World} {B:Nat} {v:Value} {l:List OEdit} (h:OwnE w0 w B v l):∃ a c,v = .slice a l.length c:=by
 obtain ⟨xs,h1,_⟩:=h;exact owns_val h1
theorem OwnE.snoc {w0 w':World} {B:Nat} {v':Value} {l:List OEdit} {e:OEdit} {xs:List Value} {ao:Option Addr} {co:Nat} {af:Option Addr} {cf:Nat} (hx:ReadsL w0 [] (l.flatMap editT) xs) (he:EditIn w0 e ao co af cf) (h:w'.ownsRow B 35 5 v' (l.length + 1) (xs ++ [.int .i64 e.kind,.string e.pack,.string e.text,.slice ao e.old.length co,.slice af e.fresh.length cf])):OwnE w0 w' B v' (l ++ [e]):=by
 refine ⟨_,by rw [List.length_append];exact h,?_⟩;rw [List.flatMap_append,List.flatMap_cons,List.flatMap_nil,List.append_nil];exact ReadsL.append (ReadsL.cons (Reads.leaf' _ _ _) (ReadsL.cons (Reads.leaf' _ _ _) (ReadsL.cons (Reads.leaf' _ _ _) (ReadsL.cons he.old (ReadsL.cons he.fresh (ReadsL.nil _ _)))))) hx
end Go.Proofs.YtdpnfkjafhbndaaGreatDoor
namespace Go.Proofs.YtdpnfkjafhbndaaGreatDoor
open Go.RowKit Go.Shelf
attribute [local go_sem] Oper.semAt_some
end Go.Proofs.YtdpnfkjafhbndaaGreatDoor
namespace Go.Proofs.YtdpnfkjafhbndaaGreatDoor
open Go.RowKit Go.Shelf
attribute [local go_sem] Oper.semAt_some
end Go.Proofs.YtdpnfkjafhbndaaGreatDoor

