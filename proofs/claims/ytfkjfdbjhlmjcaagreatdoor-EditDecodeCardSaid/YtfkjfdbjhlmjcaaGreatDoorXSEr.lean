/- edit.Invert. -/
import Derived.Test.YtfkjfdbjhlmjcaaGreatDoorXT8
namespace Go.Proofs.YtfkjfdbjhlmjcaaGreatDoor
open Go.RowKit Go.Shelf
attribute [local go_sem] Oper.semAt_some
theorem zHf:(Tryz.prog.info? 39).map (fun i=>(i.zero.map (fun z=>z.cells.size),i.size,i.bytes))=some (some 5,5,88):=by kernel_rfl
end Go.Proofs.YtfkjfdbjhlmjcaaGreatDoor
namespace Go.Proofs.YtfkjfdbjhlmjcaaGreatDoor
open Go.RowKit
theorem zIq:∀{l:List Int},firstNZ l=0↔∀x∈l,x=0
 | []=>by simp [firstNZ]
 | a::r=>by
  rw [firstNZ];split
  ·rename_i h;rw [zIq];simp [h]
  ·rename_i h;simp [h]
theorem zGo {f:Nat→Int} {n:Nat}:nzFrom f n 0=0↔∀k,k<n→f k=0:=by
 unfold nzFrom;rw [List.drop_zero,zIq];simp
theorem zIr {l:List OMod}:testErr l=0↔∀m∈l,modErr m=0:=by
 unfold testErr;rw [zGo]
 constructor
 ·intro h m hm
  obtain ⟨k,hk,rfl⟩:=List.mem_iff_getElem.1 hm;have:=h k hk;rwa [zF (List.getElem?_eq_getElem hk)] at this
 ·intro h k hk
  rw [zF (List.getElem?_eq_getElem hk)];exact h _ (List.getElem_mem hk)
theorem zIs {e:OEdit}:editErr e=0↔(1≤e.kind∧e.kind≤9)∧fitsB e=true∧∀m∈testsOf e,modErr m=0:=by
 unfold editErr;split
 ·rename_i h
  split
  ·rename_i h2;rw [zIr];simp [h,h2]
  ·rename_i h2;simp [h2]
 ·rename_i h;simp;intro h1 h2;exact absurd ⟨h1,h2⟩ h
end Go.Proofs.YtfkjfdbjhlmjcaaGreatDoor
