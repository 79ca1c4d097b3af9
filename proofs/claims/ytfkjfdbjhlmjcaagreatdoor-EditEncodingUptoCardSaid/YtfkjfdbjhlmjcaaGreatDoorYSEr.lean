/- edit.Invert. -/
import Derived.Test.YtfkjfdbjhlmjcaaGreatDoorYT8
namespace Go.Proofs.YtfkjfdbjhlmjcaaGreatDoor
open Go.RowKit Go.Shelf
attribute [local go_sem] Oper.semAt_some
theorem zGa:(Tryz.prog.info? 39).map (fun i=>(i.zero.map (fun z=>z.cells.size),i.size,i.bytes))=some (some 5,5,88):=by kernel_rfl
end Go.Proofs.YtfkjfdbjhlmjcaaGreatDoor
namespace Go.Proofs.YtfkjfdbjhlmjcaaGreatDoor
open Go.RowKit
theorem zHo:∀{l:List Int},firstNZ l=0↔∀x∈l,x=0
 | []=>by simp [firstNZ]
 | a::r=>by
  rw [firstNZ];split
  ·rename_i h;rw [zHo];simp [h]
  ·rename_i h;simp [h]
theorem zFq {f:Nat→Int} {n:Nat}:nzFrom f n 0=0↔∀k,k<n→f k=0:=by
 unfold nzFrom;rw [List.drop_zero,zHo];simp
theorem zHp {l:List OMod}:testErr l=0↔∀m∈l,modErr m=0:=by
 unfold testErr;rw [zFq]
 constructor
 ·intro h m hm
  obtain ⟨k,hk,rfl⟩:=List.mem_iff_getElem.1 hm;have:=h k hk;rwa [zEi (List.getElem?_eq_getElem hk)] at this
 ·intro h k hk
  rw [zEi (List.getElem?_eq_getElem hk)];exact h _ (List.getElem_mem hk)
theorem zHq {e:OEdit}:editErr e=0↔(1≤e.kind∧e.kind≤9)∧fitsB e=true∧∀m∈testsOf e,modErr m=0:=by
 unfold editErr;split
 ·rename_i h
  split
  ·rename_i h2;rw [zHp];simp [h,h2]
  ·rename_i h2;simp [h2]
 ·rename_i h;simp;intro h1 h2;exact absurd ⟨h1,h2⟩ h
theorem zVn {x:Ex}:∀(_:SmX 9223372036854775807 x) (_:anyX longP x=false),SmX 40000 x:=by
 refine Ex.ind (P:=fun x=>∀(_:SmX 9223372036854775807 x) (_:anyX longP x=false),SmX 40000 x) (fun x ih h hl=>?_) x;have hs:=h.subs
 cases x with
 | mk k n m i d s=>
  rw [zMn] at hl;simp only [Bool.or_eq_false_iff] at hl
  obtain ⟨h1,h2⟩:=hl;unfold longP at h1;simp only [Bool.or_eq_false_iff,decide_eq_false_iff_not] at h1
  refine .mk (by have:=h1.1;simp only [Ex.name] at this;omega) (by have:=h1.2;simp only [Ex.more] at this;omega) h.kind h.num h.den (fun y hy=>ih y hy (hs y hy) ?_);rw [List.any_eq_false] at h2
  simpa using h2 y hy
structure BigE (e:OEdit):Prop where
 pack:e.pack.size≤4000000
 text:e.text.size≤4000000
 old:∀d∈e.old,BigD d
 fresh:∀d∈e.fresh,BigD d
theorem yDa {d:ODecl} (h:BigD d) (g:greatD d=false):SmD d∧nodesN d.body≤1000000:=by
 unfold greatD greatX at g;simp only [Bool.or_eq_false_iff,decide_eq_false_iff_not,List.any_eq_false,decide_eq_true_eq] at g
 obtain ⟨⟨g1,g2,g3⟩,g4⟩:=g;exact ⟨⟨fun s hs=>by have:=g4 s hs;omega,by omega,zVn h.body g3,by omega⟩,by omega⟩
theorem zVo {l:List ODecl} (h:∀d∈l,BigD d) (g:greatDs l=false):(∀d∈l,SmD d∧nodesN d.body≤1000000)∧l.length≤1000000:=by
 unfold greatDs at g;split at g
 ·cases g
 ·rename_i h8
  rw [List.any_eq_false] at g;exact ⟨fun d hd=>yDa (h d hd) (by simpa using g d hd),by omega⟩
theorem yDb {e:OEdit} (h:BigE e) (g:greatE e=false):SmE e:=by
 unfold greatE at g;simp only [Bool.or_eq_false_iff,decide_eq_false_iff_not] at g
 obtain ⟨⟨⟨g1,g2⟩,g3⟩,g4⟩:=g;obtain ⟨o1,o2⟩:=zVo h.old g3;obtain ⟨f1,f2⟩:=zVo h.fresh g4;exact ⟨by omega,by omega,o1,f1,o2,f2⟩
end Go.Proofs.YtfkjfdbjhlmjcaaGreatDoor
