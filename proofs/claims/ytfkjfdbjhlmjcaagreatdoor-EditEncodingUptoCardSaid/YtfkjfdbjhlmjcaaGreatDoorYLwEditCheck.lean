/- The law EditCheck. -/
import Derived.Test.YtfkjfdbjhlmjcaaGreatDoorYDEX
import Derived.Test.YtfkjfdbjhlmjcaaGreatDoorYKI
namespace Go.Proofs.YtfkjfdbjhlmjcaaGreatDoor
open Go.RowKit Go.Shelf
attribute [local go_sem] Oper.semAt_some
theorem zUg (W:World) (e:OEdit) (ao:Option Addr) (co:Nat) (af:Option Addr) (cf:Nat) (he:EditIn W e ao co af cf) :
  Reads (W.alloc (.cells #[.int .i64 e.kind,.string e.pack,.string e.text,.slice ao e.old.length co,.slice af e.fresh.length cf] 39)) [] (editsT [e]) (.slice (some ⟨W.heap.size,0,none⟩) 1 1):=by
 refine Reads.ofRow (l:=[e]) (zAm (zGi W W.heap.size (Nat.le_refl _) 39 _ 5 1 rfl (by omega))) (fun _ b _=>by simp) ?_;have h1:=he.below (zAa W (.cells #[.int .i64 e.kind,.string e.pack,.string e.text,.slice ao e.old.length co,.slice af e.fresh.length cf] 39));rw [List.flatMap_cons,List.flatMap_nil,List.append_nil];exact ReadsL.cons (Reads.leaf' _ _ _) (ReadsL.cons (Reads.leaf' _ _ _) (ReadsL.cons (Reads.leaf' _ _ _) (ReadsL.cons h1.old (ReadsL.cons h1.fresh (ReadsL.nil _ _)))))
section
variable {o:Oper} {fa:Act} {w:World} {K:Act→World→Prop} {Q:Exit→Act→World→Prop}
end
end Go.Proofs.YtfkjfdbjhlmjcaaGreatDoor
