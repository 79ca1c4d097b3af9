/- From a law's contract to what its row asks of the world behind the call: -/
import Derived.Test.YtfkjfdbjhlmjcaaGreatDoorCards
import Derived.Test.YtfkjfdbjhlmjcaaGreatDoorTie
import Derived.Test.YtfkjfdbjhlmjcaaGreatDoorXG1
import Derived.ProofKit
import Derived.Lay
namespace Go.Proofs.YtfkjfdbjhlmjcaaGreatDoor
open Go.RowKit Go.ChangeShapes Go.WideShapes Go.ChangeAt
theorem yFi:ownKnob Tryz.prog.godebug=none:=by kernel_rfl
theorem yAq:laidOutB Tryz.prog=true:=by kernel_rfl
theorem zM {H:Type} {enc:TypeId×Value→H} {W W':World} (hb:Bw W W') :
  ∀{ts:List TypeId} {vs:List Value} {ds:List (DataW H)} {p:List MemPlace},(∀t∈ts,Tryz.prog.readableRec t=true∧t<Tryz.prog.types.size) →
   DataW.TrodAll enc Tryz.prog W 0 (fun _=>true) true ts vs ds p→(∀x∈p,x.block<W.heap.size) →
   DataW.TrodAll enc Tryz.prog W' 0 (fun b=>decide (b<W.heap.size)) true ts vs ds p
 | [],[],[],_,_,h,_=>h
 | t::ts,v::vs,d::ds,_,ht,⟨p,q,h1,h2,e⟩,hlt=>by
  refine ⟨p,q,Below.trod yAq (ht t (List.mem_cons_self ..)).1 (ht t (List.mem_cons_self ..)).2 h1 hb (fun x hx=>hlt x (by rw [e];exact List.mem_append_left _ hx)),?_,e⟩;exact zM hb (fun t' h'=>ht t' (List.mem_cons_of_mem _ h')) h2 (fun x hx=>hlt x (by rw [e];exact List.mem_append_right _ hx))
theorem yAr {H:Type} {enc:TypeId×Value→H} {f:Func} {s:ChangeSpec} {W W':World} {args:Array Value} {ds gs:List (DataW H)} {before:List MemPlace}
    (hvars:s.vars=[]) (hres:f.resultTypes=#[4]) (hts:∀t∈f.params.toList,Tryz.prog.readableRec t=true∧t<Tryz.prog.types.size)
    (hW:DataW.Whole enc Tryz.prog f.params.toList s.vars false W args.toList ds gs before)
    (hfn:gs=[]→s.fn H (ds++gs)={ results:=[.lit (.bool true)],args:=ds }) (hb:Below W.heap.size W W') :
    s.post enc Tryz.prog f false true false false W args (.bool true) W':=by
  have hlt:=hW.lt
  have hW':=hW
  obtain ⟨p,q,hA,hV,e,_,_⟩:=hW
  rw [hvars] at hV
  obtain ⟨hg,hq⟩:gs=[]∧q=[]:=by
    cases gs with
    | nil=>exact ⟨rfl,hV⟩
    | cons a b=>exact hV.elim
  have hf:=hfn hg
  refine ⟨ds,gs,before,[],p,[],hW',?_,?_,?_,hb.frame _,fun h=>by cases h⟩
  · rw [hf,hres]
    exact trodAll_mk1 (shut_bool Tryz.underlying4 _)
  · rw [hf]
    exact zM hb hts hA (fun x hx=>hlt x (by rw [e];exact List.mem_append_left _ hx))
  · rw [hf,hvars]
    rfl
end Go.Proofs.YtfkjfdbjhlmjcaaGreatDoor
