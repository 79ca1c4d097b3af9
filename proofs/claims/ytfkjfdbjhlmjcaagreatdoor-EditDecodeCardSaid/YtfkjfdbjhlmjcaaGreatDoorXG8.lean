/- A region that draws its order, where up to three effects may come next: -/
import Derived.Test.YtfkjfdbjhlmjcaaGreatDoorXGC
set_option maxHeartbeats 16000000
namespace Go.Proofs.YtfkjfdbjhlmjcaaGreatDoor
open Go.RowKit
section
variable {P:Program} {ops:Array Oper} {Q:Exit→Act→World→Prop} {S:World→Prop}
end
end Go.Proofs.YtfkjfdbjhlmjcaaGreatDoor
namespace Go.Proofs.YtfkjfdbjhlmjcaaGreatDoor
section
open Go.RowKit Go.Maps
variable {P:Program} {ops:Array Oper} {Q:Exit→Act→World→Prop}
def dstR (ops:Array Oper) (i:Nat):Option Tmp:=(ops[i]?).bind (·.dst)
def fullR (ops:Array Oper) (a0:Act) (vals:Nat→Value):Nat→Act
  | 0=>a0
  | n+1=>(fullR ops a0 vals n).put (dstR ops n) (vals n)
def needsR (o:Oper):List Nat:=(o.after.toList.filter fun e=>Region.binds .any e).map (·.on)
def oneRB (ops:Array Oper) (n i:Nat) (o:Oper):Bool:=
 ((List.range i).all fun j=>o.dst==none || dstR ops j != o.dst) && ((needsR o).all fun j=>decide (j<i)) &&
  (o.looksAt ops).all fun t=>(List.range n).all fun j=>dstR ops j != some t || (needsR o).contains j
def relB (ops:Array Oper) (n:Nat):Bool:=
 Region.noSelect ops && decide (n<ops.size) && Region.sinkB .any ops n && Region.chainB .any ops n &&
  ((List.range n).all fun i=>match ops[i]? with|some o=>oneRB ops n i o|none=>false) &&
  Region.seqB .any ops (ops.size - n) n ((Array.replicate n true)++Array.replicate (ops.size - n) false)
theorem zIo (a0:Act) (vals:Nat→Value):∀n,(fullR ops a0 vals n).defers=a0.defers
 | 0=>rfl
 | n+1=>by
  have ih:=zIo a0 vals n;rw [fullR]
  cases dstR ops n<;>exact ih
theorem zFy (a0:Act) (vals:Nat→Value):∀n,(fullR ops a0 vals n).tmps.size=a0.tmps.size
 | 0=>rfl
 | n+1=>by
  have ih:=zFy a0 vals n;rw [fullR]
  cases dstR ops n<;>simp [Act.put,ih]
theorem zIa (a0:Act) (vals:Nat→Value) (t:Nat):∀n,(∀i,i<n→dstR ops i≠some t)→(fullR ops a0 vals n).tmps[t]?=a0.tmps[t]?
 | 0,_=>rfl
 | n+1,h=>by
  have ih:=zIa a0 vals t n (fun i hi=>h i (by omega));have hn:=h n (by omega);rw [fullR]
  cases hd:dstR ops n with
  | none=>exact ih
  | some d=>
   rw [hd] at hn;rw [←ih];exact Array.getElem?_setIfInBounds_ne (fun e=>hn (by rw [e]))
theorem zIb (a0:Act) (vals:Nat→Value) (t i:Nat) (ht:t<a0.tmps.size) (hi:dstR ops i=some t):∀n,i<n→(∀j,j<n→dstR ops j=some t→j=i)→(fullR ops a0 vals n).tmps[t]?=some (vals i)
 | 0,h,_=>absurd h (Nat.not_lt_zero _)
 | n+1,h,hu=>by
  rw [fullR]
  by_cases hin:i=n
  ·subst hin
   rw [hi];have hs:t<(fullR ops a0 vals i).tmps.size:=by rw [zFy];exact ht
   simp [Act.put,hs]
  ·have ih:=zIb a0 vals t i ht hi n (by omega) (fun j hj=>hu j (by omega))
   cases hd:dstR ops n with
   | none=>exact ih
   | some d=>
    rw [←ih];refine Array.getElem?_setIfInBounds_ne (fun e=>?_);subst e;have:=hu n (by omega) hd;omega
theorem yBj {o:Oper} {a fa:Act} {w:World} {K K':Act→World→Prop} (he:execOp a.eval o=execOp fa.eval o) (h:Oper.wp P o fa w K Q) (hK:∀v w',K (fa.put o.dst v) w'→K' (a.put o.dst v) w')
  (hD:∀(d:Deferred) w',¬K (({ fa with defers:=d::fa.defers }:Act).put o.dst undef) w') (hQ:∀c a w,¬Q (.panic c) a w):Oper.wp P o a w K' Q:=by
 unfold Oper.wp at *;rw [he];generalize (execOp fa.eval o).run P w=r at *
 cases r with
 | ok n w'=>
  cases n<;>simp only [Oper.upon] at h ⊢
  case value v=>exact hK _ _ h
  case skip=>exact hK _ _ h
  case defer d=>exact absurd h (hD _ _)
  case enter f args=>
   refine Calls.mono h fun e w'' he=>?_
   cases e with
   | returned v=>exact hK _ _ he
   | panicked c=>exact absurd he (hQ _ _ _)
   | outgrown=>exact he
  case row row args=>exact Rows.mono h fun v w'' he=>hK _ _ he
 | halt x w'=>
  cases x<;>simp only [Oper.upon] at h ⊢
  case panic v=>exact absurd h (hQ _ _ _)
theorem zGl (a:Act) (t:Option Tmp) (v:Value):(a.put t v).defers=a.defers:=by cases t<;>rfl
theorem yDs {a:Act} {t:Nat} {v u:Value} (ht:t<a.tmps.size) (h:a.put (some t) v=a.put (some t) u):v=u:=by
 have:=congrArg (fun b:Act=>b.tmps[t]?) h
 simpa [Act.put,ht] using this
structure InvR (ops:Array Oper) (n:Nat) (I:(Nat→Bool)→(Nat→Value)→World→Prop) (a0:Act) (w0:World) (listed:Array Bool) (vals:Nat→Value) (a:Act) (w:World):Prop where
  low:Below w0.heap.size w0 w
  defers:a.defers=a0.defers
  size:a.tmps.size=a0.tmps.size
  done:∀i t,i<n→listed.getD i true=true→dstR ops i=some t→a.tmps[t]?=some (vals i)
  rest:∀t,(∀i,i<n→listed.getD i true=true→dstR ops i≠some t)→a.tmps[t]?=a0.tmps[t]?
  rel:I (fun i=>listed.getD i true) vals w
def StepI (P:Program) (ops:Array Oper) (Q:Exit→Act→World→Prop) (n:Nat) (I:(Nat→Bool)→(Nat→Value)→World→Prop) (a0:Act) (w0:World) (i:Nat) (o:Oper):Prop:=
  ∀(l:Nat→Bool) vals w,Below w0.heap.size w0 w→l i=false→(∀j,j∈needsR o→l j=true)→I l vals w →
    (Region.wanted o (yielded ops (fullR ops a0 vals n).tmps)=true∧∀K:Act→World→Prop,Shut (∀v w',Below w0.heap.size w0 w'→I (fun j=>if j=i then true else l j) (fun j=>if j=i then v else vals j) w'→K ((fullR ops a0 vals n).put o.dst v) w')→Oper.wp P o (fullR ops a0 vals n) w K Q) ∨
    (Region.wanted o (yielded ops (fullR ops a0 vals n).tmps)=false∧I (fun j=>if j=i then true else l j) (fun j=>if j=i then undef else vals j) w)
def leftR (n:Nat) (listed:Array Bool):Nat:=((List.range n).filter fun i=>!listed.getD i true).length
theorem zKf {p q:Nat→Bool} {i:Nat} (hp:p i=true) (hq:q i=false) (h:∀j,j≠i→q j=p j):∀l:List Nat,l.Nodup→i∈l→(l.filter q).length+1=(l.filter p).length
 | [],_,hi=>by cases hi
 | x::l,hn,hi=>by
  rw [List.nodup_cons] at hn
  by_cases hx:x=i
  ·subst hx
   have e:l.filter q=l.filter p:=List.filter_congr (fun j hj=>h j (fun e=>hn.1 (e▸hj)));simp [hp,hq,e]
  ·have hil:i∈l:=by
    rcases List.mem_cons.1 hi with e|e
    ·exact absurd e.symm hx
    ·exact e
   have ih:=zKf hp hq h l hn.2 hil;simp only [List.filter_cons,h x hx]
   split
   ·rw [List.length_cons,List.length_cons,ih]
   ·exact ih
theorem zYe {n i:Nat} {listed:Array Bool} (hi:i<n) (h:listed.getD i true=false):leftR n (listed.setIfInBounds i true)+1=leftR n listed:=by
 unfold leftR;refine zKf (i:=i) ?_ ?_ (fun j hj=>?_) _ List.nodup_range (List.mem_range.2 hi)
 ·simp [h]
 ·have hlt:i<listed.size:=by
   rcases Nat.lt_or_ge i listed.size with h'|h'
   ·exact h'
   ·simp [h'] at h
  simp [hlt]
 ·rw [getD_set_ne true (fun e=>hj e.symm)]
theorem zVw {n:Nat} {listed:Array Bool} (h:leftR n listed=0):∀i,i<n→listed.getD i true=true:=by
 intro i hi;unfold leftR at h;rw [List.length_eq_zero_iff,List.filter_eq_nil_iff] at h
 simpa using h i (List.mem_range.2 hi)
theorem zTv {n:Nat} {I:(Nat→Bool)→(Nat→Value)→World→Prop} {a0 a:Act} {w0 w:World} {listed:Array Bool} {vals:Nat→Value} (inv:InvR ops n I a0 w0 listed vals a w)
  (hd:∀i j t,i<n→j<n→dstR ops i=some t→dstR ops j=some t→i=j) (hb:∀i t,i<n→dstR ops i=some t→t<a0.tmps.size) {t:Nat} (ht:∀i,i<n→dstR ops i=some t→listed.getD i true=true) :
  a.tmps[t]?=(fullR ops a0 vals n).tmps[t]?:=by
 by_cases h:∃i,i<n∧dstR ops i=some t
 ·obtain ⟨i,hi,hit⟩:=h
  rw [inv.done i t hi (ht i hi hit) hit,zIb a0 vals t i (hb i t hi hit) hit n hi (fun j hj hjt=>hd j i t hj hi hjt hit)]
 ·have hno:∀i,i<n→dstR ops i≠some t:=fun i hi e=>h ⟨i,hi,e⟩
  rw [inv.rest t (fun i hi _=>hno i hi),zIa a0 vals t n hno]
theorem zYf {n:Nat} {I:(Nat→Bool)→(Nat→Value)→World→Prop} {a0 a:Act} {w0 w:World} {listed:Array Bool} {vals:Nat→Value} (inv:InvR ops n I a0 w0 listed vals a w)
  (hd:∀i j t,i<n→j<n→dstR ops i=some t→dstR ops j=some t→i=j) (hb:∀i t,i<n→dstR ops i=some t→t<a0.tmps.size) (hall:∀i,i<n→listed.getD i true=true) :
  a=fullR ops a0 vals n:=by
 have h1:a.defers=(fullR ops a0 vals n).defers:=by rw [inv.defers,zIo]
 have h2:a.tmps=(fullR ops a0 vals n).tmps:=Array.ext_getElem? (fun t=>zTv inv hd hb (fun i hi _=>hall i hi))
 cases a
 generalize fullR ops a0 vals n=b at *
 cases b
 simp at h1 h2
 rw [h1,h2]
theorem zEs {n:Nat} (h:((List.range n).all fun i=>match ops[i]? with|some o=>oneRB ops n i o|none=>false)=true) {i:Nat} {o:Oper} (hi:i<n) (ho:ops[i]?=some o):oneRB ops n i o=true:=by
 have:=List.all_eq_true.1 h i (List.mem_range.2 hi)
 simpa [ho] using this
theorem zCq {n i:Nat} {o:Oper} (h:oneRB ops n i o=true):True∧(∀j,j<i→o.dst≠none→dstR ops j≠o.dst)∧(∀j,j∈needsR o→j<i)∧∀t,t∈o.looksAt ops→∀j,j<n→dstR ops j=some t→j∈needsR o:=by
 unfold oneRB at h;simp only [Bool.and_eq_true,List.all_eq_true,List.mem_range,Bool.or_eq_true,bne_iff_ne,ne_eq,decide_eq_true_eq] at h
 obtain ⟨⟨h2,h3⟩,h4⟩:=h;refine ⟨trivial,fun j hj hne=>?_,h3,fun t ht j hj he=>?_⟩
 ·rcases h2 j hj with e|e
  ·exact absurd (by simpa using e) hne
  ·exact e
 ·rcases h4 t ht j hj with e|e
  ·exact absurd he e
  ·simpa using e
theorem zYg {n i:Nat} {I:(Nat→Bool)→(Nat→Value)→World→Prop} {a0 a:Act} {w0 w:World} {listed:Array Bool} {vals:Nat→Value} {o:Oper} (inv:InvR ops n I a0 w0 listed vals a w) (hs:∀cs b,o.op≠.select cs b)
  (hd:∀i j t,i<n→j<n→dstR ops i=some t→dstR ops j=some t→i=j) (hb:∀i t,i<n→dstR ops i=some t→t<a0.tmps.size)
  (h1:oneRB ops n i o=true) (hl:∀j,j∈needsR o→listed.getD j true=true) :
  execOp a.eval o=execOp (fullR ops a0 vals n).eval o∧Region.wanted o (yielded ops a.tmps)=Region.wanted o (yielded ops (fullR ops a0 vals n).tmps):=by
 obtain ⟨_,_,_,h4⟩:=zCq h1;have key:∀t,t∈o.looksAt ops→a.tmps[t]?=(fullR ops a0 vals n).tmps[t]?:=fun t ht=>zTv inv hd hb (fun j hj he=>hl j (h4 t ht j hj he));refine ⟨execOp_congr o hs (fun x hx=>?_),?_⟩
 ·cases x with
  | tmp t=>
   have:=key t (List.mem_append_left _ (List.mem_filterMap.2 ⟨.tmp t,by simpa using hx,rfl⟩));simp only [Act.eval,Array.getD_eq_getD_getElem?,this]
  | _=>rfl
 ·unfold Region.wanted
  cases hg:o.guard with
  | none=>rfl
  | some gw=>
   obtain ⟨g,want⟩:=gw
   have hy:yielded ops a.tmps g=yielded ops (fullR ops a0 vals n).tmps g:=by
    unfold yielded
    cases ht:(ops[g]?).bind (·.dst) with
    | none=>rfl
    | some t=>
     have:=key t (List.mem_append_right _ (by simp [hg,ht]));simp only [Option.bind_some,this]
   simp only [hy]
theorem zMj {n:Nat} {I:(Nat→Bool)→(Nat→Value)→World→Prop} {a0:Act} {w0:World} {L:Array Bool→Act→World→Prop} (hsel:Region.noSelect ops=true) (hn:n<ops.size) (hs:Region.sinkB .any ops n=true) (hc:Region.chainB .any ops n=true)
  (hone:((List.range n).all fun i=>match ops[i]? with|some o=>oneRB ops n i o|none=>false)=true) (hQ:∀c a w,¬Q (.panic c) a w)
  (hb:∀i t,i<n→dstR ops i=some t→t<a0.tmps.size) (hstep:∀i o,i<n→ops[i]?=some o→StepI P ops Q n I a0 w0 i o)
  (hL:∀listed a w vals,HeadInv .any ops n listed→(∀i,i<n→listed.getD i true=true)→InvR ops n I a0 w0 listed vals a w→L listed a w) :
  ∀(f:Nat) (listed:Array Bool) (a:Act) (w:World) (vals:Nat→Value),HeadInv .any ops n listed→leftR n listed=f→InvR ops n I a0 w0 listed vals a w→wpAnyG P ops Q (fun _=>True) n L f listed a w
 | 0,listed,a,w,vals,hi,hl,inv=>hL listed a w vals hi (zVw hl) inv
 | f+1,listed,a,w,vals,hi,hl,inv=>by
  have hsome:∀i,i<n→∃o,ops[i]?=some o:=fun i h=>⟨_,Array.getElem?_eq_getElem (by omega)⟩
  have hd:∀i j t,i<n→j<n→dstR ops i=some t→dstR ops j=some t→i=j:=by
   have key:∀i j t,i<n→j<n→dstR ops i=some t→dstR ops j=some t→¬i<j:=fun i j t hi hj h1 h2 hij=>by
    obtain ⟨o,ho⟩:=hsome j hj;have:=(zCq (zEs hone hj ho)).2.1 i hij (by rw [show dstR ops j=o.dst by simp [dstR,ho]] at h2;rw [h2];simp);apply this
    rw [h1,←h2];simp [dstR,ho]
   intro i j t h1 h2 h3 h4;have k1:=key i j t h1 h2 h3 h4;have k2:=key j i t h2 h1 h4 h3;omega
  -- one of the head is left
  obtain ⟨u,hun,huf⟩:∃u,u<n∧listed.getD u true=false:=by
   refine Classical.byContradiction fun h=>?_
   have hall:∀i,i<n→listed.getD i true=true:=fun i hi'=>by
    cases hv:listed.getD i true with
    | true=>rfl
    | false=>exact absurd ⟨i,hi',hv⟩ h
   have:leftR n listed=0:=by
    unfold leftR;rw [List.length_eq_zero_iff,List.filter_eq_nil_iff];intro i hi';rw [hall i (List.mem_range.1 hi')];simp
   omega
  have hlow:∀d u,u=d→u<n→listed.getD u true=false→∃r,r∈Region.ready .any ops listed:=by
   intro d
   induction d using Nat.strongRecOn with
   | _ d ih=>
    intro u hd' hun huf;obtain ⟨o,ho⟩:=hsome u hun
    by_cases hal:∀e∈o.after,Region.binds .any e=true→listed.getD e.on false=true
    ·exact ⟨u,mem_ready.2 ⟨huf,o,ho,hal⟩⟩
    ·have:∃e,e∈o.after∧Region.binds .any e=true∧listed.getD e.on false≠true:=Classical.byContradiction fun h=>hal fun e he hb'=>Classical.byContradiction fun h'=>h ⟨e,he,hb',h'⟩
     obtain ⟨e,he,hbe,hne⟩:=this;have hlt:=(zCq (zEs hone hun ho)).2.2.1 e.on (List.mem_map.2 ⟨e,List.mem_filter.2 ⟨by simpa using he,hbe⟩,rfl⟩);have hsz:e.on<listed.size:=by rw [hi.size];omega
     have hf2:listed.getD e.on true=false:=by
      simp [hsz] at hne ⊢
      exact hne
     exact ih e.on (by omega) e.on rfl (by omega) hf2
  refine ⟨fun h0=>?_,fun i hir=>?_⟩
  ·obtain ⟨r,hr⟩:=hlow u u rfl hun huf
   rw [h0] at hr
   cases hr
  ·have hin:i<n:=by
    rcases Nat.lt_or_ge i n with h|h
    ·exact h
    ·exact absurd hir (tail_waits hs hc hn hi _ u rfl hun huf i h)
   refine ⟨hin,?_⟩;obtain ⟨hiun,o,ho,hall⟩:=mem_ready.1 hir;have h1:=zEs hone hin ho;obtain ⟨_,hne,hlt,_⟩:=zCq h1;have hdd:dstR ops i=o.dst:=by simp [dstR,ho]
   have hneed:∀j,j∈needsR o→listed.getD j true=true:=fun j hj=>by
    obtain ⟨e,he,rfl⟩:=List.mem_map.1 hj;obtain ⟨he1,he2⟩:=List.mem_filter.1 he;have h2:=hall e (by simpa using he1) he2
    cases h3:listed.getD e.on true with
    | true=>rfl
    | false=>rw [getD_both h3] at h2;cases h2
   obtain ⟨hex,hwa⟩:=zYg inv (fun cs b=>Region.noSelect_spec hsel i o cs b ho) hd hb h1 hneed;have hst:=hstep i o hin ho (fun j=>listed.getD j true) vals w inv.low hiun hneed inv.rel
   have hlf:(fun j=>(listed.setIfInBounds i true).getD j true)=fun j=>if j=i then true else listed.getD j true:=by
    funext j
    by_cases hji:j=i
    ·subst hji
     have hsz:j<listed.size:=by rw [hi.size];omega
     simp [hsz]
    ·rw [if_neg hji,getD_set_ne true (fun e=>hji e.symm)]
   have hnext:∀v w',Bw w0 w'→I (fun j=>if j=i then true else listed.getD j true) (fun j=>if j=i then v else vals j) w'→True∧wpAnyG P ops Q (fun _=>True) n L f (listed.setIfInBounds i true) (a.put o.dst v) w':=fun v w' hbw hrv=>by
    refine ⟨trivial,zMj hsel hn hs hc hone hQ hb hstep hL f _ _ w' (fun j=>if j=i then v else vals j) (hi.set hir hin) (by have:=zYe hin hiun;omega) ?_⟩;refine ⟨hbw,by rw [zGl,inv.defers],?_,fun j s hj hlj hjs=>?_,fun s hs'=>?_,by rw [hlf];exact hrv⟩
    ·cases o.dst<;>simp [Act.put,inv.size]
    ·by_cases hji:j=i
     ·subst hji
      rw [if_pos rfl];rw [hdd] at hjs;have hti:=hb j s hj (hdd.trans hjs);rw [hjs];have hsz:s<a.tmps.size:=by rw [inv.size];exact hti
      simp [Act.put,hsz]
     ·rw [if_neg hji]
      rw [getD_set_ne true (fun e=>hji e.symm)] at hlj;rw [←inv.done j s hj hlj hjs]
      cases hdst:o.dst with
      | none=>rfl
      | some t=>
       refine Array.getElem?_setIfInBounds_ne (fun e=>hji ?_);subst e;exact hd j i t hj hin hjs (hdd.trans hdst)
    ·have hst:o.dst≠some s:=fun e=>hs' i hin (by
      have hsz:i<listed.size:=by rw [hi.size];omega
      simp [hsz]) (by rw [hdd,e])
     have hrest:∀j,j<n→listed.getD j true=true→dstR ops j≠some s:=fun j hj hlj=>by
      by_cases hji:j=i
      ·subst hji;rw [hiun] at hlj;cases hlj
      ·exact hs' j hj (by rw [getD_set_ne true (fun e=>hji e.symm)];exact hlj)
     refine Eq.trans ?_ (inv.rest s hrest)
     cases hdst:o.dst with
     | none=>rfl
     | some t=>exact Array.getElem?_setIfInBounds_ne (fun e=>hst (by rw [hdst,e]))
   unfold wpOp;simp only [ho]
   rw [hwa]
   rcases hst with ⟨hw,hk⟩|⟨hw,hru⟩
   ·rw [if_pos hw]
    refine .inl ?_;refine yBj hex (hk (fun a' w'=>∃v,a'=(fullR ops a0 vals n).put o.dst v∧Bw w0 w'∧I (fun j=>if j=i then true else listed.getD j true) (fun j=>if j=i then v else vals j) w') (fun v w' h2 h3=>⟨v,rfl,h2,h3⟩)) ?_ ?_ hQ
    ·rintro v w' ⟨v',he,h2,h3⟩
     cases hdst:o.dst with
     | none=>
      have:=hnext v' w' h2 h3;rw [hdst] at this;exact this
     | some t=>
      have hti:=hb i t hin (hdd.trans hdst);have hfs:t<(fullR ops a0 vals n).tmps.size:=by rw [zFy];exact hti
      rw [hdst] at he;obtain rfl:=yDs hfs he;have:=hnext v w' h2 h3;rw [hdst] at this;exact this
    ·rintro d w' ⟨v',he,_⟩
     have:=congrArg Act.defers he;rw [zGl,zGl] at this;exact absurd this (by simp)
   ·rw [if_neg (by rw [hw];simp)]
    exact hnext undef w inv.low hru
theorem zMk {id:Nat} {a0:Act} {w:World} (n:Nat) (I:(Nat→Bool)→(Nat→Value)→World→Prop) (hm:P.follows .mixedOrders=true) (hk:relB ops n=true) (hQ:∀c a w,¬Q (.panic c) a w)
    (hb:((List.range n).all fun i=>match dstR ops i with|some t=>decide (t<a0.tmps.size)|none=>true)=true)
    (h0:I (fun i=>decide (n≤i∧ops.size≤i)) (fun _=>undef) w.drew) (hstep:∀i o,i<n→ops[i]?=some o→StepI P ops Q n I a0 w i o)
    (hend:∀l vals w',Below w.heap.size w w'→(∀i,i<n→l i=true)→I l vals w'→wpList P ops Q (ops.toList.drop n) (fullR ops a0 vals n) w'):(Code.region id ops true).wp P Q a0 w:=by
  unfold relB at hk
  simp only [Bool.and_eq_true,decide_eq_true_eq] at hk
  obtain ⟨⟨⟨⟨⟨hsel,hn⟩,hs⟩,hc⟩,hone⟩,hseq⟩:=hk
  have hb':∀i t,i<n→dstR ops i=some t→t<a0.tmps.size:=fun i t hi ht=>by
    have:=List.all_eq_true.1 hb i (List.mem_range.2 hi)
    rw [ht] at this
    simpa using this
  have hsome:∀i,i<n→∃o,ops[i]?=some o:=fun i h=>⟨_,Array.getElem?_eq_getElem (by omega)⟩
  have hd:∀i j t,i<n→j<n→dstR ops i=some t→dstR ops j=some t→i=j:=by
    have key:∀i j t,i<n→j<n→dstR ops i=some t→dstR ops j=some t→¬i<j:=fun i j t hi hj h1 h2 hij=>by
      obtain ⟨o,ho⟩:=hsome j hj
      have:=(zCq (zEs hone hj ho)).2.1 i hij (by rw [show dstR ops j=o.dst by simp [dstR,ho]] at h2;rw [h2];simp)
      apply this
      rw [h1,←h2]
      simp [dstR,ho]
    intro i j t h1 h2 h3 h4
    have k1:=key i j t h1 h2 h3 h4
    have k2:=key j i t h2 h1 h4 h3
    omega
  have inv0:HeadInv .any ops n (Array.replicate ops.size false):=
    ⟨by simp,fun j oj _ hl=>(by rw [getD_replicate_false] at hl;cases hl),fun t _ ht=>getD_in (by simpa using ht) (getD_replicate_false _ _)⟩
  have hunl:∀i,i<n→(Array.replicate ops.size false).getD i true=false:=fun i hi=>getD_in (by simp;omega) (getD_replicate_false _ _)
  have hleft:leftR n (Array.replicate ops.size false)=n:=by
    unfold leftR
    rw [List.filter_eq_self.2 (fun i hi=>by rw [hunl i (List.mem_range.1 hi)];rfl),List.length_range]
  have hdl:(ops.toList.drop n).length=ops.size - n:=by simp
  have H:=zMj (P:=P) (I:=I) (a0:=a0) (w0:=w) (L:=fun listed a' w'=>Region.seqB .any ops (ops.size - n) n listed=true∧wpList P ops Q (ops.toList.drop n) a' w') hsel hn hs hc hone hQ hb' hstep
    (fun listed a' w' vals hi hall inv=>⟨by
      have:listed=(Array.replicate n true)++Array.replicate (ops.size - n) false:=by
        apply Array.ext_getElem?
        intro i
        by_cases h1:i<n
        · have h2:=hall i h1
          have h3:i<listed.size:=by rw [hi.size];omega
          rw [Array.getElem?_append_left (by simpa using h1)]
          simp [h3] at h2 ⊢
          simp [h1,h2]
        · rw [Array.getElem?_append_right (by simpa using h1)]
          by_cases h2:i<ops.size
          · have h3:=hi.tail i (by omega) h2
            have h4:i<listed.size:=by rw [hi.size];omega
            have h5:listed[i]?=some false:=by
              rw [Array.getElem?_eq_getElem h4]
              simpa [h4] using h3
            rw [h5,Array.getElem?_replicate,if_pos (by simp;omega)]
          · have h4:¬i<listed.size:=by rw [hi.size];omega
            rw [Array.getElem?_eq_none (by omega),Array.getElem?_eq_none (by simp;omega)]
      rw [this];exact hseq,by
      rw [zYf inv hd hb' hall]
      exact hend _ vals w' inv.low hall inv.rel⟩)
    n (Array.replicate ops.size false) a0 w.drew (fun _=>undef) inv0 hleft
    ⟨⟨rfl,rfl,rfl,Nat.le_refl _,fun _ _=>rfl⟩,rfl,rfl,fun i t hi hl=>(by rw [hunl i hi] at hl;cases hl),fun t _=>rfl,by
      have e:(fun i=>(Array.replicate ops.size false).getD i true)=fun i=>decide (n≤i∧ops.size≤i):=by
        funext i
        by_cases hi:i<ops.size
        · rw [getD_in (by simpa using hi) (getD_replicate_false _ _)]
          symm;simp;omega
        · have:(Array.replicate ops.size false).getD i true=true:=by simp [Array.getD,hi]
          rw [this]
          symm;simp;omega
      rw [e];exact h0⟩
  refine wp_region_any hm ?_
  have:=zFv (Q:=Q) (g:=ops.size - n) (fun listed a' w' hL=>by
    have:=wpAny_of_seq (md:=.any) (Q':=Q) (ops.toList.drop n) n listed a' w' (fun j=>by simp [List.getElem?_drop]) (by rw [hdl];exact hL.1) hL.2
    rwa [hdl] at this) _ _ _ _ H
  rw [show n+(ops.size - n)=ops.size by omega] at this
  exact this
def StepP (P:Program) (ops:Array Oper) (Q:Exit→Act→World→Prop) (n:Nat) (R:Nat→Value→World→Prop) (a0:Act) (w0:World) (i:Nat) (o:Oper):Prop:=
  ∀vals w,Below w0.heap.size w0 w→(∀j,j∈needsR o→R j (vals j) w) →
    (Region.wanted o (yielded ops (fullR ops a0 vals n).tmps)=true∧∀K:Act→World→Prop,Shut (∀v w',Below w.heap.size w w'→R i v w'→K ((fullR ops a0 vals n).put o.dst v) w')→Oper.wp P o (fullR ops a0 vals n) w K Q) ∨
    (Region.wanted o (yielded ops (fullR ops a0 vals n).tmps)=false∧R i undef w)
theorem zVx {id:Nat} {a0:Act} {w:World} (n:Nat) (R:Nat→Value→World→Prop) (hm:P.follows .mixedOrders=true) (hk:relB ops n=true) (hQ:∀c a w,¬Q (.panic c) a w)
  (hb:((List.range n).all fun i=>match dstR ops i with|some t=>decide (t<a0.tmps.size)|none=>true)=true)
  (hR:∀i v w w',R i v w→Bw w w'→R i v w') (hstep:∀i o,i<n→ops[i]?=some o→StepP P ops Q n R a0 w i o)
  (hend:∀vals w',Bw w w'→(∀i,i<n→R i (vals i) w')→wpList P ops Q (ops.toList.drop n) (fullR ops a0 vals n) w'):(Code.region id ops true).wp P Q a0 w:=by
 have hn:n<ops.size:=by
  unfold relB at hk;simp only [Bool.and_eq_true,decide_eq_true_eq] at hk
  exact hk.1.1.1.1.2
 refine zMk n (fun l vals w=>∀i,i<n→l i=true→R i (vals i) w) hm hk hQ hb (fun i hi hl=>?_) (fun i o hi ho l vals w1 hbw hl hneed inv=>?_) (fun l vals w1 hbw hall inv=>?_)
 ·exfalso
  simp at hl
  omega
 ·have hlt:∀j,j∈needsR o→j<n:=fun j hj=>by
   unfold relB at hk;simp only [Bool.and_eq_true,decide_eq_true_eq] at hk
   have:=(zCq (zEs hk.1.2 hi ho)).2.2.1 j hj;omega
  rcases hstep i o hi ho vals w1 hbw (fun j hj=>inv j (hlt j hj) (hneed j hj)) with ⟨hw,hk'⟩|⟨hw,hu⟩
  ·refine .inl ⟨hw,fun K hK=>hk' K (fun v w' h1 h2=>hK v w' (hbw.trans (h1.mono hbw.size)) (fun j hj hlj=>?_))⟩
   (try dsimp only at hlj ⊢)
   by_cases hji:j=i
   ·subst hji;simpa using h2
   ·rw [if_neg hji] at hlj ⊢
    exact hR _ _ _ _ (inv j hj hlj) h1
  ·refine .inr ⟨hw,fun j hj hlj=>?_⟩
   (try dsimp only at hlj ⊢)
   by_cases hji:j=i
   ·subst hji;simpa using hu
   ·rw [if_neg hji] at hlj ⊢
    exact inv j hj hlj
 ·exact hend vals w1 hbw (fun i hi=>inv i hi (hall i hi))
def AllP (P:Program) (ops:Array Oper) (Q:Exit→Act→World→Prop) (n:Nat) (R:Nat→Value→World→Prop) (a0:Act) (w0:World):Nat→List Oper→Prop
 | _,[]=>True
 | i,o::l=>StepP P ops Q n R a0 w0 i o∧AllP P ops Q n R a0 w0 (i+1) l
theorem AllP.get {n:Nat} {R:Nat→Value→World→Prop} {a0:Act} {w0:World}:∀(l:List Oper) (k:Nat),AllP P ops Q n R a0 w0 k l→∀i o,l[i]?=some o→StepP P ops Q n R a0 w0 (k+i) o
 | [],_,_,_,_,h=>by simp at h
 | x::l,k,h,0,o,ho=>by
  simp only [List.getElem?_cons_zero,Option.some.injEq] at ho
  subst ho;exact h.1
 | x::l,k,h,i+1,o,ho=>by
  have:=AllP.get l (k+1) h.2 i o (by simpa using ho);rw [show k+(i+1)=k+1+i by omega];exact this
theorem AllP.all {n:Nat} {R:Nat→Value→World→Prop} {a0:Act} {w0:World} (h:AllP P ops Q n R a0 w0 0 (ops.toList.take n)):∀i o,i<n→ops[i]?=some o→StepP P ops Q n R a0 w0 i o:=fun i o hi ho=>by
 have:=AllP.get _ 0 h i o (by rw [List.getElem?_take,if_pos hi];simpa using ho);rwa [Nat.zero_add] at this
theorem zTw {n:Nat} {a0:Act} (vals:Nat→Value) (hk:relB ops n=true) {i t:Nat} (hi:i<n) (hd:dstR ops i=some t) (ht:t<a0.tmps.size):(fullR ops a0 vals n).eval (.tmp t)=vals i:=by
  unfold relB at hk
  simp only [Bool.and_eq_true,decide_eq_true_eq] at hk
  have hone:=hk.1.2
  have hn:=hk.1.1.1.1.2
  have key:∀i j,i<n→j<n→dstR ops i=some t→dstR ops j=some t→¬i<j:=fun i j hi hj h1 h2 hij=>by
    have ho:ops[j]?=some ops[j]:=Array.getElem?_eq_getElem (by omega)
    have:=(zCq (zEs hone hj ho)).2.1 i hij (by rw [show dstR ops j=(ops[j]).dst by simp [dstR,ho]] at h2;rw [h2];simp)
    apply this
    rw [h1,←h2]
    simp [dstR,ho]
  have:=zIb (ops:=ops) a0 vals t i ht hd n hi (fun j hj hjt=>by
    have k1:=key i j hi hj hd hjt
    have k2:=key j i hj hi hjt hd
    omega)
  simp only [Act.eval,Array.getD_eq_getD_getElem?,this,Option.getD_some]
theorem zYh {n t:Nat} {a0:Act} (vals:Nat→Value) (h:((List.range n).all fun i=>dstR ops i != some t)=true):(fullR ops a0 vals n).eval (.tmp t)=a0.eval (.tmp t):=by
 simp only [Act.eval,Array.getD_eq_getD_getElem?]
 rw [zIa a0 vals t n (fun i hi e=>by
  have:=List.all_eq_true.1 h i (List.mem_range.2 hi);rw [e] at this
  simp at this)]
structure FrR (ops:Array Oper) (n:Nat) (a0:Act) (vals:Nat→Value) (fa:Act):Prop where
 at_:∀i t,i<n→dstR ops i=some t→fa.eval (.tmp t)=vals i
 out:∀t,((List.range n).all fun i=>dstR ops i != some t)=true→fa.eval (.tmp t)=a0.eval (.tmp t)
theorem frR {n:Nat} {a0:Act} (vals:Nat→Value) (hk:relB ops n=true) (hb:((List.range n).all fun i=>match dstR ops i with|some t=>decide (t<a0.tmps.size)|none=>true)=true):FrR ops n a0 vals (fullR ops a0 vals n):=
 ⟨fun i t hi hd=>zTw vals hk hi hd (by
  have:=List.all_eq_true.1 hb i (List.mem_range.2 hi);rw [hd] at this
  simpa using this),fun _ h=>zYh vals h⟩
theorem zGm {o:Oper} {y:Nat→Option Bool} (h:o.guard=none):Region.wanted o y=true:=by unfold Region.wanted;rw [h]
def GuardOk (ops:Array Oper) (n:Nat) (o:Oper) (vals:Nat→Value):Prop:=∀g b,o.guard=some (g,b)→g<n∧(∃t,dstR ops g=some t)∧vals g=.bool b
def StepQ (P:Program) (ops:Array Oper) (Q:Exit→Act→World→Prop) (n:Nat) (R:Nat→Value→World→Prop) (a0:Act) (w0:World) (i:Nat) (o:Oper):Prop:=
 ∀(fa:Act) vals w,FrR ops n a0 vals fa→Bw w0 w→(∀j,j∈needsR o→R j (vals j) w) →
  GuardOk ops n o vals∧∀K:Act→World→Prop,Shut (∀v w',Bw w w'→R i v w'→K (fa.put o.dst v) w')→Oper.wp P o fa w K Q
theorem StepQ.stepP {n i:Nat} {R:Nat→Value→World→Prop} {a0:Act} {w0:World} {o:Oper} (hk:relB ops n=true) (hb:((List.range n).all fun i=>match dstR ops i with|some t=>decide (t<a0.tmps.size)|none=>true)=true)
  (h:StepQ P ops Q n R a0 w0 i o):StepP P ops Q n R a0 w0 i o:=fun vals w h1 h2=>by
 obtain ⟨hg,h5⟩:=h _ vals w (frR vals hk hb) h1 h2;refine .inl ⟨?_,h5⟩;unfold Region.wanted
 cases hgd:o.guard with
 | none=>rfl
 | some gb=>
  obtain ⟨g,b⟩:=gb;obtain ⟨h6,⟨t,h7⟩,h8⟩:=hg g b hgd
  have ht:t<a0.tmps.size:=by
   have:=List.all_eq_true.1 hb g (List.mem_range.2 h6);rw [h7] at this
   simpa using this
  have hv:(fullR ops a0 vals n).tmps[t]?=some (vals g):=by
   have h9:=zTw (a0:=a0) vals hk h6 h7 ht;have hs:t<(fullR ops a0 vals n).tmps.size:=by rw [zFy];exact ht
   simp only [Act.eval,Array.getD_eq_getD_getElem?,Array.getElem?_eq_getElem hs,Option.getD_some] at h9
   rw [Array.getElem?_eq_getElem hs,h9]
  have hy:yielded ops (fullR ops a0 vals n).tmps g=some b:=by
   have h7':(ops[g]?).bind (·.dst)=some t:=h7;unfold yielded;rw [h7',Option.bind_some,hv,h8]
  simp [hy]
def AllQ (P:Program) (ops:Array Oper) (Q:Exit→Act→World→Prop) (n:Nat) (R:Nat→Value→World→Prop) (a0:Act) (w0:World):Nat→List Oper→Prop
 | _,[]=>True
 | i,o::l=>StepQ P ops Q n R a0 w0 i o∧AllQ P ops Q n R a0 w0 (i+1) l
theorem AllQ.step {n:Nat} {R:Nat→Value→World→Prop} {a0:Act} {w0:World} {i:Nat} {o:Oper} {l:List Oper} (h:StepQ P ops Q n R a0 w0 i o) (k:AllQ P ops Q n R a0 w0 (i+1) l):AllQ P ops Q n R a0 w0 i (o::l):=⟨h,k⟩
theorem AllQ.allP {n:Nat} {R:Nat→Value→World→Prop} {a0:Act} {w0:World} (hk:relB ops n=true) (hb:((List.range n).all fun i=>match dstR ops i with|some t=>decide (t<a0.tmps.size)|none=>true)=true):∀(l:List Oper) (i:Nat),AllQ P ops Q n R a0 w0 i l→AllP P ops Q n R a0 w0 i l
 | [],_,_=>trivial
 | _::l,i,h=>⟨h.1.stepP hk hb,AllQ.allP hk hb l (i+1) h.2⟩
theorem zGn {id:Nat} {a0:Act} {w:World} (n:Nat) (R:Nat→Value→World→Prop) (hm:P.follows .mixedOrders=true) (hk:relB ops n=true) (hQ:∀c a w,¬Q (.panic c) a w)
  (hb:((List.range n).all fun i=>match dstR ops i with|some t=>decide (t<a0.tmps.size)|none=>true)=true)
  (hR:∀i v w w',R i v w→Bw w w'→R i v w') (hstep:AllQ P ops Q n R a0 w 0 (ops.toList.take n))
  (hend:∀vals w',Bw w w'→(∀i,i<n→R i (vals i) w')→wpList P ops Q (ops.toList.drop n) (fullR ops a0 vals n) w'):(Code.region id ops true).wp P Q a0 w:=
 zVx n R hm hk hQ hb hR (AllP.all (AllQ.allP hk hb _ 0 hstep)) hend
end
end Go.Proofs.YtfkjfdbjhlmjcaaGreatDoor
