/- Regions that draw their order: -/
import Derived.Deep.RegionHeld3
import Derived.Lib.SlBytesRow
import Derived.StillTail
import Derived.Test.YtfkjfdbjhlmjcaaGreatDoorXG1
namespace Go.Proofs.YtfkjfdbjhlmjcaaGreatDoor
section
variable {P:Program} {ops:Array Oper} {Q:Exit→Act→World→Prop} {S:World→Prop}
def lexB (ops:Array Oper):List Bool→Nat→Array Bool→Bool
  | [],_,listed=>(Region.ready .any ops listed).isEmpty
  | true::ks,k,listed=>(Region.ready .any ops listed).contains k && Region.free .any ops listed k && lexB ops ks (k+1) (listed.setIfInBounds k true)
  | false::ks,k,listed=>decide (Region.ready .any ops listed=[k]) && lexB ops ks (k+1) (listed.setIfInBounds k true)
def wpLex (P:Program) (ops:Array Oper) (Q:Exit→Act→World→Prop) (S:World→Prop):List Bool→List Oper→Act→World→Prop
 | [],_,a,w=>Q .normal a w
 | _::_,[],_,_=>False
 | true::ks,o::l,a,w=>∃v,YieldsIf P ops S o v a∧wpLex P ops Q S ks l (a.put o.dst v) w
 | false::ks,o::l,a,w=>if Region.wanted o (yielded ops a.tmps)=true then Oper.wp P o a w (fun a' w'=>S w'∧wpLex P ops Q S ks l a' w') Q else wpLex P ops Q S ks l (a.put o.dst undef) w
theorem zDk (hs:Region.noSelect ops=true) (hQ:∀(c:_) (a:Act) (d:Option Tmp) (v:Value) (w:World),Q (.panic c) (a.put d v) w→Q (.panic c) a w) :
  ∀(ks:List Bool) (k:Nat) (listed:Array Bool) (l:List Oper) (a:Act) (w:World),(∀j:Nat,l[j]?=ops[k+j]?)→lexB ops ks k listed=true→S w→wpLex P ops Q S ks l a w→wpAnyH P .any ops Q S ks.length listed a w
 | [],_,listed,_,a,w,_,hB,_,h=>by
  rw [lexB,List.isEmpty_iff] at hB;rw [wpLex] at h;exact ⟨hB,h⟩
 | b::ks,k,listed,[],a,w,_,_,_,h=>by cases b<;>exact h.elim
 | true::ks,k,listed,o::l,a,w,hl,hB,hS,h=>by
  have h0:ops[k]?=some o:=by simpa using (hl 0).symm
  have hl':∀j:Nat,l[j]?=ops[k+1+j]?:=fun j=>by have:=hl (j+1);simpa [Nat.add_assoc,Nat.add_comm 1 j] using this
  rw [lexB,Bool.and_eq_true,Bool.and_eq_true] at hB;rw [wpLex] at h;obtain ⟨v,hy,h⟩:=h;exact wpAnyH_take h0 hs hB.1.2 hB.1.1 (fun c a w=>hQ c a o.dst v w) hy hS (zDk hs hQ ks (k+1) _ l _ w hl' hB.2 hS h)
 | false::ks,k,listed,o::l,a,w,hl,hB,hS,h=>by
  have h0:ops[k]?=some o:=by simpa using (hl 0).symm
  have hl':∀j:Nat,l[j]?=ops[k+1+j]?:=fun j=>by have:=hl (j+1);simpa [Nat.add_assoc,Nat.add_comm 1 j] using this
  rw [lexB,Bool.and_eq_true,decide_eq_true_eq] at hB;rw [wpLex] at h;refine wpAnyH_all hB.1 (by simp) fun i hi=>?_;obtain rfl:i=k:=by simpa using hi
  unfold wpOp;simp only [h0]
  split
  ·rename_i hw
   rw [if_pos hw] at h;exact .inl (Oper.wp_mono (fun a' w' h'=>⟨h'.1,zDk hs hQ ks (i+1) _ l a' w' hl' hB.2 h'.1 h'.2⟩) h)
  ·rename_i hw
   rw [if_neg hw] at h;exact ⟨hS,zDk hs hQ ks (i+1) _ l _ w hl' hB.2 hS h⟩
structure Lex (P:Program) (ops:Array Oper) (Q:Exit→Act→World→Prop) (S:World→Prop) (ks:List Bool) (l:List Oper) (a:Act) (w:World):Prop where
  of ::
  out:wpLex P ops Q S ks l a w
def lexAll (ops:Array Oper) (ks:List Bool):Bool:=ks.length==ops.size && Region.noSelect ops && lexB ops ks 0 (Array.replicate ops.size false)
theorem zCp {id:Nat} {a:Act} {w:World} (S:World→Prop) (ks:List Bool) (hm:P.follows .mixedOrders=true) (hk:lexAll ops ks=true)
  (hQ:∀(c:_) (a:Act) (d:Option Tmp) (v:Value) (w:World),Q (.panic c) (a.put d v) w→Q (.panic c) a w) (hS:S w.drew) (h:S w.drew→Lex P ops Q S ks ops.toList a w.drew):(Code.region id ops true).wp P Q a w:=by
 simp only [lexAll,Bool.and_eq_true,beq_iff_eq] at hk
 refine wp_region_held (S:=S) hm ?_;rw [←hk.1.1];exact zDk hk.1.2 hQ ks 0 _ _ a _ (fun j=>by simp) (by rw [hk.1.1];exact hk.2) hS (h hS).out
theorem zAw {ks:List Bool} {o:Oper} {l:List Oper} {a:Act} {w:World} {v:Value} (hw:Region.wanted o (yielded ops a.tmps)=true) (hv:∀w,S w→(execOp a.eval o).run P w=.ok (.value v) w)
  (h:Lex P ops Q S ks l (a.put o.dst v) w):Lex P ops Q S (true::ks) (o::l) a w:=⟨by rw [wpLex];exact ⟨v,.inl ⟨hw,hv⟩,h.out⟩⟩
theorem zAo {b:Bool} {ks:List Bool} {o:Oper} {l:List Oper} {a:Act} {w:World} (hw:Region.wanted o (yielded ops a.tmps)=false)
  (h:Lex P ops Q S ks l (a.put o.dst undef) w):Lex P ops Q S (b::ks) (o::l) a w:=⟨by
 cases b
 ·rw [wpLex,if_neg (by rw [hw];simp)];exact h.out
 ·rw [wpLex];exact ⟨undef,.inr ⟨hw,rfl⟩,h.out⟩⟩
theorem zDb {ks:List Bool} {o:Oper} {l:List Oper} {a:Act} {w:World} (hw:Region.wanted o (yielded ops a.tmps)=true)
  (h:∀K':Act→World→Prop,Shut (∀a w,S w→(S w→Lex P ops Q S ks l a w)→K' a w)→Oper.wp P o a w K' Q):Lex P ops Q S (false::ks) (o::l) a w:=⟨by
 rw [wpLex,if_pos hw]
 exact h _ (fun a w hS hL=>⟨hS,(hL hS).out⟩)⟩
theorem zDg {l:List Oper} {a:Act} {w:World} (h:Q .normal a w):Lex P ops Q S [] l a w:=⟨by rw [wpLex];exact h⟩
def wpAnyG (P:Program) (ops:Array Oper) (Q:Exit→Act→World→Prop) (S:World→Prop) (n:Nat) (L:Array Bool→Act→World→Prop):Nat→Array Bool→Act→World→Prop
 | 0,listed,a,w=>L listed a w
 | f+1,listed,a,w=>Region.ready .any ops listed≠[]∧∀i∈Region.ready .any ops listed,i<n∧wpOp P ops Q i (fun a' w'=>S w'∧wpAnyG P ops Q S n L f (listed.setIfInBounds i true) a' w') a w
theorem zFv {n g:Nat} {L:Array Bool→Act→World→Prop} (hL:∀listed a w,L listed a w→wpAny P .any ops Q g listed a w) :
  ∀(f:Nat) (listed:Array Bool) (a:Act) (w:World),wpAnyG P ops Q S n L f listed a w→wpAny P .any ops Q (f+g) listed a w
 | 0,listed,a,w,h=>by rw [Nat.zero_add];exact hL _ _ _ h
 | f+1,listed,a,w,h=>by
  rw [show f+1+g=(f+g)+1 by omega];exact ⟨fun h0=>absurd h0 h.1,fun i hi=>wpOp_mono (fun a' w' h'=>zFv hL f _ a' w' h'.2) (h.2 i hi).2⟩
theorem zIm {n i:Nat} {oi:Oper} {v:Value} {L:Array Bool→Act→World→Prop} (hi:ops[i]?=some oi) (hsel:∀(j:Nat) (o:Oper) cs b,ops[j]?=some o→o.op≠.select cs b)
  (hQ:∀c a w,Q (.panic c) (a.put oi.dst v) w→Q (.panic c) a w)
  (hs:Region.sinkB .any ops n=true) (hc:Region.chainB .any ops n=true) (hn:n<ops.size) (hin:i<n)
  (hdone:∀listed a w,L listed a w→∀j∈Region.ready .any ops listed,n≤j) :
  ∀(f:Nat) (listed:Array Bool) (a:Act) (w:World),HeadInv .any ops n listed →
   (∀j oj,ops[j]?=some oj→j≠i→listed.getD j true=false→(∀e∈oj.after,Region.binds .any e=true→e.on≠i)→oi.apart ops oj=true) →
   i∈Region.ready .any ops listed→YieldsIf P ops S oi v a→S w →
   wpAnyG P ops Q S n L f (listed.setIfInBounds i true) (a.put oi.dst v) w→wpAnyG P ops Q S n L (f+1) listed a w:=by
 intro f
 induction f with
 | zero=>
  intro listed a w inv _ hr hy hS H;have hun:=(mem_ready.1 hr).1;refine ⟨fun h=>(by rw [h] at hr;cases hr),fun j hj=>?_⟩
  have hjn:j<n:=by
   rcases Nat.lt_or_ge j n with h|h
   ·exact h
   ·exact absurd hj (tail_waits hs hc hn inv _ i rfl hin hun j h)
  refine ⟨hjn,?_⟩
  by_cases hji:j=i
  ·subst hji;exact hy.wpOp hi hS ⟨hS,H⟩
  ·have:=hdone _ _ _ H j (ready_mono hj hji)
   omega
 | succ f ih=>
  intro listed a w inv hfree hr hy hS H;have hun:=(mem_ready.1 hr).1;refine ⟨fun h=>(by rw [h] at hr;cases hr),fun j hj=>?_⟩
  have hjn:j<n:=by
   rcases Nat.lt_or_ge j n with h|h
   ·exact h
   ·exact absurd hj (tail_waits hs hc hn inv _ i rfl hin hun j h)
  refine ⟨hjn,?_⟩
  by_cases hji:j=i
  ·subst hji;exact hy.wpOp hi hS ⟨hS,H⟩
  ·have h1:=(H.2 j (ready_mono hj hji)).2
   obtain ⟨hjun,oj,hoj,hall⟩:=mem_ready.1 hj
   have hnot:∀e∈oj.after,Region.binds .any e=true→e.on≠i:=fun e he hb heq=>by
    have h1:=hall e he hb;rw [heq,getD_both hun] at h1
    cases h1
   have h2:=wpOp_putIf hoj (hfree j oj hoj hji hjun hnot) (fun cs b=>hsel i oi cs b hi) (fun cs b=>hsel j oj cs b hoj) hQ hy h1
   have hfree':∀k ok,ops[k]?=some ok→k≠i→(listed.setIfInBounds j true).getD k true=false →
     (∀e∈ok.after,Region.binds .any e=true→e.on≠i)→oi.apart ops ok=true:=fun k ok hk hki hun hno=>by
    refine hfree k ok hk hki ?_ hno
    by_cases hjk:j=k
    ·subst hjk;exact hjun
    ·rw [getD_set_ne true hjk] at hun;exact hun
   refine wpOp_mono (fun a' w' h3=>⟨h3.2.1,ih (listed.setIfInBounds j true) a' w' (inv.set hj hjn) hfree' (ready_mono hr (Ne.symm hji)) h3.1 h3.2.1 ?_⟩) h2;rw [Array.setIfInBounds_comm _ _ hji];exact h3.2.2
def lexH (ops:Array Oper) (g:Nat):List Bool→Nat→Array Bool→Bool
 | [],k,listed=>Region.seqB .any ops g k listed
 | true::ks,k,listed=>(Region.ready .any ops listed).contains k && Region.free .any ops listed k && lexH ops g ks (k+1) (listed.setIfInBounds k true)
 | false::ks,k,listed=>decide (Region.ready .any ops listed=[k]) && lexH ops g ks (k+1) (listed.setIfInBounds k true)
def wpLexT (P:Program) (ops:Array Oper) (Q:Exit→Act→World→Prop) (S:World→Prop):List Bool→List Oper→Act→World→Prop
 | [],l,a,w=>wpList P ops Q l a w
 | _::_,[],_,_=>False
 | true::ks,o::l,a,w=>∃v,YieldsIf P ops S o v a∧wpLexT P ops Q S ks l (a.put o.dst v) w
 | false::ks,o::l,a,w=>if Region.wanted o (yielded ops a.tmps)=true then Oper.wp P o a w (fun a' w'=>S w'∧wpLexT P ops Q S ks l a' w') Q else wpLexT P ops Q S ks l (a.put o.dst undef) w
theorem zI {n g:Nat} (hsel:Region.noSelect ops=true) (hQ:∀(c:_) (a:Act) (d:Option Tmp) (v:Value) (w:World),Q (.panic c) (a.put d v) w→Q (.panic c) a w)
  (hs:Region.sinkB .any ops n=true) (hc:Region.chainB .any ops n=true) (hn:n<ops.size) :
  ∀(ks:List Bool) (k:Nat) (listed:Array Bool) (l:List Oper) (a:Act) (w:World),(∀j:Nat,l[j]?=ops[k+j]?)→k+ks.length=n→HeadInv .any ops n listed→lexH ops g ks k listed=true→S w→wpLexT P ops Q S ks l a w →
   wpAnyG P ops Q S n (fun listed' a' w'=>Region.seqB .any ops g n listed'=true∧wpList P ops Q (ops.toList.drop n) a' w') ks.length listed a w
 | [],k,listed,l,a,w,hl,hk,_,hB,_,h=>by
  have:k=n:=by simpa using hk
  subst this;have e:l=ops.toList.drop k:=List.ext_getElem? fun j=>by rw [hl j,List.getElem?_drop,Array.getElem?_toList]
  rw [lexH] at hB;rw [wpLexT,e] at h;exact ⟨hB,h⟩
 | b::ks,k,listed,[],a,w,_,_,_,_,_,h=>by cases b<;>exact h.elim
 | true::ks,k,listed,o::l,a,w,hl,hk,inv,hB,hS,h=>by
  have h0:ops[k]?=some o:=by simpa using (hl 0).symm
  have hl':∀j:Nat,l[j]?=ops[k+1+j]?:=fun j=>by have:=hl (j+1);simpa [Nat.add_assoc,Nat.add_comm 1 j] using this
  rw [lexH,Bool.and_eq_true,Bool.and_eq_true] at hB;rw [wpLexT] at h;obtain ⟨v,hy,h⟩:=h;have hr':k∈Region.ready .any ops listed:=by simpa using hB.1.1
  have hkn:k<n:=by simp only [List.length_cons] at hk;omega
  exact zIm h0 (Region.noSelect_spec hsel) (fun c a w=>hQ c a o.dst v w) hs hc hn hkn (fun _ _ _ hL=>seqB_ready hL.1) ks.length listed a w inv (Region.free_spec h0 hB.1.2) hr' hy hS
   (zI hsel hQ hs hc hn ks (k+1) _ l _ w hl' (by simp only [List.length_cons] at hk;omega) (inv.set hr' hkn) hB.2 hS h)
 | false::ks,k,listed,o::l,a,w,hl,hk,inv,hB,hS,h=>by
  have h0:ops[k]?=some o:=by simpa using (hl 0).symm
  have hl':∀j:Nat,l[j]?=ops[k+1+j]?:=fun j=>by have:=hl (j+1);simpa [Nat.add_assoc,Nat.add_comm 1 j] using this
  rw [lexH,Bool.and_eq_true,decide_eq_true_eq] at hB;rw [wpLexT] at h;have hkn:k<n:=by simp only [List.length_cons] at hk;omega
  have hr':k∈Region.ready .any ops listed:=by rw [hB.1];simp
  refine ⟨by rw [hB.1];simp,fun i hi=>?_⟩;rw [hB.1] at hi;obtain rfl:i=k:=by simpa using hi
  refine ⟨hkn,?_⟩;have ih:=fun a' w' hS'=>zI hsel hQ hs hc hn ks (i+1) (listed.setIfInBounds i true) l a' w' hl' (by simp only [List.length_cons] at hk;omega) (inv.set hr' hkn) hB.2 hS';unfold wpOp;simp only [h0]
  split
  ·rename_i hw
   rw [if_pos hw] at h;exact .inl (Oper.wp_mono (fun a' w' h'=>⟨h'.1,ih a' w' h'.1 h'.2⟩) h)
  ·rename_i hw
   rw [if_neg hw] at h;exact ⟨hS,ih _ w hS h⟩
structure LexT (P:Program) (ops:Array Oper) (Q:Exit→Act→World→Prop) (S:World→Prop) (ks:List Bool) (l:List Oper) (a:Act) (w:World):Prop where
 of ::
 out:wpLexT P ops Q S ks l a w
def lexTail (ops:Array Oper) (ks:List Bool):Bool:=
 Region.noSelect ops && decide (ks.length<ops.size) && Region.sinkB .any ops ks.length && Region.chainB .any ops ks.length && lexH ops (ops.size - ks.length) ks 0 (Array.replicate ops.size false)
theorem zEp {id:Nat} {a:Act} {w:World} (S:World→Prop) (ks:List Bool) (hm:P.follows .mixedOrders=true) (hk:lexTail ops ks=true)
  (hQ:∀(c:_) (a:Act) (d:Option Tmp) (v:Value) (w:World),Q (.panic c) (a.put d v) w→Q (.panic c) a w) (hS:S w.drew) (h:S w.drew→LexT P ops Q S ks ops.toList a w.drew):(Code.region id ops true).wp P Q a w:=by
 simp only [lexTail,Bool.and_eq_true,decide_eq_true_eq] at hk
 obtain ⟨⟨⟨⟨hsel,hn⟩,hs⟩,hc⟩,hlex⟩:=hk
 have inv0:HeadInv .any ops ks.length (Array.replicate ops.size false):=
  ⟨by simp,fun j oj _ hl=>(by rw [getD_replicate_false] at hl;cases hl),fun t _ ht=>getD_in (by simpa using ht) (getD_replicate_false _ _)⟩
 have H:=zI (g:=ops.size - ks.length) hsel hQ hs hc hn ks 0 _ ops.toList a w.drew (fun j=>by simp) (by simp) inv0 hlex hS (h hS).out;have hdl:(ops.toList.drop ks.length).length=ops.size - ks.length:=by simp
 refine wp_region_any hm ?_
 have:=zFv (Q:=Q) (g:=ops.size - ks.length) (fun listed a' w' hL=>by
  have:=wpAny_of_seq (md:=.any) (Q':=Q) (ops.toList.drop ks.length) ks.length listed a' w' (fun j=>by simp [List.getElem?_drop]) (by rw [hdl];exact hL.1) hL.2
  rwa [hdl] at this) _ _ _ _ H
 rw [show ks.length+(ops.size - ks.length)=ops.size by omega] at this;exact this
theorem zGy {ks:List Bool} {o:Oper} {l:List Oper} {a:Act} {w:World} {v:Value} (hw:Region.wanted o (yielded ops a.tmps)=true) (hv:∀w,S w→(execOp a.eval o).run P w=.ok (.value v) w)
  (h:LexT P ops Q S ks l (a.put o.dst v) w):LexT P ops Q S (true::ks) (o::l) a w:=⟨by rw [wpLexT];exact ⟨v,.inl ⟨hw,hv⟩,h.out⟩⟩
theorem zGz {b:Bool} {ks:List Bool} {o:Oper} {l:List Oper} {a:Act} {w:World} (hw:Region.wanted o (yielded ops a.tmps)=false)
  (h:LexT P ops Q S ks l (a.put o.dst undef) w):LexT P ops Q S (b::ks) (o::l) a w:=⟨by
 cases b
 ·rw [wpLexT,if_neg (by rw [hw];simp)];exact h.out
 ·rw [wpLexT];exact ⟨undef,.inr ⟨hw,rfl⟩,h.out⟩⟩
theorem zJe {l:List Oper} {a:Act} {w:World} (h:wpList P ops Q l a w):LexT P ops Q S [] l a w:=⟨by rw [wpLexT];exact h⟩
end
section
variable {P:Program} {ops:Array Oper} {Q:Exit→Act→World→Prop} {S:World→Prop}
end
section
variable {P:Program} {ops:Array Oper} {Q:Exit→Act→World→Prop} {S:World→Prop}
end
section
variable {P:Program} {ops:Array Oper} {Q:Exit→Act→World→Prop} {S:World→Prop}
end
inductive Plan where
 | done:Plan
 | take:Nat→Plan→Plan
 | one:Nat→Plan→Plan
 | two:Nat→Nat→Plan→Plan→Plan
def Plan.len:Plan→Nat
 | .done=>0
 | .take _ p=>p.len+1
 | .one _ p=>p.len+1
 | .two _ _ p _=>p.len+1
section
variable {P:Program} {ops:Array Oper} {Q:Exit→Act→World→Prop} {S:World→Prop}
def planB (ops:Array Oper):Plan→Array Bool→Bool
 | .done,listed=>(Region.ready .any ops listed).isEmpty
 | .take i p,listed=>(Region.ready .any ops listed).contains i && Region.free .any ops listed i && planB ops p (listed.setIfInBounds i true)
 | .one i p,listed=>decide (Region.ready .any ops listed=[i]) && planB ops p (listed.setIfInBounds i true)
 | .two i j p q,listed=>decide (Region.ready .any ops listed=[i,j]) && decide (p.len=q.len) && planB ops p (listed.setIfInBounds i true) && planB ops q (listed.setIfInBounds j true)
def wpStepP (P:Program) (ops:Array Oper) (Q:Exit→Act→World→Prop) (S:World→Prop) (i:Nat) (K:Act→World→Prop) (a:Act) (w:World):Prop:=
 ∃o,ops[i]?=some o∧if Region.wanted o (yielded ops a.tmps)=true then (Oper.wp P o a w (fun a' w'=>S w'∧K a' w') Q∨(o.asks P a w∧LetsOut Q)) else K (a.put o.dst undef) w
def wpPlan (P:Program) (ops:Array Oper) (Q:Exit→Act→World→Prop) (S:World→Prop):Plan→Act→World→Prop
 | .done,a,w=>Q .normal a w
 | .take i p,a,w=>∃o,ops[i]?=some o∧∃v,YieldsIf P ops S o v a∧wpPlan P ops Q S p (a.put o.dst v) w
 | .one i p,a,w=>wpStepP P ops Q S i (wpPlan P ops Q S p) a w
 | .two i j p q,a,w=>wpStepP P ops Q S i (wpPlan P ops Q S p) a w∧wpStepP P ops Q S j (wpPlan P ops Q S q) a w
theorem zFe {n i:Nat} {listed:Array Bool} {p:Plan} {a:Act} {w:World} (hS:S w) (ih:∀a w,S w→wpPlan P ops Q S p a w→wpAnyH P .any ops Q S n (listed.setIfInBounds i true) a w)
  (h:wpStepP P ops Q S i (wpPlan P ops Q S p) a w):wpOp P ops Q i (fun a' w'=>S w'∧wpAnyH P .any ops Q S n (listed.setIfInBounds i true) a' w') a w:=by
 obtain ⟨o,h0,h⟩:=h;unfold wpOp;simp only [h0]
 split
 ·rename_i hw
  rw [if_pos hw] at h
  rcases h with h|h
  ·exact .inl (Oper.wp_mono (fun a' w' h'=>⟨h'.1,ih a' w' h'.1 h'.2⟩) h)
  ·exact .inr h
 ·rename_i hw
  rw [if_neg hw] at h;exact ⟨hS,ih _ w hS h⟩
theorem zCk (hs:Region.noSelect ops=true) (hQ:∀(c:_) (a:Act) (d:Option Tmp) (v:Value) (w:World),Q (.panic c) (a.put d v) w→Q (.panic c) a w) :
  ∀(p:Plan) (listed:Array Bool) (a:Act) (w:World),planB ops p listed=true→S w→wpPlan P ops Q S p a w→wpAnyH P .any ops Q S p.len listed a w
 | .done,listed,a,w,hB,_,h=>by
  rw [planB,List.isEmpty_iff] at hB;rw [wpPlan] at h;exact ⟨hB,h⟩
 | .take i p,listed,a,w,hB,hS,h=>by
  rw [planB,Bool.and_eq_true,Bool.and_eq_true] at hB;rw [wpPlan] at h;obtain ⟨o,h0,v,hy,h⟩:=h;exact wpAnyH_take h0 hs hB.1.2 hB.1.1 (fun c a w=>hQ c a o.dst v w) hy hS (zCk hs hQ p _ _ w hB.2 hS h)
 | .one k p,listed,a,w,hB,hS,h=>by
  rw [planB,Bool.and_eq_true,decide_eq_true_eq] at hB;rw [wpPlan] at h;refine wpAnyH_all hB.1 (by simp) fun i hi=>?_;obtain rfl:i=k:=by simpa using hi
  exact zFe hS (fun a w hS h=>zCk hs hQ p _ a w hB.2 hS h) h
 | .two j k p q,listed,a,w,hB,hS,h=>by
  rw [planB,Bool.and_eq_true,Bool.and_eq_true,Bool.and_eq_true,decide_eq_true_eq,decide_eq_true_eq] at hB;rw [wpPlan] at h;refine wpAnyH_all hB.1.1.1 (by simp) fun i hi=>?_;have hi':i=j∨i=k:=by simpa using hi
  rcases hi' with rfl|rfl
  ·exact zFe hS (fun a w hS h=>zCk hs hQ p _ a w hB.1.2 hS h) h.1
  ·exact zFe hS (fun a w hS h=>by have:=zCk hs hQ q _ a w hB.2 hS h;rwa [←hB.1.1.2] at this) h.2
structure Planned (P:Program) (ops:Array Oper) (Q:Exit→Act→World→Prop) (S:World→Prop) (p:Plan) (a:Act) (w:World):Prop where
 of ::
 out:wpPlan P ops Q S p a w
def planAll (ops:Array Oper) (p:Plan):Bool:=p.len==ops.size && Region.noSelect ops && planB ops p (Array.replicate ops.size false)
theorem zCl {id:Nat} {a:Act} {w:World} (S:World→Prop) (p:Plan) (hm:P.follows .mixedOrders=true) (hk:planAll ops p=true)
  (hQ:∀(c:_) (a:Act) (d:Option Tmp) (v:Value) (w:World),Q (.panic c) (a.put d v) w→Q (.panic c) a w) (hS:S w.drew) (h:Planned P ops Q S p a w.drew):(Code.region id ops true).wp P Q a w:=by
 simp only [planAll,Bool.and_eq_true,beq_iff_eq] at hk
 refine wp_region_held (S:=S) hm ?_;rw [←hk.1.1];exact zCk hk.1.2 hQ p _ a _ (by rw [hk.1.1];exact hk.2) hS h.out
theorem zCd {a:Act} {w:World} (h:Q .normal a w):Planned P ops Q S .done a w:=⟨by rw [wpPlan];exact h⟩
theorem zEf {p:Plan} {i:Nat} {o:Oper} {a:Act} {w:World} {v:Value} (ho:ops[i]?=some o) (hw:Region.wanted o (yielded ops a.tmps)=true) (hv:∀w,S w→(execOp a.eval o).run P w=.ok (.value v) w)
  (h:Planned P ops Q S p (a.put o.dst v) w):Planned P ops Q S (.take i p) a w:=⟨by rw [wpPlan];exact ⟨o,ho,v,.inl ⟨hw,hv⟩,h.out⟩⟩
theorem zAj {p:Plan} {i:Nat} {o:Oper} {a:Act} {w:World} (ho:ops[i]?=some o) (hw:Region.wanted o (yielded ops a.tmps)=true)
  (h:∀K':Act→World→Prop,Shut (∀a w,S w→Planned P ops Q S p a w→K' a w)→Oper.wp P o a w K' Q):Planned P ops Q S (.one i p) a w:=⟨by
 rw [wpPlan];refine ⟨o,ho,?_⟩;rw [if_pos hw]
 exact .inl (h _ (fun a w hS hL=>⟨hS,hL.out⟩))⟩
theorem zH {p q:Plan} {i j:Nat} {a:Act} {w:World} (h1:Planned P ops Q S (.one i p) a w) (h2:Planned P ops Q S (.one j q) a w):Planned P ops Q S (.two i j p q) a w:=⟨show wpStepP P ops Q S i (wpPlan P ops Q S p) a w∧wpStepP P ops Q S j (wpPlan P ops Q S q) a w from ⟨h1.out,h2.out⟩⟩
end
section
variable {P:Program} {ops:Array Oper} {Q:Exit→Act→World→Prop} {S:World→Prop}
def planH (ops:Array Oper) (n g:Nat):List (Bool×Nat)→Array Bool→Bool
 | [],listed=>Region.seqB .any ops g n listed
 | (true,i)::p,listed=>decide (i<n) && ((Region.ready .any ops listed).contains i && (Region.free .any ops listed i && planH ops n g p (listed.setIfInBounds i true)))
 | (false,i)::p,listed=>decide (i<n) && (decide (Region.ready .any ops listed=[i]) && planH ops n g p (listed.setIfInBounds i true))
def wpPlanG (P:Program) (ops:Array Oper) (Q:Exit→Act→World→Prop) (S:World→Prop) (n:Nat):List (Bool×Nat)→Act→World→Prop
 | [],a,w=>wpList P ops Q (ops.toList.drop n) a w
 | (true,i)::p,a,w=>∃o,ops[i]?=some o∧∃v,YieldsIf P ops S o v a∧wpPlanG P ops Q S n p (a.put o.dst v) w
 | (false,i)::p,a,w=>∃o,ops[i]?=some o∧if Region.wanted o (yielded ops a.tmps)=true then Oper.wp P o a w (fun a' w'=>S w'∧wpPlanG P ops Q S n p a' w') Q else wpPlanG P ops Q S n p (a.put o.dst undef) w
theorem zGj {n g:Nat} (hsel:Region.noSelect ops=true) (hQ:∀(c:_) (a:Act) (d:Option Tmp) (v:Value) (w:World),Q (.panic c) (a.put d v) w→Q (.panic c) a w)
  (hs:Region.sinkB .any ops n=true) (hc:Region.chainB .any ops n=true) (hn:n<ops.size) :
  ∀(p:List (Bool×Nat)) (listed:Array Bool) (a:Act) (w:World),HeadInv .any ops n listed→planH ops n g p listed=true→S w→wpPlanG P ops Q S n p a w →
   wpAnyG P ops Q S n (fun listed' a' w'=>Region.seqB .any ops g n listed'=true∧wpList P ops Q (ops.toList.drop n) a' w') p.length listed a w
 | [],listed,a,w,_,hB,_,h=>by
  rw [planH] at hB;rw [wpPlanG] at h;exact ⟨hB,h⟩
 | (true,i)::p,listed,a,w,inv,hB,hS,h=>by
  rw [planH,Bool.and_eq_true,Bool.and_eq_true,Bool.and_eq_true,decide_eq_true_eq] at hB;obtain ⟨hin,hr,hf,hB⟩:=hB;rw [wpPlanG] at h;obtain ⟨o,h0,v,hy,h⟩:=h;have hr':i∈Region.ready .any ops listed:=by simpa using hr
  exact zIm h0 (Region.noSelect_spec hsel) (fun c a w=>hQ c a o.dst v w) hs hc hn hin (fun _ _ _ hL=>seqB_ready hL.1) p.length listed a w inv (Region.free_spec h0 hf) hr' hy hS
   (zGj hsel hQ hs hc hn p _ _ w (inv.set hr' hin) hB hS h)
 | (false,i)::p,listed,a,w,inv,hB,hS,h=>by
  rw [planH,Bool.and_eq_true,Bool.and_eq_true,decide_eq_true_eq,decide_eq_true_eq] at hB;obtain ⟨hin,hr,hB⟩:=hB;rw [wpPlanG] at h;obtain ⟨o,h0,h⟩:=h;have hr':i∈Region.ready .any ops listed:=by rw [hr];simp
  refine ⟨by rw [hr];simp,fun j hj=>?_⟩;rw [hr] at hj;obtain rfl:j=i:=by simpa using hj
  refine ⟨hin,?_⟩;have ih:=fun a' w' hS'=>zGj hsel hQ hs hc hn p (listed.setIfInBounds j true) a' w' (inv.set hr' hin) hB hS';unfold wpOp;simp only [h0]
  split
  ·rename_i hw
   rw [if_pos hw] at h;exact .inl (Oper.wp_mono (fun a' w' h'=>⟨h'.1,ih a' w' h'.1 h'.2⟩) h)
  ·rename_i hw
   rw [if_neg hw] at h;exact ⟨hS,ih _ w hS h⟩
structure PlanG (P:Program) (ops:Array Oper) (Q:Exit→Act→World→Prop) (S:World→Prop) (n:Nat) (p:List (Bool×Nat)) (a:Act) (w:World):Prop where
 of ::
 out:wpPlanG P ops Q S n p a w
def planG (ops:Array Oper) (n:Nat) (p:List (Bool×Nat)):Bool:=
 Region.noSelect ops && decide (n<ops.size) && Region.sinkB .any ops n && Region.chainB .any ops n && decide (p.length=n) && planH ops n (ops.size - n) p (Array.replicate ops.size false)
theorem zBe {id:Nat} {a:Act} {w:World} (S:World→Prop) (n:Nat) (p:List (Bool×Nat)) (hm:P.follows .mixedOrders=true) (hk:planG ops n p=true)
  (hQ:∀(c:_) (a:Act) (d:Option Tmp) (v:Value) (w:World),Q (.panic c) (a.put d v) w→Q (.panic c) a w) (hS:S w.drew) (h:PlanG P ops Q S n p a w.drew):(Code.region id ops true).wp P Q a w:=by
 simp only [planG,Bool.and_eq_true,decide_eq_true_eq] at hk
 obtain ⟨⟨⟨⟨⟨hsel,hn⟩,hs⟩,hc⟩,hlen⟩,hplan⟩:=hk
 have inv0:HeadInv .any ops n (Array.replicate ops.size false):=
  ⟨by simp,fun j oj _ hl=>(by rw [getD_replicate_false] at hl;cases hl),fun t _ ht=>getD_in (by simpa using ht) (getD_replicate_false _ _)⟩
 have H:=zGj (g:=ops.size - n) hsel hQ hs hc hn p _ a w.drew inv0 hplan hS h.out;have hdl:(ops.toList.drop n).length=ops.size - n:=by simp
 refine wp_region_any hm ?_
 have:=zFv (Q:=Q) (g:=ops.size - n) (fun listed a' w' hL=>by
  have:=wpAny_of_seq (md:=.any) (Q':=Q) (ops.toList.drop n) n listed a' w' (fun j=>by simp [List.getElem?_drop]) (by rw [hdl];exact hL.1) hL.2
  rwa [hdl] at this) _ _ _ _ H
 rw [hlen,show n+(ops.size - n)=ops.size by omega] at this;exact this
theorem zBy {n:Nat} {a:Act} {w:World} (h:wpList P ops Q (ops.toList.drop n) a w):PlanG P ops Q S n [] a w:=⟨by rw [wpPlanG];exact h⟩
theorem zAy {n:Nat} {p:List (Bool×Nat)} {i:Nat} {o:Oper} {a:Act} {w:World} {v:Value} (ho:ops[i]?=some o) (hw:Region.wanted o (yielded ops a.tmps)=true) (hv:∀w,S w→(execOp a.eval o).run P w=.ok (.value v) w)
  (h:PlanG P ops Q S n p (a.put o.dst v) w):PlanG P ops Q S n ((true,i)::p) a w:=⟨by rw [wpPlanG];exact ⟨o,ho,v,.inl ⟨hw,hv⟩,h.out⟩⟩
theorem zBo {n:Nat} {p:List (Bool×Nat)} {i:Nat} {o:Oper} {a:Act} {w:World} (ho:ops[i]?=some o) (hw:Region.wanted o (yielded ops a.tmps)=true)
  (h:∀K':Act→World→Prop,Shut (∀a w,S w→PlanG P ops Q S n p a w→K' a w)→Oper.wp P o a w K' Q):PlanG P ops Q S n ((false,i)::p) a w:=⟨by
 rw [wpPlanG];refine ⟨o,ho,?_⟩;rw [if_pos hw]
 exact h _ (fun a w hS hL=>⟨hS,hL.out⟩)⟩
end
end Go.Proofs.YtfkjfdbjhlmjcaaGreatDoor
