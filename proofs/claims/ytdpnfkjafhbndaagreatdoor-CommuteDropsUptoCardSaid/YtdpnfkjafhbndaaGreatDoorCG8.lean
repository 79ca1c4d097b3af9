/- A region that draws its order, where up to three effects may come next: a plan with forks (G3's region_plan, one fork more). -/
import Derived.Test.YtdpnfkjafhbndaaGreatDoorCGC
namespace Go.Proofs.YtdpnfkjafhbndaaGreatDoor
open Go.RowKit
inductive PlanT where
 | done:PlanT
 | take:Nat→PlanT→PlanT
 | one:Nat→PlanT→PlanT
 | two:Nat→Nat→PlanT→PlanT→PlanT
 | three:Nat→Nat→Nat→PlanT→PlanT→PlanT→PlanT
section
variable {P:Program} {ops:Array Oper} {Q:Exit→Act→World→Prop} {S:World→Prop}
def planTB (ops:Array Oper):Nat→PlanT→Array Bool→Bool
 | 0,.done,listed => (Region.ready .any ops listed).isEmpty
 | n + 1,.take i p,listed => (Region.ready .any ops listed).contains i && Region.free .any ops listed i && planTB ops n p (listed.setIfInBounds i true)
 | n + 1,.one i p,listed => decide (Region.ready .any ops listed = [i]) && planTB ops n p (listed.setIfInBounds i true)
 | n + 1,.two i j p q,listed => decide (Region.ready .any ops listed = [i,j]) && planTB ops n p (listed.setIfInBounds i true) && planTB ops n q (listed.setIfInBounds j true)
 | n + 1,.three i j k p q r,listed => decide (Region.ready .any ops listed = [i,j,k]) && planTB ops n p (listed.setIfInBounds i true) && planTB ops n q (listed.setIfInBounds j true) && planTB ops n r (listed.setIfInBounds k true)
 | _,_,_ => false
def wpPlanT (P:Program) (ops:Array Oper) (Q:Exit→Act→World→Prop) (S:World→Prop):PlanT→Act→World→Prop
 | .done,a,w => Q .normal a w
 | .take i p,a,w => ∃ o,ops[i]? = some o∧∃ v,YieldsIf P ops S o v a∧wpPlanT P ops Q S p (a.put o.dst v) w
 | .one i p,a,w => wpStepP P ops Q S i (wpPlanT P ops Q S p) a w
 | .two i j p q,a,w => wpStepP P ops Q S i (wpPlanT P ops Q S p) a w∧wpStepP P ops Q S j (wpPlanT P ops Q S q) a w
 | .three i j k p q r,a,w => wpStepP P ops Q S i (wpPlanT P ops Q S p) a w∧wpStepP P ops Q S j (wpPlanT P ops Q S q) a w∧wpStepP P ops Q S k (wpPlanT P ops Q S r) a w
theorem wpOp_of_stepT {n i:Nat} {listed:Array Bool} {K:Act→World→Prop} {a:Act} {w:World} (hS:S w) (ih:∀ a w,S w→K a w→wpAnyH P .any ops Q S n (listed.setIfInBounds i true) a w)
  (h:wpStepP P ops Q S i K a w):wpOp P ops Q i (fun a' w' => S w'∧wpAnyH P .any ops Q S n (listed.setIfInBounds i true) a' w') a w:=by
 obtain ⟨o,h0,h⟩:=h;unfold wpOp;simp only [h0]
 split
 ·rename_i hw
  rw [if_pos hw] at h
  rcases h with h | h
  ·exact .inl (Oper.wp_mono (fun a' w' h' => ⟨h'.1,ih a' w' h'.1 h'.2⟩) h)
  ·exact .inr h
 ·rename_i hw
  rw [if_neg hw] at h;exact ⟨hS,ih _ w hS h⟩
theorem wpAnyH_of_planT (hs:Region.noSelect ops = true) (hQ:∀ (c:_) (a:Act) (d:Option Tmp) (v:Value) (w:World),Q (.panic c) (a.put d v) w→Q (.panic c) a w) :
  ∀ (n:Nat) (p:PlanT) (listed:Array Bool) (a:Act) (w:World),planTB ops n p listed = true→S w→wpPlanT P ops Q S p a w→wpAnyH P .any ops Q S n listed a w
 | 0,.done,listed,a,w,hB,_,h => by
  rw [planTB,List.isEmpty_iff] at hB;rw [wpPlanT] at h;exact ⟨hB,h⟩
 | n + 1,.take i p,listed,a,w,hB,hS,h => by
  rw [planTB,Bool.and_eq_true,Bool.and_eq_true] at hB;rw [wpPlanT] at h;obtain ⟨o,h0,v,hy,h⟩:=h;exact wpAnyH_take h0 hs hB.1.2 hB.1.1 (fun c a w => hQ c a o.dst v w) hy hS (wpAnyH_of_planT hs hQ n p _ _ w hB.2 hS h)
 | n + 1,.one k p,listed,a,w,hB,hS,h => by
  rw [planTB,Bool.and_eq_true,decide_eq_true_eq] at hB;rw [wpPlanT] at h;refine wpAnyH_all hB.1 (by simp) fun i hi => ?_;obtain rfl:i = k:=by simpa using hi
  exact wpOp_of_stepT hS (fun a w hS h => wpAnyH_of_planT hs hQ n p _ a w hB.2 hS h) h
 | n + 1,.two j k p q,listed,a,w,hB,hS,h => by
  rw [planTB,Bool.and_eq_true,Bool.and_eq_true,decide_eq_true_eq] at hB;rw [wpPlanT] at h;refine wpAnyH_all hB.1.1 (by simp) fun i hi => ?_;have hi':i = j∨i = k:=by simpa using hi
  rcases hi' with rfl | rfl
  ·exact wpOp_of_stepT hS (fun a w hS h => wpAnyH_of_planT hs hQ n p _ a w hB.1.2 hS h) h.1
  ·exact wpOp_of_stepT hS (fun a w hS h => wpAnyH_of_planT hs hQ n q _ a w hB.2 hS h) h.2
 | n + 1,.three j k l p q r,listed,a,w,hB,hS,h => by
  rw [planTB,Bool.and_eq_true,Bool.and_eq_true,Bool.and_eq_true,decide_eq_true_eq] at hB;rw [wpPlanT] at h;refine wpAnyH_all hB.1.1.1 (by simp) fun i hi => ?_;have hi':i = j∨i = k∨i = l:=by simpa using hi
  rcases hi' with rfl | rfl | rfl
  ·exact wpOp_of_stepT hS (fun a w hS h => wpAnyH_of_planT hs hQ n p _ a w hB.1.1.2 hS h) h.1
  ·exact wpOp_of_stepT hS (fun a w hS h => wpAnyH_of_planT hs hQ n q _ a w hB.1.2 hS h) h.2.1
  ·exact wpOp_of_stepT hS (fun a w hS h => wpAnyH_of_planT hs hQ n r _ a w hB.2 hS h) h.2.2
 | 0,.take _ _,_,_,_,hB,_,_ => by simp [planTB] at hB
 | 0,.one _ _,_,_,_,hB,_,_ => by simp [planTB] at hB
 | 0,.two _ _ _ _,_,_,_,hB,_,_ => by simp [planTB] at hB
 | 0,.three _ _ _ _ _ _,_,_,_,hB,_,_ => by simp [planTB] at hB
 | n + 1,.done,_,_,_,hB,_,_ => by simp [planTB] at hB
structure PlannedT (P:Program) (ops:Array Oper) (Q:Exit→Act→World→Prop) (S:World→Prop) (p:PlanT) (a:Act) (w:World):Prop where
 of ::
 out:wpPlanT P ops Q S p a w
def planTAll (ops:Array Oper) (p:PlanT):Bool:=Region.noSelect ops && planTB ops ops.size p (Array.replicate ops.size false)
theorem region_planT {id:Nat} {a:Act} {w:World} (S:World→Prop) (p:PlanT) (hm:P.follows .mixedOrders = true) (hk:planTAll ops p = true)
  (hQ:∀ (c:_) (a:Act) (d:Option Tmp) (v:Value) (w:World),Q (.panic c) (a.put d v) w→Q (.panic c) a w) (hS:S w.drew) (h:PlannedT P ops Q S p a w.drew):(Code.region id ops true).wp P Q a w:=by
 simp only [planTAll,Bool.and_eq_true] at hk
 exact wp_region_held (S:=S) hm (wpAnyH_of_planT hk.1 hQ _ p _ a _ hk.2 hS h.out)
theorem planT_done {a:Act} {w:World} (h:Q .normal a w):PlannedT P ops Q S .done a w:=⟨by rw [wpPlanT];exact h⟩
theorem planT_take {p:PlanT} {i:Nat} {o:Oper} {a:Act} {w:World} {v:Value} (ho:ops[i]? = some o) (hw:Region.wanted o (yielded ops a.tmps) = true) (hv:∀ w,S w→(execOp a.eval o).run P w = .ok (.value v) w)
  (h:PlannedT P ops Q S p (a.put o.dst v) w):PlannedT P ops Q S (.take i p) a w:=⟨by rw [wpPlanT];exact ⟨o,ho,v,.inl ⟨hw,hv⟩,h.out⟩⟩
theorem planT_one {p:PlanT} {i:Nat} {o:Oper} {a:Act} {w:World} (ho:ops[i]? = some o) (hw:Region.wanted o (yielded ops a.tmps) = true)
  (h:∀ K':Act→World→Prop,Shut (∀ a w,S w→PlannedT P ops Q S p a w→K' a w)→Oper.wp P o a w K' Q):PlannedT P ops Q S (.one i p) a w:=⟨by
 rw [wpPlanT];refine ⟨o,ho,?_⟩;rw [if_pos hw]
 exact .inl (h _ (fun a w hS hL => ⟨hS,hL.out⟩))⟩
theorem planT_two {p q:PlanT} {i j:Nat} {a:Act} {w:World} (h1:PlannedT P ops Q S (.one i p) a w) (h2:PlannedT P ops Q S (.one j q) a w):PlannedT P ops Q S (.two i j p q) a w:=
 ⟨show wpStepP P ops Q S i (wpPlanT P ops Q S p) a w∧wpStepP P ops Q S j (wpPlanT P ops Q S q) a w from ⟨h1.out,h2.out⟩⟩
theorem planT_three {p q r:PlanT} {i j k:Nat} {a:Act} {w:World} (h1:PlannedT P ops Q S (.one i p) a w) (h2:PlannedT P ops Q S (.one j q) a w) (h3:PlannedT P ops Q S (.one k r) a w):PlannedT P ops Q S (.three i j k p q r) a w:=
 ⟨show wpStepP P ops Q S i (wpPlanT P ops Q S p) a w∧wpStepP P ops Q S j (wpPlanT P ops Q S q) a w∧wpStepP P ops Q S k (wpPlanT P ops Q S r) a w from ⟨h1.out,h2.out,h3.out⟩⟩
end
end Go.Proofs.YtdpnfkjafhbndaaGreatDoor

