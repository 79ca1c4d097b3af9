/- A region that draws its order, where two operations with effects may come in either order: a plan with forks. -/
import Derived.Test.YtidkpnabdfiilaaGreatDoorQ08
namespace Go.Proofs.YtidkpnabdfiilaaGreatDoor

inductive Plan where
  | done : Plan
  | take : Nat → Plan → Plan
  | one : Nat → Plan → Plan
  | two : Nat → Nat → Plan → Plan → Plan
def Plan.len : Plan → Nat
  | .done => 0
  | .take _ p => p.len + 1
  | .one _ p => p.len + 1
  | .two _ _ p _ => p.len + 1
section
variable {P : Program} {ops : Array Oper} {Q : Exit → Act → World → Prop} {S : World → Prop}
def planB (ops : Array Oper) : Plan → Array Bool → Bool
  | .done, listed => (Region.ready .any ops listed).isEmpty
  | .take i p, listed => (Region.ready .any ops listed).contains i && Region.free .any ops listed i && planB ops p (listed.setIfInBounds i true)
  | .one i p, listed => decide (Region.ready .any ops listed = [i]) && planB ops p (listed.setIfInBounds i true)
  | .two i j p q, listed => decide (Region.ready .any ops listed = [i, j]) && decide (p.len = q.len) && planB ops p (listed.setIfInBounds i true) && planB ops q (listed.setIfInBounds j true)
def wpStepP (P : Program) (ops : Array Oper) (Q : Exit → Act → World → Prop) (S : World → Prop) (i : Nat) (K : Act → World → Prop) (a : Act) (w : World) : Prop :=
  ∃ o, ops[i]? = some o ∧ if Region.wanted o (yielded ops a.tmps) = true then (Oper.wp P o a w (fun a' w' => S w' ∧ K a' w') Q ∨ (o.asks P a w ∧ LetsOut Q)) else K (a.put o.dst undef) w
def wpPlan (P : Program) (ops : Array Oper) (Q : Exit → Act → World → Prop) (S : World → Prop) : Plan → Act → World → Prop
  | .done, a, w => Q .normal a w
  | .take i p, a, w => ∃ o, ops[i]? = some o ∧ ∃ v, YieldsIf P ops S o v a ∧ wpPlan P ops Q S p (a.put o.dst v) w
  | .one i p, a, w => wpStepP P ops Q S i (wpPlan P ops Q S p) a w
  | .two i j p q, a, w => wpStepP P ops Q S i (wpPlan P ops Q S p) a w ∧ wpStepP P ops Q S j (wpPlan P ops Q S q) a w
theorem wpOp_of_step {n i : Nat} {listed : Array Bool} {p : Plan} {a : Act} {w : World} (hS : S w) (ih : ∀ a w, S w → wpPlan P ops Q S p a w → wpAnyH P .any ops Q S n (listed.setIfInBounds i true) a w)
    (h : wpStepP P ops Q S i (wpPlan P ops Q S p) a w) : wpOp P ops Q i (fun a' w' => S w' ∧ wpAnyH P .any ops Q S n (listed.setIfInBounds i true) a' w') a w := by
  obtain ⟨o, h0, h⟩ := h
  unfold wpOp
  simp only [h0]
  split
  · rename_i hw
    rw [if_pos hw] at h
    rcases h with h | h
    · exact .inl (Oper.wp_mono (fun a' w' h' => ⟨h'.1, ih a' w' h'.1 h'.2⟩) h)
    · exact .inr h
  · rename_i hw
    rw [if_neg hw] at h
    exact ⟨hS, ih _ w hS h⟩
theorem wpAnyH_of_plan (hs : Region.noSelect ops = true) (hQ : ∀ (c : _) (a : Act) (d : Option Tmp) (v : Value) (w : World), Q (.panic c) (a.put d v) w → Q (.panic c) a w) :
    ∀ (p : Plan) (listed : Array Bool) (a : Act) (w : World), planB ops p listed = true → S w → wpPlan P ops Q S p a w → wpAnyH P .any ops Q S p.len listed a w
  | .done, listed, a, w, hB, _, h => by
    rw [planB, List.isEmpty_iff] at hB
    rw [wpPlan] at h
    exact ⟨hB, h⟩
  | .take i p, listed, a, w, hB, hS, h => by
    rw [planB, Bool.and_eq_true, Bool.and_eq_true] at hB
    rw [wpPlan] at h
    obtain ⟨o, h0, v, hy, h⟩ := h
    exact wpAnyH_take h0 hs hB.1.2 hB.1.1 (fun c a w => hQ c a o.dst v w) hy hS (wpAnyH_of_plan hs hQ p _ _ w hB.2 hS h)
  | .one k p, listed, a, w, hB, hS, h => by
    rw [planB, Bool.and_eq_true, decide_eq_true_eq] at hB
    rw [wpPlan] at h
    refine wpAnyH_all hB.1 (by simp) fun i hi => ?_
    obtain rfl : i = k := by simpa using hi
    exact wpOp_of_step hS (fun a w hS h => wpAnyH_of_plan hs hQ p _ a w hB.2 hS h) h
  | .two j k p q, listed, a, w, hB, hS, h => by
    rw [planB, Bool.and_eq_true, Bool.and_eq_true, Bool.and_eq_true, decide_eq_true_eq, decide_eq_true_eq] at hB
    rw [wpPlan] at h
    refine wpAnyH_all hB.1.1.1 (by simp) fun i hi => ?_
    have hi' : i = j ∨ i = k := by simpa using hi
    rcases hi' with rfl | rfl
    · exact wpOp_of_step hS (fun a w hS h => wpAnyH_of_plan hs hQ p _ a w hB.1.2 hS h) h.1
    · exact wpOp_of_step hS (fun a w hS h => by have := wpAnyH_of_plan hs hQ q _ a w hB.2 hS h; rwa [← hB.1.1.2] at this) h.2
structure Planned (P : Program) (ops : Array Oper) (Q : Exit → Act → World → Prop) (S : World → Prop) (p : Plan) (a : Act) (w : World) : Prop where
  of ::
  out : wpPlan P ops Q S p a w
def planAll (ops : Array Oper) (p : Plan) : Bool := p.len == ops.size && Region.noSelect ops && planB ops p (Array.replicate ops.size false)
theorem region_plan {id : Nat} {a : Act} {w : World} (S : World → Prop) (p : Plan) (hm : P.follows .mixedOrders = true) (hk : planAll ops p = true)
    (hQ : ∀ (c : _) (a : Act) (d : Option Tmp) (v : Value) (w : World), Q (.panic c) (a.put d v) w → Q (.panic c) a w) (hS : S w.drew) (h : Planned P ops Q S p a w.drew) : (Code.region id ops true).wp P Q a w := by
  simp only [planAll, Bool.and_eq_true, beq_iff_eq] at hk
  refine wp_region_held (S := S) hm ?_
  rw [← hk.1.1]
  exact wpAnyH_of_plan hk.1.2 hQ p _ a _ (by rw [hk.1.1]; exact hk.2) hS h.out
theorem plan_done {a : Act} {w : World} (h : Q .normal a w) : Planned P ops Q S .done a w := ⟨by rw [wpPlan]; exact h⟩
theorem plan_take {p : Plan} {i : Nat} {o : Oper} {a : Act} {w : World} {v : Value} (ho : ops[i]? = some o) (hw : Region.wanted o (yielded ops a.tmps) = true) (hv : ∀ w, S w → (execOp a.eval o).run P w = .ok (.value v) w)
    (h : Planned P ops Q S p (a.put o.dst v) w) : Planned P ops Q S (.take i p) a w := ⟨by rw [wpPlan]; exact ⟨o, ho, v, .inl ⟨hw, hv⟩, h.out⟩⟩
theorem plan_one {p : Plan} {i : Nat} {o : Oper} {a : Act} {w : World} (ho : ops[i]? = some o) (hw : Region.wanted o (yielded ops a.tmps) = true)
    (h : ∀ K' : Act → World → Prop, Shut (∀ a w, S w → Planned P ops Q S p a w → K' a w) → Oper.wp P o a w K' Q) : Planned P ops Q S (.one i p) a w := ⟨by
  rw [wpPlan]
  refine ⟨o, ho, ?_⟩
  rw [if_pos hw]
  exact .inl (h _ (fun a w hS hL => ⟨hS, hL.out⟩))⟩
theorem plan_two {p q : Plan} {i j : Nat} {a : Act} {w : World} (h1 : Planned P ops Q S (.one i p) a w) (h2 : Planned P ops Q S (.one j q) a w) : Planned P ops Q S (.two i j p q) a w := ⟨show wpStepP P ops Q S i (wpPlan P ops Q S p) a w ∧ wpStepP P ops Q S j (wpPlan P ops Q S q) a w from ⟨h1.out, h2.out⟩⟩
end
end Go.Proofs.YtidkpnabdfiilaaGreatDoor
