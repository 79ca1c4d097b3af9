/- A region that draws its order, walked in an order of ours. No program in sight. -/
import Derived.Test.YtgcmekpfhagnbaaDoorRL
namespace Go.Proofs.YtgcmekpfhagnbaaDoor

section
variable {P : Program} {ops : Array Oper} {Q : Exit → Act → World → Prop} {S : World → Prop}

def ordB (ops : Array Oper) : List (Bool × Nat) → Array Bool → Bool
  | [], listed => (Region.ready .any ops listed).isEmpty
  | (true, i) :: ks, listed => (Region.ready .any ops listed).contains i && Region.free .any ops listed i && ordB ops ks (listed.setIfInBounds i true)
  | (false, i) :: ks, listed => decide (Region.ready .any ops listed = [i]) && ordB ops ks (listed.setIfInBounds i true)
def wpOrd (P : Program) (ops : Array Oper) (Q : Exit → Act → World → Prop) (S : World → Prop) : List (Bool × Nat) → Act → World → Prop
  | [], a, w => Q .normal a w
  | (true, i) :: ks, a, w => ∃ o, ops[i]? = some o ∧ ∃ v, YieldsIf P ops S o v a ∧ wpOrd P ops Q S ks (a.put o.dst v) w
  | (false, i) :: ks, a, w => ∃ o, ops[i]? = some o ∧ if Region.wanted o (yielded ops a.tmps) = true then (Oper.wp P o a w (fun a' w' => S w' ∧ wpOrd P ops Q S ks a' w') Q ∨ (o.asks P a w ∧ LetsOut Q)) else wpOrd P ops Q S ks (a.put o.dst undef) w
theorem wpAnyH_of_ord (hs : Region.noSelect ops = true) (hQ : ∀ (c : _) (a : Act) (d : Option Tmp) (v : Value) (w : World), Q (.panic c) (a.put d v) w → Q (.panic c) a w) :
    ∀ (ks : List (Bool × Nat)) (listed : Array Bool) (a : Act) (w : World), ordB ops ks listed = true → S w → wpOrd P ops Q S ks a w → wpAnyH P .any ops Q S ks.length listed a w
  | [], listed, a, w, hB, _, h => by
    rw [ordB, List.isEmpty_iff] at hB
    rw [wpOrd] at h
    exact ⟨hB, h⟩
  | (true, i) :: ks, listed, a, w, hB, hS, h => by
    rw [ordB, Bool.and_eq_true, Bool.and_eq_true] at hB
    rw [wpOrd] at h
    obtain ⟨o, h0, v, hy, h⟩ := h
    exact wpAnyH_take h0 hs hB.1.2 hB.1.1 (fun c a w => hQ c a o.dst v w) hy hS (wpAnyH_of_ord hs hQ ks _ _ w hB.2 hS h)
  | (false, k) :: ks, listed, a, w, hB, hS, h => by
    rw [ordB, Bool.and_eq_true, decide_eq_true_eq] at hB
    rw [wpOrd] at h
    obtain ⟨o, h0, h⟩ := h
    refine wpAnyH_all hB.1 (by simp) fun i hi => ?_
    obtain rfl : i = k := by simpa using hi
    unfold wpOp
    simp only [h0]
    split
    · rename_i hw
      rw [if_pos hw] at h
      rcases h with h | h
      · exact .inl (Oper.wp_mono (fun a' w' h' => ⟨h'.1, wpAnyH_of_ord hs hQ ks _ a' w' hB.2 h'.1 h'.2⟩) h)
      · exact .inr h
    · rename_i hw
      rw [if_neg hw] at h
      exact ⟨hS, wpAnyH_of_ord hs hQ ks _ _ w hB.2 hS h⟩
structure Ord (P : Program) (ops : Array Oper) (Q : Exit → Act → World → Prop) (S : World → Prop) (ks : List (Bool × Nat)) (a : Act) (w : World) : Prop where
  of ::
  out : wpOrd P ops Q S ks a w
def ordAll (ops : Array Oper) (ks : List (Bool × Nat)) : Bool := ks.length == ops.size && Region.noSelect ops && ordB ops ks (Array.replicate ops.size false)
theorem region_ord {id : Nat} {a : Act} {w : World} (S : World → Prop) (ks : List (Bool × Nat)) (hm : P.follows .mixedOrders = true) (hk : ordAll ops ks = true)
    (hQ : ∀ (c : _) (a : Act) (d : Option Tmp) (v : Value) (w : World), Q (.panic c) (a.put d v) w → Q (.panic c) a w) (hS : S w.drew) (h : S w.drew → Ord P ops Q S ks a w.drew) : (Code.region id ops true).wp P Q a w := by
  simp only [ordAll, Bool.and_eq_true, beq_iff_eq] at hk
  refine wp_region_held (S := S) hm ?_
  rw [← hk.1.1]
  exact wpAnyH_of_ord hk.1.2 hQ ks _ a _ (by rw [hk.1.1]; exact hk.2) hS (h hS).out
theorem ord_take {ks : List (Bool × Nat)} {i : Nat} {o : Oper} {a : Act} {w : World} {v : Value} (ho : ops[i]? = some o) (hw : Region.wanted o (yielded ops a.tmps) = true) (hv : ∀ w, S w → (execOp a.eval o).run P w = .ok (.value v) w)
    (h : Ord P ops Q S ks (a.put o.dst v) w) : Ord P ops Q S ((true, i) :: ks) a w := ⟨by rw [wpOrd]; exact ⟨o, ho, v, .inl ⟨hw, hv⟩, h.out⟩⟩
theorem ord_skip {b : Bool} {ks : List (Bool × Nat)} {i : Nat} {o : Oper} {a : Act} {w : World} (ho : ops[i]? = some o) (hw : Region.wanted o (yielded ops a.tmps) = false)
    (h : Ord P ops Q S ks (a.put o.dst undef) w) : Ord P ops Q S ((b, i) :: ks) a w := ⟨by
  cases b
  · rw [wpOrd]; exact ⟨o, ho, by rw [if_neg (by rw [hw]; simp)]; exact h.out⟩
  · rw [wpOrd]; exact ⟨o, ho, undef, .inr ⟨hw, rfl⟩, h.out⟩⟩
theorem ord_do {ks : List (Bool × Nat)} {i : Nat} {o : Oper} {a : Act} {w : World} (ho : ops[i]? = some o) (hw : Region.wanted o (yielded ops a.tmps) = true)
    (h : ∀ K' : Act → World → Prop, Shut (∀ a w, S w → (S w → Ord P ops Q S ks a w) → K' a w) → Oper.wp P o a w K' Q) : Ord P ops Q S ((false, i) :: ks) a w := ⟨by
  rw [wpOrd]
  refine ⟨o, ho, ?_⟩
  rw [if_pos hw]
  exact .inl (h _ (fun a w hS hL => ⟨hS, (hL hS).out⟩))⟩
/-- What follows an operation by itself: K where it goes on, Q else. -/
def nextOr (K : Act → World → Prop) (Q : Exit → Act → World → Prop) : Exit → Act → World → Prop
  | .normal, a, w => K a w
  | e, a, w => Q e a w
theorem nextOr_normal {K : Act → World → Prop} {a : Act} {w : World} (h : K a w) : nextOr K Q .normal a w := h
theorem wp_of_list {o : Oper} {a : Act} {w : World} {K : Act → World → Prop} (h : o.wp P a w (wpList P ops (nextOr K Q) []) (nextOr K Q)) : o.wp P a w K Q := by
  unfold Oper.wp at *
  generalize (execOp a.eval o).run P w = r at *
  cases r with
  | ok n w' =>
    cases n <;> simp only [Oper.upon] at h ⊢
    case value u => exact h
    case skip => exact h
    case defer d => exact h
    case enter f args =>
      refine Calls.mono h fun e w'' he => ?_
      cases e with
      | returned u => exact he
      | panicked c => exact he
      | outgrown => exact he
    case row row args => exact Rows.mono h fun u w'' he => he
  | halt x w' =>
    cases x <;> simp only [Oper.upon] at h ⊢
    case panic u => exact h
/-- An operation that comes up alone, met by the laws on a list of operations. -/
theorem ord_doL {ks : List (Bool × Nat)} {i : Nat} {o : Oper} {a : Act} {w : World} (ho : ops[i]? = some o) (hw : Region.wanted o (yielded ops a.tmps) = true)
    (h : ∀ K' : Act → World → Prop, Shut (∀ a w, S w → (S w → Ord P ops Q S ks a w) → K' a w) → wpList P ops (nextOr K' Q) [o] a w) : Ord P ops Q S ((false, i) :: ks) a w := ⟨by
  have := h _ (fun a w hS hL => (⟨hS, (hL hS).out⟩ : S w ∧ wpOrd P ops Q S ks a w))
  rw [wpOrd]
  refine ⟨o, ho, ?_⟩
  rw [if_pos hw]
  rw [wpList, if_pos hw] at this
  rcases this with h1 | ⟨h1, a', w', h2⟩
  · exact .inl (wp_of_list h1)
  · exact .inr ⟨h1, a', w', h2⟩⟩
theorem ord_end {a : Act} {w : World} (h : Q .normal a w) : Ord P ops Q S [] a w := ⟨by rw [wpOrd]; exact h⟩
end
end Go.Proofs.YtgcmekpfhagnbaaDoor
