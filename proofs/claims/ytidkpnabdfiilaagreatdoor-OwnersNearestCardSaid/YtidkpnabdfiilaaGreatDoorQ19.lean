/- A region that draws its order, where two operations with effects may come in either order: a plan with forks. The reference of chapters 1 and 7 at a blob: put, PutInt, PutText, number, text, zero, only, fields, encode, Check. The reference of chapters 1 and 7 at a blob: PutInt, PutText, number, text, zero, only, fields, encode, Check; blob of chapter 9. -/
import Derived.Test.YtidkpnabdfiilaaGreatDoorQ08
import Derived.Test.YtidkpnabdfiilaaGreatDoorQ10
import Derived.Lib.SlBytesRow
namespace Go.Proofs.YtidkpnabdfiilaaGreatDoor

inductive Plan where
  | done : Plan
  | take : Nat → Plan → Plan
  | one : Nat → Plan → Plan
  | two : Nat → Nat → Plan → Plan → Plan
def Plan.len : Plan → Nat
  | .done => 0
  | .take _ p => p.len + 1
  | .one _ p => p.len + 1
  | .two _ _ p _ => p.len + 1
section
variable {P : Program} {ops : Array Oper} {Q : Exit → Act → World → Prop} {S : World → Prop}
def planB (ops : Array Oper) : Plan → Array Bool → Bool
  | .done, listed => (Region.ready .any ops listed).isEmpty
  | .take i p, listed => (Region.ready .any ops listed).contains i && Region.free .any ops listed i && planB ops p (listed.setIfInBounds i true)
  | .one i p, listed => decide (Region.ready .any ops listed = [i]) && planB ops p (listed.setIfInBounds i true)
  | .two i j p q, listed => decide (Region.ready .any ops listed = [i, j]) && decide (p.len = q.len) && planB ops p (listed.setIfInBounds i true) && planB ops q (listed.setIfInBounds j true)
def wpStepP (P : Program) (ops : Array Oper) (Q : Exit → Act → World → Prop) (S : World → Prop) (i : Nat) (K : Act → World → Prop) (a : Act) (w : World) : Prop :=
  ∃ o, ops[i]? = some o ∧ if Region.wanted o (yielded ops a.tmps) = true then (Oper.wp P o a w (fun a' w' => S w' ∧ K a' w') Q ∨ (o.asks P a w ∧ LetsOut Q)) else K (a.put o.dst undef) w
def wpPlan (P : Program) (ops : Array Oper) (Q : Exit → Act → World → Prop) (S : World → Prop) : Plan → Act → World → Prop
  | .done, a, w => Q .normal a w
  | .take i p, a, w => ∃ o, ops[i]? = some o ∧ ∃ v, YieldsIf P ops S o v a ∧ wpPlan P ops Q S p (a.put o.dst v) w
  | .one i p, a, w => wpStepP P ops Q S i (wpPlan P ops Q S p) a w
  | .two i j p q, a, w => wpStepP P ops Q S i (wpPlan P ops Q S p) a w ∧ wpStepP P ops Q S j (wpPlan P ops Q S q) a w
theorem wpOp_of_step {n i : Nat} {listed : Array Bool} {p : Plan} {a : Act} {w : World} (hS : S w) (ih : ∀ a w, S w → wpPlan P ops Q S p a w → wpAnyH P .any ops Q S n (listed.setIfInBounds i true) a w)
    (h : wpStepP P ops Q S i (wpPlan P ops Q S p) a w) : wpOp P ops Q i (fun a' w' => S w' ∧ wpAnyH P .any ops Q S n (listed.setIfInBounds i true) a' w') a w := by
  obtain ⟨o, h0, h⟩ := h
  unfold wpOp
  simp only [h0]
  split
  · rename_i hw
    rw [if_pos hw] at h
    rcases h with h | h
    · exact .inl (Oper.wp_mono (fun a' w' h' => ⟨h'.1, ih a' w' h'.1 h'.2⟩) h)
    · exact .inr h
  · rename_i hw
    rw [if_neg hw] at h
    exact ⟨hS, ih _ w hS h⟩
theorem wpAnyH_of_plan (hs : Region.noSelect ops = true) (hQ : ∀ (c : _) (a : Act) (d : Option Tmp) (v : Value) (w : World), Q (.panic c) (a.put d v) w → Q (.panic c) a w) :
    ∀ (p : Plan) (listed : Array Bool) (a : Act) (w : World), planB ops p listed = true → S w → wpPlan P ops Q S p a w → wpAnyH P .any ops Q S p.len listed a w
  | .done, listed, a, w, hB, _, h => by
    rw [planB, List.isEmpty_iff] at hB
    rw [wpPlan] at h
    exact ⟨hB, h⟩
  | .take i p, listed, a, w, hB, hS, h => by
    rw [planB, Bool.and_eq_true, Bool.and_eq_true] at hB
    rw [wpPlan] at h
    obtain ⟨o, h0, v, hy, h⟩ := h
    exact wpAnyH_take h0 hs hB.1.2 hB.1.1 (fun c a w => hQ c a o.dst v w) hy hS (wpAnyH_of_plan hs hQ p _ _ w hB.2 hS h)
  | .one k p, listed, a, w, hB, hS, h => by
    rw [planB, Bool.and_eq_true, decide_eq_true_eq] at hB
    rw [wpPlan] at h
    refine wpAnyH_all hB.1 (by simp) fun i hi => ?_
    obtain rfl : i = k := by simpa using hi
    exact wpOp_of_step hS (fun a w hS h => wpAnyH_of_plan hs hQ p _ a w hB.2 hS h) h
  | .two j k p q, listed, a, w, hB, hS, h => by
    rw [planB, Bool.and_eq_true, Bool.and_eq_true, Bool.and_eq_true, decide_eq_true_eq, decide_eq_true_eq] at hB
    rw [wpPlan] at h
    refine wpAnyH_all hB.1.1.1 (by simp) fun i hi => ?_
    have hi' : i = j ∨ i = k := by simpa using hi
    rcases hi' with rfl | rfl
    · exact wpOp_of_step hS (fun a w hS h => wpAnyH_of_plan hs hQ p _ a w hB.1.2 hS h) h.1
    · exact wpOp_of_step hS (fun a w hS h => by have := wpAnyH_of_plan hs hQ q _ a w hB.2 hS h; rwa [← hB.1.1.2] at this) h.2
structure Planned (P : Program) (ops : Array Oper) (Q : Exit → Act → World → Prop) (S : World → Prop) (p : Plan) (a : Act) (w : World) : Prop where
  of ::
  out : wpPlan P ops Q S p a w
def planAll (ops : Array Oper) (p : Plan) : Bool := p.len == ops.size && Region.noSelect ops && planB ops p (Array.replicate ops.size false)
theorem region_plan {id : Nat} {a : Act} {w : World} (S : World → Prop) (p : Plan) (hm : P.follows .mixedOrders = true) (hk : planAll ops p = true)
    (hQ : ∀ (c : _) (a : Act) (d : Option Tmp) (v : Value) (w : World), Q (.panic c) (a.put d v) w → Q (.panic c) a w) (hS : S w.drew) (h : Planned P ops Q S p a w.drew) : (Code.region id ops true).wp P Q a w := by
  simp only [planAll, Bool.and_eq_true, beq_iff_eq] at hk
  refine wp_region_held (S := S) hm ?_
  rw [← hk.1.1]
  exact wpAnyH_of_plan hk.1.2 hQ p _ a _ (by rw [hk.1.1]; exact hk.2) hS h.out
theorem plan_done {a : Act} {w : World} (h : Q .normal a w) : Planned P ops Q S .done a w := ⟨by rw [wpPlan]; exact h⟩
theorem plan_take {p : Plan} {i : Nat} {o : Oper} {a : Act} {w : World} {v : Value} (ho : ops[i]? = some o) (hw : Region.wanted o (yielded ops a.tmps) = true) (hv : ∀ w, S w → (execOp a.eval o).run P w = .ok (.value v) w)
    (h : Planned P ops Q S p (a.put o.dst v) w) : Planned P ops Q S (.take i p) a w := ⟨by rw [wpPlan]; exact ⟨o, ho, v, .inl ⟨hw, hv⟩, h.out⟩⟩
theorem plan_one {p : Plan} {i : Nat} {o : Oper} {a : Act} {w : World} (ho : ops[i]? = some o) (hw : Region.wanted o (yielded ops a.tmps) = true)
    (h : ∀ K' : Act → World → Prop, Shut (∀ a w, S w → Planned P ops Q S p a w → K' a w) → Oper.wp P o a w K' Q) : Planned P ops Q S (.one i p) a w := ⟨by
  rw [wpPlan]
  refine ⟨o, ho, ?_⟩
  rw [if_pos hw]
  exact .inl (h _ (fun a w hS hL => ⟨hS, hL.out⟩))⟩
theorem plan_two {p q : Plan} {i j : Nat} {a : Act} {w : World} (h1 : Planned P ops Q S (.one i p) a w) (h2 : Planned P ops Q S (.one j q) a w) : Planned P ops Q S (.two i j p q) a w := ⟨show wpStepP P ops Q S i (wpPlan P ops Q S p) a w ∧ wpStepP P ops Q S j (wpPlan P ops Q S q) a w from ⟨h1.out, h2.out⟩⟩
end
end Go.Proofs.YtidkpnabdfiilaaGreatDoor

namespace Go.Proofs.YtidkpnabdfiilaaGreatDoor
open Go.RowKit Go.Shelf
attribute [local go_sem] Oper.semAt_some

def u8of (n : Int) : ByteArray := ⟨#[UInt8.ofNat n.toNat]⟩
theorem u8of_size (n : Int) : (u8of n).size = 1 := rfl
theorem run_conv1 (w : World) (x : Int) (h0 : 0 ≤ x) (h1 : x < 256) :
    (convert 66 9 (.slice (some ⟨w.heap.size, 0, none⟩) 1 1)).run Tryz.prog (w.alloc (.cells #[.int .u8 x] 5)) = .ok (.string (u8of x)) (w.alloc (.cells #[.int .u8 x] 5)) := by
  refine Lib.run_convert_whole _ _ 5 _ Tryz.underlying66 Tryz.underlying5 Tryz.underlying9 w.heap.size 0 (u8of x) (fun i hi => ?_) 1
  have hi' : i < 1 := hi
  obtain rfl : i = 0 := by omega
  rw [show (w.alloc (.cells #[.int .u8 x] 5)).cell? ⟨w.heap.size, 0 + 0, none⟩ = some (.int .u8 x) by simp]
  have : ((u8of x)[0]'hi).toNat = x.toNat := by
    show (UInt8.ofNat x.toNat).toNat = _
    rw [UInt8.toNat_ofNat']; omega
  rw [this]
  congr 2; omega
theorem r1put_one (n : Int) (h0 : 0 ≤ n) (h1 : n < 128) (w : World) : Calls Tryz.prog 166 #[.int .i64 n] w fun e w' => e = .returned (.string (u8of n)) ∧ Below w.heap.size w w' := by
  have hd : decide (n < 128) = true := decide_eq_true h1
  have hc := run_conv1 w n h0 (by omega)
  have hw : IntKind.wrap .u8 n = n := by simp [IntKind.wrap, IntKind.signed, IntKind.bits]; omega
  go_enter Tryz.func166, Tryz.ntmps166
  go_wp2
  go_ret
  exact ⟨rfl, qalloc _ _⟩
theorem run_convC (w : World) (b : Nat) (x : Int) (h0 : 0 ≤ x) (h1 : x < 256) (hc : w.cell? ⟨b, 0, none⟩ = some (.int .u8 x)) :
    (convert 66 9 (.slice (some ⟨b, 0, none⟩) 1 1)).run Tryz.prog w = .ok (.string (u8of x)) w := by
  refine Lib.run_convert_whole _ _ 5 _ Tryz.underlying66 Tryz.underlying5 Tryz.underlying9 b 0 (u8of x) (fun i hi => ?_) 1
  have hi' : i < 1 := hi
  obtain rfl : i = 0 := by omega
  rw [show w.cell? ⟨b, 0 + 0, none⟩ = some (.int .u8 x) from hc]
  have : ((u8of x)[0]'hi).toNat = x.toNat := by
    show (UInt8.ofNat x.toNat).toNat = _
    rw [UInt8.toNat_ofNat']; omega
  rw [this]
  congr 2; omega
set_option maxHeartbeats 1000000 in
theorem r1put_two (n : Int) (h0 : 128 ≤ n) (h1 : n < 16384) (w : World) : Calls Tryz.prog 166 #[.int .i64 n] w fun e w' => (∃ x : ByteArray, e = .returned (.string x) ∧ x.size ≤ 2) ∧ Below w.heap.size w w' := by
  have hd : decide (n < 128) = false := decide_eq_false (by omega)
  go_enter Tryz.func166, Tryz.ntmps166
  go_wp2
  refine wp_region_noPanic (region_plan (fun _ => True) (.take 0 (.take 1 (.take 2 (.take 3 (.take 6 (.take 7 (.two 4 8 (.two 5 8 (.one 8 (.one 9 (.one 10 .done))) (.one 5 (.one 9 (.one 10 .done)))) (.one 4 (.one 5 (.one 9 (.one 10 .done))))))))))) mixedK (by kernel_rfl) (fun _ _ _ _ _ h => h) trivial ?_)
  iterate 6 (refine plan_take (v := ?_) rfl (by rfl) ?_ ?_; rotate_left; (focus (intro wq hSw; (try dsimp only at hSw); go_simp; (try rw [if_neg (by first | omega | (simp; omega))]); (try with_reducible rfl))); (try simp only [List.getElem_toArray, List.getElem_cons_succ, List.getElem_cons_zero, Act.put, List.setIfInBounds_toArray, List.set_cons_zero, List.set_cons_succ]))
  have hc : 0 ≤ IntKind.u8.wrap (IntKind.i64.wrap (128 + n.tmod 128)) ∧ IntKind.u8.wrap (IntKind.i64.wrap (128 + n.tmod 128)) < 256 := by
    simp [IntKind.wrap, IntKind.signed, IntKind.bits]; omega
  have hq : 0 ≤ IntKind.i64.wrap (n.tdiv 128) ∧ IntKind.i64.wrap (n.tdiv 128) < 128 := by
    have : n.tdiv 128 = n / 128 := Int.tdiv_eq_ediv_of_nonneg (by omega)
    simp [IntKind.wrap, IntKind.signed, IntKind.bits, this]; omega
  generalize IntKind.u8.wrap (IntKind.i64.wrap (128 + n.tmod 128)) = c at *
  generalize IntKind.i64.wrap (n.tdiv 128) = q at *
  have HP := Lib.hid (r1put_one q hq.1 hq.2)
  have HC := Lib.hid (fun (w : World) (b : Nat) => run_convC w b c hc.1 hc.2)
  have hsz : ¬ (9223372036854775807 < (u8of c).size + (u8of q).size) := by rw [u8of_size, u8of_size]; omega
  have hxs : (u8of c ++ u8of q).size ≤ 2 := by rw [ByteArray.size_append, u8of_size, u8of_size]; omega
  generalize u8of q = U at *
  generalize u8of c = V at *
  clear hc hq
  refine plan_two ?_ ?_
  · (refine plan_one rfl (by rfl) (fun K hK => ?_); go_simp)
    have hW : Below w.heap.size w (w.alloc (.cells #[.int .u8 c] 5)).drew := (qalloc _ _).drew
    have hc1 : (w.alloc (.cells #[.int .u8 c] 5)).drew.cell? ⟨w.heap.size, 0, none⟩ = some (.int .u8 c) := by simp
    generalize (w.alloc (.cells #[.int .u8 c] 5)).drew = W1 at *
    refine hK.out _ _ trivial ?_
    clear hK K
    (try simp only [List.getElem_toArray, List.getElem_cons_succ, List.getElem_cons_zero, Act.put, List.setIfInBounds_toArray, List.set_cons_zero, List.set_cons_succ])
    refine plan_two ?_ ?_
    · have kc := HC.out W1 _ hc1
      (refine plan_one rfl (by rfl) (fun K hK => ?_); go_simp)
      (refine hK.out _ _ trivial ?_; clear hK K; (try simp only [List.getElem_toArray, List.getElem_cons_succ, List.getElem_cons_zero, Act.put, List.setIfInBounds_toArray, List.set_cons_zero, List.set_cons_succ]))
      (refine plan_one rfl (by rfl) (fun K hK => ?_); go_simp)
      refine (HP.out _).mono ?_
      rintro e w2 ⟨rfl, hb⟩
      (try go_simp)
      have hB2 := qtrans hW hb
      clear hc1 kc hW hb
      (refine hK.out _ _ trivial ?_; clear hK K; (try simp only [List.getElem_toArray, List.getElem_cons_succ, List.getElem_cons_zero, Act.put, List.setIfInBounds_toArray, List.set_cons_zero, List.set_cons_succ]))
      (refine plan_one rfl (by rfl) (fun K hK => ?_); go_simp)
      (refine hK.out _ _ trivial ?_; clear hK K; (try simp only [List.getElem_toArray, List.getElem_cons_succ, List.getElem_cons_zero, Act.put, List.setIfInBounds_toArray, List.set_cons_zero, List.set_cons_succ]))
      (refine plan_one rfl (by rfl) (fun K hK => ?_); go_simp)
      (refine hK.out _ _ trivial ?_; clear hK K; (try simp only [List.getElem_toArray, List.getElem_cons_succ, List.getElem_cons_zero, Act.put, List.setIfInBounds_toArray, List.set_cons_zero, List.set_cons_succ]))
      refine plan_done ?_
      refine NoPanic.normal ?_
      go_wp2
      go_ret
      exact ⟨⟨_, rfl, hxs⟩, hB2⟩
    · (refine plan_one rfl (by rfl) (fun K hK => ?_); go_simp)
      refine (HP.out _).mono ?_
      rintro e w2 ⟨rfl, hb⟩
      (try go_simp)
      have hB2 := qtrans hW hb
      have hc2 : w2.cell? ⟨w.heap.size, 0, none⟩ = some (.int .u8 c) := ((bcell hb).1 _ _ (lt_of_cell hc1)).trans hc1
      have kc := HC.out w2 _ hc2
      clear hc1 hW hb
      (refine hK.out _ _ trivial ?_; clear hK K; (try simp only [List.getElem_toArray, List.getElem_cons_succ, List.getElem_cons_zero, Act.put, List.setIfInBounds_toArray, List.set_cons_zero, List.set_cons_succ]))
      (refine plan_one rfl (by rfl) (fun K hK => ?_); go_simp)
      (refine hK.out _ _ trivial ?_; clear hK K; (try simp only [List.getElem_toArray, List.getElem_cons_succ, List.getElem_cons_zero, Act.put, List.setIfInBounds_toArray, List.set_cons_zero, List.set_cons_succ]))
      (refine plan_one rfl (by rfl) (fun K hK => ?_); go_simp)
      (refine hK.out _ _ trivial ?_; clear hK K; (try simp only [List.getElem_toArray, List.getElem_cons_succ, List.getElem_cons_zero, Act.put, List.setIfInBounds_toArray, List.set_cons_zero, List.set_cons_succ]))
      (refine plan_one rfl (by rfl) (fun K hK => ?_); go_simp)
      (refine hK.out _ _ trivial ?_; clear hK K; (try simp only [List.getElem_toArray, List.getElem_cons_succ, List.getElem_cons_zero, Act.put, List.setIfInBounds_toArray, List.set_cons_zero, List.set_cons_succ]))
      refine plan_done ?_
      refine NoPanic.normal ?_
      go_wp2
      go_ret
      exact ⟨⟨_, rfl, hxs⟩, hB2⟩
  · (refine plan_one rfl (by rfl) (fun K hK => ?_); go_simp)
    refine (HP.out _).mono ?_
    rintro e w2 ⟨rfl, hb⟩
    (try go_simp)
    have hB2 : Below w.heap.size w (w2.alloc (.cells #[.int .u8 c] 5)) := qtrans (qtrans (qrefl w).drew hb) (qalloc _ _)
    have hc2 : (w2.alloc (.cells #[.int .u8 c] 5)).cell? ⟨w2.heap.size, 0, none⟩ = some (.int .u8 c) := by simp
    have kc := HC.out (w2.alloc (.cells #[.int .u8 c] 5)) _ hc2
    clear hb hc2
    (refine hK.out _ _ trivial ?_; clear hK K; (try simp only [List.getElem_toArray, List.getElem_cons_succ, List.getElem_cons_zero, Act.put, List.setIfInBounds_toArray, List.set_cons_zero, List.set_cons_succ]))
    (refine plan_one rfl (by rfl) (fun K hK => ?_); go_simp)
    (refine hK.out _ _ trivial ?_; clear hK K; (try simp only [List.getElem_toArray, List.getElem_cons_succ, List.getElem_cons_zero, Act.put, List.setIfInBounds_toArray, List.set_cons_zero, List.set_cons_succ]))
    (refine plan_one rfl (by rfl) (fun K hK => ?_); go_simp)
    (refine hK.out _ _ trivial ?_; clear hK K; (try simp only [List.getElem_toArray, List.getElem_cons_succ, List.getElem_cons_zero, Act.put, List.setIfInBounds_toArray, List.set_cons_zero, List.set_cons_succ]))
    (refine plan_one rfl (by rfl) (fun K hK => ?_); go_simp)
    (refine hK.out _ _ trivial ?_; clear hK K; (try simp only [List.getElem_toArray, List.getElem_cons_succ, List.getElem_cons_zero, Act.put, List.setIfInBounds_toArray, List.set_cons_zero, List.set_cons_succ]))
    (refine plan_one rfl (by rfl) (fun K hK => ?_); go_simp)
    (refine hK.out _ _ trivial ?_; clear hK K; (try simp only [List.getElem_toArray, List.getElem_cons_succ, List.getElem_cons_zero, Act.put, List.setIfInBounds_toArray, List.set_cons_zero, List.set_cons_succ]))
    refine plan_done ?_
    refine NoPanic.normal ?_
    go_wp2
    go_ret
    exact ⟨⟨_, rfl, hxs⟩, hB2⟩
theorem r1put_any (n : Int) (h0 : 0 ≤ n) (h1 : n < 16384) (w : World) : Calls Tryz.prog 166 #[.int .i64 n] w fun e w' => (∃ x : ByteArray, e = .returned (.string x) ∧ x.size ≤ 2) ∧ Below w.heap.size w w' := by
  by_cases h : n < 128
  · refine (r1put_one n h0 h w).mono ?_
    rintro e w' ⟨rfl, hb⟩
    exact ⟨⟨_, rfl, by rw [u8of_size]; omega⟩, hb⟩
  · exact r1put_two n (by omega) h1 w
end Go.Proofs.YtidkpnabdfiilaaGreatDoor

namespace Go.Proofs.YtidkpnabdfiilaaGreatDoor
open Go.RowKit Go.Shelf
attribute [local go_sem] Oper.semAt_some

theorem r1PutInt_any (n : Int) (h0 : 0 ≤ n) (h1 : n < 16384) (w : World) : Calls Tryz.prog 141 #[.int .i64 n] w fun e w' => (∃ x : ByteArray, e = .returned (.tuple #[.string x, .int .i64 0]) ∧ x.size ≤ 2) ∧ Below w.heap.size w w' := by
  have hd : decide (n < 0) = false := decide_eq_false (by omega)
  have hd2 : decide (1099511627776 < n) = false := decide_eq_false (by omega)
  have HP := Lib.hid (r1put_any n h0 h1)
  go_enter Tryz.func141, Tryz.ntmps141
  go_wp2_with (fail)
  refine (HP.out _).mono ?_
  rintro e w1 ⟨⟨x, rfl, hx⟩, hb⟩
  go_wp2
  go_ret2
  exact ⟨⟨x, rfl, hx⟩, hb⟩
theorem r1PutText_any (s : ByteArray) (h1 : s.size < 16384) (w : World) : Calls Tryz.prog 142 #[.string s] w fun e w' => (∃ x : ByteArray, e = .returned (.tuple #[.string x, .int .i64 0]) ∧ x.size ≤ 16386) ∧ Below w.heap.size w w' := by
  have hd2 : decide (65536 < (s.size : Int)) = false := decide_eq_false (by omega)
  have HP := Lib.hid (r1put_any s.size (by omega) (by omega))
  go_enter Tryz.func142, Tryz.ntmps142
  go_wp2_with (fail)
  refine (HP.out _).mono ?_
  rintro e w1 ⟨⟨x, rfl, hx⟩, hb⟩
  have hsz : ¬ (9223372036854775807 < x.size + s.size) := by omega
  have hxs : (x ++ s).size ≤ 16386 := by rw [ByteArray.size_append]; omega
  go_wp2
  go_ret2
  exact ⟨⟨_, rfl, hxs⟩, hb⟩
theorem r7number_any (n : Int) (h0 : 0 ≤ n) (h1 : n < 16384) (w : World) : Calls Tryz.prog 134 #[.int .i64 n] w fun e w' => (∃ x : ByteArray, e = .returned (.string x) ∧ x.size ≤ 2) ∧ Below w.heap.size w w' := by
  have HP := Lib.hid (r1PutInt_any n h0 h1)
  go_enter Tryz.func134, Tryz.ntmps134
  go_wp2_with (fail)
  refine (HP.out _).mono ?_
  rintro e w1 ⟨⟨x, rfl, hx⟩, hb⟩
  go_wp2
  go_ret
  exact ⟨⟨x, rfl, hx⟩, hb⟩
theorem r7text_any (s : ByteArray) (h1 : s.size < 16384) (w : World) : Calls Tryz.prog 135 #[.string s] w fun e w' => (∃ x : ByteArray, e = .returned (.string x) ∧ x.size ≤ 16386) ∧ Below w.heap.size w w' := by
  have HP := Lib.hid (r1PutText_any s h1)
  go_enter Tryz.func135, Tryz.ntmps135
  go_wp2_with (fail)
  refine (HP.out _).mono ?_
  rintro e w1 ⟨⟨x, rfl, hx⟩, hb⟩
  go_wp2
  go_ret
  exact ⟨⟨x, rfl, hx⟩, hb⟩
theorem r7zero_zero (w : World) : Calls Tryz.prog 163 #[.agg #[.int .u64 0, .int .u64 0]] w fun e w' => e = .returned (.bool true) ∧ Below w.heap.size w w' := by
  go_enter Tryz.func163, Tryz.ntmps163
  go_wp2
  go_ret
  exact ⟨rfl, qalloc _ _⟩
def blobC (d : ByteArray) : Array Value := #[.int .i64 1, .string d, .slice none 0 0, .int .u64 0, .int .u64 0, .slice none 0 0, .string ⟨#[]⟩, .int .i64 0, .string ⟨#[]⟩]
theorem blob_box (w : World) (d : ByteArray) : Hid (∀ w1, Below (w.heap.size + 1) (w.alloc (.cells (blobC d) 96)) w1 → Below w.heap.size w w1 ∧ CBox w1 w.heap.size 96 (blobC d)) := fun w1 h => by
  have h' : Below (w.alloc (.cells (blobC d) 96)).heap.size (w.alloc (.cells (blobC d) 96)) w1 := by simpa using h
  exact ⟨qtrans (qalloc _ _) h', (CBox.new w 96 (blobC d)).below h'⟩
set_option maxRecDepth 100000 in
set_option maxHeartbeats 1000000 in
theorem r7only_blob (d : ByteArray) (w : World) : Calls Tryz.prog 131 #[blobV d] w fun e w' => e = .returned (.bool true) ∧ Below w.heap.size w w' := by
  have HZ := Lib.hid (fun w => r7zero_zero w)
  have HB := blob_box w d
  unfold blobC at HB
  unfold blobV
  go_enter Tryz.func131, Tryz.ntmps131
  go_wp2_with (fail)
  refine (HZ.out _).mono ?_
  rintro e w1 ⟨rfl, hb⟩
  obtain ⟨hb1, hB⟩ := HB.out w1 (by simpa using hb)
  have q5 := hB.cell (i := 5) rfl
  have q6 := hB.cell (i := 6) rfl
  have q7 := hB.cell (i := 7) rfl
  have q8 := hB.cell (i := 8) rfl
  clear HB HZ hB hb
  go_wp2
  go_ret
  exact ⟨rfl, hb1⟩
set_option maxRecDepth 100000 in
set_option maxHeartbeats 1000000 in
theorem r7fields_blob (d : ByteArray) (hd : d.size ≤ 16000) (w : World) : Calls Tryz.prog 92 #[blobV d] w fun e w' => e = .returned (.int .i64 0) ∧ Below w.heap.size w w' := by
  have HZ := Lib.hid (fun w => r7only_blob d w)
  have HB := blob_box w d
  unfold blobC at HB
  have hd2 : decide (65536 < (d.size : Int)) = false := decide_eq_false (by omega)
  unfold blobV at *
  go_enter Tryz.func92, Tryz.ntmps92
  go_wp2_with (fail)
  refine (HZ.out _).mono ?_
  rintro e w1 ⟨rfl, hb⟩
  obtain ⟨hb1, hB⟩ := HB.out w1 (by simpa using hb)
  have q0 := hB.cell (i := 0) rfl
  have q1 := hB.cell (i := 1) rfl
  clear HB HZ hB hb
  go_wp2
  go_ret
  exact ⟨rfl, hb1⟩
set_option maxRecDepth 100000 in
set_option maxHeartbeats 1000000 in
theorem r7encode_blob (d : ByteArray) (hd : d.size ≤ 16000) (w : World) : Calls Tryz.prog 93 #[blobV d] w fun e w' => (∃ x : ByteArray, e = .returned (.string x) ∧ x.size ≤ 16388) ∧ Below w.heap.size w w' := by
  have HN := Lib.hid (fun w => r7number_any 1 (by omega) (by omega) w)
  have HT := Lib.hid (fun w => r7text_any d (by omega) w)
  have HB := blob_box w d
  unfold blobC at HB
  unfold blobV at *
  go_enter Tryz.func93, Tryz.ntmps93
  go_wp2_with (fail)
  refine (HN.out _).mono ?_
  rintro e w1 ⟨⟨x, rfl, hx⟩, hb⟩
  obtain ⟨hb1, hB⟩ := HB.out w1 (by simpa using hb)
  have q0 := hB.cell (i := 0) rfl
  have q1 := hB.cell (i := 1) rfl
  clear HB HN hB hb
  go_wp2_with (fail)
  refine (HT.out _).mono ?_
  rintro e w2 ⟨⟨y, rfl, hy⟩, hb2⟩
  have hbb := qtrans hb1 hb2
  have hsz : ¬ (9223372036854775807 < x.size + y.size) := by omega
  have hxs : (x ++ y).size ≤ 16388 := by rw [ByteArray.size_append]; omega
  clear hb1 hb2 q0 q1 HT
  go_wp2
  go_ret
  exact ⟨⟨_, rfl, hxs⟩, hbb⟩
set_option maxRecDepth 100000 in
set_option maxHeartbeats 1000000 in
theorem r7Check_blob (d : ByteArray) (hd : d.size ≤ 16000) (w : World) : Calls Tryz.prog 56 #[blobV d] w fun e w' => e = .returned (.int .i64 0) ∧ Below w.heap.size w w' := by
  have HF := Lib.hid (fun w => r7fields_blob d hd w)
  have HE := Lib.hid (fun w => r7encode_blob d hd w)
  have HB := blob_box w d
  unfold blobC at HB
  unfold blobV at *
  go_enter Tryz.func56, Tryz.ntmps56
  go_wp2_with (fail)
  refine (HF.out _).mono ?_
  rintro e w1 ⟨rfl, hb⟩
  obtain ⟨hb1, hB⟩ := HB.out w1 (by simpa using hb)
  have q0 := hB.cell (i := 0) rfl
  have q1 := hB.cell (i := 1) rfl
  have q2 := hB.cell (i := 2) rfl
  have q3 := hB.cell (i := 3) rfl
  have q4 := hB.cell (i := 4) rfl
  have q5 := hB.cell (i := 5) rfl
  have q6 := hB.cell (i := 6) rfl
  have q7 := hB.cell (i := 7) rfl
  have q8 := hB.cell (i := 8) rfl
  clear HB HF hB hb
  go_wp2_with (fail)
  refine (HE.out _).mono ?_
  rintro e w2 ⟨⟨y, rfl, hy⟩, hb2⟩
  have hbb := qtrans hb1 hb2
  have hd2 : decide (65536 < (y.size : Int)) = false := decide_eq_false (by omega)
  clear hb1 hb2 q0 q1 q2 q3 q4 q5 q6 q7 q8 HE
  go_wp2
  go_ret
  exact ⟨rfl, hbb⟩
theorem r9blob_any (d : ByteArray) (w : World) : Calls Tryz.prog 57 #[.string d] w fun e w' => e = .returned (blobV d) ∧ Below w.heap.size w w' := by
  go_enter Tryz.func57, Tryz.ntmps57
  go_wp2
  exact bodyPost_ret (v := blobV d) (by simp [results, Tryz.results57, go_sem, blobV]) rfl ⟨rfl, qalloc _ _⟩
end Go.Proofs.YtidkpnabdfiilaaGreatDoor
