/- The reference's Same (approvals), Great, SameChanges. -/
import Derived.Test.YtidkpnabdfiilaaGreatDoorApB
import Derived.Test.YtidkpnabdfiilaaGreatDoorQ17
import Derived.BigQuiet
namespace Go.Proofs.YtidkpnabdfiilaaGreatDoor
open Go.RowKit
attribute [local go_sem] Oper.semAt_some
attribute [local irreducible] Go.wpStill
theorem run_neqAppr (a b : Appr) (w : World) (av : Operand → Value) (x y : Operand) (hx : av x = .agg #[.string a.who, .int .i64 a.change, .string a.saw]) (hy : av y = .agg #[.string b.who, .int .i64 b.change, .string b.saw]) (o : Oper) (ho : o.op = .binOp .neq 51 x y 51) : (execOp av o).run Tryz.prog w = .ok (.value (.bool (!sameA a b))) w := by
  unfold execOp
  simp [go_sem, ho, hx, hy, run_eqAppr]
theorem run_neqChg (a b : FChg) (w : World) (av : Operand → Value) (x y : Operand) (hx : av x = .agg #[.string a.path, .bool a.hasOld, .bool a.hasNew, .string a.old, .string a.fresh]) (hy : av y = .agg #[.string b.path, .bool b.hasOld, .bool b.hasNew, .string b.old, .string b.fresh]) (o : Oper) (ho : o.op = .binOp .neq 40 x y 40) : (execOp av o).run Tryz.prog w = .ok (.value (.bool (!sameCh a b))) w := by
  unfold execOp
  simp [go_sem, ho, hx, hy, run_eqChg]

theorem xSame_yes {a b : List Appr} (hl : a.length = b.length) (h : ∀ (i : Nat) (x y : Appr), a[i]? = some x → b[i]? = some y → sameA x y = true) : a = b := by
  refine List.ext_getElem hl fun i h1 h2 => ?_
  exact (sameA_iff _ _).1 (h i _ _ (List.getElem?_eq_getElem h1) (List.getElem?_eq_getElem h2))
theorem xSame_no {a b : List Appr} {i : Nat} {x y : Appr} (h1 : a[i]? = some x) (h2 : b[i]? = some y) (h : sameA x y = false) : a ≠ b := by
  rintro rfl
  rw [h1] at h2
  cases h2
  rw [(sameA_iff x x).2 rfl] at h
  cases h
set_option maxRecDepth 100000 in
set_option maxHeartbeats 2000000 in
theorem xSame_any (v1 v2 : Value) (a b : List Appr) (w : World) (h1 : Reads w [] (apprsT a) v1) (h2 : Reads w [] (apprsT b) v2) (r : Bool) (hr : Hid (r = true ↔ a = b)) :
    Calls Tryz.prog 40 #[v1, v2] w fun e w' => e = .returned (.bool r) ∧ ∃ n, w' = w.drewN n := by
  obtain ⟨a1, cap1, rfl, l1, m1⟩ := apprs_val h1
  obtain ⟨a2, cap2, rfl, l2, m2⟩ := apprs_val h2
  have H1 := Lib.hid h1
  have H2 := Lib.hid h2
  clear h1 h2
  by_cases hlen : a.length = b.length
  · have hne : ((a.length : Int) != (b.length : Int)) = false := by simp [hlen]
    have HLN := Lib.hid hlen
    go_enter Tryz.func40, Tryz.ntmps40
    go_wp2
    go_loopw [5] (fun iv wr => ∃ k : Nat, k ≤ a.length ∧ iv = .int .i64 k ∧ Hid (∃ n, wr = w.drewN n) ∧ Hid (∀ (i : Nat) (x y : Appr), i < k → a[i]? = some x → b[i]? = some y → sameA x y = true)) (fun iv _ => a.length - (intOf iv).toNat)
    case atStart => exact ⟨0, Nat.zero_le _, rfl, ⟨0, rfl⟩, fun i x y hi => by omega⟩
    case round =>
      obtain ⟨k, hk, rfl, HW, HK⟩ := hrel
      obtain ⟨nw, rfl⟩ := HW.out
      have HWP : Hid (∃ n, w.drewN nw = w.drewN n) := ⟨nw, rfl⟩
      have H1d := Lib.hid (H1.out.drewN nw)
      have H2d := Lib.hid (H2.out.drewN nw)
      generalize w.drewN nw = wd at *
      have hk0 : (0 : Int) ≤ (k : Int) := by omega
      by_cases hkl : k < a.length
      · obtain ⟨x, hx⟩ : ∃ x, a[k]? = some x := ⟨_, List.getElem?_eq_getElem hkl⟩
        obtain ⟨y, hy⟩ : ∃ y, b[k]? = some y := ⟨_, List.getElem?_eq_getElem (by omega)⟩
        obtain ⟨b1, o1, rfl, hb1, d0, d1, d2⟩ := apprs_elem H1d.out hx
        obtain ⟨b2, o2, rfl, hb2, e0, e1, e2⟩ := apprs_elem H2d.out hy
        have hk1 : (k : Int) < (a.length : Int) := by omega
        have hk2 : (k : Int) < (b.length : Int) := by omega
        have HNO : Hid (sameA x y = false → r = false) := fun h => by
          cases hb : r with
          | false => rfl
          | true => exact absurd (hr.out.1 hb) (xSame_no hx hy h)
        have HYE : Hid (sameA x y = true → ∀ (i : Nat) (u v : Appr), i < k + 1 → a[i]? = some u → b[i]? = some v → sameA u v = true) := fun h i u v hi hu hv => by
          by_cases e : i = k
          · subst e; rw [hx] at hu; rw [hy] at hv; cases hu; cases hv; exact h
          · exact HK.out i u v (by omega) hu hv
        clear hx hy
        cases hs : sameA x y with
        | false =>
          have HR := Lib.hid (HNO.out hs)
          have hs' := hs
          clear HNO HYE
          go_wp2_with (fail)
          refine wp_region_noPanic (region_lex (fun W => W.cell? ⟨b1, o1 + k * 3, none⟩ = some (.string x.who) ∧ W.cell? ⟨b1, o1 + k * 3 + 1, none⟩ = some (.int .i64 x.change) ∧ W.cell? ⟨b1, o1 + k * 3 + 2, none⟩ = some (.string x.saw) ∧ W.cell? ⟨b2, o2 + k * 3, none⟩ = some (.string y.who) ∧ W.cell? ⟨b2, o2 + k * 3 + 1, none⟩ = some (.int .i64 y.change) ∧ W.cell? ⟨b2, o2 + k * 3 + 2, none⟩ = some (.string y.saw)) [true, true, true, true, true, true, true, true, true] mixedK (by kernel_rfl) (fun _ _ _ _ _ h => h) ⟨d0, d1, d2, e0, e1, e2⟩ (fun hHeld => ?_))
          iterate 8 (first | (refine lex_skip (by rfl) ?_; (try simp only [Act.put, List.setIfInBounds_toArray, List.set_cons_zero, List.set_cons_succ])) | (refine lex_take (v := ?_) (by rfl) ?_ ?_; rotate_left; (focus (intro wq hSw; (try dsimp only at hSw); go_simp; (try with_reducible rfl))); (try simp only [Act.put, List.setIfInBounds_toArray, List.set_cons_zero, List.set_cons_succ])))
          refine lex_take (v := .bool (!sameA x y)) (by rfl) (fun wq _ => run_neqAppr x y wq _ _ _ rfl rfl _ rfl) ?_
          (try simp only [Act.put, List.setIfInBounds_toArray, List.set_cons_zero, List.set_cons_succ])
          rw [hs']
          refine lex_end ?_
          refine NoPanic.normal ?_
          go_wp2
          go_ret
          obtain ⟨n, hn⟩ := HWP.out
          exact ⟨ret_bool (by rw [HR.out]), by rw [hn]; exact ⟨_, World.drewN_drewN _ _ _⟩⟩
        | true =>
          have HR := Lib.hid (HYE.out hs)
          have hs' := hs
          clear HNO HYE
          go_wp2_with (fail)
          refine wp_region_noPanic (region_lex (fun W => W.cell? ⟨b1, o1 + k * 3, none⟩ = some (.string x.who) ∧ W.cell? ⟨b1, o1 + k * 3 + 1, none⟩ = some (.int .i64 x.change) ∧ W.cell? ⟨b1, o1 + k * 3 + 2, none⟩ = some (.string x.saw) ∧ W.cell? ⟨b2, o2 + k * 3, none⟩ = some (.string y.who) ∧ W.cell? ⟨b2, o2 + k * 3 + 1, none⟩ = some (.int .i64 y.change) ∧ W.cell? ⟨b2, o2 + k * 3 + 2, none⟩ = some (.string y.saw)) [true, true, true, true, true, true, true, true, true] mixedK (by kernel_rfl) (fun _ _ _ _ _ h => h) ⟨d0, d1, d2, e0, e1, e2⟩ (fun hHeld => ?_))
          iterate 8 (first | (refine lex_skip (by rfl) ?_; (try simp only [Act.put, List.setIfInBounds_toArray, List.set_cons_zero, List.set_cons_succ])) | (refine lex_take (v := ?_) (by rfl) ?_ ?_; rotate_left; (focus (intro wq hSw; (try dsimp only at hSw); go_simp; (try with_reducible rfl))); (try simp only [Act.put, List.setIfInBounds_toArray, List.set_cons_zero, List.set_cons_succ])))
          refine lex_take (v := .bool (!sameA x y)) (by rfl) (fun wq _ => run_neqAppr x y wq _ _ _ rfl rfl _ rfl) ?_
          (try simp only [Act.put, List.setIfInBounds_toArray, List.set_cons_zero, List.set_cons_succ])
          rw [hs']
          refine lex_end ?_
          refine NoPanic.normal ?_
          go_wp2
          go_roundw
          case rel => exact ⟨k + 1, by omega, by go_num, by obtain ⟨n, hn⟩ := HWP.out; rw [hn]; exact ⟨_, World.drewN_drewN _ _ _⟩, HR⟩
          case measure => simp [intOf]; omega
      · have HR : Hid (r = true) := hr.out.2 (xSame_yes HLN.out (fun i x y hx hy => HK.out i x y (by have := (List.getElem?_eq_some_iff.1 hx).1; omega) hx hy))
        go_wp2
        go_ret
        exact ⟨ret_bool (by rw [HR.out]), HWP.out⟩
  · have hne : ((a.length : Int) != (b.length : Int)) = true := by simp; omega
    have HR : Hid (r = false) := by
      cases hb : r with
      | false => exact Lib.hid rfl
      | true => exact absurd (congrArg List.length (hr.out.1 hb)) hlen
    go_enter Tryz.func40, Tryz.ntmps40
    go_wp2
    go_ret
    exact ⟨ret_bool (by rw [HR.out]), ⟨0, rfl⟩⟩
theorem r9SameChanges_yes {a b : List FChg} (hl : a.length = b.length) (h : ∀ (i : Nat) (x y : FChg), a[i]? = some x → b[i]? = some y → sameCh x y = true) : a = b := by
  refine List.ext_getElem hl fun i h1 h2 => ?_
  exact (sameCh_iff _ _).1 (h i _ _ (List.getElem?_eq_getElem h1) (List.getElem?_eq_getElem h2))
theorem r9SameChanges_no {a b : List FChg} {i : Nat} {x y : FChg} (h1 : a[i]? = some x) (h2 : b[i]? = some y) (h : sameCh x y = false) : a ≠ b := by
  rintro rfl
  rw [h1] at h2
  cases h2
  rw [(sameCh_iff x x).2 rfl] at h
  cases h
set_option maxRecDepth 100000 in
set_option maxHeartbeats 2000000 in
theorem r9SameChanges_any (v1 v2 : Value) (a b : List FChg) (w : World) (h1 : Reads w [] (chgsT a) v1) (h2 : Reads w [] (chgsT b) v2) (r : Bool) (hr : Hid (r = true ↔ a = b)) :
    Calls Tryz.prog 31 #[v1, v2] w fun e w' => e = .returned (.bool r) ∧ ∃ n, w' = w.drewN n := by
  obtain ⟨a1, cap1, rfl, l1, m1⟩ := chgs_val h1
  obtain ⟨a2, cap2, rfl, l2, m2⟩ := chgs_val h2
  have H1 := Lib.hid h1
  have H2 := Lib.hid h2
  clear h1 h2
  by_cases hlen : a.length = b.length
  · have hne : ((a.length : Int) != (b.length : Int)) = false := by simp [hlen]
    have HLN := Lib.hid hlen
    go_enter Tryz.func31, Tryz.ntmps31
    go_wp2
    go_loopw [5] (fun iv wr => ∃ k : Nat, k ≤ a.length ∧ iv = .int .i64 k ∧ Hid (∃ n, wr = w.drewN n) ∧ Hid (∀ (i : Nat) (x y : FChg), i < k → a[i]? = some x → b[i]? = some y → sameCh x y = true)) (fun iv _ => a.length - (intOf iv).toNat)
    case atStart => exact ⟨0, Nat.zero_le _, rfl, ⟨0, rfl⟩, fun i x y hi => by omega⟩
    case round =>
      obtain ⟨k, hk, rfl, HW, HK⟩ := hrel
      obtain ⟨nw, rfl⟩ := HW.out
      have HWP : Hid (∃ n, w.drewN nw = w.drewN n) := ⟨nw, rfl⟩
      have H1d := Lib.hid (H1.out.drewN nw)
      have H2d := Lib.hid (H2.out.drewN nw)
      generalize w.drewN nw = wd at *
      have hk0 : (0 : Int) ≤ (k : Int) := by omega
      by_cases hkl : k < a.length
      · obtain ⟨x, hx⟩ : ∃ x, a[k]? = some x := ⟨_, List.getElem?_eq_getElem hkl⟩
        obtain ⟨y, hy⟩ : ∃ y, b[k]? = some y := ⟨_, List.getElem?_eq_getElem (by omega)⟩
        obtain ⟨b1, o1, rfl, hb1, d0, d1, d2, d3, d4⟩ := chgs_elem H1d.out hx
        obtain ⟨b2, o2, rfl, hb2, e0, e1, e2, e3, e4⟩ := chgs_elem H2d.out hy
        have hk1 : (k : Int) < (a.length : Int) := by omega
        have hk2 : (k : Int) < (b.length : Int) := by omega
        have HNO : Hid (sameCh x y = false → r = false) := fun h => by
          cases hb : r with
          | false => rfl
          | true => exact absurd (hr.out.1 hb) (r9SameChanges_no hx hy h)
        have HYE : Hid (sameCh x y = true → ∀ (i : Nat) (u v : FChg), i < k + 1 → a[i]? = some u → b[i]? = some v → sameCh u v = true) := fun h i u v hi hu hv => by
          by_cases e : i = k
          · subst e; rw [hx] at hu; rw [hy] at hv; cases hu; cases hv; exact h
          · exact HK.out i u v (by omega) hu hv
        clear hx hy
        cases hs : sameCh x y with
        | false =>
          have HR := Lib.hid (HNO.out hs)
          have hs' := hs
          clear HNO HYE
          go_wp2_with (fail)
          refine wp_region_noPanic (region_lex (fun W => W.cell? ⟨b1, o1 + k * 5, none⟩ = some (.string x.path) ∧ W.cell? ⟨b1, o1 + k * 5 + 1, none⟩ = some (.bool x.hasOld) ∧ W.cell? ⟨b1, o1 + k * 5 + 2, none⟩ = some (.bool x.hasNew) ∧ W.cell? ⟨b1, o1 + k * 5 + 3, none⟩ = some (.string x.old) ∧ W.cell? ⟨b1, o1 + k * 5 + 4, none⟩ = some (.string x.fresh) ∧ W.cell? ⟨b2, o2 + k * 5, none⟩ = some (.string y.path) ∧ W.cell? ⟨b2, o2 + k * 5 + 1, none⟩ = some (.bool y.hasOld) ∧ W.cell? ⟨b2, o2 + k * 5 + 2, none⟩ = some (.bool y.hasNew) ∧ W.cell? ⟨b2, o2 + k * 5 + 3, none⟩ = some (.string y.old) ∧ W.cell? ⟨b2, o2 + k * 5 + 4, none⟩ = some (.string y.fresh)) [true, true, true, true, true, true, true, true, true] mixedK (by kernel_rfl) (fun _ _ _ _ _ h => h) ⟨d0, d1, d2, d3, d4, e0, e1, e2, e3, e4⟩ (fun hHeld => ?_))
          iterate 8 (first | (refine lex_skip (by rfl) ?_; (try simp only [Act.put, List.setIfInBounds_toArray, List.set_cons_zero, List.set_cons_succ])) | (refine lex_take (v := ?_) (by rfl) ?_ ?_; rotate_left; (focus (intro wq hSw; (try dsimp only at hSw); go_simp; (try with_reducible rfl))); (try simp only [Act.put, List.setIfInBounds_toArray, List.set_cons_zero, List.set_cons_succ])))
          refine lex_take (v := .bool (!sameCh x y)) (by rfl) (fun wq _ => run_neqChg x y wq _ _ _ rfl rfl _ rfl) ?_
          (try simp only [Act.put, List.setIfInBounds_toArray, List.set_cons_zero, List.set_cons_succ])
          rw [hs']
          refine lex_end ?_
          refine NoPanic.normal ?_
          go_wp2
          go_ret
          obtain ⟨n, hn⟩ := HWP.out
          exact ⟨ret_bool (by rw [HR.out]), by rw [hn]; exact ⟨_, World.drewN_drewN _ _ _⟩⟩
        | true =>
          have HR := Lib.hid (HYE.out hs)
          have hs' := hs
          clear HNO HYE
          go_wp2_with (fail)
          refine wp_region_noPanic (region_lex (fun W => W.cell? ⟨b1, o1 + k * 5, none⟩ = some (.string x.path) ∧ W.cell? ⟨b1, o1 + k * 5 + 1, none⟩ = some (.bool x.hasOld) ∧ W.cell? ⟨b1, o1 + k * 5 + 2, none⟩ = some (.bool x.hasNew) ∧ W.cell? ⟨b1, o1 + k * 5 + 3, none⟩ = some (.string x.old) ∧ W.cell? ⟨b1, o1 + k * 5 + 4, none⟩ = some (.string x.fresh) ∧ W.cell? ⟨b2, o2 + k * 5, none⟩ = some (.string y.path) ∧ W.cell? ⟨b2, o2 + k * 5 + 1, none⟩ = some (.bool y.hasOld) ∧ W.cell? ⟨b2, o2 + k * 5 + 2, none⟩ = some (.bool y.hasNew) ∧ W.cell? ⟨b2, o2 + k * 5 + 3, none⟩ = some (.string y.old) ∧ W.cell? ⟨b2, o2 + k * 5 + 4, none⟩ = some (.string y.fresh)) [true, true, true, true, true, true, true, true, true] mixedK (by kernel_rfl) (fun _ _ _ _ _ h => h) ⟨d0, d1, d2, d3, d4, e0, e1, e2, e3, e4⟩ (fun hHeld => ?_))
          iterate 8 (first | (refine lex_skip (by rfl) ?_; (try simp only [Act.put, List.setIfInBounds_toArray, List.set_cons_zero, List.set_cons_succ])) | (refine lex_take (v := ?_) (by rfl) ?_ ?_; rotate_left; (focus (intro wq hSw; (try dsimp only at hSw); go_simp; (try with_reducible rfl))); (try simp only [Act.put, List.setIfInBounds_toArray, List.set_cons_zero, List.set_cons_succ])))
          refine lex_take (v := .bool (!sameCh x y)) (by rfl) (fun wq _ => run_neqChg x y wq _ _ _ rfl rfl _ rfl) ?_
          (try simp only [Act.put, List.setIfInBounds_toArray, List.set_cons_zero, List.set_cons_succ])
          rw [hs']
          refine lex_end ?_
          refine NoPanic.normal ?_
          go_wp2
          go_roundw
          case rel => exact ⟨k + 1, by omega, by go_num, by obtain ⟨n, hn⟩ := HWP.out; rw [hn]; exact ⟨_, World.drewN_drewN _ _ _⟩, HR⟩
          case measure => simp [intOf]; omega
      · have HR : Hid (r = true) := hr.out.2 (r9SameChanges_yes HLN.out (fun i x y hx hy => HK.out i x y (by have := (List.getElem?_eq_some_iff.1 hx).1; omega) hx hy))
        go_wp2
        go_ret
        exact ⟨ret_bool (by rw [HR.out]), HWP.out⟩
  · have hne : ((a.length : Int) != (b.length : Int)) = true := by simp; omega
    have HR : Hid (r = false) := by
      cases hb : r with
      | false => exact Lib.hid rfl
      | true => exact absurd (congrArg List.length (hr.out.1 hb)) hlen
    go_enter Tryz.func31, Tryz.ntmps31
    go_wp2
    go_ret
    exact ⟨ret_bool (by rw [HR.out]), ⟨0, rfl⟩⟩
def greatA (l : List Appr) : Bool := (l.any fun a => decide (50 < a.who.size) || decide (1000 < a.saw.size)) || decide (10 < l.length)
theorem greatA_small {l : List Appr} (h : greatA l = false) : l.length ≤ 10 ∧ ∀ a ∈ l, a.who.size ≤ 50 ∧ a.saw.size ≤ 1000 := by
  unfold greatA at h
  rw [Bool.or_eq_false_iff, List.any_eq_false] at h
  refine ⟨by have := h.2; simp at this; exact this, fun a ha => ?_⟩
  have := h.1 a ha
  simp at this
  omega
set_option maxRecDepth 100000 in
theorem xGreat_any (v : Value) (l : List Appr) (w : World) (hv : Reads w [] (apprsT l) v) (hz : ∀ a ∈ l, a.who.size ≤ 9223372036854775807 ∧ a.saw.size ≤ 9223372036854775807) :
    Calls Tryz.prog 36 #[v] w fun e w' => e = .returned (.bool (greatA l)) ∧ w = w' := by
  obtain ⟨a, cap, rfl, l1, m1⟩ := apprs_val hv
  have HV := Lib.hid hv
  have HZ := Lib.hid hz
  clear hv hz
  go_enter Tryz.func36, Tryz.ntmps36
  go_wp2
  go_loop [3] (fun i => ∃ k : Nat, k ≤ l.length ∧ i = .int .i64 k ∧ Hid (∀ (j : Nat) (x : Appr), j < k → l[j]? = some x → (decide (50 < x.who.size) || decide (1000 < x.saw.size)) = false)) (fun i => l.length - (intOf i).toNat)
  case atStart => exact ⟨0, Nat.zero_le _, rfl, fun j g hj => by omega⟩
  case round =>
    obtain ⟨k, hk, rfl, HK⟩ := hrel
    have hk0 : (0 : Int) ≤ (k : Int) := by omega
    by_cases hlt : k < l.length
    · obtain ⟨x, hx⟩ : ∃ x, l[k]? = some x := ⟨_, List.getElem?_eq_getElem hlt⟩
      obtain ⟨b1, o1, rfl, hb1, d0, d1, d2⟩ := apprs_elem HV.out hx
      have hk1 : (k : Int) < (l.length : Int) := by omega
      have hz := HZ.out x (List.mem_of_getElem? hx)
      have HYE : Hid ((decide (50 < x.who.size) || decide (1000 < x.saw.size)) = true → greatA l = true) := fun h => by
        unfold greatA
        rw [Bool.or_eq_true, List.any_eq_true]
        exact .inl ⟨x, List.mem_of_getElem? hx, h⟩
      have HNO : Hid ((decide (50 < x.who.size) || decide (1000 < x.saw.size)) = false → ∀ (j : Nat) (y : Appr), j < k + 1 → l[j]? = some y → (decide (50 < y.who.size) || decide (1000 < y.saw.size)) = false) := fun h j y hj hy => by
        by_cases e : j = k
        · subst e; rw [hx] at hy; cases hy; exact h
        · exact HK.out j y (by omega) hy
      clear hx
      by_cases h1 : 50 < x.who.size
      · have hd1 : decide ((50 : Int) < (x.who.size : Int)) = true := decide_eq_true (by omega)
        have H := Lib.hid (HYE.out (by rw [decide_eq_true h1]; rfl))
        go_wp2
        go_ret
        exact ⟨ret_bool (by rw [H.out]), rfl⟩
      · have hd1 : decide ((50 : Int) < (x.who.size : Int)) = false := decide_eq_false (by omega)
        by_cases h2 : 1000 < x.saw.size
        · have hd2 : decide ((1000 : Int) < (x.saw.size : Int)) = true := decide_eq_true (by omega)
          have H := Lib.hid (HYE.out (by rw [decide_eq_true h2]; simp))
          go_wp2
          go_ret
          exact ⟨ret_bool (by rw [H.out]), rfl⟩
        · have hd2 : decide ((1000 : Int) < (x.saw.size : Int)) = false := decide_eq_false (by omega)
          have H := Lib.hid (HNO.out (by rw [decide_eq_false h1, decide_eq_false h2]; rfl))
          go_wp2
          go_round
          case rel => exact ⟨k + 1, by omega, by go_num, H⟩
          case measure => simp [intOf]; omega
    · have H : Hid (greatA l = decide ((10 : Int) < (l.length : Int))) := by
        refine Lib.hid ?_
        unfold greatA
        rw [show (l.any fun a => decide (50 < a.who.size) || decide (1000 < a.saw.size)) = false by
          rw [List.any_eq_false]
          intro g hg
          obtain ⟨i, hi, rfl⟩ := List.getElem_of_mem hg
          rw [HK.out i _ (by omega) (List.getElem?_eq_getElem hi)]; simp, Bool.false_or]
        congr 1
        rw [eq_iff_iff]; omega
      go_wp2
      go_ret
      exact ⟨ret_bool (by rw [H.out]), rfl⟩
end Go.Proofs.YtidkpnabdfiilaaGreatDoor
