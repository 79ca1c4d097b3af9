/- The reference's Parse: what it returns lies apart from older blocks. -/
import Derived.Test.YtidkpnabdfiilaaGreatDoorQ16
namespace Go.Proofs.YtidkpnabdfiilaaGreatDoor
open Go.RowKit
def ParsePostX (X : List Nat) (x : List ORule × Int × Int) (w : World) (e : Ending) (w' : World) : Prop := ∃ lv, e = .returned (.tuple #[lv, .int .i64 x.2.1, .int .i64 x.2.2]) ∧ Reads w' X (rulesT x.1) lv ∧ Below w.heap.size w w'
theorem reads_noneX (w : World) (X : List Nat) (b : Nat) : Reads w X (rulesT []) (.slice (some ⟨b, 0, none⟩) 0 0) := by
  rw [rulesT, rowT, Reads]
  exact ⟨[], ⟨by simp, _, 0, rfl, Nat.le_refl _, Nat.zero_le _, fun h => absurd h (Nat.lt_irrefl _)⟩, fun h => absurd h (Nat.lt_irrefl _), by simp [ReadsL]⟩
set_option maxRecDepth 100000 in
set_option maxHeartbeats 2000000 in
theorem rParse_anyX (X : List Nat) (s : ByteArray) (hs : s.size ≤ 40000) (w : World) (hXw : ∀ k, k ∈ X → k < w.heap.size) : Calls Tryz.prog 87 #[.string s] w (ParsePostX X (oparse s) w) := by
  have HWS := Lib.hid (words_small s hs)
  have HO := Lib.hid (rparseW_oparse s)
  obtain ⟨ir0, hir, hzr0, hzr1, hzr2⟩ := info_parts infoRule
  go_enter Tryz.func87, Tryz.ntmps87
  go_wp2_with (fail)
  refine (rwords_any s hs _).mono ?_
  rintro e W0 ⟨v, rfl, hw, -, hb0⟩
  generalize wordsOf s = ws at *
  obtain ⟨a, cap, rfl, hc1, hc2⟩ := words_val hw
  have hlen := HWS.out.len
  have HW := Lib.hid hw
  clear hw
  go_wp2_with (fail)
  go_loopw [6, 7] (fun ov iv wr => ∃ (m f : Nat) (acc : List ORule), m ≤ ws.length ∧ iv = .int .i64 m ∧ ws.length ≤ m + f ∧ acc.length ≤ m ∧ Hid (OwnT wr X W0.heap.size 75 2 ruleT ov acc) ∧ Below W0.heap.size W0 wr ∧ Hid (∀ r ∈ acc, r.pre.size ≤ 40000 ∧ SmallG r.groups) ∧ Hid (oparse s = rparseW s f (ws.drop m) acc)) (fun _ iv _ => ws.length - (intOf iv).toNat)
  case atStart => exact ⟨0, ws.length, [], Nat.zero_le _, rfl, by omega, by simp, ⟨[], ⟨rfl, .inr ⟨W0.heap.size, 0, #[], rfl, Nat.le_refl _, World.alloc_heap_new _ _, Nat.le_refl _, Nat.zero_le _, rfl, rfl⟩⟩, by simp [ReadsL]⟩, qalloc _ _, fun r hr => by simp at hr, HO.out.symm⟩
  case round =>
    obtain ⟨m, f, acc, hm, rfl, hf, hacc, HOW, hbr, HSM, HP⟩ := hrel
    obtain ⟨oa, oc, rfl, ho1, ho2⟩ := HOW.out.val
    by_cases hml : m < ws.length
    · obtain ⟨f, rfl⟩ : ∃ f', f = f' + 1 := ⟨f - 1, by omega⟩
      have hX : ∀ k, k ∈ (Value.slice oa acc.length oc).ownBlock.toList ++ X → k < wr.heap.size := fun k hk => by
        rcases List.mem_append.1 hk with hk | hk
        · exact HOW.out.lt (by simpa using hk)
        · have h1 := hXw k hk; have h2 := hb0.size; have h3 := hbr.size; omega
      have HC := Lib.hid (rrule_any (.slice a ws.length cap) ws m wr _ hX (words_below HW.out hbr) HWS.out hml)
      obtain ⟨k, hk1, hk2, hk3, hk4⟩ := ruleW_suf (ws.drop m)
      rw [List.length_drop] at hk1
      rw [List.drop_drop] at hk2
      have hnx : ws.length - (ruleW (ws.drop m)).2.1.length = m + k := by rw [hk2, List.length_drop]; omega
      have HSR := Lib.hid (small_rule HWS.out hk4)
      have hpost : Hid (∀ e w', RulePost ws m ((Value.slice oa acc.length oc).ownBlock.toList ++ X) wr e w' → ∃ pv gv, (∃ ga gn gc, gv = .slice ga gn gc) ∧ e = .returned (.tuple #[.agg #[.string pv, gv], .int .i64 (m + k : Nat), .bool (ruleW (ws.drop m)).2.2]) ∧ ((ruleW (ws.drop m)).2.2 = true → pv = (ruleW (ws.drop m)).1.pre ∧ Reads w' ((Value.slice oa acc.length oc).ownBlock.toList ++ X) (groupsT (ruleW (ws.drop m)).1.groups) gv) ∧ Below wr.heap.size wr w') := fun e w' h => by
        obtain ⟨pv, gv, h0, h1, h2, h3⟩ := h
        rw [hnx] at h1
        exact ⟨pv, gv, h0, h1, h2, h3⟩
      have HK2 := Lib.hid hk2
      clear hX hnx hk4 hk2
      cases hok : (ruleW (ws.drop m)).2.2 with
      | true =>
        have hk1' := hk3 hok
        have HP2 : Hid (oparse s = rparseW s f (ws.drop (m + k)) (acc ++ [(ruleW (ws.drop m)).1])) := HP.out.trans (rparseW_at hml (Prod.ext rfl (Prod.ext HK2.out hok)))
        have HOK := Lib.hid hok
        rw [hok] at hpost
        generalize ruleW (ws.drop m) = rr at *
        obtain ⟨r, rest, ok⟩ := rr
        clear hok hk3 HK2 HP
        go_wp2_with (fail)
        refine HC.out.mono ?_
        intro e w1 hp
        obtain ⟨pv, gv, -, rfl, hp2, hb1⟩ := hpost.out e w1 hp
        obtain ⟨rfl, hrd⟩ := hp2 trivial
        obtain ⟨xs, hrow, hrl⟩ := (HOW.out.below hb1)
        obtain ⟨ga, gc, rfl, -, -⟩ := groups_val hrd
        have HRD := Lib.hid hrd
        have HRL := Lib.hid hrl
        clear hp hp2 hrd hrl HC hpost HOW
        have hbz := hbr.size
        have hbz1 := hb1.size
        go_wp2_with (at_builtin; refine wpList_append_own_at _ rfl _ _ 71 rfl W0.heap.size 75 ir0 _ 2 40 Tryz.underlying71 hir hzr0 hzr1 hzr2 rfl (by decide) _ _ _ rfl ((hrow.alloc _).alloc _) ⟨w1.heap.size + 1, 0, none⟩ 1 1 [.string r.pre, .slice ga r.groups.length gc] rfl rfl (cell_two' _ _ _ _ (by simp)) (by simp [Value.oneCell']) (by unfold maxLen; omega) (by omega) (by simp; omega) ?_)
        intro v' w3 hown3 hg3 _ hbk3
        have hA := qtrans (qalloc w1 (.cells #[.string r.pre, .slice ga r.groups.length gc] 75)) (qalloc _ (.cells #[.string r.pre, .slice ga r.groups.length gc] 75))
        have own3 : OwnT w3 X W0.heap.size 75 2 ruleT v' (acc ++ [r]) :=
          OwnT.grown ((hrow.alloc _).alloc _) (HRL.out.below hA) ((ReadsL.cons (Reads.leaf' _ _ _) (ReadsL.cons HRD.out (ReadsL.nil _ _))).below hA) hown3 hg3 (by simpa using hbk3)
        have hb3 : Below W0.heap.size W0 w3 := (qtrans (qtrans hbr hb1) hA).grown hg3 (by simp; omega) (fun k hk => owns_block hrow hk)
        have HOW3 := Lib.hid own3
        obtain ⟨va', vc', rfl⟩ := owns_val hown3
        clear hg3 hbk3 hown3 own3 hA hrow
        go_wp2
        go_roundw
        case rel => exact ⟨m + k, f, acc ++ [r], by omega, by go_num, by omega, by simp; omega, HOW3, hb3, fun r' hr' => by
          rcases List.mem_append.1 hr' with h | h
          · exact HSM.out r' h
          · rw [show r' = r by simpa using h]; exact HSR.out, HP2⟩
        case measure => simp [intOf]; omega
      | false =>
        rw [hok] at hpost
        have HR2 : Hid ((ruleW (ws.drop m)).2 = (ws.drop (m + k), false)) := Prod.ext HK2.out hok
        by_cases hmk : m + k < ws.length
        · obtain ⟨y, hy⟩ : ∃ y, ws[m + k]? = some y := ⟨_, List.getElem?_eq_getElem hmk⟩
          have hyk : (((m + k : Nat) : Int) == (ws.length : Int)) = false := by rw [beq_eq_false_iff_ne]; omega
          have hyk2 : (((m : Int) + (k : Int)) == (ws.length : Int)) = false := by rw [beq_eq_false_iff_ne]; omega
          have HP2 : Hid (oparse s = ([], (y.2 : Int), 3)) := HP.out.trans (rparseW_bad hml HR2.out hy)
          have HY := Lib.hid hy
          generalize ruleW (ws.drop m) = rr at *
          clear hok hk3 HK2 HP hy
          go_wp2_with (fail)
          refine HC.out.mono ?_
          intro e w1 hp
          obtain ⟨pv, gv, ⟨ga, gn, gc, rfl⟩, rfl, -, hb1⟩ := hpost.out e w1 hp
          clear hp HC hpost
          obtain ⟨b', o', e', hb', -, cy⟩ := words_elem (words_below HW.out (qtrans hbr hb1)) HY.out
          cases e'
          have hbz := hbr.size
          have hbz1 := hb1.size
          go_wp2
          go_region
          go_wp2
          go_ret3
          rw [HP2.out]
          exact ⟨_, rfl, reads_noneX _ _ _, (qtrans hb0 (qtrans hbr (qtrans hb1 (qtrans (qalloc _ _) (qalloc _ _))))).drew⟩
        · have hyk : (((m + k : Nat) : Int) == (ws.length : Int)) = true := by rw [beq_iff_eq]; omega
          have hyk2 : (((m : Int) + (k : Int)) == (ws.length : Int)) = true := by rw [beq_iff_eq]; omega
          have HP2 : Hid (oparse s = ([], (s.size : Int), 3)) := HP.out.trans (rparseW_short hml HR2.out hmk)
          generalize ruleW (ws.drop m) = rr at *
          clear hok hk3 HK2 HP
          go_wp2_with (fail)
          refine HC.out.mono ?_
          intro e w1 hp
          obtain ⟨pv, gv, ⟨ga, gn, gc, rfl⟩, rfl, -, hb1⟩ := hpost.out e w1 hp
          clear hp HC hpost
          go_wp2
          go_ret3
          rw [HP2.out]
          exact ⟨_, rfl, reads_noneX _ _ _, qtrans hb0 (qtrans hbr (qtrans hb1 (qtrans (qalloc _ _) (qalloc _ _))))⟩
    · have HPE := Lib.hid (HP.out.trans (rparseW_end hml))
      have HRA := Lib.hid HOW.out.reads0
      have HRX := Lib.hid (HOW.out.reads (fun b hb hc => by have h1 := HOW.out.ge hb; have h2 := hXw b hc; have h3 := hb0.size; omega))
      have HSR : Hid (SmallR acc) := ⟨by omega, HSM.out⟩
      clear HP
      generalize hq : ocheckErr acc = q at *
      have HQ := Lib.hid hq
      clear hq
      by_cases hq0 : q = 0
      · have hqn : (q != 0) = false := by simp [hq0]
        have HP2 : Hid (oparse s = (acc, 0, 0)) := by show _ = _; rw [HPE.out, if_pos hq0]
        go_wp2_with (go_at_call 130; refine (rCheck_any _ acc _ HRA.out HSR.out).mono ?_; rintro e w2 ⟨rfl, hb2⟩; rw [HQ.out])
        go_ret3
        rw [HP2.out]
        exact ⟨_, rfl, HRX.out.below hb2, qtrans hb0 (qtrans hbr hb2)⟩
      · have hqn : (q != 0) = true := by simp [hq0]
        have HP2 : Hid (oparse s = ([], 0, q)) := by show _ = _; rw [HPE.out, if_neg hq0]
        go_wp2_with (go_at_call 130; refine (rCheck_any _ acc _ HRA.out HSR.out).mono ?_; rintro e w2 ⟨rfl, hb2⟩; rw [HQ.out])
        go_ret3
        rw [HP2.out]
        exact ⟨_, rfl, reads_noneX _ _ _, qtrans hb0 (qtrans hbr (qtrans hb2 (qalloc _ _)))⟩
end Go.Proofs.YtidkpnabdfiilaaGreatDoor
