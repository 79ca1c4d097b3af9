/- ApprovalStands: the walk. -/
import Derived.Test.YtidkpnabdfiilaaGreatDoorLwApprovalSeen
namespace Go.Proofs.YtidkpnabdfiilaaGreatDoor
open Go.RowKit

theorem four_files {w : World} {v1 v2 v3 v4 : Value} {a b c d : List OFile} (h1 : Reads w [] (filesT a) v1) (h2 : Reads w [] (filesT b) v2) (h3 : Reads w [] (filesT c) v3) (h4 : Reads w [] (filesT d) v4) : Reads (w.alloc (.cells #[v1, v2, v3, v4] 22)) [] (filessT [a, b, c, d]) (.slice (some ⟨w.heap.size, 0, none⟩) 4 4) := by
  have hB := CBox.new w 22 #[v1, v2, v3, v4]
  have hA := qalloc w (.cells #[v1, v2, v3, v4] 22)
  refine Reads.ofRow (xs := [v1, v2, v3, v4]) ⟨rfl, _, _, rfl, Nat.le_refl _, by unfold maxLen; omega, fun _ => ⟨w.heap.size, 0, rfl, hB.lt, fun j u hj => ?_⟩⟩ (fun _ _ _ h => by cases h) ?_
  · match j, hj with
    | 0, hj => cases hj; exact hB.cell (i := 0) rfl
    | 1, hj => cases hj; exact hB.cell (i := 1) rfl
    | 2, hj => cases hj; exact hB.cell (i := 2) rfl
    | 3, hj => cases hj; exact hB.cell (i := 3) rfl
    | (j + 4), hj => cases hj
  · exact ReadsL.cons (h1.below hA) (ReadsL.cons (h2.below hA) (ReadsL.cons (h3.below hA) (ReadsL.cons (h4.below hA) (ReadsL.nil _ _))))
theorem four_great {a b c d : List OFile} (h : [a, b, c, d].any greatF = false) : greatF a = false ∧ greatF b = false ∧ greatF c = false ∧ greatF d = false := by
  simp only [List.any_cons, List.any_nil, Bool.or_false, Bool.or_eq_false_iff] at h
  exact h
theorem stands_own {old fresh : List OFile} (e : treesErr old fresh = 0) (who : ByteArray) : standsB old fresh ⟨who, 0, viewOf old fresh who⟩ = true := by
  unfold standsB; rw [decide_eq_true e]; simp
theorem stands_other {old fresh o2 f2 : List OFile} (e2 : treesErr o2 f2 = 0) (who : ByteArray) : standsB o2 f2 ⟨who, 0, viewOf old fresh who⟩ = ((viewOf old fresh who).data.toList == (viewOf o2 f2 who).data.toList) := by
  unfold standsB; rw [decide_eq_true e2]; rfl
theorem stands_bad {o2 f2 : List OFile} (e2 : treesErr o2 f2 ≠ 0) (a : Appr) : standsB o2 f2 a = false := by
  unfold standsB; rw [decide_eq_false e2]; rfl
set_option maxRecDepth 100000 in
set_option maxHeartbeats 4000000 in
theorem LApprovalStands_any (v1 : Value) (old : List OFile) (v2 : Value) (fresh : List OFile) (v3 : Value) (o2 : List OFile) (v4 : Value) (f2 : List OFile) (who : ByteArray) (w : World) (h1 : Reads w [] (filesT old) v1) (z1 : SizedF old) (h2 : Reads w [] (filesT fresh) v2) (z2 : SizedF fresh) (h3 : Reads w [] (filesT o2) v3) (z3 : SizedF o2) (h4 : Reads w [] (filesT f2) v4) (z4 : SizedF f2) (hz : who.size ≤ 9223372036854775807) :
    Calls Tryz.prog 6 #[v1, v2, v3, v4, .string who] w fun e w' => e = .returned (.bool true) ∧ Below w.heap.size w w' := by
  obtain ⟨a1, cap1, rfl, hc1, hd1⟩ := files_val h1
  obtain ⟨a2, cap2, rfl, hc2, hd2⟩ := files_val h2
  obtain ⟨a3, cap3, rfl, hc3, hd3⟩ := files_val h3
  obtain ⟨a4, cap4, rfl, hc4, hd4⟩ := files_val h4
  have hA := qalloc w (.cells #[.slice a1 old.length cap1, .slice a2 fresh.length cap2, .slice a3 o2.length cap3, .slice a4 f2.length cap4] 22)
  have HG := Lib.hid (great55_any _ [old, fresh, o2, f2] _ (four_files h1 h2 h3 h4) (fun fs hf => by
    simp only [List.mem_cons, List.not_mem_nil, or_false] at hf
    rcases hf with rfl | rfl | rfl | rfl
    · exact z1
    · exact z2
    · exact z3
    · exact z4))
  have H1 := Lib.hid (h1.below hA)
  have H2 := Lib.hid (h2.below hA)
  have H3 := Lib.hid (h3.below hA)
  have H4 := Lib.hid (h4.below hA)
  clear h1 h2 z1 z2 h3 h4 z3 z4
  cases hg : [old, fresh, o2, f2].any greatF with
  | true =>
    rw [hg] at HG
    go_enter Tryz.func6, Tryz.ntmps6
    go_wp2_with (fail)
    refine HG.out.mono ?_
    rintro e w0 ⟨rfl, rfl⟩
    go_wp2_with (fail)
    refine (awake55_any _).mono ?_
    rintro e w9 ⟨rfl, hb9⟩
    go_wp2
    go_ret
    exact ⟨rfl, qtrans hA hb9⟩
  | false =>
  rw [hg] at HG
  by_cases hwz : 50 < who.size
  · have hd : decide ((50 : Int) < (who.size : Int)) = true := decide_eq_true (by omega)
    go_enter Tryz.func6, Tryz.ntmps6
    go_wp2_with (fail)
    refine HG.out.mono ?_
    rintro e w0 ⟨rfl, rfl⟩
    go_wp2_with (fail)
    refine (awake55_any _).mono ?_
    rintro e w9 ⟨rfl, hb9⟩
    go_wp2
    go_ret
    exact ⟨rfl, qtrans hA hb9⟩
  have hd : decide ((50 : Int) < (who.size : Int)) = false := decide_eq_false (by omega)
  obtain ⟨g1, g2, g3, g4⟩ := four_great hg
  have hS := great_small2 g1 g2
  have hT := great_small2 g3 g4
  have HA := Lib.hid (fun W h1 h2 => Seen_any (.slice a1 old.length cap1) (.slice a2 fresh.length cap2) old fresh who W h1 h2 hS.s1 hS.s2 hS.len)
  have HB := Lib.hid (fun W h1 h2 => Saw_any (.slice a1 old.length cap1) (.slice a2 fresh.length cap2) old fresh who W h1 h2 hS.s1 hS.s2 hS.len)
  have HST := Lib.hid (fun a W h1 h2 => AStands_any a (.slice a1 old.length cap1) (.slice a2 fresh.length cap2) old fresh W h1 h2 hS.s1 hS.s2 hS.len)
  have HA2 := Lib.hid (fun W h1 h2 => Seen_any (.slice a3 o2.length cap3) (.slice a4 f2.length cap4) o2 f2 who W h1 h2 hT.s1 hT.s2 hT.len)
  have HST2 := Lib.hid (fun a W h1 h2 => AStands_any a (.slice a3 o2.length cap3) (.slice a4 f2.length cap4) o2 f2 W h1 h2 hT.s1 hT.s2 hT.len)
  have HX1 : Hid (seenOf old fresh who = if treesErr old fresh = 0 then (seenL old fresh who, 0) else ([], treesErr old fresh)) := rfl
  have HX2 : Hid (seenOf o2 f2 who = if treesErr o2 f2 = 0 then (seenL o2 f2 who, 0) else ([], treesErr o2 f2)) := rfl
  have HX3 : Hid (sawOf old fresh who = if treesErr old fresh = 0 then (viewOf old fresh who, 0) else (⟨#[]⟩, treesErr old fresh)) := rfl
  have HINJ := Lib.hid (fun h1 h2 => view_inj g1 g2 g3 g4 h1 h2 who)
  clear hg g1 g2 g3 g4 hS hT
  by_cases e1 : treesErr old fresh = 0
  · have HOW := Lib.hid (stands_own e1 who)
    have HST1 := Lib.hid (HST.out ⟨who, 0, viewOf old fresh who⟩)
    rw [HOW.out] at HST1
    simp only [] at HST1
    have HST3 := Lib.hid (HST2.out ⟨who, 0, viewOf old fresh who⟩)
    rw [HX1.out, if_pos e1] at HA
    rw [HX3.out, if_pos e1] at HB
    by_cases e2 : treesErr o2 f2 = 0
    · have HIFF : Hid (standsB o2 f2 ⟨who, 0, viewOf old fresh who⟩ = true ↔ seenL old fresh who = seenL o2 f2 who) := by
        refine Lib.hid ?_
        rw [stands_other e2, beq_iff_eq]
        exact HINJ.out e1 e2
      rw [HX2.out, if_pos e2] at HA2
      generalize standsB o2 f2 ⟨who, 0, viewOf old fresh who⟩ = sb at *
      generalize viewOf old fresh who = vw at *
      generalize seenL old fresh who = sl at *
      generalize seenL o2 f2 who = ml at *
      simp only [] at HST3
      have hsb : (sb == sb) = true := by simp
      clear HX1 HX2 HX3 HINJ e1 e2 HST HST2 HOW
      go_enter Tryz.func6, Tryz.ntmps6
      go_wp2_with (fail)
      refine HG.out.mono ?_
      rintro e w0 ⟨rfl, rfl⟩
      generalize w.alloc (.cells #[.slice a1 old.length cap1, .slice a2 fresh.length cap2, .slice a3 o2.length cap3, .slice a4 f2.length cap4] 22) = W0 at *
      go_wp2_with (fail)
      refine (HB.out W0 H1.out H2.out).mono ?_
      rintro e w1 ⟨rfl, hb1⟩
      go_wp2_with (fail)
      refine (HA.out w1 (H1.out.below hb1) (H2.out.below hb1)).mono ?_
      rintro e w2 ⟨cv, rfl, r2, hb2⟩
      simp only [] at r2
      obtain ⟨ca, cc, rfl, -, -⟩ := chgs_val r2
      have hb12 := qtrans hb1 hb2
      have hA3 := qalloc w2 (.cells #[.string who, .int .i64 0, .string vw] 51)
      have HBX := Lib.hid (CBox.new w2 51 #[.string who, .int .i64 0, .string vw])
      have hb13 := qtrans hb12 hA3
      have R3 := Lib.hid (r2.below hA3)
      have H13 := Lib.hid (H1.out.below hb13)
      have H23 := Lib.hid (H2.out.below hb13)
      have H33 := Lib.hid (H3.out.below hb13)
      have H43 := Lib.hid (H4.out.below hb13)
      have hb03 := qtrans hA hb13
      clear H1 H2 H3 H4 hb1 hb2 hb12 hA3 hb13 hA r2 HA HB HG
      go_wp2_with (fail)
      refine (HST1.out _ H13.out H23.out).mono ?_
      rintro e w4 ⟨rfl, hb4⟩
      have HBX4 := Lib.hid (HBX.out.below hb4)
      have R4 := Lib.hid (R3.out.below hb4)
      have H34 := Lib.hid (H33.out.below hb4)
      have H44 := Lib.hid (H43.out.below hb4)
      have hb04 := qtrans hb03 hb4
      clear H13 H23 H33 H43 HBX R3 hb03 hb4 HST1
      go_wp2_with (fail)
      refine (HA2.out w4 H34.out H44.out).mono ?_
      rintro e w5 ⟨mv, rfl, r5, hb5⟩
      simp only [] at r5
      obtain ⟨ma, mc, rfl, -, -⟩ := chgs_val r5
      have HBX5 := Lib.hid (HBX4.out.below hb5)
      have R5 := Lib.hid (R4.out.below hb5)
      have S5 := Lib.hid r5
      have H35 := Lib.hid (H34.out.below hb5)
      have H45 := Lib.hid (H44.out.below hb5)
      have hb05 := qtrans hb04 hb5
      have x0 := HBX5.out.cell (i := 0) rfl
      have x1 := HBX5.out.cell (i := 1) rfl
      have x2 := HBX5.out.cell (i := 2) rfl
      have xl := HBX5.out.lt
      clear H34 H44 HBX4 R4 hb04 hb5 HA2 r5
      go_wp2_with (fail)
      refine (HST3.out w5 H35.out H45.out).mono ?_
      rintro e w6 ⟨rfl, hb6⟩
      have HSC := Lib.hid (r9SameChanges_any _ _ sl ml w6 (R5.out.below hb6) (S5.out.below hb6) sb HIFF)
      have hb06 := qtrans hb05 hb6
      clear x0 x1 x2 xl HBX5 R5 S5 H35 H45 hb05 hb6 HST3
      go_wp2_with (fail)
      refine HSC.out.mono ?_
      rintro e w7 ⟨rfl, n7, rfl⟩
      go_wp2_with (fail)
      refine (awake55_any _).mono ?_
      rintro e w9 ⟨rfl, hb9⟩
      go_wp2
      go_ret
      exact ⟨rfl, qtrans (below_drewN hb06 n7) hb9⟩
    · have HBAD := Lib.hid (stands_bad e2 ⟨who, 0, viewOf old fresh who⟩)
      rw [HX2.out, if_neg e2] at HA2
      rw [HBAD.out] at HST3
      have hne2 : (treesErr o2 f2 != 0) = true := by simpa using e2
      generalize treesErr o2 f2 = q2 at *
      generalize viewOf old fresh who = vw at *
      generalize seenL old fresh who = sl at *
      simp only [] at HST3
      clear HX1 HX2 HX3 HINJ e1 e2 HST HST2 HOW HBAD
      go_enter Tryz.func6, Tryz.ntmps6
      go_wp2_with (fail)
      refine HG.out.mono ?_
      rintro e w0 ⟨rfl, rfl⟩
      generalize w.alloc (.cells #[.slice a1 old.length cap1, .slice a2 fresh.length cap2, .slice a3 o2.length cap3, .slice a4 f2.length cap4] 22) = W0 at *
      go_wp2_with (fail)
      refine (HB.out W0 H1.out H2.out).mono ?_
      rintro e w1 ⟨rfl, hb1⟩
      go_wp2_with (fail)
      refine (HA.out w1 (H1.out.below hb1) (H2.out.below hb1)).mono ?_
      rintro e w2 ⟨cv, rfl, r2, hb2⟩
      simp only [] at r2
      obtain ⟨ca, cc, rfl, -, -⟩ := chgs_val r2
      have hb12 := qtrans hb1 hb2
      have hA3 := qalloc w2 (.cells #[.string who, .int .i64 0, .string vw] 51)
      have HBX := Lib.hid (CBox.new w2 51 #[.string who, .int .i64 0, .string vw])
      have hb13 := qtrans hb12 hA3
      have H13 := Lib.hid (H1.out.below hb13)
      have H23 := Lib.hid (H2.out.below hb13)
      have H33 := Lib.hid (H3.out.below hb13)
      have H43 := Lib.hid (H4.out.below hb13)
      have hb03 := qtrans hA hb13
      clear H1 H2 H3 H4 hb1 hb2 hb12 hA3 hb13 hA r2 HA HB HG
      go_wp2_with (fail)
      refine (HST1.out _ H13.out H23.out).mono ?_
      rintro e w4 ⟨rfl, hb4⟩
      have HBX4 := Lib.hid (HBX.out.below hb4)
      have H34 := Lib.hid (H33.out.below hb4)
      have H44 := Lib.hid (H43.out.below hb4)
      have hb04 := qtrans hb03 hb4
      clear H13 H23 H33 H43 HBX hb03 hb4 HST1
      go_wp2_with (fail)
      refine (HA2.out w4 H34.out H44.out).mono ?_
      rintro e w5 ⟨mv, rfl, r5, hb5⟩
      simp only [] at r5
      obtain ⟨ma, mc, rfl, -, -⟩ := chgs_val r5
      have HBX5 := Lib.hid (HBX4.out.below hb5)
      have H35 := Lib.hid (H34.out.below hb5)
      have H45 := Lib.hid (H44.out.below hb5)
      have hb05 := qtrans hb04 hb5
      have x0 := HBX5.out.cell (i := 0) rfl
      have x1 := HBX5.out.cell (i := 1) rfl
      have x2 := HBX5.out.cell (i := 2) rfl
      have xl := HBX5.out.lt
      clear H34 H44 HBX4 hb04 hb5 HA2 r5
      go_wp2_with (fail)
      refine (HST3.out w5 H35.out H45.out).mono ?_
      rintro e w6 ⟨rfl, hb6⟩
      have hb06 := qtrans hb05 hb6
      clear x0 x1 x2 xl HBX5 H35 H45 hb05 hb6 HST3
      go_wp2_with (fail)
      refine (awake55_any _).mono ?_
      rintro e w9 ⟨rfl, hb9⟩
      go_wp2
      go_ret
      exact ⟨rfl, qtrans hb06 hb9⟩
  · rw [HX1.out, if_neg e1] at HA
    rw [HX3.out, if_neg e1] at HB
    have hne1 : (treesErr old fresh != 0) = true := by simpa using e1
    have hee : (treesErr old fresh == treesErr old fresh) = true := by simp
    generalize treesErr old fresh = q at *
    clear HX1 HX2 HX3 HINJ e1 HST HST2 HA2
    go_enter Tryz.func6, Tryz.ntmps6
    go_wp2_with (fail)
    refine HG.out.mono ?_
    rintro e w0 ⟨rfl, rfl⟩
    generalize w.alloc (.cells #[.slice a1 old.length cap1, .slice a2 fresh.length cap2, .slice a3 o2.length cap3, .slice a4 f2.length cap4] 22) = W0 at *
    go_wp2_with (fail)
    refine (HB.out W0 H1.out H2.out).mono ?_
    rintro e w1 ⟨rfl, hb1⟩
    go_wp2_with (fail)
    refine (HA.out w1 (H1.out.below hb1) (H2.out.below hb1)).mono ?_
    rintro e w2 ⟨cv, rfl, r2, hb2⟩
    simp only [] at r2
    obtain ⟨ca, cc, rfl, -, -⟩ := chgs_val r2
    have hb02 := qtrans hA (qtrans hb1 hb2)
    clear r2 hb1 hb2 hA H1 H2 H3 H4 HA HB HG
    go_wp2_with (fail)
    refine (awake55_any _).mono ?_
    rintro e w9 ⟨rfl, hb9⟩
    go_wp2
    go_ret
    exact ⟨rfl, qtrans hb02 hb9⟩
end Go.Proofs.YtidkpnabdfiilaaGreatDoor
