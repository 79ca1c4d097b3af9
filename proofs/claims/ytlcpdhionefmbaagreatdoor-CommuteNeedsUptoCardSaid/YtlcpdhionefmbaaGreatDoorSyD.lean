/- The reference's named of chapter 21. -/
import Derived.Test.YtlcpdhionefmbaaGreatDoorSyC
namespace Go.Proofs.YtlcpdhionefmbaaGreatDoor
open Go.RowKit

theorem memS_ops (n : ByteArray) : memS n [⟨#[43]⟩, ⟨#[45]⟩, ⟨#[42]⟩, ⟨#[61]⟩, ⟨#[60]⟩] = opB n := by
  unfold memS opB
  simp only [List.any_cons, List.any_nil, Bool.or_false, Bool.or_assoc]
set_option maxRecDepth 100000 in
set_option maxHeartbeats 2000000 in
theorem named_any (k i d : Int) (n m : ByteArray) (sv : Value) (a b c : Nat) (hk : shapeK k = some (a, b, c)) (hn : n.size ≤ 40000) (hm : m.size ≤ 40000) (w : World) :
    Calls Tryz.prog 148 #[.agg #[.int .i64 k, .string n, .string m, .int .i64 i, .int .i64 d, sv], .agg #[.bool (decide (1 ≤ a)), .bool (decide (2 ≤ a)), .bool (decide (1 ≤ b)), .bool (decide (2 ≤ b)), .int .i64 c]] w fun e w' => e = .returned (.bool (namesR k n m a)) ∧ Below w.heap.size w w' := by
  rcases shape_cases hk with ⟨rfl, rfl⟩ | ⟨rfl, rfl⟩ | ⟨rfl, k5, k10, k13⟩ | ⟨rfl, k5, k10, k13⟩ | ⟨rfl, rfl⟩ | ⟨rfl, rfl⟩
  all_goals
    generalize decide (1 ≤ b) = b1
    generalize decide (2 ≤ b) = b2
  · have HE : Hid (isE n = (n.toList == [])) := by show _ = _; rw [isE, tl]
    cases he : (n.toList == []) with
    | true =>
      have HN : Hid (namesR 5 n m 1 = true) := by show _ = _; simp [namesR, HE.out, he]
      have HB := Lib.hid (CBox.new w 48 #[.int .i64 5, .string n, .string m, .int .i64 i, .int .i64 d, sv])
      have HB := Lib.hid (HB.out.alloc (.cells #[.bool (decide (1 ≤ 1)), .bool (decide (2 ≤ 1)), .bool b1, .bool b2, .int .i64 c] 159))
      have HS := Lib.hid (CBox.new (w.alloc (.cells #[.int .i64 5, .string n, .string m, .int .i64 i, .int .i64 d, sv] 48)) 159 #[.bool (decide (1 ≤ 1)), .bool (decide (2 ≤ 1)), .bool b1, .bool b2, .int .i64 c])
      go_enter Tryz.func148, Tryz.ntmps148
      go_wp2
      go_ret
      exact ⟨ret_bool (by rw [HN.out]), (qtrans (qalloc w _) (qalloc _ _))⟩
    | false =>
      have HN : Hid (namesR 5 n m 1 = labelS n) := by show _ = _; simp [namesR, HE.out, he]
      have HB := Lib.hid (CBox.new w 48 #[.int .i64 5, .string n, .string m, .int .i64 i, .int .i64 d, sv])
      have HB := Lib.hid (HB.out.alloc (.cells #[.bool (decide (1 ≤ 1)), .bool (decide (2 ≤ 1)), .bool b1, .bool b2, .int .i64 c] 159))
      have HS := Lib.hid (CBox.new (w.alloc (.cells #[.int .i64 5, .string n, .string m, .int .i64 i, .int .i64 d, sv] 48)) 159 #[.bool (decide (1 ≤ 1)), .bool (decide (2 ≤ 1)), .bool b1, .bool b2, .int .i64 c])
      go_enter Tryz.func148, Tryz.ntmps148
      go_wp2_with (fail)
      refine (rLabel_any n _ (by omega)).mono ?_
      rintro e w1 ⟨rfl, rfl⟩
      go_wp2
      go_ret
      exact ⟨ret_bool (by rw [HN.out]), (qtrans (qalloc w _) (qalloc _ _))⟩
  · have HN : Hid (namesR 10 n m 1 = opB n) := by show _ = _; simp [namesR]
    have HO := Lib.hid (memS_ops n)
    go_enter Tryz.func148, Tryz.ntmps148
    go_wp2_with (fail)
    refine (rHas_any _ n [⟨#[43]⟩, ⟨#[45]⟩, ⟨#[42]⟩, ⟨#[61]⟩, ⟨#[60]⟩] _ (strs_five' _ _ _ _ _ _ (by simp)) (by decide)).mono ?_
    rintro e w3 ⟨rfl, rfl⟩
    rw [HO.out]
    go_wp2
    go_ret
    exact ⟨ret_bool (by rw [HN.out]), qtrans (qtrans (qalloc w _) (qalloc _ _)) (qalloc _ _)⟩
  · have HN : Hid (namesR k n m 0 = true) := by show _ = _; simp [namesR, k5, k10]
    have q5 : (k == 5) = false := by simp [k5]
    have q10 : (k == 10) = false := by simp [k10]
    clear k5 k10 k13 hk
    have HB := Lib.hid (CBox.new w 48 #[.int .i64 k, .string n, .string m, .int .i64 i, .int .i64 d, sv])
    have HB := Lib.hid (HB.out.alloc (.cells #[.bool (decide (1 ≤ 0)), .bool (decide (2 ≤ 0)), .bool b1, .bool b2, .int .i64 c] 159))
    have HS := Lib.hid (CBox.new (w.alloc (.cells #[.int .i64 k, .string n, .string m, .int .i64 i, .int .i64 d, sv] 48)) 159 #[.bool (decide (1 ≤ 0)), .bool (decide (2 ≤ 0)), .bool b1, .bool b2, .int .i64 c])
    go_enter Tryz.func148, Tryz.ntmps148
    go_wp2
    go_ret
    exact ⟨ret_bool (by rw [HN.out]), (qtrans (qalloc w _) (qalloc _ _))⟩
  · have HN : Hid (namesR k n m 1 = nmS n) := by show _ = _; simp [namesR, k5, k10]
    have q5 : (k == 5) = false := by simp [k5]
    have q10 : (k == 10) = false := by simp [k10]
    clear k5 k10 k13 hk
    have HB := Lib.hid (CBox.new w 48 #[.int .i64 k, .string n, .string m, .int .i64 i, .int .i64 d, sv])
    have HB := Lib.hid (HB.out.alloc (.cells #[.bool (decide (1 ≤ 1)), .bool (decide (2 ≤ 1)), .bool b1, .bool b2, .int .i64 c] 159))
    have HS := Lib.hid (CBox.new (w.alloc (.cells #[.int .i64 k, .string n, .string m, .int .i64 i, .int .i64 d, sv] 48)) 159 #[.bool (decide (1 ≤ 1)), .bool (decide (2 ≤ 1)), .bool b1, .bool b2, .int .i64 c])
    go_enter Tryz.func148, Tryz.ntmps148
    go_wp2_with (fail)
    refine (rName_any n _ (by omega)).mono ?_
    rintro e w1 ⟨rfl, hb1⟩
    have HB1 := Lib.hid (HB.out.below hb1)
    have c01 := HB1.out.cell (i := 0) rfl
    have c11 := HB1.out.cell (i := 1) rfl
    have c21 := HB1.out.cell (i := 2) rfl
    have l1 := HB1.out.lt
    have HS := Lib.hid (HS.out.below hb1)
    have s01 := HS.out.cell (i := 0) rfl
    have t1 := HS.out.lt
    simp only [World.size_alloc] at s01 t1
    go_wp2
    go_ret
    exact ⟨ret_bool (by rw [HN.out]), (qtrans (qtrans (qalloc w _) (qalloc _ _)) hb1)⟩
  · cases hu : nmS m with
    | false =>
      have HN : Hid (namesR 4 n m 2 = false) := by show _ = _; simp [namesR, hu]
      have HB := Lib.hid (CBox.new w 48 #[.int .i64 4, .string n, .string m, .int .i64 i, .int .i64 d, sv])
      have HB := Lib.hid (HB.out.alloc (.cells #[.bool (decide (1 ≤ 2)), .bool (decide (2 ≤ 2)), .bool b1, .bool b2, .int .i64 c] 159))
      have HS := Lib.hid (CBox.new (w.alloc (.cells #[.int .i64 4, .string n, .string m, .int .i64 i, .int .i64 d, sv] 48)) 159 #[.bool (decide (1 ≤ 2)), .bool (decide (2 ≤ 2)), .bool b1, .bool b2, .int .i64 c])
      go_enter Tryz.func148, Tryz.ntmps148
      go_wp2_with (fail)
      refine (rName_any m _ (by omega)).mono ?_
      rintro e w1 ⟨rfl, hb1⟩
      have HB1 := Lib.hid (HB.out.below hb1)
      have c01 := HB1.out.cell (i := 0) rfl
      have c11 := HB1.out.cell (i := 1) rfl
      have c21 := HB1.out.cell (i := 2) rfl
      have l1 := HB1.out.lt
      have HS := Lib.hid (HS.out.below hb1)
      have s01 := HS.out.cell (i := 0) rfl
      have t1 := HS.out.lt
      simp only [World.size_alloc] at s01 t1
      rw [hu]
      go_wp2
      go_ret
      exact ⟨ret_bool (by rw [HN.out]), (qtrans (qtrans (qalloc w _) (qalloc _ _)) hb1)⟩
    | true =>
      have HN : Hid (namesR 4 n m 2 = nmS n) := by show _ = _; simp [namesR, hu]
      have HB := Lib.hid (CBox.new w 48 #[.int .i64 4, .string n, .string m, .int .i64 i, .int .i64 d, sv])
      have HB := Lib.hid (HB.out.alloc (.cells #[.bool (decide (1 ≤ 2)), .bool (decide (2 ≤ 2)), .bool b1, .bool b2, .int .i64 c] 159))
      have HS := Lib.hid (CBox.new (w.alloc (.cells #[.int .i64 4, .string n, .string m, .int .i64 i, .int .i64 d, sv] 48)) 159 #[.bool (decide (1 ≤ 2)), .bool (decide (2 ≤ 2)), .bool b1, .bool b2, .int .i64 c])
      go_enter Tryz.func148, Tryz.ntmps148
      go_wp2_with (fail)
      refine (rName_any m _ (by omega)).mono ?_
      rintro e w1 ⟨rfl, hb1⟩
      have HB1 := Lib.hid (HB.out.below hb1)
      have c01 := HB1.out.cell (i := 0) rfl
      have c11 := HB1.out.cell (i := 1) rfl
      have c21 := HB1.out.cell (i := 2) rfl
      have l1 := HB1.out.lt
      have HS := Lib.hid (HS.out.below hb1)
      have s01 := HS.out.cell (i := 0) rfl
      have t1 := HS.out.lt
      simp only [World.size_alloc] at s01 t1
      rw [hu]
      go_wp2_with (fail)
      refine (rName_any n _ (by omega)).mono ?_
      rintro e w2 ⟨rfl, hb2⟩
      have HB2 := Lib.hid (HB1.out.below hb2)
      have c02 := HB2.out.cell (i := 0) rfl
      have c12 := HB2.out.cell (i := 1) rfl
      have c22 := HB2.out.cell (i := 2) rfl
      have l2 := HB2.out.lt
      have HS := Lib.hid (HS.out.below hb2)
      have s02 := HS.out.cell (i := 0) rfl
      have t2 := HS.out.lt
      simp only [World.size_alloc] at s02 t2
      go_wp2
      go_ret
      exact ⟨ret_bool (by rw [HN.out]), (qtrans (qtrans (qtrans (qalloc w _) (qalloc _ _)) hb1) hb2)⟩
  · cases hu : nmS m with
    | false =>
      have HN : Hid (namesR 13 n m 2 = false) := by show _ = _; simp [namesR, hu]
      have HB := Lib.hid (CBox.new w 48 #[.int .i64 13, .string n, .string m, .int .i64 i, .int .i64 d, sv])
      have HB := Lib.hid (HB.out.alloc (.cells #[.bool (decide (1 ≤ 2)), .bool (decide (2 ≤ 2)), .bool b1, .bool b2, .int .i64 c] 159))
      have HS := Lib.hid (CBox.new (w.alloc (.cells #[.int .i64 13, .string n, .string m, .int .i64 i, .int .i64 d, sv] 48)) 159 #[.bool (decide (1 ≤ 2)), .bool (decide (2 ≤ 2)), .bool b1, .bool b2, .int .i64 c])
      go_enter Tryz.func148, Tryz.ntmps148
      go_wp2_with (fail)
      refine (rName_any m _ (by omega)).mono ?_
      rintro e w1 ⟨rfl, hb1⟩
      have HB1 := Lib.hid (HB.out.below hb1)
      have c01 := HB1.out.cell (i := 0) rfl
      have c11 := HB1.out.cell (i := 1) rfl
      have c21 := HB1.out.cell (i := 2) rfl
      have l1 := HB1.out.lt
      have HS := Lib.hid (HS.out.below hb1)
      have s01 := HS.out.cell (i := 0) rfl
      have t1 := HS.out.lt
      simp only [World.size_alloc] at s01 t1
      rw [hu]
      go_wp2
      go_ret
      exact ⟨ret_bool (by rw [HN.out]), (qtrans (qtrans (qalloc w _) (qalloc _ _)) hb1)⟩
    | true =>
      have HN : Hid (namesR 13 n m 2 = nmS n) := by show _ = _; simp [namesR, hu]
      have HB := Lib.hid (CBox.new w 48 #[.int .i64 13, .string n, .string m, .int .i64 i, .int .i64 d, sv])
      have HB := Lib.hid (HB.out.alloc (.cells #[.bool (decide (1 ≤ 2)), .bool (decide (2 ≤ 2)), .bool b1, .bool b2, .int .i64 c] 159))
      have HS := Lib.hid (CBox.new (w.alloc (.cells #[.int .i64 13, .string n, .string m, .int .i64 i, .int .i64 d, sv] 48)) 159 #[.bool (decide (1 ≤ 2)), .bool (decide (2 ≤ 2)), .bool b1, .bool b2, .int .i64 c])
      go_enter Tryz.func148, Tryz.ntmps148
      go_wp2_with (fail)
      refine (rName_any m _ (by omega)).mono ?_
      rintro e w1 ⟨rfl, hb1⟩
      have HB1 := Lib.hid (HB.out.below hb1)
      have c01 := HB1.out.cell (i := 0) rfl
      have c11 := HB1.out.cell (i := 1) rfl
      have c21 := HB1.out.cell (i := 2) rfl
      have l1 := HB1.out.lt
      have HS := Lib.hid (HS.out.below hb1)
      have s01 := HS.out.cell (i := 0) rfl
      have t1 := HS.out.lt
      simp only [World.size_alloc] at s01 t1
      rw [hu]
      go_wp2_with (fail)
      refine (rName_any n _ (by omega)).mono ?_
      rintro e w2 ⟨rfl, hb2⟩
      have HB2 := Lib.hid (HB1.out.below hb2)
      have c02 := HB2.out.cell (i := 0) rfl
      have c12 := HB2.out.cell (i := 1) rfl
      have c22 := HB2.out.cell (i := 2) rfl
      have l2 := HB2.out.lt
      have HS := Lib.hid (HS.out.below hb2)
      have s02 := HS.out.cell (i := 0) rfl
      have t2 := HS.out.lt
      simp only [World.size_alloc] at s02 t2
      go_wp2
      go_ret
      exact ⟨ret_bool (by rw [HN.out]), (qtrans (qtrans (qtrans (qalloc w _) (qalloc _ _)) hb1) hb2)⟩
end Go.Proofs.YtlcpdhionefmbaaGreatDoor
