/- ApprovalSeen: the walk. -/
import Derived.Test.YtidkpnabdfiilaaGreatDoorAwB
import Derived.Test.YtidkpnabdfiilaaGreatDoorXeD
import Derived.Test.YtidkpnabdfiilaaGreatDoorApC
import Derived.Test.YtidkpnabdfiilaaGreatDoorOpB
namespace Go.Proofs.YtidkpnabdfiilaaGreatDoor
open Go.RowKit

theorem two_files {w : World} {v1 v2 : Value} {a b : List OFile} (h1 : Reads w [] (filesT a) v1) (h2 : Reads w [] (filesT b) v2) : Reads (w.alloc (.cells #[v1, v2] 22)) [] (filessT [a, b]) (.slice (some ⟨w.heap.size, 0, none⟩) 2 2) := by
  have hB := CBox.new w 22 #[v1, v2]
  have hA := qalloc w (.cells #[v1, v2] 22)
  refine Reads.ofRow (xs := [v1, v2]) ⟨rfl, _, _, rfl, Nat.le_refl _, by unfold maxLen; omega, fun _ => ⟨w.heap.size, 0, rfl, hB.lt, fun j u hj => ?_⟩⟩ (fun _ _ _ h => by cases h) ?_
  · match j, hj with
    | 0, hj => cases hj; exact hB.cell (i := 0) rfl
    | 1, hj => cases hj; exact hB.cell (i := 1) rfl
    | (j + 2), hj => cases hj
  · exact ReadsL.cons (h1.below hA) (ReadsL.cons (h2.below hA) (ReadsL.nil _ _))
theorem two_great {a b : List OFile} (h : [a, b].any greatF = false) : greatF a = false ∧ greatF b = false := by
  simp only [List.any_cons, List.any_nil, Bool.or_false, Bool.or_eq_false_iff] at h
  exact h
theorem great_small2 {a b : List OFile} (h1 : greatF a = false) (h2 : greatF b = false) : Small2 a b := by
  obtain ⟨s1, s2⟩ := greatF_small h1
  obtain ⟨t1, t2⟩ := greatF_small h2
  exact ⟨⟨by omega, fun f hf => by have := s2 f hf; omega⟩, ⟨by omega, fun f hf => by have := t2 f hf; omega⟩, fun f hf => by have := s2 f hf; omega, fun f hf => by have := t2 f hf; omega, by omega⟩
theorem sized2 {a b : List OFile} (h1 : SizedF a) (h2 : SizedF b) : ∀ fs ∈ [a, b], SizedF fs := by
  intro fs hf
  simp only [List.mem_cons, List.not_mem_nil, or_false] at hf
  rcases hf with rfl | rfl
  · exact h1
  · exact h2
set_option maxRecDepth 100000 in
set_option maxHeartbeats 2000000 in
theorem LApprovalSeen_any (v1 : Value) (old : List OFile) (v2 : Value) (fresh : List OFile) (who : ByteArray) (w : World) (h1 : Reads w [] (filesT old) v1) (z1 : SizedF old) (h2 : Reads w [] (filesT fresh) v2) (z2 : SizedF fresh) (hz : who.size ≤ 9223372036854775807) :
    Calls Tryz.prog 5 #[v1, v2, .string who] w fun e w' => e = .returned (.bool true) ∧ Below w.heap.size w w' := by
  obtain ⟨a1, cap1, rfl, hc1, hd1⟩ := files_val h1
  obtain ⟨a2, cap2, rfl, hc2, hd2⟩ := files_val h2
  have hA := qalloc w (.cells #[.slice a1 old.length cap1, .slice a2 fresh.length cap2] 22)
  have HG := Lib.hid (great55_any _ [old, fresh] _ (two_files h1 h2) (sized2 z1 z2))
  have H1 := Lib.hid (h1.below hA)
  have H2 := Lib.hid (h2.below hA)
  clear h1 h2 z1 z2
  cases hg : [old, fresh].any greatF with
  | true =>
    rw [hg] at HG
    go_enter Tryz.func5, Tryz.ntmps5
    go_wp2_with (fail)
    refine HG.out.mono ?_
    rintro e w0 ⟨rfl, rfl⟩
    go_wp2_with (fail)
    refine (awake55_any _).mono ?_
    rintro e w9 ⟨rfl, hb9⟩
    go_wp2
    go_ret
    exact ⟨rfl, qtrans hA hb9⟩
  | false =>
    rw [hg] at HG
    by_cases hwz : 50 < who.size
    · have hd : decide ((50 : Int) < (who.size : Int)) = true := decide_eq_true (by omega)
      go_enter Tryz.func5, Tryz.ntmps5
      go_wp2_with (fail)
      refine HG.out.mono ?_
      rintro e w0 ⟨rfl, rfl⟩
      go_wp2_with (fail)
      refine (awake55_any _).mono ?_
      rintro e w9 ⟨rfl, hb9⟩
      go_wp2
      go_ret
      exact ⟨rfl, qtrans hA hb9⟩
    · have hd : decide ((50 : Int) < (who.size : Int)) = false := decide_eq_false (by omega)
      obtain ⟨g1, g2⟩ := two_great hg
      have hS := great_small2 g1 g2
      have HA := Lib.hid (fun W h1 h2 => Seen_any (.slice a1 old.length cap1) (.slice a2 fresh.length cap2) old fresh who W h1 h2 hS.s1 hS.s2 hS.len)
      have HX := Lib.hid (fun W h1 h2 => xSeen_any (.slice a1 old.length cap1) (.slice a2 fresh.length cap2) old fresh who W h1 h2 hS.s1 hS.s2 (fun f hf => (hS.d1 f hf).2) (fun f hf => (hS.d2 f hf).2) hS.len)
      have HB := Lib.hid (fun W h1 h2 => Saw_any (.slice a1 old.length cap1) (.slice a2 fresh.length cap2) old fresh who W h1 h2 hS.s1 hS.s2 hS.len)
      have HY := Lib.hid (fun W h1 h2 => xSaw_any (.slice a1 old.length cap1) (.slice a2 fresh.length cap2) old fresh who W h1 h2 hS.s1 hS.s2 hS.d1 hS.d2 hS.len)
      generalize seenOf old fresh who = so at *
      obtain ⟨sl, se⟩ := so
      generalize sawOf old fresh who = sa at *
      obtain ⟨sv, sg⟩ := sa
      have hee : (se == se) = true := by simp
      have hvv : (sv.toList == sv.toList) = true := by simp
      have hgg : (sg == sg) = true := by simp
      clear hg g1 g2 hS
      go_enter Tryz.func5, Tryz.ntmps5
      go_wp2_with (fail)
      refine HG.out.mono ?_
      rintro e w0 ⟨rfl, rfl⟩
      generalize w.alloc (.cells #[.slice a1 old.length cap1, .slice a2 fresh.length cap2] 22) = W0 at *
      go_wp2_with (fail)
      refine (HA.out W0 H1.out H2.out).mono ?_
      rintro e w1 ⟨c1, rfl, r1, hb1⟩
      simp only [] at r1
      obtain ⟨ca, cc, rfl, -, -⟩ := chgs_val r1
      have H11 := Lib.hid (H1.out.below hb1)
      have H21 := Lib.hid (H2.out.below hb1)
      have R1 := Lib.hid r1
      clear r1
      go_wp2_with (fail)
      refine (HX.out w1 H11.out H21.out).mono ?_
      rintro e w2 ⟨c2, rfl, r2, hb2⟩
      simp only [] at r2
      obtain ⟨da, dc, rfl, -, -⟩ := chgs_val r2
      have H12 := Lib.hid (H11.out.below hb2)
      have H22 := Lib.hid (H21.out.below hb2)
      have R12 := Lib.hid (R1.out.below hb2)
      have R2 := Lib.hid r2
      have hb02 := qtrans (qtrans hA hb1) hb2
      clear r2 R1 H11 H21 hb1 hb2 hA
      go_wp2_with (fail)
      refine (HB.out w2 H12.out H22.out).mono ?_
      rintro e w3 ⟨rfl, hb3⟩
      go_wp2_with (fail)
      refine (HY.out w3 (H12.out.below hb3) (H22.out.below hb3)).mono ?_
      rintro e w4 ⟨rfl, hb4⟩
      have hb24 := qtrans hb3 hb4
      have hb04 := qtrans hb02 hb24
      have HSC := Lib.hid (r9SameChanges_any _ _ sl sl w4 (R12.out.below hb24) (R2.out.below hb24) true ⟨fun _ => rfl, fun _ => rfl⟩)
      clear H12 H22 R12 R2 hb02 hb3 hb4 hb24 HA HX HB HY
      go_wp2_with (fail)
      refine HSC.out.mono ?_
      rintro e w5 ⟨rfl, n5, rfl⟩
      go_wp2_with (fail)
      refine (awake55_any _).mono ?_
      rintro e w9 ⟨rfl, hb9⟩
      go_wp2
      go_ret
      exact ⟨rfl, qtrans (below_drewN hb04 n5) hb9⟩
end Go.Proofs.YtidkpnabdfiilaaGreatDoor
