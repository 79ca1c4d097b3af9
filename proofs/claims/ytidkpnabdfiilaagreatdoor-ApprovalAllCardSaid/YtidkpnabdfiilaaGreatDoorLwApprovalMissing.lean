/- ApprovalMissing: the walk. -/
import Derived.Test.YtidkpnabdfiilaaGreatDoorLwApprovalSeen
import Derived.Test.YtidkpnabdfiilaaGreatDoorXeE
namespace Go.Proofs.YtidkpnabdfiilaaGreatDoor
open Go.RowKit
attribute [local go_sem] Oper.semAt_some
attribute [local irreducible] Go.wpStill

theorem smallA_of {l : List Appr} (h : greatA l = false) : smallA l := by
  obtain ⟨h1, h2⟩ := greatA_small h
  exact ⟨by omega, fun a ha => by have := h2 a ha; omega⟩
set_option maxRecDepth 100000 in
set_option maxHeartbeats 4000000 in
theorem LApprovalMissing_any (va : Value) (l : List Appr) (change : Int) (v1 : Value) (old : List OFile) (v2 : Value) (fresh : List OFile) (w : World) (ha : Reads w [] (apprsT l) va) (za : SizedA l) (_zc : (Lit.int .i64 change).wf = true) (h1 : Reads w [] (filesT old) v1) (z1 : SizedF old) (h2 : Reads w [] (filesT fresh) v2) (z2 : SizedF fresh) :
    Calls Tryz.prog 9 #[va, .int .i64 change, v1, v2] w fun e w' => e = .returned (.bool true) ∧ Below w.heap.size w w' := by
  obtain ⟨aa, capa, rfl, hca, hda⟩ := apprs_val ha
  obtain ⟨a1, cap1, rfl, hc1, hd1⟩ := files_val h1
  obtain ⟨a2, cap2, rfl, hc2, hd2⟩ := files_val h2
  have hA := qalloc w (.cells #[.slice a1 old.length cap1, .slice a2 fresh.length cap2] 22)
  have HG := Lib.hid (great55_any _ [old, fresh] _ (two_files h1 h2) (sized2 z1 z2))
  have H1 := Lib.hid (h1.below hA)
  have H2 := Lib.hid (h2.below hA)
  have HL := Lib.hid (ha.below hA)
  have HGA := Lib.hid (xGreat_any _ l _ HL.out za)
  clear h1 h2 z1 z2 ha za
  cases hg : [old, fresh].any greatF with
  | true =>
    rw [hg] at HG
    go_enter Tryz.func9, Tryz.ntmps9
    go_wp2_with (fail)
    refine HG.out.mono ?_
    rintro e w0 ⟨rfl, rfl⟩
    go_wp2_with (fail)
    refine (awake55_any _).mono ?_
    rintro e w9 ⟨rfl, hb9⟩
    go_wp2
    go_ret
    exact ⟨rfl, qtrans hA hb9⟩
  | false =>
  rw [hg] at HG
  cases hga : greatA l with
  | true =>
    rw [hga] at HGA
    go_enter Tryz.func9, Tryz.ntmps9
    go_wp2_with (fail)
    refine HG.out.mono ?_
    rintro e w0 ⟨rfl, rfl⟩
    go_wp2_with (fail)
    refine HGA.out.mono ?_
    rintro e w0 ⟨rfl, rfl⟩
    go_wp2_with (fail)
    refine (awake55_any _).mono ?_
    rintro e w9 ⟨rfl, hb9⟩
    go_wp2
    go_ret
    exact ⟨rfl, qtrans hA hb9⟩
  | false =>
  rw [hga] at HGA
  obtain ⟨g1, g2⟩ := two_great hg
  have hS := great_small2 g1 g2
  have hSA := smallA_of hga
  have hl1 := (greatA_small hga).1
  have HST := Lib.hid (fun a W h1 h2 => AStands_any a (.slice a1 old.length cap1) (.slice a2 fresh.length cap2) old fresh W h1 h2 hS.s1 hS.s2 hS.len)
  have HSX := Lib.hid (fun a W h1 h2 => xStands_any a (.slice a1 old.length cap1) (.slice a2 fresh.length cap2) old fresh W h1 h2 hS.s1 hS.s2 hS.d1 hS.d2 hS.len)
  have HMI := Lib.hid (fun W ha h1 h2 => Missing_any (.slice aa l.length capa) (.slice a1 old.length cap1) (.slice a2 fresh.length cap2) l change old fresh W ha hSA h1 h2 hS.s1 hS.s2 hS.len)
  have HMX := Lib.hid (fun W ha h1 h2 => xMissing_any (.slice aa l.length capa) (.slice a1 old.length cap1) (.slice a2 fresh.length cap2) l change old fresh W ha hSA h1 h2 hS)
  have HFI := Lib.hid (fun W ha h1 h2 => Fallen_any (.slice aa l.length capa) (.slice a1 old.length cap1) (.slice a2 fresh.length cap2) l change old fresh W ha hSA h1 h2 hS.s1 hS.s2 hS.len)
  have HFX := Lib.hid (fun W ha h1 h2 => xFallen_any (.slice aa l.length capa) (.slice a1 old.length cap1) (.slice a2 fresh.length cap2) l change old fresh W ha hSA h1 h2 hS)
  generalize missingOf l change old fresh = mo at *
  obtain ⟨ml, me⟩ := mo
  generalize fallenL l change old fresh = fl at *
  have hme : (me == me) = true := by simp
  clear hg hga g1 g2 hS hSA
  go_enter Tryz.func9, Tryz.ntmps9
  go_wp2_with (fail)
  refine HG.out.mono ?_
  rintro e w0 ⟨rfl, rfl⟩
  go_wp2_with (fail)
  refine HGA.out.mono ?_
  rintro e w0 ⟨rfl, rfl⟩
  generalize w.alloc (.cells #[.slice a1 old.length cap1, .slice a2 fresh.length cap2] 22) = W0 at *
  clear HG HGA
  go_wp2
  go_loopw [26] (fun iv wr => ∃ k : Nat, k ≤ l.length ∧ iv = .int .i64 k ∧ Below W0.heap.size W0 wr) (fun iv _ => l.length - (intOf iv).toNat)
  case atStart => exact ⟨0, Nat.zero_le _, rfl, qrefl _⟩
  case round =>
    obtain ⟨k, hk, rfl, hbr⟩ := hrel
    have hk0 : (0 : Int) ≤ (k : Int) := by omega
    by_cases hkl : k < l.length
    · obtain ⟨a, hak⟩ : ∃ a, l[k]? = some a := ⟨_, List.getElem?_eq_getElem hkl⟩
      obtain ⟨b1, o1, rfl, hbb1, d0, d1, d2⟩ := apprs_elem (HL.out.below hbr) hak
      have hk1 : (k : Int) < (l.length : Int) := by omega
      have HSA := Lib.hid (HST.out a)
      have HSB := Lib.hid (HSX.out a)
      have hA1 := qalloc wr (.cells #[.string a.who, .int .i64 a.change, .string a.saw] 51)
      have HB := Lib.hid (CBox.new wr 51 #[.string a.who, .int .i64 a.change, .string a.saw])
      have hbA := qtrans hbr hA1
      have hbn : wr.heap.size < (wr.alloc (.cells #[.string a.who, .int .i64 a.change, .string a.saw] 51)).heap.size := HB.out.lt
      clear hak hA1
      generalize standsB old fresh a = sb at *
      have hsb : (sb != sb) = false := by simp
      go_wp2_with (fail)
      have hbd := hbA.drew
      have HBd := Lib.hid (HB.out.below (qrefl _).drew)
      have hbnd : wr.heap.size < (wr.alloc (.cells #[.string a.who, .int .i64 a.change, .string a.saw] 51)).drew.heap.size := hbn
      refine wp_region_noPanic (region_ord (fun W => W.cell? ⟨wr.heap.size, 0, none⟩ = some (.string a.who) ∧ W.cell? ⟨wr.heap.size, 1, none⟩ = some (.int .i64 a.change) ∧ W.cell? ⟨wr.heap.size, 2, none⟩ = some (.string a.saw)) [(true, 0), (true, 1), (true, 2), (true, 4), (true, 5), (true, 6), (false, 3), (false, 7), (true, 8)] mixedK (by kernel_rfl) (fun _ _ _ _ _ h => h) ⟨HBd.out.cell (i := 0) rfl, HBd.out.cell (i := 1) rfl, HBd.out.cell (i := 2) rfl⟩ (fun hHeld => ?_))
      clear HB hbA hbn d0 d1 d2
      generalize (wr.alloc (.cells #[.string a.who, .int .i64 a.change, .string a.saw] 51)).drew = WD at *
      iterate 6 (first | (refine ord_skip rfl (by rfl) ?_; (try simp only [List.getElem_toArray, List.getElem_cons_succ, List.getElem_cons_zero, Act.put, List.setIfInBounds_toArray, List.set_cons_zero, List.set_cons_succ])) | (refine ord_take (v := ?_) rfl (by rfl) ?_ ?_; rotate_left; (focus (intro wq hSw; (try dsimp only at hSw); go_simp; (try rw [if_neg (by first | omega | (simp; omega))]); (try with_reducible rfl))); (try simp only [List.getElem_toArray, List.getElem_cons_succ, List.getElem_cons_zero, Act.put, List.setIfInBounds_toArray, List.set_cons_zero, List.set_cons_succ])))
      (refine ord_do rfl (by rfl) (fun K hK => ?_); go_simp)
      refine (HSA.out WD (H1.out.below hbd) (H2.out.below hbd)).mono ?_
      rintro e w3 ⟨rfl, hb3⟩
      (try go_simp)
      have HB3 := Lib.hid (HBd.out.below hb3)
      have hbd3 := qtrans hbd hb3
      refine hK.out _ _ ⟨HB3.out.cell (i := 0) rfl, HB3.out.cell (i := 1) rfl, HB3.out.cell (i := 2) rfl⟩ (fun hHeld1 => ?_)
      clear hK K hHeld hb3 HBd hbd hbnd
      (try simp only [List.getElem_toArray, List.getElem_cons_succ, List.getElem_cons_zero, Act.put, List.setIfInBounds_toArray, List.set_cons_zero, List.set_cons_succ])
      (refine ord_do rfl (by rfl) (fun K hK => ?_); go_simp)
      refine (HSB.out w3 (H1.out.below hbd3) (H2.out.below hbd3)).mono ?_
      rintro e w4 ⟨rfl, hb4⟩
      (try go_simp)
      have HB4 := Lib.hid (HB3.out.below hb4)
      have hbd4 := qtrans hbd3 hb4
      refine hK.out _ _ ⟨HB4.out.cell (i := 0) rfl, HB4.out.cell (i := 1) rfl, HB4.out.cell (i := 2) rfl⟩ (fun hHeld2 => ?_)
      clear hK K hHeld1 hb4 HB3 hbd3
      (try simp only [List.getElem_toArray, List.getElem_cons_succ, List.getElem_cons_zero, Act.put, List.setIfInBounds_toArray, List.set_cons_zero, List.set_cons_succ])
      iterate 1 (first | (refine ord_skip rfl (by rfl) ?_; (try simp only [List.getElem_toArray, List.getElem_cons_succ, List.getElem_cons_zero, Act.put, List.setIfInBounds_toArray, List.set_cons_zero, List.set_cons_succ])) | (refine ord_take (v := ?_) rfl (by rfl) ?_ ?_; rotate_left; (focus (intro wq hSw; (try dsimp only at hSw); go_simp; (try rw [if_neg (by first | omega | (simp; omega))]); (try with_reducible rfl))); (try simp only [List.getElem_toArray, List.getElem_cons_succ, List.getElem_cons_zero, Act.put, List.setIfInBounds_toArray, List.set_cons_zero, List.set_cons_succ])))
      refine ord_end (NoPanic.normal ?_)
      go_wp2
      go_roundw
      case rel => exact ⟨k + 1, by omega, by go_num, hbd4⟩
      case measure => simp [intOf]; omega
    · have hkl' : k = l.length := by omega
      subst hkl'
      generalize wr = wo at *
      have H1o := Lib.hid (H1.out.below hbr)
      have H2o := Lib.hid (H2.out.below hbr)
      have HLo := Lib.hid (HL.out.below hbr)
      have hb0 := qtrans hA hbr
      clear H1 H2 HL HST HSX hbr hA
      go_wp2_with (fail)
      refine (HMI.out wo HLo.out H1o.out H2o.out).mono ?_
      rintro e w1 ⟨x1, rfl, r1, hb1⟩
      simp only [] at r1
      obtain ⟨xa, xc, rfl, -, -⟩ := groups_val r1
      have R1 := Lib.hid r1
      have H11 := Lib.hid (H1o.out.below hb1)
      have H21 := Lib.hid (H2o.out.below hb1)
      have HL1 := Lib.hid (HLo.out.below hb1)
      have hb01 := qtrans hb0 hb1
      clear r1 H1o H2o HLo hb1 hb0 HMI
      go_wp2_with (fail)
      refine (HMX.out w1 HL1.out H11.out H21.out).mono ?_
      rintro e w2 ⟨y1, rfl, r2, hb2⟩
      simp only [] at r2
      obtain ⟨ya, yc, rfl, -, -⟩ := groups_val r2
      have R12 := Lib.hid (R1.out.below hb2)
      have HSG := Lib.hid (rSameGroups_eq _ _ ml w2 R12.out r2)
      have H12 := Lib.hid (H11.out.below hb2)
      have H22 := Lib.hid (H21.out.below hb2)
      have HL2 := Lib.hid (HL1.out.below hb2)
      have hb02 := qtrans hb01 hb2
      clear r2 H11 H21 HL1 hb2 hb01 HMX R1 R12
      go_wp2_with (fail)
      refine HSG.out.mono ?_
      rintro e w3 ⟨rfl, n3, rfl⟩
      have H13 := Lib.hid (H12.out.drewN n3)
      have H23 := Lib.hid (H22.out.drewN n3)
      have HL3 := Lib.hid (HL2.out.drewN n3)
      have hb03 := below_drewN hb02 n3
      clear H12 H22 HL2 hb02 HSG
      generalize w2.drewN n3 = w3 at *
      go_wp2_with (fail)
      refine (HFI.out w3 HL3.out H13.out H23.out).mono ?_
      rintro e w4 ⟨u1, rfl, r4, hb4⟩
      obtain ⟨ua, uc, rfl, -, -⟩ := apprs_val r4
      have R4 := Lib.hid r4
      have H14 := Lib.hid (H13.out.below hb4)
      have H24 := Lib.hid (H23.out.below hb4)
      have HL4 := Lib.hid (HL3.out.below hb4)
      have hb04 := qtrans hb03 hb4
      clear r4 H13 H23 HL3 hb4 hb03 HFI
      go_wp2_with (fail)
      refine (HFX.out w4 HL4.out H14.out H24.out).mono ?_
      rintro e w5 ⟨q1, rfl, r5, hb5⟩
      obtain ⟨qa, qc, rfl, -, -⟩ := apprs_val r5
      have HSM := Lib.hid (xSame_any _ _ fl fl w5 (R4.out.below hb5) r5 true ⟨fun _ => rfl, fun _ => rfl⟩)
      have hb05 := qtrans hb04 hb5
      clear r5 R4 H14 H24 HL4 hb5 hb04 HFX
      go_wp2_with (fail)
      refine HSM.out.mono ?_
      rintro e w6 ⟨rfl, n6, rfl⟩
      go_wp2_with (fail)
      refine (awake55_any _).mono ?_
      rintro e w9 ⟨rfl, hb9⟩
      go_wp2
      go_ret
      exact ⟨rfl, qtrans (below_drewN hb05 n6) hb9⟩
end Go.Proofs.YtidkpnabdfiilaaGreatDoor
