/- ApprovalFalls: the walk. -/
import Derived.Test.YtidkpnabdfiilaaGreatDoorLwApprovalMissing
namespace Go.Proofs.YtidkpnabdfiilaaGreatDoor
open Go.RowKit
attribute [local go_sem] Oper.semAt_some
attribute [local irreducible] Go.wpStill

theorem fallen_drop {l : List Appr} {change : Int} {old fresh : List OFile} {k : Nat} {a : Appr} (h : l[k]? = some a) : fallenL (l.drop k) change old fresh = (if fallB change old fresh a then [a] else []) ++ fallenL (l.drop (k + 1)) change old fresh := by
  unfold fallenL
  rw [drop_at h, List.filter_cons]
  split <;> rfl
theorem apprs_tail {w : World} {b o cap : Nat} {x : Appr} {rest : List Appr} (h : Reads w [] (apprsT (x :: rest)) (.slice (some ⟨b, o, none⟩) (rest.length + 1) cap)) : Reads w [] (apprsT rest) (.slice (some ⟨b, o + 3, none⟩) rest.length (cap - 1)) := by
  obtain ⟨h1, a, c, e, h2, h3, h4⟩ := reads_apprs.1 h
  cases e
  obtain ⟨b', o', e', hb, hc⟩ := h4 (Nat.succ_pos _)
  cases e'
  refine reads_apprs.2 ⟨by rw [apprCells_len], _, _, rfl, by simp at h2; omega, by omega, fun _ => ⟨b, o + 3, rfl, hb, fun j u hj => ?_⟩⟩
  have := hc (j + 3) u (by
    have e : apprCells (x :: rest) = apprCell x ++ apprCells rest := rfl
    rw [e, List.getElem?_append_right (by simp [apprCell])]
    simpa [apprCell] using hj)
  rw [show o + 3 + j = o + (j + 3) by omega]
  exact this
set_option maxRecDepth 100000 in
set_option maxHeartbeats 4000000 in
theorem LApprovalFalls_any (va : Value) (l : List Appr) (change : Int) (v1 : Value) (old : List OFile) (v2 : Value) (fresh : List OFile) (w : World) (ha : Reads w [] (apprsT l) va) (za : SizedA l) (_zc : (Lit.int .i64 change).wf = true) (h1 : Reads w [] (filesT old) v1) (z1 : SizedF old) (h2 : Reads w [] (filesT fresh) v2) (z2 : SizedF fresh) :
    Calls Tryz.prog 11 #[va, .int .i64 change, v1, v2] w fun e w' => e = .returned (.bool true) ∧ Below w.heap.size w w' := by
  obtain ⟨aa, capa, rfl, hca, hda⟩ := apprs_val ha
  obtain ⟨a1, cap1, rfl, hc1, hd1⟩ := files_val h1
  obtain ⟨a2, cap2, rfl, hc2, hd2⟩ := files_val h2
  have hA := qalloc w (.cells #[.slice a1 old.length cap1, .slice a2 fresh.length cap2] 22)
  have HG := Lib.hid (great55_any _ [old, fresh] _ (two_files h1 h2) (sized2 z1 z2))
  have H1 := Lib.hid (h1.below hA)
  have H2 := Lib.hid (h2.below hA)
  have HL := Lib.hid (ha.below hA)
  have HGA := Lib.hid (xGreat_any _ l _ HL.out za)
  clear h1 h2 z1 z2 ha za
  cases hg : [old, fresh].any greatF with
  | true =>
    rw [hg] at HG
    go_enter Tryz.func11, Tryz.ntmps11
    go_wp2_with (fail)
    refine HG.out.mono ?_
    rintro e w0 ⟨rfl, rfl⟩
    go_wp2_with (fail)
    refine (awake55_any _).mono ?_
    rintro e w9 ⟨rfl, hb9⟩
    go_wp2
    go_ret
    exact ⟨rfl, qtrans hA hb9⟩
  | false =>
  rw [hg] at HG
  cases hga : greatA l with
  | true =>
    rw [hga] at HGA
    go_enter Tryz.func11, Tryz.ntmps11
    go_wp2_with (fail)
    refine HG.out.mono ?_
    rintro e w0 ⟨rfl, rfl⟩
    go_wp2_with (fail)
    refine HGA.out.mono ?_
    rintro e w0 ⟨rfl, rfl⟩
    go_wp2_with (fail)
    refine (awake55_any _).mono ?_
    rintro e w9 ⟨rfl, hb9⟩
    go_wp2
    go_ret
    exact ⟨rfl, qtrans hA hb9⟩
  | false =>
  rw [hga] at HGA
  obtain ⟨g1, g2⟩ := two_great hg
  have hS := great_small2 g1 g2
  have hSA := smallA_of hga
  have hl1 := (greatA_small hga).1
  have HST := Lib.hid (fun a W h1 h2 => AStands_any a (.slice a1 old.length cap1) (.slice a2 fresh.length cap2) old fresh W h1 h2 hS.s1 hS.s2 hS.len)
  have HFI := Lib.hid (fun W ha h1 h2 => Fallen_any (.slice aa l.length capa) (.slice a1 old.length cap1) (.slice a2 fresh.length cap2) l change old fresh W ha hSA h1 h2 hS.s1 hS.s2 hS.len)
  have HF0 : Hid (fallenL l change old fresh = fallenL (l.drop 0) change old fresh) := rfl
  have HFE : Hid (fallenL (l.drop l.length) change old fresh = []) := by show _ = _; rw [List.drop_length]; rfl
  have HFD := Lib.hid (fun k a (h : l[k]? = some a) => fallen_drop (change := change) (old := old) (fresh := fresh) h)
  have HCB : Hid (∀ a, fallB change old fresh a = ((a.change == change) && !standsB old fresh a)) := fun a => rfl
  clear hg hga g1 g2 hS hSA
  rw [HF0.out] at HFI
  generalize hFK : (fun k => fallenL (l.drop k) change old fresh) = FK at *
  have HFK : Hid (∀ k, fallenL (l.drop k) change old fresh = FK k) := fun k => by rw [← hFK]
  rw [HFK.out] at HFI HFE
  have HFD2 : Hid (∀ k a, l[k]? = some a → FK k = (if fallB change old fresh a then [a] else []) ++ FK (k + 1)) := fun k a h => by rw [← HFK.out, ← HFK.out]; exact HFD.out k a h
  clear hFK HFK HFD HF0
  go_enter Tryz.func11, Tryz.ntmps11
  go_wp2_with (fail)
  refine HG.out.mono ?_
  rintro e w0 ⟨rfl, rfl⟩
  go_wp2_with (fail)
  refine HGA.out.mono ?_
  rintro e w0 ⟨rfl, rfl⟩
  generalize w.alloc (.cells #[.slice a1 old.length cap1, .slice a2 fresh.length cap2] 22) = W0 at *
  clear HG HGA
  go_wp2_with (fail)
  refine (HFI.out W0 HL.out H1.out H2.out).mono ?_
  rintro e w1 ⟨fv, rfl, r1, hb1⟩
  have R1 := Lib.hid r1
  obtain ⟨fa, fc, rfl, -, -⟩ := apprs_val r1
  have H11 := Lib.hid (H1.out.below hb1)
  have H21 := Lib.hid (H2.out.below hb1)
  have HL1 := Lib.hid (HL.out.below hb1)
  have hb01 := qtrans hA hb1
  clear r1 hb1 hA H1 H2 HL HFI
  go_wp2
  go_loopw [9, 28] (fun fv iv wr => ∃ (k : Nat) (a : Option Addr) (c : Nat), k ≤ l.length ∧ iv = .int .i64 k ∧ fv = .slice a (FK k).length c ∧ Hid (Reads wr [] (apprsT (FK k)) (.slice a (FK k).length c)) ∧ Below w1.heap.size w1 wr) (fun _ iv _ => l.length - (intOf iv).toNat)
  case atStart => exact ⟨0, _, _, Nat.zero_le _, rfl, rfl, R1, qrefl _⟩
  case round =>
    clear R1
    obtain ⟨k, fa', fc', hk, rfl, rfl, HR, hbr⟩ := hrel
    have hk0 : (0 : Int) ≤ (k : Int) := by omega
    by_cases hkl : k < l.length
    · obtain ⟨a, hak⟩ : ∃ a, l[k]? = some a := ⟨_, List.getElem?_eq_getElem hkl⟩
      obtain ⟨b1, o1, rfl, hbb1, d0, d1, d2⟩ := apprs_elem (HL1.out.below hbr) hak
      have hk1 : (k : Int) < (l.length : Int) := by omega
      have HSA := Lib.hid (HST.out a)
      have HN := Lib.hid (HFD2.out k a hak)
      have HCA := Lib.hid (HCB.out a)
      have hA1 := qalloc wr (.cells #[.string a.who, .int .i64 a.change, .string a.saw] 51)
      have HB := Lib.hid (CBox.new wr 51 #[.string a.who, .int .i64 a.change, .string a.saw])
      have hbA := qtrans hbr hA1
      have HRA := Lib.hid (HR.out.below hA1)
      clear hak hA1 HR
      generalize standsB old fresh a = sb at *
      cases hch : (a.change == change) with
      | false =>
        have hch2 : (a.change != change) = true := by rw [bne, hch]; rfl
        have HN2 : Hid (FK k = FK (k + 1)) := by show _ = _; rw [HN.out, HCA.out, hch]; simp
        rw [HN2.out] at HRA
        go_wp2
        go_roundw
        case rel => exact ⟨k + 1, _, _, by omega, by go_num, by rw [HN2.out], HRA, hbA⟩
        case measure => simp [intOf]; omega
      | true =>
        have hch2 : (a.change != change) = false := by rw [bne, hch]; rfl
        have x0 := HB.out.cell (i := 0) rfl
        have x1 := HB.out.cell (i := 1) rfl
        have x2 := HB.out.cell (i := 2) rfl
        have xl := HB.out.lt
        cases sb with
        | true =>
          have HN2 : Hid (FK k = FK (k + 1)) := by show _ = _; rw [HN.out, HCA.out, hch]; simp
          go_wp2_with (fail)
          refine (HSA.out _ (H11.out.below hbA) (H21.out.below hbA)).mono ?_
          rintro e w3 ⟨rfl, hb3⟩
          have HR3 := HRA.out.below hb3
          rw [HN2.out] at HR3
          have HR3 := Lib.hid HR3
          have hb13 := qtrans hbA hb3
          clear HRA HB x0 x1 x2 xl hb3 hbA
          go_wp2
          go_roundw
          case rel => exact ⟨k + 1, _, _, by omega, by go_num, by rw [HN2.out], HR3, hb13⟩
          case measure => simp [intOf]; omega
        | false =>
          have HN2 : Hid (FK k = a :: FK (k + 1)) := by show _ = _; rw [HN.out, HCA.out, hch]; simp
          have hln : (FK k).length = (FK (k + 1)).length + 1 := by rw [HN2.out]; rfl
          have HLE := Lib.hid hln
          go_wp2_with (fail)
          refine (HSA.out _ (H11.out.below hbA) (H21.out.below hbA)).mono ?_
          rintro e w3 ⟨rfl, hb3⟩
          have hr3 := HRA.out.below hb3
          rw [HN2.out] at hr3
          obtain ⟨b2, o2, rfl, hbb2, f0, f1, f2⟩ := apprs_elem (i := 0) hr3 rfl
          have HR3 := Lib.hid hr3
          have HB3 := HB.out.below hb3
          have y0 := HB3.cell (i := 0) rfl
          have y1 := HB3.cell (i := 1) rfl
          have y2 := HB3.cell (i := 2) rfl
          have yl := HB3.lt
          have hb13 := qtrans hbA hb3
          have hsame : (!sameA a a) = false := by rw [(sameA_iff a a).2 rfl]; rfl
          simp only [Nat.zero_mul, Nat.add_zero] at f0 f1 f2
          clear HRA HB x0 x1 x2 xl hb3 hbA hr3 HB3
          rw [hln]
          have hne0 : ((((FK (k + 1)).length + 1 : Nat) : Int) == 0) = false := by rw [beq_eq_false_iff_ne]; omega
          have hne1 : (((FK (k + 1)).length : Int) + 1 == 0) = false := by rw [beq_eq_false_iff_ne]; omega
          go_wp2_with (fail)
          have hbd := hb13.drew
          have HRd := Lib.hid (HR3.out.below (qrefl _).drew)
          have hy : (fun W : World => W.cell? ⟨b2, o2, none⟩ = some (.string a.who) ∧ W.cell? ⟨b2, o2 + 1, none⟩ = some (.int .i64 a.change) ∧ W.cell? ⟨b2, o2 + 2, none⟩ = some (.string a.saw) ∧ W.cell? ⟨wr.heap.size, 0, none⟩ = some (.string a.who) ∧ W.cell? ⟨wr.heap.size, 1, none⟩ = some (.int .i64 a.change) ∧ W.cell? ⟨wr.heap.size, 2, none⟩ = some (.string a.saw)) w3.drew := ⟨f0, f1, f2, y0, y1, y2⟩
          refine wp_region_noPanic (region_lex (fun W => W.cell? ⟨b2, o2, none⟩ = some (.string a.who) ∧ W.cell? ⟨b2, o2 + 1, none⟩ = some (.int .i64 a.change) ∧ W.cell? ⟨b2, o2 + 2, none⟩ = some (.string a.saw) ∧ W.cell? ⟨wr.heap.size, 0, none⟩ = some (.string a.who) ∧ W.cell? ⟨wr.heap.size, 1, none⟩ = some (.int .i64 a.change) ∧ W.cell? ⟨wr.heap.size, 2, none⟩ = some (.string a.saw)) [true, true, true, true, true, true, true, true, true, true] mixedK (by kernel_rfl) (fun _ _ _ _ _ h => h) hy (fun hHeld => ?_))
          clear HR3 hy f0 f1 f2 y0 y1 y2 hb13
          generalize w3.drew = wd at *
          iterate 8 (first | (refine lex_skip (by rfl) ?_; (try simp only [Act.put, List.setIfInBounds_toArray, List.set_cons_zero, List.set_cons_succ])) | (refine lex_take (v := ?_) (by rfl) ?_ ?_; rotate_left; (focus (intro wq hSw; (try dsimp only at hSw); go_simp; (try with_reducible rfl))); (try simp only [Act.put, List.setIfInBounds_toArray, List.set_cons_zero, List.set_cons_succ])))
          refine lex_take (v := .bool (!sameA a a)) (by rfl) (fun wq _ => run_neqAppr a a wq _ _ _ rfl rfl _ rfl) ?_
          (try simp only [Act.put, List.setIfInBounds_toArray, List.set_cons_zero, List.set_cons_succ])
          rw [hsame]
          iterate 1 (first | (refine lex_skip (by rfl) ?_; (try simp only [Act.put, List.setIfInBounds_toArray, List.set_cons_zero, List.set_cons_succ])) | (refine lex_take (v := ?_) (by rfl) ?_ ?_; rotate_left; (focus (intro wq hSw; (try dsimp only at hSw); go_simp; (try with_reducible rfl))); (try simp only [Act.put, List.setIfInBounds_toArray, List.set_cons_zero, List.set_cons_succ])))
          refine lex_end ?_
          refine NoPanic.normal ?_
          obtain ⟨_, _, ec, hfc1, hfc2⟩ := apprs_val HRd.out
          cases ec
          rw [List.length_cons] at hfc1
          by_cases hfc : fc' = 1
          · subst hfc
            have hn0 : (FK (k + 1)).length = 0 := by omega
            have HRN : Hid (∀ a c, c ≤ 9223372036854775807 → Reads wd [] (apprsT (FK (k + 1))) (.slice a (FK (k + 1)).length c)) := fun a c hc => by
              rw [List.length_eq_zero_iff.1 hn0]
              exact reads_apprs.2 ⟨rfl, a, c, rfl, Nat.zero_le _, by unfold maxLen; omega, fun h => absurd h (Nat.lt_irrefl _)⟩
            have HN0 := Lib.hid hn0
            clear hn0
            go_wp2
            go_roundw
            case rel => exact ⟨k + 1, some ⟨b2, o2, none⟩, 0, by omega, by go_num, by simp [HN0.out], HRN.out _ _ (by omega), hbd⟩
            case measure => simp [intOf]; omega
          · have HRT := Lib.hid (apprs_tail HRd.out)
            go_wp2
            go_roundw
            case rel => exact ⟨k + 1, some ⟨b2, o2 + 3, none⟩, fc' - 1, by omega, by go_num, by first | rfl | simp [hfc], HRT, hbd⟩
            case measure => simp [intOf]; omega
    · have hkl' : k = l.length := by omega
      subst hkl'
      have HR2 : Hid ((FK l.length).length = 0) := by show _ = _; rw [HFE.out]; rfl
      have hb1r := qtrans hb01 hbr
      rw [HR2.out]
      clear HR
      go_wp2_with (fail)
      refine (awake55_any _).mono ?_
      rintro e w9 ⟨rfl, hb9⟩
      go_wp2
      go_ret
      exact ⟨rfl, qtrans hb1r hb9⟩
end Go.Proofs.YtidkpnabdfiilaaGreatDoor
