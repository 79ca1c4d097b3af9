/- The reference's Move of chapter 35. -/
import Derived.Test.YtlcpdhionefmbaaGreatDoorU6
namespace Go.Proofs.YtlcpdhionefmbaaGreatDoor
open Go.RowKit Go.Shelf
attribute [local go_sem] Oper.semAt_some

theorem nil_row (w : World) : Reads (w.alloc (.cells #[] 24)) [] (editsT []) (.slice (some ⟨w.heap.size, 0, none⟩) 0 0) :=
  Reads.ofRow (l := ([] : List OEdit)) (owns_row (World.ownsRow_made (base := w.heap.size) (e := 24) (size := 5) w #[] 0 (Nat.le_refl _) (Nat.zero_le _) rfl)) (fun h => absurd h (by simp)) (ReadsL.nil _ _)
set_option maxRecDepth 100000 in
set_option maxHeartbeats 16000000 in
theorem rMove_any (l : List OEdit) (a : Option Addr) (c : Nat) (from' to' : Int) (w : World) (hl : Reads w [] (editsT l) (.slice a l.length c)) (hs : ∀ e ∈ l, SmE e) (hn : l.length ≤ 1000000) :
    Calls Tryz.prog 12 #[.slice a l.length c, .int .i64 from', .int .i64 to'] w fun r w' => ∃ a' c', r = .returned (.tuple #[.slice a' ((moveL l from' to').getD []).length c', .bool (moveL l from' to').isSome]) ∧ Reads w' [] (editsT ((moveL l from' to').getD [])) (.slice a' ((moveL l from' to').getD []).length c') ∧ Below w.heap.size w w' := by
  have hp : moveL l from' to' = if from' < 0 ∨ (l.length : Int) ≤ from' ∨ to' < 0 ∨ (l.length : Int) ≤ to' then none else mv l from'.toNat to'.toNat := rfl
  by_cases h1 : from' < 0
  · rw [if_pos (.inl h1)] at hp
    have q1 : decide (from' < 0) = true := decide_eq_true h1
    have HP := Lib.hid hp
    clear hp h1 hl hs
    generalize moveL l from' to' = T at *
    go_enter Tryz.func12, Tryz.ntmps12
    go_wp2
    go_returns
    exact ⟨some ⟨w.heap.size, 0, none⟩, 0, by rw [HP.out]; rfl, by rw [HP.out]; exact nil_row w, qalloc _ _⟩
  have q1 : decide (from' < 0) = false := decide_eq_false h1
  by_cases h2 : (l.length : Int) ≤ from'
  · rw [if_pos (.inr (.inl h2))] at hp
    have q2 : decide ((l.length : Int) ≤ from') = true := decide_eq_true h2
    have HP := Lib.hid hp
    clear hp h1 h2 hl hs
    generalize moveL l from' to' = T at *
    go_enter Tryz.func12, Tryz.ntmps12
    go_wp2
    go_returns
    exact ⟨some ⟨w.heap.size, 0, none⟩, 0, by rw [HP.out]; rfl, by rw [HP.out]; exact nil_row w, qalloc _ _⟩
  have q2 : decide ((l.length : Int) ≤ from') = false := decide_eq_false h2
  by_cases h3 : to' < 0
  · rw [if_pos (.inr (.inr (.inl h3)))] at hp
    have q3 : decide (to' < 0) = true := decide_eq_true h3
    have HP := Lib.hid hp
    clear hp h1 h2 h3 hl hs
    generalize moveL l from' to' = T at *
    go_enter Tryz.func12, Tryz.ntmps12
    go_wp2
    go_returns
    exact ⟨some ⟨w.heap.size, 0, none⟩, 0, by rw [HP.out]; rfl, by rw [HP.out]; exact nil_row w, qalloc _ _⟩
  have q3 : decide (to' < 0) = false := decide_eq_false h3
  by_cases h4 : (l.length : Int) ≤ to'
  · rw [if_pos (.inr (.inr (.inr h4)))] at hp
    have q4 : decide ((l.length : Int) ≤ to') = true := decide_eq_true h4
    have HP := Lib.hid hp
    clear hp h1 h2 h3 h4 hl hs
    generalize moveL l from' to' = T at *
    go_enter Tryz.func12, Tryz.ntmps12
    go_wp2
    go_returns
    exact ⟨some ⟨w.heap.size, 0, none⟩, 0, by rw [HP.out]; rfl, by rw [HP.out]; exact nil_row w, qalloc _ _⟩
  have q4 : decide ((l.length : Int) ≤ to') = false := decide_eq_false h4
  rw [if_neg (by omega)] at hp
  obtain ⟨fr, rfl⟩ : ∃ fr : Nat, from' = (fr : Int) := ⟨from'.toNat, by omega⟩
  obtain ⟨tN, rfl⟩ : ∃ tN : Nat, to' = (tN : Int) := ⟨to'.toNat, by omega⟩
  rw [Int.toNat_natCast, Int.toNat_natCast] at hp
  have HP := Lib.hid hp
  have hfl : fr < l.length := by omega
  have htl : tN < l.length := by omega
  obtain ⟨xs0, hr0, -, hrd0⟩ := Reads.toRow hl
  obtain ⟨i0, z, hi, hz0, hzs, hz1, hz2⟩ := info_parts' infoEdit
  have HRW := Lib.hid hr0
  have HR0 := Lib.hid hrd0
  have HON := Lib.hid (edits_one hrd0)
  have hownN : (w.alloc (.cells #[] 24)).ownsRow w.heap.size 24 5 (.slice (some ⟨w.heap.size, 0, none⟩) 0 0) 0 [] := World.ownsRow_made w #[] 0 (Nat.le_refl _) (Nat.zero_le _) rfl
  have hA0 := qalloc w (.cells #[] 24)
  have HS := Lib.hid hs
  clear hp h1 h2 h3 h4 hl hs hr0 hrd0
  generalize moveL l (fr : Int) (tN : Int) = T at *
  go_enter Tryz.func12, Tryz.ntmps12
  go_wp2_with (at_builtin; refine wpList_append_row rfl _ _ 26 rfl w.heap.size 24 i0 _ 5 88 Tryz.underlying26 hi hz0 hz1 hz2 hzs (by decide) _ _ _ rfl hownN _ _ _ rfl (HRW.out.below hA0) HON.out (by unfold maxLen; omega) (by omega) (by simp) ?_)
  intro v1 w1 hown1 hg1 hb1
  have HB0 := Lib.hid (hA0.grown hg1 (by simp) (fun k hk => by cases hk; exact Nat.le_refl _))
  have HO0 := Lib.hid hown1
  obtain ⟨va, vc, rfl⟩ := owns_val hown1
  obtain ⟨g, cur, rfl, -, hgB, -, -, hcap1, hcap2, -⟩ := owns_cells hown1 (by omega)
  clear hown1 hg1 hb1 hownN hA0 HRW HON hi hz0 hzs hz1 hz2
  have HGB := Lib.hid hgB
  clear hgB
  go_wp2
  go_loopw [1] (fun fv wr => ∃ (k : Nat) (lk : List OEdit) (xs : List Value), k < l.length ∧ fv = .int .i64 k ∧ Hid (lk.length = l.length) ∧ Hid (∀ e ∈ lk, SmE e) ∧ Hid (T = mv lk k tN) ∧ Hid (wr.ownsRow w.heap.size 24 5 (.slice (some ⟨g, 0, none⟩) l.length vc) l.length xs) ∧ Hid (ReadsL w [] (lk.flatMap editT) xs) ∧ Hid (Below w.heap.size w wr)) (fun fv _ => (intOf fv - (tN : Int)).natAbs)
  case atStart => exact ⟨fr, l, xs0, hfl, rfl, rfl, HS, HP, HO0, HR0, HB0⟩
  case round =>
    obtain ⟨k, lk, xs, hkl, rfl, HLK, HSK, HT, HO, HR, HB⟩ := hrel
    by_cases hkt : k = tN
    · have q5 : ((k : Int) != (tN : Int)) = false := by rw [hkt]; simp
      have HF : Hid (T = some lk) := by show _ = _; rw [HT.out, hkt, mv_same]
      have HRR : Hid (Reads wr [] (editsT lk) (.slice (some ⟨g, 0, none⟩) lk.length vc)) := Reads.ofRow (l := lk) (by rw [HLK.out]; exact owns_row HO.out) (fun _ b _ => by simp) (HR.out.below HB.out)
      clear hkt
      go_wp2
      go_returns
      exact ⟨some ⟨g, 0, none⟩, vc, by rw [HF.out]; show _ = Ending.returned (.tuple #[.slice _ lk.length _, .bool true]); rw [HLK.out]; rfl, by rw [HF.out]; exact HRR.out, HB.out⟩
    have q5 : ((k : Int) != (tN : Int)) = true := bne_iff_ne.2 (by omega)
    by_cases hup : k < tN
    · have q6 : decide ((tN : Int) < (k : Int)) = false := decide_eq_false (by omega)
      have hpn : k + 1 < l.length := by omega
      have HT2 := Lib.hid (HT.out.trans (mv_up hup))
      clear HT
      obtain ⟨A, Bs, ao, co, af, cf, bo, do', bf, df, hxs, hA, he6, hf6, hsw⟩ := two_edits HR.out (k := k) (by rw [HLK.out]; exact hpn)
      have hse := HSK.out _ (eAt_mem (l := lk) (k := k) (by rw [HLK.out]; omega))
      have hsf := HSK.out _ (eAt_mem (l := lk) (k := k + 1) (by rw [HLK.out]; omega))
      have HSN := Lib.hid (mem_swapAt (P := SmE) (k := k) (by rw [HLK.out]; exact hpn) HSK.out)
      have HLN : Hid ((swapAt lk k).length = l.length) := by show _ = _; rw [swapAt_len, HLK.out]
      have HSW2 := Lib.hid hsw
      have HXS := Lib.hid hxs
      have HAL := Lib.hid hA
      clear hsw hxs hA HR HSK HLK
      generalize eAt lk k = e at *
      generalize eAt lk (k + 1) = f at *
      generalize swapAt lk k = ln at *
      have hie : EditIn w e ao co af cf := ⟨he6.1, he6.2.1, he6.2.2.1, he6.2.2.2.1, he6.2.2.2.2.1, he6.2.2.2.2.2⟩
      have hif : EditIn w f bo do' bf df := ⟨hf6.1, hf6.2.1, hf6.2.2.1, hf6.2.2.2.1, hf6.2.2.2.2.1, hf6.2.2.2.2.2⟩
      have HSC := Lib.hid (fun W (h : Below wr.heap.size wr W) => rIndep_any e f ao co af cf bo do' bf df W (hie.below (HB.out.trans (h.mono HB.out.size))) (hif.below (HB.out.trans (h.mono HB.out.size))) hse hsf)
      clear he6 hf6 hie hif hse hsf
      unfold editV at HSC
      obtain ⟨g', cur', hgg, hcell, -, hglt, hfz, -⟩ := owns_cells HO.out (by omega)
      injection hgg with hgg
      injection hgg with hgg
      subst hgg
      have x0 : wr.cell? ⟨g, k * 5, none⟩ = some (.int .i64 e.kind) := hcell _ _ (by rw [HXS.out]; exact (get10 A Bs (k * 5) ((k + 1) * 5) (by have := HAL.out; omega) (by have := HAL.out; omega) _ _ _ _ _ _ _ _ _ _).1)
      have x1 : wr.cell? ⟨g, k * 5 + 1, none⟩ = some (.string e.pack) := hcell _ _ (by rw [HXS.out]; exact (get10 A Bs (k * 5) ((k + 1) * 5) (by have := HAL.out; omega) (by have := HAL.out; omega) _ _ _ _ _ _ _ _ _ _).2.1)
      have x2 : wr.cell? ⟨g, k * 5 + 2, none⟩ = some (.string e.text) := hcell _ _ (by rw [HXS.out]; exact (get10 A Bs (k * 5) ((k + 1) * 5) (by have := HAL.out; omega) (by have := HAL.out; omega) _ _ _ _ _ _ _ _ _ _).2.2.1)
      have x3 : wr.cell? ⟨g, k * 5 + 3, none⟩ = some (.slice ao e.old.length co) := hcell _ _ (by rw [HXS.out]; exact (get10 A Bs (k * 5) ((k + 1) * 5) (by have := HAL.out; omega) (by have := HAL.out; omega) _ _ _ _ _ _ _ _ _ _).2.2.2.1)
      have x4 : wr.cell? ⟨g, k * 5 + 4, none⟩ = some (.slice af e.fresh.length cf) := hcell _ _ (by rw [HXS.out]; exact (get10 A Bs (k * 5) ((k + 1) * 5) (by have := HAL.out; omega) (by have := HAL.out; omega) _ _ _ _ _ _ _ _ _ _).2.2.2.2.1)
      have x5 : wr.cell? ⟨g, (k + 1) * 5, none⟩ = some (.int .i64 f.kind) := hcell _ _ (by rw [HXS.out]; exact (get10 A Bs (k * 5) ((k + 1) * 5) (by have := HAL.out; omega) (by have := HAL.out; omega) _ _ _ _ _ _ _ _ _ _).2.2.2.2.2.1)
      have x6 : wr.cell? ⟨g, (k + 1) * 5 + 1, none⟩ = some (.string f.pack) := hcell _ _ (by rw [HXS.out]; exact (get10 A Bs (k * 5) ((k + 1) * 5) (by have := HAL.out; omega) (by have := HAL.out; omega) _ _ _ _ _ _ _ _ _ _).2.2.2.2.2.2.1)
      have x7 : wr.cell? ⟨g, (k + 1) * 5 + 2, none⟩ = some (.string f.text) := hcell _ _ (by rw [HXS.out]; exact (get10 A Bs (k * 5) ((k + 1) * 5) (by have := HAL.out; omega) (by have := HAL.out; omega) _ _ _ _ _ _ _ _ _ _).2.2.2.2.2.2.2.1)
      have x8 : wr.cell? ⟨g, (k + 1) * 5 + 3, none⟩ = some (.slice bo f.old.length do') := hcell _ _ (by rw [HXS.out]; exact (get10 A Bs (k * 5) ((k + 1) * 5) (by have := HAL.out; omega) (by have := HAL.out; omega) _ _ _ _ _ _ _ _ _ _).2.2.2.2.2.2.2.2.1)
      have x9 : wr.cell? ⟨g, (k + 1) * 5 + 4, none⟩ = some (.slice bf f.fresh.length df) := hcell _ _ (by rw [HXS.out]; exact (get10 A Bs (k * 5) ((k + 1) * 5) (by have := HAL.out; omega) (by have := HAL.out; omega) _ _ _ _ _ _ _ _ _ _).2.2.2.2.2.2.2.2.2)
      have hI1 : (k : Int) + 1 < (l.length : Int) := by omega
      have hI0 : (0 : Int) ≤ (k : Int) + 1 := by omega
      have hI2 : ((k : Int) + 1).toNat = k + 1 := by omega
      have hI3 : IntKind.i64.wrap ((k : Int) + 1) = (k : Int) + 1 := by rw [IntKind.wrap_i64]; omega
      have SW : Hid (∀ W : World, Below wr.heap.size wr W → (W.cell? ⟨g, k * 5, none⟩ = some (.int .i64 e.kind) ∧ W.cell? ⟨g, k * 5 + 1, none⟩ = some (.string e.pack) ∧ W.cell? ⟨g, k * 5 + 2, none⟩ = some (.string e.text) ∧ W.cell? ⟨g, k * 5 + 3, none⟩ = some (.slice ao e.old.length co) ∧ W.cell? ⟨g, k * 5 + 4, none⟩ = some (.slice af e.fresh.length cf) ∧ W.cell? ⟨g, (k + 1) * 5, none⟩ = some (.int .i64 f.kind) ∧ W.cell? ⟨g, (k + 1) * 5 + 1, none⟩ = some (.string f.pack) ∧ W.cell? ⟨g, (k + 1) * 5 + 2, none⟩ = some (.string f.text) ∧ W.cell? ⟨g, (k + 1) * 5 + 3, none⟩ = some (.slice bo f.old.length do') ∧ W.cell? ⟨g, (k + 1) * 5 + 4, none⟩ = some (.slice bf f.fresh.length df) ∧ g < W.heap.size)) := Lib.hid (fun W hW => ⟨(hW.cell (p := ⟨g, _, none⟩) hglt).trans x0, (hW.cell (p := ⟨g, _, none⟩) hglt).trans x1, (hW.cell (p := ⟨g, _, none⟩) hglt).trans x2, (hW.cell (p := ⟨g, _, none⟩) hglt).trans x3, (hW.cell (p := ⟨g, _, none⟩) hglt).trans x4, (hW.cell (p := ⟨g, _, none⟩) hglt).trans x5, (hW.cell (p := ⟨g, _, none⟩) hglt).trans x6, (hW.cell (p := ⟨g, _, none⟩) hglt).trans x7, (hW.cell (p := ⟨g, _, none⟩) hglt).trans x8, (hW.cell (p := ⟨g, _, none⟩) hglt).trans x9, Nat.lt_of_lt_of_le hglt hW.size⟩)
      have hb0 : Below wr.heap.size wr wr.drew := (Mod.refl [] wr).drew.below
      clear x0 x1 x2 x3 x4 x5 x6 x7 x8 x9 hcell hfz
      generalize hsb : swapB e f = sb at *
      clear hsb
      go_upto_region 8 with (fail)
      go_cut [51] from 32 to 67 (fun v wx => v = .bool (!sb) ∧ Below wr.heap.size wr wx)
      case first =>
        refine wp_region_noPanic (region_lex (fun W : World => W.cell? ⟨g, k * 5, none⟩ = some (.int .i64 e.kind) ∧ W.cell? ⟨g, k * 5 + 1, none⟩ = some (.string e.pack) ∧ W.cell? ⟨g, k * 5 + 2, none⟩ = some (.string e.text) ∧ W.cell? ⟨g, k * 5 + 3, none⟩ = some (.slice ao e.old.length co) ∧ W.cell? ⟨g, k * 5 + 4, none⟩ = some (.slice af e.fresh.length cf) ∧ W.cell? ⟨g, (k + 1) * 5, none⟩ = some (.int .i64 f.kind) ∧ W.cell? ⟨g, (k + 1) * 5 + 1, none⟩ = some (.string f.pack) ∧ W.cell? ⟨g, (k + 1) * 5 + 2, none⟩ = some (.string f.text) ∧ W.cell? ⟨g, (k + 1) * 5 + 3, none⟩ = some (.slice bo f.old.length do') ∧ W.cell? ⟨g, (k + 1) * 5 + 4, none⟩ = some (.slice bf f.fresh.length df) ∧ g < W.heap.size) [true, true, true, true, true, true, true, true, false, true] mixedK (by kernel_rfl) (fun _ _ _ _ _ h => h) (SW.out _ hb0) (fun hHeld => ?_))
        iterate 8 (first | (refine lex_skip (by rfl) ?_; (try simp only [Act.put, List.setIfInBounds_toArray, List.set_cons_zero, List.set_cons_succ])) | (refine lex_take (v := ?_) (by rfl) ?_ ?_; rotate_left; (focus (intro wq hSw; (try dsimp only at hSw); go_simp; (try with_reducible rfl))); (try simp only [Act.put, List.setIfInBounds_toArray, List.set_cons_zero, List.set_cons_succ])))
        clear hHeld
        generalize wr.drew = wd at *
        (refine lex_do (by rfl) (fun K hK => ?_); go_simp)
        refine (HSC.out _ hb0).mono ?_
        rintro r w3 ⟨rfl, hb3⟩
        (try go_simp)
        have hb4 := qtrans hb0 hb3
        refine hK.out _ _ (SW.out _ hb4) (fun _ => ?_); clear hK K; (try simp only [Act.put, List.setIfInBounds_toArray, List.set_cons_zero, List.set_cons_succ])
        (first | (refine lex_skip (by rfl) ?_; (try simp only [Act.put, List.setIfInBounds_toArray, List.set_cons_zero, List.set_cons_succ])) | (refine lex_take (v := ?_) (by rfl) ?_ ?_; rotate_left; (focus (intro wq hSw; (try dsimp only at hSw); go_simp; (try with_reducible rfl))); (try simp only [Act.put, List.setIfInBounds_toArray, List.set_cons_zero, List.set_cons_succ])))
        refine lex_end ?_
        refine NoPanic.normal ?_
        (try go_wp2)
        go_meet
        case rel => exact ⟨rfl, hb4⟩
      case rest =>
      obtain ⟨rfl, hb4⟩ := hcut
      generalize wc = w4 at *
      have HB4 := Lib.hid (HB.out.trans (hb4.mono HB.out.size))
      have hx4 := SW.out _ hb4
      clear SW HSC hb0 hglt
      have HO4 := Lib.hid (owns_modB (X := []) HO.out (Mod.of hb4) (by simp))
      clear hb4 HO
      cases sb with
      | false =>
        have HF : Hid (T = none) := by show _ = _; rw [HT2.out, if_neg (by simp)]
        clear hx4
        go_wp2
        go_returns
        exact ⟨some ⟨w4.heap.size, 0, none⟩, 0, by rw [HF.out]; rfl, by rw [HF.out]; exact nil_row w4, HB4.out.trans ((qalloc _ _).mono HB4.out.size)⟩
      | true =>
        have HTN : Hid (T = mv ln (k + 1) tN) := by show _ = _; rw [HT2.out, if_pos rfl]
        obtain ⟨x0, x1, x2, x3, x4, x5, x6, x7, x8, x9, hgl⟩ := hx4
        have z0 := owns_frozen HO4.out (by omega) (k * 5)
        have z1 := owns_frozen HO4.out (by omega) (k * 5 + 1)
        have z2 := owns_frozen HO4.out (by omega) (k * 5 + 2)
        have z3 := owns_frozen HO4.out (by omega) (k * 5 + 3)
        have z4 := owns_frozen HO4.out (by omega) (k * 5 + 4)
        have z5 := owns_frozen HO4.out (by omega) ((k + 1) * 5)
        have z6 := owns_frozen HO4.out (by omega) ((k + 1) * 5 + 1)
        have z7 := owns_frozen HO4.out (by omega) ((k + 1) * 5 + 2)
        have z8 := owns_frozen HO4.out (by omega) ((k + 1) * 5 + 3)
        have z9 := owns_frozen HO4.out (by omega) ((k + 1) * 5 + 4)
        go_upto_region 10 with (fail)
        go_cut [] from 32 to 67 (fun wx => wx.ownsRow w.heap.size 24 5 (.slice (some ⟨g, 0, none⟩) l.length vc) l.length (A ++ (edC f bo do' bf df ++ (edC e ao co af cf ++ Bs))) ∧ Below w.heap.size w wx)
        case first =>
          go_region
          all_goals (go_wp2_with (fail))
          all_goals go_meet
          all_goals (
            have q := HO4.out
            rw [HXS.out] at q
            unfold edC at q
            obtain ⟨q1, q2⟩ := owns_ten q (by omega) (k * 5) ((k + 1) * 5) (by have := HAL.out; omega) (by have := HAL.out; omega) (.int .i64 f.kind) (.string f.pack) (.string f.text) (.slice bo f.old.length do') (.slice bf f.fresh.length df) (.int .i64 e.kind) (.string e.pack) (.string e.text) (.slice ao e.old.length co) (.slice af e.fresh.length cf)
            exact ⟨q1, HB4.out.trans (q2.upto HB4.out.size (by have := HGB.out; intro q hq; simp at hq; omega))⟩)
        case rest =>
        obtain ⟨hown5, hb5⟩ := hcut
        generalize wc = w5 at *
        have HO5 := Lib.hid hown5
        have HB5 := Lib.hid hb5
        clear hown5 hb5 HO4 HB4 x0 z0 x1 z1 x2 z2 x3 z3 x4 z4 x5 z5 x6 z6 x7 z7 x8 z8 x9 z9
        go_wp2
        go_roundw
        case rel => exact ⟨(k + 1), ln, _, by omega, rfl, HLN, HSN, HTN, HO5, HSW2, HB5⟩
        case measure => first | (simp [intOf]; done) | (simp [intOf]; omega)
    · obtain ⟨p, hpk⟩ : ∃ p, k = p + 1 := ⟨k - 1, by omega⟩
      have q6 : decide ((tN : Int) < (k : Int)) = true := decide_eq_true (by omega)
      have hpn : p + 1 < l.length := by omega
      have HT2 : Hid (T = if swapB (eAt lk p) (eAt lk (p + 1)) then mv (swapAt lk p) p tN else none) := by
        show _ = _
        rw [HT.out, hpk, mv_down (by omega)]
        rfl
      have HPK := Lib.hid hpk
      clear HT hpk
      obtain ⟨A, Bs, ao, co, af, cf, bo, do', bf, df, hxs, hA, he6, hf6, hsw⟩ := two_edits HR.out (k := p) (by rw [HLK.out]; exact hpn)
      have hse := HSK.out _ (eAt_mem (l := lk) (k := p) (by rw [HLK.out]; omega))
      have hsf := HSK.out _ (eAt_mem (l := lk) (k := p + 1) (by rw [HLK.out]; omega))
      have HSN := Lib.hid (mem_swapAt (P := SmE) (k := p) (by rw [HLK.out]; exact hpn) HSK.out)
      have HLN : Hid ((swapAt lk p).length = l.length) := by show _ = _; rw [swapAt_len, HLK.out]
      have HSW2 := Lib.hid hsw
      have HXS := Lib.hid hxs
      have HAL := Lib.hid hA
      clear hsw hxs hA HR HSK HLK
      generalize eAt lk p = e at *
      generalize eAt lk (p + 1) = f at *
      generalize swapAt lk p = ln at *
      have hie : EditIn w e ao co af cf := ⟨he6.1, he6.2.1, he6.2.2.1, he6.2.2.2.1, he6.2.2.2.2.1, he6.2.2.2.2.2⟩
      have hif : EditIn w f bo do' bf df := ⟨hf6.1, hf6.2.1, hf6.2.2.1, hf6.2.2.2.1, hf6.2.2.2.2.1, hf6.2.2.2.2.2⟩
      have HSC := Lib.hid (fun W (h : Below wr.heap.size wr W) => rIndep_any f e bo do' bf df ao co af cf W (hif.below (HB.out.trans (h.mono HB.out.size))) (hie.below (HB.out.trans (h.mono HB.out.size))) hsf hse)
      rw [swapB_symm f e] at HSC
      clear he6 hf6 hie hif hse hsf
      unfold editV at HSC
      obtain ⟨g', cur', hgg, hcell, -, hglt, hfz, -⟩ := owns_cells HO.out (by omega)
      injection hgg with hgg
      injection hgg with hgg
      subst hgg
      have x0 : wr.cell? ⟨g, (k - 1) * 5, none⟩ = some (.int .i64 e.kind) := hcell _ _ (by rw [HXS.out]; exact (get10 A Bs ((k - 1) * 5) (k * 5) (by have := HAL.out; have := HPK.out; omega) (by have := HAL.out; have := HPK.out; omega) _ _ _ _ _ _ _ _ _ _).1)
      have x1 : wr.cell? ⟨g, (k - 1) * 5 + 1, none⟩ = some (.string e.pack) := hcell _ _ (by rw [HXS.out]; exact (get10 A Bs ((k - 1) * 5) (k * 5) (by have := HAL.out; have := HPK.out; omega) (by have := HAL.out; have := HPK.out; omega) _ _ _ _ _ _ _ _ _ _).2.1)
      have x2 : wr.cell? ⟨g, (k - 1) * 5 + 2, none⟩ = some (.string e.text) := hcell _ _ (by rw [HXS.out]; exact (get10 A Bs ((k - 1) * 5) (k * 5) (by have := HAL.out; have := HPK.out; omega) (by have := HAL.out; have := HPK.out; omega) _ _ _ _ _ _ _ _ _ _).2.2.1)
      have x3 : wr.cell? ⟨g, (k - 1) * 5 + 3, none⟩ = some (.slice ao e.old.length co) := hcell _ _ (by rw [HXS.out]; exact (get10 A Bs ((k - 1) * 5) (k * 5) (by have := HAL.out; have := HPK.out; omega) (by have := HAL.out; have := HPK.out; omega) _ _ _ _ _ _ _ _ _ _).2.2.2.1)
      have x4 : wr.cell? ⟨g, (k - 1) * 5 + 4, none⟩ = some (.slice af e.fresh.length cf) := hcell _ _ (by rw [HXS.out]; exact (get10 A Bs ((k - 1) * 5) (k * 5) (by have := HAL.out; have := HPK.out; omega) (by have := HAL.out; have := HPK.out; omega) _ _ _ _ _ _ _ _ _ _).2.2.2.2.1)
      have x5 : wr.cell? ⟨g, k * 5, none⟩ = some (.int .i64 f.kind) := hcell _ _ (by rw [HXS.out]; exact (get10 A Bs ((k - 1) * 5) (k * 5) (by have := HAL.out; have := HPK.out; omega) (by have := HAL.out; have := HPK.out; omega) _ _ _ _ _ _ _ _ _ _).2.2.2.2.2.1)
      have x6 : wr.cell? ⟨g, k * 5 + 1, none⟩ = some (.string f.pack) := hcell _ _ (by rw [HXS.out]; exact (get10 A Bs ((k - 1) * 5) (k * 5) (by have := HAL.out; have := HPK.out; omega) (by have := HAL.out; have := HPK.out; omega) _ _ _ _ _ _ _ _ _ _).2.2.2.2.2.2.1)
      have x7 : wr.cell? ⟨g, k * 5 + 2, none⟩ = some (.string f.text) := hcell _ _ (by rw [HXS.out]; exact (get10 A Bs ((k - 1) * 5) (k * 5) (by have := HAL.out; have := HPK.out; omega) (by have := HAL.out; have := HPK.out; omega) _ _ _ _ _ _ _ _ _ _).2.2.2.2.2.2.2.1)
      have x8 : wr.cell? ⟨g, k * 5 + 3, none⟩ = some (.slice bo f.old.length do') := hcell _ _ (by rw [HXS.out]; exact (get10 A Bs ((k - 1) * 5) (k * 5) (by have := HAL.out; have := HPK.out; omega) (by have := HAL.out; have := HPK.out; omega) _ _ _ _ _ _ _ _ _ _).2.2.2.2.2.2.2.2.1)
      have x9 : wr.cell? ⟨g, k * 5 + 4, none⟩ = some (.slice bf f.fresh.length df) := hcell _ _ (by rw [HXS.out]; exact (get10 A Bs ((k - 1) * 5) (k * 5) (by have := HAL.out; have := HPK.out; omega) (by have := HAL.out; have := HPK.out; omega) _ _ _ _ _ _ _ _ _ _).2.2.2.2.2.2.2.2.2)
      have hI1 : (1 : Int) ≤ (k : Int) := by have := HPK.out; omega
      have hI0 : (k : Int) - 1 < (l.length : Int) := by omega
      have hI2 : ((k : Int) - 1).toNat = k - 1 := by omega
      have hI3 : IntKind.i64.wrap (k : Int) = (k : Int) := by rw [IntKind.wrap_i64]; omega
      have hI4 : IntKind.i64.wrap ((k : Int) - 1 + 1) = (k : Int) := by rw [IntKind.wrap_i64]; omega
      have SW : Hid (∀ W : World, Below wr.heap.size wr W → (W.cell? ⟨g, (k - 1) * 5, none⟩ = some (.int .i64 e.kind) ∧ W.cell? ⟨g, (k - 1) * 5 + 1, none⟩ = some (.string e.pack) ∧ W.cell? ⟨g, (k - 1) * 5 + 2, none⟩ = some (.string e.text) ∧ W.cell? ⟨g, (k - 1) * 5 + 3, none⟩ = some (.slice ao e.old.length co) ∧ W.cell? ⟨g, (k - 1) * 5 + 4, none⟩ = some (.slice af e.fresh.length cf) ∧ W.cell? ⟨g, k * 5, none⟩ = some (.int .i64 f.kind) ∧ W.cell? ⟨g, k * 5 + 1, none⟩ = some (.string f.pack) ∧ W.cell? ⟨g, k * 5 + 2, none⟩ = some (.string f.text) ∧ W.cell? ⟨g, k * 5 + 3, none⟩ = some (.slice bo f.old.length do') ∧ W.cell? ⟨g, k * 5 + 4, none⟩ = some (.slice bf f.fresh.length df) ∧ g < W.heap.size)) := Lib.hid (fun W hW => ⟨(hW.cell (p := ⟨g, _, none⟩) hglt).trans x0, (hW.cell (p := ⟨g, _, none⟩) hglt).trans x1, (hW.cell (p := ⟨g, _, none⟩) hglt).trans x2, (hW.cell (p := ⟨g, _, none⟩) hglt).trans x3, (hW.cell (p := ⟨g, _, none⟩) hglt).trans x4, (hW.cell (p := ⟨g, _, none⟩) hglt).trans x5, (hW.cell (p := ⟨g, _, none⟩) hglt).trans x6, (hW.cell (p := ⟨g, _, none⟩) hglt).trans x7, (hW.cell (p := ⟨g, _, none⟩) hglt).trans x8, (hW.cell (p := ⟨g, _, none⟩) hglt).trans x9, Nat.lt_of_lt_of_le hglt hW.size⟩)
      have hb0 : Below wr.heap.size wr wr.drew := (Mod.refl [] wr).drew.below
      clear x0 x1 x2 x3 x4 x5 x6 x7 x8 x9 hcell hfz
      generalize hsb : swapB e f = sb at *
      clear hsb
      go_upto_region 8 with (fail)
      go_cut [51] from 32 to 67 (fun v wx => v = .bool (!sb) ∧ Below wr.heap.size wr wx)
      case first =>
        refine wp_region_noPanic (region_lex (fun W : World => W.cell? ⟨g, (k - 1) * 5, none⟩ = some (.int .i64 e.kind) ∧ W.cell? ⟨g, (k - 1) * 5 + 1, none⟩ = some (.string e.pack) ∧ W.cell? ⟨g, (k - 1) * 5 + 2, none⟩ = some (.string e.text) ∧ W.cell? ⟨g, (k - 1) * 5 + 3, none⟩ = some (.slice ao e.old.length co) ∧ W.cell? ⟨g, (k - 1) * 5 + 4, none⟩ = some (.slice af e.fresh.length cf) ∧ W.cell? ⟨g, k * 5, none⟩ = some (.int .i64 f.kind) ∧ W.cell? ⟨g, k * 5 + 1, none⟩ = some (.string f.pack) ∧ W.cell? ⟨g, k * 5 + 2, none⟩ = some (.string f.text) ∧ W.cell? ⟨g, k * 5 + 3, none⟩ = some (.slice bo f.old.length do') ∧ W.cell? ⟨g, k * 5 + 4, none⟩ = some (.slice bf f.fresh.length df) ∧ g < W.heap.size) [true, true, true, true, true, true, true, true, false, true] mixedK (by kernel_rfl) (fun _ _ _ _ _ h => h) (SW.out _ hb0) (fun hHeld => ?_))
        iterate 8 (first | (refine lex_skip (by rfl) ?_; (try simp only [Act.put, List.setIfInBounds_toArray, List.set_cons_zero, List.set_cons_succ])) | (refine lex_take (v := ?_) (by rfl) ?_ ?_; rotate_left; (focus (intro wq hSw; (try dsimp only at hSw); go_simp; (try with_reducible rfl))); (try simp only [Act.put, List.setIfInBounds_toArray, List.set_cons_zero, List.set_cons_succ])))
        clear hHeld
        generalize wr.drew = wd at *
        (refine lex_do (by rfl) (fun K hK => ?_); go_simp)
        refine (HSC.out _ hb0).mono ?_
        rintro r w3 ⟨rfl, hb3⟩
        (try go_simp)
        have hb4 := qtrans hb0 hb3
        refine hK.out _ _ (SW.out _ hb4) (fun _ => ?_); clear hK K; (try simp only [Act.put, List.setIfInBounds_toArray, List.set_cons_zero, List.set_cons_succ])
        (first | (refine lex_skip (by rfl) ?_; (try simp only [Act.put, List.setIfInBounds_toArray, List.set_cons_zero, List.set_cons_succ])) | (refine lex_take (v := ?_) (by rfl) ?_ ?_; rotate_left; (focus (intro wq hSw; (try dsimp only at hSw); go_simp; (try with_reducible rfl))); (try simp only [Act.put, List.setIfInBounds_toArray, List.set_cons_zero, List.set_cons_succ])))
        refine lex_end ?_
        refine NoPanic.normal ?_
        (try go_wp2)
        go_meet
        case rel => exact ⟨rfl, hb4⟩
      case rest =>
      obtain ⟨rfl, hb4⟩ := hcut
      generalize wc = w4 at *
      have HB4 := Lib.hid (HB.out.trans (hb4.mono HB.out.size))
      have hx4 := SW.out _ hb4
      clear SW HSC hb0 hglt
      have HO4 := Lib.hid (owns_modB (X := []) HO.out (Mod.of hb4) (by simp))
      clear hb4 HO
      cases sb with
      | false =>
        have HF : Hid (T = none) := by show _ = _; rw [HT2.out, if_neg (by simp)]
        clear hx4
        go_wp2
        go_returns
        exact ⟨some ⟨w4.heap.size, 0, none⟩, 0, by rw [HF.out]; rfl, by rw [HF.out]; exact nil_row w4, HB4.out.trans ((qalloc _ _).mono HB4.out.size)⟩
      | true =>
        have HTN : Hid (T = mv ln p tN) := by show _ = _; rw [HT2.out, if_pos rfl]
        obtain ⟨x0, x1, x2, x3, x4, x5, x6, x7, x8, x9, hgl⟩ := hx4
        have z0 := owns_frozen HO4.out (by omega) ((k - 1) * 5)
        have z1 := owns_frozen HO4.out (by omega) ((k - 1) * 5 + 1)
        have z2 := owns_frozen HO4.out (by omega) ((k - 1) * 5 + 2)
        have z3 := owns_frozen HO4.out (by omega) ((k - 1) * 5 + 3)
        have z4 := owns_frozen HO4.out (by omega) ((k - 1) * 5 + 4)
        have z5 := owns_frozen HO4.out (by omega) (k * 5)
        have z6 := owns_frozen HO4.out (by omega) (k * 5 + 1)
        have z7 := owns_frozen HO4.out (by omega) (k * 5 + 2)
        have z8 := owns_frozen HO4.out (by omega) (k * 5 + 3)
        have z9 := owns_frozen HO4.out (by omega) (k * 5 + 4)
        go_upto_region 10 with (fail)
        go_cut [] from 32 to 67 (fun wx => wx.ownsRow w.heap.size 24 5 (.slice (some ⟨g, 0, none⟩) l.length vc) l.length (A ++ (edC f bo do' bf df ++ (edC e ao co af cf ++ Bs))) ∧ Below w.heap.size w wx)
        case first =>
          go_region
          all_goals (go_wp2_with (fail))
          all_goals go_meet
          all_goals (
            have q := HO4.out
            rw [HXS.out] at q
            unfold edC at q
            obtain ⟨q1, q2⟩ := owns_tenb q (by omega) ((k - 1) * 5) (k * 5) (by have := HAL.out; have := HPK.out; omega) (by have := HAL.out; have := HPK.out; omega) (.int .i64 f.kind) (.string f.pack) (.string f.text) (.slice bo f.old.length do') (.slice bf f.fresh.length df) (.int .i64 e.kind) (.string e.pack) (.string e.text) (.slice ao e.old.length co) (.slice af e.fresh.length cf)
            exact ⟨q1, HB4.out.trans (q2.upto HB4.out.size (by have := HGB.out; intro q hq; simp at hq; omega))⟩)
        case rest =>
        obtain ⟨hown5, hb5⟩ := hcut
        generalize wc = w5 at *
        have HO5 := Lib.hid hown5
        have HB5 := Lib.hid hb5
        clear hown5 hb5 HO4 HB4 x0 z0 x1 z1 x2 z2 x3 z3 x4 z4 x5 z5 x6 z6 x7 z7 x8 z8 x9 z9
        go_wp2
        go_roundw
        case rel => exact ⟨p, ln, _, by omega, congrArg (Value.int .i64) (by have := HPK.out; omega), HLN, HSN, HTN, HO5, HSW2, HB5⟩
        case measure => have hq := HPK.out; first | (simp [intOf]; done) | (simp [intOf]; omega)
end Go.Proofs.YtlcpdhionefmbaaGreatDoor
