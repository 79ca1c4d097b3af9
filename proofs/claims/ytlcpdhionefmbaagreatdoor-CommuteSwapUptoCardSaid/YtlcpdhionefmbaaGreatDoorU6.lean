/- commute.Move. -/
import Derived.Test.YtlcpdhionefmbaaGreatDoorV2
import Derived.Test.YtlcpdhionefmbaaGreatDoorLwCommuteInverse
namespace Go.Proofs.YtlcpdhionefmbaaGreatDoor
open Go.RowKit Go.Shelf
attribute [local go_sem] Oper.semAt_some

theorem mem_swapAt {l : List OEdit} {k : Nat} {P : OEdit → Prop} (hk : k + 1 < l.length) (h : ∀ e ∈ l, P e) : ∀ e ∈ swapAt l k, P e := by
  obtain ⟨Q, R, hl, hQ⟩ := split_at hk
  generalize eAt l k = e at *
  generalize eAt l (k + 1) = f at *
  subst hl
  rw [← hQ, swapAt_split]
  intro x hx
  refine h x ?_
  simp only [List.mem_append, List.mem_cons] at hx ⊢
  rcases hx with hx | hx | hx | hx
  · exact .inl hx
  · exact .inr (.inr (.inl hx))
  · exact .inr (.inl hx)
  · exact .inr (.inr (.inr hx))
theorem eAt_mem {l : List OEdit} {k : Nat} (h : k < l.length) : eAt l k ∈ l := by rw [eAt_of (List.getElem?_eq_getElem h)]; exact List.getElem_mem h
set_option maxRecDepth 100000 in
set_option maxHeartbeats 16000000 in
theorem cMove_any (l : List OEdit) (a : Option Addr) (c : Nat) (from' to' : Int) (w : World) (hl : Reads w [] (editsT l) (.slice a l.length c)) (hs : ∀ e ∈ l, SmE e) (hn : l.length ≤ 1000000) :
    Calls Tryz.prog 11 #[.slice a l.length c, .int .i64 from', .int .i64 to'] w fun r w' => ∃ a' c', r = .returned (.tuple #[.slice a' ((moveL l from' to').getD []).length c', .bool (moveL l from' to').isSome]) ∧ Reads w' [] (editsT ((moveL l from' to').getD [])) (.slice a' ((moveL l from' to').getD []).length c') ∧ Below w.heap.size w w' := by
  have hp : moveL l from' to' = if from' < 0 ∨ (l.length : Int) ≤ from' ∨ to' < 0 ∨ (l.length : Int) ≤ to' then none else mv l from'.toNat to'.toNat := rfl
  by_cases h1 : from' < 0
  · rw [if_pos (.inl h1)] at hp
    have q1 : decide (from' < 0) = true := decide_eq_true h1
    have HP := Lib.hid hp
    clear hp h1 hl hs
    generalize moveL l from' to' = T at *
    go_enter Tryz.func11, Tryz.ntmps11
    go_wp2
    go_returns
    exact ⟨none, 0, by rw [HP.out]; rfl, by rw [HP.out]; exact Reads.nilRow _ _ _ _, qrefl _⟩
  have q1 : decide (from' < 0) = false := decide_eq_false h1
  by_cases h2 : (l.length : Int) ≤ from'
  · rw [if_pos (.inr (.inl h2))] at hp
    have q2 : decide ((l.length : Int) ≤ from') = true := decide_eq_true h2
    have HP := Lib.hid hp
    clear hp h1 h2 hl hs
    generalize moveL l from' to' = T at *
    go_enter Tryz.func11, Tryz.ntmps11
    go_wp2
    go_returns
    exact ⟨none, 0, by rw [HP.out]; rfl, by rw [HP.out]; exact Reads.nilRow _ _ _ _, qrefl _⟩
  have q2 : decide ((l.length : Int) ≤ from') = false := decide_eq_false h2
  by_cases h3 : to' < 0
  · rw [if_pos (.inr (.inr (.inl h3)))] at hp
    have q3 : decide (to' < 0) = true := decide_eq_true h3
    have HP := Lib.hid hp
    clear hp h1 h2 h3 hl hs
    generalize moveL l from' to' = T at *
    go_enter Tryz.func11, Tryz.ntmps11
    go_wp2
    go_returns
    exact ⟨none, 0, by rw [HP.out]; rfl, by rw [HP.out]; exact Reads.nilRow _ _ _ _, qrefl _⟩
  have q3 : decide (to' < 0) = false := decide_eq_false h3
  by_cases h4 : (l.length : Int) ≤ to'
  · rw [if_pos (.inr (.inr (.inr h4)))] at hp
    have q4 : decide ((l.length : Int) ≤ to') = true := decide_eq_true h4
    have HP := Lib.hid hp
    clear hp h1 h2 h3 h4 hl hs
    generalize moveL l from' to' = T at *
    go_enter Tryz.func11, Tryz.ntmps11
    go_wp2
    go_returns
    exact ⟨none, 0, by rw [HP.out]; rfl, by rw [HP.out]; exact Reads.nilRow _ _ _ _, qrefl _⟩
  have q4 : decide ((l.length : Int) ≤ to') = false := decide_eq_false h4
  rw [if_neg (by omega)] at hp
  obtain ⟨fr, rfl⟩ : ∃ fr : Nat, from' = (fr : Int) := ⟨from'.toNat, by omega⟩
  obtain ⟨tN, rfl⟩ : ∃ tN : Nat, to' = (tN : Int) := ⟨to'.toNat, by omega⟩
  rw [Int.toNat_natCast, Int.toNat_natCast] at hp
  have HP := Lib.hid hp
  have hfl : fr < l.length := by omega
  have htl : tN < l.length := by omega
  have HC := Lib.hid (CloneE_any l a c w hl hn (by omega))
  have HS := Lib.hid hs
  clear hp h1 h2 h3 h4 hl hs
  generalize moveL l (fr : Int) (tN : Int) = T at *
  go_enter Tryz.func11, Tryz.ntmps11
  go_wp2_with (fail)
  refine HC.out.mono ?_
  rintro r w1 ⟨v, xs0, rfl, hown0, hrd0, hb0⟩
  have HO0 := Lib.hid hown0
  have HR0 := Lib.hid hrd0
  have HB0 := Lib.hid hb0
  obtain ⟨va, vc, rfl⟩ := owns_val hown0
  obtain ⟨g, cur, rfl, -, hgB, -, -, hcap1, hcap2, -⟩ := owns_cells hown0 (by omega)
  clear hown0 hrd0 hb0 HC
  have HGB := Lib.hid hgB
  clear hgB
  go_wp2
  go_loopw [1] (fun fv wr => ∃ (k : Nat) (lk : List OEdit) (xs : List Value), k < l.length ∧ fv = .int .i64 k ∧ Hid (lk.length = l.length) ∧ Hid (∀ e ∈ lk, SmE e) ∧ Hid (T = mv lk k tN) ∧ Hid (wr.ownsRow w.heap.size 24 5 (.slice (some ⟨g, 0, none⟩) l.length vc) l.length xs) ∧ Hid (ReadsL w [] (lk.flatMap editT) xs) ∧ Hid (Below w.heap.size w wr)) (fun fv _ => (intOf fv - (tN : Int)).natAbs)
  case atStart => exact ⟨fr, l, xs0, hfl, rfl, rfl, HS, HP, HO0, HR0, HB0⟩
  case round =>
    obtain ⟨k, lk, xs, hkl, rfl, HLK, HSK, HT, HO, HR, HB⟩ := hrel
    by_cases hkt : k = tN
    · have q5 : ((k : Int) != (tN : Int)) = false := by rw [hkt]; simp
      have HF : Hid (T = some lk) := by show _ = _; rw [HT.out, hkt, mv_same]
      have HRR : Hid (Reads wr [] (editsT lk) (.slice (some ⟨g, 0, none⟩) lk.length vc)) := Reads.ofRow (l := lk) (by rw [HLK.out]; exact owns_row HO.out) (fun _ b _ => by simp) (HR.out.below HB.out)
      clear hkt
      go_wp2
      go_returns
      exact ⟨some ⟨g, 0, none⟩, vc, by rw [HF.out]; show _ = Ending.returned (.tuple #[.slice _ lk.length _, .bool true]); rw [HLK.out]; rfl, by rw [HF.out]; exact HRR.out, HB.out⟩
    have q5 : ((k : Int) != (tN : Int)) = true := bne_iff_ne.2 (by omega)
    by_cases hup : k < tN
    · have q6 : decide ((tN : Int) < (k : Int)) = false := decide_eq_false (by omega)
      have hpn : k + 1 < l.length := by omega
      have HT2 := Lib.hid (HT.out.trans (mv_up hup))
      clear HT
      obtain ⟨A, Bs, ao, co, af, cf, bo, do', bf, df, hxs, hA, he6, hf6, hsw⟩ := two_edits HR.out (k := k) (by rw [HLK.out]; exact hpn)
      have hse := HSK.out _ (eAt_mem (l := lk) (k := k) (by rw [HLK.out]; omega))
      have hsf := HSK.out _ (eAt_mem (l := lk) (k := k + 1) (by rw [HLK.out]; omega))
      have HSN := Lib.hid (mem_swapAt (P := SmE) (k := k) (by rw [HLK.out]; exact hpn) HSK.out)
      have HLN : Hid ((swapAt lk k).length = l.length) := by show _ = _; rw [swapAt_len, HLK.out]
      have HSW2 := Lib.hid hsw
      have HXS := Lib.hid hxs
      have HAL := Lib.hid hA
      clear hsw hxs hA HR HSK HLK
      generalize eAt lk k = e at *
      generalize eAt lk (k + 1) = f at *
      generalize swapAt lk k = ln at *
      have hie : EditIn w e ao co af cf := ⟨he6.1, he6.2.1, he6.2.2.1, he6.2.2.2.1, he6.2.2.2.2.1, he6.2.2.2.2.2⟩
      have hif : EditIn w f bo do' bf df := ⟨hf6.1, hf6.2.1, hf6.2.2.1, hf6.2.2.2.1, hf6.2.2.2.2.1, hf6.2.2.2.2.2⟩
      obtain ⟨k1, p1, t1, a1, n1, c1, a2, n2, c2, k2, p2, t2, a3, n3, c3, a4, n4, c4, hs1⟩ := swap_shape e f ao co af cf bo do' bf df
      have HSH := Lib.hid hs1
      have HSC := Lib.hid (fun W (h : Below wr.heap.size wr W) => cSwap_any e f ao co af cf bo do' bf df W (hie.below (HB.out.trans (h.mono HB.out.size))) (hif.below (HB.out.trans (h.mono HB.out.size))) hse hsf)
      rw [hs1] at HSC
      clear hs1 he6 hf6 hie hif hse hsf
      unfold editV at HSC
      obtain ⟨g', cur', hgg, hcell, -, hglt, hfz, -⟩ := owns_cells HO.out (by omega)
      injection hgg with hgg
      injection hgg with hgg
      subst hgg
      have x0 : wr.cell? ⟨g, k * 5, none⟩ = some (.int .i64 e.kind) := hcell _ _ (by rw [HXS.out]; exact (get10 A Bs (k * 5) ((k + 1) * 5) (by have := HAL.out; omega) (by have := HAL.out; omega) _ _ _ _ _ _ _ _ _ _).1)
      have x1 : wr.cell? ⟨g, k * 5 + 1, none⟩ = some (.string e.pack) := hcell _ _ (by rw [HXS.out]; exact (get10 A Bs (k * 5) ((k + 1) * 5) (by have := HAL.out; omega) (by have := HAL.out; omega) _ _ _ _ _ _ _ _ _ _).2.1)
      have x2 : wr.cell? ⟨g, k * 5 + 2, none⟩ = some (.string e.text) := hcell _ _ (by rw [HXS.out]; exact (get10 A Bs (k * 5) ((k + 1) * 5) (by have := HAL.out; omega) (by have := HAL.out; omega) _ _ _ _ _ _ _ _ _ _).2.2.1)
      have x3 : wr.cell? ⟨g, k * 5 + 3, none⟩ = some (.slice ao e.old.length co) := hcell _ _ (by rw [HXS.out]; exact (get10 A Bs (k * 5) ((k + 1) * 5) (by have := HAL.out; omega) (by have := HAL.out; omega) _ _ _ _ _ _ _ _ _ _).2.2.2.1)
      have x4 : wr.cell? ⟨g, k * 5 + 4, none⟩ = some (.slice af e.fresh.length cf) := hcell _ _ (by rw [HXS.out]; exact (get10 A Bs (k * 5) ((k + 1) * 5) (by have := HAL.out; omega) (by have := HAL.out; omega) _ _ _ _ _ _ _ _ _ _).2.2.2.2.1)
      have x5 : wr.cell? ⟨g, (k + 1) * 5, none⟩ = some (.int .i64 f.kind) := hcell _ _ (by rw [HXS.out]; exact (get10 A Bs (k * 5) ((k + 1) * 5) (by have := HAL.out; omega) (by have := HAL.out; omega) _ _ _ _ _ _ _ _ _ _).2.2.2.2.2.1)
      have x6 : wr.cell? ⟨g, (k + 1) * 5 + 1, none⟩ = some (.string f.pack) := hcell _ _ (by rw [HXS.out]; exact (get10 A Bs (k * 5) ((k + 1) * 5) (by have := HAL.out; omega) (by have := HAL.out; omega) _ _ _ _ _ _ _ _ _ _).2.2.2.2.2.2.1)
      have x7 : wr.cell? ⟨g, (k + 1) * 5 + 2, none⟩ = some (.string f.text) := hcell _ _ (by rw [HXS.out]; exact (get10 A Bs (k * 5) ((k + 1) * 5) (by have := HAL.out; omega) (by have := HAL.out; omega) _ _ _ _ _ _ _ _ _ _).2.2.2.2.2.2.2.1)
      have x8 : wr.cell? ⟨g, (k + 1) * 5 + 3, none⟩ = some (.slice bo f.old.length do') := hcell _ _ (by rw [HXS.out]; exact (get10 A Bs (k * 5) ((k + 1) * 5) (by have := HAL.out; omega) (by have := HAL.out; omega) _ _ _ _ _ _ _ _ _ _).2.2.2.2.2.2.2.2.1)
      have x9 : wr.cell? ⟨g, (k + 1) * 5 + 4, none⟩ = some (.slice bf f.fresh.length df) := hcell _ _ (by rw [HXS.out]; exact (get10 A Bs (k * 5) ((k + 1) * 5) (by have := HAL.out; omega) (by have := HAL.out; omega) _ _ _ _ _ _ _ _ _ _).2.2.2.2.2.2.2.2.2)
      have hI1 : (k : Int) + 1 < (l.length : Int) := by omega
      have hI0 : (0 : Int) ≤ (k : Int) + 1 := by omega
      have hI2 : ((k : Int) + 1).toNat = k + 1 := by omega
      have hI3 : IntKind.i64.wrap ((k : Int) + 1) = (k : Int) + 1 := by rw [IntKind.wrap_i64]; omega
      have SW : Hid (∀ W : World, Below wr.heap.size wr W → (W.cell? ⟨g, k * 5, none⟩ = some (.int .i64 e.kind) ∧ W.cell? ⟨g, k * 5 + 1, none⟩ = some (.string e.pack) ∧ W.cell? ⟨g, k * 5 + 2, none⟩ = some (.string e.text) ∧ W.cell? ⟨g, k * 5 + 3, none⟩ = some (.slice ao e.old.length co) ∧ W.cell? ⟨g, k * 5 + 4, none⟩ = some (.slice af e.fresh.length cf) ∧ W.cell? ⟨g, (k + 1) * 5, none⟩ = some (.int .i64 f.kind) ∧ W.cell? ⟨g, (k + 1) * 5 + 1, none⟩ = some (.string f.pack) ∧ W.cell? ⟨g, (k + 1) * 5 + 2, none⟩ = some (.string f.text) ∧ W.cell? ⟨g, (k + 1) * 5 + 3, none⟩ = some (.slice bo f.old.length do') ∧ W.cell? ⟨g, (k + 1) * 5 + 4, none⟩ = some (.slice bf f.fresh.length df) ∧ g < W.heap.size)) := Lib.hid (fun W hW => ⟨(hW.cell (p := ⟨g, _, none⟩) hglt).trans x0, (hW.cell (p := ⟨g, _, none⟩) hglt).trans x1, (hW.cell (p := ⟨g, _, none⟩) hglt).trans x2, (hW.cell (p := ⟨g, _, none⟩) hglt).trans x3, (hW.cell (p := ⟨g, _, none⟩) hglt).trans x4, (hW.cell (p := ⟨g, _, none⟩) hglt).trans x5, (hW.cell (p := ⟨g, _, none⟩) hglt).trans x6, (hW.cell (p := ⟨g, _, none⟩) hglt).trans x7, (hW.cell (p := ⟨g, _, none⟩) hglt).trans x8, (hW.cell (p := ⟨g, _, none⟩) hglt).trans x9, Nat.lt_of_lt_of_le hglt hW.size⟩)
      have hb0 : Below wr.heap.size wr wr.drew := (Mod.refl [] wr).drew.below
      clear x0 x1 x2 x3 x4 x5 x6 x7 x8 x9 hcell hfz
      have HGL := Lib.hid hglt
      clear hglt
      generalize hsb : swapB e f = sb at *
      have HSB := Lib.hid hsb
      clear hsb
      go_upto_region 8 with (fail)
      go_cut [11, 12, 13] from 34 to 72 (fun p q v wx => ∃ D1 D2, p = .pointer (some ⟨D1, 0, none⟩) ∧ q = .pointer (some ⟨D2, 0, none⟩) ∧ v = .bool sb ∧ CBox wx D1 24 #[.int .i64 k1, .string p1, .string t1, .slice a1 n1 c1, .slice a2 n2 c2] ∧ CBox wx D2 24 #[.int .i64 k2, .string p2, .string t2, .slice a3 n3 c3, .slice a4 n4 c4] ∧ Below wr.heap.size wr wx ∧ wr.heap.size ≤ D1 ∧ wr.heap.size ≤ D2)
      case first =>
        refine wp_region_noPanic (region_planT (fun W : World => W.cell? ⟨g, k * 5, none⟩ = some (.int .i64 e.kind) ∧ W.cell? ⟨g, k * 5 + 1, none⟩ = some (.string e.pack) ∧ W.cell? ⟨g, k * 5 + 2, none⟩ = some (.string e.text) ∧ W.cell? ⟨g, k * 5 + 3, none⟩ = some (.slice ao e.old.length co) ∧ W.cell? ⟨g, k * 5 + 4, none⟩ = some (.slice af e.fresh.length cf) ∧ W.cell? ⟨g, (k + 1) * 5, none⟩ = some (.int .i64 f.kind) ∧ W.cell? ⟨g, (k + 1) * 5 + 1, none⟩ = some (.string f.pack) ∧ W.cell? ⟨g, (k + 1) * 5 + 2, none⟩ = some (.string f.text) ∧ W.cell? ⟨g, (k + 1) * 5 + 3, none⟩ = some (.slice bo f.old.length do') ∧ W.cell? ⟨g, (k + 1) * 5 + 4, none⟩ = some (.slice bf f.fresh.length df) ∧ g < W.heap.size) (.take 0 (.take 1 (.take 2 (.take 3 (.take 4 (.take 5 (.take 6 (.take 7 (.take 8 (.three 9 14 15 (.take 10 (.take 11 (.take 12 (.take 13 (.two 14 15 (.one 15 (.one 16 (.one 17 (.one 18 .done)))) (.one 14 (.one 16 (.one 17 (.one 18 .done))))))))) (.two 9 15 (.take 10 (.take 11 (.take 12 (.take 13 (.one 15 (.one 16 (.one 17 (.one 18 .done)))))))) (.one 9 (.take 10 (.take 11 (.take 12 (.take 13 (.one 16 (.one 17 (.one 18 .done))))))))) (.two 9 14 (.take 10 (.take 11 (.take 12 (.take 13 (.one 14 (.one 16 (.one 17 (.one 18 .done)))))))) (.one 9 (.take 10 (.take 11 (.take 12 (.take 13 (.one 16 (.one 17 (.one 18 .done))))))))))))))))))) mixedK (by kernel_rfl) (fun _ _ _ _ _ h => h) (SW.out _ hb0) ?_)
        iterate 9 (refine planT_take (v := ?_) rfl (by rfl) ?_ ?_; rotate_left; (focus (intro wq hSw; (try dsimp only at hSw); go_simp; (try rw [if_neg (by first | omega | (simp; omega))]); (try with_reducible rfl))); (try simp only [List.getElem_toArray, List.getElem_cons_succ, List.getElem_cons_zero, Act.put, List.setIfInBounds_toArray, List.set_cons_zero, List.set_cons_succ]))
        generalize wr.drew = v0 at *
        refine planT_three ?_ ?_ ?_
        · skip
          refine planT_one rfl (by rfl) (fun K hK => ?_); go_simp
          refine (HSC.out _ hb0).mono ?_
          rintro r v1 ⟨rfl, hq1⟩
          (try go_simp)
          have hb1 := qtrans hb0 hq1
          refine hK.out _ _ (SW.out _ hb1) ?_; clear hK K; (try simp only [List.getElem_toArray, List.getElem_cons_succ, List.getElem_cons_zero, Act.put, List.setIfInBounds_toArray, List.set_cons_zero, List.set_cons_succ])
          iterate 4 (refine planT_take (v := ?_) rfl (by rfl) ?_ ?_; rotate_left; (focus (intro wq hSw; (try dsimp only at hSw); go_simp; (try rw [if_neg (by first | omega | (simp; omega))]); (try with_reducible rfl))); (try simp only [List.getElem_toArray, List.getElem_cons_succ, List.getElem_cons_zero, Act.put, List.setIfInBounds_toArray, List.set_cons_zero, List.set_cons_succ]))
          refine planT_two ?_ ?_
          · skip
            have ax2 := CBox.new v1 24 #[.int .i64 0, .string ⟨#[]⟩, .string ⟨#[]⟩, .slice none 0 0, .slice none 0 0]
            have ge2 := hb1.size
            have hb2 := qtrans hb1 (qalloc v1 (.cells #[.int .i64 0, .string ⟨#[]⟩, .string ⟨#[]⟩, .slice none 0 0, .slice none 0 0] 24))
            refine planT_one rfl (by rfl) (fun K hK => ?_); go_simp
            refine hK.out _ _ (SW.out _ hb2) ?_; clear hK K; (try simp only [List.getElem_toArray, List.getElem_cons_succ, List.getElem_cons_zero, Act.put, List.setIfInBounds_toArray, List.set_cons_zero, List.set_cons_succ])
            generalize v1.alloc (.cells #[.int .i64 0, .string ⟨#[]⟩, .string ⟨#[]⟩, .slice none 0 0, .slice none 0 0] 24) = v2 at *
            generalize v1.heap.size = d2 at *
            have ax3 := CBox.new v2 24 #[.int .i64 0, .string ⟨#[]⟩, .string ⟨#[]⟩, .slice none 0 0, .slice none 0 0]
            have ge3 := hb2.size
            have cy3_14 := ax2.alloc (.cells #[.int .i64 0, .string ⟨#[]⟩, .string ⟨#[]⟩, .slice none 0 0, .slice none 0 0] 24)
            have ne3 := ax2.lt
            have hb3 := qtrans hb2 (qalloc v2 (.cells #[.int .i64 0, .string ⟨#[]⟩, .string ⟨#[]⟩, .slice none 0 0, .slice none 0 0] 24))
            refine planT_one rfl (by rfl) (fun K hK => ?_); go_simp
            refine hK.out _ _ (SW.out _ hb3) ?_; clear hK K; (try simp only [List.getElem_toArray, List.getElem_cons_succ, List.getElem_cons_zero, Act.put, List.setIfInBounds_toArray, List.set_cons_zero, List.set_cons_succ])
            generalize v2.alloc (.cells #[.int .i64 0, .string ⟨#[]⟩, .string ⟨#[]⟩, .slice none 0 0, .slice none 0 0] 24) = v3 at *
            generalize v2.heap.size = d3 at *
            have r0 := cy3_14.frozen 0
            have r1 := cy3_14.frozen 1
            have r2 := cy3_14.frozen 2
            have r3 := cy3_14.frozen 3
            have r4 := cy3_14.frozen 4
            have q0 := cy3_14.cell (i := 0) (v := .int .i64 0) rfl
            have q1 := cy3_14.cell (i := 1) (v := .string ⟨#[]⟩) rfl
            have q2 := cy3_14.cell (i := 2) (v := .string ⟨#[]⟩) rfl
            have q3 := cy3_14.cell (i := 3) (v := .slice none 0 0) rfl
            have q4 := cy3_14.cell (i := 4) (v := .slice none 0 0) rfl
            have ql := cy3_14.lt
            have m4 := mod_five v3 d2 (.int .i64 k1) (.string p1) (.string t1) (.slice a1 n1 c1) (.slice a2 n2 c2)
            have kx4 := ax3.mod m4 (by simp; omega)
            have cx4 := CBox.five cy3_14 (.int .i64 k1) (.string p1) (.string t1) (.slice a1 n1 c1) (.slice a2 n2 c2)
            have hb4 := hb3.trans (m4.upto hb3.size (by simp; omega))
            have Hkx4 := Lib.hid kx4
            have Hcx4 := Lib.hid cx4
            have Hhb4 := Lib.hid hb4
            clear m4 hb4 kx4 cx4
            refine planT_one rfl (by rfl) (fun K hK => ?_); go_simp
            refine hK.out _ _ (SW.out _ Hhb4.out) ?_; clear hK K; (try simp only [List.getElem_toArray, List.getElem_cons_succ, List.getElem_cons_zero, Act.put, List.setIfInBounds_toArray, List.set_cons_zero, List.set_cons_succ])
            clear r0 r1 r2 r3 r4 q0 q1 q2 q3 q4 ql
            generalize (((((v3.setCell ⟨d2, 0, none⟩ (.int .i64 k1)).setCell ⟨d2, 1, none⟩ (.string p1)).setCell ⟨d2, 2, none⟩ (.string t1)).setCell ⟨d2, 3, none⟩ (.slice a1 n1 c1)).setCell ⟨d2, 4, none⟩ (.slice a2 n2 c2)) = v4 at *
            have kx4 := Hkx4.out
            have cx4 := Hcx4.out
            have hb4 := Hhb4.out
            clear Hkx4 Hcx4 Hhb4
            have r0 := kx4.frozen 0
            have r1 := kx4.frozen 1
            have r2 := kx4.frozen 2
            have r3 := kx4.frozen 3
            have r4 := kx4.frozen 4
            have q0 := kx4.cell (i := 0) (v := .int .i64 0) rfl
            have q1 := kx4.cell (i := 1) (v := .string ⟨#[]⟩) rfl
            have q2 := kx4.cell (i := 2) (v := .string ⟨#[]⟩) rfl
            have q3 := kx4.cell (i := 3) (v := .slice none 0 0) rfl
            have q4 := kx4.cell (i := 4) (v := .slice none 0 0) rfl
            have ql := kx4.lt
            have m5 := mod_five v4 d3 (.int .i64 k2) (.string p2) (.string t2) (.slice a3 n3 c3) (.slice a4 n4 c4)
            have kx5 := cx4.mod m5 (by simp; omega)
            have cx5 := CBox.five kx4 (.int .i64 k2) (.string p2) (.string t2) (.slice a3 n3 c3) (.slice a4 n4 c4)
            have hb5 := hb4.trans (m5.upto hb4.size (by simp; omega))
            have Hkx5 := Lib.hid kx5
            have Hcx5 := Lib.hid cx5
            have Hhb5 := Lib.hid hb5
            clear m5 hb5 kx5 cx5
            refine planT_one rfl (by rfl) (fun K hK => ?_); go_simp
            refine hK.out _ _ (SW.out _ Hhb5.out) ?_; clear hK K; (try simp only [List.getElem_toArray, List.getElem_cons_succ, List.getElem_cons_zero, Act.put, List.setIfInBounds_toArray, List.set_cons_zero, List.set_cons_succ])
            clear r0 r1 r2 r3 r4 q0 q1 q2 q3 q4 ql
            generalize (((((v4.setCell ⟨d3, 0, none⟩ (.int .i64 k2)).setCell ⟨d3, 1, none⟩ (.string p2)).setCell ⟨d3, 2, none⟩ (.string t2)).setCell ⟨d3, 3, none⟩ (.slice a3 n3 c3)).setCell ⟨d3, 4, none⟩ (.slice a4 n4 c4)) = v5 at *
            have kx5 := Hkx5.out
            have cx5 := Hcx5.out
            have hb5 := Hhb5.out
            clear Hkx5 Hcx5 Hhb5
            refine planT_one rfl (by rfl) (fun K hK => ?_); go_simp
            refine hK.out _ _ (SW.out _ hb5) ?_; clear hK K; (try simp only [List.getElem_toArray, List.getElem_cons_succ, List.getElem_cons_zero, Act.put, List.setIfInBounds_toArray, List.set_cons_zero, List.set_cons_succ])
            refine planT_done ?_
            refine NoPanic.normal ?_
            (try go_wp2)
            go_meet
            case rel => exact ⟨_, _, rfl, rfl, rfl, kx5, cx5, hb5, ge2, ge3⟩
          · skip
            have ax6 := CBox.new v1 24 #[.int .i64 0, .string ⟨#[]⟩, .string ⟨#[]⟩, .slice none 0 0, .slice none 0 0]
            have ge6 := hb1.size
            have hb6 := qtrans hb1 (qalloc v1 (.cells #[.int .i64 0, .string ⟨#[]⟩, .string ⟨#[]⟩, .slice none 0 0, .slice none 0 0] 24))
            refine planT_one rfl (by rfl) (fun K hK => ?_); go_simp
            refine hK.out _ _ (SW.out _ hb6) ?_; clear hK K; (try simp only [List.getElem_toArray, List.getElem_cons_succ, List.getElem_cons_zero, Act.put, List.setIfInBounds_toArray, List.set_cons_zero, List.set_cons_succ])
            generalize v1.alloc (.cells #[.int .i64 0, .string ⟨#[]⟩, .string ⟨#[]⟩, .slice none 0 0, .slice none 0 0] 24) = v6 at *
            generalize v1.heap.size = d6 at *
            have ax7 := CBox.new v6 24 #[.int .i64 0, .string ⟨#[]⟩, .string ⟨#[]⟩, .slice none 0 0, .slice none 0 0]
            have ge7 := hb6.size
            have cy7_15 := ax6.alloc (.cells #[.int .i64 0, .string ⟨#[]⟩, .string ⟨#[]⟩, .slice none 0 0, .slice none 0 0] 24)
            have ne7 := ax6.lt
            have hb7 := qtrans hb6 (qalloc v6 (.cells #[.int .i64 0, .string ⟨#[]⟩, .string ⟨#[]⟩, .slice none 0 0, .slice none 0 0] 24))
            refine planT_one rfl (by rfl) (fun K hK => ?_); go_simp
            refine hK.out _ _ (SW.out _ hb7) ?_; clear hK K; (try simp only [List.getElem_toArray, List.getElem_cons_succ, List.getElem_cons_zero, Act.put, List.setIfInBounds_toArray, List.set_cons_zero, List.set_cons_succ])
            generalize v6.alloc (.cells #[.int .i64 0, .string ⟨#[]⟩, .string ⟨#[]⟩, .slice none 0 0, .slice none 0 0] 24) = v7 at *
            generalize v6.heap.size = d7 at *
            have r0 := ax7.frozen 0
            have r1 := ax7.frozen 1
            have r2 := ax7.frozen 2
            have r3 := ax7.frozen 3
            have r4 := ax7.frozen 4
            have q0 := ax7.cell (i := 0) (v := .int .i64 0) rfl
            have q1 := ax7.cell (i := 1) (v := .string ⟨#[]⟩) rfl
            have q2 := ax7.cell (i := 2) (v := .string ⟨#[]⟩) rfl
            have q3 := ax7.cell (i := 3) (v := .slice none 0 0) rfl
            have q4 := ax7.cell (i := 4) (v := .slice none 0 0) rfl
            have ql := ax7.lt
            have m8 := mod_five v7 d7 (.int .i64 k1) (.string p1) (.string t1) (.slice a1 n1 c1) (.slice a2 n2 c2)
            have kx8 := cy7_15.mod m8 (by simp; omega)
            have cx8 := CBox.five ax7 (.int .i64 k1) (.string p1) (.string t1) (.slice a1 n1 c1) (.slice a2 n2 c2)
            have hb8 := hb7.trans (m8.upto hb7.size (by simp; omega))
            have Hkx8 := Lib.hid kx8
            have Hcx8 := Lib.hid cx8
            have Hhb8 := Lib.hid hb8
            clear m8 hb8 kx8 cx8
            refine planT_one rfl (by rfl) (fun K hK => ?_); go_simp
            refine hK.out _ _ (SW.out _ Hhb8.out) ?_; clear hK K; (try simp only [List.getElem_toArray, List.getElem_cons_succ, List.getElem_cons_zero, Act.put, List.setIfInBounds_toArray, List.set_cons_zero, List.set_cons_succ])
            clear r0 r1 r2 r3 r4 q0 q1 q2 q3 q4 ql
            generalize (((((v7.setCell ⟨d7, 0, none⟩ (.int .i64 k1)).setCell ⟨d7, 1, none⟩ (.string p1)).setCell ⟨d7, 2, none⟩ (.string t1)).setCell ⟨d7, 3, none⟩ (.slice a1 n1 c1)).setCell ⟨d7, 4, none⟩ (.slice a2 n2 c2)) = v8 at *
            have kx8 := Hkx8.out
            have cx8 := Hcx8.out
            have hb8 := Hhb8.out
            clear Hkx8 Hcx8 Hhb8
            have r0 := kx8.frozen 0
            have r1 := kx8.frozen 1
            have r2 := kx8.frozen 2
            have r3 := kx8.frozen 3
            have r4 := kx8.frozen 4
            have q0 := kx8.cell (i := 0) (v := .int .i64 0) rfl
            have q1 := kx8.cell (i := 1) (v := .string ⟨#[]⟩) rfl
            have q2 := kx8.cell (i := 2) (v := .string ⟨#[]⟩) rfl
            have q3 := kx8.cell (i := 3) (v := .slice none 0 0) rfl
            have q4 := kx8.cell (i := 4) (v := .slice none 0 0) rfl
            have ql := kx8.lt
            have m9 := mod_five v8 d6 (.int .i64 k2) (.string p2) (.string t2) (.slice a3 n3 c3) (.slice a4 n4 c4)
            have kx9 := cx8.mod m9 (by simp; omega)
            have cx9 := CBox.five kx8 (.int .i64 k2) (.string p2) (.string t2) (.slice a3 n3 c3) (.slice a4 n4 c4)
            have hb9 := hb8.trans (m9.upto hb8.size (by simp; omega))
            have Hkx9 := Lib.hid kx9
            have Hcx9 := Lib.hid cx9
            have Hhb9 := Lib.hid hb9
            clear m9 hb9 kx9 cx9
            refine planT_one rfl (by rfl) (fun K hK => ?_); go_simp
            refine hK.out _ _ (SW.out _ Hhb9.out) ?_; clear hK K; (try simp only [List.getElem_toArray, List.getElem_cons_succ, List.getElem_cons_zero, Act.put, List.setIfInBounds_toArray, List.set_cons_zero, List.set_cons_succ])
            clear r0 r1 r2 r3 r4 q0 q1 q2 q3 q4 ql
            generalize (((((v8.setCell ⟨d6, 0, none⟩ (.int .i64 k2)).setCell ⟨d6, 1, none⟩ (.string p2)).setCell ⟨d6, 2, none⟩ (.string t2)).setCell ⟨d6, 3, none⟩ (.slice a3 n3 c3)).setCell ⟨d6, 4, none⟩ (.slice a4 n4 c4)) = v9 at *
            have kx9 := Hkx9.out
            have cx9 := Hcx9.out
            have hb9 := Hhb9.out
            clear Hkx9 Hcx9 Hhb9
            refine planT_one rfl (by rfl) (fun K hK => ?_); go_simp
            refine hK.out _ _ (SW.out _ hb9) ?_; clear hK K; (try simp only [List.getElem_toArray, List.getElem_cons_succ, List.getElem_cons_zero, Act.put, List.setIfInBounds_toArray, List.set_cons_zero, List.set_cons_succ])
            refine planT_done ?_
            refine NoPanic.normal ?_
            (try go_wp2)
            go_meet
            case rel => exact ⟨_, _, rfl, rfl, rfl, kx9, cx9, hb9, ge7, ge6⟩
        · skip
          have ax10 := CBox.new v0 24 #[.int .i64 0, .string ⟨#[]⟩, .string ⟨#[]⟩, .slice none 0 0, .slice none 0 0]
          have ge10 := hb0.size
          have hb10 := qtrans hb0 (qalloc v0 (.cells #[.int .i64 0, .string ⟨#[]⟩, .string ⟨#[]⟩, .slice none 0 0, .slice none 0 0] 24))
          refine planT_one rfl (by rfl) (fun K hK => ?_); go_simp
          refine hK.out _ _ (SW.out _ hb10) ?_; clear hK K; (try simp only [List.getElem_toArray, List.getElem_cons_succ, List.getElem_cons_zero, Act.put, List.setIfInBounds_toArray, List.set_cons_zero, List.set_cons_succ])
          generalize v0.alloc (.cells #[.int .i64 0, .string ⟨#[]⟩, .string ⟨#[]⟩, .slice none 0 0, .slice none 0 0] 24) = v10 at *
          generalize v0.heap.size = d10 at *
          refine planT_two ?_ ?_
          · skip
            refine planT_one rfl (by rfl) (fun K hK => ?_); go_simp
            refine (HSC.out _ hb10).mono ?_
            rintro r v11 ⟨rfl, hq11⟩
            (try go_simp)
            have hb11 := qtrans hb10 hq11
            have cy11_14 := ax10.below hq11
            refine hK.out _ _ (SW.out _ hb11) ?_; clear hK K; (try simp only [List.getElem_toArray, List.getElem_cons_succ, List.getElem_cons_zero, Act.put, List.setIfInBounds_toArray, List.set_cons_zero, List.set_cons_succ])
            iterate 4 (refine planT_take (v := ?_) rfl (by rfl) ?_ ?_; rotate_left; (focus (intro wq hSw; (try dsimp only at hSw); go_simp; (try rw [if_neg (by first | omega | (simp; omega))]); (try with_reducible rfl))); (try simp only [List.getElem_toArray, List.getElem_cons_succ, List.getElem_cons_zero, Act.put, List.setIfInBounds_toArray, List.set_cons_zero, List.set_cons_succ]))
            have ax12 := CBox.new v11 24 #[.int .i64 0, .string ⟨#[]⟩, .string ⟨#[]⟩, .slice none 0 0, .slice none 0 0]
            have ge12 := hb11.size
            have cy12_14 := cy11_14.alloc (.cells #[.int .i64 0, .string ⟨#[]⟩, .string ⟨#[]⟩, .slice none 0 0, .slice none 0 0] 24)
            have ne12 := cy11_14.lt
            have hb12 := qtrans hb11 (qalloc v11 (.cells #[.int .i64 0, .string ⟨#[]⟩, .string ⟨#[]⟩, .slice none 0 0, .slice none 0 0] 24))
            refine planT_one rfl (by rfl) (fun K hK => ?_); go_simp
            refine hK.out _ _ (SW.out _ hb12) ?_; clear hK K; (try simp only [List.getElem_toArray, List.getElem_cons_succ, List.getElem_cons_zero, Act.put, List.setIfInBounds_toArray, List.set_cons_zero, List.set_cons_succ])
            generalize v11.alloc (.cells #[.int .i64 0, .string ⟨#[]⟩, .string ⟨#[]⟩, .slice none 0 0, .slice none 0 0] 24) = v12 at *
            generalize v11.heap.size = d12 at *
            have r0 := cy12_14.frozen 0
            have r1 := cy12_14.frozen 1
            have r2 := cy12_14.frozen 2
            have r3 := cy12_14.frozen 3
            have r4 := cy12_14.frozen 4
            have q0 := cy12_14.cell (i := 0) (v := .int .i64 0) rfl
            have q1 := cy12_14.cell (i := 1) (v := .string ⟨#[]⟩) rfl
            have q2 := cy12_14.cell (i := 2) (v := .string ⟨#[]⟩) rfl
            have q3 := cy12_14.cell (i := 3) (v := .slice none 0 0) rfl
            have q4 := cy12_14.cell (i := 4) (v := .slice none 0 0) rfl
            have ql := cy12_14.lt
            have m13 := mod_five v12 d10 (.int .i64 k1) (.string p1) (.string t1) (.slice a1 n1 c1) (.slice a2 n2 c2)
            have kx13 := ax12.mod m13 (by simp; omega)
            have cx13 := CBox.five cy12_14 (.int .i64 k1) (.string p1) (.string t1) (.slice a1 n1 c1) (.slice a2 n2 c2)
            have hb13 := hb12.trans (m13.upto hb12.size (by simp; omega))
            have Hkx13 := Lib.hid kx13
            have Hcx13 := Lib.hid cx13
            have Hhb13 := Lib.hid hb13
            clear m13 hb13 kx13 cx13
            refine planT_one rfl (by rfl) (fun K hK => ?_); go_simp
            refine hK.out _ _ (SW.out _ Hhb13.out) ?_; clear hK K; (try simp only [List.getElem_toArray, List.getElem_cons_succ, List.getElem_cons_zero, Act.put, List.setIfInBounds_toArray, List.set_cons_zero, List.set_cons_succ])
            clear r0 r1 r2 r3 r4 q0 q1 q2 q3 q4 ql
            generalize (((((v12.setCell ⟨d10, 0, none⟩ (.int .i64 k1)).setCell ⟨d10, 1, none⟩ (.string p1)).setCell ⟨d10, 2, none⟩ (.string t1)).setCell ⟨d10, 3, none⟩ (.slice a1 n1 c1)).setCell ⟨d10, 4, none⟩ (.slice a2 n2 c2)) = v13 at *
            have kx13 := Hkx13.out
            have cx13 := Hcx13.out
            have hb13 := Hhb13.out
            clear Hkx13 Hcx13 Hhb13
            have r0 := kx13.frozen 0
            have r1 := kx13.frozen 1
            have r2 := kx13.frozen 2
            have r3 := kx13.frozen 3
            have r4 := kx13.frozen 4
            have q0 := kx13.cell (i := 0) (v := .int .i64 0) rfl
            have q1 := kx13.cell (i := 1) (v := .string ⟨#[]⟩) rfl
            have q2 := kx13.cell (i := 2) (v := .string ⟨#[]⟩) rfl
            have q3 := kx13.cell (i := 3) (v := .slice none 0 0) rfl
            have q4 := kx13.cell (i := 4) (v := .slice none 0 0) rfl
            have ql := kx13.lt
            have m14 := mod_five v13 d12 (.int .i64 k2) (.string p2) (.string t2) (.slice a3 n3 c3) (.slice a4 n4 c4)
            have kx14 := cx13.mod m14 (by simp; omega)
            have cx14 := CBox.five kx13 (.int .i64 k2) (.string p2) (.string t2) (.slice a3 n3 c3) (.slice a4 n4 c4)
            have hb14 := hb13.trans (m14.upto hb13.size (by simp; omega))
            have Hkx14 := Lib.hid kx14
            have Hcx14 := Lib.hid cx14
            have Hhb14 := Lib.hid hb14
            clear m14 hb14 kx14 cx14
            refine planT_one rfl (by rfl) (fun K hK => ?_); go_simp
            refine hK.out _ _ (SW.out _ Hhb14.out) ?_; clear hK K; (try simp only [List.getElem_toArray, List.getElem_cons_succ, List.getElem_cons_zero, Act.put, List.setIfInBounds_toArray, List.set_cons_zero, List.set_cons_succ])
            clear r0 r1 r2 r3 r4 q0 q1 q2 q3 q4 ql
            generalize (((((v13.setCell ⟨d12, 0, none⟩ (.int .i64 k2)).setCell ⟨d12, 1, none⟩ (.string p2)).setCell ⟨d12, 2, none⟩ (.string t2)).setCell ⟨d12, 3, none⟩ (.slice a3 n3 c3)).setCell ⟨d12, 4, none⟩ (.slice a4 n4 c4)) = v14 at *
            have kx14 := Hkx14.out
            have cx14 := Hcx14.out
            have hb14 := Hhb14.out
            clear Hkx14 Hcx14 Hhb14
            refine planT_one rfl (by rfl) (fun K hK => ?_); go_simp
            refine hK.out _ _ (SW.out _ hb14) ?_; clear hK K; (try simp only [List.getElem_toArray, List.getElem_cons_succ, List.getElem_cons_zero, Act.put, List.setIfInBounds_toArray, List.set_cons_zero, List.set_cons_succ])
            refine planT_done ?_
            refine NoPanic.normal ?_
            (try go_wp2)
            go_meet
            case rel => exact ⟨_, _, rfl, rfl, rfl, kx14, cx14, hb14, ge10, ge12⟩
          · skip
            have ax15 := CBox.new v10 24 #[.int .i64 0, .string ⟨#[]⟩, .string ⟨#[]⟩, .slice none 0 0, .slice none 0 0]
            have ge15 := hb10.size
            have cy15_14 := ax10.alloc (.cells #[.int .i64 0, .string ⟨#[]⟩, .string ⟨#[]⟩, .slice none 0 0, .slice none 0 0] 24)
            have ne15 := ax10.lt
            have hb15 := qtrans hb10 (qalloc v10 (.cells #[.int .i64 0, .string ⟨#[]⟩, .string ⟨#[]⟩, .slice none 0 0, .slice none 0 0] 24))
            refine planT_one rfl (by rfl) (fun K hK => ?_); go_simp
            refine hK.out _ _ (SW.out _ hb15) ?_; clear hK K; (try simp only [List.getElem_toArray, List.getElem_cons_succ, List.getElem_cons_zero, Act.put, List.setIfInBounds_toArray, List.set_cons_zero, List.set_cons_succ])
            generalize v10.alloc (.cells #[.int .i64 0, .string ⟨#[]⟩, .string ⟨#[]⟩, .slice none 0 0, .slice none 0 0] 24) = v15 at *
            generalize v10.heap.size = d15 at *
            refine planT_one rfl (by rfl) (fun K hK => ?_); go_simp
            refine (HSC.out _ hb15).mono ?_
            rintro r v16 ⟨rfl, hq16⟩
            (try go_simp)
            have hb16 := qtrans hb15 hq16
            have cy16_14 := cy15_14.below hq16
            have cy16_15 := ax15.below hq16
            refine hK.out _ _ (SW.out _ hb16) ?_; clear hK K; (try simp only [List.getElem_toArray, List.getElem_cons_succ, List.getElem_cons_zero, Act.put, List.setIfInBounds_toArray, List.set_cons_zero, List.set_cons_succ])
            iterate 4 (refine planT_take (v := ?_) rfl (by rfl) ?_ ?_; rotate_left; (focus (intro wq hSw; (try dsimp only at hSw); go_simp; (try rw [if_neg (by first | omega | (simp; omega))]); (try with_reducible rfl))); (try simp only [List.getElem_toArray, List.getElem_cons_succ, List.getElem_cons_zero, Act.put, List.setIfInBounds_toArray, List.set_cons_zero, List.set_cons_succ]))
            have r0 := cy16_14.frozen 0
            have r1 := cy16_14.frozen 1
            have r2 := cy16_14.frozen 2
            have r3 := cy16_14.frozen 3
            have r4 := cy16_14.frozen 4
            have q0 := cy16_14.cell (i := 0) (v := .int .i64 0) rfl
            have q1 := cy16_14.cell (i := 1) (v := .string ⟨#[]⟩) rfl
            have q2 := cy16_14.cell (i := 2) (v := .string ⟨#[]⟩) rfl
            have q3 := cy16_14.cell (i := 3) (v := .slice none 0 0) rfl
            have q4 := cy16_14.cell (i := 4) (v := .slice none 0 0) rfl
            have ql := cy16_14.lt
            have m17 := mod_five v16 d10 (.int .i64 k1) (.string p1) (.string t1) (.slice a1 n1 c1) (.slice a2 n2 c2)
            have kx17 := cy16_15.mod m17 (by simp; omega)
            have cx17 := CBox.five cy16_14 (.int .i64 k1) (.string p1) (.string t1) (.slice a1 n1 c1) (.slice a2 n2 c2)
            have hb17 := hb16.trans (m17.upto hb16.size (by simp; omega))
            have Hkx17 := Lib.hid kx17
            have Hcx17 := Lib.hid cx17
            have Hhb17 := Lib.hid hb17
            clear m17 hb17 kx17 cx17
            refine planT_one rfl (by rfl) (fun K hK => ?_); go_simp
            refine hK.out _ _ (SW.out _ Hhb17.out) ?_; clear hK K; (try simp only [List.getElem_toArray, List.getElem_cons_succ, List.getElem_cons_zero, Act.put, List.setIfInBounds_toArray, List.set_cons_zero, List.set_cons_succ])
            clear r0 r1 r2 r3 r4 q0 q1 q2 q3 q4 ql
            generalize (((((v16.setCell ⟨d10, 0, none⟩ (.int .i64 k1)).setCell ⟨d10, 1, none⟩ (.string p1)).setCell ⟨d10, 2, none⟩ (.string t1)).setCell ⟨d10, 3, none⟩ (.slice a1 n1 c1)).setCell ⟨d10, 4, none⟩ (.slice a2 n2 c2)) = v17 at *
            have kx17 := Hkx17.out
            have cx17 := Hcx17.out
            have hb17 := Hhb17.out
            clear Hkx17 Hcx17 Hhb17
            have r0 := kx17.frozen 0
            have r1 := kx17.frozen 1
            have r2 := kx17.frozen 2
            have r3 := kx17.frozen 3
            have r4 := kx17.frozen 4
            have q0 := kx17.cell (i := 0) (v := .int .i64 0) rfl
            have q1 := kx17.cell (i := 1) (v := .string ⟨#[]⟩) rfl
            have q2 := kx17.cell (i := 2) (v := .string ⟨#[]⟩) rfl
            have q3 := kx17.cell (i := 3) (v := .slice none 0 0) rfl
            have q4 := kx17.cell (i := 4) (v := .slice none 0 0) rfl
            have ql := kx17.lt
            have m18 := mod_five v17 d15 (.int .i64 k2) (.string p2) (.string t2) (.slice a3 n3 c3) (.slice a4 n4 c4)
            have kx18 := cx17.mod m18 (by simp; omega)
            have cx18 := CBox.five kx17 (.int .i64 k2) (.string p2) (.string t2) (.slice a3 n3 c3) (.slice a4 n4 c4)
            have hb18 := hb17.trans (m18.upto hb17.size (by simp; omega))
            have Hkx18 := Lib.hid kx18
            have Hcx18 := Lib.hid cx18
            have Hhb18 := Lib.hid hb18
            clear m18 hb18 kx18 cx18
            refine planT_one rfl (by rfl) (fun K hK => ?_); go_simp
            refine hK.out _ _ (SW.out _ Hhb18.out) ?_; clear hK K; (try simp only [List.getElem_toArray, List.getElem_cons_succ, List.getElem_cons_zero, Act.put, List.setIfInBounds_toArray, List.set_cons_zero, List.set_cons_succ])
            clear r0 r1 r2 r3 r4 q0 q1 q2 q3 q4 ql
            generalize (((((v17.setCell ⟨d15, 0, none⟩ (.int .i64 k2)).setCell ⟨d15, 1, none⟩ (.string p2)).setCell ⟨d15, 2, none⟩ (.string t2)).setCell ⟨d15, 3, none⟩ (.slice a3 n3 c3)).setCell ⟨d15, 4, none⟩ (.slice a4 n4 c4)) = v18 at *
            have kx18 := Hkx18.out
            have cx18 := Hcx18.out
            have hb18 := Hhb18.out
            clear Hkx18 Hcx18 Hhb18
            refine planT_one rfl (by rfl) (fun K hK => ?_); go_simp
            refine hK.out _ _ (SW.out _ hb18) ?_; clear hK K; (try simp only [List.getElem_toArray, List.getElem_cons_succ, List.getElem_cons_zero, Act.put, List.setIfInBounds_toArray, List.set_cons_zero, List.set_cons_succ])
            refine planT_done ?_
            refine NoPanic.normal ?_
            (try go_wp2)
            go_meet
            case rel => exact ⟨_, _, rfl, rfl, rfl, kx18, cx18, hb18, ge10, ge15⟩
        · skip
          have ax19 := CBox.new v0 24 #[.int .i64 0, .string ⟨#[]⟩, .string ⟨#[]⟩, .slice none 0 0, .slice none 0 0]
          have ge19 := hb0.size
          have hb19 := qtrans hb0 (qalloc v0 (.cells #[.int .i64 0, .string ⟨#[]⟩, .string ⟨#[]⟩, .slice none 0 0, .slice none 0 0] 24))
          refine planT_one rfl (by rfl) (fun K hK => ?_); go_simp
          refine hK.out _ _ (SW.out _ hb19) ?_; clear hK K; (try simp only [List.getElem_toArray, List.getElem_cons_succ, List.getElem_cons_zero, Act.put, List.setIfInBounds_toArray, List.set_cons_zero, List.set_cons_succ])
          generalize v0.alloc (.cells #[.int .i64 0, .string ⟨#[]⟩, .string ⟨#[]⟩, .slice none 0 0, .slice none 0 0] 24) = v19 at *
          generalize v0.heap.size = d19 at *
          refine planT_two ?_ ?_
          · skip
            refine planT_one rfl (by rfl) (fun K hK => ?_); go_simp
            refine (HSC.out _ hb19).mono ?_
            rintro r v20 ⟨rfl, hq20⟩
            (try go_simp)
            have hb20 := qtrans hb19 hq20
            have cy20_15 := ax19.below hq20
            refine hK.out _ _ (SW.out _ hb20) ?_; clear hK K; (try simp only [List.getElem_toArray, List.getElem_cons_succ, List.getElem_cons_zero, Act.put, List.setIfInBounds_toArray, List.set_cons_zero, List.set_cons_succ])
            iterate 4 (refine planT_take (v := ?_) rfl (by rfl) ?_ ?_; rotate_left; (focus (intro wq hSw; (try dsimp only at hSw); go_simp; (try rw [if_neg (by first | omega | (simp; omega))]); (try with_reducible rfl))); (try simp only [List.getElem_toArray, List.getElem_cons_succ, List.getElem_cons_zero, Act.put, List.setIfInBounds_toArray, List.set_cons_zero, List.set_cons_succ]))
            have ax21 := CBox.new v20 24 #[.int .i64 0, .string ⟨#[]⟩, .string ⟨#[]⟩, .slice none 0 0, .slice none 0 0]
            have ge21 := hb20.size
            have cy21_15 := cy20_15.alloc (.cells #[.int .i64 0, .string ⟨#[]⟩, .string ⟨#[]⟩, .slice none 0 0, .slice none 0 0] 24)
            have ne21 := cy20_15.lt
            have hb21 := qtrans hb20 (qalloc v20 (.cells #[.int .i64 0, .string ⟨#[]⟩, .string ⟨#[]⟩, .slice none 0 0, .slice none 0 0] 24))
            refine planT_one rfl (by rfl) (fun K hK => ?_); go_simp
            refine hK.out _ _ (SW.out _ hb21) ?_; clear hK K; (try simp only [List.getElem_toArray, List.getElem_cons_succ, List.getElem_cons_zero, Act.put, List.setIfInBounds_toArray, List.set_cons_zero, List.set_cons_succ])
            generalize v20.alloc (.cells #[.int .i64 0, .string ⟨#[]⟩, .string ⟨#[]⟩, .slice none 0 0, .slice none 0 0] 24) = v21 at *
            generalize v20.heap.size = d21 at *
            have r0 := ax21.frozen 0
            have r1 := ax21.frozen 1
            have r2 := ax21.frozen 2
            have r3 := ax21.frozen 3
            have r4 := ax21.frozen 4
            have q0 := ax21.cell (i := 0) (v := .int .i64 0) rfl
            have q1 := ax21.cell (i := 1) (v := .string ⟨#[]⟩) rfl
            have q2 := ax21.cell (i := 2) (v := .string ⟨#[]⟩) rfl
            have q3 := ax21.cell (i := 3) (v := .slice none 0 0) rfl
            have q4 := ax21.cell (i := 4) (v := .slice none 0 0) rfl
            have ql := ax21.lt
            have m22 := mod_five v21 d21 (.int .i64 k1) (.string p1) (.string t1) (.slice a1 n1 c1) (.slice a2 n2 c2)
            have kx22 := cy21_15.mod m22 (by simp; omega)
            have cx22 := CBox.five ax21 (.int .i64 k1) (.string p1) (.string t1) (.slice a1 n1 c1) (.slice a2 n2 c2)
            have hb22 := hb21.trans (m22.upto hb21.size (by simp; omega))
            have Hkx22 := Lib.hid kx22
            have Hcx22 := Lib.hid cx22
            have Hhb22 := Lib.hid hb22
            clear m22 hb22 kx22 cx22
            refine planT_one rfl (by rfl) (fun K hK => ?_); go_simp
            refine hK.out _ _ (SW.out _ Hhb22.out) ?_; clear hK K; (try simp only [List.getElem_toArray, List.getElem_cons_succ, List.getElem_cons_zero, Act.put, List.setIfInBounds_toArray, List.set_cons_zero, List.set_cons_succ])
            clear r0 r1 r2 r3 r4 q0 q1 q2 q3 q4 ql
            generalize (((((v21.setCell ⟨d21, 0, none⟩ (.int .i64 k1)).setCell ⟨d21, 1, none⟩ (.string p1)).setCell ⟨d21, 2, none⟩ (.string t1)).setCell ⟨d21, 3, none⟩ (.slice a1 n1 c1)).setCell ⟨d21, 4, none⟩ (.slice a2 n2 c2)) = v22 at *
            have kx22 := Hkx22.out
            have cx22 := Hcx22.out
            have hb22 := Hhb22.out
            clear Hkx22 Hcx22 Hhb22
            have r0 := kx22.frozen 0
            have r1 := kx22.frozen 1
            have r2 := kx22.frozen 2
            have r3 := kx22.frozen 3
            have r4 := kx22.frozen 4
            have q0 := kx22.cell (i := 0) (v := .int .i64 0) rfl
            have q1 := kx22.cell (i := 1) (v := .string ⟨#[]⟩) rfl
            have q2 := kx22.cell (i := 2) (v := .string ⟨#[]⟩) rfl
            have q3 := kx22.cell (i := 3) (v := .slice none 0 0) rfl
            have q4 := kx22.cell (i := 4) (v := .slice none 0 0) rfl
            have ql := kx22.lt
            have m23 := mod_five v22 d19 (.int .i64 k2) (.string p2) (.string t2) (.slice a3 n3 c3) (.slice a4 n4 c4)
            have kx23 := cx22.mod m23 (by simp; omega)
            have cx23 := CBox.five kx22 (.int .i64 k2) (.string p2) (.string t2) (.slice a3 n3 c3) (.slice a4 n4 c4)
            have hb23 := hb22.trans (m23.upto hb22.size (by simp; omega))
            have Hkx23 := Lib.hid kx23
            have Hcx23 := Lib.hid cx23
            have Hhb23 := Lib.hid hb23
            clear m23 hb23 kx23 cx23
            refine planT_one rfl (by rfl) (fun K hK => ?_); go_simp
            refine hK.out _ _ (SW.out _ Hhb23.out) ?_; clear hK K; (try simp only [List.getElem_toArray, List.getElem_cons_succ, List.getElem_cons_zero, Act.put, List.setIfInBounds_toArray, List.set_cons_zero, List.set_cons_succ])
            clear r0 r1 r2 r3 r4 q0 q1 q2 q3 q4 ql
            generalize (((((v22.setCell ⟨d19, 0, none⟩ (.int .i64 k2)).setCell ⟨d19, 1, none⟩ (.string p2)).setCell ⟨d19, 2, none⟩ (.string t2)).setCell ⟨d19, 3, none⟩ (.slice a3 n3 c3)).setCell ⟨d19, 4, none⟩ (.slice a4 n4 c4)) = v23 at *
            have kx23 := Hkx23.out
            have cx23 := Hcx23.out
            have hb23 := Hhb23.out
            clear Hkx23 Hcx23 Hhb23
            refine planT_one rfl (by rfl) (fun K hK => ?_); go_simp
            refine hK.out _ _ (SW.out _ hb23) ?_; clear hK K; (try simp only [List.getElem_toArray, List.getElem_cons_succ, List.getElem_cons_zero, Act.put, List.setIfInBounds_toArray, List.set_cons_zero, List.set_cons_succ])
            refine planT_done ?_
            refine NoPanic.normal ?_
            (try go_wp2)
            go_meet
            case rel => exact ⟨_, _, rfl, rfl, rfl, kx23, cx23, hb23, ge21, ge19⟩
          · skip
            have ax24 := CBox.new v19 24 #[.int .i64 0, .string ⟨#[]⟩, .string ⟨#[]⟩, .slice none 0 0, .slice none 0 0]
            have ge24 := hb19.size
            have cy24_15 := ax19.alloc (.cells #[.int .i64 0, .string ⟨#[]⟩, .string ⟨#[]⟩, .slice none 0 0, .slice none 0 0] 24)
            have ne24 := ax19.lt
            have hb24 := qtrans hb19 (qalloc v19 (.cells #[.int .i64 0, .string ⟨#[]⟩, .string ⟨#[]⟩, .slice none 0 0, .slice none 0 0] 24))
            refine planT_one rfl (by rfl) (fun K hK => ?_); go_simp
            refine hK.out _ _ (SW.out _ hb24) ?_; clear hK K; (try simp only [List.getElem_toArray, List.getElem_cons_succ, List.getElem_cons_zero, Act.put, List.setIfInBounds_toArray, List.set_cons_zero, List.set_cons_succ])
            generalize v19.alloc (.cells #[.int .i64 0, .string ⟨#[]⟩, .string ⟨#[]⟩, .slice none 0 0, .slice none 0 0] 24) = v24 at *
            generalize v19.heap.size = d24 at *
            refine planT_one rfl (by rfl) (fun K hK => ?_); go_simp
            refine (HSC.out _ hb24).mono ?_
            rintro r v25 ⟨rfl, hq25⟩
            (try go_simp)
            have hb25 := qtrans hb24 hq25
            have cy25_15 := cy24_15.below hq25
            have cy25_14 := ax24.below hq25
            refine hK.out _ _ (SW.out _ hb25) ?_; clear hK K; (try simp only [List.getElem_toArray, List.getElem_cons_succ, List.getElem_cons_zero, Act.put, List.setIfInBounds_toArray, List.set_cons_zero, List.set_cons_succ])
            iterate 4 (refine planT_take (v := ?_) rfl (by rfl) ?_ ?_; rotate_left; (focus (intro wq hSw; (try dsimp only at hSw); go_simp; (try rw [if_neg (by first | omega | (simp; omega))]); (try with_reducible rfl))); (try simp only [List.getElem_toArray, List.getElem_cons_succ, List.getElem_cons_zero, Act.put, List.setIfInBounds_toArray, List.set_cons_zero, List.set_cons_succ]))
            have r0 := cy25_14.frozen 0
            have r1 := cy25_14.frozen 1
            have r2 := cy25_14.frozen 2
            have r3 := cy25_14.frozen 3
            have r4 := cy25_14.frozen 4
            have q0 := cy25_14.cell (i := 0) (v := .int .i64 0) rfl
            have q1 := cy25_14.cell (i := 1) (v := .string ⟨#[]⟩) rfl
            have q2 := cy25_14.cell (i := 2) (v := .string ⟨#[]⟩) rfl
            have q3 := cy25_14.cell (i := 3) (v := .slice none 0 0) rfl
            have q4 := cy25_14.cell (i := 4) (v := .slice none 0 0) rfl
            have ql := cy25_14.lt
            have m26 := mod_five v25 d24 (.int .i64 k1) (.string p1) (.string t1) (.slice a1 n1 c1) (.slice a2 n2 c2)
            have kx26 := cy25_15.mod m26 (by simp; omega)
            have cx26 := CBox.five cy25_14 (.int .i64 k1) (.string p1) (.string t1) (.slice a1 n1 c1) (.slice a2 n2 c2)
            have hb26 := hb25.trans (m26.upto hb25.size (by simp; omega))
            have Hkx26 := Lib.hid kx26
            have Hcx26 := Lib.hid cx26
            have Hhb26 := Lib.hid hb26
            clear m26 hb26 kx26 cx26
            refine planT_one rfl (by rfl) (fun K hK => ?_); go_simp
            refine hK.out _ _ (SW.out _ Hhb26.out) ?_; clear hK K; (try simp only [List.getElem_toArray, List.getElem_cons_succ, List.getElem_cons_zero, Act.put, List.setIfInBounds_toArray, List.set_cons_zero, List.set_cons_succ])
            clear r0 r1 r2 r3 r4 q0 q1 q2 q3 q4 ql
            generalize (((((v25.setCell ⟨d24, 0, none⟩ (.int .i64 k1)).setCell ⟨d24, 1, none⟩ (.string p1)).setCell ⟨d24, 2, none⟩ (.string t1)).setCell ⟨d24, 3, none⟩ (.slice a1 n1 c1)).setCell ⟨d24, 4, none⟩ (.slice a2 n2 c2)) = v26 at *
            have kx26 := Hkx26.out
            have cx26 := Hcx26.out
            have hb26 := Hhb26.out
            clear Hkx26 Hcx26 Hhb26
            have r0 := kx26.frozen 0
            have r1 := kx26.frozen 1
            have r2 := kx26.frozen 2
            have r3 := kx26.frozen 3
            have r4 := kx26.frozen 4
            have q0 := kx26.cell (i := 0) (v := .int .i64 0) rfl
            have q1 := kx26.cell (i := 1) (v := .string ⟨#[]⟩) rfl
            have q2 := kx26.cell (i := 2) (v := .string ⟨#[]⟩) rfl
            have q3 := kx26.cell (i := 3) (v := .slice none 0 0) rfl
            have q4 := kx26.cell (i := 4) (v := .slice none 0 0) rfl
            have ql := kx26.lt
            have m27 := mod_five v26 d19 (.int .i64 k2) (.string p2) (.string t2) (.slice a3 n3 c3) (.slice a4 n4 c4)
            have kx27 := cx26.mod m27 (by simp; omega)
            have cx27 := CBox.five kx26 (.int .i64 k2) (.string p2) (.string t2) (.slice a3 n3 c3) (.slice a4 n4 c4)
            have hb27 := hb26.trans (m27.upto hb26.size (by simp; omega))
            have Hkx27 := Lib.hid kx27
            have Hcx27 := Lib.hid cx27
            have Hhb27 := Lib.hid hb27
            clear m27 hb27 kx27 cx27
            refine planT_one rfl (by rfl) (fun K hK => ?_); go_simp
            refine hK.out _ _ (SW.out _ Hhb27.out) ?_; clear hK K; (try simp only [List.getElem_toArray, List.getElem_cons_succ, List.getElem_cons_zero, Act.put, List.setIfInBounds_toArray, List.set_cons_zero, List.set_cons_succ])
            clear r0 r1 r2 r3 r4 q0 q1 q2 q3 q4 ql
            generalize (((((v26.setCell ⟨d19, 0, none⟩ (.int .i64 k2)).setCell ⟨d19, 1, none⟩ (.string p2)).setCell ⟨d19, 2, none⟩ (.string t2)).setCell ⟨d19, 3, none⟩ (.slice a3 n3 c3)).setCell ⟨d19, 4, none⟩ (.slice a4 n4 c4)) = v27 at *
            have kx27 := Hkx27.out
            have cx27 := Hcx27.out
            have hb27 := Hhb27.out
            clear Hkx27 Hcx27 Hhb27
            refine planT_one rfl (by rfl) (fun K hK => ?_); go_simp
            refine hK.out _ _ (SW.out _ hb27) ?_; clear hK K; (try simp only [List.getElem_toArray, List.getElem_cons_succ, List.getElem_cons_zero, Act.put, List.setIfInBounds_toArray, List.set_cons_zero, List.set_cons_succ])
            refine planT_done ?_
            refine NoPanic.normal ?_
            (try go_wp2)
            go_meet
            case rel => exact ⟨_, _, rfl, rfl, rfl, kx27, cx27, hb27, ge24, ge19⟩
      case rest =>
      obtain ⟨D1, D2, rfl, rfl, rfl, d1, d2, hb4, hg1, hg2⟩ := hcut
      have hn1 : ¬ D1 = g := by have := HGL.out; omega
      have hn2 : ¬ D2 = g := by have := HGL.out; omega
      have hn3 : ¬ g = D1 := by omega
      have hn4 : ¬ g = D2 := by omega
      clear hg1 hg2
      generalize wc = w4 at *
      have HB4 := Lib.hid (HB.out.trans (hb4.mono HB.out.size))
      have hx4 := SW.out _ hb4
      clear SW HSC hb0
      have HO4 := Lib.hid (owns_modB (X := []) HO.out (Mod.of hb4) (by simp))
      clear hb4 HO
      cases sb with
      | false =>
        have HF : Hid (T = none) := by show _ = _; rw [HT2.out, if_neg (by simp)]
        clear d1 d2 hx4
        go_wp2
        go_returns
        exact ⟨none, 0, by rw [HF.out]; rfl, by rw [HF.out]; exact Reads.nilRow _ _ _ _, HB4.out⟩
      | true =>
        have hinj := HSH.out
        rw [show swapV e f ao co af cf bo do' bf df = .tuple #[editV f bo do' bf df, editV e ao co af cf, .bool true] from by unfold swapV; rw [HSB.out]; rfl] at hinj
        simp only [editV, Value.tuple.injEq, Array.mk.injEq, List.cons.injEq, Value.agg.injEq, Value.int.injEq, Value.string.injEq, Value.slice.injEq, true_and, and_true] at hinj
        obtain ⟨⟨rfl, rfl, rfl, ⟨rfl, rfl, rfl⟩, ⟨rfl, rfl, rfl⟩⟩, ⟨rfl, rfl, rfl, ⟨rfl, rfl, rfl⟩, ⟨rfl, rfl, rfl⟩⟩⟩ := hinj
        have HTN : Hid (T = mv ln (k + 1) tN) := by show _ = _; rw [HT2.out, if_pos rfl]
        obtain ⟨x0, x1, x2, x3, x4, x5, x6, x7, x8, x9, hgl⟩ := hx4
        have z0 := owns_frozen HO4.out (by omega) (k * 5)
        have z1 := owns_frozen HO4.out (by omega) (k * 5 + 1)
        have z2 := owns_frozen HO4.out (by omega) (k * 5 + 2)
        have z3 := owns_frozen HO4.out (by omega) (k * 5 + 3)
        have z4 := owns_frozen HO4.out (by omega) (k * 5 + 4)
        have z5 := owns_frozen HO4.out (by omega) ((k + 1) * 5)
        have z6 := owns_frozen HO4.out (by omega) ((k + 1) * 5 + 1)
        have z7 := owns_frozen HO4.out (by omega) ((k + 1) * 5 + 2)
        have z8 := owns_frozen HO4.out (by omega) ((k + 1) * 5 + 3)
        have z9 := owns_frozen HO4.out (by omega) ((k + 1) * 5 + 4)
        have y0 := d1.cell (i := 0) (v := .int .i64 f.kind) rfl
        have u0 := d2.cell (i := 0) (v := .int .i64 e.kind) rfl
        have y1 := d1.cell (i := 1) (v := .string f.pack) rfl
        have u1 := d2.cell (i := 1) (v := .string e.pack) rfl
        have y2 := d1.cell (i := 2) (v := .string f.text) rfl
        have u2 := d2.cell (i := 2) (v := .string e.text) rfl
        have y3 := d1.cell (i := 3) (v := .slice bo f.old.length do') rfl
        have u3 := d2.cell (i := 3) (v := .slice ao e.old.length co) rfl
        have y4 := d1.cell (i := 4) (v := .slice bf f.fresh.length df) rfl
        have u4 := d2.cell (i := 4) (v := .slice af e.fresh.length cf) rfl
        have yl := d1.lt
        have ul := d2.lt
        clear d1 d2 HSH HSB
        go_upto_region 11 with (fail)
        go_cut [] from 34 to 72 (fun wx => wx.ownsRow w.heap.size 24 5 (.slice (some ⟨g, 0, none⟩) l.length vc) l.length (A ++ (edC f bo do' bf df ++ (edC e ao co af cf ++ Bs))) ∧ Below w.heap.size w wx)
        case first =>
          go_region
          all_goals (go_wp2_with (fail))
          all_goals go_meet
          all_goals (
            have q := HO4.out
            rw [HXS.out] at q
            unfold edC at q
            obtain ⟨q1, q2⟩ := owns_ten q (by omega) (k * 5) ((k + 1) * 5) (by have := HAL.out; omega) (by have := HAL.out; omega) (.int .i64 f.kind) (.string f.pack) (.string f.text) (.slice bo f.old.length do') (.slice bf f.fresh.length df) (.int .i64 e.kind) (.string e.pack) (.string e.text) (.slice ao e.old.length co) (.slice af e.fresh.length cf)
            exact ⟨q1, HB4.out.trans (q2.upto HB4.out.size (by have := HGB.out; intro q hq; simp at hq; omega))⟩)
        case rest =>
        obtain ⟨hown5, hb5⟩ := hcut
        generalize wc = w5 at *
        have HO5 := Lib.hid hown5
        have HB5 := Lib.hid hb5
        clear hown5 hb5 HO4 HB4 x0 z0 x1 z1 x2 z2 x3 z3 x4 z4 x5 z5 x6 z6 x7 z7 x8 z8 x9 z9 y0 u0 y1 u1 y2 u2 y3 u3 y4 u4 yl ul
        go_wp2
        go_roundw
        case rel => exact ⟨(k + 1), ln, _, by omega, rfl, HLN, HSN, HTN, HO5, HSW2, HB5⟩
        case measure => first | (simp [intOf]; done) | (simp [intOf]; omega)
    · obtain ⟨p, hpk⟩ : ∃ p, k = p + 1 := ⟨k - 1, by omega⟩
      have q6 : decide ((tN : Int) < (k : Int)) = true := decide_eq_true (by omega)
      have hpn : p + 1 < l.length := by omega
      have HT2 : Hid (T = if swapB (eAt lk p) (eAt lk (p + 1)) then mv (swapAt lk p) p tN else none) := by
        show _ = _
        rw [HT.out, hpk, mv_down (by omega)]
        rfl
      have HPK := Lib.hid hpk
      clear HT hpk
      obtain ⟨A, Bs, ao, co, af, cf, bo, do', bf, df, hxs, hA, he6, hf6, hsw⟩ := two_edits HR.out (k := p) (by rw [HLK.out]; exact hpn)
      have hse := HSK.out _ (eAt_mem (l := lk) (k := p) (by rw [HLK.out]; omega))
      have hsf := HSK.out _ (eAt_mem (l := lk) (k := p + 1) (by rw [HLK.out]; omega))
      have HSN := Lib.hid (mem_swapAt (P := SmE) (k := p) (by rw [HLK.out]; exact hpn) HSK.out)
      have HLN : Hid ((swapAt lk p).length = l.length) := by show _ = _; rw [swapAt_len, HLK.out]
      have HSW2 := Lib.hid hsw
      have HXS := Lib.hid hxs
      have HAL := Lib.hid hA
      clear hsw hxs hA HR HSK HLK
      generalize eAt lk p = e at *
      generalize eAt lk (p + 1) = f at *
      generalize swapAt lk p = ln at *
      have hie : EditIn w e ao co af cf := ⟨he6.1, he6.2.1, he6.2.2.1, he6.2.2.2.1, he6.2.2.2.2.1, he6.2.2.2.2.2⟩
      have hif : EditIn w f bo do' bf df := ⟨hf6.1, hf6.2.1, hf6.2.2.1, hf6.2.2.2.1, hf6.2.2.2.2.1, hf6.2.2.2.2.2⟩
      obtain ⟨k1, p1, t1, a1, n1, c1, a2, n2, c2, k2, p2, t2, a3, n3, c3, a4, n4, c4, hs1⟩ := swap_shape e f ao co af cf bo do' bf df
      have HSH := Lib.hid hs1
      have HSC := Lib.hid (fun W (h : Below wr.heap.size wr W) => cSwap_any e f ao co af cf bo do' bf df W (hie.below (HB.out.trans (h.mono HB.out.size))) (hif.below (HB.out.trans (h.mono HB.out.size))) hse hsf)
      rw [hs1] at HSC
      clear hs1 he6 hf6 hie hif hse hsf
      unfold editV at HSC
      obtain ⟨g', cur', hgg, hcell, -, hglt, hfz, -⟩ := owns_cells HO.out (by omega)
      injection hgg with hgg
      injection hgg with hgg
      subst hgg
      have x0 : wr.cell? ⟨g, (k - 1) * 5, none⟩ = some (.int .i64 e.kind) := hcell _ _ (by rw [HXS.out]; exact (get10 A Bs ((k - 1) * 5) (k * 5) (by have := HAL.out; have := HPK.out; omega) (by have := HAL.out; have := HPK.out; omega) _ _ _ _ _ _ _ _ _ _).1)
      have x1 : wr.cell? ⟨g, (k - 1) * 5 + 1, none⟩ = some (.string e.pack) := hcell _ _ (by rw [HXS.out]; exact (get10 A Bs ((k - 1) * 5) (k * 5) (by have := HAL.out; have := HPK.out; omega) (by have := HAL.out; have := HPK.out; omega) _ _ _ _ _ _ _ _ _ _).2.1)
      have x2 : wr.cell? ⟨g, (k - 1) * 5 + 2, none⟩ = some (.string e.text) := hcell _ _ (by rw [HXS.out]; exact (get10 A Bs ((k - 1) * 5) (k * 5) (by have := HAL.out; have := HPK.out; omega) (by have := HAL.out; have := HPK.out; omega) _ _ _ _ _ _ _ _ _ _).2.2.1)
      have x3 : wr.cell? ⟨g, (k - 1) * 5 + 3, none⟩ = some (.slice ao e.old.length co) := hcell _ _ (by rw [HXS.out]; exact (get10 A Bs ((k - 1) * 5) (k * 5) (by have := HAL.out; have := HPK.out; omega) (by have := HAL.out; have := HPK.out; omega) _ _ _ _ _ _ _ _ _ _).2.2.2.1)
      have x4 : wr.cell? ⟨g, (k - 1) * 5 + 4, none⟩ = some (.slice af e.fresh.length cf) := hcell _ _ (by rw [HXS.out]; exact (get10 A Bs ((k - 1) * 5) (k * 5) (by have := HAL.out; have := HPK.out; omega) (by have := HAL.out; have := HPK.out; omega) _ _ _ _ _ _ _ _ _ _).2.2.2.2.1)
      have x5 : wr.cell? ⟨g, k * 5, none⟩ = some (.int .i64 f.kind) := hcell _ _ (by rw [HXS.out]; exact (get10 A Bs ((k - 1) * 5) (k * 5) (by have := HAL.out; have := HPK.out; omega) (by have := HAL.out; have := HPK.out; omega) _ _ _ _ _ _ _ _ _ _).2.2.2.2.2.1)
      have x6 : wr.cell? ⟨g, k * 5 + 1, none⟩ = some (.string f.pack) := hcell _ _ (by rw [HXS.out]; exact (get10 A Bs ((k - 1) * 5) (k * 5) (by have := HAL.out; have := HPK.out; omega) (by have := HAL.out; have := HPK.out; omega) _ _ _ _ _ _ _ _ _ _).2.2.2.2.2.2.1)
      have x7 : wr.cell? ⟨g, k * 5 + 2, none⟩ = some (.string f.text) := hcell _ _ (by rw [HXS.out]; exact (get10 A Bs ((k - 1) * 5) (k * 5) (by have := HAL.out; have := HPK.out; omega) (by have := HAL.out; have := HPK.out; omega) _ _ _ _ _ _ _ _ _ _).2.2.2.2.2.2.2.1)
      have x8 : wr.cell? ⟨g, k * 5 + 3, none⟩ = some (.slice bo f.old.length do') := hcell _ _ (by rw [HXS.out]; exact (get10 A Bs ((k - 1) * 5) (k * 5) (by have := HAL.out; have := HPK.out; omega) (by have := HAL.out; have := HPK.out; omega) _ _ _ _ _ _ _ _ _ _).2.2.2.2.2.2.2.2.1)
      have x9 : wr.cell? ⟨g, k * 5 + 4, none⟩ = some (.slice bf f.fresh.length df) := hcell _ _ (by rw [HXS.out]; exact (get10 A Bs ((k - 1) * 5) (k * 5) (by have := HAL.out; have := HPK.out; omega) (by have := HAL.out; have := HPK.out; omega) _ _ _ _ _ _ _ _ _ _).2.2.2.2.2.2.2.2.2)
      have hI1 : (1 : Int) ≤ (k : Int) := by have := HPK.out; omega
      have hI0 : (k : Int) - 1 < (l.length : Int) := by omega
      have hI2 : ((k : Int) - 1).toNat = k - 1 := by omega
      have hI3 : IntKind.i64.wrap (k : Int) = (k : Int) := by rw [IntKind.wrap_i64]; omega
      have hI4 : IntKind.i64.wrap ((k : Int) - 1 + 1) = (k : Int) := by rw [IntKind.wrap_i64]; omega
      have SW : Hid (∀ W : World, Below wr.heap.size wr W → (W.cell? ⟨g, (k - 1) * 5, none⟩ = some (.int .i64 e.kind) ∧ W.cell? ⟨g, (k - 1) * 5 + 1, none⟩ = some (.string e.pack) ∧ W.cell? ⟨g, (k - 1) * 5 + 2, none⟩ = some (.string e.text) ∧ W.cell? ⟨g, (k - 1) * 5 + 3, none⟩ = some (.slice ao e.old.length co) ∧ W.cell? ⟨g, (k - 1) * 5 + 4, none⟩ = some (.slice af e.fresh.length cf) ∧ W.cell? ⟨g, k * 5, none⟩ = some (.int .i64 f.kind) ∧ W.cell? ⟨g, k * 5 + 1, none⟩ = some (.string f.pack) ∧ W.cell? ⟨g, k * 5 + 2, none⟩ = some (.string f.text) ∧ W.cell? ⟨g, k * 5 + 3, none⟩ = some (.slice bo f.old.length do') ∧ W.cell? ⟨g, k * 5 + 4, none⟩ = some (.slice bf f.fresh.length df) ∧ g < W.heap.size)) := Lib.hid (fun W hW => ⟨(hW.cell (p := ⟨g, _, none⟩) hglt).trans x0, (hW.cell (p := ⟨g, _, none⟩) hglt).trans x1, (hW.cell (p := ⟨g, _, none⟩) hglt).trans x2, (hW.cell (p := ⟨g, _, none⟩) hglt).trans x3, (hW.cell (p := ⟨g, _, none⟩) hglt).trans x4, (hW.cell (p := ⟨g, _, none⟩) hglt).trans x5, (hW.cell (p := ⟨g, _, none⟩) hglt).trans x6, (hW.cell (p := ⟨g, _, none⟩) hglt).trans x7, (hW.cell (p := ⟨g, _, none⟩) hglt).trans x8, (hW.cell (p := ⟨g, _, none⟩) hglt).trans x9, Nat.lt_of_lt_of_le hglt hW.size⟩)
      have hb0 : Below wr.heap.size wr wr.drew := (Mod.refl [] wr).drew.below
      clear x0 x1 x2 x3 x4 x5 x6 x7 x8 x9 hcell hfz
      have HGL := Lib.hid hglt
      clear hglt
      generalize hsb : swapB e f = sb at *
      have HSB := Lib.hid hsb
      clear hsb
      go_upto_region 8 with (fail)
      go_cut [11, 12, 13] from 34 to 72 (fun p q v wx => ∃ D1 D2, p = .pointer (some ⟨D1, 0, none⟩) ∧ q = .pointer (some ⟨D2, 0, none⟩) ∧ v = .bool sb ∧ CBox wx D1 24 #[.int .i64 k1, .string p1, .string t1, .slice a1 n1 c1, .slice a2 n2 c2] ∧ CBox wx D2 24 #[.int .i64 k2, .string p2, .string t2, .slice a3 n3 c3, .slice a4 n4 c4] ∧ Below wr.heap.size wr wx ∧ wr.heap.size ≤ D1 ∧ wr.heap.size ≤ D2)
      case first =>
        refine wp_region_noPanic (region_planT (fun W : World => W.cell? ⟨g, (k - 1) * 5, none⟩ = some (.int .i64 e.kind) ∧ W.cell? ⟨g, (k - 1) * 5 + 1, none⟩ = some (.string e.pack) ∧ W.cell? ⟨g, (k - 1) * 5 + 2, none⟩ = some (.string e.text) ∧ W.cell? ⟨g, (k - 1) * 5 + 3, none⟩ = some (.slice ao e.old.length co) ∧ W.cell? ⟨g, (k - 1) * 5 + 4, none⟩ = some (.slice af e.fresh.length cf) ∧ W.cell? ⟨g, k * 5, none⟩ = some (.int .i64 f.kind) ∧ W.cell? ⟨g, k * 5 + 1, none⟩ = some (.string f.pack) ∧ W.cell? ⟨g, k * 5 + 2, none⟩ = some (.string f.text) ∧ W.cell? ⟨g, k * 5 + 3, none⟩ = some (.slice bo f.old.length do') ∧ W.cell? ⟨g, k * 5 + 4, none⟩ = some (.slice bf f.fresh.length df) ∧ g < W.heap.size) (.take 0 (.take 1 (.take 2 (.take 3 (.take 4 (.take 5 (.take 6 (.take 7 (.take 8 (.three 9 14 15 (.take 10 (.take 11 (.take 12 (.take 13 (.two 14 15 (.one 15 (.one 16 (.one 17 (.one 18 .done)))) (.one 14 (.one 16 (.one 17 (.one 18 .done))))))))) (.two 9 15 (.take 10 (.take 11 (.take 12 (.take 13 (.one 15 (.one 16 (.one 17 (.one 18 .done)))))))) (.one 9 (.take 10 (.take 11 (.take 12 (.take 13 (.one 16 (.one 17 (.one 18 .done))))))))) (.two 9 14 (.take 10 (.take 11 (.take 12 (.take 13 (.one 14 (.one 16 (.one 17 (.one 18 .done)))))))) (.one 9 (.take 10 (.take 11 (.take 12 (.take 13 (.one 16 (.one 17 (.one 18 .done))))))))))))))))))) mixedK (by kernel_rfl) (fun _ _ _ _ _ h => h) (SW.out _ hb0) ?_)
        iterate 9 (refine planT_take (v := ?_) rfl (by rfl) ?_ ?_; rotate_left; (focus (intro wq hSw; (try dsimp only at hSw); go_simp; (try rw [if_neg (by first | omega | (simp; omega))]); (try with_reducible rfl))); (try simp only [List.getElem_toArray, List.getElem_cons_succ, List.getElem_cons_zero, Act.put, List.setIfInBounds_toArray, List.set_cons_zero, List.set_cons_succ]))
        generalize wr.drew = v0 at *
        refine planT_three ?_ ?_ ?_
        · skip
          refine planT_one rfl (by rfl) (fun K hK => ?_); go_simp
          refine (HSC.out _ hb0).mono ?_
          rintro r v28 ⟨rfl, hq28⟩
          (try go_simp)
          have hb28 := qtrans hb0 hq28
          refine hK.out _ _ (SW.out _ hb28) ?_; clear hK K; (try simp only [List.getElem_toArray, List.getElem_cons_succ, List.getElem_cons_zero, Act.put, List.setIfInBounds_toArray, List.set_cons_zero, List.set_cons_succ])
          iterate 4 (refine planT_take (v := ?_) rfl (by rfl) ?_ ?_; rotate_left; (focus (intro wq hSw; (try dsimp only at hSw); go_simp; (try rw [if_neg (by first | omega | (simp; omega))]); (try with_reducible rfl))); (try simp only [List.getElem_toArray, List.getElem_cons_succ, List.getElem_cons_zero, Act.put, List.setIfInBounds_toArray, List.set_cons_zero, List.set_cons_succ]))
          refine planT_two ?_ ?_
          · skip
            have ax29 := CBox.new v28 24 #[.int .i64 0, .string ⟨#[]⟩, .string ⟨#[]⟩, .slice none 0 0, .slice none 0 0]
            have ge29 := hb28.size
            have hb29 := qtrans hb28 (qalloc v28 (.cells #[.int .i64 0, .string ⟨#[]⟩, .string ⟨#[]⟩, .slice none 0 0, .slice none 0 0] 24))
            refine planT_one rfl (by rfl) (fun K hK => ?_); go_simp
            refine hK.out _ _ (SW.out _ hb29) ?_; clear hK K; (try simp only [List.getElem_toArray, List.getElem_cons_succ, List.getElem_cons_zero, Act.put, List.setIfInBounds_toArray, List.set_cons_zero, List.set_cons_succ])
            generalize v28.alloc (.cells #[.int .i64 0, .string ⟨#[]⟩, .string ⟨#[]⟩, .slice none 0 0, .slice none 0 0] 24) = v29 at *
            generalize v28.heap.size = d29 at *
            have ax30 := CBox.new v29 24 #[.int .i64 0, .string ⟨#[]⟩, .string ⟨#[]⟩, .slice none 0 0, .slice none 0 0]
            have ge30 := hb29.size
            have cy30_14 := ax29.alloc (.cells #[.int .i64 0, .string ⟨#[]⟩, .string ⟨#[]⟩, .slice none 0 0, .slice none 0 0] 24)
            have ne30 := ax29.lt
            have hb30 := qtrans hb29 (qalloc v29 (.cells #[.int .i64 0, .string ⟨#[]⟩, .string ⟨#[]⟩, .slice none 0 0, .slice none 0 0] 24))
            refine planT_one rfl (by rfl) (fun K hK => ?_); go_simp
            refine hK.out _ _ (SW.out _ hb30) ?_; clear hK K; (try simp only [List.getElem_toArray, List.getElem_cons_succ, List.getElem_cons_zero, Act.put, List.setIfInBounds_toArray, List.set_cons_zero, List.set_cons_succ])
            generalize v29.alloc (.cells #[.int .i64 0, .string ⟨#[]⟩, .string ⟨#[]⟩, .slice none 0 0, .slice none 0 0] 24) = v30 at *
            generalize v29.heap.size = d30 at *
            have r0 := cy30_14.frozen 0
            have r1 := cy30_14.frozen 1
            have r2 := cy30_14.frozen 2
            have r3 := cy30_14.frozen 3
            have r4 := cy30_14.frozen 4
            have q0 := cy30_14.cell (i := 0) (v := .int .i64 0) rfl
            have q1 := cy30_14.cell (i := 1) (v := .string ⟨#[]⟩) rfl
            have q2 := cy30_14.cell (i := 2) (v := .string ⟨#[]⟩) rfl
            have q3 := cy30_14.cell (i := 3) (v := .slice none 0 0) rfl
            have q4 := cy30_14.cell (i := 4) (v := .slice none 0 0) rfl
            have ql := cy30_14.lt
            have m31 := mod_five v30 d29 (.int .i64 k1) (.string p1) (.string t1) (.slice a1 n1 c1) (.slice a2 n2 c2)
            have kx31 := ax30.mod m31 (by simp; omega)
            have cx31 := CBox.five cy30_14 (.int .i64 k1) (.string p1) (.string t1) (.slice a1 n1 c1) (.slice a2 n2 c2)
            have hb31 := hb30.trans (m31.upto hb30.size (by simp; omega))
            have Hkx31 := Lib.hid kx31
            have Hcx31 := Lib.hid cx31
            have Hhb31 := Lib.hid hb31
            clear m31 hb31 kx31 cx31
            refine planT_one rfl (by rfl) (fun K hK => ?_); go_simp
            refine hK.out _ _ (SW.out _ Hhb31.out) ?_; clear hK K; (try simp only [List.getElem_toArray, List.getElem_cons_succ, List.getElem_cons_zero, Act.put, List.setIfInBounds_toArray, List.set_cons_zero, List.set_cons_succ])
            clear r0 r1 r2 r3 r4 q0 q1 q2 q3 q4 ql
            generalize (((((v30.setCell ⟨d29, 0, none⟩ (.int .i64 k1)).setCell ⟨d29, 1, none⟩ (.string p1)).setCell ⟨d29, 2, none⟩ (.string t1)).setCell ⟨d29, 3, none⟩ (.slice a1 n1 c1)).setCell ⟨d29, 4, none⟩ (.slice a2 n2 c2)) = v31 at *
            have kx31 := Hkx31.out
            have cx31 := Hcx31.out
            have hb31 := Hhb31.out
            clear Hkx31 Hcx31 Hhb31
            have r0 := kx31.frozen 0
            have r1 := kx31.frozen 1
            have r2 := kx31.frozen 2
            have r3 := kx31.frozen 3
            have r4 := kx31.frozen 4
            have q0 := kx31.cell (i := 0) (v := .int .i64 0) rfl
            have q1 := kx31.cell (i := 1) (v := .string ⟨#[]⟩) rfl
            have q2 := kx31.cell (i := 2) (v := .string ⟨#[]⟩) rfl
            have q3 := kx31.cell (i := 3) (v := .slice none 0 0) rfl
            have q4 := kx31.cell (i := 4) (v := .slice none 0 0) rfl
            have ql := kx31.lt
            have m32 := mod_five v31 d30 (.int .i64 k2) (.string p2) (.string t2) (.slice a3 n3 c3) (.slice a4 n4 c4)
            have kx32 := cx31.mod m32 (by simp; omega)
            have cx32 := CBox.five kx31 (.int .i64 k2) (.string p2) (.string t2) (.slice a3 n3 c3) (.slice a4 n4 c4)
            have hb32 := hb31.trans (m32.upto hb31.size (by simp; omega))
            have Hkx32 := Lib.hid kx32
            have Hcx32 := Lib.hid cx32
            have Hhb32 := Lib.hid hb32
            clear m32 hb32 kx32 cx32
            refine planT_one rfl (by rfl) (fun K hK => ?_); go_simp
            refine hK.out _ _ (SW.out _ Hhb32.out) ?_; clear hK K; (try simp only [List.getElem_toArray, List.getElem_cons_succ, List.getElem_cons_zero, Act.put, List.setIfInBounds_toArray, List.set_cons_zero, List.set_cons_succ])
            clear r0 r1 r2 r3 r4 q0 q1 q2 q3 q4 ql
            generalize (((((v31.setCell ⟨d30, 0, none⟩ (.int .i64 k2)).setCell ⟨d30, 1, none⟩ (.string p2)).setCell ⟨d30, 2, none⟩ (.string t2)).setCell ⟨d30, 3, none⟩ (.slice a3 n3 c3)).setCell ⟨d30, 4, none⟩ (.slice a4 n4 c4)) = v32 at *
            have kx32 := Hkx32.out
            have cx32 := Hcx32.out
            have hb32 := Hhb32.out
            clear Hkx32 Hcx32 Hhb32
            refine planT_one rfl (by rfl) (fun K hK => ?_); go_simp
            refine hK.out _ _ (SW.out _ hb32) ?_; clear hK K; (try simp only [List.getElem_toArray, List.getElem_cons_succ, List.getElem_cons_zero, Act.put, List.setIfInBounds_toArray, List.set_cons_zero, List.set_cons_succ])
            refine planT_done ?_
            refine NoPanic.normal ?_
            (try go_wp2)
            go_meet
            case rel => exact ⟨_, _, rfl, rfl, rfl, kx32, cx32, hb32, ge29, ge30⟩
          · skip
            have ax33 := CBox.new v28 24 #[.int .i64 0, .string ⟨#[]⟩, .string ⟨#[]⟩, .slice none 0 0, .slice none 0 0]
            have ge33 := hb28.size
            have hb33 := qtrans hb28 (qalloc v28 (.cells #[.int .i64 0, .string ⟨#[]⟩, .string ⟨#[]⟩, .slice none 0 0, .slice none 0 0] 24))
            refine planT_one rfl (by rfl) (fun K hK => ?_); go_simp
            refine hK.out _ _ (SW.out _ hb33) ?_; clear hK K; (try simp only [List.getElem_toArray, List.getElem_cons_succ, List.getElem_cons_zero, Act.put, List.setIfInBounds_toArray, List.set_cons_zero, List.set_cons_succ])
            generalize v28.alloc (.cells #[.int .i64 0, .string ⟨#[]⟩, .string ⟨#[]⟩, .slice none 0 0, .slice none 0 0] 24) = v33 at *
            generalize v28.heap.size = d33 at *
            have ax34 := CBox.new v33 24 #[.int .i64 0, .string ⟨#[]⟩, .string ⟨#[]⟩, .slice none 0 0, .slice none 0 0]
            have ge34 := hb33.size
            have cy34_15 := ax33.alloc (.cells #[.int .i64 0, .string ⟨#[]⟩, .string ⟨#[]⟩, .slice none 0 0, .slice none 0 0] 24)
            have ne34 := ax33.lt
            have hb34 := qtrans hb33 (qalloc v33 (.cells #[.int .i64 0, .string ⟨#[]⟩, .string ⟨#[]⟩, .slice none 0 0, .slice none 0 0] 24))
            refine planT_one rfl (by rfl) (fun K hK => ?_); go_simp
            refine hK.out _ _ (SW.out _ hb34) ?_; clear hK K; (try simp only [List.getElem_toArray, List.getElem_cons_succ, List.getElem_cons_zero, Act.put, List.setIfInBounds_toArray, List.set_cons_zero, List.set_cons_succ])
            generalize v33.alloc (.cells #[.int .i64 0, .string ⟨#[]⟩, .string ⟨#[]⟩, .slice none 0 0, .slice none 0 0] 24) = v34 at *
            generalize v33.heap.size = d34 at *
            have r0 := ax34.frozen 0
            have r1 := ax34.frozen 1
            have r2 := ax34.frozen 2
            have r3 := ax34.frozen 3
            have r4 := ax34.frozen 4
            have q0 := ax34.cell (i := 0) (v := .int .i64 0) rfl
            have q1 := ax34.cell (i := 1) (v := .string ⟨#[]⟩) rfl
            have q2 := ax34.cell (i := 2) (v := .string ⟨#[]⟩) rfl
            have q3 := ax34.cell (i := 3) (v := .slice none 0 0) rfl
            have q4 := ax34.cell (i := 4) (v := .slice none 0 0) rfl
            have ql := ax34.lt
            have m35 := mod_five v34 d34 (.int .i64 k1) (.string p1) (.string t1) (.slice a1 n1 c1) (.slice a2 n2 c2)
            have kx35 := cy34_15.mod m35 (by simp; omega)
            have cx35 := CBox.five ax34 (.int .i64 k1) (.string p1) (.string t1) (.slice a1 n1 c1) (.slice a2 n2 c2)
            have hb35 := hb34.trans (m35.upto hb34.size (by simp; omega))
            have Hkx35 := Lib.hid kx35
            have Hcx35 := Lib.hid cx35
            have Hhb35 := Lib.hid hb35
            clear m35 hb35 kx35 cx35
            refine planT_one rfl (by rfl) (fun K hK => ?_); go_simp
            refine hK.out _ _ (SW.out _ Hhb35.out) ?_; clear hK K; (try simp only [List.getElem_toArray, List.getElem_cons_succ, List.getElem_cons_zero, Act.put, List.setIfInBounds_toArray, List.set_cons_zero, List.set_cons_succ])
            clear r0 r1 r2 r3 r4 q0 q1 q2 q3 q4 ql
            generalize (((((v34.setCell ⟨d34, 0, none⟩ (.int .i64 k1)).setCell ⟨d34, 1, none⟩ (.string p1)).setCell ⟨d34, 2, none⟩ (.string t1)).setCell ⟨d34, 3, none⟩ (.slice a1 n1 c1)).setCell ⟨d34, 4, none⟩ (.slice a2 n2 c2)) = v35 at *
            have kx35 := Hkx35.out
            have cx35 := Hcx35.out
            have hb35 := Hhb35.out
            clear Hkx35 Hcx35 Hhb35
            have r0 := kx35.frozen 0
            have r1 := kx35.frozen 1
            have r2 := kx35.frozen 2
            have r3 := kx35.frozen 3
            have r4 := kx35.frozen 4
            have q0 := kx35.cell (i := 0) (v := .int .i64 0) rfl
            have q1 := kx35.cell (i := 1) (v := .string ⟨#[]⟩) rfl
            have q2 := kx35.cell (i := 2) (v := .string ⟨#[]⟩) rfl
            have q3 := kx35.cell (i := 3) (v := .slice none 0 0) rfl
            have q4 := kx35.cell (i := 4) (v := .slice none 0 0) rfl
            have ql := kx35.lt
            have m36 := mod_five v35 d33 (.int .i64 k2) (.string p2) (.string t2) (.slice a3 n3 c3) (.slice a4 n4 c4)
            have kx36 := cx35.mod m36 (by simp; omega)
            have cx36 := CBox.five kx35 (.int .i64 k2) (.string p2) (.string t2) (.slice a3 n3 c3) (.slice a4 n4 c4)
            have hb36 := hb35.trans (m36.upto hb35.size (by simp; omega))
            have Hkx36 := Lib.hid kx36
            have Hcx36 := Lib.hid cx36
            have Hhb36 := Lib.hid hb36
            clear m36 hb36 kx36 cx36
            refine planT_one rfl (by rfl) (fun K hK => ?_); go_simp
            refine hK.out _ _ (SW.out _ Hhb36.out) ?_; clear hK K; (try simp only [List.getElem_toArray, List.getElem_cons_succ, List.getElem_cons_zero, Act.put, List.setIfInBounds_toArray, List.set_cons_zero, List.set_cons_succ])
            clear r0 r1 r2 r3 r4 q0 q1 q2 q3 q4 ql
            generalize (((((v35.setCell ⟨d33, 0, none⟩ (.int .i64 k2)).setCell ⟨d33, 1, none⟩ (.string p2)).setCell ⟨d33, 2, none⟩ (.string t2)).setCell ⟨d33, 3, none⟩ (.slice a3 n3 c3)).setCell ⟨d33, 4, none⟩ (.slice a4 n4 c4)) = v36 at *
            have kx36 := Hkx36.out
            have cx36 := Hcx36.out
            have hb36 := Hhb36.out
            clear Hkx36 Hcx36 Hhb36
            refine planT_one rfl (by rfl) (fun K hK => ?_); go_simp
            refine hK.out _ _ (SW.out _ hb36) ?_; clear hK K; (try simp only [List.getElem_toArray, List.getElem_cons_succ, List.getElem_cons_zero, Act.put, List.setIfInBounds_toArray, List.set_cons_zero, List.set_cons_succ])
            refine planT_done ?_
            refine NoPanic.normal ?_
            (try go_wp2)
            go_meet
            case rel => exact ⟨_, _, rfl, rfl, rfl, kx36, cx36, hb36, ge34, ge33⟩
        · skip
          have ax37 := CBox.new v0 24 #[.int .i64 0, .string ⟨#[]⟩, .string ⟨#[]⟩, .slice none 0 0, .slice none 0 0]
          have ge37 := hb0.size
          have hb37 := qtrans hb0 (qalloc v0 (.cells #[.int .i64 0, .string ⟨#[]⟩, .string ⟨#[]⟩, .slice none 0 0, .slice none 0 0] 24))
          refine planT_one rfl (by rfl) (fun K hK => ?_); go_simp
          refine hK.out _ _ (SW.out _ hb37) ?_; clear hK K; (try simp only [List.getElem_toArray, List.getElem_cons_succ, List.getElem_cons_zero, Act.put, List.setIfInBounds_toArray, List.set_cons_zero, List.set_cons_succ])
          generalize v0.alloc (.cells #[.int .i64 0, .string ⟨#[]⟩, .string ⟨#[]⟩, .slice none 0 0, .slice none 0 0] 24) = v37 at *
          generalize v0.heap.size = d37 at *
          refine planT_two ?_ ?_
          · skip
            refine planT_one rfl (by rfl) (fun K hK => ?_); go_simp
            refine (HSC.out _ hb37).mono ?_
            rintro r v38 ⟨rfl, hq38⟩
            (try go_simp)
            have hb38 := qtrans hb37 hq38
            have cy38_14 := ax37.below hq38
            refine hK.out _ _ (SW.out _ hb38) ?_; clear hK K; (try simp only [List.getElem_toArray, List.getElem_cons_succ, List.getElem_cons_zero, Act.put, List.setIfInBounds_toArray, List.set_cons_zero, List.set_cons_succ])
            iterate 4 (refine planT_take (v := ?_) rfl (by rfl) ?_ ?_; rotate_left; (focus (intro wq hSw; (try dsimp only at hSw); go_simp; (try rw [if_neg (by first | omega | (simp; omega))]); (try with_reducible rfl))); (try simp only [List.getElem_toArray, List.getElem_cons_succ, List.getElem_cons_zero, Act.put, List.setIfInBounds_toArray, List.set_cons_zero, List.set_cons_succ]))
            have ax39 := CBox.new v38 24 #[.int .i64 0, .string ⟨#[]⟩, .string ⟨#[]⟩, .slice none 0 0, .slice none 0 0]
            have ge39 := hb38.size
            have cy39_14 := cy38_14.alloc (.cells #[.int .i64 0, .string ⟨#[]⟩, .string ⟨#[]⟩, .slice none 0 0, .slice none 0 0] 24)
            have ne39 := cy38_14.lt
            have hb39 := qtrans hb38 (qalloc v38 (.cells #[.int .i64 0, .string ⟨#[]⟩, .string ⟨#[]⟩, .slice none 0 0, .slice none 0 0] 24))
            refine planT_one rfl (by rfl) (fun K hK => ?_); go_simp
            refine hK.out _ _ (SW.out _ hb39) ?_; clear hK K; (try simp only [List.getElem_toArray, List.getElem_cons_succ, List.getElem_cons_zero, Act.put, List.setIfInBounds_toArray, List.set_cons_zero, List.set_cons_succ])
            generalize v38.alloc (.cells #[.int .i64 0, .string ⟨#[]⟩, .string ⟨#[]⟩, .slice none 0 0, .slice none 0 0] 24) = v39 at *
            generalize v38.heap.size = d39 at *
            have r0 := cy39_14.frozen 0
            have r1 := cy39_14.frozen 1
            have r2 := cy39_14.frozen 2
            have r3 := cy39_14.frozen 3
            have r4 := cy39_14.frozen 4
            have q0 := cy39_14.cell (i := 0) (v := .int .i64 0) rfl
            have q1 := cy39_14.cell (i := 1) (v := .string ⟨#[]⟩) rfl
            have q2 := cy39_14.cell (i := 2) (v := .string ⟨#[]⟩) rfl
            have q3 := cy39_14.cell (i := 3) (v := .slice none 0 0) rfl
            have q4 := cy39_14.cell (i := 4) (v := .slice none 0 0) rfl
            have ql := cy39_14.lt
            have m40 := mod_five v39 d37 (.int .i64 k1) (.string p1) (.string t1) (.slice a1 n1 c1) (.slice a2 n2 c2)
            have kx40 := ax39.mod m40 (by simp; omega)
            have cx40 := CBox.five cy39_14 (.int .i64 k1) (.string p1) (.string t1) (.slice a1 n1 c1) (.slice a2 n2 c2)
            have hb40 := hb39.trans (m40.upto hb39.size (by simp; omega))
            have Hkx40 := Lib.hid kx40
            have Hcx40 := Lib.hid cx40
            have Hhb40 := Lib.hid hb40
            clear m40 hb40 kx40 cx40
            refine planT_one rfl (by rfl) (fun K hK => ?_); go_simp
            refine hK.out _ _ (SW.out _ Hhb40.out) ?_; clear hK K; (try simp only [List.getElem_toArray, List.getElem_cons_succ, List.getElem_cons_zero, Act.put, List.setIfInBounds_toArray, List.set_cons_zero, List.set_cons_succ])
            clear r0 r1 r2 r3 r4 q0 q1 q2 q3 q4 ql
            generalize (((((v39.setCell ⟨d37, 0, none⟩ (.int .i64 k1)).setCell ⟨d37, 1, none⟩ (.string p1)).setCell ⟨d37, 2, none⟩ (.string t1)).setCell ⟨d37, 3, none⟩ (.slice a1 n1 c1)).setCell ⟨d37, 4, none⟩ (.slice a2 n2 c2)) = v40 at *
            have kx40 := Hkx40.out
            have cx40 := Hcx40.out
            have hb40 := Hhb40.out
            clear Hkx40 Hcx40 Hhb40
            have r0 := kx40.frozen 0
            have r1 := kx40.frozen 1
            have r2 := kx40.frozen 2
            have r3 := kx40.frozen 3
            have r4 := kx40.frozen 4
            have q0 := kx40.cell (i := 0) (v := .int .i64 0) rfl
            have q1 := kx40.cell (i := 1) (v := .string ⟨#[]⟩) rfl
            have q2 := kx40.cell (i := 2) (v := .string ⟨#[]⟩) rfl
            have q3 := kx40.cell (i := 3) (v := .slice none 0 0) rfl
            have q4 := kx40.cell (i := 4) (v := .slice none 0 0) rfl
            have ql := kx40.lt
            have m41 := mod_five v40 d39 (.int .i64 k2) (.string p2) (.string t2) (.slice a3 n3 c3) (.slice a4 n4 c4)
            have kx41 := cx40.mod m41 (by simp; omega)
            have cx41 := CBox.five kx40 (.int .i64 k2) (.string p2) (.string t2) (.slice a3 n3 c3) (.slice a4 n4 c4)
            have hb41 := hb40.trans (m41.upto hb40.size (by simp; omega))
            have Hkx41 := Lib.hid kx41
            have Hcx41 := Lib.hid cx41
            have Hhb41 := Lib.hid hb41
            clear m41 hb41 kx41 cx41
            refine planT_one rfl (by rfl) (fun K hK => ?_); go_simp
            refine hK.out _ _ (SW.out _ Hhb41.out) ?_; clear hK K; (try simp only [List.getElem_toArray, List.getElem_cons_succ, List.getElem_cons_zero, Act.put, List.setIfInBounds_toArray, List.set_cons_zero, List.set_cons_succ])
            clear r0 r1 r2 r3 r4 q0 q1 q2 q3 q4 ql
            generalize (((((v40.setCell ⟨d39, 0, none⟩ (.int .i64 k2)).setCell ⟨d39, 1, none⟩ (.string p2)).setCell ⟨d39, 2, none⟩ (.string t2)).setCell ⟨d39, 3, none⟩ (.slice a3 n3 c3)).setCell ⟨d39, 4, none⟩ (.slice a4 n4 c4)) = v41 at *
            have kx41 := Hkx41.out
            have cx41 := Hcx41.out
            have hb41 := Hhb41.out
            clear Hkx41 Hcx41 Hhb41
            refine planT_one rfl (by rfl) (fun K hK => ?_); go_simp
            refine hK.out _ _ (SW.out _ hb41) ?_; clear hK K; (try simp only [List.getElem_toArray, List.getElem_cons_succ, List.getElem_cons_zero, Act.put, List.setIfInBounds_toArray, List.set_cons_zero, List.set_cons_succ])
            refine planT_done ?_
            refine NoPanic.normal ?_
            (try go_wp2)
            go_meet
            case rel => exact ⟨_, _, rfl, rfl, rfl, kx41, cx41, hb41, ge37, ge39⟩
          · skip
            have ax42 := CBox.new v37 24 #[.int .i64 0, .string ⟨#[]⟩, .string ⟨#[]⟩, .slice none 0 0, .slice none 0 0]
            have ge42 := hb37.size
            have cy42_14 := ax37.alloc (.cells #[.int .i64 0, .string ⟨#[]⟩, .string ⟨#[]⟩, .slice none 0 0, .slice none 0 0] 24)
            have ne42 := ax37.lt
            have hb42 := qtrans hb37 (qalloc v37 (.cells #[.int .i64 0, .string ⟨#[]⟩, .string ⟨#[]⟩, .slice none 0 0, .slice none 0 0] 24))
            refine planT_one rfl (by rfl) (fun K hK => ?_); go_simp
            refine hK.out _ _ (SW.out _ hb42) ?_; clear hK K; (try simp only [List.getElem_toArray, List.getElem_cons_succ, List.getElem_cons_zero, Act.put, List.setIfInBounds_toArray, List.set_cons_zero, List.set_cons_succ])
            generalize v37.alloc (.cells #[.int .i64 0, .string ⟨#[]⟩, .string ⟨#[]⟩, .slice none 0 0, .slice none 0 0] 24) = v42 at *
            generalize v37.heap.size = d42 at *
            refine planT_one rfl (by rfl) (fun K hK => ?_); go_simp
            refine (HSC.out _ hb42).mono ?_
            rintro r v43 ⟨rfl, hq43⟩
            (try go_simp)
            have hb43 := qtrans hb42 hq43
            have cy43_14 := cy42_14.below hq43
            have cy43_15 := ax42.below hq43
            refine hK.out _ _ (SW.out _ hb43) ?_; clear hK K; (try simp only [List.getElem_toArray, List.getElem_cons_succ, List.getElem_cons_zero, Act.put, List.setIfInBounds_toArray, List.set_cons_zero, List.set_cons_succ])
            iterate 4 (refine planT_take (v := ?_) rfl (by rfl) ?_ ?_; rotate_left; (focus (intro wq hSw; (try dsimp only at hSw); go_simp; (try rw [if_neg (by first | omega | (simp; omega))]); (try with_reducible rfl))); (try simp only [List.getElem_toArray, List.getElem_cons_succ, List.getElem_cons_zero, Act.put, List.setIfInBounds_toArray, List.set_cons_zero, List.set_cons_succ]))
            have r0 := cy43_14.frozen 0
            have r1 := cy43_14.frozen 1
            have r2 := cy43_14.frozen 2
            have r3 := cy43_14.frozen 3
            have r4 := cy43_14.frozen 4
            have q0 := cy43_14.cell (i := 0) (v := .int .i64 0) rfl
            have q1 := cy43_14.cell (i := 1) (v := .string ⟨#[]⟩) rfl
            have q2 := cy43_14.cell (i := 2) (v := .string ⟨#[]⟩) rfl
            have q3 := cy43_14.cell (i := 3) (v := .slice none 0 0) rfl
            have q4 := cy43_14.cell (i := 4) (v := .slice none 0 0) rfl
            have ql := cy43_14.lt
            have m44 := mod_five v43 d37 (.int .i64 k1) (.string p1) (.string t1) (.slice a1 n1 c1) (.slice a2 n2 c2)
            have kx44 := cy43_15.mod m44 (by simp; omega)
            have cx44 := CBox.five cy43_14 (.int .i64 k1) (.string p1) (.string t1) (.slice a1 n1 c1) (.slice a2 n2 c2)
            have hb44 := hb43.trans (m44.upto hb43.size (by simp; omega))
            have Hkx44 := Lib.hid kx44
            have Hcx44 := Lib.hid cx44
            have Hhb44 := Lib.hid hb44
            clear m44 hb44 kx44 cx44
            refine planT_one rfl (by rfl) (fun K hK => ?_); go_simp
            refine hK.out _ _ (SW.out _ Hhb44.out) ?_; clear hK K; (try simp only [List.getElem_toArray, List.getElem_cons_succ, List.getElem_cons_zero, Act.put, List.setIfInBounds_toArray, List.set_cons_zero, List.set_cons_succ])
            clear r0 r1 r2 r3 r4 q0 q1 q2 q3 q4 ql
            generalize (((((v43.setCell ⟨d37, 0, none⟩ (.int .i64 k1)).setCell ⟨d37, 1, none⟩ (.string p1)).setCell ⟨d37, 2, none⟩ (.string t1)).setCell ⟨d37, 3, none⟩ (.slice a1 n1 c1)).setCell ⟨d37, 4, none⟩ (.slice a2 n2 c2)) = v44 at *
            have kx44 := Hkx44.out
            have cx44 := Hcx44.out
            have hb44 := Hhb44.out
            clear Hkx44 Hcx44 Hhb44
            have r0 := kx44.frozen 0
            have r1 := kx44.frozen 1
            have r2 := kx44.frozen 2
            have r3 := kx44.frozen 3
            have r4 := kx44.frozen 4
            have q0 := kx44.cell (i := 0) (v := .int .i64 0) rfl
            have q1 := kx44.cell (i := 1) (v := .string ⟨#[]⟩) rfl
            have q2 := kx44.cell (i := 2) (v := .string ⟨#[]⟩) rfl
            have q3 := kx44.cell (i := 3) (v := .slice none 0 0) rfl
            have q4 := kx44.cell (i := 4) (v := .slice none 0 0) rfl
            have ql := kx44.lt
            have m45 := mod_five v44 d42 (.int .i64 k2) (.string p2) (.string t2) (.slice a3 n3 c3) (.slice a4 n4 c4)
            have kx45 := cx44.mod m45 (by simp; omega)
            have cx45 := CBox.five kx44 (.int .i64 k2) (.string p2) (.string t2) (.slice a3 n3 c3) (.slice a4 n4 c4)
            have hb45 := hb44.trans (m45.upto hb44.size (by simp; omega))
            have Hkx45 := Lib.hid kx45
            have Hcx45 := Lib.hid cx45
            have Hhb45 := Lib.hid hb45
            clear m45 hb45 kx45 cx45
            refine planT_one rfl (by rfl) (fun K hK => ?_); go_simp
            refine hK.out _ _ (SW.out _ Hhb45.out) ?_; clear hK K; (try simp only [List.getElem_toArray, List.getElem_cons_succ, List.getElem_cons_zero, Act.put, List.setIfInBounds_toArray, List.set_cons_zero, List.set_cons_succ])
            clear r0 r1 r2 r3 r4 q0 q1 q2 q3 q4 ql
            generalize (((((v44.setCell ⟨d42, 0, none⟩ (.int .i64 k2)).setCell ⟨d42, 1, none⟩ (.string p2)).setCell ⟨d42, 2, none⟩ (.string t2)).setCell ⟨d42, 3, none⟩ (.slice a3 n3 c3)).setCell ⟨d42, 4, none⟩ (.slice a4 n4 c4)) = v45 at *
            have kx45 := Hkx45.out
            have cx45 := Hcx45.out
            have hb45 := Hhb45.out
            clear Hkx45 Hcx45 Hhb45
            refine planT_one rfl (by rfl) (fun K hK => ?_); go_simp
            refine hK.out _ _ (SW.out _ hb45) ?_; clear hK K; (try simp only [List.getElem_toArray, List.getElem_cons_succ, List.getElem_cons_zero, Act.put, List.setIfInBounds_toArray, List.set_cons_zero, List.set_cons_succ])
            refine planT_done ?_
            refine NoPanic.normal ?_
            (try go_wp2)
            go_meet
            case rel => exact ⟨_, _, rfl, rfl, rfl, kx45, cx45, hb45, ge37, ge42⟩
        · skip
          have ax46 := CBox.new v0 24 #[.int .i64 0, .string ⟨#[]⟩, .string ⟨#[]⟩, .slice none 0 0, .slice none 0 0]
          have ge46 := hb0.size
          have hb46 := qtrans hb0 (qalloc v0 (.cells #[.int .i64 0, .string ⟨#[]⟩, .string ⟨#[]⟩, .slice none 0 0, .slice none 0 0] 24))
          refine planT_one rfl (by rfl) (fun K hK => ?_); go_simp
          refine hK.out _ _ (SW.out _ hb46) ?_; clear hK K; (try simp only [List.getElem_toArray, List.getElem_cons_succ, List.getElem_cons_zero, Act.put, List.setIfInBounds_toArray, List.set_cons_zero, List.set_cons_succ])
          generalize v0.alloc (.cells #[.int .i64 0, .string ⟨#[]⟩, .string ⟨#[]⟩, .slice none 0 0, .slice none 0 0] 24) = v46 at *
          generalize v0.heap.size = d46 at *
          refine planT_two ?_ ?_
          · skip
            refine planT_one rfl (by rfl) (fun K hK => ?_); go_simp
            refine (HSC.out _ hb46).mono ?_
            rintro r v47 ⟨rfl, hq47⟩
            (try go_simp)
            have hb47 := qtrans hb46 hq47
            have cy47_15 := ax46.below hq47
            refine hK.out _ _ (SW.out _ hb47) ?_; clear hK K; (try simp only [List.getElem_toArray, List.getElem_cons_succ, List.getElem_cons_zero, Act.put, List.setIfInBounds_toArray, List.set_cons_zero, List.set_cons_succ])
            iterate 4 (refine planT_take (v := ?_) rfl (by rfl) ?_ ?_; rotate_left; (focus (intro wq hSw; (try dsimp only at hSw); go_simp; (try rw [if_neg (by first | omega | (simp; omega))]); (try with_reducible rfl))); (try simp only [List.getElem_toArray, List.getElem_cons_succ, List.getElem_cons_zero, Act.put, List.setIfInBounds_toArray, List.set_cons_zero, List.set_cons_succ]))
            have ax48 := CBox.new v47 24 #[.int .i64 0, .string ⟨#[]⟩, .string ⟨#[]⟩, .slice none 0 0, .slice none 0 0]
            have ge48 := hb47.size
            have cy48_15 := cy47_15.alloc (.cells #[.int .i64 0, .string ⟨#[]⟩, .string ⟨#[]⟩, .slice none 0 0, .slice none 0 0] 24)
            have ne48 := cy47_15.lt
            have hb48 := qtrans hb47 (qalloc v47 (.cells #[.int .i64 0, .string ⟨#[]⟩, .string ⟨#[]⟩, .slice none 0 0, .slice none 0 0] 24))
            refine planT_one rfl (by rfl) (fun K hK => ?_); go_simp
            refine hK.out _ _ (SW.out _ hb48) ?_; clear hK K; (try simp only [List.getElem_toArray, List.getElem_cons_succ, List.getElem_cons_zero, Act.put, List.setIfInBounds_toArray, List.set_cons_zero, List.set_cons_succ])
            generalize v47.alloc (.cells #[.int .i64 0, .string ⟨#[]⟩, .string ⟨#[]⟩, .slice none 0 0, .slice none 0 0] 24) = v48 at *
            generalize v47.heap.size = d48 at *
            have r0 := ax48.frozen 0
            have r1 := ax48.frozen 1
            have r2 := ax48.frozen 2
            have r3 := ax48.frozen 3
            have r4 := ax48.frozen 4
            have q0 := ax48.cell (i := 0) (v := .int .i64 0) rfl
            have q1 := ax48.cell (i := 1) (v := .string ⟨#[]⟩) rfl
            have q2 := ax48.cell (i := 2) (v := .string ⟨#[]⟩) rfl
            have q3 := ax48.cell (i := 3) (v := .slice none 0 0) rfl
            have q4 := ax48.cell (i := 4) (v := .slice none 0 0) rfl
            have ql := ax48.lt
            have m49 := mod_five v48 d48 (.int .i64 k1) (.string p1) (.string t1) (.slice a1 n1 c1) (.slice a2 n2 c2)
            have kx49 := cy48_15.mod m49 (by simp; omega)
            have cx49 := CBox.five ax48 (.int .i64 k1) (.string p1) (.string t1) (.slice a1 n1 c1) (.slice a2 n2 c2)
            have hb49 := hb48.trans (m49.upto hb48.size (by simp; omega))
            have Hkx49 := Lib.hid kx49
            have Hcx49 := Lib.hid cx49
            have Hhb49 := Lib.hid hb49
            clear m49 hb49 kx49 cx49
            refine planT_one rfl (by rfl) (fun K hK => ?_); go_simp
            refine hK.out _ _ (SW.out _ Hhb49.out) ?_; clear hK K; (try simp only [List.getElem_toArray, List.getElem_cons_succ, List.getElem_cons_zero, Act.put, List.setIfInBounds_toArray, List.set_cons_zero, List.set_cons_succ])
            clear r0 r1 r2 r3 r4 q0 q1 q2 q3 q4 ql
            generalize (((((v48.setCell ⟨d48, 0, none⟩ (.int .i64 k1)).setCell ⟨d48, 1, none⟩ (.string p1)).setCell ⟨d48, 2, none⟩ (.string t1)).setCell ⟨d48, 3, none⟩ (.slice a1 n1 c1)).setCell ⟨d48, 4, none⟩ (.slice a2 n2 c2)) = v49 at *
            have kx49 := Hkx49.out
            have cx49 := Hcx49.out
            have hb49 := Hhb49.out
            clear Hkx49 Hcx49 Hhb49
            have r0 := kx49.frozen 0
            have r1 := kx49.frozen 1
            have r2 := kx49.frozen 2
            have r3 := kx49.frozen 3
            have r4 := kx49.frozen 4
            have q0 := kx49.cell (i := 0) (v := .int .i64 0) rfl
            have q1 := kx49.cell (i := 1) (v := .string ⟨#[]⟩) rfl
            have q2 := kx49.cell (i := 2) (v := .string ⟨#[]⟩) rfl
            have q3 := kx49.cell (i := 3) (v := .slice none 0 0) rfl
            have q4 := kx49.cell (i := 4) (v := .slice none 0 0) rfl
            have ql := kx49.lt
            have m50 := mod_five v49 d46 (.int .i64 k2) (.string p2) (.string t2) (.slice a3 n3 c3) (.slice a4 n4 c4)
            have kx50 := cx49.mod m50 (by simp; omega)
            have cx50 := CBox.five kx49 (.int .i64 k2) (.string p2) (.string t2) (.slice a3 n3 c3) (.slice a4 n4 c4)
            have hb50 := hb49.trans (m50.upto hb49.size (by simp; omega))
            have Hkx50 := Lib.hid kx50
            have Hcx50 := Lib.hid cx50
            have Hhb50 := Lib.hid hb50
            clear m50 hb50 kx50 cx50
            refine planT_one rfl (by rfl) (fun K hK => ?_); go_simp
            refine hK.out _ _ (SW.out _ Hhb50.out) ?_; clear hK K; (try simp only [List.getElem_toArray, List.getElem_cons_succ, List.getElem_cons_zero, Act.put, List.setIfInBounds_toArray, List.set_cons_zero, List.set_cons_succ])
            clear r0 r1 r2 r3 r4 q0 q1 q2 q3 q4 ql
            generalize (((((v49.setCell ⟨d46, 0, none⟩ (.int .i64 k2)).setCell ⟨d46, 1, none⟩ (.string p2)).setCell ⟨d46, 2, none⟩ (.string t2)).setCell ⟨d46, 3, none⟩ (.slice a3 n3 c3)).setCell ⟨d46, 4, none⟩ (.slice a4 n4 c4)) = v50 at *
            have kx50 := Hkx50.out
            have cx50 := Hcx50.out
            have hb50 := Hhb50.out
            clear Hkx50 Hcx50 Hhb50
            refine planT_one rfl (by rfl) (fun K hK => ?_); go_simp
            refine hK.out _ _ (SW.out _ hb50) ?_; clear hK K; (try simp only [List.getElem_toArray, List.getElem_cons_succ, List.getElem_cons_zero, Act.put, List.setIfInBounds_toArray, List.set_cons_zero, List.set_cons_succ])
            refine planT_done ?_
            refine NoPanic.normal ?_
            (try go_wp2)
            go_meet
            case rel => exact ⟨_, _, rfl, rfl, rfl, kx50, cx50, hb50, ge48, ge46⟩
          · skip
            have ax51 := CBox.new v46 24 #[.int .i64 0, .string ⟨#[]⟩, .string ⟨#[]⟩, .slice none 0 0, .slice none 0 0]
            have ge51 := hb46.size
            have cy51_15 := ax46.alloc (.cells #[.int .i64 0, .string ⟨#[]⟩, .string ⟨#[]⟩, .slice none 0 0, .slice none 0 0] 24)
            have ne51 := ax46.lt
            have hb51 := qtrans hb46 (qalloc v46 (.cells #[.int .i64 0, .string ⟨#[]⟩, .string ⟨#[]⟩, .slice none 0 0, .slice none 0 0] 24))
            refine planT_one rfl (by rfl) (fun K hK => ?_); go_simp
            refine hK.out _ _ (SW.out _ hb51) ?_; clear hK K; (try simp only [List.getElem_toArray, List.getElem_cons_succ, List.getElem_cons_zero, Act.put, List.setIfInBounds_toArray, List.set_cons_zero, List.set_cons_succ])
            generalize v46.alloc (.cells #[.int .i64 0, .string ⟨#[]⟩, .string ⟨#[]⟩, .slice none 0 0, .slice none 0 0] 24) = v51 at *
            generalize v46.heap.size = d51 at *
            refine planT_one rfl (by rfl) (fun K hK => ?_); go_simp
            refine (HSC.out _ hb51).mono ?_
            rintro r v52 ⟨rfl, hq52⟩
            (try go_simp)
            have hb52 := qtrans hb51 hq52
            have cy52_15 := cy51_15.below hq52
            have cy52_14 := ax51.below hq52
            refine hK.out _ _ (SW.out _ hb52) ?_; clear hK K; (try simp only [List.getElem_toArray, List.getElem_cons_succ, List.getElem_cons_zero, Act.put, List.setIfInBounds_toArray, List.set_cons_zero, List.set_cons_succ])
            iterate 4 (refine planT_take (v := ?_) rfl (by rfl) ?_ ?_; rotate_left; (focus (intro wq hSw; (try dsimp only at hSw); go_simp; (try rw [if_neg (by first | omega | (simp; omega))]); (try with_reducible rfl))); (try simp only [List.getElem_toArray, List.getElem_cons_succ, List.getElem_cons_zero, Act.put, List.setIfInBounds_toArray, List.set_cons_zero, List.set_cons_succ]))
            have r0 := cy52_14.frozen 0
            have r1 := cy52_14.frozen 1
            have r2 := cy52_14.frozen 2
            have r3 := cy52_14.frozen 3
            have r4 := cy52_14.frozen 4
            have q0 := cy52_14.cell (i := 0) (v := .int .i64 0) rfl
            have q1 := cy52_14.cell (i := 1) (v := .string ⟨#[]⟩) rfl
            have q2 := cy52_14.cell (i := 2) (v := .string ⟨#[]⟩) rfl
            have q3 := cy52_14.cell (i := 3) (v := .slice none 0 0) rfl
            have q4 := cy52_14.cell (i := 4) (v := .slice none 0 0) rfl
            have ql := cy52_14.lt
            have m53 := mod_five v52 d51 (.int .i64 k1) (.string p1) (.string t1) (.slice a1 n1 c1) (.slice a2 n2 c2)
            have kx53 := cy52_15.mod m53 (by simp; omega)
            have cx53 := CBox.five cy52_14 (.int .i64 k1) (.string p1) (.string t1) (.slice a1 n1 c1) (.slice a2 n2 c2)
            have hb53 := hb52.trans (m53.upto hb52.size (by simp; omega))
            have Hkx53 := Lib.hid kx53
            have Hcx53 := Lib.hid cx53
            have Hhb53 := Lib.hid hb53
            clear m53 hb53 kx53 cx53
            refine planT_one rfl (by rfl) (fun K hK => ?_); go_simp
            refine hK.out _ _ (SW.out _ Hhb53.out) ?_; clear hK K; (try simp only [List.getElem_toArray, List.getElem_cons_succ, List.getElem_cons_zero, Act.put, List.setIfInBounds_toArray, List.set_cons_zero, List.set_cons_succ])
            clear r0 r1 r2 r3 r4 q0 q1 q2 q3 q4 ql
            generalize (((((v52.setCell ⟨d51, 0, none⟩ (.int .i64 k1)).setCell ⟨d51, 1, none⟩ (.string p1)).setCell ⟨d51, 2, none⟩ (.string t1)).setCell ⟨d51, 3, none⟩ (.slice a1 n1 c1)).setCell ⟨d51, 4, none⟩ (.slice a2 n2 c2)) = v53 at *
            have kx53 := Hkx53.out
            have cx53 := Hcx53.out
            have hb53 := Hhb53.out
            clear Hkx53 Hcx53 Hhb53
            have r0 := kx53.frozen 0
            have r1 := kx53.frozen 1
            have r2 := kx53.frozen 2
            have r3 := kx53.frozen 3
            have r4 := kx53.frozen 4
            have q0 := kx53.cell (i := 0) (v := .int .i64 0) rfl
            have q1 := kx53.cell (i := 1) (v := .string ⟨#[]⟩) rfl
            have q2 := kx53.cell (i := 2) (v := .string ⟨#[]⟩) rfl
            have q3 := kx53.cell (i := 3) (v := .slice none 0 0) rfl
            have q4 := kx53.cell (i := 4) (v := .slice none 0 0) rfl
            have ql := kx53.lt
            have m54 := mod_five v53 d46 (.int .i64 k2) (.string p2) (.string t2) (.slice a3 n3 c3) (.slice a4 n4 c4)
            have kx54 := cx53.mod m54 (by simp; omega)
            have cx54 := CBox.five kx53 (.int .i64 k2) (.string p2) (.string t2) (.slice a3 n3 c3) (.slice a4 n4 c4)
            have hb54 := hb53.trans (m54.upto hb53.size (by simp; omega))
            have Hkx54 := Lib.hid kx54
            have Hcx54 := Lib.hid cx54
            have Hhb54 := Lib.hid hb54
            clear m54 hb54 kx54 cx54
            refine planT_one rfl (by rfl) (fun K hK => ?_); go_simp
            refine hK.out _ _ (SW.out _ Hhb54.out) ?_; clear hK K; (try simp only [List.getElem_toArray, List.getElem_cons_succ, List.getElem_cons_zero, Act.put, List.setIfInBounds_toArray, List.set_cons_zero, List.set_cons_succ])
            clear r0 r1 r2 r3 r4 q0 q1 q2 q3 q4 ql
            generalize (((((v53.setCell ⟨d46, 0, none⟩ (.int .i64 k2)).setCell ⟨d46, 1, none⟩ (.string p2)).setCell ⟨d46, 2, none⟩ (.string t2)).setCell ⟨d46, 3, none⟩ (.slice a3 n3 c3)).setCell ⟨d46, 4, none⟩ (.slice a4 n4 c4)) = v54 at *
            have kx54 := Hkx54.out
            have cx54 := Hcx54.out
            have hb54 := Hhb54.out
            clear Hkx54 Hcx54 Hhb54
            refine planT_one rfl (by rfl) (fun K hK => ?_); go_simp
            refine hK.out _ _ (SW.out _ hb54) ?_; clear hK K; (try simp only [List.getElem_toArray, List.getElem_cons_succ, List.getElem_cons_zero, Act.put, List.setIfInBounds_toArray, List.set_cons_zero, List.set_cons_succ])
            refine planT_done ?_
            refine NoPanic.normal ?_
            (try go_wp2)
            go_meet
            case rel => exact ⟨_, _, rfl, rfl, rfl, kx54, cx54, hb54, ge51, ge46⟩
      case rest =>
      obtain ⟨D1, D2, rfl, rfl, rfl, d1, d2, hb4, hg1, hg2⟩ := hcut
      have hn1 : ¬ D1 = g := by have := HGL.out; omega
      have hn2 : ¬ D2 = g := by have := HGL.out; omega
      have hn3 : ¬ g = D1 := by omega
      have hn4 : ¬ g = D2 := by omega
      clear hg1 hg2
      generalize wc = w4 at *
      have HB4 := Lib.hid (HB.out.trans (hb4.mono HB.out.size))
      have hx4 := SW.out _ hb4
      clear SW HSC hb0
      have HO4 := Lib.hid (owns_modB (X := []) HO.out (Mod.of hb4) (by simp))
      clear hb4 HO
      cases sb with
      | false =>
        have HF : Hid (T = none) := by show _ = _; rw [HT2.out, if_neg (by simp)]
        clear d1 d2 hx4
        go_wp2
        go_returns
        exact ⟨none, 0, by rw [HF.out]; rfl, by rw [HF.out]; exact Reads.nilRow _ _ _ _, HB4.out⟩
      | true =>
        have hinj := HSH.out
        rw [show swapV e f ao co af cf bo do' bf df = .tuple #[editV f bo do' bf df, editV e ao co af cf, .bool true] from by unfold swapV; rw [HSB.out]; rfl] at hinj
        simp only [editV, Value.tuple.injEq, Array.mk.injEq, List.cons.injEq, Value.agg.injEq, Value.int.injEq, Value.string.injEq, Value.slice.injEq, true_and, and_true] at hinj
        obtain ⟨⟨rfl, rfl, rfl, ⟨rfl, rfl, rfl⟩, ⟨rfl, rfl, rfl⟩⟩, ⟨rfl, rfl, rfl, ⟨rfl, rfl, rfl⟩, ⟨rfl, rfl, rfl⟩⟩⟩ := hinj
        have HTN : Hid (T = mv ln p tN) := by show _ = _; rw [HT2.out, if_pos rfl]
        obtain ⟨x0, x1, x2, x3, x4, x5, x6, x7, x8, x9, hgl⟩ := hx4
        have z0 := owns_frozen HO4.out (by omega) ((k - 1) * 5)
        have z1 := owns_frozen HO4.out (by omega) ((k - 1) * 5 + 1)
        have z2 := owns_frozen HO4.out (by omega) ((k - 1) * 5 + 2)
        have z3 := owns_frozen HO4.out (by omega) ((k - 1) * 5 + 3)
        have z4 := owns_frozen HO4.out (by omega) ((k - 1) * 5 + 4)
        have z5 := owns_frozen HO4.out (by omega) (k * 5)
        have z6 := owns_frozen HO4.out (by omega) (k * 5 + 1)
        have z7 := owns_frozen HO4.out (by omega) (k * 5 + 2)
        have z8 := owns_frozen HO4.out (by omega) (k * 5 + 3)
        have z9 := owns_frozen HO4.out (by omega) (k * 5 + 4)
        have y0 := d1.cell (i := 0) (v := .int .i64 f.kind) rfl
        have u0 := d2.cell (i := 0) (v := .int .i64 e.kind) rfl
        have y1 := d1.cell (i := 1) (v := .string f.pack) rfl
        have u1 := d2.cell (i := 1) (v := .string e.pack) rfl
        have y2 := d1.cell (i := 2) (v := .string f.text) rfl
        have u2 := d2.cell (i := 2) (v := .string e.text) rfl
        have y3 := d1.cell (i := 3) (v := .slice bo f.old.length do') rfl
        have u3 := d2.cell (i := 3) (v := .slice ao e.old.length co) rfl
        have y4 := d1.cell (i := 4) (v := .slice bf f.fresh.length df) rfl
        have u4 := d2.cell (i := 4) (v := .slice af e.fresh.length cf) rfl
        have yl := d1.lt
        have ul := d2.lt
        clear d1 d2 HSH HSB
        go_upto_region 11 with (fail)
        go_cut [] from 34 to 72 (fun wx => wx.ownsRow w.heap.size 24 5 (.slice (some ⟨g, 0, none⟩) l.length vc) l.length (A ++ (edC f bo do' bf df ++ (edC e ao co af cf ++ Bs))) ∧ Below w.heap.size w wx)
        case first =>
          go_region
          all_goals (go_wp2_with (fail))
          all_goals go_meet
          all_goals (
            have q := HO4.out
            rw [HXS.out] at q
            unfold edC at q
            obtain ⟨q1, q2⟩ := owns_ten q (by omega) ((k - 1) * 5) (k * 5) (by have := HAL.out; have := HPK.out; omega) (by have := HAL.out; have := HPK.out; omega) (.int .i64 f.kind) (.string f.pack) (.string f.text) (.slice bo f.old.length do') (.slice bf f.fresh.length df) (.int .i64 e.kind) (.string e.pack) (.string e.text) (.slice ao e.old.length co) (.slice af e.fresh.length cf)
            exact ⟨q1, HB4.out.trans (q2.upto HB4.out.size (by have := HGB.out; intro q hq; simp at hq; omega))⟩)
        case rest =>
        obtain ⟨hown5, hb5⟩ := hcut
        generalize wc = w5 at *
        have HO5 := Lib.hid hown5
        have HB5 := Lib.hid hb5
        clear hown5 hb5 HO4 HB4 x0 z0 x1 z1 x2 z2 x3 z3 x4 z4 x5 z5 x6 z6 x7 z7 x8 z8 x9 z9 y0 u0 y1 u1 y2 u2 y3 u3 y4 u4 yl ul
        go_wp2
        go_roundw
        case rel => exact ⟨p, ln, _, by omega, congrArg (Value.int .i64) (by have := HPK.out; omega), HLN, HSN, HTN, HO5, HSW2, HB5⟩
        case measure => have hq := HPK.out; first | (simp [intOf]; done) | (simp [intOf]; omega)
end Go.Proofs.YtlcpdhionefmbaaGreatDoor
