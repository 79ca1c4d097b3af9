/- The law ModmergeOneSide, walked: it returns true. -/
import Derived.Test.YtlgnedahnaojlaaGreatDoorKGE
import Derived.Test.YtlgnedahnaojlaaGreatDoorKYC
namespace Go.Proofs.YtlgnedahnaojlaaGreatDoor
open Go.RowKit Go.Shelf
attribute [local go_sem] Oper.semAt_some

theorem two_mods {w : World} {B : Nat} {m n : OMod} {aum adm aun adn : Option Addr} {cum cdm cun cdn : Nat} (h : CBox w B 25 #[.string m.label, .slice aum m.uses.length cum, .slice adm m.decls.length cdm, .string n.label, .slice aun n.uses.length cun, .slice adn n.decls.length cdn]) (hm : ModIn w [] m aum cum adm cdm) (hn : ModIn w [] n aun cun adn cdn) : ModsAt w B [m, n] :=
  ⟨h.lt, fun i x hi => by
    match i, hi with
    | 0, hi => injection hi with hi; subst hi; exact ⟨_, _, _, _, hm, h.cell (i := 0) rfl, h.cell (i := 1) rfl, h.cell (i := 2) rfl⟩
    | 1, hi => injection hi with hi; subst hi; exact ⟨_, _, _, _, hn, h.cell (i := 3) rfl, h.cell (i := 4) rfl, h.cell (i := 5) rfl⟩
    | (i + 2), hi => simp at hi⟩
set_option maxRecDepth 100000 in
set_option maxHeartbeats 8000000 in
theorem LModmergeOneSide_any (m n : OMod) (aum adm aun adn : Option Addr) (cum cdm cun cdn : Nat) (w : World) (hm : ModIn w [] m aum cum adm cdm) (hn : ModIn w [] n aun cun adn cdn) (hbm : BigM m) (hbn : BigM n) :
    Calls Tryz.prog 4 #[modV m aum cum adm cdm, modV n aun cun adn cdn] w fun e w' => e = .returned (.bool true) ∧ Below w.heap.size w w' := by
  obtain ⟨hb, hr, hA⟩ := two_boxes w 25 25 #[.string m.label, .slice aum m.uses.length cum, .slice adm m.decls.length cdm] #[.string n.label, .slice aun n.uses.length cun, .slice adn n.decls.length cdn]
  have HM := Lib.hid hm
  have HN := Lib.hid hn
  have HBM := Lib.hid hbm
  have HBN := Lib.hid hbn
  have HAW := Lib.hid awake33_any
  clear hm hn hbm hbn
  unfold modV
  go_enter Tryz.func4, Tryz.ntmps4
  go_upto_region 1 with (fail)
  generalize (w.alloc (.cells #[.string m.label, .slice aum m.uses.length cum, .slice adm m.decls.length cdm] 25)).alloc (.cells #[.string n.label, .slice aun n.uses.length cun, .slice adn n.decls.length cdn] 25) = W0 at *
  obtain ⟨R, hR⟩ : ∃ R, w.heap.size + 1 = R := ⟨_, rfl⟩
  rw [hR] at hr ⊢
  have HR := Lib.hid hr
  have HB := Lib.hid hb
  have HA := Lib.hid hA
  obtain ⟨B, hB⟩ : ∃ B, w.heap.size = B := ⟨_, rfl⟩
  rw [hB] at HB ⊢
  have HBW : Hid (w.heap.size = B) := hB
  clear hR hB hr hb hA
  have y0 := (HB.out).cell (i := 0) (v := .string m.label) rfl
  have y1 := (HB.out).cell (i := 1) (v := .slice aum m.uses.length cum) rfl
  have y2 := (HB.out).cell (i := 2) (v := .slice adm m.decls.length cdm) rfl
  have yl := (HB.out).lt
  have z0 := (HR.out).cell (i := 0) (v := .string n.label) rfl
  have z1 := (HR.out).cell (i := 1) (v := .slice aun n.uses.length cun) rfl
  have z2 := (HR.out).cell (i := 2) (v := .slice adn n.decls.length cdn) rfl
  have zl := (HR.out).lt
  have hal := qalloc W0 (.cells #[.string m.label, .slice aum m.uses.length cum, .slice adm m.decls.length cdm, .string n.label, .slice aun n.uses.length cun, .slice adn n.decls.length cdn] 25)
  have hw1 := HA.out.trans (hal.mono HA.out.size)
  have HG := Lib.hid (great33_any [m, n] W0.heap.size _ (two_mods (CBox.new W0 25 #[.string m.label, .slice aum m.uses.length cum, .slice adm m.decls.length cdm, .string n.label, .slice aun n.uses.length cun, .slice adn n.decls.length cdn]) (HM.out.below hw1) (HN.out.below hw1)) (by
    intro x hx
    simp only [List.mem_cons, List.not_mem_nil, or_false] at hx
    rcases hx with rfl | rfl
    · exact HBM.out
    · exact HBN.out) (by simp))
  have HW1 := Lib.hid hw1
  have HAL := Lib.hid hal
  have HGF : Hid ([m, n].any greatM = false → (SmM m ∧ ∀ d ∈ m.decls, nodesN d.body ≤ 1000000) ∧ (SmM n ∧ ∀ d ∈ n.decls, nodesN d.body ≤ 1000000)) := fun h => by
    simp only [List.any_cons, List.any_nil, Bool.or_false, Bool.or_eq_false_iff] at h
    exact ⟨smM_of HBM.out h.1, smM_of HBN.out h.2⟩
  obtain ⟨x, hx⟩ : ∃ x, (m.label.toList == n.label.toList) = x := ⟨_, rfl⟩
  have HX : Hid (eqS m.label n.label = x) := hx
  have hx' : (m.label.toList == n.label.toList) = x := hx
  clear hal hw1 hx
  generalize [m, n].any greatM = q at *
  cases q with
  | true =>
    go_wp2_with (fail)
    refine HG.out.mono ?_
    rintro e w2 ⟨rfl, hb2⟩
    have HW2 := Lib.hid (HW1.out.trans (hb2.mono HW1.out.size))
    go_wp2_with (fail)
    refine (HAW.out _).mono ?_
    rintro e w3 ⟨rfl, hb3⟩
    go_wp2
    go_ret
    exact ⟨rfl, HW2.out.trans (hb3.mono HW2.out.size)⟩
  | false =>
    cases x with
    | false =>
      go_wp2_with (fail)
      refine HG.out.mono ?_
      rintro e w2 ⟨rfl, hb2⟩
      have HW2 := Lib.hid (HW1.out.trans (hb2.mono HW1.out.size))
      have hm2 := HB.out.below (HAL.out.trans (hb2.mono HAL.out.size))
      have hn2 := HR.out.below (HAL.out.trans (hb2.mono HAL.out.size))
      clear y0 y1 y2 yl z0 z1 z2 zl
      have y0 := (hm2).cell (i := 0) (v := .string m.label) rfl
      have y1 := (hm2).cell (i := 1) (v := .slice aum m.uses.length cum) rfl
      have y2 := (hm2).cell (i := 2) (v := .slice adm m.decls.length cdm) rfl
      have yl := (hm2).lt
      have z0 := (hn2).cell (i := 0) (v := .string n.label) rfl
      have z1 := (hn2).cell (i := 1) (v := .slice aun n.uses.length cun) rfl
      have z2 := (hn2).cell (i := 2) (v := .slice adn n.decls.length cdn) rfl
      have zl := (hn2).lt
      go_wp2_with (fail)
      refine (HAW.out _).mono ?_
      rintro e w3 ⟨rfl, hb3⟩
      go_wp2
      go_ret
      exact ⟨rfl, HW2.out.trans (hb3.mono HW2.out.size)⟩
    | true =>
      obtain ⟨⟨sm, nm⟩, ⟨sn, nn⟩⟩ := HGF.out rfl
      have HSM := Lib.hid sm
      have HNM := Lib.hid nm
      have HSN := Lib.hid sn
      have HNN := Lib.hid nn
      clear sm nm sn nn HGF
      go_wp2_with (fail)
      refine HG.out.mono ?_
      rintro e w2 ⟨rfl, hb2⟩
      have HW2 := Lib.hid (HW1.out.trans (hb2.mono HW1.out.size))
      have HB2 := Lib.hid (HB.out.below (HAL.out.trans (hb2.mono HAL.out.size)))
      have HR2 := Lib.hid (HR.out.below (HAL.out.trans (hb2.mono HAL.out.size)))
      clear y0 y1 y2 yl z0 z1 z2 zl HB HR HG HAL HW1 hb2
      have y0 := (HB2.out).cell (i := 0) (v := .string m.label) rfl
      have y1 := (HB2.out).cell (i := 1) (v := .slice aum m.uses.length cum) rfl
      have y2 := (HB2.out).cell (i := 2) (v := .slice adm m.decls.length cdm) rfl
      have yl := (HB2.out).lt
      have z0 := (HR2.out).cell (i := 0) (v := .string n.label) rfl
      have z1 := (HR2.out).cell (i := 1) (v := .slice aun n.uses.length cun) rfl
      have z2 := (HR2.out).cell (i := 2) (v := .slice adn n.decls.length cdn) rfl
      have zl := (HR2.out).lt
      have HC := Lib.hid (mMerge_any m m n aum aum aun adm adm adn cum cum cun cdm cdm cdn [] w2 (by simp) ⟨HM.out.below HW2.out, HSM.out, HNM.out⟩ ⟨HM.out.below HW2.out, HSM.out, HNM.out⟩ ⟨HN.out.below HW2.out, HSN.out, HNN.out⟩)
      unfold modV at HC
      obtain ⟨qa, hqa⟩ : ∃ q, mergeMErr m m n = q := ⟨_, rfl⟩
      obtain ⟨xa, hxa⟩ : ∃ x, mergeM m m n = x := ⟨_, rfl⟩
      have HQa := Lib.hid hqa
      have HXa := Lib.hid hxa
      clear hqa hxa
      go_wp2_with (fail)
      refine HC.out.mono ?_
      rintro e w3 ⟨aua, cua, ada, cda, rfl, hmx, hb3⟩
      clear y0 y1 y2 yl z0 z1 z2 zl HC
      rw [HQa.out, HXa.out]
      rw [HXa.out] at hmx
      unfold modV
      have hal := qalloc w3 (.cells #[.string xa.label, .slice aua xa.uses.length cua, .slice ada xa.decls.length cda] 25)
      have hbn := qtrans hb3 hal
      have HBXa := Lib.hid (CBox.new w3 25 #[.string xa.label, .slice aua xa.uses.length cua, .slice ada xa.decls.length cda])
      have HMXa := Lib.hid (hmx.below hal)
      have HW4 := Lib.hid (HW2.out.trans (hbn.mono HW2.out.size))
      have HB4 := Lib.hid (HB2.out.below hbn)
      have HR4 := Lib.hid (HR2.out.below hbn)
      go_upto_region 4 with (fail)
      clear hal hbn hb3 hmx HB2 HR2 HW2
      generalize w3.alloc (.cells #[.string xa.label, .slice aua xa.uses.length cua, .slice ada xa.decls.length cda] 25) = w4 at *
      generalize w3.heap.size = Na at *
      have y0 := (HB4.out).cell (i := 0) (v := .string m.label) rfl
      have y1 := (HB4.out).cell (i := 1) (v := .slice aum m.uses.length cum) rfl
      have y2 := (HB4.out).cell (i := 2) (v := .slice adm m.decls.length cdm) rfl
      have yl := (HB4.out).lt
      have z0 := (HR4.out).cell (i := 0) (v := .string n.label) rfl
      have z1 := (HR4.out).cell (i := 1) (v := .slice aun n.uses.length cun) rfl
      have z2 := (HR4.out).cell (i := 2) (v := .slice adn n.decls.length cdn) rfl
      have zl := (HR4.out).lt
      have HC := Lib.hid (mMerge_any m n m aum aun aum adm adn adm cum cun cum cdm cdn cdm [] w4 (by simp) ⟨HM.out.below HW4.out, HSM.out, HNM.out⟩ ⟨HN.out.below HW4.out, HSN.out, HNN.out⟩ ⟨HM.out.below HW4.out, HSM.out, HNM.out⟩)
      unfold modV at HC
      obtain ⟨qb, hqb⟩ : ∃ q, mergeMErr m n m = q := ⟨_, rfl⟩
      obtain ⟨xb, hxb⟩ : ∃ x, mergeM m n m = x := ⟨_, rfl⟩
      have HQb := Lib.hid hqb
      have HXb := Lib.hid hxb
      clear hqb hxb
      go_wp2_with (fail)
      refine HC.out.mono ?_
      rintro e w5 ⟨aub, cub, adb, cdb, rfl, hmx, hb5⟩
      clear y0 y1 y2 yl z0 z1 z2 zl HC
      rw [HQb.out, HXb.out]
      rw [HXb.out] at hmx
      unfold modV
      have hal := qalloc w5 (.cells #[.string xb.label, .slice aub xb.uses.length cub, .slice adb xb.decls.length cdb] 25)
      have hbn := qtrans hb5 hal
      have HBXb := Lib.hid (CBox.new w5 25 #[.string xb.label, .slice aub xb.uses.length cub, .slice adb xb.decls.length cdb])
      have HMXb := Lib.hid (hmx.below hal)
      have HW6 := Lib.hid (HW4.out.trans (hbn.mono HW4.out.size))
      have HB6 := Lib.hid (HB4.out.below hbn)
      have HR6 := Lib.hid (HR4.out.below hbn)
      have HBXa := Lib.hid (HBXa.out.below hbn)
      have HMXa := Lib.hid (HMXa.out.below hbn)
      go_upto_region 5 with (fail)
      clear hal hbn hb5 hmx HB4 HR4 HW4
      generalize w5.alloc (.cells #[.string xb.label, .slice aub xb.uses.length cub, .slice adb xb.decls.length cdb] 25) = w6 at *
      generalize w5.heap.size = Nb at *
      have y0 := (HB6.out).cell (i := 0) (v := .string m.label) rfl
      have y1 := (HB6.out).cell (i := 1) (v := .slice aum m.uses.length cum) rfl
      have y2 := (HB6.out).cell (i := 2) (v := .slice adm m.decls.length cdm) rfl
      have yl := (HB6.out).lt
      have z0 := (HR6.out).cell (i := 0) (v := .string n.label) rfl
      have z1 := (HR6.out).cell (i := 1) (v := .slice aun n.uses.length cun) rfl
      have z2 := (HR6.out).cell (i := 2) (v := .slice adn n.decls.length cdn) rfl
      have zl := (HR6.out).lt
      have HC := Lib.hid (mMerge_any m n n aum aun aun adm adn adn cum cun cun cdm cdn cdn [] w6 (by simp) ⟨HM.out.below HW6.out, HSM.out, HNM.out⟩ ⟨HN.out.below HW6.out, HSN.out, HNN.out⟩ ⟨HN.out.below HW6.out, HSN.out, HNN.out⟩)
      unfold modV at HC
      obtain ⟨qc, hqc⟩ : ∃ q, mergeMErr m n n = q := ⟨_, rfl⟩
      obtain ⟨xc, hxc⟩ : ∃ x, mergeM m n n = x := ⟨_, rfl⟩
      have HQc := Lib.hid hqc
      have HXc := Lib.hid hxc
      clear hqc hxc
      go_wp2_with (fail)
      refine HC.out.mono ?_
      rintro e w7 ⟨auc, cuc, adc, cdc, rfl, hmx, hb7⟩
      clear y0 y1 y2 yl z0 z1 z2 zl HC
      rw [HQc.out, HXc.out]
      rw [HXc.out] at hmx
      unfold modV
      have hal := qalloc w7 (.cells #[.string xc.label, .slice auc xc.uses.length cuc, .slice adc xc.decls.length cdc] 25)
      have hbn := qtrans hb7 hal
      have HBXc := Lib.hid (CBox.new w7 25 #[.string xc.label, .slice auc xc.uses.length cuc, .slice adc xc.decls.length cdc])
      have HMXc := Lib.hid (hmx.below hal)
      have HW8 := Lib.hid (HW6.out.trans (hbn.mono HW6.out.size))
      have HB8 := Lib.hid (HB6.out.below hbn)
      have HR8 := Lib.hid (HR6.out.below hbn)
      have HBXa := Lib.hid (HBXa.out.below hbn)
      have HMXa := Lib.hid (HMXa.out.below hbn)
      have HBXb := Lib.hid (HBXb.out.below hbn)
      have HMXb := Lib.hid (HMXb.out.below hbn)
      go_upto_region 6 with (fail)
      clear hal hbn hb7 hmx HB6 HR6 HW6
      generalize w7.alloc (.cells #[.string xc.label, .slice auc xc.uses.length cuc, .slice adc xc.decls.length cdc] 25) = w8 at *
      generalize w7.heap.size = Nc at *
      have HLE : Hid (m.label = n.label) := eqS_iff.1 HX.out
      clear HX
      have y0 := (HB8.out).cell (i := 0) (v := .string m.label) rfl
      have y1 := (HB8.out).cell (i := 1) (v := .slice aum m.uses.length cum) rfl
      have y2 := (HB8.out).cell (i := 2) (v := .slice adm m.decls.length cdm) rfl
      have yl := (HB8.out).lt
      have z0 := (HR8.out).cell (i := 0) (v := .string n.label) rfl
      have z1 := (HR8.out).cell (i := 1) (v := .slice aun n.uses.length cun) rfl
      have z2 := (HR8.out).cell (i := 2) (v := .slice adn n.decls.length cdn) rfl
      have zl := (HR8.out).lt
      have HCM := Lib.hid (bCheck_any m aum cum adm cdm w8 (reads_strs.1 (HM.out.uses.below HW8.out)).1 (HM.out.decls.below HW8.out) HSM.out)
      unfold modV at HCM
      by_cases h0 : modErr m = 0
      · by_cases h1 : modErr n = 0
        · obtain ⟨ea, fa⟩ := side_left h0 h1 HLE.out
          obtain ⟨eb, fb⟩ := side_right h0 h1 HLE.out
          obtain ⟨ec, fc⟩ := side_both h0 h1 HLE.out
          have ka := HQa.out.symm.trans ea
          have la := (HXa.out.symm.trans fa).symm
          have kb := HQb.out.symm.trans eb
          have lb := (HXb.out.symm.trans fb).symm
          have kc := HQc.out.symm.trans ec
          have lc := (HXc.out.symm.trans fc).symm
          clear HQa HQb HQc HXa HXb HXc ea eb ec fa fb fc
          subst ka kb kc la lb lc
          rw [h0] at HCM
          go_wp2_with (fail)
          refine HCM.out.mono ?_
          rintro e w9 ⟨rfl, hb9⟩
          have HB9 := Lib.hid (HB8.out.below hb9)
          have HR9 := Lib.hid (HR8.out.below hb9)
          have HW9 := Lib.hid (HW8.out.trans (hb9.mono HW8.out.size))
          have HBXa := Lib.hid (HBXa.out.below hb9)
          have HMXa := Lib.hid (HMXa.out.below hb9)
          have HBXb := Lib.hid (HBXb.out.below hb9)
          have HMXb := Lib.hid (HMXb.out.below hb9)
          have HBXc := Lib.hid (HBXc.out.below hb9)
          have HMXc := Lib.hid (HMXc.out.below hb9)
          have HCN := Lib.hid (bCheck_any n aun cun adn cdn w9 (reads_strs.1 (HN.out.uses.below HW9.out)).1 (HN.out.decls.below HW9.out) HSN.out)
          unfold modV at HCN
          clear y0 y1 y2 yl z0 z1 z2 zl HCM hb9 HB8 HR8 HW8
          have z0 := (HR9.out).cell (i := 0) (v := .string n.label) rfl
          have z1 := (HR9.out).cell (i := 1) (v := .slice aun n.uses.length cun) rfl
          have z2 := (HR9.out).cell (i := 2) (v := .slice adn n.decls.length cdn) rfl
          have zl := (HR9.out).lt
          rw [h1] at HCN
          go_wp2_with (fail)
          refine HCN.out.mono ?_
          rintro e w10 ⟨rfl, hb10⟩
          have HB10 := Lib.hid (HB9.out.below hb10)
          have HR10 := Lib.hid (HR9.out.below hb10)
          have HW10 := Lib.hid (HW9.out.trans (hb10.mono HW9.out.size))
          have HBXa := Lib.hid (HBXa.out.below hb10)
          have HMXa := Lib.hid (HMXa.out.below hb10)
          have HBXb := Lib.hid (HBXb.out.below hb10)
          have HMXb := Lib.hid (HMXb.out.below hb10)
          have HBXc := Lib.hid (HBXc.out.below hb10)
          have HMXc := Lib.hid (HMXc.out.below hb10)
          clear z0 z1 z2 zl HCN hb10 HB9 HR9 HW9
          have y0 := (HBXa.out).cell (i := 0) (v := .string n.label) rfl
          have y1 := (HBXa.out).cell (i := 1) (v := .slice aua n.uses.length cua) rfl
          have y2 := (HBXa.out).cell (i := 2) (v := .slice ada n.decls.length cda) rfl
          have yl := (HBXa.out).lt
          have z0 := (HR10.out).cell (i := 0) (v := .string n.label) rfl
          have z1 := (HR10.out).cell (i := 1) (v := .slice aun n.uses.length cun) rfl
          have z2 := (HR10.out).cell (i := 2) (v := .slice adn n.decls.length cdn) rfl
          have zl := (HR10.out).lt
          have HS := Lib.hid (r24Same_any n n aua ada aun adn cua cda cun cdn w10 HMXa.out (HN.out.below HW10.out) (fun d hd => ⟨(HSN.out.decls d hd).len, HNN.out d hd⟩) HSN.out.ulen HSN.out.dlen)
          unfold modV at HS
          rw [sameM_iff.2 rfl] at HS
          go_wp2_with (fail)
          refine HS.out.mono ?_
          rintro e w11 ⟨rfl, hbs⟩
          have HR11 := Lib.hid (HR10.out.below hbs)
          have HW11 := Lib.hid (HW10.out.trans (hbs.mono HW10.out.size))
          have HBXb := Lib.hid (HBXb.out.below hbs)
          have HMXb := Lib.hid (HMXb.out.below hbs)
          have HBXc := Lib.hid (HBXc.out.below hbs)
          have HMXc := Lib.hid (HMXc.out.below hbs)
          clear y0 y1 y2 yl z0 z1 z2 zl HS hbs
          have y0 := (HBXb.out).cell (i := 0) (v := .string n.label) rfl
          have y1 := (HBXb.out).cell (i := 1) (v := .slice aub n.uses.length cub) rfl
          have y2 := (HBXb.out).cell (i := 2) (v := .slice adb n.decls.length cdb) rfl
          have yl := (HBXb.out).lt
          have z0 := (HR11.out).cell (i := 0) (v := .string n.label) rfl
          have z1 := (HR11.out).cell (i := 1) (v := .slice aun n.uses.length cun) rfl
          have z2 := (HR11.out).cell (i := 2) (v := .slice adn n.decls.length cdn) rfl
          have zl := (HR11.out).lt
          have HS := Lib.hid (r24Same_any n n aub adb aun adn cub cdb cun cdn w11 HMXb.out (HN.out.below HW11.out) (fun d hd => ⟨(HSN.out.decls d hd).len, HNN.out d hd⟩) HSN.out.ulen HSN.out.dlen)
          unfold modV at HS
          rw [sameM_iff.2 rfl] at HS
          go_wp2_with (fail)
          refine HS.out.mono ?_
          rintro e w12 ⟨rfl, hbs⟩
          have HR12 := Lib.hid (HR11.out.below hbs)
          have HW12 := Lib.hid (HW11.out.trans (hbs.mono HW11.out.size))
          have HBXc := Lib.hid (HBXc.out.below hbs)
          have HMXc := Lib.hid (HMXc.out.below hbs)
          clear y0 y1 y2 yl z0 z1 z2 zl HS hbs
          have y0 := (HBXc.out).cell (i := 0) (v := .string n.label) rfl
          have y1 := (HBXc.out).cell (i := 1) (v := .slice auc n.uses.length cuc) rfl
          have y2 := (HBXc.out).cell (i := 2) (v := .slice adc n.decls.length cdc) rfl
          have yl := (HBXc.out).lt
          have z0 := (HR12.out).cell (i := 0) (v := .string n.label) rfl
          have z1 := (HR12.out).cell (i := 1) (v := .slice aun n.uses.length cun) rfl
          have z2 := (HR12.out).cell (i := 2) (v := .slice adn n.decls.length cdn) rfl
          have zl := (HR12.out).lt
          have HS := Lib.hid (r24Same_any n n auc adc aun adn cuc cdc cun cdn w12 HMXc.out (HN.out.below HW12.out) (fun d hd => ⟨(HSN.out.decls d hd).len, HNN.out d hd⟩) HSN.out.ulen HSN.out.dlen)
          unfold modV at HS
          rw [sameM_iff.2 rfl] at HS
          go_wp2_with (fail)
          refine HS.out.mono ?_
          rintro e w13 ⟨rfl, hbs⟩
          have HR13 := Lib.hid (HR12.out.below hbs)
          have HW13 := Lib.hid (HW12.out.trans (hbs.mono HW12.out.size))
          clear y0 y1 y2 yl z0 z1 z2 zl HS hbs
          go_wp2_with (fail)
          refine (HAW.out _).mono ?_
          rintro e w14 ⟨rfl, hb14⟩
          go_wp2
          go_ret
          exact ⟨rfl, HW13.out.trans (hb14.mono HW13.out.size)⟩
        · skip
          rw [h0] at HCM
          go_wp2_with (fail)
          refine HCM.out.mono ?_
          rintro e w9 ⟨rfl, hb9⟩
          have HB9 := Lib.hid (HB8.out.below hb9)
          have HR9 := Lib.hid (HR8.out.below hb9)
          have HW9 := Lib.hid (HW8.out.trans (hb9.mono HW8.out.size))
          have HBXa := Lib.hid (HBXa.out.below hb9)
          have HMXa := Lib.hid (HMXa.out.below hb9)
          have HBXb := Lib.hid (HBXb.out.below hb9)
          have HMXb := Lib.hid (HMXb.out.below hb9)
          have HBXc := Lib.hid (HBXc.out.below hb9)
          have HMXc := Lib.hid (HMXc.out.below hb9)
          have HCN := Lib.hid (bCheck_any n aun cun adn cdn w9 (reads_strs.1 (HN.out.uses.below HW9.out)).1 (HN.out.decls.below HW9.out) HSN.out)
          unfold modV at HCN
          clear y0 y1 y2 yl z0 z1 z2 zl HCM hb9 HB8 HR8 HW8
          have z0 := (HR9.out).cell (i := 0) (v := .string n.label) rfl
          have z1 := (HR9.out).cell (i := 1) (v := .slice aun n.uses.length cun) rfl
          have z2 := (HR9.out).cell (i := 2) (v := .slice adn n.decls.length cdn) rfl
          have zl := (HR9.out).lt
          have za : (qa != 0) = true := by rw [← HQa.out]; simpa using mergeMErr_ne (.inr (.inr h1))
          have zb : (qb != 0) = true := by rw [← HQb.out]; simpa using mergeMErr_ne (.inr (.inl h1))
          have zc : (qc != 0) = true := by rw [← HQc.out]; simpa using mergeMErr_ne (.inr (.inl h1))
          obtain ⟨en, hen⟩ : ∃ e, modErr n = e := ⟨_, rfl⟩
          have zn : (en != 0) = true := by rw [← hen]; simpa using h1
          rw [hen] at HCN
          clear hen h0 h1
          go_wp2_with (fail)
          refine HCN.out.mono ?_
          rintro e w10 ⟨rfl, hb10⟩
          have HW10 := Lib.hid (HW9.out.trans (hb10.mono HW9.out.size))
          go_wp2_with (fail)
          refine (HAW.out _).mono ?_
          rintro e w11 ⟨rfl, hb11⟩
          go_wp2
          go_ret
          exact ⟨rfl, HW10.out.trans (hb11.mono HW10.out.size)⟩
      · skip
        have za : (qa != 0) = true := by rw [← HQa.out]; simpa using mergeMErr_ne (.inl h0)
        have zb : (qb != 0) = true := by rw [← HQb.out]; simpa using mergeMErr_ne (.inl h0)
        have zc : (qc != 0) = true := by rw [← HQc.out]; simpa using mergeMErr_ne (.inl h0)
        obtain ⟨en, hen⟩ : ∃ e, modErr m = e := ⟨_, rfl⟩
        have zn : (en != 0) = true := by rw [← hen]; simpa using h0
        rw [hen] at HCM
        clear hen h0
        go_wp2_with (fail)
        refine HCM.out.mono ?_
        rintro e w9 ⟨rfl, hb9⟩
        have HW9 := Lib.hid (HW8.out.trans (hb9.mono HW8.out.size))
        go_wp2_with (fail)
        refine (HAW.out _).mono ?_
        rintro e w10 ⟨rfl, hb10⟩
        go_wp2
        go_ret
        exact ⟨rfl, HW9.out.trans (hb10.mono HW9.out.size)⟩
end Go.Proofs.YtlgnedahnaojlaaGreatDoor

