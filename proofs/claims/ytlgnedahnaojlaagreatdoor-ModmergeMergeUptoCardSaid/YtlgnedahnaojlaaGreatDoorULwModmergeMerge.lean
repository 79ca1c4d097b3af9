/- The law ModmergeMerge, walked: it returns true. -/
import Derived.Test.YtlgnedahnaojlaaGreatDoorUGE
import Derived.Test.YtlgnedahnaojlaaGreatDoorUYR
namespace Go.Proofs.YtlgnedahnaojlaaGreatDoor
open Go.RowKit Go.Shelf
attribute [local go_sem] Oper.semAt_some

theorem mergeM_smn {b l r : OMod} (hb : SmN b) (hl : SmN l) (hr : SmN r) : SmN (mergeM b l r) := by
 by_cases h : mergeMErr b l r = 0
 ·exact mergeM_sm hb hl hr h
 ·have e : mergeM b l r = noMod := by unfold mergeM; rw [if_neg h]
  rw [e]; exact ⟨⟨Nat.zero_le _, by simp [noMod], by simp [noMod], by simp [noMod], by simp [noMod]⟩, by simp [noMod]⟩
theorem three_mods {w : World} {B : Nat} {b l r : OMod} {aub adb aul adl aur adr : Option Addr} {cub cdb cul cdl cur cdr : Nat} (h : CBox w B 25 #[.string b.label, .slice aub b.uses.length cub, .slice adb b.decls.length cdb, .string l.label, .slice aul l.uses.length cul, .slice adl l.decls.length cdl, .string r.label, .slice aur r.uses.length cur, .slice adr r.decls.length cdr]) (hb : ModIn w [] b aub cub adb cdb) (hl : ModIn w [] l aul cul adl cdl) (hr : ModIn w [] r aur cur adr cdr) : ModsAt w B [b, l, r] :=
 ⟨h.lt, fun i x hi => by
  match i, hi with
  | 0, hi => injection hi with hi; subst hi; exact ⟨_, _, _, _, hb, h.cell (i := 0) rfl, h.cell (i := 1) rfl, h.cell (i := 2) rfl⟩
  | 1, hi => injection hi with hi; subst hi; exact ⟨_, _, _, _, hl, h.cell (i := 3) rfl, h.cell (i := 4) rfl, h.cell (i := 5) rfl⟩
  | 2, hi => injection hi with hi; subst hi; exact ⟨_, _, _, _, hr, h.cell (i := 6) rfl, h.cell (i := 7) rfl, h.cell (i := 8) rfl⟩
  | (i + 3), hi => simp at hi⟩
set_option maxRecDepth 100000 in
set_option maxHeartbeats 8000000 in
theorem LModmergeMerge_any (b l r : OMod) (aub adb aul adl aur adr : Option Addr) (cub cdb cul cdl cur cdr : Nat) (w : World) (hb : ModIn w [] b aub cub adb cdb) (hl : ModIn w [] l aul cul adl cdl) (hr : ModIn w [] r aur cur adr cdr) (hbb : BigM b) (hbl : BigM l) (hbr : BigM r) :
  Calls Tryz.prog 3 #[modV b aub cub adb cdb, modV l aul cul adl cdl, modV r aur cur adr cdr] w fun e w' => e = .returned (.bool true) ∧ Bw w w' := by
 obtain ⟨gb, gl, gr, hA, hs3⟩ := three_boxes w 25 (mA b aub cub adb cdb) (mA l aul cul adl cdl) (mA r aur cur adr cdr); have HMb := lH hb; have HMl := lH hl; have HMr := lH hr; have HGb := lH hbb; have HGl := lH hbl; have HGr := lH hbr; have HAW := lH awake33_any; clear hb hl hr hbb hbl hbr; unfold modV
 go_enter Tryz.func3, Tryz.ntmps3
 go_upto_region 1 with (fail)
 generalize ((w.alloc (.cells (mA b aub cub adb cdb) 25)).alloc (.cells (mA l aul cul adl cdl) 25)).alloc (.cells (mA r aur cur adr cdr) 25) = W0 at *; clear hs3; obtain ⟨R, hR⟩ : ∃ R, w.heap.size + 1 + 1 = R := ⟨_, rfl⟩; rw [hR] at gr ⊢; obtain ⟨M, hM⟩ : ∃ M, w.heap.size + 1 = M := ⟨_, rfl⟩; rw [hM] at gl ⊢; clear hR; obtain ⟨B, hB⟩ : ∃ B, w.heap.size = B := ⟨_, rfl⟩; rw [hB] at gb ⊢; clear hM hB; have HW0 := lH hA; have HBb0 := lH gb; have HBl0 := lH gl; have HBr0 := lH gr; clear hA gb gl gr; obtain ⟨yb0, yb1, yb2, ybl⟩ := cells3 HBb0.out; obtain ⟨yl0, yl1, yl2, yll⟩ := cells3 HBl0.out
 obtain ⟨yr0, yr1, yr2, yrl⟩ := cells3 HBr0.out; have hal := qalloc W0 (.cells #[.string b.label, .slice aub b.uses.length cub, .slice adb b.decls.length cdb, .string l.label, .slice aul l.uses.length cul, .slice adl l.decls.length cdl, .string r.label, .slice aur r.uses.length cur, .slice adr r.decls.length cdr] 25); have hw1 := HW0.out.trans (hal.mono HW0.out.size)
 have HG := lH (great33_any [b, l, r] W0.heap.size _ (three_mods (CBox.new W0 25 #[.string b.label, .slice aub b.uses.length cub, .slice adb b.decls.length cdb, .string l.label, .slice aul l.uses.length cul, .slice adl l.decls.length cdl, .string r.label, .slice aur r.uses.length cur, .slice adr r.decls.length cdr]) (HMb.out.below hw1) (HMl.out.below hw1) (HMr.out.below hw1)) (by
  intro x hx; simp only [List.mem_cons, List.not_mem_nil, or_false] at hx
  rcases hx with rfl | rfl | rfl
  ·exact HGb.out
  ·exact HGl.out
  ·exact HGr.out) (by simp))
 have HGF : Hid ([b, l, r].any greatM = false → SmN b ∧ SmN l ∧ SmN r) := fun h => by
  simp only [List.any_cons, List.any_nil, Bool.or_false, Bool.or_eq_false_iff] at h
  exact ⟨smM_of HGb.out h.1, smM_of HGl.out h.2.1, smM_of HGr.out h.2.2⟩
 have HAL := lH hal; clear hal hw1; generalize [b, l, r].any greatM = q at *
 cases q with
 | true =>
  go_wp2_with (fail)
  refine HG.out.mono ?_; rintro e w2 ⟨rfl, hb2⟩; have HW2 := lH (HW0.out.trans ((HAL.out.trans (hb2.mono HAL.out.size)).mono HW0.out.size)); go_wp2_with (fail)
  refine (HAW.out _).mono ?_; rintro e wz ⟨rfl, hbz⟩; go_wp2; go_ret; exact ⟨rfl, HW2.out.trans (hbz.mono HW2.out.size)⟩
 | false =>
  obtain ⟨sb, sl, sr⟩ := HGF.out rfl; have HSb := lH sb; have HSl := lH sl; have HSr := lH sr; clear sb sl sr HGF; go_wp2_with (fail)
  refine HG.out.mono ?_; rintro e w2 ⟨rfl, hb2⟩; have hb02 := HAL.out.trans (hb2.mono HAL.out.size); have HBb2 := lH (HBb0.out.below hb02); have HBl2 := lH (HBl0.out.below hb02); have HBr2 := lH (HBr0.out.below hb02); have HW2 := lH (HW0.out.trans (hb02.mono HW0.out.size)); clear HBb0 HBl0 HBr0 HW0; clear hb2 hb02 HAL HG yb0 yb1 yb2 ybl yl0 yl1 yl2 yll yr0 yr1 yr2 yrl; obtain ⟨yb0, yb1, yb2, ybl⟩ := cells3 HBb2.out; obtain ⟨yl0, yl1, yl2, yll⟩ := cells3 HBl2.out; obtain ⟨yr0, yr1, yr2, yrl⟩ := cells3 HBr2.out
  have HC := lH (mMerge_any b l r aub aul aur adb adl adr cub cul cur cdb cdl cdr [] w2 (by simp) ⟨HMb.out.below HW2.out, HSb.out.1, HSb.out.2⟩ ⟨HMl.out.below HW2.out, HSl.out.1, HSl.out.2⟩ ⟨HMr.out.below HW2.out, HSr.out.1, HSr.out.2⟩); unfold modV at HC; obtain ⟨qm, hqm⟩ : ∃ q, mergeMErr b l r = q := ⟨_, rfl⟩; obtain ⟨xm, hxm⟩ : ∃ x, mergeM b l r = x := ⟨_, rfl⟩; have HQm := lH hqm; have HXm := lH hxm; clear hqm hxm; go_wp2_with (fail)
  refine HC.out.mono ?_; rintro e v3 ⟨aum, cum, adm, cdm, rfl, hmx, hbm⟩; clear HC yb0 yb1 yb2 ybl yl0 yl1 yl2 yll yr0 yr1 yr2 yrl ; rw [HQm.out, HXm.out]; rw [HXm.out] at hmx; unfold modV; have hal := qalloc v3 (.cells (mA xm aum cum adm cdm) 25); have hbn := qtrans hbm hal; have HBXm := lH (CBox.new v3 25 (mA xm aum cum adm cdm)); have HMXm := lH (hmx.below hal); have HBb3 := lH (HBb2.out.below hbn); have HBl3 := lH (HBl2.out.below hbn); have HBr3 := lH (HBr2.out.below hbn); have HW3 := lH (HW2.out.trans (hbn.mono HW2.out.size)); clear HBb2 HBl2 HBr2 HW2; go_upto_region 4 with (fail)
  clear hal hbn hbm hmx; generalize World.alloc v3 _ = w3 at *; generalize v3.heap.size = Nm at *; obtain ⟨yb0, yb1, yb2, ybl⟩ := cells3 HBb3.out; obtain ⟨yl0, yl1, yl2, yll⟩ := cells3 HBl3.out; obtain ⟨yr0, yr1, yr2, yrl⟩ := cells3 HBr3.out; have HC := lH (r33Merge_any b l r aub aul aur adb adl adr cub cul cur cdb cdl cdr [] w3 (by simp) ⟨HMb.out.below HW3.out, HSb.out.1, HSb.out.2⟩ ⟨HMl.out.below HW3.out, HSl.out.1, HSl.out.2⟩ ⟨HMr.out.below HW3.out, HSr.out.1, HSr.out.2⟩); unfold modV at HC; obtain ⟨qc, hqc⟩ : ∃ q, mergeMErr b l r = q := ⟨_, rfl⟩
  obtain ⟨xc, hxc⟩ : ∃ x, mergeM b l r = x := ⟨_, rfl⟩; have HQc := lH hqc; have HXc := lH hxc; clear hqc hxc; go_wp2_with (fail)
  refine HC.out.mono ?_; rintro e v4 ⟨auc, cuc, adc, cdc, rfl, hmx, hbm⟩; clear HC yb0 yb1 yb2 ybl yl0 yl1 yl2 yll yr0 yr1 yr2 yrl ; rw [HQc.out, HXc.out]; rw [HXc.out] at hmx; unfold modV; have hal := qalloc v4 (.cells (mA xc auc cuc adc cdc) 25); have hbn := qtrans hbm hal; have HBXc := lH (CBox.new v4 25 (mA xc auc cuc adc cdc)); have HMXc := lH (hmx.below hal); have HBb4 := lH (HBb3.out.below hbn); have HBl4 := lH (HBl3.out.below hbn); have HBr4 := lH (HBr3.out.below hbn); have HW4 := lH (HW3.out.trans (hbn.mono HW3.out.size)); have HBXm := lH (HBXm.out.below hbn)
  have HMXm := lH (HMXm.out.below hbn); clear HBb3 HBl3 HBr3 HW3; go_upto_region 5 with (fail)
  clear hal hbn hbm hmx; generalize World.alloc v4 _ = w4 at *; generalize v4.heap.size = Nc at *; have HSX : Hid (SmN xm) := by show SmN xm; rw [← HXm.out]; exact mergeM_smn HSb.out HSl.out HSr.out
  have k1 : qm = qc := HQm.out.symm.trans HQc.out; have k2 : xm = xc := HXm.out.symm.trans HXc.out; clear HQm HQc HXm HXc; subst k1 k2; have hqq : (qm == qm) = true := by simp
  obtain ⟨y0, y1, y2, yl⟩ := cells3 HBXm.out; obtain ⟨z0, z1, z2, zl⟩ := cells3 HBXc.out; have HS9 := lH (r24Same_any xm xm aum adm auc adc cum cdm cuc cdc w4 HMXm.out HMXc.out (fun d hd => ⟨(HSX.out.1.decls d hd).len, HSX.out.2 d hd⟩) HSX.out.1.ulen HSX.out.1.dlen); unfold modV at HS9; rw [sameM_iff.2 rfl] at HS9; go_wp2_with (fail)
  refine HS9.out.mono ?_; rintro e w5 ⟨rfl, hbs⟩; have HW5 := lH (HW4.out.trans (hbs.mono HW4.out.size)); have HBXm := lH (HBXm.out.below hbs); have HMXm := lH (HMXm.out.below hbs); have HBXc := lH (HBXc.out.below hbs); have HMXc := lH (HMXc.out.below hbs); clear HS9 hbs HW4 y0 y1 y2 yl z0 z1 z2 zl; go_wp2_with (fail)
  refine (HAW.out _).mono ?_; rintro e wz ⟨rfl, hbz⟩; go_wp2; go_ret; exact ⟨rfl, HW5.out.trans (hbz.mono HW5.out.size)⟩
end Go.Proofs.YtlgnedahnaojlaaGreatDoor

