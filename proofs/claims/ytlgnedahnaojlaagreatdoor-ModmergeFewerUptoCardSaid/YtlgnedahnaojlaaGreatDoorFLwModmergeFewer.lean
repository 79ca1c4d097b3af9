/- The law ModmergeFewer, walked: it returns true. -/
import Derived.Test.YtlgnedahnaojlaaGreatDoorFSO
import Derived.Test.YtlgnedahnaojlaaGreatDoorFSK
import Derived.Test.YtlgnedahnaojlaaGreatDoorFYC
import Derived.Test.YtlgnedahnaojlaaGreatDoorFGE
namespace Go.Proofs.YtlgnedahnaojlaaGreatDoor
open Go.RowKit Go.Shelf
attribute [local go_sem] Oper.semAt_some

theorem noX_sm : SmX 40000 noX := SmX.mk (Nat.zero_le _) (Nat.zero_le _) ⟨by decide, by decide⟩ ⟨by decide, by decide⟩ ⟨by decide, by decide⟩ (fun y hy => by cases hy)
theorem one_modF {w : World} {B : Nat} {b : OMod} {aub adb : Option Addr} {cub cdb : Nat} (h : CBox w B 25 #[.string b.label, .slice aub b.uses.length cub, .slice adb b.decls.length cdb]) (hb : ModIn w [] b aub cub adb cdb) : ModsAt w B [b] :=
 ⟨h.lt, fun i x hi => by
  match i, hi with
  | 0, hi => injection hi with hi; subst hi; exact ⟨_, _, _, _, hb, h.cell (i := 0) rfl, h.cell (i := 1) rfl, h.cell (i := 2) rfl⟩
  | (i + 1), hi => simp at hi⟩
theorem settle_both {m : OMod} {s : OSpot} {k : Int} (S : SmN m) (hk : 0 ≤ k ∧ k ≤ 2) (h : settleMErr m s k = 0) : SmN (settleM m s k) ∧ modErr (settleM m s k) = 0 := by
 obtain ⟨hm, hs, hb, hl, e⟩ := settle_ok h; rw [e]; refine ⟨⟨settle_sm S.1 hm hk hl (fun t ht => by have := nmS_size ht; omega) noX_sm, fun d hd => ?_⟩, settle_valid hm hk hl⟩; have V := valM (settle_valid hm hk hl); have := (exprErr_iff.1 (decl_ok (V.decl d hd)).2.2.2).1; omega
theorem spotsM_ok {m : OMod} (h : modErr m = 0) : spotsM m = spotsL m.label m.decls := by unfold spotsM; rw [if_pos h]
theorem spotsM_nil {m : OMod} (h : (spotsM m).length = 0) : cleanB m = decide (modErr m = 0) := by
 unfold cleanB
 by_cases hm : modErr m = 0
 ·rw [spotsM_ok hm] at h
  rw [decide_eq_true hm, List.length_eq_zero_iff.1 h]; rfl
 ·rw [decide_eq_false hm]; rfl
theorem spotsM_mem {m : OMod} {i : Nat} {s : OSpot} (h : (spotsM m)[i]? = some s) : modErr m = 0 ∧ s ∈ spotsL m.label m.decls := by
 by_cases hm : modErr m = 0
 ·rw [spotsM_ok hm] at h
  exact ⟨hm, List.mem_of_getElem? h⟩
 ·unfold spotsM at h
  rw [if_neg hm] at h
  cases h
theorem spotsM_len (m : OMod) : (spotsM m).length ≤ 1000000 := by
 by_cases hm : modErr m = 0
 ·rw [spotsM_ok hm]; exact spots_len (valM hm)
 ·unfold spotsM
  rw [if_neg hm]; exact Nat.zero_le _
set_option maxRecDepth 100000 in
set_option maxHeartbeats 8000000 in
theorem LModmergeFewer_any (b : OMod) (ka kb : Nat) (aub adb : Option Addr) (cub cdb : Nat) (w : World) (hb : ModIn w [] b aub cub adb cdb) (hbb : BigM b) (hka : ka ≤ 255) (hkb : kb ≤ 255) (htab : Lib.TabIs Tryz.prog w "internal/strconv.uint64pow10" .u64 Lib.pow10Tab) :
  Calls Tryz.prog 10 #[modV b aub cub adb cdb, .int .u8 ka, .int .u8 kb] w fun e w' => e = .returned (.bool true) ∧ Bw w w' := by
 have gb := CBox.new w 25 #[.string b.label, .slice aub b.uses.length cub, .slice adb b.decls.length cdb]; have hA := qalloc w (.cells #[.string b.label, .slice aub b.uses.length cub, .slice adb b.decls.length cdb] 25); have HMb := lH hb; have HGb := lH hbb; have HTB := lH htab; have HAW := lH awake33_any; clear hb hbb htab; unfold modV
 go_enter Tryz.func10, Tryz.ntmps10
 go_upto_region 1 with (fail)
 generalize World.alloc w _ = W0 at *; obtain ⟨B, hB⟩ : ∃ R, w.heap.size = R := ⟨_, rfl⟩; rw [hB] at gb ⊢; clear hB; have HW0 := lH hA; have HBb0 := lH gb; clear hA gb; obtain ⟨yb0, yb1, yb2, ybl⟩ := cells3 HBb0.out; have hal := qalloc W0 (.cells #[.string b.label, .slice aub b.uses.length cub, .slice adb b.decls.length cdb] 25); have hw1 := HW0.out.trans (hal.mono HW0.out.size)
 have HG := lH (great33_any [b] W0.heap.size _ (one_modF (CBox.new W0 25 #[.string b.label, .slice aub b.uses.length cub, .slice adb b.decls.length cdb]) (HMb.out.below hw1)) (by
  intro y hy; rw [List.mem_singleton.1 hy]
  exact HGb.out) (by simp))
 have HGF : Hid ([b].any greatM = false → SmN b) := fun h => by
  simp only [List.any_cons, List.any_nil, Bool.or_false] at h
  exact smM_of HGb.out h
 have HAL := lH hal; clear hal hw1; generalize [b].any greatM = q at *
 cases q with
 | true =>
  go_wp2_with (fail)
  refine HG.out.mono ?_; rintro e w2 ⟨rfl, hb2⟩; have HW2 := lH (HW0.out.trans ((HAL.out.trans (hb2.mono HAL.out.size)).mono HW0.out.size)); go_wp2_with (fail)
  refine (HAW.out _).mono ?_; rintro e wz ⟨rfl, hbz⟩; go_wp2; go_ret; exact ⟨rfl, HW2.out.trans (hbz.mono HW2.out.size)⟩
 | false =>
  have HSb := lH (HGF.out rfl); clear HGF HGb; go_wp2_with (fail)
  refine HG.out.mono ?_; rintro e w2 ⟨rfl, hb2⟩; have hb02 := HAL.out.trans (hb2.mono HAL.out.size); have HBb2 := lH (HBb0.out.below hb02); have HW2 := lH (HW0.out.trans (hb02.mono HW0.out.size)); clear HBb0 HW0; clear hb2 hb02 HAL HG yb0 yb1 yb2 ybl; obtain ⟨yb0, yb1, yb2, ybl⟩ := cells3 HBb2.out; have HCF := lH (mConflicts_any b aub cub adb cdb w2 (HMb.out.below HW2.out) HSb.out.1); unfold modV at HCF; go_wp2_with (fail)
  refine HCF.out.mono ?_; rintro e w3 ⟨lv, rfl, hlr, hb3⟩; obtain ⟨al, cl, rfl, hcl⟩ := spots_val hlr; have HLR := lH hlr; have HBb3 := lH (HBb2.out.below hb3); have HW3 := lH (HW2.out.trans (hb3.mono HW2.out.size)); clear HBb2 HW2; clear hb3 HCF hlr yb0 yb1 yb2 ybl; have HLL := lH (spotsM_len b); have HLM := lH (fun i s => @spotsM_mem b i s); have HLO := lH (fun h => @spotsM_ok b h); have HLZ := lH (fun h => @spotsM_nil b h); generalize spotsM b = L at *
  by_cases h0 : L.length = 0
  ·have hd2 : ((L.length : Int) == 0) = true := by rw [h0]; rfl
   have HCB := lH (HLZ.out h0); clear h0 HLM HLO HLZ; have SW : Hid (∀ W : World, Bw w3 W → (W.cell? ⟨B, 0, none⟩ = some (.string b.label) ∧ W.cell? ⟨B, 1, none⟩ = some (.slice aub b.uses.length cub) ∧ W.cell? ⟨B, 2, none⟩ = some (.slice adb b.decls.length cdb))) := lH (fun W hW => ⟨(HBb3.out.below hW).cell (i := 0) (v := .string b.label) rfl, (HBb3.out.below hW).cell (i := 1) (v := .slice aub b.uses.length cub) rfl, (HBb3.out.below hW).cell (i := 2) (v := .slice adb b.decls.length cdb) rfl⟩)
   have HCL := lH (fun W (h : Bw w3 W) => mClean_any b aub cub adb cdb W (HMb.out.below (HW3.out.trans (h.mono HW3.out.size))) HSb.out.1); have HCK := lH (fun W (h : Bw w3 W) => bCheck_any b aub cub adb cdb W (reads_strs.1 (HMb.out.below (HW3.out.trans (h.mono HW3.out.size))).uses).1 (HMb.out.below (HW3.out.trans (h.mono HW3.out.size))).decls HSb.out.1); unfold modV at HCL HCK; obtain ⟨q, hq⟩ : ∃ q, modErr b = q := ⟨_, rfl⟩; rw [hq] at HCB HCK; rw [HCB.out] at HCL; clear hq HCB; have hbd : Bw w3 w3.drew := (Mod.refl [] w3).drew.below
   obtain ⟨bb, hbb⟩ : ∃ c, decide (q = 0) = c := ⟨_, rfl⟩; rw [hbb] at HCL; have hbq : (q == 0) = bb := by rw [← hbb]; rfl
   clear hbb
   cases bb
   all_goals (
    go_upto_region 5 with (fail)
    refine wp_region_noPanic (region_planG (fun W : World => W.cell? ⟨B, 0, none⟩ = some (.string b.label) ∧ W.cell? ⟨B, 1, none⟩ = some (.slice aub b.uses.length cub) ∧ W.cell? ⟨B, 2, none⟩ = some (.slice adb b.decls.length cdb)) 9 [(true, 0), (true, 2), (false, 1), (false, 3), (true, 4), (true, 5), (true, 6), (false, 7), (true, 8)] mixedK (by kernel_rfl) (fun _ _ _ _ _ h => h) (SW.out _ hbd) ?_)
    iterate 2 (refine planG_take (v := ?_) rfl (by rfl) ?_ ?_; rotate_left; (focus (intro wq hSw; (try dsimp only at hSw); go_simp; (try rw [if_neg (by first | omega | (simp; omega))]); (try with_reducible rfl))); (try simp only [gA, gB, gC, Act.put, gD, gE, gF]))
    (refine planG_one rfl (by rfl) (fun K hK => ?_); go_simp)
    refine (HCL.out _ hbd).mono ?_; rintro e w4 ⟨rfl, hb4⟩; have hb4 := qtrans hbd hb4; refine hK.out _ _ (SW.out _ hb4) ?_; clear hK K
    (try simp only [gA, gB, gC, Act.put, gD, gE, gF])
    (refine planG_one rfl (by rfl) (fun K hK => ?_); go_simp)
    refine (HCK.out _ hb4).mono ?_; rintro e w5 ⟨rfl, hb5⟩; have hb5 := qtrans hb4 hb5; refine hK.out _ _ (SW.out _ hb5) ?_; clear hK K
    (try simp only [gA, gB, gC, Act.put, gD, gE, gF])
    (refine planG_take (v := ?_) rfl (by rfl) ?_ ?_; rotate_left; (focus (intro wq hSw; (try dsimp only at hSw); go_simp; (try rw [if_neg (by first | omega | (simp; omega))]); (try with_reducible rfl))); (try simp only [gA, gB, gC, Act.put, gD, gE, gF]))
    try rw [hbq]
    iterate 2 (refine planG_take (v := ?_) rfl (by rfl) ?_ ?_; rotate_left; (focus (intro wq hSw; (try dsimp only at hSw); go_simp; (try rw [if_neg (by first | omega | (simp; omega))]); (try with_reducible rfl))); (try simp only [gA, gB, gC, Act.put, gD, gE, gF]))
    (refine planG_one rfl (by rfl) (fun K hK => ?_); go_simp)
    refine (HAW.out _).mono ?_; rintro e w6 ⟨rfl, hb6⟩; have hb6 := qtrans hb5 hb6; refine hK.out _ _ (SW.out _ hb6) ?_; clear hK K
    (try simp only [gA, gB, gC, Act.put, gD, gE, gF])
    (refine planG_take (v := ?_) rfl (by rfl) ?_ ?_; rotate_left; (focus (intro wq hSw; (try dsimp only at hSw); go_simp; (try rw [if_neg (by first | omega | (simp; omega))]); (try with_reducible rfl))); (try simp only [gA, gB, gC, Act.put, gD, gE, gF]))
    refine planG_end ?_; go_wp2; refine NoPanic.normal ?_; go_wp2; go_ret
    exact ⟨rfl, HW3.out.trans (hb6.mono HW3.out.size)⟩)
  ·have hd2 : ((L.length : Int) == 0) = false := beq_eq_false_iff_ne.2 (by omega)
   have hpos : 0 < L.length := by omega
   have hll := HLL.out; clear h0 HLZ; obtain ⟨t, ht⟩ : ∃ t, L[ka % L.length]? = some t := ⟨_, List.getElem?_eq_getElem (Nat.mod_lt _ hpos)⟩; obtain ⟨sb, so, rfl, hsb, c0, c1, c2, c3⟩ := spots_elem HLR.out ht; have HTM := lH (HLM.out _ _ ht); have HLE := lH (HLO.out HTM.out.1); have hk : ka % L.length < L.length := Nat.mod_lt _ hpos; have hk2 : ((ka % L.length : Nat) : Int) < (L.length : Int) := by omega
   clear ht HLM HLO; have hal := qalloc w3 (.cells #[.string t.pack, .int .i64 t.kind, .int .i64 t.id, .int .i64 t.pos] 51); have HBXs := lH (CBox.new w3 51 #[.string t.pack, .int .i64 t.kind, .int .i64 t.id, .int .i64 t.pos]); go_upto_region 6 with (fail)
   go_upto_region 7 with (fail)
   generalize World.alloc w3 _ = w4 at *; have HLR4 := lH (HLR.out.below hal); have HBb4 := lH (HBb3.out.below hal); have HW4 := lH (HW3.out.trans (hal.mono HW3.out.size)); clear HBb3 HW3; generalize w3.heap.size = NS at *; clear hal c0 c1 c2 c3 hsb hk hk2 hpos HLR hd2; obtain ⟨yb0, yb1, yb2, ybl⟩ := cells3 HBb4.out; obtain ⟨s0, s1, s2, s3, sl⟩ := cells4 HBXs.out; have HC := lH (mSettle_any b t ((kb : Int) % 3) aub adb cub cdb [] w4 (by simp) ⟨HMb.out.below HW4.out, HSb.out.1, HSb.out.2⟩ (by omega) (by omega) (tab_below HTB.out (by kernel_rfl : _ = some 3) HW4.out)); unfold modV at HC
   have HK3 : Hid (0 ≤ ((kb : Int) % 3) ∧ ((kb : Int) % 3) ≤ 2) := ⟨by omega, by omega⟩; have HER := lH (fun (h : settleMErr b t ((kb : Int) % 3) ≠ 0) => settle_err HTM.out.1 HK3.out HTM.out.2 h); have HOK := lH (fun (h : settleMErr b t ((kb : Int) % 3) = 0) => settle_both HSb.out HK3.out h); have HFW := lH (fun (h : settleMErr b t ((kb : Int) % 3) = 0) (h23 : t.kind = 2 ∨ t.kind = 3) => settle_fewer HK3.out h h23); rw [← HLE.out] at HFW; obtain ⟨q, hq⟩ : ∃ q, settleMErr b t ((kb : Int) % 3) = q := ⟨_, rfl⟩; obtain ⟨x, hx⟩ : ∃ x, settleM b t ((kb : Int) % 3) = x := ⟨_, rfl⟩
   rw [hq, hx] at HER HOK HFW; have HQ := lH hq; have HX := lH hx; clear hq hx; go_wp2_with (fail)
   refine HC.out.mono ?_; rintro e w5 ⟨aux, cux, adx, cdx, rfl, hmx, hbm⟩; rw [HX.out] at hmx; rw [HQ.out, HX.out]; unfold modV; clear HC yb0 yb1 yb2 ybl s0 s1 s2 s3 sl HQ HX; have hal := qalloc w5 (.cells #[.string x.label, .slice aux x.uses.length cux, .slice adx x.decls.length cdx] 25); have hbn := qtrans hbm hal; have HBXx := lH (CBox.new w5 25 #[.string x.label, .slice aux x.uses.length cux, .slice adx x.decls.length cdx]); have HMXx := lH (hmx.below hal); have HBXs := lH (HBXs.out.below hbn); have HLR5 := lH (HLR4.out.below hbn); have HBb6 := lH (HBb4.out.below hbn)
   have HW6 := lH (HW4.out.trans (hbn.mono HW4.out.size)); clear HBb4 HW4; go_upto_region 8 with (fail)
   clear hal hbn hbm hmx HLR4; generalize World.alloc w5 _ = w6 at *; generalize w5.heap.size = NX at *
   by_cases h0 : q = 0
   case neg =>
    obtain ⟨hor, rfl⟩ := HER.out h0; have HS9 := lH (r24Same_any noMod noMod aux adx none none cux cdx 0 0 w6 HMXx.out (noMod_in _ _) (fun d hd => by cases hd) (by decide) (by decide)); unfold modV at HS9; rw [sameM_iff.2 rfl] at HS9; clear HOK HFW HER
    rcases hor with rfl | ⟨rfl, hk1⟩
    case' inr => have hk1' : ((kb : Int) % 3 == 1) = true := by rw [hk1]; rfl
    case' inr => clear hk1
    all_goals (
     obtain ⟨x0, x1, x2, xl⟩ := cells3 HBXx.out; go_wp2_with (fail)
     refine HS9.out.mono ?_; rintro e w7 ⟨rfl, hb7⟩; have HW7 := lH (HW6.out.trans (hb7.mono HW6.out.size)); clear x0 x1 x2 xl HS9; go_wp2_with (fail)
     refine (HAW.out _).mono ?_; rintro e wz ⟨rfl, hbz⟩; go_wp2; go_ret
     exact ⟨rfl, HW7.out.trans (hbz.mono HW7.out.size)⟩)
   case pos =>
    subst h0; obtain ⟨hsn, hm0⟩ := HOK.out rfl; have HSX := lH hsn; have HM0 := lH hm0; have HF := lH (HFW.out rfl); have HLX := lH (spotsM_ok hm0); clear HOK HFW HER hsn hm0; have HCK := lH (bCheck_any x aux cux adx cdx w6 (reads_strs.1 HMXx.out.uses).1 HMXx.out.decls HSX.out.1); rw [HM0.out] at HCK; unfold modV at HCK; obtain ⟨x0, x1, x2, xl⟩ := cells3 HBXx.out; go_wp2_with (fail)
    refine HCK.out.mono ?_; rintro e w7 ⟨rfl, hb7⟩; have HBXs := lH (HBXs.out.below hb7); have HBXx := lH (HBXx.out.below hb7); have HMXx := lH (HMXx.out.below hb7); have HLR7 := lH (HLR5.out.below hb7); have HW7 := lH (HW6.out.trans (hb7.mono HW6.out.size)); clear x0 x1 x2 xl HCK hb7 HLR5 HW6 HBb6; obtain ⟨s0, s1, s2, s3, sl⟩ := cells4 HBXs.out
    by_cases h2 : t.kind = 2
    case' pos => have k2 : (t.kind != 2) = false := by simp [h2]
    case' pos => have h23 : t.kind = 2 ∨ t.kind = 3 := .inl h2
    case neg =>
     have k2 : (t.kind != 2) = true := by simp [h2]
     by_cases h3 : t.kind = 3
     case' pos => have k3 : (t.kind != 3) = false := by simp [h3]
     case' pos => have h23 : t.kind = 2 ∨ t.kind = 3 := .inr h3
     case neg =>
      have k3 : (t.kind != 3) = true := by simp [h3]
      go_wp2_with (fail)
      refine (HAW.out _).mono ?_; rintro e wz ⟨rfl, hbz⟩; go_wp2; go_ret; exact ⟨rfl, HW7.out.trans (hbz.mono HW7.out.size)⟩
     all_goals skip
     case pos =>
      have HF2 := lH (HF.out h23); clear HF h23; have HCT := lH (count33_any L (some ⟨sb, so, none⟩) cl t.id w7 HLR7.out HLL.out); go_upto_region 14 with (fail)
      go_wp2_with (fail)
      refine HCT.out.mono ?_; rintro e w8 ⟨rv, rfl, hrv, hb8⟩; have HRV := lH hrv; have HW8 := lH (HW7.out.trans (hb8.mono HW7.out.size)); have HBXs := lH (HBXs.out.below hb8); have HBXx := lH (HBXx.out.below hb8); have HMXx := lH (HMXx.out.below hb8); clear hrv hb8 HCT s0 s1 s2 s3 sl
      have SW : Hid (∀ W : World, Bw w8 W → (W.cell? ⟨NX, 0, none⟩ = some (.string x.label) ∧ W.cell? ⟨NX, 1, none⟩ = some (.slice aux x.uses.length cux) ∧ W.cell? ⟨NX, 2, none⟩ = some (.slice adx x.decls.length cdx) ∧ W.cell? ⟨NS, 2, none⟩ = some (.int .i64 t.id))) := lH (fun W hW => ⟨(HBXx.out.below hW).cell (i := 0) (v := .string x.label) rfl, (HBXx.out.below hW).cell (i := 1) (v := .slice aux x.uses.length cux) rfl, (HBXx.out.below hW).cell (i := 2) (v := .slice adx x.decls.length cdx) rfl, (HBXs.out.below hW).cell (i := 2) (v := .int .i64 t.id) rfl⟩)
      have HCF := lH (fun W (h : Bw w8 W) => mConflicts_any x aux cux adx cdx W (HMXx.out.below h) HSX.out.1); unfold modV at HCF; have hbd : Bw w8 w8.drew := (Mod.refl [] w8).drew.below; go_upto_region 15 with (fail)
      go_cut [13, 14] from 91 to 98 (fun u v wx => u = .int .i64 (cntN (spotsM x) t.id) ∧ Reads wx [] (spotsT (restN (spotsM x) t.id)) v ∧ Bw w8 wx)
      case first =>
       refine wp_region_noPanic (region_planT (fun W : World => W.cell? ⟨NX, 0, none⟩ = some (.string x.label) ∧ W.cell? ⟨NX, 1, none⟩ = some (.slice aux x.uses.length cux) ∧ W.cell? ⟨NX, 2, none⟩ = some (.slice adx x.decls.length cdx) ∧ W.cell? ⟨NS, 2, none⟩ = some (.int .i64 t.id)) (.take 0 (.take 2 (.take 3 (.one 1 (.one 4 (.take 5 (.take 6 (.take 7 (.one 8 (.one 9 .done)))))))))) mixedK (by kernel_rfl) (fun _ _ _ _ _ h => h) (SW.out _ hbd) ?_)
       iterate 3 (refine planT_take (v := ?_) rfl (by rfl) ?_ ?_; rotate_left; (focus (intro wq hSw; (try dsimp only at hSw); go_simp; (try rw [if_neg (by first | omega | (simp; omega))]); (try with_reducible rfl))); (try simp only [gA, gB, gC, Act.put, gD, gE, gF]))
       refine planT_one rfl (by rfl) (fun K hK => ?_); go_simp; refine (HCF.out _ hbd).mono ?_; rintro e w9 ⟨v, rfl, hv, hb9⟩; have hb9 := qtrans hbd hb9; obtain ⟨av, cv, rfl, hcv⟩ := spots_val hv; refine hK.out _ _ (SW.out _ hb9) ?_; clear hK K
       (try simp only [gA, gB, gC, Act.put, gD, gE, gF])
       refine planT_one rfl (by rfl) (fun K hK => ?_); go_simp; refine (count33_any (spotsM x) av cv t.id w9 hv (spotsM_len x)).mono ?_; rintro e w10 ⟨rv2, rfl, hrv, hb10⟩; have hb10 := qtrans hb9 hb10; generalize cntN (spotsM x) t.id = n2 at *; generalize restN (spotsM x) t.id = r2 at *; refine hK.out _ _ (SW.out _ hb10) ?_; clear hK K
       (try simp only [gA, gB, gC, Act.put, gD, gE, gF])
       iterate 3 (refine planT_take (v := ?_) rfl (by rfl) ?_ ?_; rotate_left; (focus (intro wq hSw; (try dsimp only at hSw); go_simp; (try rw [if_neg (by first | omega | (simp; omega))]); (try with_reducible rfl))); (try simp only [gA, gB, gC, Act.put, gD, gE, gF]))
       refine planT_one rfl (by rfl) (fun K hK => ?_); go_simp; refine hK.out _ _ (SW.out _ hb10) ?_; clear hK K
       (try simp only [gA, gB, gC, Act.put, gD, gE, gF])
       refine planT_one rfl (by rfl) (fun K hK => ?_); go_simp; refine hK.out _ _ (SW.out _ hb10) ?_; clear hK K
       (try simp only [gA, gB, gC, Act.put, gD, gE, gF])
       refine planT_done ?_; refine NoPanic.normal ?_; go_wp2; go_meet
       case rel => exact ⟨rfl, hrv, hb10⟩
      case rest =>
      obtain ⟨rfl, hr2, hb9⟩ := hcut; have hcnt : cntN (spotsM x) t.id < cntN L t.id := by rw [HLX.out]; exact HF2.out.1
      have hrest : restN (spotsM x) t.id = restN L t.id := by rw [HLX.out]; exact HF2.out.2
      rw [hrest] at hr2; have HR2 := lH hr2; have HR1 := lH (HRV.out.below hb9); have HW9 := lH (HW8.out.trans (hb9.mono HW8.out.size)); have HRL : Hid ((restN L t.id).length ≤ 1000000) := Nat.le_trans (List.length_filter_le _ _) HLL.out; clear hrest hr2 hb9 HRV SW HCF; generalize restN L t.id = r1 at *; generalize cntN (spotsM x) t.id = n2 at *; generalize cntN L t.id = n1 at *; obtain ⟨a1, c1, e1, hc1⟩ := spots_val HR1.out; subst e1; obtain ⟨a2, c2, e2, hc2⟩ := spots_val HR2.out; subst e2; have hlt : decide ((n2 : Int) < (n1 : Int)) = true := decide_eq_true (by omega)
      have HSS := lH (rSameSpots_any r1 r1 a1 a2 c1 c2 wc HR1.out HR2.out HRL.out); rw [sameSps_iff.2 rfl] at HSS; clear hc1 hc2; go_wp2_with (fail)
      refine HSS.out.mono ?_; rintro e w10 ⟨rfl, hb10⟩; have HW10 := lH (HW9.out.trans (hb10.mono HW9.out.size)); clear HSS; go_wp2_with (fail)
      refine (HAW.out _).mono ?_; rintro e wz ⟨rfl, hbz⟩; go_wp2; go_ret; exact ⟨rfl, HW10.out.trans (hbz.mono HW10.out.size)⟩
    case pos =>
     have HF2 := lH (HF.out h23); clear HF h23; have HCT := lH (count33_any L (some ⟨sb, so, none⟩) cl t.id w7 HLR7.out HLL.out); go_upto_region 14 with (fail)
     go_wp2_with (fail)
     refine HCT.out.mono ?_; rintro e w8 ⟨rv, rfl, hrv, hb8⟩; have HRV := lH hrv; have HW8 := lH (HW7.out.trans (hb8.mono HW7.out.size)); have HBXs := lH (HBXs.out.below hb8); have HBXx := lH (HBXx.out.below hb8); have HMXx := lH (HMXx.out.below hb8); clear hrv hb8 HCT s0 s1 s2 s3 sl
     have SW : Hid (∀ W : World, Bw w8 W → (W.cell? ⟨NX, 0, none⟩ = some (.string x.label) ∧ W.cell? ⟨NX, 1, none⟩ = some (.slice aux x.uses.length cux) ∧ W.cell? ⟨NX, 2, none⟩ = some (.slice adx x.decls.length cdx) ∧ W.cell? ⟨NS, 2, none⟩ = some (.int .i64 t.id))) := lH (fun W hW => ⟨(HBXx.out.below hW).cell (i := 0) (v := .string x.label) rfl, (HBXx.out.below hW).cell (i := 1) (v := .slice aux x.uses.length cux) rfl, (HBXx.out.below hW).cell (i := 2) (v := .slice adx x.decls.length cdx) rfl, (HBXs.out.below hW).cell (i := 2) (v := .int .i64 t.id) rfl⟩)
     have HCF := lH (fun W (h : Bw w8 W) => mConflicts_any x aux cux adx cdx W (HMXx.out.below h) HSX.out.1); unfold modV at HCF; have hbd : Bw w8 w8.drew := (Mod.refl [] w8).drew.below; go_upto_region 15 with (fail)
     go_cut [13, 14] from 91 to 98 (fun u v wx => u = .int .i64 (cntN (spotsM x) t.id) ∧ Reads wx [] (spotsT (restN (spotsM x) t.id)) v ∧ Bw w8 wx)
     case first =>
      refine wp_region_noPanic (region_planT (fun W : World => W.cell? ⟨NX, 0, none⟩ = some (.string x.label) ∧ W.cell? ⟨NX, 1, none⟩ = some (.slice aux x.uses.length cux) ∧ W.cell? ⟨NX, 2, none⟩ = some (.slice adx x.decls.length cdx) ∧ W.cell? ⟨NS, 2, none⟩ = some (.int .i64 t.id)) (.take 0 (.take 2 (.take 3 (.one 1 (.one 4 (.take 5 (.take 6 (.take 7 (.one 8 (.one 9 .done)))))))))) mixedK (by kernel_rfl) (fun _ _ _ _ _ h => h) (SW.out _ hbd) ?_)
      iterate 3 (refine planT_take (v := ?_) rfl (by rfl) ?_ ?_; rotate_left; (focus (intro wq hSw; (try dsimp only at hSw); go_simp; (try rw [if_neg (by first | omega | (simp; omega))]); (try with_reducible rfl))); (try simp only [gA, gB, gC, Act.put, gD, gE, gF]))
      refine planT_one rfl (by rfl) (fun K hK => ?_); go_simp; refine (HCF.out _ hbd).mono ?_; rintro e w9 ⟨v, rfl, hv, hb9⟩; have hb9 := qtrans hbd hb9; obtain ⟨av, cv, rfl, hcv⟩ := spots_val hv; refine hK.out _ _ (SW.out _ hb9) ?_; clear hK K
      (try simp only [gA, gB, gC, Act.put, gD, gE, gF])
      refine planT_one rfl (by rfl) (fun K hK => ?_); go_simp; refine (count33_any (spotsM x) av cv t.id w9 hv (spotsM_len x)).mono ?_; rintro e w10 ⟨rv2, rfl, hrv, hb10⟩; have hb10 := qtrans hb9 hb10; generalize cntN (spotsM x) t.id = n2 at *; generalize restN (spotsM x) t.id = r2 at *; refine hK.out _ _ (SW.out _ hb10) ?_; clear hK K
      (try simp only [gA, gB, gC, Act.put, gD, gE, gF])
      iterate 3 (refine planT_take (v := ?_) rfl (by rfl) ?_ ?_; rotate_left; (focus (intro wq hSw; (try dsimp only at hSw); go_simp; (try rw [if_neg (by first | omega | (simp; omega))]); (try with_reducible rfl))); (try simp only [gA, gB, gC, Act.put, gD, gE, gF]))
      refine planT_one rfl (by rfl) (fun K hK => ?_); go_simp; refine hK.out _ _ (SW.out _ hb10) ?_; clear hK K
      (try simp only [gA, gB, gC, Act.put, gD, gE, gF])
      refine planT_one rfl (by rfl) (fun K hK => ?_); go_simp; refine hK.out _ _ (SW.out _ hb10) ?_; clear hK K
      (try simp only [gA, gB, gC, Act.put, gD, gE, gF])
      refine planT_done ?_; refine NoPanic.normal ?_; go_wp2; go_meet
      case rel => exact ⟨rfl, hrv, hb10⟩
     case rest =>
     obtain ⟨rfl, hr2, hb9⟩ := hcut; have hcnt : cntN (spotsM x) t.id < cntN L t.id := by rw [HLX.out]; exact HF2.out.1
     have hrest : restN (spotsM x) t.id = restN L t.id := by rw [HLX.out]; exact HF2.out.2
     rw [hrest] at hr2; have HR2 := lH hr2; have HR1 := lH (HRV.out.below hb9); have HW9 := lH (HW8.out.trans (hb9.mono HW8.out.size)); have HRL : Hid ((restN L t.id).length ≤ 1000000) := Nat.le_trans (List.length_filter_le _ _) HLL.out; clear hrest hr2 hb9 HRV SW HCF; generalize restN L t.id = r1 at *; generalize cntN (spotsM x) t.id = n2 at *; generalize cntN L t.id = n1 at *; obtain ⟨a1, c1, e1, hc1⟩ := spots_val HR1.out; subst e1; obtain ⟨a2, c2, e2, hc2⟩ := spots_val HR2.out; subst e2; have hlt : decide ((n2 : Int) < (n1 : Int)) = true := decide_eq_true (by omega)
     have HSS := lH (rSameSpots_any r1 r1 a1 a2 c1 c2 wc HR1.out HR2.out HRL.out); rw [sameSps_iff.2 rfl] at HSS; clear hc1 hc2; go_wp2_with (fail)
     refine HSS.out.mono ?_; rintro e w10 ⟨rfl, hb10⟩; have HW10 := lH (HW9.out.trans (hb10.mono HW9.out.size)); clear HSS; go_wp2_with (fail)
     refine (HAW.out _).mono ?_; rintro e wz ⟨rfl, hbz⟩; go_wp2; go_ret; exact ⟨rfl, HW10.out.trans (hbz.mono HW10.out.size)⟩
end Go.Proofs.YtlgnedahnaojlaaGreatDoor

