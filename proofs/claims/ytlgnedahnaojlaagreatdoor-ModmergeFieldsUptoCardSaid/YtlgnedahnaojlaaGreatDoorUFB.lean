/- change, the closure of the law ModmergeFields, with each of the three functions. -/
import Derived.Test.YtlgnedahnaojlaaGreatDoorUFA
namespace Go.Proofs.YtlgnedahnaojlaaGreatDoor
open Go.RowKit Go.Shelf
attribute [local go_sem] Oper.semAt_some
theorem grown_row {W0 w1 : World} {v1 : Value} {n k : Nat} {xs : List Value} (hk : k < n) (hA0 : Bw W0 (W0.alloc (.cells #[] 46))) (h : w1.ownsRow W0.heap.size 46 11 v1 (0 + n) ([] ++ xs)) (hg : (W0.alloc (.cells #[] 46)).grownBy w1 (Value.slice (some ⟨W0.heap.size, 0, none⟩) 0 0).ownBlock) :
  ∃ gb c1, v1 = .slice (some ⟨gb, 0, none⟩) n c1 ∧ Hid (w1.ownsRow W0.heap.size 46 11 (.slice (some ⟨gb, 0, none⟩) n c1) n xs ∧ W0.heap.size ≤ gb ∧ gb < w1.heap.size ∧ (∀ i, w1.frozen? ⟨gb, i, none⟩ = false) ∧ n ≤ c1 ∧ c1 ≤ 9223372036854775807) ∧ Bw W0 w1 := by
 rw [Nat.zero_add, List.nil_append] at h; obtain ⟨a1, c1, rfl⟩ := owns_val h; obtain ⟨gb, cur, rfl, -, h1, h2, h3, h4, h5, -⟩ := owns_cells h (by omega); exact ⟨gb, c1, rfl, ⟨h, h1, h2, h3, h4, h5⟩, hA0.grown hg (by simp) (fun k hk => by cases hk; exact Nat.le_refl _)⟩

set_option maxRecDepth 100000 in
set_option maxHeartbeats 4000000 in
theorem change2_any (m : OMod) (k : Nat) (d : ODecl) (s : ByteArray) (BN : Nat) (B KB : Nat) (aum adm : Option Addr) (cum cdm : Nat) (X : List Nat) (w : World) (hX : ∀ k, k ∈ X → k < w.heap.size) (hbx : CBox w B 25 (mA m aum cum adm cdm)) (hkb : CBox w KB 3 #[.int .i64 k]) (hm : ModIn w X m aum cum adm cdm) (hd : m.decls[k]? = some d) (hn : m.decls.length ≤ 1000000) (hbn : CBox w BN 9 #[.string s]) :
  Calls Tryz.prog 23 #[.func (.func 24) #[] #[.pointer (some ⟨BN, 0, none⟩)], .pointer (some ⟨B, 0, none⟩), .pointer (some ⟨KB, 0, none⟩)] w fun e w' => ∃ ad cd, e = .returned (modV (setD m k (nameD d s)) aum cum ad cd) ∧ ModIn w' X (setD m k (nameD d s)) aum cum ad cd ∧ Bw w w' := by
 obtain ⟨i0, z, hi, hz0, hzs, hz1, hz2⟩ := info_parts' infoDecl; have hk : k < m.decls.length := (List.getElem?_eq_some_iff.1 hd).1; obtain ⟨b0, o0, _, _, _, _, rfl, -, -, -, -, -, -, -, -⟩ := decls_elem hm.decls hd; obtain ⟨gR, gM, hA⟩ := two_boxes w 25 25 mZ (mA m aum cum (some ⟨b0, o0, none⟩) cdm); have HX := lH hX; have HBX := lH hbx; have HKB := lH hkb; have HM := lH hm; have HDK := lH hd; have HBN := lH hbn; clear hX hbx hkb hm hd hbn
 go_enter Tryz.func23, Tryz.ntmps23
 obtain ⟨y0, y1, y2, yl⟩ := cells3 (HBX.out.below (qalloc w (.cells mZ 25))); go_upto_region 2 with (fail)
 clear y0 y1 y2 yl; generalize (w.alloc (.cells mZ 25)).alloc (.cells (mA m aum cum (some ⟨b0, o0, none⟩) cdm) 25) = W0 at *; have HA := lH hA; obtain ⟨M, hM⟩ : ∃ M, w.heap.size + 1 = M := ⟨_, rfl⟩; rw [hM] at gM ⊢; obtain ⟨R, hR⟩ : ∃ R, w.heap.size = R := ⟨_, rfl⟩; rw [hR] at gR ⊢; have hRw : w.heap.size ≤ R := by omega
 have hMw : w.heap.size ≤ M := by omega
 have HRM : Hid (R < M ∧ M < W0.heap.size ∧ w.heap.size = R) := ⟨by omega, gM.lt, hR⟩; have HMI : Hid (ModIn W0 (M :: R :: X) m aum cum (some ⟨b0, o0, none⟩) cdm) := ((HM.out.more hRw).more hMw).below HA.out; have HM5 := lH HMI.out; have HGR := lH gR; have HGM := lH gM; clear hM hR gR gM hA hRw hMw HM; obtain ⟨xs, hrow, -, hrd⟩ := Reads.toRow HMI.out.decls; have hone := decls_one hrd; have HRD := lH hrd; have hown0 : (W0.alloc (.cells #[] 46)).ownsRow W0.heap.size 46 11 (.slice (some ⟨W0.heap.size, 0, none⟩) 0 0) 0 [] := World.ownsRow_made W0 #[] 0 (Nat.le_refl _) (Nat.zero_le _) rfl
 have hA0 := qalloc W0 (.cells #[] 46); have hrow0 := hrow.below hA0; clear hrd hrow; obtain ⟨y0, y1, y2, yl⟩ := cells3 ((HBX.out.below HA.out).below hA0)
 go_upto_region 3 with (at_builtin; refine wpList_append_row rfl _ _ 23 rfl W0.heap.size 46 i0 _ 11 136 Tryz.underlying23 hi hz0 hz1 hz2 hzs (by decide) _ _ _ rfl hown0 _ _ _ rfl hrow0 hone (by unfold maxLen; omega) (by omega) (by simp) ?_; rintro v1 w1 hown1 hg1 -; obtain ⟨gb, c1, rfl, HOW, hB1⟩ := grown_row hk hA0 hown1 hg1; have HG1 := lH (HGM.out.below hB1); have k2 := HG1.out.cell (i := 2) (v := .slice (some ⟨b0, o0, none⟩) m.decls.length cdm) rfl; have kf := HG1.out.frozen 2; have kl := HG1.out.lt; have HB1 := lH hB1; clear hown1 hg1 hB1)
 clear k2 kf kl y0 y1 y2 yl hrow0 hown0 hA0 hone; obtain ⟨hown, hge, hgl, hfz, hnc, hcm⟩ := HOW.out; have hrm := HRM.out; have hm12 := (Mod.refl [M] w1).setCell (p := ⟨M, 2, none⟩) (by simp) (.slice (some ⟨gb, 0, none⟩) m.decls.length c1); have hown2 := owns_mod hown hm12 (fun b hb => by cases hb; simp; omega); have HG2 := lH (HG1.out.set 2 (.slice (some ⟨gb, 0, none⟩) m.decls.length c1)); have HR2 := lH ((HGR.out.below HB1.out).mod hm12 (by simp; omega)); have hA2 := HA.out.trans (HB1.out.mono HA.out.size); have HK2 := lH ((HKB.out.below hA2).mod hm12 (by have := HKB.out.lt; simp; omega))
 have hrd2 := ((HRD.out.more hge).below HB1.out).mod (hm12.mono (Y := gb :: M :: R :: X) (by simp)); obtain ⟨A, C, and, cnd, asd, csd, rfl, hAl, hrA, hrC, hdx⟩ := decls_split hrd2 HDK.out; have HU2 : Hid (Reads _ (gb :: M :: R :: X) (strsT m.uses) (.slice aum m.uses.length cum)) := ((HMI.out.uses.more hge).below HB1.out).mod (hm12.mono (Y := gb :: M :: R :: X) (by simp)); have HBN2 := lH ((HBN.out.below hA2).mod hm12 (by have := HBN.out.lt; simp; omega)); have HBNN : Hid (gb ≠ BN) := by have := HBN.out.lt; show gb ≠ _; omega
 have HSZ : Hid (M < gb ∧ R < gb ∧ gb < (w1.setCell ⟨M, 2, none⟩ (.slice (some ⟨gb, 0, none⟩) m.decls.length c1)).heap.size ∧ w.heap.size ≤ gb) := ⟨by omega, by omega, Nat.lt_of_lt_of_le hgl hm12.size, by omega⟩
 have HX2 : Hid (∀ q, q ∈ M :: R :: X → q < (w1.setCell ⟨M, 2, none⟩ (.slice (some ⟨gb, 0, none⟩) m.decls.length c1)).heap.size) := fun q hq => by
  have h1 := HSZ.out
  rcases List.mem_cons.1 hq with rfl | hq
  ·omega
  ·rcases List.mem_cons.1 hq with rfl | hq
   ·omega
   ·have h2 := HX.out q hq; omega
 have HW2 : Hid (Bw w (w1.setCell ⟨M, 2, none⟩ (.slice (some ⟨gb, 0, none⟩) m.decls.length c1))) := hA2.trans (hm12.upto hA2.size (by intro q hq; simp at hq; omega)); obtain ⟨W2, hW2⟩ : ∃ W, w1.setCell ⟨M, 2, none⟩ (.slice (some ⟨gb, 0, none⟩) m.decls.length c1) = W := ⟨_, rfl⟩; rw [hW2] at hown2 HG2 HR2 HK2 hrA hrC hdx HU2 HSZ HX2 HW2 ⊢; rw [hW2] at HBN2; obtain ⟨g9, cur, e9, hcl, -, -, hfz2, -, -, -⟩ := owns_cells hown2 (by omega)
 obtain rfl : gb = g9 := by injection e9 with e9; injection e9
 have HDA : Hid (DAt W2 gb (k * 11) d and cnd asd csd) := ⟨HSZ.out.2.2.1, fun j u hj => hcl _ _ (by
  rw [List.getElem?_append_right (by omega), show k * 11 + j - A.length = j by omega, List.getElem?_append_left (by
   have := (List.getElem?_eq_some_iff.1 hj).1; exact this)]
  exact hj), hfz2⟩
 have HOW2 := lH hown2; have HRA := lH hrA; have HRC := lH hrC; have HDX := lH hdx; have HAL := lH hAl; clear hW2 hown hge hgl hfz hm12 hown2 hA2 hrd2 hAl hrA hrC hdx hcl hfz2 e9 HOW HG1 HB1 HGM HGR HMI HRD hrm; have hki : (k : Int) < (m.decls.length : Int) := by omega
 have k2 := HG2.out.cell (i := 2) (v := .slice (some ⟨gb, 0, none⟩) m.decls.length c1) rfl; have kl := HG2.out.lt; have b0' := HK2.out.cell (i := 0) (v := .int .i64 k) rfl; have bl := HK2.out.lt; go_wp2_with (fail)
 refine (fields2_any s BN d gb (k * 11) and cnd asd csd (M :: R :: X) W2 HX2.out HDA.out HDX.out HBN2.out).mono ?_; rintro e W3 ⟨⟨vr, rfl⟩, an', cn', sa', cs', V3, ps, hb3, rfl, hps, hlt, hdx3⟩; clear k2 kl b0' bl; have hmp := putL_mod gb (k * 11) ps V3; have hmq := hmp.mono (Y := gb :: M :: R :: X) (by simp); have HG4 := lH ((HG2.out.below hb3).mod hmp (by have := HSZ.out; simp; omega)); have HR4 := lH ((HR2.out.below hb3).mod hmp (by have := HSZ.out; simp; omega)); have hown3 := putL_own HAL.out ps (cs := declL d and cnd asd csd) (fun p hp => hlt p hp) (owns_below HOW2.out hb3)
 rw [hps] at hown3; have HRL := lH (decls_put hk ((HRA.out.below hb3).mod hmq) ((HRC.out.below hb3).mod hmq) (hdx3.mod hmq)); have HU4 := lH ((HU2.out.below hb3).mod hmq); have HOW4 := lH hown3
 have HW4 : Hid (Bw w (putL gb (k * 11) ps V3)) := by
  have h := HW2.out.trans (hb3.mono HW2.out.size); exact h.trans (hmp.upto h.size (by intro q hq; have := HSZ.out; simp at hq; omega))
 clear hmp hmq hown3 hb3 hdx3 hps hlt; generalize putL gb (k * 11) ps V3 = W4 at *; obtain ⟨n0, n1, n2, nl⟩ := cells3 HG4.out; obtain ⟨o0, o1, o2, ol⟩ := cells3 HR4.out; obtain ⟨fo0, fo1, fo2⟩ := frozen3 HR4.out; go_wp2; clear o0 o1 o2 fo0 fo1 fo2 ol n0 n1 n2 nl; obtain ⟨HC9, HM9⟩ := CBox.three (HR4.out) (.string m.label) (.slice aum m.uses.length cum) (.slice (some ⟨gb, 0, none⟩) m.decls.length c1); generalize World.setCell _ ⟨R, 2, none⟩ _ = WZ at *; obtain ⟨r0, r1, r2, -⟩ := cells3 HC9; refine bodyPost_ret (by simp [results, Tryz.results23, go_sem, r0, r1, r2]; try rfl) rfl ?_
 clear r0 r1 r2; have hmz := HM9.mono (Y := M :: R :: X) (by simp); have hrl := (HRL.out.fewer (Y := M :: R :: X) (fun q hq => List.mem_cons_of_mem _ hq)).mod hmz; have hus := (HU4.out.fewer (Y := M :: R :: X) (fun q hq => List.mem_cons_of_mem _ hq)).mod hmz
 have hnM : gb ∉ M :: R :: X := fun hq => by
  have h1 := HSZ.out
  rcases List.mem_cons.1 hq with h | hq
  ·omega
  ·rcases List.mem_cons.1 hq with h | hq
   ·omega
   ·have h2 := HX.out _ hq; omega
 have hown9 := owns_mod HOW4.out HM9 (fun b hb => by have := HSZ.out; cases hb; simp; omega); have hrow9 := owns_row hown9; have hls : (m.decls.set k (nameD d s)).length = m.decls.length := List.length_set ..; refine ⟨some ⟨gb, 0, none⟩, c1, ?_, ⟨hus.fewer (fun q hq => by simp [hq]), ?_, HM5.out.hu1, HM5.out.hu2, by show (m.decls.set k _).length ≤ c1; omega, hcm⟩, HW4.out.trans (HM9.upto HW4.out.size (by intro q hq; have := HRM.out; simp at hq; omega))⟩
 ·unfold modV setD
  rw [hls]
 ·show Reads WZ X (declsT (m.decls.set k (nameD d s))) (.slice (some ⟨gb, 0, none⟩) (m.decls.set k (nameD d s)).length c1)
  rw [hls]; exact (Reads.ofRow (X := M :: R :: X) (l := m.decls.set k (nameD d s)) (by rw [hls]; exact hrow9) (fun _ b hb => by cases hb; exact hnM) hrl).fewer (fun q hq => by simp [hq])
set_option maxRecDepth 100000 in
set_option maxHeartbeats 4000000 in
theorem change3_any (m : OMod) (k : Nat) (d : ODecl) (x : Ex) (p : Bool) (ax : Option Addr) (cx : Nat) (BB BP : Nat) (B KB : Nat) (aum adm : Option Addr) (cum cdm : Nat) (X : List Nat) (w : World) (hX : ∀ k, k ∈ X → k < w.heap.size) (hbx : CBox w B 25 (mA m aum cum adm cdm)) (hkb : CBox w KB 3 #[.int .i64 k]) (hm : ModIn w X m aum cum adm cdm) (hd : m.decls[k]? = some d) (hn : m.decls.length ≤ 1000000) (hbb : CBox w BB 41 (xA x ax cx)) (hbp : CBox w BP 4 #[.bool p]) (hx : ExIn w X x ax cx) :
  Calls Tryz.prog 23 #[.func (.func 25) #[] #[.pointer (some ⟨BB, 0, none⟩), .pointer (some ⟨BP, 0, none⟩)], .pointer (some ⟨B, 0, none⟩), .pointer (some ⟨KB, 0, none⟩)] w fun e w' => ∃ ad cd, e = .returned (modV (setD m k (bodyD d x p)) aum cum ad cd) ∧ ModIn w' X (setD m k (bodyD d x p)) aum cum ad cd ∧ Bw w w' := by
 obtain ⟨i0, z, hi, hz0, hzs, hz1, hz2⟩ := info_parts' infoDecl; have hk : k < m.decls.length := (List.getElem?_eq_some_iff.1 hd).1; obtain ⟨b0, o0, _, _, _, _, rfl, -, -, -, -, -, -, -, -⟩ := decls_elem hm.decls hd; obtain ⟨gR, gM, hA⟩ := two_boxes w 25 25 mZ (mA m aum cum (some ⟨b0, o0, none⟩) cdm); have HX := lH hX; have HBX := lH hbx; have HKB := lH hkb; have HM := lH hm; have HDK := lH hd; have HBB := lH hbb; have HBP := lH hbp; have HEX := lH hx; clear hX hbx hkb hm hd hbb hbp hx
 go_enter Tryz.func23, Tryz.ntmps23
 obtain ⟨y0, y1, y2, yl⟩ := cells3 (HBX.out.below (qalloc w (.cells mZ 25))); go_upto_region 2 with (fail)
 clear y0 y1 y2 yl; generalize (w.alloc (.cells mZ 25)).alloc (.cells (mA m aum cum (some ⟨b0, o0, none⟩) cdm) 25) = W0 at *; have HA := lH hA; obtain ⟨M, hM⟩ : ∃ M, w.heap.size + 1 = M := ⟨_, rfl⟩; rw [hM] at gM ⊢; obtain ⟨R, hR⟩ : ∃ R, w.heap.size = R := ⟨_, rfl⟩; rw [hR] at gR ⊢; have hRw : w.heap.size ≤ R := by omega
 have hMw : w.heap.size ≤ M := by omega
 have HRM : Hid (R < M ∧ M < W0.heap.size ∧ w.heap.size = R) := ⟨by omega, gM.lt, hR⟩; have HMI : Hid (ModIn W0 (M :: R :: X) m aum cum (some ⟨b0, o0, none⟩) cdm) := ((HM.out.more hRw).more hMw).below HA.out; have HEX0 : Hid (ExIn W0 (M :: R :: X) x ax cx) := ((HEX.out.more hRw).more hMw).below HA.out; have HM5 := lH HMI.out; have HGR := lH gR; have HGM := lH gM; clear hM hR gR gM hA hRw hMw HM HEX; obtain ⟨xs, hrow, -, hrd⟩ := Reads.toRow HMI.out.decls; have hone := decls_one hrd; have HRD := lH hrd
 have hown0 : (W0.alloc (.cells #[] 46)).ownsRow W0.heap.size 46 11 (.slice (some ⟨W0.heap.size, 0, none⟩) 0 0) 0 [] := World.ownsRow_made W0 #[] 0 (Nat.le_refl _) (Nat.zero_le _) rfl; have hA0 := qalloc W0 (.cells #[] 46); have hrow0 := hrow.below hA0; clear hrd hrow; obtain ⟨y0, y1, y2, yl⟩ := cells3 ((HBX.out.below HA.out).below hA0)
 go_upto_region 3 with (at_builtin; refine wpList_append_row rfl _ _ 23 rfl W0.heap.size 46 i0 _ 11 136 Tryz.underlying23 hi hz0 hz1 hz2 hzs (by decide) _ _ _ rfl hown0 _ _ _ rfl hrow0 hone (by unfold maxLen; omega) (by omega) (by simp) ?_; rintro v1 w1 hown1 hg1 -; obtain ⟨gb, c1, rfl, HOW, hB1⟩ := grown_row hk hA0 hown1 hg1; have HG1 := lH (HGM.out.below hB1); have k2 := HG1.out.cell (i := 2) (v := .slice (some ⟨b0, o0, none⟩) m.decls.length cdm) rfl; have kf := HG1.out.frozen 2; have kl := HG1.out.lt; have HB1 := lH hB1; clear hown1 hg1 hB1)
 clear k2 kf kl y0 y1 y2 yl hrow0 hown0 hA0 hone; obtain ⟨hown, hge, hgl, hfz, hnc, hcm⟩ := HOW.out; have hrm := HRM.out; have hm12 := (Mod.refl [M] w1).setCell (p := ⟨M, 2, none⟩) (by simp) (.slice (some ⟨gb, 0, none⟩) m.decls.length c1); have hown2 := owns_mod hown hm12 (fun b hb => by cases hb; simp; omega); have HG2 := lH (HG1.out.set 2 (.slice (some ⟨gb, 0, none⟩) m.decls.length c1)); have HR2 := lH ((HGR.out.below HB1.out).mod hm12 (by simp; omega)); have hA2 := HA.out.trans (HB1.out.mono HA.out.size); have HK2 := lH ((HKB.out.below hA2).mod hm12 (by have := HKB.out.lt; simp; omega))
 have hrd2 := ((HRD.out.more hge).below HB1.out).mod (hm12.mono (Y := gb :: M :: R :: X) (by simp)); obtain ⟨A, C, and, cnd, asd, csd, rfl, hAl, hrA, hrC, hdx⟩ := decls_split hrd2 HDK.out; have HU2 : Hid (Reads _ (gb :: M :: R :: X) (strsT m.uses) (.slice aum m.uses.length cum)) := ((HMI.out.uses.more hge).below HB1.out).mod (hm12.mono (Y := gb :: M :: R :: X) (by simp)); have HBB2 := lH ((HBB.out.below hA2).mod hm12 (by have := HBB.out.lt; simp; omega)); have HBP2 := lH ((HBP.out.below hA2).mod hm12 (by have := HBP.out.lt; simp; omega))
 have HBBN : Hid (gb ≠ BB) := by have := HBB.out.lt; show gb ≠ _; omega
 have HBPN : Hid (gb ≠ BP) := by have := HBP.out.lt; show gb ≠ _; omega
 have HEX2 := lH (((HEX0.out.more hge).below HB1.out).mod (hm12.mono (Y := gb :: M :: R :: X) (by simp))); have HSZ : Hid (M < gb ∧ R < gb ∧ gb < (w1.setCell ⟨M, 2, none⟩ (.slice (some ⟨gb, 0, none⟩) m.decls.length c1)).heap.size ∧ w.heap.size ≤ gb) := ⟨by omega, by omega, Nat.lt_of_lt_of_le hgl hm12.size, by omega⟩
 have HX2 : Hid (∀ q, q ∈ M :: R :: X → q < (w1.setCell ⟨M, 2, none⟩ (.slice (some ⟨gb, 0, none⟩) m.decls.length c1)).heap.size) := fun q hq => by
  have h1 := HSZ.out
  rcases List.mem_cons.1 hq with rfl | hq
  ·omega
  ·rcases List.mem_cons.1 hq with rfl | hq
   ·omega
   ·have h2 := HX.out q hq; omega
 have HW2 : Hid (Bw w (w1.setCell ⟨M, 2, none⟩ (.slice (some ⟨gb, 0, none⟩) m.decls.length c1))) := hA2.trans (hm12.upto hA2.size (by intro q hq; simp at hq; omega)); obtain ⟨W2, hW2⟩ : ∃ W, w1.setCell ⟨M, 2, none⟩ (.slice (some ⟨gb, 0, none⟩) m.decls.length c1) = W := ⟨_, rfl⟩; rw [hW2] at hown2 HG2 HR2 HK2 hrA hrC hdx HU2 HSZ HX2 HW2 ⊢; rw [hW2] at HBB2 HBP2 HEX2; obtain ⟨g9, cur, e9, hcl, -, -, hfz2, -, -, -⟩ := owns_cells hown2 (by omega)
 obtain rfl : gb = g9 := by injection e9 with e9; injection e9
 have HDA : Hid (DAt W2 gb (k * 11) d and cnd asd csd) := ⟨HSZ.out.2.2.1, fun j u hj => hcl _ _ (by
  rw [List.getElem?_append_right (by omega), show k * 11 + j - A.length = j by omega, List.getElem?_append_left (by
   have := (List.getElem?_eq_some_iff.1 hj).1; exact this)]
  exact hj), hfz2⟩
 have HOW2 := lH hown2; have HRA := lH hrA; have HRC := lH hrC; have HDX := lH hdx; have HAL := lH hAl; clear hW2 hown hge hgl hfz hm12 hown2 hA2 hrd2 hAl hrA hrC hdx hcl hfz2 e9 HOW HG1 HB1 HGM HGR HMI HRD hrm; have hki : (k : Int) < (m.decls.length : Int) := by omega
 have k2 := HG2.out.cell (i := 2) (v := .slice (some ⟨gb, 0, none⟩) m.decls.length c1) rfl; have kl := HG2.out.lt; have b0' := HK2.out.cell (i := 0) (v := .int .i64 k) rfl; have bl := HK2.out.lt; go_wp2_with (fail)
 refine (fields3_any x p ax cx BB BP d gb (k * 11) and cnd asd csd (M :: R :: X) W2 HX2.out HDA.out HDX.out HBB2.out HBP2.out HEX2.out HBBN.out HBPN.out).mono ?_; rintro e W3 ⟨⟨vr, rfl⟩, an', cn', sa', cs', V3, ps, hb3, rfl, hps, hlt, hdx3⟩; clear k2 kl b0' bl; have hmp := putL_mod gb (k * 11) ps V3; have hmq := hmp.mono (Y := gb :: M :: R :: X) (by simp); have HG4 := lH ((HG2.out.below hb3).mod hmp (by have := HSZ.out; simp; omega)); have HR4 := lH ((HR2.out.below hb3).mod hmp (by have := HSZ.out; simp; omega))
 have hown3 := putL_own HAL.out ps (cs := declL d and cnd asd csd) (fun p hp => hlt p hp) (owns_below HOW2.out hb3); rw [hps] at hown3; have HRL := lH (decls_put hk ((HRA.out.below hb3).mod hmq) ((HRC.out.below hb3).mod hmq) (hdx3.mod hmq)); have HU4 := lH ((HU2.out.below hb3).mod hmq); have HOW4 := lH hown3
 have HW4 : Hid (Bw w (putL gb (k * 11) ps V3)) := by
  have h := HW2.out.trans (hb3.mono HW2.out.size); exact h.trans (hmp.upto h.size (by intro q hq; have := HSZ.out; simp at hq; omega))
 clear hmp hmq hown3 hb3 hdx3 hps hlt; generalize putL gb (k * 11) ps V3 = W4 at *; obtain ⟨n0, n1, n2, nl⟩ := cells3 HG4.out; obtain ⟨o0, o1, o2, ol⟩ := cells3 HR4.out; obtain ⟨fo0, fo1, fo2⟩ := frozen3 HR4.out; go_wp2; clear o0 o1 o2 fo0 fo1 fo2 ol n0 n1 n2 nl; obtain ⟨HC9, HM9⟩ := CBox.three (HR4.out) (.string m.label) (.slice aum m.uses.length cum) (.slice (some ⟨gb, 0, none⟩) m.decls.length c1); generalize World.setCell _ ⟨R, 2, none⟩ _ = WZ at *; obtain ⟨r0, r1, r2, -⟩ := cells3 HC9; refine bodyPost_ret (by simp [results, Tryz.results23, go_sem, r0, r1, r2]; try rfl) rfl ?_
 clear r0 r1 r2; have hmz := HM9.mono (Y := M :: R :: X) (by simp); have hrl := (HRL.out.fewer (Y := M :: R :: X) (fun q hq => List.mem_cons_of_mem _ hq)).mod hmz; have hus := (HU4.out.fewer (Y := M :: R :: X) (fun q hq => List.mem_cons_of_mem _ hq)).mod hmz
 have hnM : gb ∉ M :: R :: X := fun hq => by
  have h1 := HSZ.out
  rcases List.mem_cons.1 hq with h | hq
  ·omega
  ·rcases List.mem_cons.1 hq with h | hq
   ·omega
   ·have h2 := HX.out _ hq; omega
 have hown9 := owns_mod HOW4.out HM9 (fun b hb => by have := HSZ.out; cases hb; simp; omega); have hrow9 := owns_row hown9; have hls : (m.decls.set k (bodyD d x p)).length = m.decls.length := List.length_set ..; refine ⟨some ⟨gb, 0, none⟩, c1, ?_, ⟨hus.fewer (fun q hq => by simp [hq]), ?_, HM5.out.hu1, HM5.out.hu2, by show (m.decls.set k _).length ≤ c1; omega, hcm⟩, HW4.out.trans (HM9.upto HW4.out.size (by intro q hq; have := HRM.out; simp at hq; omega))⟩
 ·unfold modV setD
  rw [hls]
 ·show Reads WZ X (declsT (m.decls.set k (bodyD d x p))) (.slice (some ⟨gb, 0, none⟩) (m.decls.set k (bodyD d x p)).length c1)
  rw [hls]; exact (Reads.ofRow (X := M :: R :: X) (l := m.decls.set k (bodyD d x p)) (by rw [hls]; exact hrow9) (fun _ b hb => by cases hb; exact hnM) hrl).fewer (fun q hq => by simp [hq])
set_option maxRecDepth 100000 in
set_option maxHeartbeats 4000000 in
theorem change4_any (m : OMod) (k : Nat) (d : ODecl) (s : ByteArray) (x : Ex) (p : Bool) (ax : Option Addr) (cx : Nat) (BN BB BP : Nat) (B KB : Nat) (aum adm : Option Addr) (cum cdm : Nat) (X : List Nat) (w : World) (hX : ∀ k, k ∈ X → k < w.heap.size) (hbx : CBox w B 25 (mA m aum cum adm cdm)) (hkb : CBox w KB 3 #[.int .i64 k]) (hm : ModIn w X m aum cum adm cdm) (hd : m.decls[k]? = some d) (hn : m.decls.length ≤ 1000000) (hbn : CBox w BN 9 #[.string s]) (hbb : CBox w BB 41 (xA x ax cx)) (hbp : CBox w BP 4 #[.bool p]) (hx : ExIn w X x ax cx) :
  Calls Tryz.prog 23 #[.func (.func 26) #[] #[.pointer (some ⟨BN, 0, none⟩), .pointer (some ⟨BB, 0, none⟩), .pointer (some ⟨BP, 0, none⟩)], .pointer (some ⟨B, 0, none⟩), .pointer (some ⟨KB, 0, none⟩)] w fun e w' => ∃ ad cd, e = .returned (modV (setD m k (nameD (bodyD d x p) s)) aum cum ad cd) ∧ ModIn w' X (setD m k (nameD (bodyD d x p) s)) aum cum ad cd ∧ Bw w w' := by
 obtain ⟨i0, z, hi, hz0, hzs, hz1, hz2⟩ := info_parts' infoDecl; have hk : k < m.decls.length := (List.getElem?_eq_some_iff.1 hd).1; obtain ⟨b0, o0, _, _, _, _, rfl, -, -, -, -, -, -, -, -⟩ := decls_elem hm.decls hd; obtain ⟨gR, gM, hA⟩ := two_boxes w 25 25 mZ (mA m aum cum (some ⟨b0, o0, none⟩) cdm); have HX := lH hX; have HBX := lH hbx; have HKB := lH hkb; have HM := lH hm; have HDK := lH hd; have HBN := lH hbn; have HBB := lH hbb; have HBP := lH hbp; have HEX := lH hx; clear hX hbx hkb hm hd hbn hbb hbp hx
 go_enter Tryz.func23, Tryz.ntmps23
 obtain ⟨y0, y1, y2, yl⟩ := cells3 (HBX.out.below (qalloc w (.cells mZ 25))); go_upto_region 2 with (fail)
 clear y0 y1 y2 yl; generalize (w.alloc (.cells mZ 25)).alloc (.cells (mA m aum cum (some ⟨b0, o0, none⟩) cdm) 25) = W0 at *; have HA := lH hA; obtain ⟨M, hM⟩ : ∃ M, w.heap.size + 1 = M := ⟨_, rfl⟩; rw [hM] at gM ⊢; obtain ⟨R, hR⟩ : ∃ R, w.heap.size = R := ⟨_, rfl⟩; rw [hR] at gR ⊢; have hRw : w.heap.size ≤ R := by omega
 have hMw : w.heap.size ≤ M := by omega
 have HRM : Hid (R < M ∧ M < W0.heap.size ∧ w.heap.size = R) := ⟨by omega, gM.lt, hR⟩; have HMI : Hid (ModIn W0 (M :: R :: X) m aum cum (some ⟨b0, o0, none⟩) cdm) := ((HM.out.more hRw).more hMw).below HA.out; have HEX0 : Hid (ExIn W0 (M :: R :: X) x ax cx) := ((HEX.out.more hRw).more hMw).below HA.out; have HM5 := lH HMI.out; have HGR := lH gR; have HGM := lH gM; clear hM hR gR gM hA hRw hMw HM HEX; obtain ⟨xs, hrow, -, hrd⟩ := Reads.toRow HMI.out.decls; have hone := decls_one hrd; have HRD := lH hrd
 have hown0 : (W0.alloc (.cells #[] 46)).ownsRow W0.heap.size 46 11 (.slice (some ⟨W0.heap.size, 0, none⟩) 0 0) 0 [] := World.ownsRow_made W0 #[] 0 (Nat.le_refl _) (Nat.zero_le _) rfl; have hA0 := qalloc W0 (.cells #[] 46); have hrow0 := hrow.below hA0; clear hrd hrow; obtain ⟨y0, y1, y2, yl⟩ := cells3 ((HBX.out.below HA.out).below hA0)
 go_upto_region 3 with (at_builtin; refine wpList_append_row rfl _ _ 23 rfl W0.heap.size 46 i0 _ 11 136 Tryz.underlying23 hi hz0 hz1 hz2 hzs (by decide) _ _ _ rfl hown0 _ _ _ rfl hrow0 hone (by unfold maxLen; omega) (by omega) (by simp) ?_; rintro v1 w1 hown1 hg1 -; obtain ⟨gb, c1, rfl, HOW, hB1⟩ := grown_row hk hA0 hown1 hg1; have HG1 := lH (HGM.out.below hB1); have k2 := HG1.out.cell (i := 2) (v := .slice (some ⟨b0, o0, none⟩) m.decls.length cdm) rfl; have kf := HG1.out.frozen 2; have kl := HG1.out.lt; have HB1 := lH hB1; clear hown1 hg1 hB1)
 clear k2 kf kl y0 y1 y2 yl hrow0 hown0 hA0 hone; obtain ⟨hown, hge, hgl, hfz, hnc, hcm⟩ := HOW.out; have hrm := HRM.out; have hm12 := (Mod.refl [M] w1).setCell (p := ⟨M, 2, none⟩) (by simp) (.slice (some ⟨gb, 0, none⟩) m.decls.length c1); have hown2 := owns_mod hown hm12 (fun b hb => by cases hb; simp; omega); have HG2 := lH (HG1.out.set 2 (.slice (some ⟨gb, 0, none⟩) m.decls.length c1)); have HR2 := lH ((HGR.out.below HB1.out).mod hm12 (by simp; omega)); have hA2 := HA.out.trans (HB1.out.mono HA.out.size); have HK2 := lH ((HKB.out.below hA2).mod hm12 (by have := HKB.out.lt; simp; omega))
 have hrd2 := ((HRD.out.more hge).below HB1.out).mod (hm12.mono (Y := gb :: M :: R :: X) (by simp)); obtain ⟨A, C, and, cnd, asd, csd, rfl, hAl, hrA, hrC, hdx⟩ := decls_split hrd2 HDK.out; have HU2 : Hid (Reads _ (gb :: M :: R :: X) (strsT m.uses) (.slice aum m.uses.length cum)) := ((HMI.out.uses.more hge).below HB1.out).mod (hm12.mono (Y := gb :: M :: R :: X) (by simp)); have HBN2 := lH ((HBN.out.below hA2).mod hm12 (by have := HBN.out.lt; simp; omega)); have HBB2 := lH ((HBB.out.below hA2).mod hm12 (by have := HBB.out.lt; simp; omega))
 have HBP2 := lH ((HBP.out.below hA2).mod hm12 (by have := HBP.out.lt; simp; omega)); have HBNN : Hid (gb ≠ BN) := by have := HBN.out.lt; show gb ≠ _; omega
 have HBBN : Hid (gb ≠ BB) := by have := HBB.out.lt; show gb ≠ _; omega
 have HBPN : Hid (gb ≠ BP) := by have := HBP.out.lt; show gb ≠ _; omega
 have HEX2 := lH (((HEX0.out.more hge).below HB1.out).mod (hm12.mono (Y := gb :: M :: R :: X) (by simp))); have HSZ : Hid (M < gb ∧ R < gb ∧ gb < (w1.setCell ⟨M, 2, none⟩ (.slice (some ⟨gb, 0, none⟩) m.decls.length c1)).heap.size ∧ w.heap.size ≤ gb) := ⟨by omega, by omega, Nat.lt_of_lt_of_le hgl hm12.size, by omega⟩
 have HX2 : Hid (∀ q, q ∈ M :: R :: X → q < (w1.setCell ⟨M, 2, none⟩ (.slice (some ⟨gb, 0, none⟩) m.decls.length c1)).heap.size) := fun q hq => by
  have h1 := HSZ.out
  rcases List.mem_cons.1 hq with rfl | hq
  ·omega
  ·rcases List.mem_cons.1 hq with rfl | hq
   ·omega
   ·have h2 := HX.out q hq; omega
 have HW2 : Hid (Bw w (w1.setCell ⟨M, 2, none⟩ (.slice (some ⟨gb, 0, none⟩) m.decls.length c1))) := hA2.trans (hm12.upto hA2.size (by intro q hq; simp at hq; omega)); obtain ⟨W2, hW2⟩ : ∃ W, w1.setCell ⟨M, 2, none⟩ (.slice (some ⟨gb, 0, none⟩) m.decls.length c1) = W := ⟨_, rfl⟩; rw [hW2] at hown2 HG2 HR2 HK2 hrA hrC hdx HU2 HSZ HX2 HW2 ⊢; rw [hW2] at HBN2 HBB2 HBP2 HEX2; obtain ⟨g9, cur, e9, hcl, -, -, hfz2, -, -, -⟩ := owns_cells hown2 (by omega)
 obtain rfl : gb = g9 := by injection e9 with e9; injection e9
 have HDA : Hid (DAt W2 gb (k * 11) d and cnd asd csd) := ⟨HSZ.out.2.2.1, fun j u hj => hcl _ _ (by
  rw [List.getElem?_append_right (by omega), show k * 11 + j - A.length = j by omega, List.getElem?_append_left (by
   have := (List.getElem?_eq_some_iff.1 hj).1; exact this)]
  exact hj), hfz2⟩
 have HOW2 := lH hown2; have HRA := lH hrA; have HRC := lH hrC; have HDX := lH hdx; have HAL := lH hAl; clear hW2 hown hge hgl hfz hm12 hown2 hA2 hrd2 hAl hrA hrC hdx hcl hfz2 e9 HOW HG1 HB1 HGM HGR HMI HRD hrm; have hki : (k : Int) < (m.decls.length : Int) := by omega
 have k2 := HG2.out.cell (i := 2) (v := .slice (some ⟨gb, 0, none⟩) m.decls.length c1) rfl; have kl := HG2.out.lt; have b0' := HK2.out.cell (i := 0) (v := .int .i64 k) rfl; have bl := HK2.out.lt; go_wp2_with (fail)
 refine (fields4_any s x p ax cx BN BB BP d gb (k * 11) and cnd asd csd (M :: R :: X) W2 HX2.out HDA.out HDX.out HBN2.out HBB2.out HBP2.out HEX2.out HBNN.out HBBN.out HBPN.out).mono ?_; rintro e W3 ⟨⟨vr, rfl⟩, an', cn', sa', cs', V3, ps, hb3, rfl, hps, hlt, hdx3⟩; clear k2 kl b0' bl; have hmp := putL_mod gb (k * 11) ps V3; have hmq := hmp.mono (Y := gb :: M :: R :: X) (by simp); have HG4 := lH ((HG2.out.below hb3).mod hmp (by have := HSZ.out; simp; omega)); have HR4 := lH ((HR2.out.below hb3).mod hmp (by have := HSZ.out; simp; omega))
 have hown3 := putL_own HAL.out ps (cs := declL d and cnd asd csd) (fun p hp => hlt p hp) (owns_below HOW2.out hb3); rw [hps] at hown3; have HRL := lH (decls_put hk ((HRA.out.below hb3).mod hmq) ((HRC.out.below hb3).mod hmq) (hdx3.mod hmq)); have HU4 := lH ((HU2.out.below hb3).mod hmq); have HOW4 := lH hown3
 have HW4 : Hid (Bw w (putL gb (k * 11) ps V3)) := by
  have h := HW2.out.trans (hb3.mono HW2.out.size); exact h.trans (hmp.upto h.size (by intro q hq; have := HSZ.out; simp at hq; omega))
 clear hmp hmq hown3 hb3 hdx3 hps hlt; generalize putL gb (k * 11) ps V3 = W4 at *; obtain ⟨n0, n1, n2, nl⟩ := cells3 HG4.out; obtain ⟨o0, o1, o2, ol⟩ := cells3 HR4.out; obtain ⟨fo0, fo1, fo2⟩ := frozen3 HR4.out; go_wp2; clear o0 o1 o2 fo0 fo1 fo2 ol n0 n1 n2 nl; obtain ⟨HC9, HM9⟩ := CBox.three (HR4.out) (.string m.label) (.slice aum m.uses.length cum) (.slice (some ⟨gb, 0, none⟩) m.decls.length c1); generalize World.setCell _ ⟨R, 2, none⟩ _ = WZ at *; obtain ⟨r0, r1, r2, -⟩ := cells3 HC9; refine bodyPost_ret (by simp [results, Tryz.results23, go_sem, r0, r1, r2]; try rfl) rfl ?_
 clear r0 r1 r2; have hmz := HM9.mono (Y := M :: R :: X) (by simp); have hrl := (HRL.out.fewer (Y := M :: R :: X) (fun q hq => List.mem_cons_of_mem _ hq)).mod hmz; have hus := (HU4.out.fewer (Y := M :: R :: X) (fun q hq => List.mem_cons_of_mem _ hq)).mod hmz
 have hnM : gb ∉ M :: R :: X := fun hq => by
  have h1 := HSZ.out
  rcases List.mem_cons.1 hq with h | hq
  ·omega
  ·rcases List.mem_cons.1 hq with h | hq
   ·omega
   ·have h2 := HX.out _ hq; omega
 have hown9 := owns_mod HOW4.out HM9 (fun b hb => by have := HSZ.out; cases hb; simp; omega); have hrow9 := owns_row hown9; have hls : (m.decls.set k (nameD (bodyD d x p) s)).length = m.decls.length := List.length_set ..; refine ⟨some ⟨gb, 0, none⟩, c1, ?_, ⟨hus.fewer (fun q hq => by simp [hq]), ?_, HM5.out.hu1, HM5.out.hu2, by show (m.decls.set k _).length ≤ c1; omega, hcm⟩, HW4.out.trans (HM9.upto HW4.out.size (by intro q hq; have := HRM.out; simp at hq; omega))⟩
 ·unfold modV setD
  rw [hls]
 ·show Reads WZ X (declsT (m.decls.set k (nameD (bodyD d x p) s))) (.slice (some ⟨gb, 0, none⟩) (m.decls.set k (nameD (bodyD d x p) s)).length c1)
  rw [hls]; exact (Reads.ofRow (X := M :: R :: X) (l := m.decls.set k (nameD (bodyD d x p) s)) (by rw [hls]; exact hrow9) (fun _ b hb => by cases hb; exact hnM) hrl).fewer (fun q hq => by simp [hq])
end Go.Proofs.YtlgnedahnaojlaaGreatDoor

