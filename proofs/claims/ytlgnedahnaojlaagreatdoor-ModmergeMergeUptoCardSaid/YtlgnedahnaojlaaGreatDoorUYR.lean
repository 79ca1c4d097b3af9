/- The reference's Merge of chapter 33. -/
import Derived.Test.YtlgnedahnaojlaaGreatDoorUYQ
import Derived.Test.YtlgnedahnaojlaaGreatDoorUYP
import Derived.Test.YtlgnedahnaojlaaGreatDoorUYL
import Derived.Test.YtlgnedahnaojlaaGreatDoorUYI
namespace Go.Proofs.YtlgnedahnaojlaaGreatDoor
open Go.RowKit Go.Shelf
attribute [local go_sem] Oper.semAt_some

def idsK (b l r : OMod) (i : Nat) : List Int := match i with
 | 0 => []
 | 1 => idsD [] b.decls
 | 2 => idsD (idsD [] b.decls) l.decls
 | _ => idsM b l r
theorem idsK_next {b l r : OMod} {i : Nat} (h : i < 3) : idsD (idsK b l r i) (tri b l r i).decls = idsK b l r (i + 1) := by
 match i, h with
 | 0, _ => rfl
 | 1, _ => rfl
 | 2, _ => rfl
set_option maxRecDepth 100000 in
set_option maxHeartbeats 8000000 in
theorem r33Merge_any (b l r : OMod) (aub aul aur adb adl adr : Option Addr) (cub cul cur cdb cdl cdr : Nat) (X : List Nat) (w : World) (hX : ∀ k, k ∈ X → k < w.heap.size) (hb : SideIn X w b aub cub adb cdb) (hl : SideIn X w l aul cul adl cdl) (hr : SideIn X w r aur cur adr cdr) :
  Calls Tryz.prog 15 #[modV b aub cub adb cdb, modV l aul cul adl cdl, modV r aur cur adr cdr] w (MergedM b l r X w) := by
 obtain ⟨gb, gl, gr, go, hA, hs4⟩ := four_boxes w 25 (mA b aub cub adb cdb) (mA l aul cul adl cdl) (mA r aur cur adr cdr) mZ; have HX := lH hX; have HB := lH hb; have HL := lH hl; have HR := lH hr; clear hX hb hl hr; unfold modV
 go_enter Tryz.func15, Tryz.ntmps15
 go_upto_region 1 with (fail)
 generalize (((w.alloc (.cells (mA b aub cub adb cdb) 25)).alloc (.cells (mA l aul cul adl cdl) 25)).alloc (.cells (mA r aur cur adr cdr) 25)).alloc (.cells mZ 25) = W0 at *; obtain ⟨R, hR⟩ : ∃ R, w.heap.size + 1 + 1 + 1 = R := ⟨_, rfl⟩; rw [hR] at go ⊢; obtain ⟨n2, hn2⟩ : ∃ R, w.heap.size + 1 + 1 = R := ⟨_, rfl⟩; rw [hn2] at gr ⊢; obtain ⟨n1, hn1⟩ : ∃ R, w.heap.size + 1 = R := ⟨_, rfl⟩; rw [hn1] at gl ⊢; have HSZ : Hid (w.heap.size < n1 ∧ n1 < n2 ∧ n2 < R ∧ W0.heap.size = R + 1 ∧ w.heap.size ≤ R) := ⟨by omega, by omega, by omega, by omega, by omega⟩; clear hR hn2 hn1 hs4; have HW0 := lH hA
 have HB0 := lH ((HB.out.more HSZ.out.2.2.2.2).below hA); have HL0 := lH ((HL.out.more HSZ.out.2.2.2.2).below hA); have HR0 := lH ((HR.out.more HSZ.out.2.2.2.2).below hA); have GB0 := lH gb; have GL0 := lH gl; have GR0 := lH gr; have GO0 := lH go; clear HB HL HR hA gb gl gr go; obtain ⟨a0, a1, a2, al⟩ := cells3 GB0.out; obtain ⟨b0, b1, b2, bl⟩ := cells3 GL0.out; obtain ⟨c0, c1, c2, cl⟩ := cells3 GR0.out
 have HS1 := lH (CBox.new W0 25 #[.string b.label, .slice aub b.uses.length cub, .slice adb b.decls.length cdb, .string l.label, .slice aul l.uses.length cul, .slice adl l.decls.length cdl, .string r.label, .slice aur r.uses.length cur, .slice adr r.decls.length cdr]); have hal := qalloc W0 (.cells #[.string b.label, .slice aub b.uses.length cub, .slice adb b.decls.length cdb, .string l.label, .slice aul l.uses.length cul, .slice adl l.decls.length cdl, .string r.label, .slice aur r.uses.length cur, .slice adr r.decls.length cdr] 25); go_upto_region 2 with (fail)
 clear a0 a1 a2 al b0 b1 b2 bl c0 c1 c2 cl; generalize World.alloc W0 _ = W1 at *; obtain ⟨S, hS⟩ : ∃ S, W0.heap.size = S := ⟨_, rfl⟩; rw [hS] at HS1 ⊢; clear hS; have hbl := qalloc W1 (.cells #[] 3); have HRI : Hid (RowI (W1.alloc (.cells #[] 3)) W1.heap.size 0 0 []) := ⟨Nat.le_refl _, Nat.zero_le _, fun h => absurd h (Nat.lt_irrefl _)⟩; go_upto_region 3 with (fail)
 have hb2 := qtrans hal hbl; have HS2 := lH (HS1.out.below hbl); generalize World.alloc W1 _ = W2 at *; obtain ⟨T, hT⟩ : ∃ T, W1.heap.size = T := ⟨_, rfl⟩; rw [hT] at HRI ⊢; clear hT; have HB2 := lH (HB0.out.below hb2); have GB2 := lH (GB0.out.below hb2); have HL2 := lH (HL0.out.below hb2); have GL2 := lH (GL0.out.below hb2); have HR2 := lH (HR0.out.below hb2); have GR2 := lH (GR0.out.below hb2); have GO2 := lH (GO0.out.below hb2); have HW2 := lH (HW0.out.trans (hb2.mono HW0.out.size)); clear hal hbl hb2 HS1 HW0 HB0 HL0 HR0 GB0 GL0 GR0 GO0; go_wp2
 go_loopw [9, 10] (fun av iv wr => ∃ i : Nat, i ≤ 3 ∧ iv = .int .i64 i ∧ Hid (∀ j, j < i → modErr (tri b l r j) = 0) ∧ Hid (∃ b1 o1 c1, av = .slice (some ⟨b1, o1, none⟩) (idsK b l r i).length c1 ∧ RowI wr b1 o1 c1 (idsK b l r i)) ∧ Hid (Bw W2 wr)) (fun _ iv _ => 3 - (intOf iv).toNat)
 case atStart => exact ⟨0, Nat.zero_le _, rfl, fun j hj => absurd hj (Nat.not_lt_zero _), ⟨T, 0, 0, rfl, HRI.out⟩, qrefl _⟩
 case round =>
  clear HRI; obtain ⟨i, hil, rfl, HN, HV, HBX⟩ := hrel; obtain ⟨vb, vo, vc, rfl, hrow⟩ := HV.out; have HRW := lH hrow; clear hrow HV
  by_cases hi : i < 3
  ·have hd : decide ((i : Int) < (3 : Int)) = true := decide_eq_true (by omega)
   have hir : (i : Int) < (3 : Int) := by omega
   obtain ⟨au, cu, ad, cd, hsi, m0, m1, m2⟩ := side_at (HS2.out.below HBX.out) HB2.out HL2.out HR2.out hi; have hlt := (HS2.out.below HBX.out).lt; have HSI := lH (hsi.below HBX.out); clear hsi; have HER := lH (fun h => err_side (b := b) (l := l) (r := r) hi HN.out h)
   have HNX : Hid (modErr (tri b l r i) = 0 → ∀ j, j < i + 1 → modErr (tri b l r j) = 0) := fun h j hj => by
    by_cases e : j = i
    ·rw [e]; exact h
    ·exact HN.out j (by omega)
   have HIK := lH (idsK_next (b := b) (l := l) (r := r) hi)
   have HIL : Hid (modErr (tri b l r i) = 0 → (idsK b l r i).length ≤ 1000 ∧ (tri b l r i).decls.length ≤ 1000) := fun h => by
    have h2 := (valM h).dlen; refine ⟨?_, by omega⟩; have h1 := idsD_len b.decls []; have h3 := idsD_len l.decls (idsD [] b.decls); simp only [List.length_nil] at h1
    match i, hi with
    | 0, _ => exact Nat.zero_le _
    | 1, _ => have h4 : b.decls.length ≤ 100 := (valM (HN.out 0 (by omega))).dlen; show (idsD [] b.decls).length ≤ 1000; omega
    | 2, _ => have h4 : b.decls.length ≤ 100 := (valM (HN.out 0 (by omega))).dlen; have h5 : l.decls.length ≤ 100 := (valM (HN.out 1 (by omega))).dlen; show (idsD (idsD [] b.decls) l.decls).length ≤ 1000; omega
   clear HN; generalize tri b l r i = m at *; generalize idsK b l r i = L at *; have HCK := lH (r24Check_any m au cu ad cd wr (reads_strs.1 HSI.out.mod.uses).1 HSI.out.mod.free.decls HSI.out.sm); unfold modV at HCK; go_wp2_with (fail)
   refine HCK.out.mono ?_; rintro e w4 ⟨rfl, hb4⟩; have HB24 : Hid (Bw W2 w4) := HBX.out.trans (hb4.mono HBX.out.size); have HWr4 : Hid (Bw w w4) := HW2.out.trans (HB24.out.mono HW2.out.size); have GO4 := lH (GO2.out.below HB24.out); have HSI4 := lH (HSI.out.below hb4); have HRW4 := lH (HRW.out.below hb4); have hlt4 : S < w4.heap.size := Nat.lt_of_lt_of_le hlt hb4.size; have p0 := (hb4.cell (p := ⟨S, _, none⟩) hlt).trans m0; have p1 := (hb4.cell (p := ⟨S, _, none⟩) hlt).trans m1; have p2 := (hb4.cell (p := ⟨S, _, none⟩) hlt).trans m2; clear HCK hb4 HSI HRW m0 m1 m2 hlt
   obtain ⟨q, hq⟩ : ∃ q, modErr m = q := ⟨_, rfl⟩; rw [hq] at HER HNX HIL ⊢; clear hq
   by_cases h0 : q = 0
   ·have hz : (q != 0) = false := by simp [h0]
    have HN' := lH (HNX.out h0); obtain ⟨hl1, hl2⟩ := HIL.out h0; clear HNX HER h0 HIL; have HID := lH (r33ids_any L m vb vo vc au ad cu cd w4 HRW4.out (HSI4.out.mod.fewer (Y := []) (fun k hk => by cases hk)) hl1 hl2); unfold modV at HID; rw [HIK.out] at HID; go_wp2_with (fail)
    refine HID.out.mono ?_; rintro e w5 ⟨b1, o1, c1, rfl, hrow, hb5⟩; have HRW5 := lH hrow; have HB25 : Hid (Bw W2 w5) := HB24.out.trans (hb5.mono HB24.out.size); clear HID hb5 hrow p0 p1 p2 hlt4; go_wp2; go_roundw
    case rel => exact ⟨i + 1, by omega, by go_num, HN', ⟨b1, o1, c1, rfl, HRW5.out⟩, HB25⟩
    case measure => simp [intOf]; omega
   ·have hz : (q != 0) = true := by simp [h0]
    have HE := lH (HER.out h0); have HQ := lH h0; clear HNX HER h0 HIL; obtain ⟨o0, o1, o2, ol9⟩ := cells3 GO4.out; obtain ⟨fo0, fo1, fo2⟩ := frozen3 GO4.out
    (try dsimp only)
    repeat (first | go_values | go_skip | go_guarded | go_step | go_upon | go_in)
    (try simp only [Exit.inBlock, Exit.then])
    clear o0 fo0 o1 fo1 o2 fo2 ol9; obtain ⟨HC9, HM9⟩ := CBox.three (GO4.out) (.string ⟨#[]⟩) (.slice none 0 0) (.slice none 0 0); generalize World.setCell _ ⟨R, 2, none⟩ _ = WZ at *; obtain ⟨r0, r1, r2, -⟩ := cells3 HC9; refine bodyPost_ret (by simp [results, Tryz.results15, go_sem, r0, r1, r2]; try rfl) rfl ?_; have hdZ : Bw w WZ := (HWr4.out).trans (HM9.upto (HWr4.out).size (by intro k hk; simp at hk; have := HSZ.out; omega)); exact MergedM.bad HE.out HQ.out hdZ
  ·have hd : decide ((i : Int) < (3 : Int)) = false := decide_eq_false (by omega)
   obtain rfl : i = 3 := by omega
   have vb' : modErr b = 0 := HN.out 0 (by omega); have vl' : modErr l = 0 := HN.out 1 (by omega); have vr' : modErr r = 0 := HN.out 2 (by omega)
   have HEQ : Hid (mergeMErr b l r = if eqS b.label l.label && eqS b.label r.label then
    (if (usesM b.uses l.uses r.uses).length ≤ 20 then
     (if aliasDup (usesM b.uses l.uses r.uses) then 17
     else if declsErrM b.decls l.decls r.decls (idsM b l r) = 0 then (if (declsM b.decls l.decls r.decls (idsM b l r)).length ≤ 100 then 0 else 4)
     else declsErrM b.decls l.decls r.decls (idsM b l r))
    else 4) else 11) := by
    show mergeMErr b l r = _
    unfold mergeMErr; rw [if_pos vb', if_pos vl', if_pos vr']
   have HVB := lH (valM vb'); have HVL := lH (valM vl'); have HVR := lH (valM vr'); have HWR : Hid (Bw w wr) := HW2.out.trans (HBX.out.mono HW2.out.size); have GOr := lH (GO2.out.below HBX.out); have HBr := lH (HB2.out.below HBX.out); have GBr := lH (GB2.out.below HBX.out); have HLr := lH (HL2.out.below HBX.out); have GLr := lH (GL2.out.below HBX.out); have HRr := lH (HR2.out.below HBX.out); have GRr := lH (GR2.out.below HBX.out); have HIDS : Hid (RowI wr vb vo vc (idsM b l r)) := HRW.out; have HI9 : Hid (idsK b l r 3 = idsM b l r) := rfl
   clear HN vb' vl' vr' HBX HRW HS2 HW2 GO2 HB2 HL2 HR2 GB2 GL2 GR2 hil hi; rw [HI9.out]; clear HI9; generalize wr = w3 at *; obtain ⟨a0, a1, a2, al⟩ := cells3 GBr.out; obtain ⟨b0, b1, b2, bl⟩ := cells3 GLr.out; obtain ⟨c0, c1, c2, cl⟩ := cells3 GRr.out; obtain ⟨x1, hx1⟩ : ∃ x, eqS b.label l.label = x := ⟨_, rfl⟩; obtain ⟨x2, hx2⟩ : ∃ x, eqS b.label r.label = x := ⟨_, rfl⟩; have HX1 := lH hx1; have HX2 := lH hx2; have k1 : (b.label.toList == l.label.toList) = x1 := hx1; have k2 : (b.label.toList == r.label.toList) = x2 := hx2; clear hx1 hx2
   by_cases hxx : (x1 && x2) = true
   ·obtain ⟨e1, e2⟩ := Bool.and_eq_true_iff.1 hxx
    subst e1 e2
    have HEQ2 : Hid (mergeMErr b l r = (if (usesM b.uses l.uses r.uses).length ≤ 20 then
     (if aliasDup (usesM b.uses l.uses r.uses) then 17
     else if declsErrM b.decls l.decls r.decls (idsM b l r) = 0 then (if (declsM b.decls l.decls r.decls (idsM b l r)).length ≤ 100 then 0 else 4)
     else declsErrM b.decls l.decls r.decls (idsM b l r))
    else 4)) := by
     show mergeMErr b l r = _
     rw [HEQ.out, HX1.out, HX2.out]; rfl
    clear HEQ HX1 HX2 hxx; go_upto_region 12 with (fail)
    clear k1 k2; obtain ⟨U, hU⟩ : ∃ U, usesM b.uses l.uses r.uses = U := ⟨_, rfl⟩
    have HSU : Hid (∀ s ∈ U, s.size ≤ 40000) := fun s hs => by
     rw [← hU] at hs
     rcases (mem_usesM.1 hs).1 with h | h
     ·exact HLr.out.sm.uses s h
     ·exact HRr.out.sm.uses s h
    have HUL : Hid (U.length ≤ 40) := by
     show U.length ≤ 40
     have h1 := usesM_len b.uses l.uses r.uses; have h2 := HVL.out.ulen; have h3 := HVR.out.ulen; rw [hU] at h1; omega
    rw [hU] at HEQ2
    have HX3 : Hid (∀ k, k ∈ R :: X → k < w3.heap.size) := fun k hk => by
     have h1 := GOr.out.lt
     rcases List.mem_cons.1 hk with rfl | hk
     ·exact h1
     ·have h2 := HX.out k hk; have h3 := HWR.out.size; omega
    have HU1 : Hid (∀ W, Bw w3 W → Calls Tryz.prog 45 #[.slice aub b.uses.length cub, .slice aul l.uses.length cul, .slice aur r.uses.length cur] W fun e w9 => ∃ a5 c5, e = .returned (.slice a5 U.length c5) ∧ Reads w9 (R :: X) (strsT U) (.slice a5 U.length c5) ∧ U.length ≤ c5 ∧ c5 ≤ 9223372036854775807 ∧ Bw W w9) := fun W h => by
     have hc := r33Uses_any b.uses l.uses r.uses aub aul aur cub cul cur (R :: X) W (fun k hk => Nat.lt_of_lt_of_le (HX3.out k hk) h.size) (reads_strs.1 (HBr.out.mod.uses.below h)).1 (reads_strs.1 (HLr.out.mod.uses.below h)).1 (reads_strs.1 (HRr.out.mod.uses.below h)).1 (by have := HVB.out.ulen; omega) (by have := HVL.out.ulen; omega) (by have := HVR.out.ulen; omega); rwa [hU] at hc
    have HU2 : Hid (∀ W N, Bw w3 W → w3.heap.size ≤ N → N < W.heap.size → Calls Tryz.prog 45 #[.slice aub b.uses.length cub, .slice aul l.uses.length cul, .slice aur r.uses.length cur] W fun e w9 => ∃ a5 c5, e = .returned (.slice a5 U.length c5) ∧ Reads w9 (N :: R :: X) (strsT U) (.slice a5 U.length c5) ∧ U.length ≤ c5 ∧ c5 ≤ 9223372036854775807 ∧ Bw W w9) := fun W N h hN hN2 => by
     have hc := r33Uses_any b.uses l.uses r.uses aub aul aur cub cul cur (N :: R :: X) W (fun k hk => by rcases List.mem_cons.1 hk with rfl | hk; exact hN2; exact Nat.lt_of_lt_of_le (HX3.out k hk) h.size) (reads_strs.1 (HBr.out.mod.uses.below h)).1 (reads_strs.1 (HLr.out.mod.uses.below h)).1 (reads_strs.1 (HRr.out.mod.uses.below h)).1 (by have := HVB.out.ulen; omega) (by have := HVL.out.ulen; omega) (by have := HVR.out.ulen; omega); rwa [hU] at hc
    have HUU := lH hU; clear hU
    have SW : Hid (∀ W : World, Bw w3 W → (W.cell? ⟨w.heap.size, 0, none⟩ = some (.string b.label) ∧ W.cell? ⟨w.heap.size, 1, none⟩ = some (.slice aub b.uses.length cub) ∧ W.cell? ⟨n1, 1, none⟩ = some (.slice aul l.uses.length cul) ∧ W.cell? ⟨n2, 1, none⟩ = some (.slice aur r.uses.length cur) ∧ w.heap.size < W.heap.size ∧ n1 < W.heap.size ∧ n2 < W.heap.size)) := lH (fun W hW => ⟨(hW.cell (p := ⟨w.heap.size, _, none⟩) al).trans a0, (hW.cell (p := ⟨w.heap.size, _, none⟩) al).trans a1, (hW.cell (p := ⟨n1, _, none⟩) bl).trans b1, (hW.cell (p := ⟨n2, _, none⟩) cl).trans c1, Nat.lt_of_lt_of_le al hW.size, Nat.lt_of_lt_of_le bl hW.size, Nat.lt_of_lt_of_le cl hW.size⟩)
    have hb0 : Bw w3 w3.drew := (Mod.refl [] w3).drew.below; clear a0 a1 a2 al b0 b1 b2 bl c0 c1 c2 cl
    go_cut [12] from 54 to 63 (fun u wx => ∃ N a5 c5, u = .pointer (some ⟨N, 0, none⟩) ∧ w3.heap.size ≤ N ∧ CBox wx N 25 #[.string b.label, .slice a5 U.length c5, .slice none 0 0] ∧ Reads wx (N :: R :: X) (strsT U) (.slice a5 U.length c5) ∧ U.length ≤ c5 ∧ c5 ≤ 9223372036854775807 ∧ Bw w3 wx)
    case first =>
     refine wp_region_noPanic (region_planT (fun W : World => W.cell? ⟨w.heap.size, 0, none⟩ = some (.string b.label) ∧ W.cell? ⟨w.heap.size, 1, none⟩ = some (.slice aub b.uses.length cub) ∧ W.cell? ⟨n1, 1, none⟩ = some (.slice aul l.uses.length cul) ∧ W.cell? ⟨n2, 1, none⟩ = some (.slice aur r.uses.length cur) ∧ w.heap.size < W.heap.size ∧ n1 < W.heap.size ∧ n2 < W.heap.size) (.take 0 (.take 1 (.take 2 (.take 3 (.take 4 (.take 5 (.take 6 (.take 7 (.two 8 10 (.take 9 (.one 10 (.one 11 .done))) (.one 8 (.take 9 (.one 11 .done)))))))))))) mixedK (by kernel_rfl) (fun _ _ _ _ _ h => h) (SW.out _ hb0) ?_)
     iterate 8 (refine planT_take (v := ?_) rfl (by rfl) ?_ ?_; rotate_left; (focus (intro wq hSw; (try dsimp only at hSw); go_simp; (try rw [if_neg (by first | omega | (simp; omega))]); (try with_reducible rfl))); (try simp only [gA, gB, gC, Act.put, gD, gE, gF]))
     generalize w3.drew = v0 at *; refine planT_two ?_ ?_
     ·skip
      refine planT_one rfl (by rfl) (fun K hK => ?_); go_simp; refine (HU1.out _ hb0).mono ?_; rintro r1 v1 ⟨a5, c5, rfl, hdx, hc1, hc2, hq1⟩
      (try go_simp)
      have hb1 := qtrans hb0 hq1; refine hK.out _ _ (SW.out _ hb1) ?_; clear hK K; (try simp only [gA, gB, gC, Act.put, gD, gE, gF])
      (refine planT_take (v := ?_) rfl (by rfl) ?_ ?_; rotate_left; (focus (intro wq hSw; (try dsimp only at hSw); go_simp; (try rw [if_neg (by first | omega | (simp; omega))]); (try with_reducible rfl))); (try simp only [gA, gB, gC, Act.put, gD, gE, gF]))
      have ax := CBox.new v1 25 mZ; have hbx := qtrans hb1 (qalloc v1 (.cells mZ 25)); have hdx := (hdx.more (Nat.le_refl v1.heap.size)).below (qalloc v1 (.cells mZ 25)); have hN2 : w3.heap.size ≤ v1.heap.size := hb1.size; refine planT_one rfl (by rfl) (fun K hK => ?_); go_simp; refine hK.out _ _ (SW.out _ hbx) ?_; clear hK K; (try simp only [gA, gB, gC, Act.put, gD, gE, gF]); generalize World.alloc v1 _ = v2 at *; generalize v1.heap.size = N at *; obtain ⟨z0, z1, z2, zl⟩ := cells3 ax; obtain ⟨fz0, fz1, fz2⟩ := frozen3 ax
      obtain ⟨HC9, HM9⟩ := CBox.three ax (.string b.label) (.slice a5 U.length c5) (.slice none 0 0); have hbz : Bw w3 (((v2.setCell ⟨N, 0, none⟩ (.string b.label)).setCell ⟨N, 1, none⟩ (.slice a5 U.length c5)).setCell ⟨N, 2, none⟩ (.slice none 0 0)) := hbx.trans (HM9.upto hbx.size (by intro k hk; simp at hk; omega)); have hdz := hdx.mod (HM9.mono inC); refine planT_one rfl (by rfl) (fun K hK => ?_); go_simp; refine hK.out _ _ (SW.out _ hbz) ?_; clear hK K; (try simp only [gA, gB, gC, Act.put, gD, gE, gF]); refine planT_done ?_; refine NoPanic.normal ?_
      generalize World.setCell _ ⟨N, 2, none⟩ _ = vz at *; clear zl z0 fz0 z1 fz1 z2 fz2; go_wp2; go_meet
      case rel => exact ⟨N, a5, c5, rfl, hN2, HC9, hdz, hc1, hc2, hbz⟩
     ·skip
      have ax := CBox.new v0 25 mZ; have hb1 := qtrans hb0 (qalloc v0 (.cells mZ 25)); have hN2 : w3.heap.size ≤ v0.heap.size := hb0.size; have hNl : v0.heap.size < (v0.alloc (.cells mZ 25)).heap.size := ax.lt; refine planT_one rfl (by rfl) (fun K hK => ?_); go_simp; refine hK.out _ _ (SW.out _ hb1) ?_; clear hK K; (try simp only [gA, gB, gC, Act.put, gD, gE, gF]); generalize hv1 : v0.alloc (.cells mZ 25) = v1 at *; generalize v0.heap.size = N at *; clear hv1; refine planT_one rfl (by rfl) (fun K hK => ?_); go_simp; refine (HU2.out _ N hb1 hN2 hNl).mono ?_
      rintro r1 v2 ⟨a5, c5, rfl, hdx, hc1, hc2, hq1⟩
      (try go_simp)
      have hbx := qtrans hb1 hq1; refine hK.out _ _ (SW.out _ hbx) ?_; clear hK K; (try simp only [gA, gB, gC, Act.put, gD, gE, gF])
      (refine planT_take (v := ?_) rfl (by rfl) ?_ ?_; rotate_left; (focus (intro wq hSw; (try dsimp only at hSw); go_simp; (try rw [if_neg (by first | omega | (simp; omega))]); (try with_reducible rfl))); (try simp only [gA, gB, gC, Act.put, gD, gE, gF]))
      have ax := ax.below hq1; obtain ⟨z0, z1, z2, zl⟩ := cells3 ax; obtain ⟨fz0, fz1, fz2⟩ := frozen3 ax; obtain ⟨HC9, HM9⟩ := CBox.three ax (.string b.label) (.slice a5 U.length c5) (.slice none 0 0); have hbz : Bw w3 (((v2.setCell ⟨N, 0, none⟩ (.string b.label)).setCell ⟨N, 1, none⟩ (.slice a5 U.length c5)).setCell ⟨N, 2, none⟩ (.slice none 0 0)) := hbx.trans (HM9.upto hbx.size (by intro k hk; simp at hk; omega)); have hdz := hdx.mod (HM9.mono inC); refine planT_one rfl (by rfl) (fun K hK => ?_); go_simp
      refine hK.out _ _ (SW.out _ hbz) ?_; clear hK K; (try simp only [gA, gB, gC, Act.put, gD, gE, gF]); refine planT_done ?_; refine NoPanic.normal ?_; generalize World.setCell _ ⟨N, 2, none⟩ _ = vz at *; clear zl z0 fz0 z1 fz1 z2 fz2; go_wp2; go_meet
      case rel => exact ⟨N, a5, c5, rfl, hN2, HC9, hdz, hc1, hc2, hbz⟩
    case rest =>
    obtain ⟨BM, a5, c5, rfl, hBM, hbx, hrd, hu51, hu52, hb4⟩ := hcut; generalize wc = w4 at *; have HBM := lH hBM; have HMG4 := lH hbx; have HUR4 := lH hrd; have H34 := lH hb4; have GO4 := lH (GOr.out.below hb4); have HW4 := lH (HWR.out.trans (hb4.mono HWR.out.size)); clear hBM hbx hrd hb4 hb0 SW HU1 HU2; obtain ⟨y0, y1, y2, yl⟩ := cells3 HMG4.out
    by_cases h20 : 20 < U.length
    ·have hd2 : decide ((20 : Int) < (U.length : Int)) = true := decide_eq_true (by omega)
     have HE : Hid (mergeMErr b l r = 4) := by show _ = _; rw [HEQ2.out, if_neg (by omega)]
     clear h20; obtain ⟨o0, o1, o2, ol9⟩ := cells3 GO4.out; obtain ⟨fo0, fo1, fo2⟩ := frozen3 GO4.out
     (try dsimp only)
     repeat (first | go_values | go_skip | go_guarded | go_step | go_upon | go_in)
     (try simp only [Exit.inBlock, Exit.then])
     clear o0 fo0 o1 fo1 o2 fo2 ol9; obtain ⟨HC9, HM9⟩ := CBox.three (GO4.out) (.string ⟨#[]⟩) (.slice none 0 0) (.slice none 0 0); generalize World.setCell _ ⟨R, 2, none⟩ _ = WZ at *; obtain ⟨r0, r1, r2, -⟩ := cells3 HC9; refine bodyPost_ret (by simp [results, Tryz.results15, go_sem, r0, r1, r2]; try rfl) rfl ?_; have hdZ : Bw w WZ := (HW4.out).trans (HM9.upto (HW4.out).size (by intro k hk; simp at hk; have := HSZ.out; omega)); exact MergedM.bad HE.out (by decide) hdZ
    ·have hd2 : decide ((20 : Int) < (U.length : Int)) = false := decide_eq_false (by omega)
     have hU20 : U.length ≤ 20 := by omega
     rw [if_pos hU20] at HEQ2; have HAL := lH (r33aliases_any U a5 c5 w4 (reads_strs.1 HUR4.out).1 HSU.out (by omega)); obtain ⟨q0, hq0⟩ : ∃ q, aliasDup U = q := ⟨_, rfl⟩; rw [hq0] at HAL HEQ2; clear hq0 h20; go_wp2_with (fail)
     refine HAL.out.mono ?_; rintro e w9 ⟨rfl, hb9⟩; have HMG9 := lH (HMG4.out.below hb9); have HUR9 := lH (HUR4.out.below hb9); have H39 : Hid (Bw w3 w9) := H34.out.trans (hb9.mono H34.out.size); have GO9 := lH (GO4.out.below hb9); have HW9 := lH (HW4.out.trans (hb9.mono HW4.out.size)); clear hb9 HAL HMG4 HUR4 H34 GO4 HW4 y0 y1 y2 yl
     cases q0 with
     | true =>
      have HE : Hid (mergeMErr b l r = 17) := by show _ = _; rw [HEQ2.out, if_pos rfl]
      obtain ⟨o0, o1, o2, ol9⟩ := cells3 GO9.out; obtain ⟨fo0, fo1, fo2⟩ := frozen3 GO9.out
      (try dsimp only)
      repeat (first | go_values | go_skip | go_guarded | go_step | go_upon | go_in)
      (try simp only [Exit.inBlock, Exit.then])
      clear o0 fo0 o1 fo1 o2 fo2 ol9; obtain ⟨HC9, HM9⟩ := CBox.three (GO9.out) (.string ⟨#[]⟩) (.slice none 0 0) (.slice none 0 0); generalize World.setCell _ ⟨R, 2, none⟩ _ = WZ at *; obtain ⟨r0, r1, r2, -⟩ := cells3 HC9; refine bodyPost_ret (by simp [results, Tryz.results15, go_sem, r0, r1, r2]; try rfl) rfl ?_; have hdZ : Bw w WZ := (HW9.out).trans (HM9.upto (HW9.out).size (by intro k hk; simp at hk; have := HSZ.out; omega)); exact MergedM.bad HE.out (by decide) hdZ
     | false =>
      have HEQ3 : Hid (mergeMErr b l r = if declsErrM b.decls l.decls r.decls (idsM b l r) = 0 then (if (declsM b.decls l.decls r.decls (idsM b l r)).length ≤ 100 then 0 else 4) else declsErrM b.decls l.decls r.decls (idsM b l r)) := by show _ = _; rw [HEQ2.out, if_neg Bool.false_ne_true]
      have HIL := lH (ids_len HVB.out HVL.out HVR.out); have HBM9 : Hid (BM < w9.heap.size) := HMG9.out.lt; obtain ⟨I, hI⟩ : ∃ I, idsM b l r = I := ⟨_, rfl⟩; rw [hI] at HIDS HEQ3 HIL ⊢; have HIE := lH hI; clear hI HEQ2; go_wp2
      go_loopw [13] (fun iv wr => ∃ (i : Nat) (v : Value), i ≤ I.length ∧ iv = .int .i64 i ∧ Hid (∀ j y, j < i → I[j]? = some y → mergeDErr (findD b.decls y) (findD l.decls y) (findD r.decls y) = 0) ∧ Hid (CBox wr BM 25 #[.string b.label, .slice a5 U.length c5, v]) ∧ Hid (OwnT wr (BM :: R :: X) w9.heap.size 46 11 declT v (declsM b.decls l.decls r.decls (I.take i))) ∧ Hid (Mod [BM] w9 wr)) (fun iv _ => I.length - (intOf iv).toNat)
      case atStart => exact ⟨0, .slice none 0 0, Nat.zero_le _, rfl, fun j y hj => absurd hj (Nat.not_lt_zero _), HMG9, OwnT.nil _ _ _ _ _ _, Mod.refl _ _⟩
      case round =>
       obtain ⟨i, v, hil, rfl, HN, HBX, HOW, HMD⟩ := hrel; clear HMG9; have h3w : Bw w3 wr := H39.out.trans (HMD.out.upto H39.out.size (fun k hk => by have := HBM.out; simp at hk; omega)); have hwr : Bw w wr := HWR.out.trans (h3w.mono HWR.out.size); have HBRw := lH (GOr.out.below h3w)
       by_cases hi : i < I.length
       ·have hd2 : decide ((i : Int) < (I.length : Int)) = true := decide_eq_true (by omega)
        have hir : (i : Int) < (I.length : Int) := by omega
        obtain ⟨x, hx⟩ : ∃ x, I[i]? = some x := ⟨_, List.getElem?_eq_getElem hi⟩; obtain ⟨hvb, hvc⟩ := (HIDS.out.below h3w).at_ hx; have hvge : ∀ g, v.ownBlock = some g → w3.heap.size ≤ g ∧ g < wr.heap.size := fun g hg => ⟨Nat.le_trans H39.out.size (HOW.out.ge hg), HOW.out.lt hg⟩
        have HX9 : Hid (∀ k, k ∈ v.ownBlock.toList ++ (BM :: R :: X) → k < wr.heap.size) := fun k hk => by
         rcases List.mem_append.1 hk with hk | hk
         ·exact (hvge k (by simpa using hk)).2
         ·rcases List.mem_cons.1 hk with rfl | hk
          ·exact HBX.out.lt
          ·exact Nat.lt_of_lt_of_le (HX3.out k hk) h3w.size
        have HOB := lH ((((HBr.out.mod.more HBM.out).owned v (fun g hg => (hvge g hg).1))).below h3w); have HOL := lH ((((HLr.out.mod.more HBM.out).owned v (fun g hg => (hvge g hg).1))).below h3w); have HOR := lH ((((HRr.out.mod.more HBM.out).owned v (fun g hg => (hvge g hg).1))).below h3w)
        have HNX : Hid (mergeDErr (findD b.decls x) (findD l.decls x) (findD r.decls x) = 0 → ∀ j y, j < i + 1 → I[j]? = some y → mergeDErr (findD b.decls y) (findD l.decls y) (findD r.decls y) = 0) := fun h j y hj hy => by
         by_cases e : j = i
         ·subst e; rw [hx] at hy; injection hy with hy; subst hy; exact h
         ·exact HN.out j y (by omega) hy
        have HEX : Hid (mergeDErr (findD b.decls x) (findD l.decls x) (findD r.decls x) ≠ 0 → mergeMErr b l r = mergeDErr (findD b.decls x) (findD l.decls x) (findD r.decls x)) := fun h => by
         have h1 := declsErr_first hx HN.out h; rw [HEQ3.out, h1, if_neg h]
        have HDN := lH (declsM_next (b := b.decls) (l := l.decls) (r := r.decls) hx); have HLN : Hid ((declsM b.decls l.decls r.decls (I.take i)).length ≤ 300) := Nat.le_trans (declsM_len _ _ _ _) (by rw [List.length_take]; have := HIL.out; omega); clear hx hvge HN
        have HM1 := lH (fun W (h : Bw wr W) => r33Decl_any b l r x aub adb aul adl aur adr cub cdb cul cdl cur cdr (v.ownBlock.toList ++ (BM :: R :: X)) W (fun k hk => Nat.lt_of_lt_of_le (HX9.out k hk) h.size) (HOB.out.below h) (HOL.out.below h) (HOR.out.below h) ⟨HBr.out.sm, HBr.out.nodes⟩ ⟨HLr.out.sm, HLr.out.nodes⟩ ⟨HRr.out.sm, HRr.out.nodes⟩)
        have HM2 := lH (fun W N (h : Bw wr W) (hN : wr.heap.size ≤ N) (hN2 : N < W.heap.size) => r33Decl_any b l r x aub adb aul adl aur adr cub cdb cul cdl cur cdr (N :: (v.ownBlock.toList ++ (BM :: R :: X))) W (fun k hk => by rcases List.mem_cons.1 hk with rfl | hk; exact hN2; exact Nat.lt_of_lt_of_le (HX9.out k hk) h.size) ((HOB.out.more hN).below h) ((HOL.out.more hN).below h) ((HOR.out.more hN).below h) ⟨HBr.out.sm, HBr.out.nodes⟩ ⟨HLr.out.sm, HLr.out.nodes⟩ ⟨HRr.out.sm, HRr.out.nodes⟩); generalize findD b.decls x = ob at *; generalize findD l.decls x = ol at *
        generalize findD r.decls x = or at *; obtain ⟨q, hq⟩ : ∃ q, mergeDErr ob ol or = q := ⟨_, rfl⟩; obtain ⟨g, hg⟩ : ∃ g, mHas ob ol or = g := ⟨_, rfl⟩; obtain ⟨D, hD⟩ : ∃ D, mOut ob ol or = D := ⟨_, rfl⟩; have HMT : Hid (g = true → mergeD ob ol or = some D) := fun h => by rw [← hD]; exact mHas_true (by rw [hg, h])
        have HMF : Hid (g = false → q = 0 → mergeD ob ol or = none) := fun h h0 => mHas_false (by rw [hg, h]) (by rw [hq, h0]); rw [hq] at HNX HEX
        replace HM1 : Hid (∀ W , Bw wr W → Calls Tryz.prog 47 #[.agg #[.string b.label, .slice aub b.uses.length cub, .slice adb b.decls.length cdb], .agg #[.string l.label, .slice aul l.uses.length cul, .slice adl l.decls.length cdl], .agg #[.string r.label, .slice aur r.uses.length cur, .slice adr r.decls.length cdr], .int .i64 x] W fun e w9 => ∃ anD cnD asD csD, e = .returned (.tuple #[.agg #[.int .i64 D.id, .int .i64 D.kind, .bool D.pub, .slice anD D.names.length cnD, .bool D.doubt, .int .i64 D.body.kind, .string D.body.name, .string D.body.more, .int .i64 D.body.num, .int .i64 D.body.den, .slice asD D.body.subs.length csD], .bool g, .int .i64 q]) ∧ DecX w9 (v.ownBlock.toList ++ (BM :: R :: X)) D anD cnD asD csD ∧ Bw W w9) := fun W h => (HM1.out W h).mono (fun e w9 ⟨⟨a1, a2, a3, a4, g1, g2, g3⟩⟩ => ⟨a1, a2, a3, a4, by rw [g1, hq, hg, hD]; rfl, by rw [← hD]; exact g2, g3⟩)
        replace HM2 : Hid (∀ W N , Bw wr W → wr.heap.size ≤ N → N < W.heap.size → Calls Tryz.prog 47 #[.agg #[.string b.label, .slice aub b.uses.length cub, .slice adb b.decls.length cdb], .agg #[.string l.label, .slice aul l.uses.length cul, .slice adl l.decls.length cdl], .agg #[.string r.label, .slice aur r.uses.length cur, .slice adr r.decls.length cdr], .int .i64 x] W fun e w9 => ∃ anD cnD asD csD, e = .returned (.tuple #[.agg #[.int .i64 D.id, .int .i64 D.kind, .bool D.pub, .slice anD D.names.length cnD, .bool D.doubt, .int .i64 D.body.kind, .string D.body.name, .string D.body.more, .int .i64 D.body.num, .int .i64 D.body.den, .slice asD D.body.subs.length csD], .bool g, .int .i64 q]) ∧ DecX w9 (N :: (v.ownBlock.toList ++ (BM :: R :: X))) D anD cnD asD csD ∧ Bw W w9) := fun W N h h1 h2 => (HM2.out W N h h1 h2).mono (fun e w9 ⟨⟨a1, a2, a3, a4, g1, g2, g3⟩⟩ => ⟨a1, a2, a3, a4, by rw [g1, hq, hg, hD]; rfl, by rw [← hD]; exact g2, g3⟩)
        clear hq hg hD; obtain ⟨mb0, mb1, mb2, mbl⟩ := cells3 (GBr.out.below h3w); obtain ⟨ml0, ml1, ml2, mll⟩ := cells3 (GLr.out.below h3w); obtain ⟨mr0, mr1, mr2, mrl⟩ := cells3 (GRr.out.below h3w); go_upto_region 20 with (fail)
        have SW : Hid (∀ W : World, Bw wr W → (W.cell? ⟨w.heap.size, 0, none⟩ = some (.string b.label) ∧ W.cell? ⟨w.heap.size, 1, none⟩ = some (.slice aub b.uses.length cub) ∧ W.cell? ⟨w.heap.size, 2, none⟩ = some (.slice adb b.decls.length cdb) ∧ W.cell? ⟨n1, 0, none⟩ = some (.string l.label) ∧ W.cell? ⟨n1, 1, none⟩ = some (.slice aul l.uses.length cul) ∧ W.cell? ⟨n1, 2, none⟩ = some (.slice adl l.decls.length cdl) ∧ W.cell? ⟨n2, 0, none⟩ = some (.string r.label) ∧ W.cell? ⟨n2, 1, none⟩ = some (.slice aur r.uses.length cur) ∧ W.cell? ⟨n2, 2, none⟩ = some (.slice adr r.decls.length cdr) ∧ w.heap.size < W.heap.size ∧ n1 < W.heap.size ∧ n2 < W.heap.size ∧ W.cell? ⟨vb, vo + i, none⟩ = some (.int .i64 x) ∧ vb < W.heap.size)) := lH (fun W hW => ⟨(hW.cell (p := ⟨w.heap.size, _, none⟩) mbl).trans mb0, (hW.cell (p := ⟨w.heap.size, _, none⟩) mbl).trans mb1, (hW.cell (p := ⟨w.heap.size, _, none⟩) mbl).trans mb2, (hW.cell (p := ⟨n1, _, none⟩) mll).trans ml0, (hW.cell (p := ⟨n1, _, none⟩) mll).trans ml1, (hW.cell (p := ⟨n1, _, none⟩) mll).trans ml2, (hW.cell (p := ⟨n2, _, none⟩) mrl).trans mr0, (hW.cell (p := ⟨n2, _, none⟩) mrl).trans mr1, (hW.cell (p := ⟨n2, _, none⟩) mrl).trans mr2, Nat.lt_of_lt_of_le mbl hW.size, Nat.lt_of_lt_of_le mll hW.size, Nat.lt_of_lt_of_le mrl hW.size, (hW.cell (p := ⟨vb, _, none⟩) hvb).trans hvc, Nat.lt_of_lt_of_le hvb hW.size⟩)
        have hb0 : Bw wr wr.drew := (Mod.refl [] wr).drew.below; clear hvb hvc HOB HOL HOR mb0 mb1 mb2 mbl ml0 ml1 ml2 mll mr0 mr1 mr2 mrl
        go_cut [14, 15, 16] from 79 to 90 (fun u g9 e9 wx => ∃ N anD cnD asD csD, u = .pointer (some ⟨N, 0, none⟩) ∧ g9 = .bool g ∧ e9 = .int .i64 q ∧ wr.heap.size ≤ N ∧ CBox wx N 46 (dA D anD cnD asD csD) ∧ DecX wx (v.ownBlock.toList ++ (BM :: R :: X)) D anD cnD asD csD ∧ Bw wr wx)
        case first =>
         refine wp_region_noPanic (region_planT (fun W : World => W.cell? ⟨w.heap.size, 0, none⟩ = some (.string b.label) ∧ W.cell? ⟨w.heap.size, 1, none⟩ = some (.slice aub b.uses.length cub) ∧ W.cell? ⟨w.heap.size, 2, none⟩ = some (.slice adb b.decls.length cdb) ∧ W.cell? ⟨n1, 0, none⟩ = some (.string l.label) ∧ W.cell? ⟨n1, 1, none⟩ = some (.slice aul l.uses.length cul) ∧ W.cell? ⟨n1, 2, none⟩ = some (.slice adl l.decls.length cdl) ∧ W.cell? ⟨n2, 0, none⟩ = some (.string r.label) ∧ W.cell? ⟨n2, 1, none⟩ = some (.slice aur r.uses.length cur) ∧ W.cell? ⟨n2, 2, none⟩ = some (.slice adr r.decls.length cdr) ∧ w.heap.size < W.heap.size ∧ n1 < W.heap.size ∧ n2 < W.heap.size ∧ W.cell? ⟨vb, vo + i, none⟩ = some (.int .i64 x) ∧ vb < W.heap.size) (.take 0 (.take 1 (.take 2 (.take 3 (.take 4 (.take 5 (.take 6 (.two 7 12 (.take 8 (.take 9 (.take 10 (.take 11 (.one 12 (.one 13 (.one 14 (.one 15 .done)))))))) (.one 7 (.take 8 (.take 9 (.take 10 (.take 11 (.one 13 (.one 14 (.one 15 .done)))))))))))))))) mixedK (by kernel_rfl) (fun _ _ _ _ _ h => h) (SW.out _ hb0) ?_)
         iterate 7 (refine planT_take (v := ?_) rfl (by rfl) ?_ ?_; rotate_left; (focus (intro wq hSw; (try dsimp only at hSw); go_simp; (try rw [if_neg (by first | omega | (simp; omega))]); (try with_reducible rfl))); (try simp only [gA, gB, gC, Act.put, gD, gE, gF]))
         generalize wr.drew = v0 at *; refine planT_two ?_ ?_
         ·skip
          refine planT_one rfl (by rfl) (fun K hK => ?_); go_simp; refine (HM1.out _ hb0).mono ?_; rintro r1 v1 ⟨anD, cnD, asD, csD, rfl, hdx, hq1⟩
          (try go_simp)
          have hb1 := qtrans hb0 hq1; refine hK.out _ _ (SW.out _ hb1) ?_; clear hK K; (try simp only [gA, gB, gC, Act.put, gD, gE, gF])
          iterate 4 (refine planT_take (v := ?_) rfl (by rfl) ?_ ?_; rotate_left; (focus (intro wq hSw; (try dsimp only at hSw); go_simp; (try rw [if_neg (by first | omega | (simp; omega))]); (try with_reducible rfl))); (try simp only [gA, gB, gC, Act.put, gD, gE, gF]))
          have ax := CBox.new v1 46 dZ; have hbx := qtrans hb1 (qalloc v1 (.cells dZ 46)); have hdx := (hdx.more (Nat.le_refl v1.heap.size)).below (qalloc v1 (.cells dZ 46)); have hN2 : wr.heap.size ≤ v1.heap.size := hb1.size; refine planT_one rfl (by rfl) (fun K hK => ?_); go_simp; refine hK.out _ _ (SW.out _ hbx) ?_; clear hK K; (try simp only [gA, gB, gC, Act.put, gD, gE, gF]); generalize World.alloc v1 _ = v2 at *; generalize v1.heap.size = N at *; obtain ⟨z0, z1, z2, z3, z4, z5, z6, z7, z8, z9, z10, zl⟩ := cells11 ax
          obtain ⟨fz0, fz1, fz2, fz3, fz4, fz5, fz6, fz7, fz8, fz9, fz10⟩ := frozen11 ax; obtain ⟨HC9, HM9⟩ := CBox.putD ax D anD cnD asD csD
          have hbz : Bw wr (((((((((((v2.setCell ⟨N, 0, none⟩ (.int .i64 D.id)).setCell ⟨N, 1, none⟩ (.int .i64 D.kind)).setCell ⟨N, 2, none⟩ (.bool D.pub)).setCell ⟨N, 3, none⟩ (.slice anD D.names.length cnD)).setCell ⟨N, 4, none⟩ (.bool D.doubt)).setCell ⟨N, 5, none⟩ (.int .i64 D.body.kind)).setCell ⟨N, 6, none⟩ (.string D.body.name)).setCell ⟨N, 7, none⟩ (.string D.body.more)).setCell ⟨N, 8, none⟩ (.int .i64 D.body.num)).setCell ⟨N, 9, none⟩ (.int .i64 D.body.den)).setCell ⟨N, 10, none⟩ (.slice asD D.body.subs.length csD)) := hbx.trans (HM9.upto hbx.size (by intro k hk; simp at hk; omega))
          have hdz := (hdx.mod (HM9.mono inC)).fewer inT; refine planT_one rfl (by rfl) (fun K hK => ?_); go_simp; refine hK.out _ _ (SW.out _ hbz) ?_; clear hK K; (try simp only [gA, gB, gC, Act.put, gD, gE, gF]); generalize World.setCell _ ⟨N, 10, none⟩ _ = vz at *; clear zl z0 fz0 z1 fz1 z2 fz2 z3 fz3 z4 fz4 z5 fz5 z6 fz6 z7 fz7 z8 fz8 z9 fz9 z10 fz10; refine planT_one rfl (by rfl) (fun K hK => ?_); go_simp; refine hK.out _ _ (SW.out _ hbz) ?_; clear hK K; (try simp only [gA, gB, gC, Act.put, gD, gE, gF]); refine planT_one rfl (by rfl) (fun K hK => ?_); go_simp
          refine hK.out _ _ (SW.out _ hbz) ?_; clear hK K; (try simp only [gA, gB, gC, Act.put, gD, gE, gF]); refine planT_done ?_; refine NoPanic.normal ?_; go_wp2; go_meet
          case rel => exact ⟨N, anD, cnD, asD, csD, rfl, rfl, rfl, hN2, HC9, hdz, hbz⟩
         ·skip
          have ax := CBox.new v0 46 dZ; have hb1 := qtrans hb0 (qalloc v0 (.cells dZ 46)); have hN2 : wr.heap.size ≤ v0.heap.size := hb0.size; have hNl : v0.heap.size < (v0.alloc (.cells dZ 46)).heap.size := ax.lt; refine planT_one rfl (by rfl) (fun K hK => ?_); go_simp; refine hK.out _ _ (SW.out _ hb1) ?_; clear hK K; (try simp only [gA, gB, gC, Act.put, gD, gE, gF]); generalize hv1 : v0.alloc (.cells dZ 46) = v1 at *; generalize v0.heap.size = N at *; clear hv1; refine planT_one rfl (by rfl) (fun K hK => ?_); go_simp; refine (HM2.out _ N hb1 hN2 hNl).mono ?_
          rintro r1 v2 ⟨anD, cnD, asD, csD, rfl, hdx, hq1⟩
          (try go_simp)
          have hbx := qtrans hb1 hq1; refine hK.out _ _ (SW.out _ hbx) ?_; clear hK K; (try simp only [gA, gB, gC, Act.put, gD, gE, gF])
          iterate 4 (refine planT_take (v := ?_) rfl (by rfl) ?_ ?_; rotate_left; (focus (intro wq hSw; (try dsimp only at hSw); go_simp; (try rw [if_neg (by first | omega | (simp; omega))]); (try with_reducible rfl))); (try simp only [gA, gB, gC, Act.put, gD, gE, gF]))
          have ax := ax.below hq1; obtain ⟨z0, z1, z2, z3, z4, z5, z6, z7, z8, z9, z10, zl⟩ := cells11 ax; obtain ⟨fz0, fz1, fz2, fz3, fz4, fz5, fz6, fz7, fz8, fz9, fz10⟩ := frozen11 ax; obtain ⟨HC9, HM9⟩ := CBox.putD ax D anD cnD asD csD
          have hbz : Bw wr (((((((((((v2.setCell ⟨N, 0, none⟩ (.int .i64 D.id)).setCell ⟨N, 1, none⟩ (.int .i64 D.kind)).setCell ⟨N, 2, none⟩ (.bool D.pub)).setCell ⟨N, 3, none⟩ (.slice anD D.names.length cnD)).setCell ⟨N, 4, none⟩ (.bool D.doubt)).setCell ⟨N, 5, none⟩ (.int .i64 D.body.kind)).setCell ⟨N, 6, none⟩ (.string D.body.name)).setCell ⟨N, 7, none⟩ (.string D.body.more)).setCell ⟨N, 8, none⟩ (.int .i64 D.body.num)).setCell ⟨N, 9, none⟩ (.int .i64 D.body.den)).setCell ⟨N, 10, none⟩ (.slice asD D.body.subs.length csD)) := hbx.trans (HM9.upto hbx.size (by intro k hk; simp at hk; omega))
          have hdz := (hdx.mod (HM9.mono inC)).fewer inT; refine planT_one rfl (by rfl) (fun K hK => ?_); go_simp; refine hK.out _ _ (SW.out _ hbz) ?_; clear hK K; (try simp only [gA, gB, gC, Act.put, gD, gE, gF]); generalize World.setCell _ ⟨N, 10, none⟩ _ = vz at *; clear zl z0 fz0 z1 fz1 z2 fz2 z3 fz3 z4 fz4 z5 fz5 z6 fz6 z7 fz7 z8 fz8 z9 fz9 z10 fz10; refine planT_one rfl (by rfl) (fun K hK => ?_); go_simp; refine hK.out _ _ (SW.out _ hbz) ?_; clear hK K; (try simp only [gA, gB, gC, Act.put, gD, gE, gF]); refine planT_one rfl (by rfl) (fun K hK => ?_); go_simp
          refine hK.out _ _ (SW.out _ hbz) ?_; clear hK K; (try simp only [gA, gB, gC, Act.put, gD, gE, gF]); refine planT_done ?_; refine NoPanic.normal ?_; go_wp2; go_meet
          case rel => exact ⟨N, anD, cnD, asD, csD, rfl, rfl, rfl, hN2, HC9, hdz, hbz⟩
        case rest =>
        obtain ⟨N, anD, cnD, asD, csD, rfl, rfl, rfl, hNr, hn3, hd3, hb3⟩ := hcut; have HN3 := lH hn3; have HD3 := lH hd3; have HBRc := lH (HBRw.out.below hb3); have HBXc := lH (HBX.out.below hb3); have HOWc := lH (HOW.out.below hb3); have HWc : Hid (Bw w wc) := hwr.trans (hb3.mono hwr.size); have HMDc : Hid (Mod [BM] w9 wc) := HMD.out.trans (Mod.of hb3); clear hNr hn3 hd3 hb3 hb0 SW HBRw HBX HOW hwr h3w HMD HX9 HM1 HM2; have hil3 := HIL.out
        by_cases h0 : q = 0
        ·have hz : (q != 0) = false := by simp [h0]
         have HN4 := lH (HNX.out h0); have HMF2 : Hid (g = false → mergeD ob ol or = none) := fun h => HMF.out h h0; clear HNX HEX HMF h0
         cases g with
         | false =>
          rw [HMF2.out rfl, Option.toList_none, List.append_nil] at HDN; go_wp2; go_roundw
          case rel => exact ⟨i + 1, v, by omega, by go_num, HN4, HBXc, by rw [HDN.out]; exact HOWc, HMDc⟩
          case measure => simp [intOf]; omega
         | true =>
          rw [HMT.out rfl, Option.toList_some] at HDN; obtain ⟨av, cv, hve, -, -⟩ := HOWc.out.val; have HVE := lH hve; clear hve; have y2 := HBXc.out.cell (i := 2) (v := v) rfl; have yl := HBXc.out.lt; obtain ⟨n0, n1, n2, n3, n4, n5, n6, n7, n8, n9, n10, nl⟩ := cells11 HN3.out; have hal := qalloc wc (.cells (dA D anD cnD asD csD) 46); have HRB := lH (CBox.new wc 46 (dA D anD cnD asD csD)); have HOA := lH (HOWc.out.below hal); have HBA := lH (HBXc.out.below hal); have HDA := lH (HD3.out.below hal)
          have HMA : Hid (Mod [BM] w9 (wc.alloc (.cells (dA D anD cnD asD csD) 46))) := HMDc.out.trans (Mod.of hal); have hsz : w9.heap.size ≤ (wc.alloc (.cells (dA D anD cnD asD csD) 46)).heap.size := HMA.out.size; have hlen := HLN.out; clear hal HBXc HOWc HMDc HD3 HN3
          go_wp2_with (at_builtin; refine wpList_decl (v := v) (X := BM :: R :: X) (L := declsM b.decls l.decls r.decls (I.take i)) (B := wc.heap.size) (d := D) (an := anD) (cn := cnD) (sa := asD) (cs := csD) rfl _ _ rfl rfl HOA.out rfl HRB.out HDA.out (by omega) hsz ?_; rintro v' w' ho7 hm7 ⟨a7, c7, hv7⟩ hb7; have HB7 := lH (HBA.out.mod hm7 (fun hk => by have h1 := HOA.out.ge (by simpa using hk : v.ownBlock = some BM); have h2 := HBM9.out; omega)); have HM7 : Hid (Mod [BM] w9 w') := HMA.out.after hm7 (fun g hg => HOA.out.ge (by simpa using hg)); have k2 := HB7.out.cell (i := 2) (v := v) rfl; have kf := HB7.out.frozen 2; have kl := HB7.out.lt; have HO7 := lH ho7; clear ho7 hm7)
          have hvv : v' = .slice a7 ((declsM b.decls l.decls r.decls (I.take i)).length + 1) c7 := by rw [hv7, List.length_append]; rfl
          rw [← hvv]
          have hge : ∀ g, v'.ownBlock = some g → g ∉ BM :: R :: X := fun g hg hx => by
           have h1 := HO7.out.ge hg
           rcases List.mem_cons.1 hx with rfl | hx
           ·have := HBM9.out; omega
           ·have h2 := HX3.out g hx; have h3 := H39.out.size; omega
          refine ⟨⟨i + 1, v', by omega, rfl, HN4, HB7.out.set 2 v', ?_, HM7.out.trans ((Mod.refl [BM] w').setCell (by simp) v')⟩, by simp [intOf]; omega⟩; show OwnT _ _ _ _ _ _ _ _
          rw [HDN.out]; exact HO7.out.mod ((Mod.refl (BM :: R :: X) w').setCell (by simp) v') hge
        ·have hz : (q != 0) = true := by simp [h0]
         have HE := lH (HEX.out h0); have HQ := lH h0; clear HNX HEX HMF HMT h0; obtain ⟨o0, o1, o2, ol9⟩ := cells3 HBRc.out; obtain ⟨fo0, fo1, fo2⟩ := frozen3 HBRc.out
         (try dsimp only)
         repeat (first | go_values | go_skip | go_guarded | go_step | go_upon | go_in)
         (try simp only [Exit.inBlock, Exit.then])
         clear o0 fo0 o1 fo1 o2 fo2 ol9; obtain ⟨HC9, HM9⟩ := CBox.three (HBRc.out) (.string ⟨#[]⟩) (.slice none 0 0) (.slice none 0 0); generalize World.setCell _ ⟨R, 2, none⟩ _ = WZ at *; obtain ⟨r0, r1, r2, -⟩ := cells3 HC9; refine bodyPost_ret (by simp [results, Tryz.results15, go_sem, r0, r1, r2]; try rfl) rfl ?_; have hdZ : Bw w WZ := (HWc.out).trans (HM9.upto (HWc.out).size (by intro k hk; simp at hk; have := HSZ.out; omega)); exact MergedM.bad HE.out HQ.out hdZ
       ·have hd2 : decide ((i : Int) < (I.length : Int)) = false := decide_eq_false (by omega)
        have HE2 : Hid (mergeMErr b l r = if (declsM b.decls l.decls r.decls I).length ≤ 100 then 0 else 4) := by
         show mergeMErr b l r = _
         rw [HEQ3.out, if_pos (declsErr_all (fun j y hj => HN.out j y (by have := (List.getElem?_eq_some_iff.1 hj).1; omega) hj))]
        have HOI := HOW.out; rw [List.take_of_length_le (by omega)] at HOI; have HLN : Hid ((declsM b.decls l.decls r.decls I).length ≤ 300) := Nat.le_trans (declsM_len _ _ _ _) HIL.out; have HOE : Hid (outM b l r = ⟨b.label, U, declsM b.decls l.decls r.decls I⟩) := by show outM b l r = _; unfold outM; rw [HUU.out, HIE.out]
        have HWr := lH hwr; have HUw : Hid (Reads wr (R :: X) (strsT U) (.slice a5 U.length c5)) := (HUR9.out.mod (HMD.out.mono inC)).fewer inT; clear HN HOW hwr h3w; generalize declsM b.decls l.decls r.decls I = DD at *; obtain ⟨av, cv, rfl, hav1, hav2⟩ := HOI.val; have y2 := HBX.out.cell (i := 2) (v := .slice av DD.length cv) rfl; have yl := HBX.out.lt
        by_cases h100 : 100 < DD.length
        ·have hd3 : decide ((100 : Int) < (DD.length : Int)) = true := decide_eq_true (by omega)
         have HE : Hid (mergeMErr b l r = 4) := by show _ = _; rw [HE2.out, if_neg (by omega)]
         clear h100 HOI; obtain ⟨o0, o1, o2, ol9⟩ := cells3 HBRw.out; obtain ⟨fo0, fo1, fo2⟩ := frozen3 HBRw.out
         (try dsimp only)
         repeat (first | go_values | go_skip | go_guarded | go_step | go_upon | go_in)
         (try simp only [Exit.inBlock, Exit.then])
         clear o0 fo0 o1 fo1 o2 fo2 ol9; obtain ⟨HC9, HM9⟩ := CBox.three (HBRw.out) (.string ⟨#[]⟩) (.slice none 0 0) (.slice none 0 0); generalize World.setCell _ ⟨R, 2, none⟩ _ = WZ at *; obtain ⟨r0, r1, r2, -⟩ := cells3 HC9; refine bodyPost_ret (by simp [results, Tryz.results15, go_sem, r0, r1, r2]; try rfl) rfl ?_; have hdZ : Bw w WZ := (HWr.out).trans (HM9.upto (HWr.out).size (by intro k hk; simp at hk; have := HSZ.out; omega)); exact MergedM.bad HE.out (by decide) hdZ
        ·have hd3 : decide ((100 : Int) < (DD.length : Int)) = false := decide_eq_false (by omega)
         have HE : Hid (mergeMErr b l r = 0) := by show _ = _; rw [HE2.out, if_pos (by omega)]
         have HOX := lH HOI; clear h100 HOI; have y0 := HBX.out.cell (i := 0) (v := .string b.label) rfl; have y1 := HBX.out.cell (i := 1) (v := .slice a5 U.length c5) rfl; obtain ⟨o0, o1, o2, ol9⟩ := cells3 HBRw.out; obtain ⟨fo0, fo1, fo2⟩ := frozen3 HBRw.out
         (try dsimp only)
         repeat (first | go_values | go_skip | go_guarded | go_step | go_upon | go_in)
         (try simp only [Exit.inBlock, Exit.then])
         clear o0 fo0 o1 fo1 o2 fo2 ol9 y0 y1 y2 yl; obtain ⟨HC9, HM9⟩ := CBox.three HBRw.out (.string b.label) (.slice a5 U.length c5) (.slice av DD.length cv); generalize World.setCell _ ⟨R, 2, none⟩ _ = WZ at *; obtain ⟨r0, r1, r2, -⟩ := cells3 HC9; refine bodyPost_ret (by simp [results, Tryz.results15, go_sem, r0, r1, r2]; try rfl) rfl ?_; have hdZ : Bw w WZ := HWr.out.trans (HM9.upto HWr.out.size (by intro k hk; simp at hk; have := HSZ.out; omega)); have hmz : Mod (R :: X) wr WZ := HM9.mono inC; have hown := (HOX.out.fewer (Y := R :: X) inT)
         have hge : ∀ g, (Value.slice av DD.length cv).ownBlock = some g → g ∉ R :: X := fun g hg hx => by
          have h1 := HOX.out.ge hg; have h2 := HX3.out g hx; have h3 := H39.out.size; omega
         have hrd := ((hown.reads hge).mod hmz).fewer (Y := X) inT; have hru := (HUw.out.mod hmz).fewer (Y := X) inT; have hfin := MergedM.good HE.out (by rw [HOE.out]; exact ⟨hru, hrd, hu51, hu52, hav1, hav2⟩) hdZ; rw [HOE.out] at hfin; exact hfin
   ·have HE : Hid (mergeMErr b l r = 11) := by
     show mergeMErr b l r = 11
     rw [HEQ.out, HX1.out, HX2.out, if_neg hxx]
    have HXX := lH hxx; clear HEQ hxx
    cases x1
    ·skip
     obtain ⟨o0, o1, o2, ol9⟩ := cells3 GOr.out; obtain ⟨fo0, fo1, fo2⟩ := frozen3 GOr.out
     (try dsimp only)
     repeat (first | go_values | go_skip | go_guarded | go_step | go_upon | go_in)
     (try simp only [Exit.inBlock, Exit.then])
     clear o0 fo0 o1 fo1 o2 fo2 ol9; obtain ⟨HC9, HM9⟩ := CBox.three (GOr.out) (.string ⟨#[]⟩) (.slice none 0 0) (.slice none 0 0); generalize World.setCell _ ⟨R, 2, none⟩ _ = WZ at *; obtain ⟨r0, r1, r2, -⟩ := cells3 HC9; refine bodyPost_ret (by simp [results, Tryz.results15, go_sem, r0, r1, r2]; try rfl) rfl ?_; have hdZ : Bw w WZ := (HWR.out).trans (HM9.upto (HWR.out).size (by intro k hk; simp at hk; have := HSZ.out; omega)); exact MergedM.bad HE.out (by decide) hdZ
    ·cases x2
     ·skip
      obtain ⟨o0, o1, o2, ol9⟩ := cells3 GOr.out; obtain ⟨fo0, fo1, fo2⟩ := frozen3 GOr.out
      (try dsimp only)
      repeat (first | go_values | go_skip | go_guarded | go_step | go_upon | go_in)
      (try simp only [Exit.inBlock, Exit.then])
      clear o0 fo0 o1 fo1 o2 fo2 ol9; obtain ⟨HC9, HM9⟩ := CBox.three (GOr.out) (.string ⟨#[]⟩) (.slice none 0 0) (.slice none 0 0); generalize World.setCell _ ⟨R, 2, none⟩ _ = WZ at *; obtain ⟨r0, r1, r2, -⟩ := cells3 HC9; refine bodyPost_ret (by simp [results, Tryz.results15, go_sem, r0, r1, r2]; try rfl) rfl ?_; have hdZ : Bw w WZ := (HWR.out).trans (HM9.upto (HWR.out).size (by intro k hk; simp at hk; have := HSZ.out; omega)); exact MergedM.bad HE.out (by decide) hdZ
     ·exact absurd rfl HXX.out
end Go.Proofs.YtlgnedahnaojlaaGreatDoor

