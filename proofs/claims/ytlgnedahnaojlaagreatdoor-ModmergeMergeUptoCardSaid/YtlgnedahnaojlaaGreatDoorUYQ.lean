/- The reference's Decl of chapter 33. -/
import Derived.Test.YtlgnedahnaojlaaGreatDoorUYN
import Derived.Test.YtlgnedahnaojlaaGreatDoorUYH
namespace Go.Proofs.YtlgnedahnaojlaaGreatDoor
open Go.RowKit Go.Shelf
attribute [local go_sem] Oper.semAt_some

def oldI (id : Int) : ODecl := ⟨id, 0, false, [⟨#[]⟩], false, nilX⟩
theorem both_old (ob : Option ODecl) (id : Int) (l r : ODecl) : bothErr (ob.getD (oldI id)) l r = bothErr (ob.getD oldD) l r ∧ bothOut (ob.getD (oldI id)) l r = bothOut (ob.getD oldD) l r := by
 cases ob with
 | none => exact ⟨rfl, rfl⟩
 | some _ => exact ⟨rfl, rfl⟩
theorem one_old (ob : Option ODecl) (id : Int) (d : ODecl) : oneO ob.isSome (ob.getD (oldI id)) d = oneD ob d := by
 cases ob with
 | none => rfl
 | some b =>
  show (if sameD b d = true then none else some (doubtD d)) = if sameD d b = true then none else some (doubtD d)
  have : sameD b d = sameD d b := by
   rw [Bool.eq_iff_iff, sameD_iff, sameD_iff]; exact ⟨Eq.symm, Eq.symm⟩
  rw [this]
theorem getD_sm {m : OMod} (h : SmN m) (id : Int) : SmD ((findD m.decls id).getD (oldI id)) ∧ nodesN ((findD m.decls id).getD (oldI id)).body ≤ 1000000 := by
 cases hf : findD m.decls id with
 | none => exact ⟨⟨old_sm.1.names, old_sm.1.len, old_sm.1.body, old_sm.1.nodes⟩, old_sm.2⟩
 | some d => exact find_sm h hf
set_option maxRecDepth 100000 in
set_option maxHeartbeats 8000000 in
theorem r33Decl_any (b l r : OMod) (id : Int) (aub adb aul adl aur adr : Option Addr) (cub cdb cul cdl cur cdr : Nat) (X : List Nat) (w : World) (hX : ∀ k, k ∈ X → k < w.heap.size) (hb : ModIn w X b aub cub adb cdb) (hl : ModIn w X l aul cul adl cdl) (hr : ModIn w X r aur cur adr cdr) (sb : SmN b) (sl : SmN l) (sr : SmN r) :
  Calls Tryz.prog 47 #[modV b aub cub adb cdb, modV l aul cul adl cdl, modV r aur cur adr cdr, .int .i64 id] w (MergedO (findD b.decls id) (findD l.decls id) (findD r.decls id) X w) := by
 obtain ⟨gb, gl, gr, hA3, hs3⟩ := three_boxes w 25 (mA b aub cub adb cdb) (mA l aul cul adl cdl) (mA r aur cur adr cdr); have HX := lH hX; have HMb := lH hb; have HMl := lH hl; have HMr := lH hr; have HSb := lH sb; have HSl := lH sl; have HSr := lH sr; clear hX hb hl hr sb sl sr; unfold modV
 go_enter Tryz.func47, Tryz.ntmps47
 generalize hW3 : ((w.alloc (.cells (mA b aub cub adb cdb) 25)).alloc (.cells (mA l aul cul adl cdl) 25)).alloc (.cells (mA r aur cur adr cdr) 25) = W3 at *; have go := CBox.new W3 46 dZ; have hal := qalloc W3 (.cells dZ 46); have hs4 : (W3.alloc (.cells dZ 46)).heap.size = W3.heap.size + 1 := World.size_alloc _ _; have hR3 : W3.heap.size = w.heap.size + 1 + 1 + 1 := hs3; rw [hR3] at go hs4; have hA := qtrans hA3 hal; have gb := gb.below hal; have gl := gl.below hal; have gr := gr.below hal; go_upto_region 1 with (fail)
 (try rw [hW3])
 generalize World.alloc W3 _ = W0 at *; clear hal hA3 hs3 hR3 hW3; obtain ⟨R, hR⟩ : ∃ R, w.heap.size + 1 + 1 + 1 = R := ⟨_, rfl⟩; rw [hR] at go hs4 ⊢; obtain ⟨n2, hn2⟩ : ∃ R, w.heap.size + 1 + 1 = R := ⟨_, rfl⟩; rw [hn2] at gr ⊢; obtain ⟨n1, hn1⟩ : ∃ R, w.heap.size + 1 = R := ⟨_, rfl⟩; rw [hn1] at gl ⊢; have hRW : w.heap.size ≤ R := by omega
 have HRW : Hid (w.heap.size ≤ R ∧ W0.heap.size = R + 1 ∧ n2 < R ∧ n1 < R ∧ w.heap.size < R) := ⟨hRW, hs4, by omega, by omega, by omega⟩; clear hR hn2 hn1 hs4; have HW0 := lH hA; have HMb0 := lH ((HMb.out.more hRW).below hA); have HMl0 := lH ((HMl.out.more hRW).below hA); have HMr0 := lH ((HMr.out.more hRW).below hA)
 have HX0 : Hid (∀ k, k ∈ R :: X → k < W0.heap.size) := fun k hk => by
  have h1 := HRW.out
  rcases List.mem_cons.1 hk with rfl | hk
  ·omega
  ·have h2 := HX.out k hk; omega
 clear HMb HMl HMr hA hRW; have HBb0 := lH gb; have HBl0 := lH gl; have HBr0 := lH gr; have HR0 := lH go; clear gb gl gr go; have HF := lH (r33Find_any b id aub adb cub cdb (R :: X) W0 HMb0.out HSb.out.1.dlen); unfold modV at HF; obtain ⟨ob, hob⟩ : ∃ o, findD b.decls id = o := ⟨_, rfl⟩; have HOb := lH hob; rw [hob] at HF; clear hob; obtain ⟨y0, y1, y2, yl⟩ := cells3 HBb0.out; go_wp2_with (fail)
 refine HF.out.mono ?_; rintro e v0 ⟨anb, cnb, asb, csb, rfl, hd, hbf⟩; unfold declV; clear HF y0 y1 y2 yl; obtain ⟨db, hdb⟩ : ∃ d, ob.getD noDecl = d := ⟨_, rfl⟩; have HDb := lH hdb; rw [hdb] at hd ⊢; clear hdb; have HC9 := CBox.new v0 46 (dA db anb cnb asb csb); have hal := qalloc v0 (.cells (dA db anb cnb asb csb) 46); go_upto_region 2 with (fail)
 have hbn := qtrans hbf hal; have hdn := (hd.more (k := v0.heap.size) (Nat.le_refl _)).below hal; have HMl0n := (HMl0.out.more (k := v0.heap.size) hbf.size).below hbn; have HMr0n := (HMr0.out.more (k := v0.heap.size) hbf.size).below hbn; have hNl := HC9.lt; have hNg := hbf.size; generalize World.alloc v0 _ = W1 at *; have HNW : Hid (W0.heap.size ≤ v0.heap.size) := hNg
 have HX1 : Hid (∀ k, k ∈ v0.heap.size :: R :: X → k < W1.heap.size) := fun k hk => by
  rcases List.mem_cons.1 hk with rfl | hk
  ·exact hNl
  ·exact Nat.lt_of_lt_of_le (HX0.out k hk) hbn.size
 clear hNl hNg; have HMl1 := lH HMl0n; have HMr1 := lH HMr0n; have HDXb1 := lH hdn; clear HMl0 HMr0 HMb0 HMl0n HMr0n; clear hdn hd; obtain ⟨N1, hN⟩ : ∃ N, v0.heap.size = N := ⟨_, rfl⟩; rw [hN] at HC9 HNW HX1 HMl1 HMr1 HDXb1 ⊢; have HNb1 := lH HC9; clear hN; have HBl1 := lH (HBl0.out.below hbn); have HBr1 := lH (HBr0.out.below hbn); have HR1 := lH (HR0.out.below hbn); have HW1 := lH (HW0.out.trans (hbn.mono HW0.out.size)); clear HC9 hbn hal hbf HR0 HW0 HBb0 ; clear HBl0; clear HBr0; have HF := lH (r33Find_any l id aul adl cul cdl (N1 :: R :: X) W1 HMl1.out HSl.out.1.dlen); unfold modV at HF
 obtain ⟨ol, hol⟩ : ∃ o, findD l.decls id = o := ⟨_, rfl⟩; have HOl := lH hol; rw [hol] at HF; clear hol; obtain ⟨y0, y1, y2, yl⟩ := cells3 HBl1.out; go_wp2_with (fail)
 refine HF.out.mono ?_; rintro e v1 ⟨anl, cnl, asl, csl, rfl, hd, hbf⟩; unfold declV; clear HF y0 y1 y2 yl; obtain ⟨dl, hdl⟩ : ∃ d, ol.getD noDecl = d := ⟨_, rfl⟩; have HDl := lH hdl; rw [hdl] at hd ⊢; clear hdl; have HC9 := CBox.new v1 46 (dA dl anl cnl asl csl); have hal := qalloc v1 (.cells (dA dl anl cnl asl csl) 46); go_upto_region 3 with (fail)
 have hbn := qtrans hbf hal; have hdn := (hd.more (k := v1.heap.size) (Nat.le_refl _)).below hal; generalize World.alloc v1 _ = W2 at *; have HDXl2 := lH (hdn.fewer (Y := N1 :: R :: X) inT); have HMr2 := lH (HMr1.out.below hbn); have HX2 : Hid (∀ k, k ∈ N1 :: R :: X → k < W2.heap.size) := fun k hk => Nat.lt_of_lt_of_le (HX1.out k hk) hbn.size; clear HMl1 HMr1; clear hdn hd; obtain ⟨N2, hN⟩ : ∃ N, v1.heap.size = N := ⟨_, rfl⟩; rw [hN] at HC9 ⊢; have HNl2 := lH HC9; have HG2 : Hid (N1 < N2) := by show _ < _; have h1 := HX1.out N1 (List.mem_cons_self ..); have := hbf.size; omega
 clear hN; have HBr2 := lH (HBr1.out.below hbn); have HNb2 := lH (HNb1.out.below hbn); have HDXb2 := lH (HDXb1.out.below hbn); have HR2 := lH (HR1.out.below hbn); have HW2 := lH (HW1.out.trans (hbn.mono HW1.out.size)); clear HC9 hbn hal hbf HR1 HW1 HBl1 HNb1 HDXb1; clear HBr1; have HF := lH (r33Find_any r id aur adr cur cdr (N1 :: R :: X) W2 HMr2.out HSr.out.1.dlen); unfold modV at HF; obtain ⟨or, hor⟩ : ∃ o, findD r.decls id = o := ⟨_, rfl⟩; have HOr := lH hor; rw [hor] at HF; clear hor; obtain ⟨y0, y1, y2, yl⟩ := cells3 HBr2.out; go_wp2_with (fail)
 refine HF.out.mono ?_; rintro e v2 ⟨anr, cnr, asr, csr, rfl, hd, hbf⟩; unfold declV; clear HF y0 y1 y2 yl; obtain ⟨dr, hdr⟩ : ∃ d, or.getD noDecl = d := ⟨_, rfl⟩; have HDr := lH hdr; rw [hdr] at hd ⊢; clear hdr; have HC9 := CBox.new v2 46 (dA dr anr cnr asr csr); have hal := qalloc v2 (.cells (dA dr anr cnr asr csr) 46); go_upto_region 4 with (fail)
 have hbn := qtrans hbf hal; have hdn := (hd.more (k := v2.heap.size) (Nat.le_refl _)).below hal; generalize World.alloc v2 _ = W3 at *; have HDXr3 := lH (hdn.fewer (Y := N1 :: R :: X) inT); clear HMr2; have HX3 : Hid (∀ k, k ∈ N1 :: R :: X → k < W3.heap.size) := fun k hk => Nat.lt_of_lt_of_le (HX2.out k hk) hbn.size; clear hdn hd; obtain ⟨N3, hN⟩ : ∃ N, v2.heap.size = N := ⟨_, rfl⟩; rw [hN] at HC9 ⊢; have HNr3 := lH HC9; have HG3 : Hid (N1 < N3) := by show _ < _; have h1 := HX1.out N1 (List.mem_cons_self ..); have h2 := HNl2.out.lt; have h3 := HG2.out; have := hbf.size; omega
 clear hN; have HNb3 := lH (HNb2.out.below hbn); have HDXb3 := lH (HDXb2.out.below hbn); have HNl3 := lH (HNl2.out.below hbn); have HDXl3 := lH (HDXl2.out.below hbn); have HR3 := lH (HR2.out.below hbn); have HW3 := lH (HW2.out.trans (hbn.mono HW2.out.size)); clear HC9 hbn hal hbf HR2 HW2 HBr2 HNb2 HDXb2 HNl2 HDXl2; obtain ⟨b9, hb9⟩ : ∃ d, ob.getD (oldI id) = d := ⟨_, rfl⟩; have HB9 := lH hb9; have hsm9 := getD_sm HSb.out id; rw [HOb.out, hb9] at hsm9; have HS9 := lH hsm9; clear hsm9 hb9; go_upto_if 42 with (fail)
 go_cut [] from 43 to 46 (fun wx => ∃ an9 cn9 as9 cs9, CBox wx N1 46 (dA b9 an9 cn9 as9 cs9) ∧ DecX wx (R :: X) b9 an9 cn9 as9 cs9 ∧ Mod [N1] W3 wx)
 case first =>
  cases ob with
  | some d =>
   obtain rfl : d = db := HDb.out; obtain rfl : d = b9 := HB9.out; simp only [Option.isSome_some]
   go_wp2; go_meet
   case rel => exact ⟨_, _, _, _, HNb3.out, HDXb3.out.fewer inT, Mod.refl _ _⟩
  | none =>
   obtain rfl : oldI id = b9 := HB9.out; simp only [Option.isSome_none]
   have hold := old_in W3 (N1 :: R :: X) HX3.out; have hal := qalloc W3 (.cells #[.string ⟨#[]⟩] 9); have hbx := HNb3.out.below hal; obtain ⟨o0, o1, o2, o3, o4, o5, o6, o7, o8, o9, o10, ol⟩ := cells11 hbx; obtain ⟨fo0, fo1, fo2, fo3, fo4, fo5, fo6, fo7, fo8, fo9, fo10⟩ := frozen11 hbx; go_wp2; clear o0 o1 o2 o3 o4 o5 o6 o7 o8 o9 o10 fo0 fo1 fo2 fo3 fo4 fo5 fo6 fo7 fo8 fo9 fo10 ol
   obtain ⟨HC9, HM9⟩ := CBox.eleven hbx (.int .i64 id) (.int .i64 0) (.bool false) (.slice (some ⟨W3.heap.size, 0, none⟩) 1 1) (.bool false) (.int .i64 11) (.string ⟨#[]⟩) (.string ⟨#[]⟩) (.int .i64 0) (.int .i64 0) (.slice none 0 0); have hdn := hold.mod (HM9.mono inC)
   have hmd : Mod [N1] W3 ((((((((((((W3.alloc (.cells #[.string ⟨#[]⟩] 9)).setCell ⟨N1, 0, none⟩ (.int .i64 id)).setCell ⟨N1, 1, none⟩ (.int .i64 0)).setCell ⟨N1, 2, none⟩ (.bool false)).setCell ⟨N1, 3, none⟩ (.slice (some ⟨W3.heap.size, 0, none⟩) 1 1)).setCell ⟨N1, 4, none⟩ (.bool false)).setCell ⟨N1, 5, none⟩ (.int .i64 11)).setCell ⟨N1, 6, none⟩ (.string ⟨#[]⟩)).setCell ⟨N1, 7, none⟩ (.string ⟨#[]⟩)).setCell ⟨N1, 8, none⟩ (.int .i64 0)).setCell ⟨N1, 9, none⟩ (.int .i64 0)).setCell ⟨N1, 10, none⟩ (.slice none 0 0)) := (Mod.of hal).trans HM9
   generalize World.setCell _ ⟨N1, 10, none⟩ _ = WZ at *; go_meet
   case rel => exact ⟨some ⟨W3.heap.size, 0, none⟩, 1, none, 0, HC9, ⟨(hdn.fewer (Y := R :: X) inT).names, (hdn.fewer (Y := R :: X) inT).subs, hdn.hn1, hdn.hn2, hdn.hs1, hdn.hs2⟩, hmd⟩
 case rest =>
 obtain ⟨an9, cn9, as9, cs9, hc9, hd9, hm9⟩ := hcut; generalize wc = W4 at *; have HN94 := lH hc9; have HDX94 := lH hd9; have HNl4 := lH (HNl3.out.mod hm9 (by have := HG2.out; simp; omega)); have HNr4 := lH (HNr3.out.mod hm9 (by have := HG3.out; simp; omega)); have HR4 := lH (HR3.out.mod hm9 (by have h1 := HRW.out; have h2 := HNW.out; simp; omega)); have HDXl4 := lH ((HDXl3.out.mod (hm9.mono inC)).fewer (Y := R :: X) inT); have HDXr4 := lH ((HDXr3.out.mod (hm9.mono inC)).fewer (Y := R :: X) inT)
 have HW4 : Hid (Bw w W4) := HW3.out.trans (hm9.upto HW3.out.size (by intro k hk; have h1 := HRW.out; have h2 := HNW.out; simp at hk; omega))
 have HX4 : Hid (∀ k, k ∈ R :: X → k < W4.heap.size) := fun k hk => by
  have h1 := HX0.out k hk; have h2 := HR4.out.lt; have h3 := HRW.out
  rcases List.mem_cons.1 hk with rfl | hk
  ·exact h2
  ·have h4 := HX.out k hk; have h5 := HW4.out.size; omega
 clear hc9 hd9 hm9 HNb3 HNl3 HNr3 HR3 HDXb3 HDXl3 HDXr3 HW3
 cases ol with
 | some xl =>
  obtain rfl : xl = dl := HDl.out; have HSl9 := lH (find_sm HSl.out HOl.out)
  cases or with
  | some xr =>
   obtain rfl : xr = dr := HDr.out; have HSr9 := lH (find_sm HSr.out HOr.out); simp only [Option.isSome_some]
   have HC := lH (r33both_any b9 xl xr an9 anl anr as9 asl asr cn9 cnl cnr cs9 csl csr (R :: X) W4 HX4.out HDX94.out HDXl4.out HDXr4.out HS9.out.1 HSl9.out.1 HSr9.out.1 HS9.out.2 HSl9.out.2 HSr9.out.2); unfold declV at HC; obtain ⟨n0, n1, n2, n3, n4, n5, n6, n7, n8, n9, n10, nl⟩ := cells11 HN94.out; obtain ⟨l0, l1, l2, l3, l4, l5, l6, l7, l8, l9, l10, ll⟩ := cells11 HNl4.out; obtain ⟨r0, r1, r2, r3, r4, r5, r6, r7, r8, r9, r10, rl⟩ := cells11 HNr4.out; go_wp2_with (fail)
   refine HC.out.mono ?_; rintro e v5 ⟨anD, cnD, asD, csD, rfl, hd, hbf⟩; unfold declV; clear HC n0 n1 n2 n3 n4 n5 n6 n7 n8 n9 n10 nl l0 l1 l2 l3 l4 l5 l6 l7 l8 l9 l10 ll r0 r1 r2 r3 r4 r5 r6 r7 r8 r9 r10 rl; obtain ⟨q, hq⟩ : ∃ q, bothErr b9 xl xr = q := ⟨_, rfl⟩; obtain ⟨D, hD⟩ : ∃ D, bothOut b9 xl xr = D := ⟨_, rfl⟩; rw [hq, hD]; rw [hD] at hd; have HQ := lH hq; have HDD := lH hD; clear hq hD; have HC9 := CBox.new v5 46 (dA D anD cnD asD csD); have hal := qalloc v5 (.cells (dA D anD cnD asD csD) 46); go_upto_region 8 with (fail)
   have hbn := qtrans hbf hal; have hdn := hd.below hal; generalize World.alloc v5 _ = W5 at *; generalize v5.heap.size = N7 at *; have HN7 := lH HC9; have HDX5 := lH hdn; have HR5 := lH (HR4.out.below hbn); have HW5 := lH (HW4.out.trans (hbn.mono HW4.out.size)); clear HC9 hbn hal hbf hd hdn HR4 HW4 HN94 HNl4 HNr4 HDXl4 HDXr4 HDX94; obtain ⟨n0, n1, n2, n3, n4, n5, n6, n7, n8, n9, n10, nl⟩ := cells11 HN7.out; obtain ⟨o0, o1, o2, o3, o4, o5, o6, o7, o8, o9, o10, ol⟩ := cells11 HR5.out; obtain ⟨fo0, fo1, fo2, fo3, fo4, fo5, fo6, fo7, fo8, fo9, fo10⟩ := frozen11 HR5.out; go_wp2
   clear n0 n1 n2 n3 n4 n5 n6 n7 n8 n9 n10 nl o0 o1 o2 o3 o4 o5 o6 o7 o8 o9 o10 fo0 fo1 fo2 fo3 fo4 fo5 fo6 fo7 fo8 fo9 fo10 ol; obtain ⟨HC9, HM9⟩ := CBox.putD (HR5.out) D anD cnD asD csD; generalize World.setCell _ ⟨R, 10, none⟩ _ = WZ at *; obtain ⟨r0, r1, r2, r3, r4, r5, r6, r7, r8, r9, r10, -⟩ := cells11 HC9; refine bodyPost_ret (by simp [results, Tryz.results47, go_sem, r0, r1, r2, r3, r4, r5, r6, r7, r8, r9, r10]; try rfl) rfl ?_; have hdZ : Bw w WZ := HW5.out.trans (HM9.upto HW5.out.size (by intro k hk; have := HRW.out; simp at hk; omega))
   have hdx9 := (HDX5.out.mod (HM9.mono inC)).fewer (Y := X) inT; have HBO := both_old ob id xl xr; rw [HB9.out, HQ.out, HDD.out] at HBO; have HEQ : mergeDErr ob (some xl) (some xr) = q := HBO.1.symm
   have HOU : mOut ob (some xl) (some xr) = D := by
    rw [HBO.2]; unfold mOut bothOut; rw [HEQ, ← HBO.1]; rfl
   have HHA : mHas ob (some xl) (some xr) = (q == 0) := by
    unfold mHas; rw [HEQ]; show (decide (q = 0) && true) = _
    rw [Bool.and_true]
    by_cases h : q = 0 <;> simp [h]
   rw [HOb.out, HOl.out, HOr.out]; refine ⟨anD, cnD, asD, csD, ?_, ?_, hdZ⟩
   ·rw [HOU, HHA, HEQ]; rfl
   ·rw [HOU]; exact hdx9
  | none =>
   simp only [Option.isSome_some, Option.isSome_none]
   obtain ⟨ub, hub⟩ : ∃ u, ob.isSome = u := ⟨_, rfl⟩; have HC := lH (r33one_any b9 xl ub an9 cn9 as9 cs9 anl cnl asl csl (R :: X) W4 HX4.out HDX94.out HDXl4.out HS9.out.1.len HS9.out.2); have h9 := one_old ob id xl; rw [HB9.out, hub] at h9; rw [h9] at HC; rw [hub]; obtain ⟨od, hod⟩ : ∃ o, oneD ob xl = o := ⟨_, rfl⟩; rw [hod] at HC; have HOD := lH hod; clear h9 hub hod; unfold declV at HC; obtain ⟨n0, n1, n2, n3, n4, n5, n6, n7, n8, n9, n10, nl⟩ := cells11 HN94.out; obtain ⟨l0, l1, l2, l3, l4, l5, l6, l7, l8, l9, l10, ll⟩ := cells11 HNl4.out; go_wp2_with (fail)
   refine HC.out.mono ?_; rintro e v5 ⟨anD, cnD, asD, csD, rfl, hd, hbf⟩; unfold declV; clear HC n0 n1 n2 n3 n4 n5 n6 n7 n8 n9 n10 nl l0 l1 l2 l3 l4 l5 l6 l7 l8 l9 l10 ll; obtain ⟨D, hD⟩ : ∃ D, od.getD noDecl = D := ⟨_, rfl⟩; rw [hD]; rw [hD] at hd; have HDD := lH hD; clear hD; have HC9 := CBox.new v5 46 (dA D anD cnD asD csD); have hal := qalloc v5 (.cells (dA D anD cnD asD csD) 46); go_upto_region 11 with (fail)
   have hbn := qtrans hbf hal; have hdn := hd.below hal; generalize World.alloc v5 _ = W5 at *; generalize v5.heap.size = N7 at *; have HN7 := lH HC9; have HDX5 := lH hdn; have HR5 := lH (HR4.out.below hbn); have HW5 := lH (HW4.out.trans (hbn.mono HW4.out.size)); clear HC9 hbn hal hbf hd hdn HR4 HW4 HN94 HNl4 HNr4 HDXl4 HDXr4 HDX94; obtain ⟨n0, n1, n2, n3, n4, n5, n6, n7, n8, n9, n10, nl⟩ := cells11 HN7.out; obtain ⟨o0, o1, o2, o3, o4, o5, o6, o7, o8, o9, o10, ol⟩ := cells11 HR5.out; obtain ⟨fo0, fo1, fo2, fo3, fo4, fo5, fo6, fo7, fo8, fo9, fo10⟩ := frozen11 HR5.out; go_wp2
   clear n0 n1 n2 n3 n4 n5 n6 n7 n8 n9 n10 nl o0 o1 o2 o3 o4 o5 o6 o7 o8 o9 o10 fo0 fo1 fo2 fo3 fo4 fo5 fo6 fo7 fo8 fo9 fo10 ol; obtain ⟨HC9, HM9⟩ := CBox.putD (HR5.out) D anD cnD asD csD; generalize World.setCell _ ⟨R, 10, none⟩ _ = WZ at *; obtain ⟨r0, r1, r2, r3, r4, r5, r6, r7, r8, r9, r10, -⟩ := cells11 HC9; refine bodyPost_ret (by simp [results, Tryz.results47, go_sem, r0, r1, r2, r3, r4, r5, r6, r7, r8, r9, r10]; try rfl) rfl ?_; have hdZ : Bw w WZ := HW5.out.trans (HM9.upto HW5.out.size (by intro k hk; have := HRW.out; simp at hk; omega))
   have hdx9 := (HDX5.out.mod (HM9.mono inC)).fewer (Y := X) inT; have HEQ : mergeDErr ob (some xl) none = 0 := by cases ob <;> rfl
   have HMD : mergeD ob (some xl) none = od := by rw [← HOD.out]; cases ob <;> rfl
   have HOU : mOut ob (some xl) none = D := by unfold mOut; rw [if_pos HEQ, HMD]; exact HDD.out
   have HHA : mHas ob (some xl) none = od.isSome := by unfold mHas; rw [HEQ, HMD]; rfl
   rw [HOb.out, HOl.out, HOr.out]; refine ⟨anD, cnD, asD, csD, ?_, ?_, hdZ⟩
   ·rw [HOU, HHA, HEQ]; rfl
   ·rw [HOU]; exact hdx9
 | none =>
  cases or with
  | some xr =>
   obtain rfl : xr = dr := HDr.out; simp only [Option.isSome_some, Option.isSome_none]
   obtain ⟨ub, hub⟩ : ∃ u, ob.isSome = u := ⟨_, rfl⟩; have HC := lH (r33one_any b9 xr ub an9 cn9 as9 cs9 anr cnr asr csr (R :: X) W4 HX4.out HDX94.out HDXr4.out HS9.out.1.len HS9.out.2); have h9 := one_old ob id xr; rw [HB9.out, hub] at h9; rw [h9] at HC; rw [hub]; obtain ⟨od, hod⟩ : ∃ o, oneD ob xr = o := ⟨_, rfl⟩; rw [hod] at HC; have HOD := lH hod; clear h9 hub hod; unfold declV at HC; obtain ⟨n0, n1, n2, n3, n4, n5, n6, n7, n8, n9, n10, nl⟩ := cells11 HN94.out; obtain ⟨r0, r1, r2, r3, r4, r5, r6, r7, r8, r9, r10, rl⟩ := cells11 HNr4.out; go_wp2_with (fail)
   refine HC.out.mono ?_; rintro e v5 ⟨anD, cnD, asD, csD, rfl, hd, hbf⟩; unfold declV; clear HC n0 n1 n2 n3 n4 n5 n6 n7 n8 n9 n10 nl r0 r1 r2 r3 r4 r5 r6 r7 r8 r9 r10 rl; obtain ⟨D, hD⟩ : ∃ D, od.getD noDecl = D := ⟨_, rfl⟩; rw [hD]; rw [hD] at hd; have HDD := lH hD; clear hD; have HC9 := CBox.new v5 46 (dA D anD cnD asD csD); have hal := qalloc v5 (.cells (dA D anD cnD asD csD) 46); go_upto_region 14 with (fail)
   have hbn := qtrans hbf hal; have hdn := hd.below hal; generalize World.alloc v5 _ = W5 at *; generalize v5.heap.size = N7 at *; have HN7 := lH HC9; have HDX5 := lH hdn; have HR5 := lH (HR4.out.below hbn); have HW5 := lH (HW4.out.trans (hbn.mono HW4.out.size)); clear HC9 hbn hal hbf hd hdn HR4 HW4 HN94 HNl4 HNr4 HDXl4 HDXr4 HDX94; obtain ⟨n0, n1, n2, n3, n4, n5, n6, n7, n8, n9, n10, nl⟩ := cells11 HN7.out; obtain ⟨o0, o1, o2, o3, o4, o5, o6, o7, o8, o9, o10, ol⟩ := cells11 HR5.out; obtain ⟨fo0, fo1, fo2, fo3, fo4, fo5, fo6, fo7, fo8, fo9, fo10⟩ := frozen11 HR5.out; go_wp2
   clear n0 n1 n2 n3 n4 n5 n6 n7 n8 n9 n10 nl o0 o1 o2 o3 o4 o5 o6 o7 o8 o9 o10 fo0 fo1 fo2 fo3 fo4 fo5 fo6 fo7 fo8 fo9 fo10 ol; obtain ⟨HC9, HM9⟩ := CBox.putD (HR5.out) D anD cnD asD csD; generalize World.setCell _ ⟨R, 10, none⟩ _ = WZ at *; obtain ⟨r0, r1, r2, r3, r4, r5, r6, r7, r8, r9, r10, -⟩ := cells11 HC9; refine bodyPost_ret (by simp [results, Tryz.results47, go_sem, r0, r1, r2, r3, r4, r5, r6, r7, r8, r9, r10]; try rfl) rfl ?_; have hdZ : Bw w WZ := HW5.out.trans (HM9.upto HW5.out.size (by intro k hk; have := HRW.out; simp at hk; omega))
   have hdx9 := (HDX5.out.mod (HM9.mono inC)).fewer (Y := X) inT; have HEQ : mergeDErr ob none (some xr) = 0 := by cases ob <;> rfl
   have HMD : mergeD ob none (some xr) = od := by rw [← HOD.out]; cases ob <;> rfl
   have HOU : mOut ob none (some xr) = D := by unfold mOut; rw [if_pos HEQ, HMD]; exact HDD.out
   have HHA : mHas ob none (some xr) = od.isSome := by unfold mHas; rw [HEQ, HMD]; rfl
   rw [HOb.out, HOl.out, HOr.out]; refine ⟨anD, cnD, asD, csD, ?_, ?_, hdZ⟩
   ·rw [HOU, HHA, HEQ]; rfl
   ·rw [HOU]; exact hdx9
  | none =>
   simp only [Option.isSome_none]
   obtain ⟨o0, o1, o2, o3, o4, o5, o6, o7, o8, o9, o10, ol⟩ := cells11 HR4.out; obtain ⟨fo0, fo1, fo2, fo3, fo4, fo5, fo6, fo7, fo8, fo9, fo10⟩ := frozen11 HR4.out; go_wp2; clear o0 o1 o2 o3 o4 o5 o6 o7 o8 o9 o10 fo0 fo1 fo2 fo3 fo4 fo5 fo6 fo7 fo8 fo9 fo10 ol; obtain ⟨HC9, HM9⟩ := CBox.putZ (HR4.out); generalize World.setCell _ ⟨R, 10, none⟩ _ = WZ at *; obtain ⟨r0, r1, r2, r3, r4, r5, r6, r7, r8, r9, r10, -⟩ := cells11 HC9; refine bodyPost_ret (by simp [results, Tryz.results47, go_sem, r0, r1, r2, r3, r4, r5, r6, r7, r8, r9, r10]; try rfl) rfl ?_
   have hdZ : Bw w WZ := HW4.out.trans (HM9.upto HW4.out.size (by intro k hk; have := HRW.out; simp at hk; omega)); rw [HOb.out, HOl.out, HOr.out]; exact MergedO.none' (by cases ob <;> rfl) (by cases ob <;> rfl) hdZ
end Go.Proofs.YtlgnedahnaojlaaGreatDoor

