/- The law CommuteSwap. -/
import Derived.Test.YtlcpdhionefmbaaGreatDoorV1
import Derived.Test.YtlcpdhionefmbaaGreatDoorU7
namespace Go.Proofs.YtlcpdhionefmbaaGreatDoor
open Go.RowKit Go.Shelf
attribute [local go_sem] Oper.semAt_some

theorem moveUp_mem {P : OEdit → Prop} : ∀ (d : Nat) {l m : List OEdit} {f : Nat}, f + d < l.length → (∀ e ∈ l, P e) → moveUp d l f = some m → (∀ e ∈ m, P e) ∧ m.length = l.length
  | 0, l, m, f, _, h, hm => by
    rw [moveUp] at hm
    cases hm
    exact ⟨h, rfl⟩
  | d + 1, l, m, f, hd, h, hm => by
    rw [moveUp] at hm
    split at hm
    · obtain ⟨h1, h2⟩ := moveUp_mem d (l := swapAt l f) (f := f + 1) (by rw [swapAt_len]; omega) (mem_swapAt (by omega) h) hm
      exact ⟨h1, by rw [h2, swapAt_len]⟩
    · cases hm
theorem moveDown_mem {P : OEdit → Prop} : ∀ (d : Nat) {l m : List OEdit} {f : Nat}, d ≤ f → f < l.length → (∀ e ∈ l, P e) → moveDown d l f = some m → (∀ e ∈ m, P e) ∧ m.length = l.length
  | 0, l, m, f, _, _, h, hm => by
    rw [moveDown] at hm
    cases hm
    exact ⟨h, rfl⟩
  | d + 1, l, m, f, hd, hf, h, hm => by
    rw [moveDown] at hm
    split at hm
    · obtain ⟨h1, h2⟩ := moveDown_mem d (l := swapAt l (f - 1)) (f := f - 1) (by omega) (by rw [swapAt_len]; omega) (mem_swapAt (by omega) h) hm
      exact ⟨h1, by rw [h2, swapAt_len]⟩
    · cases hm
theorem moveL_mem {P : OEdit → Prop} {l : List OEdit} {f t : Int} (h : ∀ e ∈ l, P e) : (∀ e ∈ (moveL l f t).getD [], P e) ∧ ((moveL l f t).getD []).length ≤ l.length := by
  unfold moveL
  split
  · exact ⟨fun e he => by simp at he, by simp⟩
  · rename_i hr
    cases hm : mv l f.toNat t.toNat with
    | none => exact ⟨fun e he => by simp at he, by simp⟩
    | some m =>
      unfold mv at hm
      split at hm
      · obtain ⟨h1, h2⟩ := moveUp_mem _ (by omega) h hm
        exact ⟨h1, by rw [Option.getD_some, h2]; exact Nat.le_refl _⟩
      · obtain ⟨h1, h2⟩ := moveDown_mem _ (by omega) (by omega) h hm
        exact ⟨h1, by rw [Option.getD_some, h2]; exact Nat.le_refl _⟩
theorem noEdit_in (W : World) : EditIn W noEdit none 0 none 0 := ⟨Reads.nilRow _ _ _ _, Reads.nilRow _ _ _ _, Nat.le_refl _, Nat.zero_le _, Nat.le_refl _, Nat.zero_le _⟩
theorem swap_edits {w : World} (e f : OEdit) (ao : Option Addr) (co : Nat) (af : Option Addr) (cf : Nat) (bo : Option Addr) (do' : Nat) (bf : Option Addr) (df : Nat) (he : EditIn w e ao co af cf) (hf : EditIn w f bo do' bf df) (hse : SmE e) (hsf : SmE f) :
    ∃ (x : OEdit) (xo : Option Addr) (xc : Nat) (xf : Option Addr) (xd : Nat) (y : OEdit) (yo : Option Addr) (yc : Nat) (yf : Option Addr) (yd : Nat), swapV e f ao co af cf bo do' bf df = .tuple #[editV x xo xc xf xd, editV y yo yc yf yd, .bool (swapB e f)] ∧ EditIn w x xo xc xf xd ∧ EditIn w y yo yc yf yd ∧ SmE x ∧ SmE y := by
  unfold swapV
  cases swapB e f with
  | true => exact ⟨f, bo, do', bf, df, e, ao, co, af, cf, rfl, hf, he, hsf, hse⟩
  | false => exact ⟨noEdit, none, 0, none, 0, noEdit, none, 0, none, 0, rfl, noEdit_in w, noEdit_in w, noEdit_sm, noEdit_sm⟩
set_option maxRecDepth 100000 in
set_option maxHeartbeats 16000000 in
theorem LCommuteSwap_any (e f : OEdit) (l : List OEdit) (i j : Int) (ao : Option Addr) (co : Nat) (af : Option Addr) (cf : Nat) (bo : Option Addr) (do' : Nat) (bf : Option Addr) (df : Nat) (la : Option Addr) (lc : Nat) (w : World) (he : EditIn w e ao co af cf) (hf : EditIn w f bo do' bf df) (hl : Reads w [] (editsT l) (.slice la l.length lc)) (hbe : BigE e) (hbf : BigE f) (hbl : ∀ x ∈ l, BigE x) (hln : l.length ≤ 4000000) :
    Calls Tryz.prog 4 #[editV e ao co af cf, editV f bo do' bf df, .slice la l.length lc, .int .i64 i, .int .i64 j] w fun r w' => r = .returned (.bool true) ∧ Below w.heap.size w w' := by
  have HRD := Lib.hid (fun W (h : Below w.heap.size w W) => edits_two W e f ao co af cf bo do' bf df (he.below h) (hf.below h))
  have HGR := Lib.hid (fun W (h : Below w.heap.size w W) => rGreatEdits_any [e, f] (some ⟨W.heap.size, 0, none⟩) 2 _ (HRD.out W h) (fun x hx => by
    simp only [List.mem_cons, List.not_mem_nil, or_false] at hx
    rcases hx with rfl | rfl
    · exact ⟨⟨hbe.pack, hbe.text⟩, hbe.old, hbe.fresh⟩
    · exact ⟨⟨hbf.pack, hbf.text⟩, hbf.old, hbf.fresh⟩) (by simp))
  have HGL := Lib.hid (fun W (h : Below w.heap.size w W) => rGreatEdits_any l la lc W (hl.below h) (fun x hx => ⟨⟨(hbl x hx).pack, (hbl x hx).text⟩, (hbl x hx).old, (hbl x hx).fresh⟩) hln)
  obtain ⟨g1, g2, g3⟩ := two_boxes w 24 #[.int .i64 e.kind, .string e.pack, .string e.text, .slice ao e.old.length co, .slice af e.fresh.length cf] #[.int .i64 f.kind, .string f.pack, .string f.text, .slice bo f.old.length do', .slice bf f.fresh.length df]
  have G1 := Lib.hid g1
  have G2 := Lib.hid g2
  have HA := Lib.hid g3
  have HSE : Hid (greatEs [e, f] = false → SmE e ∧ SmE f) := fun h => by
    unfold greatEs at h
    simp only [List.any_cons, List.any_nil, Bool.or_false, Bool.or_eq_false_iff] at h
    exact ⟨smE_of hbe h.1.1, smE_of hbf h.1.2⟩
  have HSL : Hid (greatEs l = false → (∀ x ∈ l, SmE x) ∧ l.length ≤ 1000000) := fun h => by
    unfold greatEs at h
    simp only [Bool.or_eq_false_iff, List.any_eq_false, decide_eq_false_iff_not] at h
    exact ⟨fun x hx => smE_of (hbl x hx) (by simpa using h.1 x hx), by omega⟩
  have HE := Lib.hid he
  have HF := Lib.hid hf
  have HL := Lib.hid hl
  clear g1 g2 g3 he hf hl hbe hbf hbl
  unfold editV
  go_enter Tryz.func4, Tryz.ntmps4
  go_upto_region 1 with (fail)
  generalize (w.alloc (.cells #[.int .i64 e.kind, .string e.pack, .string e.text, .slice ao e.old.length co, .slice af e.fresh.length cf] 24)).alloc (.cells #[.int .i64 f.kind, .string f.pack, .string f.text, .slice bo f.old.length do', .slice bf f.fresh.length df] 24) = w0 at *
  generalize hb2 : w.heap.size + 1 = B2 at *
  clear hb2
  generalize greatEs [e, f] = gb at *
  generalize greatEs l = gl at *
  have e0 := G1.out.cell (i := 0) (v := .int .i64 e.kind) rfl
  have e1 := G1.out.cell (i := 1) (v := .string e.pack) rfl
  have e2 := G1.out.cell (i := 2) (v := .string e.text) rfl
  have e3 := G1.out.cell (i := 3) (v := .slice ao e.old.length co) rfl
  have e4 := G1.out.cell (i := 4) (v := .slice af e.fresh.length cf) rfl
  have el := G1.out.lt
  have f0 := G2.out.cell (i := 0) (v := .int .i64 f.kind) rfl
  have f1 := G2.out.cell (i := 1) (v := .string f.pack) rfl
  have f2 := G2.out.cell (i := 2) (v := .string f.text) rfl
  have f3 := G2.out.cell (i := 3) (v := .slice bo f.old.length do') rfl
  have f4 := G2.out.cell (i := 4) (v := .slice bf f.fresh.length df) rfl
  have fl := G2.out.lt
  have HC1 := Lib.hid (HGR.out w0 HA.out)
  go_wp2_with (fail)
  refine HC1.out.mono ?_
  rintro r w1 ⟨rfl, hb1⟩
  have HB1 := Lib.hid (qtrans (qalloc _ _) hb1)
  clear hb1 HC1 HGR
  clear e0 e1 e2 e3 e4 el f0 f1 f2 f3 f4 fl
  have HW1 := Lib.hid (qtrans HA.out HB1.out)
  cases gb with
  | true =>
    go_wp2_with (fail)
    refine (awake35_any _).mono ?_
    rintro r w9 ⟨rfl, hb9⟩
    have HF9 := Lib.hid (qtrans HW1.out hb9)
    clear hb9
    go_wp2
    go_ret
    exact ⟨rfl, HF9.out⟩
  | false =>
  go_wp2_with (fail)
  refine (HGL.out w1 HW1.out).mono ?_
  rintro r w2 ⟨rfl, hb2⟩
  have HB2 := Lib.hid (qtrans HB1.out hb2)
  clear hb2 HGL HB1
  have HW2 := Lib.hid (qtrans HA.out HB2.out)
  cases gl with
  | true =>
    go_wp2_with (fail)
    refine (awake35_any _).mono ?_
    rintro r w9 ⟨rfl, hb9⟩
    have HF9 := Lib.hid (qtrans HW2.out hb9)
    clear hb9
    go_wp2
    go_ret
    exact ⟨rfl, HF9.out⟩
  | false =>
  obtain ⟨hse, hsf⟩ := HSE.out (by first | exact rfl | exact trivial)
  obtain ⟨hsl, hll⟩ := HSL.out (by first | exact rfl | exact trivial)
  obtain ⟨x, xo, xc, xf, xd, y, yo, yc, yf, yd, hsv, hx, hy, hsx, hsy⟩ := swap_edits e f ao co af cf bo do' bf df HE.out HF.out hse hsf
  have HS1 := Lib.hid (fun W (h : Below w.heap.size w W) => cSwap_any e f ao co af cf bo do' bf df W (HE.out.below h) (HF.out.below h) hse hsf)
  have HS2 := Lib.hid (fun W (h : Below w.heap.size w W) => rSwap_any e f ao co af cf bo do' bf df W (HE.out.below h) (HF.out.below h) hse hsf)
  have HM1 := Lib.hid (fun W (h : Below w.heap.size w W) => cMove_any l la lc i j W (HL.out.below h) hsl hll)
  have HM2 := Lib.hid (fun W (h : Below w.heap.size w W) => rMove_any l la lc i j W (HL.out.below h) hsl hll)
  have HE1 := Lib.hid (fun W (h : Below w.heap.size w W) => r34Same_any x x xo xc xf xd xo xc xf xd W (hx.below h) (hx.below h) hsx)
  have HE2 := Lib.hid (fun W (h : Below w.heap.size w W) => r34Same_any y y yo yc yf yd yo yc yf yd W (hy.below h) (hy.below h) hsy)
  rw [sameE_iff.2 (rfl : x = x)] at HE1
  rw [sameE_iff.2 (rfl : y = y)] at HE2
  rw [hsv] at HS1 HS2
  obtain ⟨hml, hmn⟩ := moveL_mem (P := SmE) (f := i) (t := j) hsl
  have HML := Lib.hid hml
  have hmn2 : ((moveL l i j).getD []).length ≤ 1000000 := by omega
  clear hsv hx hy hsx hsy hse hsf hsl HSE HSL hml hmn HE HF HL HRD
  unfold editV at HS1 HS2 HE1 HE2
  generalize hgd : (moveL l i j).getD [] = ml at *
  generalize hms : (moveL l i j).isSome = mb at *
  clear hgd hms
  generalize swapB e f = sb at *
  have e0 := (G1.out.below HB2.out).cell (i := 0) (v := .int .i64 e.kind) rfl
  have e1 := (G1.out.below HB2.out).cell (i := 1) (v := .string e.pack) rfl
  have e2 := (G1.out.below HB2.out).cell (i := 2) (v := .string e.text) rfl
  have e3 := (G1.out.below HB2.out).cell (i := 3) (v := .slice ao e.old.length co) rfl
  have e4 := (G1.out.below HB2.out).cell (i := 4) (v := .slice af e.fresh.length cf) rfl
  have el := (G1.out.below HB2.out).lt
  have f0 := (G2.out.below HB2.out).cell (i := 0) (v := .int .i64 f.kind) rfl
  have f1 := (G2.out.below HB2.out).cell (i := 1) (v := .string f.pack) rfl
  have f2 := (G2.out.below HB2.out).cell (i := 2) (v := .string f.text) rfl
  have f3 := (G2.out.below HB2.out).cell (i := 3) (v := .slice bo f.old.length do') rfl
  have f4 := (G2.out.below HB2.out).cell (i := 4) (v := .slice bf f.fresh.length df) rfl
  have fl := (G2.out.below HB2.out).lt
  go_wp2_with (fail)
  refine (HS1.out _ HW2.out).mono ?_
  rintro r w3 ⟨rfl, hb3⟩
  have HB3 := Lib.hid (qtrans HB2.out hb3)
  clear hb3 HS1
  go_upto_region 4 with (fail)
  obtain ⟨z1, z2, z3⟩ := two_boxes w3 24 #[.int .i64 x.kind, .string x.pack, .string x.text, .slice xo x.old.length xc, .slice xf x.fresh.length xd] #[.int .i64 y.kind, .string y.pack, .string y.text, .slice yo y.old.length yc, .slice yf y.fresh.length yd]
  have HB4 := Lib.hid (qtrans HB3.out z3)
  have X1 := Lib.hid z1
  have Y1 := Lib.hid z2
  clear z1 z2 z3
  clear e0 e1 e2 e3 e4 el f0 f1 f2 f3 f4 fl
  generalize (w3.alloc (.cells #[.int .i64 x.kind, .string x.pack, .string x.text, .slice xo x.old.length xc, .slice xf x.fresh.length xd] 24)).alloc (.cells #[.int .i64 y.kind, .string y.pack, .string y.text, .slice yo y.old.length yc, .slice yf y.fresh.length yd] 24) = w4 at *
  generalize w3.heap.size + 1 = C2 at *
  generalize w3.heap.size = C1 at *
  have HW4 := Lib.hid (qtrans HA.out HB4.out)
  clear HB3
  have e0 := (G1.out.below HB4.out).cell (i := 0) (v := .int .i64 e.kind) rfl
  have e1 := (G1.out.below HB4.out).cell (i := 1) (v := .string e.pack) rfl
  have e2 := (G1.out.below HB4.out).cell (i := 2) (v := .string e.text) rfl
  have e3 := (G1.out.below HB4.out).cell (i := 3) (v := .slice ao e.old.length co) rfl
  have e4 := (G1.out.below HB4.out).cell (i := 4) (v := .slice af e.fresh.length cf) rfl
  have el := (G1.out.below HB4.out).lt
  have f0 := (G2.out.below HB4.out).cell (i := 0) (v := .int .i64 f.kind) rfl
  have f1 := (G2.out.below HB4.out).cell (i := 1) (v := .string f.pack) rfl
  have f2 := (G2.out.below HB4.out).cell (i := 2) (v := .string f.text) rfl
  have f3 := (G2.out.below HB4.out).cell (i := 3) (v := .slice bo f.old.length do') rfl
  have f4 := (G2.out.below HB4.out).cell (i := 4) (v := .slice bf f.fresh.length df) rfl
  have fl := (G2.out.below HB4.out).lt
  go_wp2_with (fail)
  refine (HS2.out _ HW4.out).mono ?_
  rintro r w5 ⟨rfl, hb5⟩
  have HK5 := Lib.hid hb5
  clear hb5 HS2
  go_upto_region 5 with (fail)
  obtain ⟨z1, z2, z3⟩ := two_boxes w5 24 #[.int .i64 x.kind, .string x.pack, .string x.text, .slice xo x.old.length xc, .slice xf x.fresh.length xd] #[.int .i64 y.kind, .string y.pack, .string y.text, .slice yo y.old.length yc, .slice yf y.fresh.length yd]
  have HK6 := Lib.hid (qtrans HK5.out z3)
  have X2 := Lib.hid z1
  have Y2 := Lib.hid z2
  clear z1 z2 z3
  clear e0 e1 e2 e3 e4 el f0 f1 f2 f3 f4 fl
  generalize (w5.alloc (.cells #[.int .i64 x.kind, .string x.pack, .string x.text, .slice xo x.old.length xc, .slice xf x.fresh.length xd] 24)).alloc (.cells #[.int .i64 y.kind, .string y.pack, .string y.text, .slice yo y.old.length yc, .slice yf y.fresh.length yd] 24) = w6 at *
  generalize w5.heap.size + 1 = D2 at *
  generalize w5.heap.size = D1 at *
  have HW6 := Lib.hid (qtrans HW4.out HK6.out)
  go_wp2_with (fail)
  refine (HM1.out _ HW6.out).mono ?_
  rintro r w7 ⟨ma, mc, rfl, hr7, hb7⟩
  have HR7 := Lib.hid hr7
  have HK7 := Lib.hid hb7
  have HW7 := Lib.hid (qtrans HW6.out hb7)
  clear hr7 hb7 HM1
  go_wp2_with (fail)
  refine (HM2.out _ HW7.out).mono ?_
  rintro r w8 ⟨na, nc, rfl, hr8, hb8⟩
  have HR8 := Lib.hid hr8
  have HRM := Lib.hid (HR7.out.below hb8)
  have HK68 := Lib.hid (qtrans HK7.out hb8)
  have HK48 := Lib.hid (qtrans HK6.out HK68.out)
  have HW8 := Lib.hid (qtrans HW7.out hb8)
  clear hr8 hb8 HM2 HR7 HK7
  have e0 := (X1.out.below HK48.out).cell (i := 0) (v := .int .i64 x.kind) rfl
  have f0 := (X2.out.below HK68.out).cell (i := 0) (v := .int .i64 x.kind) rfl
  have e1 := (X1.out.below HK48.out).cell (i := 1) (v := .string x.pack) rfl
  have f1 := (X2.out.below HK68.out).cell (i := 1) (v := .string x.pack) rfl
  have e2 := (X1.out.below HK48.out).cell (i := 2) (v := .string x.text) rfl
  have f2 := (X2.out.below HK68.out).cell (i := 2) (v := .string x.text) rfl
  have e3 := (X1.out.below HK48.out).cell (i := 3) (v := .slice xo x.old.length xc) rfl
  have f3 := (X2.out.below HK68.out).cell (i := 3) (v := .slice xo x.old.length xc) rfl
  have e4 := (X1.out.below HK48.out).cell (i := 4) (v := .slice xf x.fresh.length xd) rfl
  have f4 := (X2.out.below HK68.out).cell (i := 4) (v := .slice xf x.fresh.length xd) rfl
  have el := (X1.out.below HK48.out).lt
  have fl := (X2.out.below HK68.out).lt
  go_wp2_with (fail)
  refine (HE1.out _ HW8.out).mono ?_
  rintro r w9 ⟨rfl, hb9⟩
  have HK49 := Lib.hid (qtrans HK48.out hb9)
  have HK69 := Lib.hid (qtrans HK68.out hb9)
  have HW9 := Lib.hid (qtrans HW8.out hb9)
  have HR9 := Lib.hid (HR8.out.below hb9)
  have HN9 := Lib.hid (HRM.out.below hb9)
  clear hb9 HE1 HR8 HRM
  clear e0 e1 e2 e3 e4 el f0 f1 f2 f3 f4 fl
  have e0 := (Y1.out.below HK49.out).cell (i := 0) (v := .int .i64 y.kind) rfl
  have f0 := (Y2.out.below HK69.out).cell (i := 0) (v := .int .i64 y.kind) rfl
  have e1 := (Y1.out.below HK49.out).cell (i := 1) (v := .string y.pack) rfl
  have f1 := (Y2.out.below HK69.out).cell (i := 1) (v := .string y.pack) rfl
  have e2 := (Y1.out.below HK49.out).cell (i := 2) (v := .string y.text) rfl
  have f2 := (Y2.out.below HK69.out).cell (i := 2) (v := .string y.text) rfl
  have e3 := (Y1.out.below HK49.out).cell (i := 3) (v := .slice yo y.old.length yc) rfl
  have f3 := (Y2.out.below HK69.out).cell (i := 3) (v := .slice yo y.old.length yc) rfl
  have e4 := (Y1.out.below HK49.out).cell (i := 4) (v := .slice yf y.fresh.length yd) rfl
  have f4 := (Y2.out.below HK69.out).cell (i := 4) (v := .slice yf y.fresh.length yd) rfl
  have el := (Y1.out.below HK49.out).lt
  have fl := (Y2.out.below HK69.out).lt
  go_wp2_with (fail)
  refine (HE2.out _ HW9.out).mono ?_
  rintro r w10 ⟨rfl, hb10⟩
  have HW10 := Lib.hid (qtrans HW9.out hb10)
  have HSA := Lib.hid (r34SameAll_any ml ml ma na mc nc w10 (HN9.out.below hb10) (HR9.out.below hb10) HML.out hmn2)
  rw [sameEs_iff.2 (rfl : ml = ml)] at HSA
  clear hb10 HE2 HR9 HN9
  clear e0 e1 e2 e3 e4 el f0 f1 f2 f3 f4 fl
  have hb1 : (sb == sb) = true := beq_self_eq_true sb
  have hb2 : (mb == mb) = true := beq_self_eq_true mb
  go_wp2_with (fail)
  refine HSA.out.mono ?_
  rintro r w11 ⟨rfl, hb11⟩
  have HW11 := Lib.hid (qtrans HW10.out hb11)
  clear hb11 HSA
  go_wp2_with (fail)
  refine (awake35_any _).mono ?_
  rintro r w12 ⟨rfl, hb12⟩
  have HF12 := Lib.hid (qtrans HW11.out hb12)
  clear hb12
  go_wp2
  go_ret
  exact ⟨rfl, HF12.out⟩
end Go.Proofs.YtlcpdhionefmbaaGreatDoor
