/- The law CommuteInverse. -/
import Derived.Test.YtlcpdhionefmbaaGreatDoorSEy
import Derived.Test.YtlcpdhionefmbaaGreatDoorSEz
namespace Go.Proofs.YtlcpdhionefmbaaGreatDoor
open Go.RowKit Go.Shelf
attribute [local go_sem] Oper.semAt_some

theorem swap_shape (e f : OEdit) (ao : Option Addr) (co : Nat) (af : Option Addr) (cf : Nat) (bo : Option Addr) (do' : Nat) (bf : Option Addr) (df : Nat) :
    ∃ (k : Int) (p t : ByteArray) (a1 : Option Addr) (n1 c1 : Nat) (a2 : Option Addr) (n2 c2 : Nat) (k' : Int) (p' t' : ByteArray) (a3 : Option Addr) (n3 c3 : Nat) (a4 : Option Addr) (n4 c4 : Nat),
      swapV e f ao co af cf bo do' bf df = .tuple #[.agg #[.int .i64 k, .string p, .string t, .slice a1 n1 c1, .slice a2 n2 c2], .agg #[.int .i64 k', .string p', .string t', .slice a3 n3 c3, .slice a4 n4 c4], .bool (swapB e f)] := by
  unfold swapV
  cases swapB e f with
  | true => exact ⟨_, _, _, _, _, _, _, _, _, _, _, _, _, _, _, _, _, _, rfl⟩
  | false => exact ⟨_, _, _, _, _, _, _, _, _, _, _, _, _, _, _, _, _, _, rfl⟩
theorem five_cells {W : World} {l : List OEdit} {M : Nat} {n : Nat} (h : Reads W [] (editsT l) (.slice (some ⟨M, 0, none⟩) l.length n)) {i : Nat} {e : OEdit} (hi : l[i]? = some e) :
    ∃ (ao : Option Addr) (co : Nat) (af : Option Addr) (cf : Nat), W.cell? ⟨M, i * 5, none⟩ = some (.int .i64 e.kind) ∧ W.cell? ⟨M, i * 5 + 1, none⟩ = some (.string e.pack) ∧ W.cell? ⟨M, i * 5 + 2, none⟩ = some (.string e.text) ∧ W.cell? ⟨M, i * 5 + 3, none⟩ = some (.slice ao e.old.length co) ∧ W.cell? ⟨M, i * 5 + 4, none⟩ = some (.slice af e.fresh.length cf) ∧ M < W.heap.size ∧ Hid (EditIn W e ao co af cf) := by
  obtain ⟨b, o, ao, co, af, cf, ha, hb, x0, x1, x2, x3, x4, hin⟩ := cells_edit h hi
  injection ha with ha
  injection ha with h1 h2
  subst h1 h2
  simp only [Nat.zero_add] at x0 x1 x2 x3 x4
  exact ⟨ao, co, af, cf, x0, x1, x2, x3, x4, hb, hin⟩
set_option maxRecDepth 100000 in
set_option maxHeartbeats 16000000 in
theorem LCommuteInverse_any (e f : OEdit) (ao : Option Addr) (co : Nat) (af : Option Addr) (cf : Nat) (bo : Option Addr) (do' : Nat) (bf : Option Addr) (df : Nat) (w : World) (he : EditIn w e ao co af cf) (hf : EditIn w f bo do' bf df) (hbe : BigE e) (hbf : BigE f) :
    Calls Tryz.prog 3 #[editV e ao co af cf, editV f bo do' bf df] w fun r w' => r = .returned (.bool true) ∧ Below w.heap.size w w' := by
  have HRD := Lib.hid (fun W (h : Below w.heap.size w W) => edits_two W e f ao co af cf bo do' bf df (he.below h) (hf.below h))
  have HGR := Lib.hid (fun W (h : Below w.heap.size w W) => rGreatEdits_any [e, f] (some ⟨W.heap.size, 0, none⟩) 2 _ (HRD.out W h) (fun x hx => by
    simp only [List.mem_cons, List.not_mem_nil, or_false] at hx
    rcases hx with rfl | rfl
    · exact ⟨⟨hbe.pack, hbe.text⟩, hbe.old, hbe.fresh⟩
    · exact ⟨⟨hbf.pack, hbf.text⟩, hbf.old, hbf.fresh⟩) (by simp))
  obtain ⟨g1, g2, g3⟩ := two_boxes w 24 #[.int .i64 e.kind, .string e.pack, .string e.text, .slice ao e.old.length co, .slice af e.fresh.length cf] #[.int .i64 f.kind, .string f.pack, .string f.text, .slice bo f.old.length do', .slice bf f.fresh.length df]
  have G1 := Lib.hid g1
  have G2 := Lib.hid g2
  have HA := Lib.hid g3
  have HSE : Hid (greatEs [e, f] = false → SmE e ∧ SmE f) := fun h => by
    unfold greatEs at h
    simp only [List.any_cons, List.any_nil, Bool.or_false, Bool.or_eq_false_iff] at h
    exact ⟨smE_of hbe h.1.1, smE_of hbf h.1.2⟩
  have HE := Lib.hid he
  have HF := Lib.hid hf
  clear g1 g2 g3 he hf hbe hbf
  unfold editV
  go_enter Tryz.func3, Tryz.ntmps3
  go_upto_region 1 with (fail)
  generalize (w.alloc (.cells #[.int .i64 e.kind, .string e.pack, .string e.text, .slice ao e.old.length co, .slice af e.fresh.length cf] 24)).alloc (.cells #[.int .i64 f.kind, .string f.pack, .string f.text, .slice bo f.old.length do', .slice bf f.fresh.length df] 24) = w0 at *
  generalize hb2 : w.heap.size + 1 = B2 at *
  clear hb2
  generalize greatEs [e, f] = gb at *
  have e0 := G1.out.cell (i := 0) (v := .int .i64 e.kind) rfl
  have e1 := G1.out.cell (i := 1) (v := .string e.pack) rfl
  have e2 := G1.out.cell (i := 2) (v := .string e.text) rfl
  have e3 := G1.out.cell (i := 3) (v := .slice ao e.old.length co) rfl
  have e4 := G1.out.cell (i := 4) (v := .slice af e.fresh.length cf) rfl
  have el := G1.out.lt
  have f0 := G2.out.cell (i := 0) (v := .int .i64 f.kind) rfl
  have f1 := G2.out.cell (i := 1) (v := .string f.pack) rfl
  have f2 := G2.out.cell (i := 2) (v := .string f.text) rfl
  have f3 := G2.out.cell (i := 3) (v := .slice bo f.old.length do') rfl
  have f4 := G2.out.cell (i := 4) (v := .slice bf f.fresh.length df) rfl
  have fl := G2.out.lt
  have HC1 := Lib.hid (HGR.out w0 HA.out)
  go_wp2_with (fail)
  refine HC1.out.mono ?_
  rintro r w1 ⟨rfl, hb1⟩
  have HB1 := Lib.hid (qtrans (qalloc _ _) hb1)
  clear hb1 HC1 HGR
  clear e0 e1 e2 e3 e4 el f0 f1 f2 f3 f4 fl
  have HW1 := Lib.hid (qtrans HA.out HB1.out)
  cases gb with
  | true =>
    go_wp2_with (fail)
    refine (awake35_any _).mono ?_
    rintro r w2 ⟨rfl, hb2⟩
    have HF2 := Lib.hid (qtrans HW1.out hb2)
    clear hb2
    go_wp2
    go_ret
    exact ⟨rfl, HF2.out⟩
  | false =>
  obtain ⟨hse, hsf⟩ := HSE.out rfl
  have HSE1 := Lib.hid hse
  have HSF1 := Lib.hid hsf
  clear hse hsf HSE
  have e0 := (G1.out.below HB1.out).cell (i := 0) (v := .int .i64 e.kind) rfl
  have e1 := (G1.out.below HB1.out).cell (i := 1) (v := .string e.pack) rfl
  have e2 := (G1.out.below HB1.out).cell (i := 2) (v := .string e.text) rfl
  have e3 := (G1.out.below HB1.out).cell (i := 3) (v := .slice ao e.old.length co) rfl
  have e4 := (G1.out.below HB1.out).cell (i := 4) (v := .slice af e.fresh.length cf) rfl
  have el := (G1.out.below HB1.out).lt
  have f0 := (G2.out.below HB1.out).cell (i := 0) (v := .int .i64 f.kind) rfl
  have f1 := (G2.out.below HB1.out).cell (i := 1) (v := .string f.pack) rfl
  have f2 := (G2.out.below HB1.out).cell (i := 2) (v := .string f.text) rfl
  have f3 := (G2.out.below HB1.out).cell (i := 3) (v := .slice bo f.old.length do') rfl
  have f4 := (G2.out.below HB1.out).cell (i := 4) (v := .slice bf f.fresh.length df) rfl
  have fl := (G2.out.below HB1.out).lt
  have HIV : Hid (Calls Tryz.prog 8 #[.slice (some ⟨w1.heap.size, 0, none⟩) 2 2] (w1.alloc (.cells #[.int .i64 e.kind, .string e.pack, .string e.text, .slice ao e.old.length co, .slice af e.fresh.length cf, .int .i64 f.kind, .string f.pack, .string f.text, .slice bo f.old.length do', .slice bf f.fresh.length df] 24)) fun r w' => ∃ M : Nat, r = .returned (.slice (some ⟨M, 0, none⟩) 2 2) ∧ Reads w' [] (editsT (invL [e, f])) (.slice (some ⟨M, 0, none⟩) (invL [e, f]).length 2) ∧ Below (w1.alloc (.cells #[.int .i64 e.kind, .string e.pack, .string e.text, .slice ao e.old.length co, .slice af e.fresh.length cf, .int .i64 f.kind, .string f.pack, .string f.text, .slice bo f.old.length do', .slice bf f.fresh.length df] 24)).heap.size (w1.alloc (.cells #[.int .i64 e.kind, .string e.pack, .string e.text, .slice ao e.old.length co, .slice af e.fresh.length cf, .int .i64 f.kind, .string f.pack, .string f.text, .slice bo f.old.length do', .slice bf f.fresh.length df] 24)) w') := by
    refine (Invert_any [e, f] (some ⟨w1.heap.size, 0, none⟩) 2 _ (HRD.out w1 HW1.out) (by simp)).mono ?_
    rintro r w' ⟨h1, h2, h3⟩
    exact ⟨_, h1, h2, h3⟩
  go_wp2_with (fail)
  refine HIV.out.mono ?_
  rintro r w2 ⟨M, rfl, hiv, hb2⟩
  have HB2 := Lib.hid (qtrans HB1.out (qtrans (qalloc _ _) hb2))
  have HR := Lib.hid hiv
  clear hiv hb2 HIV HB1
  clear e0 e1 e2 e3 e4 el f0 f1 f2 f3 f4 fl
  have HW2 := Lib.hid (qtrans HA.out HB2.out)
  obtain ⟨k1, p1, t1, a1, n1, c1, a2, n2, c2, k2, p2, t2, a3, n3, c3, a4, n4, c4, hs1⟩ := swap_shape e f ao co af cf bo do' bf df
  have HS1 := Lib.hid (cSwap_any e f ao co af cf bo do' bf df w2 (HE.out.below HW2.out) (HF.out.below HW2.out) HSE1.out HSF1.out)
  rw [hs1] at HS1
  clear hs1
  unfold editV at HS1
  have e0 := (G1.out.below HB2.out).cell (i := 0) (v := .int .i64 e.kind) rfl
  have e1 := (G1.out.below HB2.out).cell (i := 1) (v := .string e.pack) rfl
  have e2 := (G1.out.below HB2.out).cell (i := 2) (v := .string e.text) rfl
  have e3 := (G1.out.below HB2.out).cell (i := 3) (v := .slice ao e.old.length co) rfl
  have e4 := (G1.out.below HB2.out).cell (i := 4) (v := .slice af e.fresh.length cf) rfl
  have el := (G1.out.below HB2.out).lt
  have f0 := (G2.out.below HB2.out).cell (i := 0) (v := .int .i64 f.kind) rfl
  have f1 := (G2.out.below HB2.out).cell (i := 1) (v := .string f.pack) rfl
  have f2 := (G2.out.below HB2.out).cell (i := 2) (v := .string f.text) rfl
  have f3 := (G2.out.below HB2.out).cell (i := 3) (v := .slice bo f.old.length do') rfl
  have f4 := (G2.out.below HB2.out).cell (i := 4) (v := .slice bf f.fresh.length df) rfl
  have fl := (G2.out.below HB2.out).lt
  go_wp2_with (fail)
  refine HS1.out.mono ?_
  rintro r w3 ⟨rfl, hb3⟩
  have HB23 := Lib.hid hb3
  clear hb3 HS1
  go_upto_region 7 with (fail)
  obtain ⟨-, -, x3⟩ := two_boxes w3 24 #[.int .i64 k1, .string p1, .string t1, .slice a1 n1 c1, .slice a2 n2 c2] #[.int .i64 k2, .string p2, .string t2, .slice a3 n3 c3, .slice a4 n4 c4]
  have HB24 := Lib.hid (qtrans HB23.out x3)
  clear x3 HB23
  clear e0 e1 e2 e3 e4 el f0 f1 f2 f3 f4 fl
  generalize (w3.alloc (.cells #[.int .i64 k1, .string p1, .string t1, .slice a1 n1 c1, .slice a2 n2 c2] 24)).alloc (.cells #[.int .i64 k2, .string p2, .string t2, .slice a3 n3 c3, .slice a4 n4 c4] 24) = w4 at *
  generalize w3.heap.size + 1 = X2 at *
  generalize w3.heap.size = X1 at *
  have HW4 := Lib.hid (qtrans HW2.out HB24.out)
  have HR4 := Lib.hid (HR.out.below HB24.out)
  obtain ⟨go, gc, gf, gd, x0, x1, x2, x3, x4, hM, hig⟩ := five_cells HR4.out (i := 0) (e := invE f) rfl
  obtain ⟨ho, hc, hf', hd, y0, y1, y2, y3, y4, -, hih⟩ := five_cells HR4.out (i := 1) (e := invE e) rfl
  have HSG : Hid (SmE (invE f)) := ⟨HSF1.out.pack, HSF1.out.text, HSF1.out.fresh, HSF1.out.old, HSF1.out.flen, HSF1.out.olen⟩
  have HSH : Hid (SmE (invE e)) := ⟨HSE1.out.pack, HSE1.out.text, HSE1.out.fresh, HSE1.out.old, HSE1.out.flen, HSE1.out.olen⟩
  have HPL := Lib.hid (swapB_inv e f)
  have HPS := Lib.hid (swapB_symm e f)
  obtain ⟨k3, p3, t3, a5, n5, c5, a6, n6, c6, k4, p4, t4, a7, n7, c7, a8, n8, c8, hs2⟩ := swap_shape (invE f) (invE e) go gc gf gd ho hc hf' hd
  have HS2 := Lib.hid (fun W (h : Below w4.heap.size w4 W) => cSwap_any (invE f) (invE e) go gc gf gd ho hc hf' hd W (hig.out.below h) (hih.out.below h) HSG.out HSH.out)
  rw [hs2] at HS2
  clear hs2 hig hih HSG HSH HR4 HR
  rw [HPL.out] at HS2
  unfold editV at HS2
  generalize invE f = g at *
  generalize invE e = h at *
  simp only [Nat.zero_mul, Nat.one_mul, Nat.zero_add, Nat.reduceAdd] at x0 x1 x2 x3 x4 y0 y1 y2 y3 y4
  have SW : Hid (∀ W : World, Below w4.heap.size w4 W → (W.cell? ⟨M, 0, none⟩ = some (.int .i64 g.kind) ∧ W.cell? ⟨M, 1, none⟩ = some (.string g.pack) ∧ W.cell? ⟨M, 2, none⟩ = some (.string g.text) ∧ W.cell? ⟨M, 3, none⟩ = some (.slice go g.old.length gc) ∧ W.cell? ⟨M, 4, none⟩ = some (.slice gf g.fresh.length gd) ∧ W.cell? ⟨M, 5, none⟩ = some (.int .i64 h.kind) ∧ W.cell? ⟨M, 6, none⟩ = some (.string h.pack) ∧ W.cell? ⟨M, 7, none⟩ = some (.string h.text) ∧ W.cell? ⟨M, 8, none⟩ = some (.slice ho h.old.length hc) ∧ W.cell? ⟨M, 9, none⟩ = some (.slice hf' h.fresh.length hd) ∧ M < W.heap.size)) := Lib.hid (fun W hW => ⟨(hW.cell (p := ⟨M, _, none⟩) hM).trans x0, (hW.cell (p := ⟨M, _, none⟩) hM).trans x1, (hW.cell (p := ⟨M, _, none⟩) hM).trans x2, (hW.cell (p := ⟨M, _, none⟩) hM).trans x3, (hW.cell (p := ⟨M, _, none⟩) hM).trans x4, (hW.cell (p := ⟨M, _, none⟩) hM).trans y0, (hW.cell (p := ⟨M, _, none⟩) hM).trans y1, (hW.cell (p := ⟨M, _, none⟩) hM).trans y2, (hW.cell (p := ⟨M, _, none⟩) hM).trans y3, (hW.cell (p := ⟨M, _, none⟩) hM).trans y4, Nat.lt_of_lt_of_le hM hW.size⟩)
  clear x0 x1 x2 x3 x4 y0 y1 y2 y3 y4
  have hb0 : Below w4.heap.size w4 w4.drew := (Mod.refl [] w4).drew.below
  have hge0 := hb0.size
  generalize swapB e f = sb at *
  go_cut [11] from 34 to 62 (fun v wx => v = .bool sb ∧ Below w4.heap.size w4 wx)
  case first =>
    refine wp_region_noPanic (region_planT (fun W : World => W.cell? ⟨M, 0, none⟩ = some (.int .i64 g.kind) ∧ W.cell? ⟨M, 1, none⟩ = some (.string g.pack) ∧ W.cell? ⟨M, 2, none⟩ = some (.string g.text) ∧ W.cell? ⟨M, 3, none⟩ = some (.slice go g.old.length gc) ∧ W.cell? ⟨M, 4, none⟩ = some (.slice gf g.fresh.length gd) ∧ W.cell? ⟨M, 5, none⟩ = some (.int .i64 h.kind) ∧ W.cell? ⟨M, 6, none⟩ = some (.string h.pack) ∧ W.cell? ⟨M, 7, none⟩ = some (.string h.text) ∧ W.cell? ⟨M, 8, none⟩ = some (.slice ho h.old.length hc) ∧ W.cell? ⟨M, 9, none⟩ = some (.slice hf' h.fresh.length hd) ∧ M < W.heap.size) (.take 0 (.take 1 (.take 2 (.take 3 (.take 4 (.take 5 (.three 6 11 12 (.take 7 (.take 8 (.take 9 (.take 10 (.two 11 12 (.one 12 (.one 13 (.one 14 (.one 15 .done)))) (.one 11 (.one 13 (.one 14 (.one 15 .done))))))))) (.two 6 12 (.take 7 (.take 8 (.take 9 (.take 10 (.one 12 (.one 13 (.one 14 (.one 15 .done)))))))) (.one 6 (.take 7 (.take 8 (.take 9 (.take 10 (.one 13 (.one 14 (.one 15 .done))))))))) (.two 6 11 (.take 7 (.take 8 (.take 9 (.take 10 (.one 11 (.one 13 (.one 14 (.one 15 .done)))))))) (.one 6 (.take 7 (.take 8 (.take 9 (.take 10 (.one 13 (.one 14 (.one 15 .done)))))))))))))))) mixedK (by kernel_rfl) (fun _ _ _ _ _ h => h) (SW.out _ hb0) ?_)
    iterate 6 (refine planT_take (v := ?_) rfl (by rfl) ?_ ?_; rotate_left; (focus (intro wq hSw; (try dsimp only at hSw); go_simp; (try rw [if_neg (by first | omega | (simp; omega))]); (try with_reducible rfl))); (try simp only [List.getElem_toArray, List.getElem_cons_succ, List.getElem_cons_zero, Act.put, List.setIfInBounds_toArray, List.set_cons_zero, List.set_cons_succ]))
    generalize w4.drew = v0 at *
    refine planT_three ?_ ?_ ?_
    · skip
      refine planT_one rfl (by rfl) (fun K hK => ?_); go_simp
      refine (HS2.out _ hb0).mono ?_
      rintro r v1 ⟨rfl, hq1⟩
      (try go_simp)
      have hb1 := qtrans hb0 hq1
      refine hK.out _ _ (SW.out _ hb1) ?_; clear hK K; (try simp only [List.getElem_toArray, List.getElem_cons_succ, List.getElem_cons_zero, Act.put, List.setIfInBounds_toArray, List.set_cons_zero, List.set_cons_succ])
      iterate 4 (refine planT_take (v := ?_) rfl (by rfl) ?_ ?_; rotate_left; (focus (intro wq hSw; (try dsimp only at hSw); go_simp; (try rw [if_neg (by first | omega | (simp; omega))]); (try with_reducible rfl))); (try simp only [List.getElem_toArray, List.getElem_cons_succ, List.getElem_cons_zero, Act.put, List.setIfInBounds_toArray, List.set_cons_zero, List.set_cons_succ]))
      refine planT_two ?_ ?_
      · skip
        have ax2 := CBox.new v1 24 #[.int .i64 0, .string ⟨#[]⟩, .string ⟨#[]⟩, .slice none 0 0, .slice none 0 0]
        have ge2 := hb1.size
        have hb2 := qtrans hb1 (qalloc v1 (.cells #[.int .i64 0, .string ⟨#[]⟩, .string ⟨#[]⟩, .slice none 0 0, .slice none 0 0] 24))
        refine planT_one rfl (by rfl) (fun K hK => ?_); go_simp
        refine hK.out _ _ (SW.out _ hb2) ?_; clear hK K; (try simp only [List.getElem_toArray, List.getElem_cons_succ, List.getElem_cons_zero, Act.put, List.setIfInBounds_toArray, List.set_cons_zero, List.set_cons_succ])
        generalize v1.alloc (.cells #[.int .i64 0, .string ⟨#[]⟩, .string ⟨#[]⟩, .slice none 0 0, .slice none 0 0] 24) = v2 at *
        generalize v1.heap.size = d2 at *
        have ax3 := CBox.new v2 24 #[.int .i64 0, .string ⟨#[]⟩, .string ⟨#[]⟩, .slice none 0 0, .slice none 0 0]
        have ge3 := hb2.size
        have c3_11 := ax2.alloc (.cells #[.int .i64 0, .string ⟨#[]⟩, .string ⟨#[]⟩, .slice none 0 0, .slice none 0 0] 24)
        have ne3 := ax2.lt
        have hb3 := qtrans hb2 (qalloc v2 (.cells #[.int .i64 0, .string ⟨#[]⟩, .string ⟨#[]⟩, .slice none 0 0, .slice none 0 0] 24))
        refine planT_one rfl (by rfl) (fun K hK => ?_); go_simp
        refine hK.out _ _ (SW.out _ hb3) ?_; clear hK K; (try simp only [List.getElem_toArray, List.getElem_cons_succ, List.getElem_cons_zero, Act.put, List.setIfInBounds_toArray, List.set_cons_zero, List.set_cons_succ])
        generalize v2.alloc (.cells #[.int .i64 0, .string ⟨#[]⟩, .string ⟨#[]⟩, .slice none 0 0, .slice none 0 0] 24) = v3 at *
        generalize v2.heap.size = d3 at *
        have r0 := c3_11.frozen 0
        have r1 := c3_11.frozen 1
        have r2 := c3_11.frozen 2
        have r3 := c3_11.frozen 3
        have r4 := c3_11.frozen 4
        have q0 := c3_11.cell (i := 0) (v := .int .i64 0) rfl
        have q1 := c3_11.cell (i := 1) (v := .string ⟨#[]⟩) rfl
        have q2 := c3_11.cell (i := 2) (v := .string ⟨#[]⟩) rfl
        have q3 := c3_11.cell (i := 3) (v := .slice none 0 0) rfl
        have q4 := c3_11.cell (i := 4) (v := .slice none 0 0) rfl
        have ql := c3_11.lt
        have m4 := mod_five v3 d2 (.int .i64 k3) (.string p3) (.string t3) (.slice a5 n5 c5) (.slice a6 n6 c6)
        have kx4 := ax3.mod m4 (by simp; omega)
        have hb4 := hb3.trans (m4.upto hb3.size (by simp; omega))
        have K4 := Lib.hid kx4
        have HH4 := Lib.hid hb4
        clear m4 hb4 kx4
        refine planT_one rfl (by rfl) (fun K hK => ?_); go_simp
        refine hK.out _ _ (SW.out _ HH4.out) ?_; clear hK K; (try simp only [List.getElem_toArray, List.getElem_cons_succ, List.getElem_cons_zero, Act.put, List.setIfInBounds_toArray, List.set_cons_zero, List.set_cons_succ])
        clear r0 r1 r2 r3 r4 q0 q1 q2 q3 q4 ql
        generalize (((((v3.setCell ⟨d2, 0, none⟩ (.int .i64 k3)).setCell ⟨d2, 1, none⟩ (.string p3)).setCell ⟨d2, 2, none⟩ (.string t3)).setCell ⟨d2, 3, none⟩ (.slice a5 n5 c5)).setCell ⟨d2, 4, none⟩ (.slice a6 n6 c6)) = v4 at *
        have hb4 := HH4.out
        have kx4 := K4.out
        clear HH4 K4
        have r0 := kx4.frozen 0
        have r1 := kx4.frozen 1
        have r2 := kx4.frozen 2
        have r3 := kx4.frozen 3
        have r4 := kx4.frozen 4
        have q0 := kx4.cell (i := 0) (v := .int .i64 0) rfl
        have q1 := kx4.cell (i := 1) (v := .string ⟨#[]⟩) rfl
        have q2 := kx4.cell (i := 2) (v := .string ⟨#[]⟩) rfl
        have q3 := kx4.cell (i := 3) (v := .slice none 0 0) rfl
        have q4 := kx4.cell (i := 4) (v := .slice none 0 0) rfl
        have ql := kx4.lt
        have m5 := mod_five v4 d3 (.int .i64 k4) (.string p4) (.string t4) (.slice a7 n7 c7) (.slice a8 n8 c8)
        have hb5 := hb4.trans (m5.upto hb4.size (by simp; omega))
        have HH5 := Lib.hid hb5
        clear m5 hb5
        refine planT_one rfl (by rfl) (fun K hK => ?_); go_simp
        refine hK.out _ _ (SW.out _ HH5.out) ?_; clear hK K; (try simp only [List.getElem_toArray, List.getElem_cons_succ, List.getElem_cons_zero, Act.put, List.setIfInBounds_toArray, List.set_cons_zero, List.set_cons_succ])
        clear r0 r1 r2 r3 r4 q0 q1 q2 q3 q4 ql
        generalize (((((v4.setCell ⟨d3, 0, none⟩ (.int .i64 k4)).setCell ⟨d3, 1, none⟩ (.string p4)).setCell ⟨d3, 2, none⟩ (.string t4)).setCell ⟨d3, 3, none⟩ (.slice a7 n7 c7)).setCell ⟨d3, 4, none⟩ (.slice a8 n8 c8)) = v5 at *
        have hb5 := HH5.out
        clear HH5
        refine planT_one rfl (by rfl) (fun K hK => ?_); go_simp
        refine hK.out _ _ (SW.out _ hb5) ?_; clear hK K; (try simp only [List.getElem_toArray, List.getElem_cons_succ, List.getElem_cons_zero, Act.put, List.setIfInBounds_toArray, List.set_cons_zero, List.set_cons_succ])
        refine planT_done ?_
        refine NoPanic.normal ?_
        (try go_wp2)
        go_meet
        case rel => exact ⟨rfl, hb5⟩
      · skip
        have ax6 := CBox.new v1 24 #[.int .i64 0, .string ⟨#[]⟩, .string ⟨#[]⟩, .slice none 0 0, .slice none 0 0]
        have ge6 := hb1.size
        have hb6 := qtrans hb1 (qalloc v1 (.cells #[.int .i64 0, .string ⟨#[]⟩, .string ⟨#[]⟩, .slice none 0 0, .slice none 0 0] 24))
        refine planT_one rfl (by rfl) (fun K hK => ?_); go_simp
        refine hK.out _ _ (SW.out _ hb6) ?_; clear hK K; (try simp only [List.getElem_toArray, List.getElem_cons_succ, List.getElem_cons_zero, Act.put, List.setIfInBounds_toArray, List.set_cons_zero, List.set_cons_succ])
        generalize v1.alloc (.cells #[.int .i64 0, .string ⟨#[]⟩, .string ⟨#[]⟩, .slice none 0 0, .slice none 0 0] 24) = v6 at *
        generalize v1.heap.size = d6 at *
        have ax7 := CBox.new v6 24 #[.int .i64 0, .string ⟨#[]⟩, .string ⟨#[]⟩, .slice none 0 0, .slice none 0 0]
        have ge7 := hb6.size
        have c7_12 := ax6.alloc (.cells #[.int .i64 0, .string ⟨#[]⟩, .string ⟨#[]⟩, .slice none 0 0, .slice none 0 0] 24)
        have ne7 := ax6.lt
        have hb7 := qtrans hb6 (qalloc v6 (.cells #[.int .i64 0, .string ⟨#[]⟩, .string ⟨#[]⟩, .slice none 0 0, .slice none 0 0] 24))
        refine planT_one rfl (by rfl) (fun K hK => ?_); go_simp
        refine hK.out _ _ (SW.out _ hb7) ?_; clear hK K; (try simp only [List.getElem_toArray, List.getElem_cons_succ, List.getElem_cons_zero, Act.put, List.setIfInBounds_toArray, List.set_cons_zero, List.set_cons_succ])
        generalize v6.alloc (.cells #[.int .i64 0, .string ⟨#[]⟩, .string ⟨#[]⟩, .slice none 0 0, .slice none 0 0] 24) = v7 at *
        generalize v6.heap.size = d7 at *
        have r0 := ax7.frozen 0
        have r1 := ax7.frozen 1
        have r2 := ax7.frozen 2
        have r3 := ax7.frozen 3
        have r4 := ax7.frozen 4
        have q0 := ax7.cell (i := 0) (v := .int .i64 0) rfl
        have q1 := ax7.cell (i := 1) (v := .string ⟨#[]⟩) rfl
        have q2 := ax7.cell (i := 2) (v := .string ⟨#[]⟩) rfl
        have q3 := ax7.cell (i := 3) (v := .slice none 0 0) rfl
        have q4 := ax7.cell (i := 4) (v := .slice none 0 0) rfl
        have ql := ax7.lt
        have m8 := mod_five v7 d7 (.int .i64 k3) (.string p3) (.string t3) (.slice a5 n5 c5) (.slice a6 n6 c6)
        have kx8 := c7_12.mod m8 (by simp; omega)
        have hb8 := hb7.trans (m8.upto hb7.size (by simp; omega))
        have K8 := Lib.hid kx8
        have HH8 := Lib.hid hb8
        clear m8 hb8 kx8
        refine planT_one rfl (by rfl) (fun K hK => ?_); go_simp
        refine hK.out _ _ (SW.out _ HH8.out) ?_; clear hK K; (try simp only [List.getElem_toArray, List.getElem_cons_succ, List.getElem_cons_zero, Act.put, List.setIfInBounds_toArray, List.set_cons_zero, List.set_cons_succ])
        clear r0 r1 r2 r3 r4 q0 q1 q2 q3 q4 ql
        generalize (((((v7.setCell ⟨d7, 0, none⟩ (.int .i64 k3)).setCell ⟨d7, 1, none⟩ (.string p3)).setCell ⟨d7, 2, none⟩ (.string t3)).setCell ⟨d7, 3, none⟩ (.slice a5 n5 c5)).setCell ⟨d7, 4, none⟩ (.slice a6 n6 c6)) = v8 at *
        have hb8 := HH8.out
        have kx8 := K8.out
        clear HH8 K8
        have r0 := kx8.frozen 0
        have r1 := kx8.frozen 1
        have r2 := kx8.frozen 2
        have r3 := kx8.frozen 3
        have r4 := kx8.frozen 4
        have q0 := kx8.cell (i := 0) (v := .int .i64 0) rfl
        have q1 := kx8.cell (i := 1) (v := .string ⟨#[]⟩) rfl
        have q2 := kx8.cell (i := 2) (v := .string ⟨#[]⟩) rfl
        have q3 := kx8.cell (i := 3) (v := .slice none 0 0) rfl
        have q4 := kx8.cell (i := 4) (v := .slice none 0 0) rfl
        have ql := kx8.lt
        have m9 := mod_five v8 d6 (.int .i64 k4) (.string p4) (.string t4) (.slice a7 n7 c7) (.slice a8 n8 c8)
        have hb9 := hb8.trans (m9.upto hb8.size (by simp; omega))
        have HH9 := Lib.hid hb9
        clear m9 hb9
        refine planT_one rfl (by rfl) (fun K hK => ?_); go_simp
        refine hK.out _ _ (SW.out _ HH9.out) ?_; clear hK K; (try simp only [List.getElem_toArray, List.getElem_cons_succ, List.getElem_cons_zero, Act.put, List.setIfInBounds_toArray, List.set_cons_zero, List.set_cons_succ])
        clear r0 r1 r2 r3 r4 q0 q1 q2 q3 q4 ql
        generalize (((((v8.setCell ⟨d6, 0, none⟩ (.int .i64 k4)).setCell ⟨d6, 1, none⟩ (.string p4)).setCell ⟨d6, 2, none⟩ (.string t4)).setCell ⟨d6, 3, none⟩ (.slice a7 n7 c7)).setCell ⟨d6, 4, none⟩ (.slice a8 n8 c8)) = v9 at *
        have hb9 := HH9.out
        clear HH9
        refine planT_one rfl (by rfl) (fun K hK => ?_); go_simp
        refine hK.out _ _ (SW.out _ hb9) ?_; clear hK K; (try simp only [List.getElem_toArray, List.getElem_cons_succ, List.getElem_cons_zero, Act.put, List.setIfInBounds_toArray, List.set_cons_zero, List.set_cons_succ])
        refine planT_done ?_
        refine NoPanic.normal ?_
        (try go_wp2)
        go_meet
        case rel => exact ⟨rfl, hb9⟩
    · skip
      have ax10 := CBox.new v0 24 #[.int .i64 0, .string ⟨#[]⟩, .string ⟨#[]⟩, .slice none 0 0, .slice none 0 0]
      have ge10 := hb0.size
      have hb10 := qtrans hb0 (qalloc v0 (.cells #[.int .i64 0, .string ⟨#[]⟩, .string ⟨#[]⟩, .slice none 0 0, .slice none 0 0] 24))
      refine planT_one rfl (by rfl) (fun K hK => ?_); go_simp
      refine hK.out _ _ (SW.out _ hb10) ?_; clear hK K; (try simp only [List.getElem_toArray, List.getElem_cons_succ, List.getElem_cons_zero, Act.put, List.setIfInBounds_toArray, List.set_cons_zero, List.set_cons_succ])
      generalize v0.alloc (.cells #[.int .i64 0, .string ⟨#[]⟩, .string ⟨#[]⟩, .slice none 0 0, .slice none 0 0] 24) = v10 at *
      generalize v0.heap.size = d10 at *
      refine planT_two ?_ ?_
      · skip
        refine planT_one rfl (by rfl) (fun K hK => ?_); go_simp
        refine (HS2.out _ hb10).mono ?_
        rintro r v11 ⟨rfl, hq11⟩
        (try go_simp)
        have hb11 := qtrans hb10 hq11
        have c11_11 := ax10.below hq11
        refine hK.out _ _ (SW.out _ hb11) ?_; clear hK K; (try simp only [List.getElem_toArray, List.getElem_cons_succ, List.getElem_cons_zero, Act.put, List.setIfInBounds_toArray, List.set_cons_zero, List.set_cons_succ])
        iterate 4 (refine planT_take (v := ?_) rfl (by rfl) ?_ ?_; rotate_left; (focus (intro wq hSw; (try dsimp only at hSw); go_simp; (try rw [if_neg (by first | omega | (simp; omega))]); (try with_reducible rfl))); (try simp only [List.getElem_toArray, List.getElem_cons_succ, List.getElem_cons_zero, Act.put, List.setIfInBounds_toArray, List.set_cons_zero, List.set_cons_succ]))
        have ax12 := CBox.new v11 24 #[.int .i64 0, .string ⟨#[]⟩, .string ⟨#[]⟩, .slice none 0 0, .slice none 0 0]
        have ge12 := hb11.size
        have c12_11 := c11_11.alloc (.cells #[.int .i64 0, .string ⟨#[]⟩, .string ⟨#[]⟩, .slice none 0 0, .slice none 0 0] 24)
        have ne12 := c11_11.lt
        have hb12 := qtrans hb11 (qalloc v11 (.cells #[.int .i64 0, .string ⟨#[]⟩, .string ⟨#[]⟩, .slice none 0 0, .slice none 0 0] 24))
        refine planT_one rfl (by rfl) (fun K hK => ?_); go_simp
        refine hK.out _ _ (SW.out _ hb12) ?_; clear hK K; (try simp only [List.getElem_toArray, List.getElem_cons_succ, List.getElem_cons_zero, Act.put, List.setIfInBounds_toArray, List.set_cons_zero, List.set_cons_succ])
        generalize v11.alloc (.cells #[.int .i64 0, .string ⟨#[]⟩, .string ⟨#[]⟩, .slice none 0 0, .slice none 0 0] 24) = v12 at *
        generalize v11.heap.size = d12 at *
        have r0 := c12_11.frozen 0
        have r1 := c12_11.frozen 1
        have r2 := c12_11.frozen 2
        have r3 := c12_11.frozen 3
        have r4 := c12_11.frozen 4
        have q0 := c12_11.cell (i := 0) (v := .int .i64 0) rfl
        have q1 := c12_11.cell (i := 1) (v := .string ⟨#[]⟩) rfl
        have q2 := c12_11.cell (i := 2) (v := .string ⟨#[]⟩) rfl
        have q3 := c12_11.cell (i := 3) (v := .slice none 0 0) rfl
        have q4 := c12_11.cell (i := 4) (v := .slice none 0 0) rfl
        have ql := c12_11.lt
        have m13 := mod_five v12 d10 (.int .i64 k3) (.string p3) (.string t3) (.slice a5 n5 c5) (.slice a6 n6 c6)
        have kx13 := ax12.mod m13 (by simp; omega)
        have hb13 := hb12.trans (m13.upto hb12.size (by simp; omega))
        have K13 := Lib.hid kx13
        have HH13 := Lib.hid hb13
        clear m13 hb13 kx13
        refine planT_one rfl (by rfl) (fun K hK => ?_); go_simp
        refine hK.out _ _ (SW.out _ HH13.out) ?_; clear hK K; (try simp only [List.getElem_toArray, List.getElem_cons_succ, List.getElem_cons_zero, Act.put, List.setIfInBounds_toArray, List.set_cons_zero, List.set_cons_succ])
        clear r0 r1 r2 r3 r4 q0 q1 q2 q3 q4 ql
        generalize (((((v12.setCell ⟨d10, 0, none⟩ (.int .i64 k3)).setCell ⟨d10, 1, none⟩ (.string p3)).setCell ⟨d10, 2, none⟩ (.string t3)).setCell ⟨d10, 3, none⟩ (.slice a5 n5 c5)).setCell ⟨d10, 4, none⟩ (.slice a6 n6 c6)) = v13 at *
        have hb13 := HH13.out
        have kx13 := K13.out
        clear HH13 K13
        have r0 := kx13.frozen 0
        have r1 := kx13.frozen 1
        have r2 := kx13.frozen 2
        have r3 := kx13.frozen 3
        have r4 := kx13.frozen 4
        have q0 := kx13.cell (i := 0) (v := .int .i64 0) rfl
        have q1 := kx13.cell (i := 1) (v := .string ⟨#[]⟩) rfl
        have q2 := kx13.cell (i := 2) (v := .string ⟨#[]⟩) rfl
        have q3 := kx13.cell (i := 3) (v := .slice none 0 0) rfl
        have q4 := kx13.cell (i := 4) (v := .slice none 0 0) rfl
        have ql := kx13.lt
        have m14 := mod_five v13 d12 (.int .i64 k4) (.string p4) (.string t4) (.slice a7 n7 c7) (.slice a8 n8 c8)
        have hb14 := hb13.trans (m14.upto hb13.size (by simp; omega))
        have HH14 := Lib.hid hb14
        clear m14 hb14
        refine planT_one rfl (by rfl) (fun K hK => ?_); go_simp
        refine hK.out _ _ (SW.out _ HH14.out) ?_; clear hK K; (try simp only [List.getElem_toArray, List.getElem_cons_succ, List.getElem_cons_zero, Act.put, List.setIfInBounds_toArray, List.set_cons_zero, List.set_cons_succ])
        clear r0 r1 r2 r3 r4 q0 q1 q2 q3 q4 ql
        generalize (((((v13.setCell ⟨d12, 0, none⟩ (.int .i64 k4)).setCell ⟨d12, 1, none⟩ (.string p4)).setCell ⟨d12, 2, none⟩ (.string t4)).setCell ⟨d12, 3, none⟩ (.slice a7 n7 c7)).setCell ⟨d12, 4, none⟩ (.slice a8 n8 c8)) = v14 at *
        have hb14 := HH14.out
        clear HH14
        refine planT_one rfl (by rfl) (fun K hK => ?_); go_simp
        refine hK.out _ _ (SW.out _ hb14) ?_; clear hK K; (try simp only [List.getElem_toArray, List.getElem_cons_succ, List.getElem_cons_zero, Act.put, List.setIfInBounds_toArray, List.set_cons_zero, List.set_cons_succ])
        refine planT_done ?_
        refine NoPanic.normal ?_
        (try go_wp2)
        go_meet
        case rel => exact ⟨rfl, hb14⟩
      · skip
        have ax15 := CBox.new v10 24 #[.int .i64 0, .string ⟨#[]⟩, .string ⟨#[]⟩, .slice none 0 0, .slice none 0 0]
        have ge15 := hb10.size
        have c15_11 := ax10.alloc (.cells #[.int .i64 0, .string ⟨#[]⟩, .string ⟨#[]⟩, .slice none 0 0, .slice none 0 0] 24)
        have ne15 := ax10.lt
        have hb15 := qtrans hb10 (qalloc v10 (.cells #[.int .i64 0, .string ⟨#[]⟩, .string ⟨#[]⟩, .slice none 0 0, .slice none 0 0] 24))
        refine planT_one rfl (by rfl) (fun K hK => ?_); go_simp
        refine hK.out _ _ (SW.out _ hb15) ?_; clear hK K; (try simp only [List.getElem_toArray, List.getElem_cons_succ, List.getElem_cons_zero, Act.put, List.setIfInBounds_toArray, List.set_cons_zero, List.set_cons_succ])
        generalize v10.alloc (.cells #[.int .i64 0, .string ⟨#[]⟩, .string ⟨#[]⟩, .slice none 0 0, .slice none 0 0] 24) = v15 at *
        generalize v10.heap.size = d15 at *
        refine planT_one rfl (by rfl) (fun K hK => ?_); go_simp
        refine (HS2.out _ hb15).mono ?_
        rintro r v16 ⟨rfl, hq16⟩
        (try go_simp)
        have hb16 := qtrans hb15 hq16
        have c16_11 := c15_11.below hq16
        have c16_12 := ax15.below hq16
        refine hK.out _ _ (SW.out _ hb16) ?_; clear hK K; (try simp only [List.getElem_toArray, List.getElem_cons_succ, List.getElem_cons_zero, Act.put, List.setIfInBounds_toArray, List.set_cons_zero, List.set_cons_succ])
        iterate 4 (refine planT_take (v := ?_) rfl (by rfl) ?_ ?_; rotate_left; (focus (intro wq hSw; (try dsimp only at hSw); go_simp; (try rw [if_neg (by first | omega | (simp; omega))]); (try with_reducible rfl))); (try simp only [List.getElem_toArray, List.getElem_cons_succ, List.getElem_cons_zero, Act.put, List.setIfInBounds_toArray, List.set_cons_zero, List.set_cons_succ]))
        have r0 := c16_11.frozen 0
        have r1 := c16_11.frozen 1
        have r2 := c16_11.frozen 2
        have r3 := c16_11.frozen 3
        have r4 := c16_11.frozen 4
        have q0 := c16_11.cell (i := 0) (v := .int .i64 0) rfl
        have q1 := c16_11.cell (i := 1) (v := .string ⟨#[]⟩) rfl
        have q2 := c16_11.cell (i := 2) (v := .string ⟨#[]⟩) rfl
        have q3 := c16_11.cell (i := 3) (v := .slice none 0 0) rfl
        have q4 := c16_11.cell (i := 4) (v := .slice none 0 0) rfl
        have ql := c16_11.lt
        have m17 := mod_five v16 d10 (.int .i64 k3) (.string p3) (.string t3) (.slice a5 n5 c5) (.slice a6 n6 c6)
        have kx17 := c16_12.mod m17 (by simp; omega)
        have hb17 := hb16.trans (m17.upto hb16.size (by simp; omega))
        have K17 := Lib.hid kx17
        have HH17 := Lib.hid hb17
        clear m17 hb17 kx17
        refine planT_one rfl (by rfl) (fun K hK => ?_); go_simp
        refine hK.out _ _ (SW.out _ HH17.out) ?_; clear hK K; (try simp only [List.getElem_toArray, List.getElem_cons_succ, List.getElem_cons_zero, Act.put, List.setIfInBounds_toArray, List.set_cons_zero, List.set_cons_succ])
        clear r0 r1 r2 r3 r4 q0 q1 q2 q3 q4 ql
        generalize (((((v16.setCell ⟨d10, 0, none⟩ (.int .i64 k3)).setCell ⟨d10, 1, none⟩ (.string p3)).setCell ⟨d10, 2, none⟩ (.string t3)).setCell ⟨d10, 3, none⟩ (.slice a5 n5 c5)).setCell ⟨d10, 4, none⟩ (.slice a6 n6 c6)) = v17 at *
        have hb17 := HH17.out
        have kx17 := K17.out
        clear HH17 K17
        have r0 := kx17.frozen 0
        have r1 := kx17.frozen 1
        have r2 := kx17.frozen 2
        have r3 := kx17.frozen 3
        have r4 := kx17.frozen 4
        have q0 := kx17.cell (i := 0) (v := .int .i64 0) rfl
        have q1 := kx17.cell (i := 1) (v := .string ⟨#[]⟩) rfl
        have q2 := kx17.cell (i := 2) (v := .string ⟨#[]⟩) rfl
        have q3 := kx17.cell (i := 3) (v := .slice none 0 0) rfl
        have q4 := kx17.cell (i := 4) (v := .slice none 0 0) rfl
        have ql := kx17.lt
        have m18 := mod_five v17 d15 (.int .i64 k4) (.string p4) (.string t4) (.slice a7 n7 c7) (.slice a8 n8 c8)
        have hb18 := hb17.trans (m18.upto hb17.size (by simp; omega))
        have HH18 := Lib.hid hb18
        clear m18 hb18
        refine planT_one rfl (by rfl) (fun K hK => ?_); go_simp
        refine hK.out _ _ (SW.out _ HH18.out) ?_; clear hK K; (try simp only [List.getElem_toArray, List.getElem_cons_succ, List.getElem_cons_zero, Act.put, List.setIfInBounds_toArray, List.set_cons_zero, List.set_cons_succ])
        clear r0 r1 r2 r3 r4 q0 q1 q2 q3 q4 ql
        generalize (((((v17.setCell ⟨d15, 0, none⟩ (.int .i64 k4)).setCell ⟨d15, 1, none⟩ (.string p4)).setCell ⟨d15, 2, none⟩ (.string t4)).setCell ⟨d15, 3, none⟩ (.slice a7 n7 c7)).setCell ⟨d15, 4, none⟩ (.slice a8 n8 c8)) = v18 at *
        have hb18 := HH18.out
        clear HH18
        refine planT_one rfl (by rfl) (fun K hK => ?_); go_simp
        refine hK.out _ _ (SW.out _ hb18) ?_; clear hK K; (try simp only [List.getElem_toArray, List.getElem_cons_succ, List.getElem_cons_zero, Act.put, List.setIfInBounds_toArray, List.set_cons_zero, List.set_cons_succ])
        refine planT_done ?_
        refine NoPanic.normal ?_
        (try go_wp2)
        go_meet
        case rel => exact ⟨rfl, hb18⟩
    · skip
      have ax19 := CBox.new v0 24 #[.int .i64 0, .string ⟨#[]⟩, .string ⟨#[]⟩, .slice none 0 0, .slice none 0 0]
      have ge19 := hb0.size
      have hb19 := qtrans hb0 (qalloc v0 (.cells #[.int .i64 0, .string ⟨#[]⟩, .string ⟨#[]⟩, .slice none 0 0, .slice none 0 0] 24))
      refine planT_one rfl (by rfl) (fun K hK => ?_); go_simp
      refine hK.out _ _ (SW.out _ hb19) ?_; clear hK K; (try simp only [List.getElem_toArray, List.getElem_cons_succ, List.getElem_cons_zero, Act.put, List.setIfInBounds_toArray, List.set_cons_zero, List.set_cons_succ])
      generalize v0.alloc (.cells #[.int .i64 0, .string ⟨#[]⟩, .string ⟨#[]⟩, .slice none 0 0, .slice none 0 0] 24) = v19 at *
      generalize v0.heap.size = d19 at *
      refine planT_two ?_ ?_
      · skip
        refine planT_one rfl (by rfl) (fun K hK => ?_); go_simp
        refine (HS2.out _ hb19).mono ?_
        rintro r v20 ⟨rfl, hq20⟩
        (try go_simp)
        have hb20 := qtrans hb19 hq20
        have c20_12 := ax19.below hq20
        refine hK.out _ _ (SW.out _ hb20) ?_; clear hK K; (try simp only [List.getElem_toArray, List.getElem_cons_succ, List.getElem_cons_zero, Act.put, List.setIfInBounds_toArray, List.set_cons_zero, List.set_cons_succ])
        iterate 4 (refine planT_take (v := ?_) rfl (by rfl) ?_ ?_; rotate_left; (focus (intro wq hSw; (try dsimp only at hSw); go_simp; (try rw [if_neg (by first | omega | (simp; omega))]); (try with_reducible rfl))); (try simp only [List.getElem_toArray, List.getElem_cons_succ, List.getElem_cons_zero, Act.put, List.setIfInBounds_toArray, List.set_cons_zero, List.set_cons_succ]))
        have ax21 := CBox.new v20 24 #[.int .i64 0, .string ⟨#[]⟩, .string ⟨#[]⟩, .slice none 0 0, .slice none 0 0]
        have ge21 := hb20.size
        have c21_12 := c20_12.alloc (.cells #[.int .i64 0, .string ⟨#[]⟩, .string ⟨#[]⟩, .slice none 0 0, .slice none 0 0] 24)
        have ne21 := c20_12.lt
        have hb21 := qtrans hb20 (qalloc v20 (.cells #[.int .i64 0, .string ⟨#[]⟩, .string ⟨#[]⟩, .slice none 0 0, .slice none 0 0] 24))
        refine planT_one rfl (by rfl) (fun K hK => ?_); go_simp
        refine hK.out _ _ (SW.out _ hb21) ?_; clear hK K; (try simp only [List.getElem_toArray, List.getElem_cons_succ, List.getElem_cons_zero, Act.put, List.setIfInBounds_toArray, List.set_cons_zero, List.set_cons_succ])
        generalize v20.alloc (.cells #[.int .i64 0, .string ⟨#[]⟩, .string ⟨#[]⟩, .slice none 0 0, .slice none 0 0] 24) = v21 at *
        generalize v20.heap.size = d21 at *
        have r0 := ax21.frozen 0
        have r1 := ax21.frozen 1
        have r2 := ax21.frozen 2
        have r3 := ax21.frozen 3
        have r4 := ax21.frozen 4
        have q0 := ax21.cell (i := 0) (v := .int .i64 0) rfl
        have q1 := ax21.cell (i := 1) (v := .string ⟨#[]⟩) rfl
        have q2 := ax21.cell (i := 2) (v := .string ⟨#[]⟩) rfl
        have q3 := ax21.cell (i := 3) (v := .slice none 0 0) rfl
        have q4 := ax21.cell (i := 4) (v := .slice none 0 0) rfl
        have ql := ax21.lt
        have m22 := mod_five v21 d21 (.int .i64 k3) (.string p3) (.string t3) (.slice a5 n5 c5) (.slice a6 n6 c6)
        have kx22 := c21_12.mod m22 (by simp; omega)
        have hb22 := hb21.trans (m22.upto hb21.size (by simp; omega))
        have K22 := Lib.hid kx22
        have HH22 := Lib.hid hb22
        clear m22 hb22 kx22
        refine planT_one rfl (by rfl) (fun K hK => ?_); go_simp
        refine hK.out _ _ (SW.out _ HH22.out) ?_; clear hK K; (try simp only [List.getElem_toArray, List.getElem_cons_succ, List.getElem_cons_zero, Act.put, List.setIfInBounds_toArray, List.set_cons_zero, List.set_cons_succ])
        clear r0 r1 r2 r3 r4 q0 q1 q2 q3 q4 ql
        generalize (((((v21.setCell ⟨d21, 0, none⟩ (.int .i64 k3)).setCell ⟨d21, 1, none⟩ (.string p3)).setCell ⟨d21, 2, none⟩ (.string t3)).setCell ⟨d21, 3, none⟩ (.slice a5 n5 c5)).setCell ⟨d21, 4, none⟩ (.slice a6 n6 c6)) = v22 at *
        have hb22 := HH22.out
        have kx22 := K22.out
        clear HH22 K22
        have r0 := kx22.frozen 0
        have r1 := kx22.frozen 1
        have r2 := kx22.frozen 2
        have r3 := kx22.frozen 3
        have r4 := kx22.frozen 4
        have q0 := kx22.cell (i := 0) (v := .int .i64 0) rfl
        have q1 := kx22.cell (i := 1) (v := .string ⟨#[]⟩) rfl
        have q2 := kx22.cell (i := 2) (v := .string ⟨#[]⟩) rfl
        have q3 := kx22.cell (i := 3) (v := .slice none 0 0) rfl
        have q4 := kx22.cell (i := 4) (v := .slice none 0 0) rfl
        have ql := kx22.lt
        have m23 := mod_five v22 d19 (.int .i64 k4) (.string p4) (.string t4) (.slice a7 n7 c7) (.slice a8 n8 c8)
        have hb23 := hb22.trans (m23.upto hb22.size (by simp; omega))
        have HH23 := Lib.hid hb23
        clear m23 hb23
        refine planT_one rfl (by rfl) (fun K hK => ?_); go_simp
        refine hK.out _ _ (SW.out _ HH23.out) ?_; clear hK K; (try simp only [List.getElem_toArray, List.getElem_cons_succ, List.getElem_cons_zero, Act.put, List.setIfInBounds_toArray, List.set_cons_zero, List.set_cons_succ])
        clear r0 r1 r2 r3 r4 q0 q1 q2 q3 q4 ql
        generalize (((((v22.setCell ⟨d19, 0, none⟩ (.int .i64 k4)).setCell ⟨d19, 1, none⟩ (.string p4)).setCell ⟨d19, 2, none⟩ (.string t4)).setCell ⟨d19, 3, none⟩ (.slice a7 n7 c7)).setCell ⟨d19, 4, none⟩ (.slice a8 n8 c8)) = v23 at *
        have hb23 := HH23.out
        clear HH23
        refine planT_one rfl (by rfl) (fun K hK => ?_); go_simp
        refine hK.out _ _ (SW.out _ hb23) ?_; clear hK K; (try simp only [List.getElem_toArray, List.getElem_cons_succ, List.getElem_cons_zero, Act.put, List.setIfInBounds_toArray, List.set_cons_zero, List.set_cons_succ])
        refine planT_done ?_
        refine NoPanic.normal ?_
        (try go_wp2)
        go_meet
        case rel => exact ⟨rfl, hb23⟩
      · skip
        have ax24 := CBox.new v19 24 #[.int .i64 0, .string ⟨#[]⟩, .string ⟨#[]⟩, .slice none 0 0, .slice none 0 0]
        have ge24 := hb19.size
        have c24_12 := ax19.alloc (.cells #[.int .i64 0, .string ⟨#[]⟩, .string ⟨#[]⟩, .slice none 0 0, .slice none 0 0] 24)
        have ne24 := ax19.lt
        have hb24 := qtrans hb19 (qalloc v19 (.cells #[.int .i64 0, .string ⟨#[]⟩, .string ⟨#[]⟩, .slice none 0 0, .slice none 0 0] 24))
        refine planT_one rfl (by rfl) (fun K hK => ?_); go_simp
        refine hK.out _ _ (SW.out _ hb24) ?_; clear hK K; (try simp only [List.getElem_toArray, List.getElem_cons_succ, List.getElem_cons_zero, Act.put, List.setIfInBounds_toArray, List.set_cons_zero, List.set_cons_succ])
        generalize v19.alloc (.cells #[.int .i64 0, .string ⟨#[]⟩, .string ⟨#[]⟩, .slice none 0 0, .slice none 0 0] 24) = v24 at *
        generalize v19.heap.size = d24 at *
        refine planT_one rfl (by rfl) (fun K hK => ?_); go_simp
        refine (HS2.out _ hb24).mono ?_
        rintro r v25 ⟨rfl, hq25⟩
        (try go_simp)
        have hb25 := qtrans hb24 hq25
        have c25_12 := c24_12.below hq25
        have c25_11 := ax24.below hq25
        refine hK.out _ _ (SW.out _ hb25) ?_; clear hK K; (try simp only [List.getElem_toArray, List.getElem_cons_succ, List.getElem_cons_zero, Act.put, List.setIfInBounds_toArray, List.set_cons_zero, List.set_cons_succ])
        iterate 4 (refine planT_take (v := ?_) rfl (by rfl) ?_ ?_; rotate_left; (focus (intro wq hSw; (try dsimp only at hSw); go_simp; (try rw [if_neg (by first | omega | (simp; omega))]); (try with_reducible rfl))); (try simp only [List.getElem_toArray, List.getElem_cons_succ, List.getElem_cons_zero, Act.put, List.setIfInBounds_toArray, List.set_cons_zero, List.set_cons_succ]))
        have r0 := c25_11.frozen 0
        have r1 := c25_11.frozen 1
        have r2 := c25_11.frozen 2
        have r3 := c25_11.frozen 3
        have r4 := c25_11.frozen 4
        have q0 := c25_11.cell (i := 0) (v := .int .i64 0) rfl
        have q1 := c25_11.cell (i := 1) (v := .string ⟨#[]⟩) rfl
        have q2 := c25_11.cell (i := 2) (v := .string ⟨#[]⟩) rfl
        have q3 := c25_11.cell (i := 3) (v := .slice none 0 0) rfl
        have q4 := c25_11.cell (i := 4) (v := .slice none 0 0) rfl
        have ql := c25_11.lt
        have m26 := mod_five v25 d24 (.int .i64 k3) (.string p3) (.string t3) (.slice a5 n5 c5) (.slice a6 n6 c6)
        have kx26 := c25_12.mod m26 (by simp; omega)
        have hb26 := hb25.trans (m26.upto hb25.size (by simp; omega))
        have K26 := Lib.hid kx26
        have HH26 := Lib.hid hb26
        clear m26 hb26 kx26
        refine planT_one rfl (by rfl) (fun K hK => ?_); go_simp
        refine hK.out _ _ (SW.out _ HH26.out) ?_; clear hK K; (try simp only [List.getElem_toArray, List.getElem_cons_succ, List.getElem_cons_zero, Act.put, List.setIfInBounds_toArray, List.set_cons_zero, List.set_cons_succ])
        clear r0 r1 r2 r3 r4 q0 q1 q2 q3 q4 ql
        generalize (((((v25.setCell ⟨d24, 0, none⟩ (.int .i64 k3)).setCell ⟨d24, 1, none⟩ (.string p3)).setCell ⟨d24, 2, none⟩ (.string t3)).setCell ⟨d24, 3, none⟩ (.slice a5 n5 c5)).setCell ⟨d24, 4, none⟩ (.slice a6 n6 c6)) = v26 at *
        have hb26 := HH26.out
        have kx26 := K26.out
        clear HH26 K26
        have r0 := kx26.frozen 0
        have r1 := kx26.frozen 1
        have r2 := kx26.frozen 2
        have r3 := kx26.frozen 3
        have r4 := kx26.frozen 4
        have q0 := kx26.cell (i := 0) (v := .int .i64 0) rfl
        have q1 := kx26.cell (i := 1) (v := .string ⟨#[]⟩) rfl
        have q2 := kx26.cell (i := 2) (v := .string ⟨#[]⟩) rfl
        have q3 := kx26.cell (i := 3) (v := .slice none 0 0) rfl
        have q4 := kx26.cell (i := 4) (v := .slice none 0 0) rfl
        have ql := kx26.lt
        have m27 := mod_five v26 d19 (.int .i64 k4) (.string p4) (.string t4) (.slice a7 n7 c7) (.slice a8 n8 c8)
        have hb27 := hb26.trans (m27.upto hb26.size (by simp; omega))
        have HH27 := Lib.hid hb27
        clear m27 hb27
        refine planT_one rfl (by rfl) (fun K hK => ?_); go_simp
        refine hK.out _ _ (SW.out _ HH27.out) ?_; clear hK K; (try simp only [List.getElem_toArray, List.getElem_cons_succ, List.getElem_cons_zero, Act.put, List.setIfInBounds_toArray, List.set_cons_zero, List.set_cons_succ])
        clear r0 r1 r2 r3 r4 q0 q1 q2 q3 q4 ql
        generalize (((((v26.setCell ⟨d19, 0, none⟩ (.int .i64 k4)).setCell ⟨d19, 1, none⟩ (.string p4)).setCell ⟨d19, 2, none⟩ (.string t4)).setCell ⟨d19, 3, none⟩ (.slice a7 n7 c7)).setCell ⟨d19, 4, none⟩ (.slice a8 n8 c8)) = v27 at *
        have hb27 := HH27.out
        clear HH27
        refine planT_one rfl (by rfl) (fun K hK => ?_); go_simp
        refine hK.out _ _ (SW.out _ hb27) ?_; clear hK K; (try simp only [List.getElem_toArray, List.getElem_cons_succ, List.getElem_cons_zero, Act.put, List.setIfInBounds_toArray, List.set_cons_zero, List.set_cons_succ])
        refine planT_done ?_
        refine NoPanic.normal ?_
        (try go_wp2)
        go_meet
        case rel => exact ⟨rfl, hb27⟩
  case rest =>
  obtain ⟨rfl, hb5⟩ := hcut
  generalize wc = w5 at *
  have HB5 := Lib.hid (qtrans HB2.out (qtrans HB24.out hb5))
  have HW5 := Lib.hid (qtrans HW4.out hb5)
  clear hb5 hb0 hge0 SW HS2 hM
  obtain ⟨k5, p5, t5, a9, n9, c9, a10, n10, c10, k6, p6, t6, a11, n11, c11, a12, n12, c12, hs3⟩ := swap_shape f e bo do' bf df ao co af cf
  have HS3 := Lib.hid (cSwap_any f e bo do' bf df ao co af cf w5 (HF.out.below HW5.out) (HE.out.below HW5.out) HSF1.out HSE1.out)
  rw [hs3, ← HPS.out] at HS3
  clear hs3
  unfold editV at HS3
  have e0 := (G1.out.below HB5.out).cell (i := 0) (v := .int .i64 e.kind) rfl
  have e1 := (G1.out.below HB5.out).cell (i := 1) (v := .string e.pack) rfl
  have e2 := (G1.out.below HB5.out).cell (i := 2) (v := .string e.text) rfl
  have e3 := (G1.out.below HB5.out).cell (i := 3) (v := .slice ao e.old.length co) rfl
  have e4 := (G1.out.below HB5.out).cell (i := 4) (v := .slice af e.fresh.length cf) rfl
  have el := (G1.out.below HB5.out).lt
  have f0 := (G2.out.below HB5.out).cell (i := 0) (v := .int .i64 f.kind) rfl
  have f1 := (G2.out.below HB5.out).cell (i := 1) (v := .string f.pack) rfl
  have f2 := (G2.out.below HB5.out).cell (i := 2) (v := .string f.text) rfl
  have f3 := (G2.out.below HB5.out).cell (i := 3) (v := .slice bo f.old.length do') rfl
  have f4 := (G2.out.below HB5.out).cell (i := 4) (v := .slice bf f.fresh.length df) rfl
  have fl := (G2.out.below HB5.out).lt
  go_wp2_with (fail)
  refine HS3.out.mono ?_
  rintro r w6 ⟨rfl, hb6⟩
  have HW6 := Lib.hid (qtrans HW5.out hb6)
  clear hb6 HS3
  go_upto_region 9 with (fail)
  obtain ⟨-, -, z3⟩ := two_boxes w6 24 #[.int .i64 k5, .string p5, .string t5, .slice a9 n9 c9, .slice a10 n10 c10] #[.int .i64 k6, .string p6, .string t6, .slice a11 n11 c11, .slice a12 n12 c12]
  have HW7 := Lib.hid (qtrans HW6.out z3)
  clear z3
  clear e0 e1 e2 e3 e4 el f0 f1 f2 f3 f4 fl
  generalize (w6.alloc (.cells #[.int .i64 k5, .string p5, .string t5, .slice a9 n9 c9, .slice a10 n10 c10] 24)).alloc (.cells #[.int .i64 k6, .string p6, .string t6, .slice a11 n11 c11, .slice a12 n12 c12] 24) = w7 at *
  have hbs : (sb == sb) = true := beq_self_eq_true sb
  go_wp2_with (fail)
  refine (awake35_any _).mono ?_
  rintro r w8 ⟨rfl, hb8⟩
  have HF8 := Lib.hid (qtrans HW7.out hb8)
  clear hb8
  go_wp2
  go_ret
  exact ⟨rfl, HF8.out⟩
end Go.Proofs.YtlcpdhionefmbaaGreatDoor
