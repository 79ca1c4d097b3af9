/- The reference's Opposite of a module. -/
import Derived.Test.YtlgnedahnaojlaaGreatDoorJYI
import Derived.Test.YtlgnedahnaojlaaGreatDoorJYJ
namespace Go.Proofs.YtlgnedahnaojlaaGreatDoor
open Go.RowKit Go.Shelf
attribute [local go_sem] Oper.semAt_some

theorem oppD_next {l : List ODecl} {i : Nat} {d : ODecl} (h : l[i]? = some d) : (l.take (i + 1)).map oppD = (l.take i).map oppD ++ [oppD d] := by
 rw [take_at h, List.map_append]; rfl
set_option maxRecDepth 100000 in
set_option maxHeartbeats 4000000 in
theorem r33Opposite_any (m : OMod) (aum adm : Option Addr) (cum cdm : Nat) (X : List Nat) (w : World) (hX : ∀ k, k ∈ X → k < w.heap.size) (hm : ModIn w X m aum cum adm cdm) (hn : m.decls.length ≤ 1000000) (hs : ∀ d ∈ m.decls, d.names.length ≤ 1000000 ∧ nodesN d.body ≤ 1000000) :
  Calls Tryz.prog 19 #[modV m aum cum adm cdm] w fun e w' => ∃ ad cd, e = .returned (modV (oppM m) aum cum ad cd) ∧ ModIn w' X (oppM m) aum cum ad cd ∧ Below w.heap.size w w' := by
 obtain ⟨hb, hr, hA⟩ := two_boxes w 25 25 #[.string m.label, .slice aum m.uses.length cum, .slice adm m.decls.length cdm] #[.string ⟨#[]⟩, .slice none 0 0, .slice none 0 0]
 have HX := Lib.hid hX
 have HM := Lib.hid hm
 have hOE : oppM m = ⟨m.label, m.uses, m.decls.map oppD⟩ := rfl
 have HOE := Lib.hid hOE
 have HS := Lib.hid hs
 clear hm hX hOE hs
 unfold modV
 go_enter Tryz.func19, Tryz.ntmps19
 go_upto_region 1 with (fail)
 generalize (w.alloc (.cells #[.string m.label, .slice aum m.uses.length cum, .slice adm m.decls.length cdm] 25)).alloc (.cells #[.string ⟨#[]⟩, .slice none 0 0, .slice none 0 0] 25) = W0 at *
 obtain ⟨R, hR⟩ : ∃ R, w.heap.size + 1 = R := ⟨_, rfl⟩
 rw [hR] at hr ⊢
 have HRW : Hid (w.heap.size + 1 = R) := hR
 have HR := Lib.hid hr
 have HB := Lib.hid hb
 have HA := Lib.hid hA
 obtain ⟨B, hB⟩ : ∃ B, w.heap.size = B := ⟨_, rfl⟩
 rw [hB] at HB ⊢
 have HBW : Hid (w.heap.size = B) := hB
 clear hR hB hr hb hA
 have y0 := (HB.out).cell (i := 0) (v := .string m.label) rfl
 have y1 := (HB.out).cell (i := 1) (v := .slice aum m.uses.length cum) rfl
 have y2 := (HB.out).cell (i := 2) (v := .slice adm m.decls.length cdm) rfl
 have yl := (HB.out).lt
 have hal := qalloc W0 (.cells #[.string m.label, .slice aum m.uses.length cum, .slice none 0 0] 25)
 have HQ := Lib.hid (CBox.new W0 25 #[.string m.label, .slice aum m.uses.length cum, .slice none 0 0])
 have HR1 := Lib.hid (HR.out.below hal)
 have HB1 := Lib.hid (HB.out.below hal)
 have HW1 := Lib.hid (HA.out.trans (hal.mono HA.out.size))
 have hs1 : (W0.alloc (.cells #[.string m.label, .slice aum m.uses.length cum, .slice none 0 0] 25)).heap.size = W0.heap.size + 1 := World.size_alloc _ _
 have HQR : Hid (R < W0.heap.size) := HR.out.lt
 have HM1 : Hid (ModIn _ (W0.heap.size :: R :: X) m aum cum adm cdm) := (((HM.out.more (k := R) (by have := HRW.out; omega)).below HA.out).more (Nat.le_refl _)).below hal
 clear hal y0 y1 y2 yl
 have y0 := HB1.out.cell (i := 0) (v := .string m.label) rfl
 clear y0
 have y0 := (HB.out).cell (i := 0) (v := .string m.label) rfl
 have y1 := (HB.out).cell (i := 1) (v := .slice aum m.uses.length cum) rfl
 have y2 := (HB.out).cell (i := 2) (v := .slice adm m.decls.length cdm) rfl
 have yl := (HB.out).lt
 go_upto_region 2 with (fail)
 clear y0 y1 y2 yl
 generalize W0.alloc (.cells #[.string m.label, .slice aum m.uses.length cum, .slice none 0 0] 25) = W1 at *
 obtain ⟨Q, hQ⟩ : ∃ Q, W0.heap.size = Q := ⟨_, rfl⟩
 rw [hQ] at HQ HQR HM1 hs1 ⊢
 have HSZ : Hid (w.heap.size < R ∧ R < Q ∧ W1.heap.size = Q + 1) := ⟨by have := HRW.out; omega, HQR.out, hs1⟩
 clear hQ hs1 HA HB HR HRW HQR
 have y0 := (HB1.out).cell (i := 0) (v := .string m.label) rfl
 have y1 := (HB1.out).cell (i := 1) (v := .slice aum m.uses.length cum) rfl
 have y2 := (HB1.out).cell (i := 2) (v := .slice adm m.decls.length cdm) rfl
 have yl := (HB1.out).lt
 go_wp2
 clear y0 y1 y2 yl
 go_loopw [4] (fun iv wr => ∃ (i : Nat) (v : Value), i ≤ m.decls.length ∧ iv = .int .i64 i ∧ Hid (CBox wr Q 25 #[.string m.label, .slice aum m.uses.length cum, v]) ∧ Hid (OwnT wr (Q :: R :: X) W1.heap.size 46 11 declT v ((m.decls.take i).map oppD)) ∧ Hid (Mod [Q] W1 wr)) (fun iv _ => m.decls.length - (intOf iv).toNat)
 case atStart => exact ⟨0, .slice none 0 0, Nat.zero_le _, rfl, HQ, OwnT.nil _ _ _ _ _ _, Mod.refl _ _⟩
 case round =>
  obtain ⟨i, v, hil, rfl, HBX, HOW, HMD⟩ := hrel
  clear HQ
  have HMM : Hid (Mod (v.ownBlock.toList ++ (Q :: R :: X)) W1 wr) := HMD.out.mono (fun k hk => by rw [List.mem_singleton.1 hk]; exact List.mem_append_right _ (List.mem_cons_self ..))
  have HMr := Lib.hid ((HM1.out.owned v (fun g hg => HOW.out.ge hg)).mod HMM.out)
  have HBr : Hid (CBox wr B 25 #[.string m.label, .slice aum m.uses.length cum, .slice adm m.decls.length cdm]) := HB1.out.mod HMD.out (by have := HSZ.out; have := HBW.out; simp; omega)
  have y2 := HBr.out.cell (i := 2) (v := .slice adm m.decls.length cdm) rfl
  have yl := HBr.out.lt
  by_cases hi : i < m.decls.length
  ·have hd : decide ((i : Int) < (m.decls.length : Int)) = true := decide_eq_true (by omega)
   have hir : (i : Int) < (m.decls.length : Int) := by omega
   obtain ⟨d, hdi⟩ : ∃ d, m.decls[i]? = some d := ⟨_, List.getElem?_eq_getElem hi⟩
   obtain ⟨db, dx, and, cnd, asd, csd, rfl, hdb, hdc, h1, h2, h3, h4, h5, h6⟩ := decls_elem HMr.out.decls hdi
   have HDX : Hid (DecX wr (v.ownBlock.toList ++ (Q :: R :: X)) d and cnd asd csd) := ⟨h3.out, h6.out, h1, h2, h4, h5⟩
   have HON := Lib.hid (oppD_next hdi)
   have HLN : Hid (((m.decls.take i).map oppD).length ≤ 1000000) := by show _ ≤ _; rw [List.length_map, List.length_take]; omega
   have HSD : Hid (d.names.length ≤ 1000000 ∧ nodesN d.body ≤ 1000000) := HS.out d (List.mem_of_getElem? hdi)
   clear hdi h3 h6
   have c0 := hdc 0 (.int .i64 d.id) rfl
   have c1 := hdc 1 (.int .i64 d.kind) rfl
   have c2 := hdc 2 (.bool d.pub) rfl
   have c3 := hdc 3 (.slice and d.names.length cnd) rfl
   have c4 := hdc 4 (.bool d.doubt) rfl
   have c5 := hdc 5 (.int .i64 d.body.kind) rfl
   have c6 := hdc 6 (.string d.body.name) rfl
   have c7 := hdc 7 (.string d.body.more) rfl
   have c8 := hdc 8 (.int .i64 d.body.num) rfl
   have c9 := hdc 9 (.int .i64 d.body.den) rfl
   have c10 := hdc 10 (.slice asd d.body.subs.length csd) rfl
   rw [Nat.add_zero] at c0
   clear hdc
   have hal := qalloc wr (.cells #[.int .i64 d.id, .int .i64 d.kind, .bool d.pub, .slice and d.names.length cnd, .bool d.doubt, .int .i64 d.body.kind, .string d.body.name, .string d.body.more, .int .i64 d.body.num, .int .i64 d.body.den, .slice asd d.body.subs.length csd] 46)
   have HN := Lib.hid (CBox.new wr 46 #[.int .i64 d.id, .int .i64 d.kind, .bool d.pub, .slice and d.names.length cnd, .bool d.doubt, .int .i64 d.body.kind, .string d.body.name, .string d.body.more, .int .i64 d.body.num, .int .i64 d.body.den, .slice asd d.body.subs.length csd])
   have HBX2 := Lib.hid (HBX.out.below hal)
   have HOW2 := Lib.hid ((HOW.out.more (k := wr.heap.size) (Nat.le_refl _)).below hal)
   have HMD2 : Hid (Mod [Q] W1 _) := HMD.out.trans (Mod.of hal)
   have HDX2 := Lib.hid (HDX.out.below hal)
   have HDN := Lib.hid ((HDX.out.more (k := wr.heap.size) (Nat.le_refl _)).below hal)
   have HNL : Hid (W1.heap.size ≤ wr.heap.size ∧ ∀ k, k ∈ v.ownBlock.toList ++ (Q :: R :: X) → k < wr.heap.size) := ⟨HMD.out.size, fun k hk => by
    rcases List.mem_append.1 hk with hk | hk
    ·exact HOW.out.lt (by simpa using hk)
    ·have h1 := HMD.out.size
     have h9 := HSZ.out
     rcases List.mem_cons.1 hk with rfl | hk
     ·omega
     ·rcases List.mem_cons.1 hk with rfl | hk
      ·omega
      ·have h2 := HX.out k hk; omega⟩
   clear hal
   go_upto_region 6 with (fail)
   clear c0 c1 c2 c3 c4 c5 c6 c7 c8 c9 c10 hdb y2 yl HBr
   generalize wr.alloc (.cells #[.int .i64 d.id, .int .i64 d.kind, .bool d.pub, .slice and d.names.length cnd, .bool d.doubt, .int .i64 d.body.kind, .string d.body.name, .string d.body.more, .int .i64 d.body.num, .int .i64 d.body.den, .slice asd d.body.subs.length csd] 46) = wc at *
   generalize wr.heap.size = N at *
   clear HBX HOW HMD HMM HMr HDX
   have n3 := HN.out.cell (i := 3) (v := .slice and d.names.length cnd) rfl
   have nl := HN.out.lt
   by_cases h3 : d.names.length = 3
   ·have h3d : ((d.names.length : Int) == 3) = true := by simp [h3]
    have hl3 : 3 ≤ d.names.length := Nat.le_of_eq h3.symm
    have H3 := Lib.hid h3
    clear h3
    obtain ⟨p, q, r, hL⟩ : ∃ p q r, d.names = [p, q, r] := by
     have h3 := H3.out
     match d.names, h3 with
     | [p, q, r], _ => exact ⟨p, q, r, rfl⟩
    have HLL := Lib.hid hL
    have hst := (reads_strs.1 HDX2.out.names).1
    obtain ⟨b1, o1, e1, hb1, c0⟩ := strs_at hst (i := 0) (s := p) (by rw [hL]; rfl)
    obtain ⟨b2, o2, e2, hb2, c1⟩ := strs_at hst (i := 1) (s := q) (by rw [hL]; rfl)
    obtain ⟨b3, o3, e3, hb3, c2⟩ := strs_at hst (i := 2) (s := r) (by rw [hL]; rfl)
    subst e1
    cases e2
    cases e3
    clear hst hL hb2 hb3
    go_upto_region 7 with (fail)
    rw [Nat.add_zero] at c0
    have SW : Hid (∀ W : World, Below wc.heap.size wc W → (W.cell? ⟨N, 3, none⟩ = some (.slice (some ⟨b1, o1, none⟩) d.names.length cnd) ∧ N < W.heap.size ∧ b1 < W.heap.size ∧ W.cell? ⟨b1, o1, none⟩ = some (.string p) ∧ W.cell? ⟨b1, o1 + 1, none⟩ = some (.string q) ∧ W.cell? ⟨b1, o1 + 2, none⟩ = some (.string r))) := Lib.hid (fun W hW => ⟨(hW.cell (p := ⟨N, _, none⟩) nl).trans n3, Nat.lt_of_lt_of_le nl hW.size, Nat.lt_of_lt_of_le hb1 hW.size, (hW.cell (p := ⟨b1, _, none⟩) hb1).trans c0, (hW.cell (p := ⟨b1, _, none⟩) hb1).trans c1, (hW.cell (p := ⟨b1, _, none⟩) hb1).trans c2⟩)
    have hnl := nl
    clear n3 nl h3d c0 c1 c2
    have hb0 : Below wc.heap.size wc wc.drew := (Mod.refl [] wc).drew.below
    refine wp_region_noPanic (region_planG (fun W : World => W.cell? ⟨N, 3, none⟩ = some (.slice (some ⟨b1, o1, none⟩) d.names.length cnd) ∧ N < W.heap.size ∧ b1 < W.heap.size ∧ W.cell? ⟨b1, o1, none⟩ = some (.string p) ∧ W.cell? ⟨b1, o1 + 1, none⟩ = some (.string q) ∧ W.cell? ⟨b1, o1 + 2, none⟩ = some (.string r)) 13 [(true, 0), (true, 1), (true, 2), (true, 3), (true, 4), (true, 5), (true, 6), (true, 7), (true, 8), (true, 9), (true, 10), (true, 11), (false, 12)] mixedK (by kernel_rfl) (fun _ _ _ _ _ h => h) (SW.out _ hb0) ?_)
    iterate 12 (refine planG_take (v := ?_) rfl (by rfl) ?_ ?_; rotate_left; (focus (intro wq hSw; (try dsimp only at hSw); go_simp; (try rw [if_pos (by first | omega | (intro h; simp [h] at hl3))]); (try with_reducible rfl))); (try simp only [List.getElem_toArray, List.getElem_cons_succ, List.getElem_cons_zero, Act.put, List.setIfInBounds_toArray, List.set_cons_zero, List.set_cons_succ]))
    generalize wc.drew = v0 at *
    have hbw := qtrans hb0 (qalloc v0 (.cells #[.string r, .string q, .string p] 9))
    have hyb := CBox.new v0 9 #[.string r, .string q, .string p]
    have hM : wc.heap.size ≤ v0.heap.size := hb0.size
    (refine planG_one rfl (by rfl) (fun K hK => ?_); go_simp)
    refine hK.out _ _ (SW.out _ hbw) ?_; clear hK K; (try simp only [List.getElem_toArray, List.getElem_cons_succ, List.getElem_cons_zero, Act.put, List.setIfInBounds_toArray, List.set_cons_zero, List.set_cons_succ])
    refine planG_end ?_
    simp only [List.drop_succ_cons, List.drop_zero]
    generalize v0.alloc (.cells #[.string r, .string q, .string p] 9) = v1 at *
    generalize v0.heap.size = M at *
    have HN1 := Lib.hid (HN.out.below hbw)
    have HB1b := Lib.hid (HBX2.out.below hbw)
    have HO1 := Lib.hid (HOW2.out.below hbw)
    have HM1b : Hid (Mod [Q] W1 v1) := HMD2.out.trans (Mod.of hbw)
    have HD1 := Lib.hid (HDN.out.below hbw)
    have HYB := Lib.hid hyb
    have HMN : Hid (N < M) := Nat.lt_of_lt_of_le hnl hM
    clear hyb hbw hb0 hM SW hnl HN HBX2 HOW2 HMD2 HDN HDX2
    have n3 := HN1.out.cell (i := 3) (v := .slice (some ⟨b1, o1, none⟩) d.names.length cnd) rfl
    have f3 := HN1.out.frozen 3
    have nl := HN1.out.lt
    go_wp2
    refine NoPanic.normal ?_
    clear n3 f3 nl
    have HN2 : Hid (CBox (v1.setCell ⟨N, 3, none⟩ (.slice (some ⟨M, 0, none⟩) 3 3)) N 46 #[.int .i64 d.id, .int .i64 d.kind, .bool d.pub, .slice (some ⟨M, 0, none⟩) 3 3, .bool d.doubt, .int .i64 d.body.kind, .string d.body.name, .string d.body.more, .int .i64 d.body.num, .int .i64 d.body.den, .slice asd d.body.subs.length csd]) := HN1.out.set 3 _
    have hm2 : Mod [N] v1 (v1.setCell ⟨N, 3, none⟩ (.slice (some ⟨M, 0, none⟩) 3 3)) := (Mod.refl [N] v1).setCell (p := ⟨N, 3, none⟩) (by simp) _
    generalize (v1.setCell ⟨N, 3, none⟩ (.slice (some ⟨M, 0, none⟩) 3 3)) = v2 at *
    have HB3 := Lib.hid (HB1b.out.mod hm2 (by have := HNL.out.1; have := HSZ.out; simp; omega))
    have HM3 : Hid (Mod [Q] W1 v2) := HM1b.out.after hm2 (fun g hg => by rw [List.mem_singleton.1 hg]; exact HNL.out.1)
    have hge3 : ∀ g, v.ownBlock = some g → g ∉ N :: (Q :: R :: X) := fun g hg hx => by
     have h1 := HO1.out.ge hg
     have h2 := HNL.out.2 g (List.mem_append_left _ (by simpa using hg))
     have h9 := HSZ.out
     rcases List.mem_cons.1 hx with rfl | hx
     ·omega
     ·rcases List.mem_cons.1 hx with rfl | hx
      ·omega
      ·rcases List.mem_cons.1 hx with rfl | hx
       ·omega
       ·have h3 := HX.out g hx; omega
    have HO3 := Lib.hid (HO1.out.mod (hm2.mono (fun k hk => by rw [List.mem_singleton.1 hk]; exact List.mem_cons_self ..)) hge3)
    have hm3 : Mod (N :: (v.ownBlock.toList ++ (Q :: R :: X))) v1 v2 := hm2.mono (fun k hk => by rw [List.mem_singleton.1 hk]; exact List.mem_cons_self ..)
    have hMX : M ∉ N :: (v.ownBlock.toList ++ (Q :: R :: X)) := fun h => by
     have h1 := HMN.out
     rcases List.mem_cons.1 h with h | h
     ·omega
     ·have h2 := HNL.out.2 M h; omega
    have hd3 := HD1.out.mod hm3
    have hnm := strs_box (ss := [r, q, p]) hMX (HYB.out.mod hm2 (fun h => hMX (by rw [List.mem_singleton.1 h]; exact List.mem_cons_self ..))) (by simp)
    have HD3 : Hid (DecX v2 (N :: (v.ownBlock.toList ++ (Q :: R :: X))) ⟨d.id, d.kind, d.pub, [r, q, p], d.doubt, d.body⟩ (some ⟨M, 0, none⟩) 3 asd csd) := ⟨hnm, hd3.subs, Nat.le_refl 3, by omega, hd3.hs1, hd3.hs2⟩
    clear hm2 hge3 hm3 hMX hd3 hnm HN1 HB1b HO1 HM1b HD1 HYB HMN
    have n0 := (HN2.out).cell (i := 0) (v := .int .i64 d.id) rfl
    have n1 := (HN2.out).cell (i := 1) (v := .int .i64 d.kind) rfl
    have n2 := (HN2.out).cell (i := 2) (v := .bool d.pub) rfl
    have n3 := (HN2.out).cell (i := 3) (v := .slice (some ⟨M, 0, none⟩) 3 3) rfl
    have n4 := (HN2.out).cell (i := 4) (v := .bool d.doubt) rfl
    have n5 := (HN2.out).cell (i := 5) (v := .int .i64 d.body.kind) rfl
    have n6 := (HN2.out).cell (i := 6) (v := .string d.body.name) rfl
    have n7 := (HN2.out).cell (i := 7) (v := .string d.body.more) rfl
    have n8 := (HN2.out).cell (i := 8) (v := .int .i64 d.body.num) rfl
    have n9 := (HN2.out).cell (i := 9) (v := .int .i64 d.body.den) rfl
    have n10 := (HN2.out).cell (i := 10) (v := .slice asd d.body.subs.length csd) rfl
    have nl := (HN2.out).lt
    have HCA := Lib.hid (r32Opposite_any d.body asd csd (N :: (v.ownBlock.toList ++ (Q :: R :: X))) v2 (fun k hk => by
     have h1 := HN2.out.lt
     rcases List.mem_cons.1 hk with rfl | hk
     ·exact h1
     ·have h2 := HNL.out.2 k hk; omega) HD3.out.body HSD.out.2)
    unfold exV at HCA
    go_wp2_with (fail)
    refine HCA.out.mono ?_
    clear HCA
    rintro e wd ⟨ya, yc, rfl, hex, hbd⟩
    have HEX := Lib.hid hex
    have HND := Lib.hid (HN2.out.below hbd)
    have HDD := Lib.hid (HD3.out.below hbd)
    have HBD := Lib.hid (HB3.out.below hbd)
    have HOD := Lib.hid (HO3.out.below hbd)
    have HMM : Hid (Mod [Q] W1 wd) := HM3.out.trans (Mod.of hbd)
    clear hex hbd n0 n1 n2 n3 n4 n5 n6 n7 n8 n9 n10 nl
    have HOP : Hid (oppD d = ⟨d.id, d.kind, d.pub, [r, q, p], d.doubt, oppX d.body⟩) := by show _ = _; unfold oppD rev3S; simp [HLL.out]
    generalize oppX d.body = y at *
    have n0 := (HND.out).cell (i := 0) (v := .int .i64 d.id) rfl
    have fn0 := (HND.out).frozen 0
    have n1 := (HND.out).cell (i := 1) (v := .int .i64 d.kind) rfl
    have fn1 := (HND.out).frozen 1
    have n2 := (HND.out).cell (i := 2) (v := .bool d.pub) rfl
    have fn2 := (HND.out).frozen 2
    have n3 := (HND.out).cell (i := 3) (v := .slice (some ⟨M, 0, none⟩) 3 3) rfl
    have fn3 := (HND.out).frozen 3
    have n4 := (HND.out).cell (i := 4) (v := .bool d.doubt) rfl
    have fn4 := (HND.out).frozen 4
    have n5 := (HND.out).cell (i := 5) (v := .int .i64 d.body.kind) rfl
    have fn5 := (HND.out).frozen 5
    have n6 := (HND.out).cell (i := 6) (v := .string d.body.name) rfl
    have fn6 := (HND.out).frozen 6
    have n7 := (HND.out).cell (i := 7) (v := .string d.body.more) rfl
    have fn7 := (HND.out).frozen 7
    have n8 := (HND.out).cell (i := 8) (v := .int .i64 d.body.num) rfl
    have fn8 := (HND.out).frozen 8
    have n9 := (HND.out).cell (i := 9) (v := .int .i64 d.body.den) rfl
    have fn9 := (HND.out).frozen 9
    have n10 := (HND.out).cell (i := 10) (v := .slice asd d.body.subs.length csd) rfl
    have fn10 := (HND.out).frozen 10
    have nl := (HND.out).lt
    go_upto_region 9 with (fail)
    clear n0 n1 n2 n3 n4 n5 n6 n7 n8 n9 n10 fn0 fn1 fn2 fn3 fn4 fn5 fn6 fn7 fn8 fn9 fn10 nl
    have HN6 : Hid (CBox ((((((wd.setCell ⟨N, 5, none⟩ (.int .i64 y.kind)).setCell ⟨N, 6, none⟩ (.string y.name)).setCell ⟨N, 7, none⟩ (.string y.more)).setCell ⟨N, 8, none⟩ (.int .i64 y.num)).setCell ⟨N, 9, none⟩ (.int .i64 y.den)).setCell ⟨N, 10, none⟩ (.slice ya y.subs.length yc)) N 46 #[.int .i64 d.id, .int .i64 d.kind, .bool d.pub, .slice (some ⟨M, 0, none⟩) 3 3, .bool d.doubt, .int .i64 y.kind, .string y.name, .string y.more, .int .i64 y.num, .int .i64 y.den, .slice ya y.subs.length yc]) := ((((((HND.out.set 5 _).set 6 _).set 7 _).set 8 _).set 9 _).set 10 _)
    have hm6 : Mod [N] wd ((((((wd.setCell ⟨N, 5, none⟩ (.int .i64 y.kind)).setCell ⟨N, 6, none⟩ (.string y.name)).setCell ⟨N, 7, none⟩ (.string y.more)).setCell ⟨N, 8, none⟩ (.int .i64 y.num)).setCell ⟨N, 9, none⟩ (.int .i64 y.den)).setCell ⟨N, 10, none⟩ (.slice ya y.subs.length yc)) := (((((((Mod.refl [N] wd).setCell (p := ⟨N, 5, none⟩) (by simp) _).setCell (p := ⟨N, 6, none⟩) (by simp) _).setCell (p := ⟨N, 7, none⟩) (by simp) _).setCell (p := ⟨N, 8, none⟩) (by simp) _).setCell (p := ⟨N, 9, none⟩) (by simp) _).setCell (p := ⟨N, 10, none⟩) (by simp) _)
    generalize ((((((wd.setCell ⟨N, 5, none⟩ (.int .i64 y.kind)).setCell ⟨N, 6, none⟩ (.string y.name)).setCell ⟨N, 7, none⟩ (.string y.more)).setCell ⟨N, 8, none⟩ (.int .i64 y.num)).setCell ⟨N, 9, none⟩ (.int .i64 y.den)).setCell ⟨N, 10, none⟩ (.slice ya y.subs.length yc)) = we at *
    have HB6 := Lib.hid (HBD.out.mod hm6 (by have := HNL.out.1; have := HSZ.out; simp; omega))
    have HM6 : Hid (Mod [Q] W1 we) := HMM.out.after hm6 (fun g hg => by rw [List.mem_singleton.1 hg]; exact HNL.out.1)
    have hge6 : ∀ g, v.ownBlock = some g → g ∉ N :: (Q :: R :: X) := fun g hg hx => by
     have h1 := HOD.out.ge hg
     have h2 := HNL.out.2 g (List.mem_append_left _ (by simpa using hg))
     have h9 := HSZ.out
     rcases List.mem_cons.1 hx with rfl | hx
     ·omega
     ·rcases List.mem_cons.1 hx with rfl | hx
      ·omega
      ·rcases List.mem_cons.1 hx with rfl | hx
       ·omega
       ·have h3 := HX.out g hx; omega
    have HO6 := Lib.hid ((HOD.out.mod (hm6.mono (fun k hk => by rw [List.mem_singleton.1 hk]; exact List.mem_cons_self ..)) hge6).fewer (Y := Q :: R :: X) (fun k hk => List.mem_cons_of_mem _ hk))
    have hm7 : Mod (N :: (v.ownBlock.toList ++ (Q :: R :: X))) wd we := hm6.mono (fun k hk => by rw [List.mem_singleton.1 hk]; exact List.mem_cons_self ..)
    have hd7 := (HDD.out.mod hm7).fewer (Y := v.ownBlock.toList ++ (Q :: R :: X)) (fun k hk => List.mem_cons_of_mem _ hk)
    have hx7 := (HEX.out.mod hm7).fewer (Y := v.ownBlock.toList ++ (Q :: R :: X)) (fun k hk => List.mem_cons_of_mem _ hk)
    have HD6 : Hid (DecX we (v.ownBlock.toList ++ (Q :: R :: X)) ⟨d.id, d.kind, d.pub, [r, q, p], d.doubt, y⟩ (some ⟨M, 0, none⟩) 3 ya yc) := ⟨hd7.names, hx7.subs, hd7.hn1, hd7.hn2, hx7.h1, hx7.h2⟩
    clear hge6 hm7 hd7 hx7 hm6 HND HDD HBD HOD HMM HEX
    obtain ⟨av, cv, hve, -, -⟩ := HO6.out.val
    have HVE := Lib.hid hve
    clear hve
    have k2 := HB6.out.cell (i := 2) (v := v) rfl
    have kl := HB6.out.lt
    have n0 := (HN6.out).cell (i := 0) (v := .int .i64 d.id) rfl
    have n1 := (HN6.out).cell (i := 1) (v := .int .i64 d.kind) rfl
    have n2 := (HN6.out).cell (i := 2) (v := .bool d.pub) rfl
    have n3 := (HN6.out).cell (i := 3) (v := .slice (some ⟨M, 0, none⟩) 3 3) rfl
    have n4 := (HN6.out).cell (i := 4) (v := .bool d.doubt) rfl
    have n5 := (HN6.out).cell (i := 5) (v := .int .i64 y.kind) rfl
    have n6 := (HN6.out).cell (i := 6) (v := .string y.name) rfl
    have n7 := (HN6.out).cell (i := 7) (v := .string y.more) rfl
    have n8 := (HN6.out).cell (i := 8) (v := .int .i64 y.num) rfl
    have n9 := (HN6.out).cell (i := 9) (v := .int .i64 y.den) rfl
    have n10 := (HN6.out).cell (i := 10) (v := .slice ya y.subs.length yc) rfl
    have nl := (HN6.out).lt
    have hal := qalloc we (.cells #[.int .i64 d.id, .int .i64 d.kind, .bool d.pub, .slice (some ⟨M, 0, none⟩) 3 3, .bool d.doubt, .int .i64 y.kind, .string y.name, .string y.more, .int .i64 y.num, .int .i64 y.den, .slice ya y.subs.length yc] 46)
    have HRB := Lib.hid (CBox.new we 46 #[.int .i64 d.id, .int .i64 d.kind, .bool d.pub, .slice (some ⟨M, 0, none⟩) 3 3, .bool d.doubt, .int .i64 y.kind, .string y.name, .string y.more, .int .i64 y.num, .int .i64 y.den, .slice ya y.subs.length yc])
    have HOA := Lib.hid (HO6.out.below hal)
    have HBA := Lib.hid (HB6.out.below hal)
    have HDA := Lib.hid (HD6.out.below hal)
    have HMA : Hid (Mod [Q] W1 (we.alloc (.cells #[.int .i64 d.id, .int .i64 d.kind, .bool d.pub, .slice (some ⟨M, 0, none⟩) 3 3, .bool d.doubt, .int .i64 y.kind, .string y.name, .string y.more, .int .i64 y.num, .int .i64 y.den, .slice ya y.subs.length yc] 46))) := HM6.out.trans (Mod.of hal)
    have hsz : W1.heap.size ≤ (we.alloc (.cells #[.int .i64 d.id, .int .i64 d.kind, .bool d.pub, .slice (some ⟨M, 0, none⟩) 3 3, .bool d.doubt, .int .i64 y.kind, .string y.name, .string y.more, .int .i64 y.num, .int .i64 y.den, .slice ya y.subs.length yc] 46)).heap.size := HMA.out.size
    have hlen := HLN.out
    have HQ9 : Hid (Q < W1.heap.size) := by have := HSZ.out; show _ < _; omega
    clear hal
    go_wp2_with (at_builtin; refine wpList_decl (v := v) (X := Q :: R :: X) (L := (m.decls.take i).map oppD) (B := we.heap.size) (d := ⟨d.id, d.kind, d.pub, [r, q, p], d.doubt, y⟩) (an := (some ⟨M, 0, none⟩)) (cn := 3) (sa := ya) (cs := yc) rfl _ _ rfl rfl HOA.out rfl HRB.out HDA.out (by omega) hsz ?_; rintro v' w' ho7 hm7 ⟨a7, c7, hv7⟩ hb7; have HB7 := Lib.hid (HBA.out.mod hm7 (fun hk => by have h1 := HOA.out.ge (by simpa using hk : v.ownBlock = some Q); have h2 := HQ9.out; omega)); have HM7 : Hid (Mod [Q] W1 w') := HMA.out.after hm7 (fun g hg => HOA.out.ge (by simpa using hg)); have k2 := HB7.out.cell (i := 2) (v := v) rfl; have kf := HB7.out.frozen 2; have kl := HB7.out.lt; have HO7 := Lib.hid ho7; clear ho7 hm7)
    have hmin : ((m.decls.take i).map oppD).length = i := by rw [List.length_map, List.length_take]; omega
    have hvv : v' = .slice a7 (i + 1) c7 := by rw [hv7, List.length_append, hmin]; rfl
    rw [← hvv]
    have hge : ∀ g, v'.ownBlock = some g → g ∉ Q :: R :: X := fun g hg hx => by
     have h1 := HO7.out.ge hg
     have h9 := HSZ.out
     rcases List.mem_cons.1 hx with rfl | hx
     ·omega
     ·rcases List.mem_cons.1 hx with rfl | hx
      ·omega
      ·have h2 := HX.out g hx; omega
    refine ⟨⟨i + 1, v', by omega, rfl, HB7.out.set 2 v', ?_, HM7.out.trans ((Mod.refl [Q] w').setCell (by simp) v')⟩, by simp [intOf]; omega⟩
    show OwnT _ _ _ _ _ _ _ _
    rw [HON.out, HOP.out]
    exact HO7.out.mod ((Mod.refl (Q :: R :: X) w').setCell (by simp) v') hge
   ·have h3d : ((d.names.length : Int) == 3) = false := by simp; omega
    have H3 := Lib.hid h3
    clear h3
    go_upto_region 8 with (fail)
    clear n3 nl
    have n0 := (HN.out).cell (i := 0) (v := .int .i64 d.id) rfl
    have n1 := (HN.out).cell (i := 1) (v := .int .i64 d.kind) rfl
    have n2 := (HN.out).cell (i := 2) (v := .bool d.pub) rfl
    have n3 := (HN.out).cell (i := 3) (v := .slice and d.names.length cnd) rfl
    have n4 := (HN.out).cell (i := 4) (v := .bool d.doubt) rfl
    have n5 := (HN.out).cell (i := 5) (v := .int .i64 d.body.kind) rfl
    have n6 := (HN.out).cell (i := 6) (v := .string d.body.name) rfl
    have n7 := (HN.out).cell (i := 7) (v := .string d.body.more) rfl
    have n8 := (HN.out).cell (i := 8) (v := .int .i64 d.body.num) rfl
    have n9 := (HN.out).cell (i := 9) (v := .int .i64 d.body.den) rfl
    have n10 := (HN.out).cell (i := 10) (v := .slice asd d.body.subs.length csd) rfl
    have nl := (HN.out).lt
    have HCA := Lib.hid (r32Opposite_any d.body asd csd (N :: (v.ownBlock.toList ++ (Q :: R :: X))) wc (fun k hk => by
     have h1 := HN.out.lt
     rcases List.mem_cons.1 hk with rfl | hk
     ·exact h1
     ·have h2 := HNL.out.2 k hk; omega) HDN.out.body HSD.out.2)
    unfold exV at HCA
    go_wp2_with (fail)
    refine HCA.out.mono ?_
    clear HCA
    rintro e wd ⟨ya, yc, rfl, hex, hbd⟩
    have HEX := Lib.hid hex
    have HND := Lib.hid (HN.out.below hbd)
    have HDD := Lib.hid (HDN.out.below hbd)
    have HBD := Lib.hid (HBX2.out.below hbd)
    have HOD := Lib.hid (HOW2.out.below hbd)
    have HMM : Hid (Mod [Q] W1 wd) := HMD2.out.trans (Mod.of hbd)
    clear hex hbd n0 n1 n2 n3 n4 n5 n6 n7 n8 n9 n10 nl
    have HOP : Hid (oppD d = ⟨d.id, d.kind, d.pub, d.names, d.doubt, oppX d.body⟩) := by show _ = _; unfold oppD rev3S; simp [H3.out]
    generalize oppX d.body = y at *
    have n0 := (HND.out).cell (i := 0) (v := .int .i64 d.id) rfl
    have fn0 := (HND.out).frozen 0
    have n1 := (HND.out).cell (i := 1) (v := .int .i64 d.kind) rfl
    have fn1 := (HND.out).frozen 1
    have n2 := (HND.out).cell (i := 2) (v := .bool d.pub) rfl
    have fn2 := (HND.out).frozen 2
    have n3 := (HND.out).cell (i := 3) (v := .slice and d.names.length cnd) rfl
    have fn3 := (HND.out).frozen 3
    have n4 := (HND.out).cell (i := 4) (v := .bool d.doubt) rfl
    have fn4 := (HND.out).frozen 4
    have n5 := (HND.out).cell (i := 5) (v := .int .i64 d.body.kind) rfl
    have fn5 := (HND.out).frozen 5
    have n6 := (HND.out).cell (i := 6) (v := .string d.body.name) rfl
    have fn6 := (HND.out).frozen 6
    have n7 := (HND.out).cell (i := 7) (v := .string d.body.more) rfl
    have fn7 := (HND.out).frozen 7
    have n8 := (HND.out).cell (i := 8) (v := .int .i64 d.body.num) rfl
    have fn8 := (HND.out).frozen 8
    have n9 := (HND.out).cell (i := 9) (v := .int .i64 d.body.den) rfl
    have fn9 := (HND.out).frozen 9
    have n10 := (HND.out).cell (i := 10) (v := .slice asd d.body.subs.length csd) rfl
    have fn10 := (HND.out).frozen 10
    have nl := (HND.out).lt
    go_upto_region 9 with (fail)
    clear n0 n1 n2 n3 n4 n5 n6 n7 n8 n9 n10 fn0 fn1 fn2 fn3 fn4 fn5 fn6 fn7 fn8 fn9 fn10 nl
    have HN6 : Hid (CBox ((((((wd.setCell ⟨N, 5, none⟩ (.int .i64 y.kind)).setCell ⟨N, 6, none⟩ (.string y.name)).setCell ⟨N, 7, none⟩ (.string y.more)).setCell ⟨N, 8, none⟩ (.int .i64 y.num)).setCell ⟨N, 9, none⟩ (.int .i64 y.den)).setCell ⟨N, 10, none⟩ (.slice ya y.subs.length yc)) N 46 #[.int .i64 d.id, .int .i64 d.kind, .bool d.pub, .slice and d.names.length cnd, .bool d.doubt, .int .i64 y.kind, .string y.name, .string y.more, .int .i64 y.num, .int .i64 y.den, .slice ya y.subs.length yc]) := ((((((HND.out.set 5 _).set 6 _).set 7 _).set 8 _).set 9 _).set 10 _)
    have hm6 : Mod [N] wd ((((((wd.setCell ⟨N, 5, none⟩ (.int .i64 y.kind)).setCell ⟨N, 6, none⟩ (.string y.name)).setCell ⟨N, 7, none⟩ (.string y.more)).setCell ⟨N, 8, none⟩ (.int .i64 y.num)).setCell ⟨N, 9, none⟩ (.int .i64 y.den)).setCell ⟨N, 10, none⟩ (.slice ya y.subs.length yc)) := (((((((Mod.refl [N] wd).setCell (p := ⟨N, 5, none⟩) (by simp) _).setCell (p := ⟨N, 6, none⟩) (by simp) _).setCell (p := ⟨N, 7, none⟩) (by simp) _).setCell (p := ⟨N, 8, none⟩) (by simp) _).setCell (p := ⟨N, 9, none⟩) (by simp) _).setCell (p := ⟨N, 10, none⟩) (by simp) _)
    generalize ((((((wd.setCell ⟨N, 5, none⟩ (.int .i64 y.kind)).setCell ⟨N, 6, none⟩ (.string y.name)).setCell ⟨N, 7, none⟩ (.string y.more)).setCell ⟨N, 8, none⟩ (.int .i64 y.num)).setCell ⟨N, 9, none⟩ (.int .i64 y.den)).setCell ⟨N, 10, none⟩ (.slice ya y.subs.length yc)) = we at *
    have HB6 := Lib.hid (HBD.out.mod hm6 (by have := HNL.out.1; have := HSZ.out; simp; omega))
    have HM6 : Hid (Mod [Q] W1 we) := HMM.out.after hm6 (fun g hg => by rw [List.mem_singleton.1 hg]; exact HNL.out.1)
    have hge6 : ∀ g, v.ownBlock = some g → g ∉ N :: (Q :: R :: X) := fun g hg hx => by
     have h1 := HOD.out.ge hg
     have h2 := HNL.out.2 g (List.mem_append_left _ (by simpa using hg))
     have h9 := HSZ.out
     rcases List.mem_cons.1 hx with rfl | hx
     ·omega
     ·rcases List.mem_cons.1 hx with rfl | hx
      ·omega
      ·rcases List.mem_cons.1 hx with rfl | hx
       ·omega
       ·have h3 := HX.out g hx; omega
    have HO6 := Lib.hid ((HOD.out.mod (hm6.mono (fun k hk => by rw [List.mem_singleton.1 hk]; exact List.mem_cons_self ..)) hge6).fewer (Y := Q :: R :: X) (fun k hk => List.mem_cons_of_mem _ hk))
    have hm7 : Mod (N :: (v.ownBlock.toList ++ (Q :: R :: X))) wd we := hm6.mono (fun k hk => by rw [List.mem_singleton.1 hk]; exact List.mem_cons_self ..)
    have hd7 := (HDD.out.mod hm7).fewer (Y := v.ownBlock.toList ++ (Q :: R :: X)) (fun k hk => List.mem_cons_of_mem _ hk)
    have hx7 := (HEX.out.mod hm7).fewer (Y := v.ownBlock.toList ++ (Q :: R :: X)) (fun k hk => List.mem_cons_of_mem _ hk)
    have HD6 : Hid (DecX we (v.ownBlock.toList ++ (Q :: R :: X)) ⟨d.id, d.kind, d.pub, d.names, d.doubt, y⟩ and cnd ya yc) := ⟨hd7.names, hx7.subs, hd7.hn1, hd7.hn2, hx7.h1, hx7.h2⟩
    clear hge6 hm7 hd7 hx7 hm6 HND HDD HBD HOD HMM HEX
    obtain ⟨av, cv, hve, -, -⟩ := HO6.out.val
    have HVE := Lib.hid hve
    clear hve
    have k2 := HB6.out.cell (i := 2) (v := v) rfl
    have kl := HB6.out.lt
    have n0 := (HN6.out).cell (i := 0) (v := .int .i64 d.id) rfl
    have n1 := (HN6.out).cell (i := 1) (v := .int .i64 d.kind) rfl
    have n2 := (HN6.out).cell (i := 2) (v := .bool d.pub) rfl
    have n3 := (HN6.out).cell (i := 3) (v := .slice and d.names.length cnd) rfl
    have n4 := (HN6.out).cell (i := 4) (v := .bool d.doubt) rfl
    have n5 := (HN6.out).cell (i := 5) (v := .int .i64 y.kind) rfl
    have n6 := (HN6.out).cell (i := 6) (v := .string y.name) rfl
    have n7 := (HN6.out).cell (i := 7) (v := .string y.more) rfl
    have n8 := (HN6.out).cell (i := 8) (v := .int .i64 y.num) rfl
    have n9 := (HN6.out).cell (i := 9) (v := .int .i64 y.den) rfl
    have n10 := (HN6.out).cell (i := 10) (v := .slice ya y.subs.length yc) rfl
    have nl := (HN6.out).lt
    have hal := qalloc we (.cells #[.int .i64 d.id, .int .i64 d.kind, .bool d.pub, .slice and d.names.length cnd, .bool d.doubt, .int .i64 y.kind, .string y.name, .string y.more, .int .i64 y.num, .int .i64 y.den, .slice ya y.subs.length yc] 46)
    have HRB := Lib.hid (CBox.new we 46 #[.int .i64 d.id, .int .i64 d.kind, .bool d.pub, .slice and d.names.length cnd, .bool d.doubt, .int .i64 y.kind, .string y.name, .string y.more, .int .i64 y.num, .int .i64 y.den, .slice ya y.subs.length yc])
    have HOA := Lib.hid (HO6.out.below hal)
    have HBA := Lib.hid (HB6.out.below hal)
    have HDA := Lib.hid (HD6.out.below hal)
    have HMA : Hid (Mod [Q] W1 (we.alloc (.cells #[.int .i64 d.id, .int .i64 d.kind, .bool d.pub, .slice and d.names.length cnd, .bool d.doubt, .int .i64 y.kind, .string y.name, .string y.more, .int .i64 y.num, .int .i64 y.den, .slice ya y.subs.length yc] 46))) := HM6.out.trans (Mod.of hal)
    have hsz : W1.heap.size ≤ (we.alloc (.cells #[.int .i64 d.id, .int .i64 d.kind, .bool d.pub, .slice and d.names.length cnd, .bool d.doubt, .int .i64 y.kind, .string y.name, .string y.more, .int .i64 y.num, .int .i64 y.den, .slice ya y.subs.length yc] 46)).heap.size := HMA.out.size
    have hlen := HLN.out
    have HQ9 : Hid (Q < W1.heap.size) := by have := HSZ.out; show _ < _; omega
    clear hal
    go_wp2_with (at_builtin; refine wpList_decl (v := v) (X := Q :: R :: X) (L := (m.decls.take i).map oppD) (B := we.heap.size) (d := ⟨d.id, d.kind, d.pub, d.names, d.doubt, y⟩) (an := and) (cn := cnd) (sa := ya) (cs := yc) rfl _ _ rfl rfl HOA.out rfl HRB.out HDA.out (by omega) hsz ?_; rintro v' w' ho7 hm7 ⟨a7, c7, hv7⟩ hb7; have HB7 := Lib.hid (HBA.out.mod hm7 (fun hk => by have h1 := HOA.out.ge (by simpa using hk : v.ownBlock = some Q); have h2 := HQ9.out; omega)); have HM7 : Hid (Mod [Q] W1 w') := HMA.out.after hm7 (fun g hg => HOA.out.ge (by simpa using hg)); have k2 := HB7.out.cell (i := 2) (v := v) rfl; have kf := HB7.out.frozen 2; have kl := HB7.out.lt; have HO7 := Lib.hid ho7; clear ho7 hm7)
    have hmin : ((m.decls.take i).map oppD).length = i := by rw [List.length_map, List.length_take]; omega
    have hvv : v' = .slice a7 (i + 1) c7 := by rw [hv7, List.length_append, hmin]; rfl
    rw [← hvv]
    have hge : ∀ g, v'.ownBlock = some g → g ∉ Q :: R :: X := fun g hg hx => by
     have h1 := HO7.out.ge hg
     have h9 := HSZ.out
     rcases List.mem_cons.1 hx with rfl | hx
     ·omega
     ·rcases List.mem_cons.1 hx with rfl | hx
      ·omega
      ·have h2 := HX.out g hx; omega
    refine ⟨⟨i + 1, v', by omega, rfl, HB7.out.set 2 v', ?_, HM7.out.trans ((Mod.refl [Q] w').setCell (by simp) v')⟩, by simp [intOf]; omega⟩
    show OwnT _ _ _ _ _ _ _ _
    rw [HON.out, HOP.out]
    exact HO7.out.mod ((Mod.refl (Q :: R :: X) w').setCell (by simp) v') hge
  ·have hd : decide ((i : Int) < (m.decls.length : Int)) = false := decide_eq_false (by omega)
   have HOI := HOW.out
   rw [List.take_of_length_le (by omega)] at HOI
   have HRr : Hid (CBox wr R 25 #[.string ⟨#[]⟩, .slice none 0 0, .slice none 0 0]) := HR1.out.mod HMD.out (by have := HSZ.out; simp; omega)
   have HWr : Hid (Below w.heap.size w wr) := HW1.out.trans (HMD.out.upto HW1.out.size (fun k hk => by have := HSZ.out; simp at hk; omega))
   have HU := Lib.hid (HMr.out.uses.fewer (Y := R :: X) (fun k hk => List.mem_append_right _ (List.mem_cons_of_mem _ hk)))
   have HU2 : Hid (m.uses.length ≤ cum ∧ cum ≤ 9223372036854775807) := ⟨HMr.out.hu1, HMr.out.hu2⟩
   clear HOW HMM HMr
   generalize m.decls.map oppD = DD at *
   obtain ⟨av, cv, rfl, hav1, hav2⟩ := HOI.val
   have HOX := Lib.hid HOI
   clear HOI

   have k0 := (HBX.out).cell (i := 0) (v := .string m.label) rfl
   have k1 := (HBX.out).cell (i := 1) (v := .slice aum m.uses.length cum) rfl
   have k2 := (HBX.out).cell (i := 2) (v := .slice av DD.length cv) rfl
   have kl := (HBX.out).lt
   have o0 := (HRr.out).cell (i := 0) (v := .string ⟨#[]⟩) rfl
   have fo0 := (HRr.out).frozen 0
   have o1 := (HRr.out).cell (i := 1) (v := .slice none 0 0) rfl
   have fo1 := (HRr.out).frozen 1
   have o2 := (HRr.out).cell (i := 2) (v := .slice none 0 0) rfl
   have fo2 := (HRr.out).frozen 2
   have ol := (HRr.out).lt
   (try dsimp only)
   repeat (first | go_values | go_skip | go_guarded | go_step | go_upon | go_in)
   (try simp only [Exit.inBlock, Exit.then])
   clear o0 o1 o2 fo0 fo1 fo2 ol k0 k1 k2 kl y2 yl HBr
   obtain ⟨HC9, HM9⟩ := CBox.three (HRr.out) (.string m.label) (.slice aum m.uses.length cum) (.slice av DD.length cv)
   generalize (((wr.setCell ⟨R, 0, none⟩ (.string m.label)).setCell ⟨R, 1, none⟩ (.slice aum m.uses.length cum)).setCell ⟨R, 2, none⟩ (.slice av DD.length cv)) = WZ at *
   have r0 := HC9.cell (i := 0) (v := .string m.label) rfl
   have r1 := HC9.cell (i := 1) (v := .slice aum m.uses.length cum) rfl
   have r2 := HC9.cell (i := 2) (v := .slice av DD.length cv) rfl
   refine bodyPost_ret (by simp [results, Tryz.results19, go_sem, r0, r1, r2]; try rfl) rfl ?_
   clear r0 r1 r2
   have hdZ : Below w.heap.size w WZ := HWr.out.trans (HM9.upto HWr.out.size (by intro k hk; simp at hk; have := HSZ.out; omega))
   have hmz : Mod (R :: X) wr WZ := HM9.mono (fun k hk => by rw [List.mem_singleton.1 hk]; exact List.mem_cons_self ..)
   have hge : ∀ g, (Value.slice av DD.length cv).ownBlock = some g → g ∉ R :: X := fun g hg hx => by
    have h1 := HOX.out.ge hg
    have h9 := HSZ.out
    rcases List.mem_cons.1 hx with rfl | hx
    ·omega
    ·have h2 := HX.out g hx; omega
   have hrd := (((HOX.out.fewer (Y := R :: X) (fun k hk => List.mem_cons_of_mem _ hk)).reads hge).mod hmz).fewer (Y := X) (fun k hk => List.mem_cons_of_mem _ hk)
   rw [HOE.out]
   exact ⟨av, cv, rfl, ⟨(HU.out.mod hmz).fewer (fun k hk => List.mem_cons_of_mem _ hk), hrd, HU2.out.1, HU2.out.2, hav1, hav2⟩, hdZ⟩
end Go.Proofs.YtlgnedahnaojlaaGreatDoor

