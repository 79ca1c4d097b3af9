/- The reference's ids of chapter 33. -/
import Derived.Test.YtlgnedahnaojlaaGreatDoorUYM
namespace Go.Proofs.YtlgnedahnaojlaaGreatDoor
open Go.RowKit Go.Shelf
attribute [local go_sem] Oper.semAt_some


def placeI (l : List Int) (x : Int) : Nat := (l.takeWhile fun y => decide (y < x)).length
theorem ins_parts (l : List Int) (x : Int) : l.takeWhile (fun y => decide (y < x)) = l.take (placeI l x) ∧ l.dropWhile (fun y => decide (y < x)) = l.drop (placeI l x) := by
 have h := List.takeWhile_append_dropWhile (p := fun y => decide (y < x)) (l := l); unfold placeI; generalize l.takeWhile (fun y => decide (y < x)) = t at *; generalize l.dropWhile (fun y => decide (y < x)) = d at *; subst h; exact ⟨by rw [List.take_left], by rw [List.drop_left]⟩
theorem insI_eq (l : List Int) (x : Int) : insI l x = if l[placeI l x]? = some x then l else l.take (placeI l x) ++ [x] ++ l.drop (placeI l x) := by
 obtain ⟨h1, h2⟩ := ins_parts l x; unfold insI; rw [h1, h2, List.head?_drop]
theorem place_le (l : List Int) (x : Int) : placeI l x ≤ l.length := by
 have h := congrArg List.length (List.takeWhile_append_dropWhile (p := fun y => decide (y < x)) (l := l)); rw [List.length_append] at h; unfold placeI; omega
theorem place_cons (a x : Int) (l : List Int) : placeI (a :: l) x = if a < x then placeI l x + 1 else 0 := by
 unfold placeI; rw [List.takeWhile_cons]
 by_cases h : a < x
 ·simp [h]
 ·simp [h]
theorem place_lt {x : Int} : ∀ {l : List Int} {k : Nat} {y : Int}, k < placeI l x → l[k]? = some y → y < x
 | [], k, y, h, _ => absurd h (Nat.not_lt_zero _)
 | a :: l, k, y, h, hy => by
  rw [place_cons] at h; split at h
  ·next ha =>
   cases k with
   | zero => injection hy with hy; omega
   | succ k => exact place_lt (l := l) (by omega) hy
  ·omega
theorem place_ge {x : Int} : ∀ {l : List Int} {y : Int}, l[placeI l x]? = some y → ¬ y < x
 | [], y, h => by simp at h
 | a :: l, y, h => by
  rw [place_cons] at h; split at h
  ·exact place_ge (l := l) h
  ·injection h with h; omega
theorem insI_len (l : List Int) (x : Int) : (insI l x).length ≤ l.length + 1 := by
 rw [insI_eq]; have := place_le l x; split
 ·omega
 ·simp only [List.length_append, List.length_take, List.length_drop, List.length_cons, List.length_nil]; omega
theorem idsD_len : ∀ (ds : List ODecl) (l : List Int), (idsD l ds).length ≤ l.length + ds.length
 | [], l => Nat.le_refl _
 | d :: ds, l => by
  have h1 := idsD_len ds (insI l d.id); have h2 := insI_len l d.id; show (idsD (insI l d.id) ds).length ≤ l.length + (ds.length + 1)
  omega
theorem idsD_take {l : List Int} {ds : List ODecl} {i : Nat} {d : ODecl} (h : ds[i]? = some d) : idsD l (ds.take (i + 1)) = insI (idsD l (ds.take i)) d.id := by
 rw [take_at h]; unfold idsD; rw [List.foldl_append]; rfl

structure RowI (w : World) (b o c : Nat) (l : List Int) : Prop where
 le : l.length ≤ c
 max : c ≤ maxLen
 cells : 0 < l.length → b < w.heap.size ∧ ∀ (j : Nat) (x : Int), l[j]? = some x → w.cell? ⟨b, o + j, none⟩ = some (.int .i64 x)
section
variable {w w' : World} {b o c : Nat} {l : List Int}
theorem RowI.below (h : RowI w b o c l) (m : Below w.heap.size w w') : RowI w' b o c l := ⟨h.le, h.max, fun h0 => ⟨Nat.lt_of_lt_of_le (h.cells h0).1 m.size, fun j x hj => (m.cell (p := ⟨b, o + j, none⟩) (h.cells h0).1).trans ((h.cells h0).2 j x hj)⟩⟩
theorem RowI.at_ (h : RowI w b o c l) {j : Nat} {x : Int} (hj : l[j]? = some x) : b < w.heap.size ∧ w.cell? ⟨b, o + j, none⟩ = some (.int .i64 x) := by
 have h0 : 0 < l.length := by have := (List.getElem?_eq_some_iff.1 hj).1; omega
 exact ⟨(h.cells h0).1, (h.cells h0).2 j x hj⟩
theorem RowI.take (h : RowI w b o c l) {k : Nat} (hk : k ≤ l.length) : IsRow w 1 (.slice (some ⟨b, o, none⟩) k c) k ((l.take k).map (Value.int .i64)) := by
 refine ⟨by rw [List.length_map, List.length_take]; omega, some ⟨b, o, none⟩, c, rfl, Nat.le_trans hk h.le, h.max, fun h0 => ⟨b, o, rfl, (h.cells (by omega)).1, fun j v hj => ?_⟩⟩; rw [List.getElem?_map] at hj; obtain ⟨x, hx, rfl⟩ := Option.map_eq_some_iff.1 hj; rw [List.getElem?_take] at hx; split at hx
 ·exact (h.cells (by omega)).2 j x hx
 ·cases hx
theorem RowI.drop (h : RowI w b o c l) {k : Nat} (_hk : k ≤ l.length) : IsRow w 1 (.slice (some ⟨b, o + k, none⟩) (l.length - k) (c - k)) (l.length - k) ((l.drop k).map (Value.int .i64)) := by
 refine ⟨by rw [List.length_map, List.length_drop, Nat.mul_one], some ⟨b, o + k, none⟩, c - k, rfl, by have := h.le; omega, by have := h.max; omega, fun h0 => ⟨b, o + k, rfl, (h.cells (by omega)).1, fun j v hj => ?_⟩⟩; rw [List.getElem?_map] at hj; obtain ⟨x, hx, rfl⟩ := Option.map_eq_some_iff.1 hj; rw [List.getElem?_drop] at hx; rw [Nat.add_assoc]; exact (h.cells (by omega)).2 _ x hx
theorem RowI.of {B n : Nat} {v : Value} (h : w.ownsRow B 3 1 v n (l.map (Value.int .i64))) (hn : n = l.length) (h0 : 0 < n) : ∃ b o c, v = .slice (some ⟨b, o, none⟩) l.length c ∧ RowI w b o c l := by
 obtain ⟨_, a, cap, e, h1, h2, h3⟩ := owns_row h; obtain ⟨b, o, rfl, hb, hc⟩ := h3 h0; subst hn; exact ⟨b, o, cap, e, h1, h2, fun _ => ⟨hb, fun j x hj => hc j _ (by rw [List.getElem?_map, hj]; rfl)⟩⟩
end
theorem ints_one (l : List Int) : ∀ u ∈ l.map (Value.int .i64), u.oneCell' = true := by
 intro u hu; obtain ⟨s, _, rfl⟩ := List.mem_map.1 hu; rfl
theorem infoIntI : (Tryz.prog.info? 3).map (fun i => (i.zero.map (fun z => z.cells.size), i.size, i.bytes)) = some (some 1, 1, 8) := by kernel_rfl
set_option maxRecDepth 100000 in
set_option maxHeartbeats 8000000 in
theorem r33ids_any (l : List Int) (m : OMod) (b o c : Nat) (aum adm : Option Addr) (cum cdm : Nat) (w : World) (hr : RowI w b o c l) (hm : ModIn w [] m aum cum adm cdm) (hl : l.length ≤ 1000) (hn : m.decls.length ≤ 1000) :
  Calls Tryz.prog 44 #[.slice (some ⟨b, o, none⟩) l.length c, modV m aum cum adm cdm] w fun e w' => ∃ b' o' c', e = .returned (.slice (some ⟨b', o', none⟩) (idsD l m.decls).length c') ∧ RowI w' b' o' c' (idsD l m.decls) ∧ Below w.heap.size w w' := by
 have HR := lH hr; have HMD := lH hm.decls; clear hr hm; obtain ⟨i0, z, hi0, hz0, hzs, hz1, hz2⟩ := info_parts' infoIntI; have HBX := lH (CBox.new w 25 #[.string m.label, .slice aum m.uses.length cum, .slice adm m.decls.length cdm]); have HA := lH (qalloc w (.cells #[.string m.label, .slice aum m.uses.length cum, .slice adm m.decls.length cdm] 25)); unfold modV
 go_enter Tryz.func44, Tryz.ntmps44
 go_upto_region 1 with (fail)
 generalize World.alloc w _ = W0 at *; have HR0 := lH (HR.out.below HA.out); have HMD0 := lH (HMD.out.below HA.out); obtain ⟨B, hB⟩ : ∃ B, w.heap.size = B := ⟨_, rfl⟩; rw [hB] at HBX ⊢; unfold Bw at HA; rw [hB] at HA; have HWB : Hid (w.heap.size = B) := hB; clear hB HR HMD; go_wp2
 go_loopw [0, 5] (fun av iv wr => ∃ i : Nat, i ≤ m.decls.length ∧ iv = .int .i64 i ∧ Hid (∃ b o c, av = .slice (some ⟨b, o, none⟩) (idsD l (m.decls.take i)).length c ∧ RowI wr b o c (idsD l (m.decls.take i))) ∧ Hid (Below W0.heap.size W0 wr)) (fun _ iv _ => m.decls.length - (intOf iv).toNat)
 case atStart => exact ⟨0, Nat.zero_le _, rfl, ⟨b, o, c, by rw [List.take_zero]; rfl, by rw [List.take_zero]; exact HR0.out⟩, qrefl _⟩
 case round =>
  obtain ⟨i, hil, rfl, HV, HBW⟩ := hrel; obtain ⟨vb, vo, vc, rfl, hrow⟩ := HV.out; have HRW := lH hrow; clear hrow HV HR0; have HBR := lH (HBX.out.below HBW.out); have HMR := lH (HMD0.out.below HBW.out); have hlen := idsD_len (m.decls.take i) l; rw [List.length_take] at hlen; obtain ⟨y0, y1, y2, yl⟩ := cells3 HBR.out
  by_cases hi : i < m.decls.length
  ·have hd : decide ((i : Int) < (m.decls.length : Int)) = true := decide_eq_true (by omega)
   have hir : (i : Int) < (m.decls.length : Int) := by omega
   obtain ⟨d, hdi⟩ : ∃ d, m.decls[i]? = some d := ⟨_, List.getElem?_eq_getElem hi⟩; have HTK := lH (idsD_take (l := l) hdi); obtain ⟨db, dx, and, cnd, asd, csd, rfl, hdb, hdc, -, -, -, -, -, -⟩ := decls_elem HMR.out hdi; have c0 := hdc 0 (.int .i64 d.id) rfl; rw [Nat.add_zero] at c0; clear hdc hdi; generalize d.id = x at *; generalize idsD l (m.decls.take i) = L at *; have hIE := insI_eq L x; have HPL := lH (fun k y => place_lt (l := L) (x := x) (k := k) (y := y)); have HPG := lH (fun y => place_ge (l := L) (x := x) (y := y)); have hp := place_le L x; generalize placeI L x = p at *
   have HIE := lH hIE; clear hIE; go_upto_region 6 with (fail)
   clear y0 y1 y2 yl c0 hdb
   go_loop [7] (fun iv => ∃ k : Nat, k ≤ p ∧ iv = .int .i64 k) (fun iv => p - (intOf iv).toNat)
   case atStart => exact ⟨0, Nat.zero_le _, rfl⟩
   case round =>
    obtain ⟨k, hk, rfl⟩ := hrel
    by_cases hkp : k < p
    ·have hd2 : decide ((k : Int) < (L.length : Int)) = true := decide_eq_true (by omega)
     have hkn : (k : Int) < (L.length : Int) := by omega
     obtain ⟨y, hy⟩ : ∃ y, L[k]? = some y := ⟨_, List.getElem?_eq_getElem (by omega)⟩; obtain ⟨hvb, hvc⟩ := HRW.out.at_ hy; have hlt : decide (y < x) = true := decide_eq_true (HPL.out k y hkp hy); clear hy; go_wp2
     go_round
     case rel => exact ⟨k + 1, by omega, by go_num⟩
     case measure => simp [intOf]; omega
    ·obtain rfl : k = p := by omega
     clear hkp hk
     by_cases hkl : k < L.length
     ·have hd2 : decide ((k : Int) < (L.length : Int)) = true := decide_eq_true (by omega)
      have hkn : (k : Int) < (L.length : Int) := by omega
      have hke : ((k : Int) == (L.length : Int)) = false := by simp; omega
      obtain ⟨y, hy⟩ : ∃ y, L[k]? = some y := ⟨_, List.getElem?_eq_getElem hkl⟩; obtain ⟨hvb, hvc⟩ := HRW.out.at_ hy; have hlt : decide (y < x) = false := decide_eq_false (Int.not_lt.2 (HPG.out y hy))
      by_cases hyx : y = x
      ·have hne : (y != x) = false := by simp [hyx]
       have HF : Hid (idsD l (m.decls.take (i + 1)) = L) := by show _ = _; rw [HTK.out, HIE.out, hy, hyx, if_pos rfl]
       clear hy hyx; go_wp2; go_roundw
       case rel => exact ⟨i + 1, by omega, by go_num, ⟨vb, vo, vc, by rw [HF.out], by rw [HF.out]; exact HRW.out⟩, HBW⟩
       case measure => simp [intOf]; omega
      ·have hne : (y != x) = true := by simp [hyx]
       have HF : Hid (idsD l (m.decls.take (i + 1)) = L.take k ++ [x] ++ L.drop k) := by show _ = _; rw [HTK.out, HIE.out, hy, if_neg (fun e => hyx (Option.some.inj e))]
       clear hy hyx; have hck : k < vc := by have := HRW.out.le; omega
       have hle := HRW.out.le; have hvmax := HRW.out.max; have hkc : (k : Int) ≤ (vc : Int) := by omega
       have hki : (k : Int) ≤ (L.length : Int) := by omega
       have hown0 : (wr.alloc (.cells #[] 3)).ownsRow wr.heap.size 3 1 (.slice (some ⟨wr.heap.size, 0, none⟩) 0 0) 0 [] := World.ownsRow_made wr #[] 0 (Nat.le_refl _) (Nat.zero_le _) rfl; have hA0 := qalloc wr (.cells #[] 3); have hTK := (HRW.out.below hA0).take (k := k) hp; go_wp2_with (at_builtin; refine wpList_append_row rfl _ _ 69 rfl wr.heap.size 3 i0 _ 1 8 Tryz.underlying69 hi0 hz0 hz1 hz2 hzs (by decide) _ _ _ rfl hown0 _ _ _ rfl hTK (ints_one _) (by unfold maxLen; omega) (by omega) (by simp) ?_)
       intro v1 w1 hown1 hg1 hb1; have hB1 : Below wr.heap.size wr w1 := hA0.grown hg1 (by simp) (fun k hk => by cases hk; exact Nat.le_refl _); obtain ⟨a1, c1, rfl⟩ := owns_val hown1; have hA1 := qalloc w1 (.cells #[.int .i64 x] 3); have hrow1 := owns_row (own_one w1 w1.heap.size (Nat.le_refl _) (.int .i64 x) 3); have hs1 := hB1.size
       go_wp2_with (at_builtin; refine wpList_append_row rfl _ _ 69 rfl wr.heap.size 3 i0 _ 1 8 Tryz.underlying69 hi0 hz0 hz1 hz2 hzs (by decide) _ _ _ rfl (hown1.alloc _) _ _ _ rfl hrow1 (by intro u hu; simp at hu; subst hu; rfl) (by unfold maxLen; omega) (by omega) (by simp; omega) ?_)
       intro v2 w2 hown2 hg2 hb2; have hB2 : Below wr.heap.size wr w2 := (hB1.trans (hA1.mono hB1.size)).grown hg2 (by simp; omega) (fun k hk => (hown1.lt k hk).1); obtain ⟨a2, c2, rfl⟩ := owns_val hown2; have hs2 := hB2.size; have hDw := (HRW.out.below hB2).drop (k := k) hp; go_wp2_with (at_builtin; refine wpList_append_row rfl _ _ 69 rfl wr.heap.size 3 i0 _ 1 8 Tryz.underlying69 hi0 hz0 hz1 hz2 hzs (by decide) _ _ _ rfl hown2 _ _ _ rfl hDw (ints_one _) (by unfold maxLen; omega) (by omega) (by omega) ?_)
       intro v3 w3 hown3 hg3 hb3; have hB3 : Below wr.heap.size wr w3 := hB2.grown hg3 hs2 (fun k hk => (hown2.lt k hk).1); have hlen3 : 0 + k + 1 + (L.length - k) = (L.take k ++ [x] ++ L.drop k).length := by simp; omega
       obtain ⟨b3, o3, c3, rfl, hrow3⟩ := RowI.of (l := L.take k ++ [x] ++ L.drop k) (by simpa using hown3) hlen3 (by omega); have HR3 := lH hrow3; have HB3 : Hid (Below W0.heap.size W0 w3) := HBW.out.trans (hB3.mono HBW.out.size); clear hrow3 hB3 hB2 hB1 hown1 hown2 hown3 hown0 hA0 hA1 hrow1 hTK hDw hg1 hg2 hg3 hb1 hb2 hb3
       (try rw [hlen3])
       go_wp2; go_roundw
       case rel => exact ⟨i + 1, by omega, by go_num, ⟨b3, o3, c3, by rw [HF.out], by rw [HF.out]; exact HR3.out⟩, HB3⟩
       case measure => simp [intOf]; omega
     ·have hvle := HRW.out.le
      have hd2 : decide ((k : Int) < (L.length : Int)) = false := decide_eq_false (by omega); obtain hkL : k = L.length := by omega
      have hkn : ¬ (k : Int) < (L.length : Int) := by omega
      have hke : ((k : Int) == (L.length : Int)) = true := by simp; omega
      have HF : Hid (idsD l (m.decls.take (i + 1)) = L.take k ++ [x] ++ L.drop k) := by show _ = _; rw [HTK.out, HIE.out, List.getElem?_eq_none (by omega), if_neg (fun e => by cases e)]
      have hkL2 : Hid (L.length - k = 0) := by show _ = _; omega
      have hdr : Hid (L.drop k = []) := List.drop_eq_nil_of_le (by omega); clear hkL
      by_cases hcl : vc = k
      ·subst vc
       have HF : Hid (idsD l (m.decls.take (i + 1)) = L.take k ++ [x] ++ []) := by show _ = _; rw [HF.out, hdr.out]
       have hle := HRW.out.le; have hvmax := HRW.out.max; have hkc : (k : Int) ≤ (k : Int) := by omega
       have hki : (k : Int) ≤ (L.length : Int) := by omega
       have hown0 : (wr.alloc (.cells #[] 3)).ownsRow wr.heap.size 3 1 (.slice (some ⟨wr.heap.size, 0, none⟩) 0 0) 0 [] := World.ownsRow_made wr #[] 0 (Nat.le_refl _) (Nat.zero_le _) rfl; have hA0 := qalloc wr (.cells #[] 3); have hTK := (HRW.out.below hA0).take (k := k) hp; go_wp2_with (at_builtin; refine wpList_append_row rfl _ _ 69 rfl wr.heap.size 3 i0 _ 1 8 Tryz.underlying69 hi0 hz0 hz1 hz2 hzs (by decide) _ _ _ rfl hown0 _ _ _ rfl hTK (ints_one _) (by unfold maxLen; omega) (by omega) (by simp) ?_)
       intro v1 w1 hown1 hg1 hb1; have hB1 : Below wr.heap.size wr w1 := hA0.grown hg1 (by simp) (fun k hk => by cases hk; exact Nat.le_refl _); obtain ⟨a1, c1, rfl⟩ := owns_val hown1; have hA1 := qalloc w1 (.cells #[.int .i64 x] 3); have hrow1 := owns_row (own_one w1 w1.heap.size (Nat.le_refl _) (.int .i64 x) 3); have hs1 := hB1.size
       go_wp2_with (at_builtin; refine wpList_append_row rfl _ _ 69 rfl wr.heap.size 3 i0 _ 1 8 Tryz.underlying69 hi0 hz0 hz1 hz2 hzs (by decide) _ _ _ rfl (hown1.alloc _) _ _ _ rfl hrow1 (by intro u hu; simp at hu; subst hu; rfl) (by unfold maxLen; omega) (by omega) (by simp; omega) ?_)
       intro v2 w2 hown2 hg2 hb2; have hB2 : Below wr.heap.size wr w2 := (hB1.trans (hA1.mono hB1.size)).grown hg2 (by simp; omega) (fun k hk => (hown1.lt k hk).1); obtain ⟨a2, c2, rfl⟩ := owns_val hown2; have hs2 := hB2.size; have hDw : IsRow w2 1 (.slice (some ⟨vb, vo, none⟩) 0 0) 0 ([].map (Value.int .i64)) := ⟨rfl, _, _, rfl, Nat.le_refl _, Nat.zero_le _, fun h => absurd h (Nat.lt_irrefl _)⟩
       go_wp2_with (at_builtin; refine wpList_append_row rfl _ _ 69 rfl wr.heap.size 3 i0 _ 1 8 Tryz.underlying69 hi0 hz0 hz1 hz2 hzs (by decide) _ _ _ rfl hown2 _ _ _ rfl hDw (ints_one _) (by unfold maxLen; omega) (by omega) (by omega) ?_)
       intro v3 w3 hown3 hg3 hb3; have hB3 : Below wr.heap.size wr w3 := hB2.grown hg3 hs2 (fun k hk => (hown2.lt k hk).1); have hlen3 : 0 + k + 1 + (0) = (L.take k ++ [x] ++ []).length := by simp; omega
       obtain ⟨b3, o3, c3, rfl, hrow3⟩ := RowI.of (l := L.take k ++ [x] ++ []) (by simpa using hown3) hlen3 (by omega); have HR3 := lH hrow3; have HB3 : Hid (Below W0.heap.size W0 w3) := HBW.out.trans (hB3.mono HBW.out.size); clear hrow3 hB3 hB2 hB1 hown1 hown2 hown3 hown0 hA0 hA1 hrow1 hTK hDw hg1 hg2 hg3 hb1 hb2 hb3
       (try rw [hlen3])
       go_wp2; go_roundw
       case rel => exact ⟨i + 1, by omega, by go_num, ⟨b3, o3, c3, by rw [HF.out], by rw [HF.out]; exact HR3.out⟩, HB3⟩
       case measure => simp [intOf]; omega
      ·have hck : k < vc := by have := HRW.out.le; omega
       have hle := HRW.out.le; have hvmax := HRW.out.max; have hkc : (k : Int) ≤ (vc : Int) := by omega
       have hki : (k : Int) ≤ (L.length : Int) := by omega
       have hown0 : (wr.alloc (.cells #[] 3)).ownsRow wr.heap.size 3 1 (.slice (some ⟨wr.heap.size, 0, none⟩) 0 0) 0 [] := World.ownsRow_made wr #[] 0 (Nat.le_refl _) (Nat.zero_le _) rfl; have hA0 := qalloc wr (.cells #[] 3); have hTK := (HRW.out.below hA0).take (k := k) hp; go_wp2_with (at_builtin; refine wpList_append_row rfl _ _ 69 rfl wr.heap.size 3 i0 _ 1 8 Tryz.underlying69 hi0 hz0 hz1 hz2 hzs (by decide) _ _ _ rfl hown0 _ _ _ rfl hTK (ints_one _) (by unfold maxLen; omega) (by omega) (by simp) ?_)
       intro v1 w1 hown1 hg1 hb1; have hB1 : Below wr.heap.size wr w1 := hA0.grown hg1 (by simp) (fun k hk => by cases hk; exact Nat.le_refl _); obtain ⟨a1, c1, rfl⟩ := owns_val hown1; have hA1 := qalloc w1 (.cells #[.int .i64 x] 3); have hrow1 := owns_row (own_one w1 w1.heap.size (Nat.le_refl _) (.int .i64 x) 3); have hs1 := hB1.size
       go_wp2_with (at_builtin; refine wpList_append_row rfl _ _ 69 rfl wr.heap.size 3 i0 _ 1 8 Tryz.underlying69 hi0 hz0 hz1 hz2 hzs (by decide) _ _ _ rfl (hown1.alloc _) _ _ _ rfl hrow1 (by intro u hu; simp at hu; subst hu; rfl) (by unfold maxLen; omega) (by omega) (by simp; omega) ?_)
       intro v2 w2 hown2 hg2 hb2; have hB2 : Below wr.heap.size wr w2 := (hB1.trans (hA1.mono hB1.size)).grown hg2 (by simp; omega) (fun k hk => (hown1.lt k hk).1); obtain ⟨a2, c2, rfl⟩ := owns_val hown2; have hs2 := hB2.size; have hDw := (HRW.out.below hB2).drop (k := k) hp; go_wp2_with (at_builtin; refine wpList_append_row rfl _ _ 69 rfl wr.heap.size 3 i0 _ 1 8 Tryz.underlying69 hi0 hz0 hz1 hz2 hzs (by decide) _ _ _ rfl hown2 _ _ _ rfl hDw (ints_one _) (by unfold maxLen; omega) (by omega) (by omega) ?_)
       intro v3 w3 hown3 hg3 hb3; have hB3 : Below wr.heap.size wr w3 := hB2.grown hg3 hs2 (fun k hk => (hown2.lt k hk).1); have hlen3 : 0 + k + 1 + (L.length - k) = (L.take k ++ [x] ++ L.drop k).length := by simp; omega
       obtain ⟨b3, o3, c3, rfl, hrow3⟩ := RowI.of (l := L.take k ++ [x] ++ L.drop k) (by simpa using hown3) hlen3 (by omega); have HR3 := lH hrow3; have HB3 : Hid (Below W0.heap.size W0 w3) := HBW.out.trans (hB3.mono HBW.out.size); clear hrow3 hB3 hB2 hB1 hown1 hown2 hown3 hown0 hA0 hA1 hrow1 hTK hDw hg1 hg2 hg3 hb1 hb2 hb3
       (try rw [hlen3])
       go_wp2; go_roundw
       case rel => exact ⟨i + 1, by omega, by go_num, ⟨b3, o3, c3, by rw [HF.out], by rw [HF.out]; exact HR3.out⟩, HB3⟩
       case measure => simp [intOf]; omega
  ·have hd : decide ((i : Int) < (m.decls.length : Int)) = false := decide_eq_false (by omega)
   have hW : Below w.heap.size w wr := by
    rw [HWB.out]; exact HA.out.trans (HBW.out.mono (by rw [← HWB.out]; exact HA.out.size))
   have hT : m.decls.take i = m.decls := List.take_of_length_le (by omega); have HRE := lH HRW.out; clear HRW; rw [hT] at HRE ⊢; clear hT; go_wp2; go_ret; exact ⟨vb, vo, vc, rfl, HRE.out, hW⟩
end Go.Proofs.YtlgnedahnaojlaaGreatDoor

