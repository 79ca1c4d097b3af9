/- approval.Fallen. -/
import Derived.Test.YtidkpnabdfiilaaGreatDoorMiA
namespace Go.Proofs.YtidkpnabdfiilaaGreatDoor
open Go.RowKit Go.Shelf
attribute [local go_sem] run_mkMap

theorem JudgeIs.grown {l : List OwnedC} {lv : Value} {B k : Nat} {w w' : World} {row : Option Nat} (h : JudgeIs l lv B k w) (hg : w.grownBy w' row) (hr : ∀ r, row = some r → B + 2 < r) : JudgeIs l lv B k w' := by
  obtain ⟨n, f, h0, h1, h2⟩ := h.mp
  exact ⟨(hg.block _ h.cl.lt (fun e => by have := hr _ e.symm; omega)).trans h.cl, (hg.block _ h.cv.lt (fun e => by have := hr _ e.symm; omega)).trans h.cv, n, f, h0, h1.kept hg (fun e => by have := hr _ e.symm; omega), h2⟩
theorem JudgeIs.succ {l : List OwnedC} {lv : Value} {B k : Nat} {w : World} (h : JudgeIs l lv B k w) : JudgeIs l lv B (k + 1) w := by
  obtain ⟨n, f, h0, h1, h2⟩ := h.mp
  exact ⟨h.cl, h.cv, n, f, by omega, h1, h2⟩
theorem fallen_take {l : List Appr} {change : Int} {old fresh : List OFile} {k : Nat} {a : Appr} (h : l[k]? = some a) : fallenL (l.take (k + 1)) change old fresh = fallenL (l.take k) change old fresh ++ (if fallB change old fresh a then [a] else []) := by
  unfold fallenL
  rw [take_at h, List.filter_append, List.filter_cons]
  split <;> rfl
theorem fallen_len (l : List Appr) (change : Int) (old fresh : List OFile) : (fallenL l change old fresh).length ≤ l.length := List.length_filter_le _ _
def FallPost (x : List Appr) (w : World) (e : Ending) (w' : World) : Prop := ∃ rv, e = .returned rv ∧ Reads w' [] (apprsT x) rv ∧ Below w.heap.size w w'
set_option maxRecDepth 100000 in
set_option maxHeartbeats 4000000 in
theorem Fallen_any (va v1 v2 : Value) (l : List Appr) (change : Int) (old fresh : List OFile) (w : World) (ha : Reads w [] (apprsT l) va) (hsa : smallA l) (h1 : Reads w [] (filesT old) v1) (h2 : Reads w [] (filesT fresh) v2) (hs1 : SmallF old) (hs2 : SmallF fresh) (hl : old.length + fresh.length ≤ 4000) :
    Calls Tryz.prog 41 #[va, .int .i64 change, v1, v2] w (FallPost (fallenL l change old fresh) w) := by
  have HE := Lib.hid (examine_any v1 v2 old fresh w h1 h2 hs1 hs2 hl)
  obtain ⟨aa, capa, rfl, hca, hda⟩ := apprs_val ha
  obtain ⟨a1, cap1, rfl, hc1, hd1⟩ := files_val h1
  obtain ⟨a2, cap2, rfl, hc2, hd2⟩ := files_val h2
  obtain ⟨i0, hi, hz0, hz1, hz2⟩ := info_parts infoAppr
  have HX : Hid (examineOf old fresh = if treesErr old fresh = 0 then (examL old fresh, 0) else ([], treesErr old fresh)) := rfl
  have HAL := Lib.hid ha
  have HSA := Lib.hid hsa.2
  have hla := hsa.1
  have HFT := Lib.hid (fun k a (h : l[k]? = some a) => fallen_take (change := change) (old := old) (fresh := fresh) h)
  have HFL := Lib.hid (fun k => fallen_len (l.take k) change old fresh)
  have HF0 : Hid (fallenL (l.take 0) change old fresh = []) := rfl
  have HFE : Hid (fallenL (l.take l.length) change old fresh = fallenL l change old fresh) := by show _ = _; rw [List.take_length]
  have HCT : Hid (∀ a : Appr, fallB change old fresh a = ((a.change == change) && !standsB old fresh a)) := fun a => rfl
  -- what the judge says
  obtain ⟨lx, er, HEX, HSO, HJD⟩ : ∃ (lx : List OwnedC) (er : Int), Hid (examineOf old fresh = (lx, er)) ∧ Hid (smallO lx) ∧ Hid (∀ a : Appr, (!standsB old fresh a) = ((er != 0) || !(a.saw.toList == (viewF lx a.who).toList))) := by
    by_cases e1 : treesErr old fresh = 0
    · obtain ⟨T1, T2⟩ := treesErr_two e1
      refine ⟨examL old fresh, 0, by show _ = _; rw [HX.out, if_pos e1], exam_smallO hs1 hs2 T1 T2 hl, fun a => ?_⟩
      unfold standsB
      rw [e1, viewF_exam, tl, tl]; rfl
    · refine ⟨[], treesErr old fresh, by show _ = _; rw [HX.out, if_neg e1], (show smallO [] from ⟨Nat.zero_le _, ⟨fun _ h => (by cases h), fun _ h => (by cases h)⟩⟩), fun a => ?_⟩
      unfold standsB
      rw [decide_eq_false e1, show (treesErr old fresh != 0) = true by simpa using e1]; rfl
  rw [HEX.out] at HE
  clear HX h1 h2 ha hs1 hs2 hsa HEX
  generalize hFN : fallenL l change old fresh = fin at *
  generalize hFK : (fun k => fallenL (l.take k) change old fresh) = FK at *
  have HFK : Hid (∀ k, fallenL (l.take k) change old fresh = FK k) := fun k => by rw [← hFK]
  rw [HFK.out] at HF0 HFE
  have HFL2 : Hid (∀ k, (FK k).length ≤ (l.take k).length) := fun k => by rw [← HFK.out]; exact HFL.out k
  have HFT2 : Hid (∀ k a, l[k]? = some a → FK (k + 1) = FK k ++ (if fallB change old fresh a then [a] else [])) := fun k a h => by rw [← HFK.out, ← HFK.out]; exact HFT.out k a h
  clear hFN hFK HFK HFT HFL
  go_enter Tryz.func41, Tryz.ntmps41
  go_wp2_with (fail)
  refine HE.out.mono ?_
  rintro e w1 ⟨lv, rfl, hlv, hb1⟩
  simp only [] at hlv
  have HLV := Lib.hid hlv
  obtain ⟨xa, xc, rfl, -, -⟩ := owneds_val hlv
  have HA2 := Lib.hid (HAL.out.below hb1)
  clear hlv HE HAL
  go_wp2_with (fail)
  refine (judge_any _ _ _ w1).mono ?_
  rintro e w3 ⟨rfl, rfl⟩
  have HJ0 := Lib.hid (JudgeIs.new lx (.slice xa lx.length xc) w1)
  have hbj : Below w1.heap.size w1 (((w1.alloc (.cells #[.slice xa lx.length xc] 102)).alloc (.map #[] 0)).alloc (.cells #[.map (some (w1.heap.size + 1))] 114)) := qtrans (qtrans (qalloc _ _) (qalloc _ _)) (qalloc _ _)
  have HZJ : Hid ((((w1.alloc (.cells #[.slice xa lx.length xc] 102)).alloc (.map #[] 0)).alloc (.cells #[.map (some (w1.heap.size + 1))] 114)).heap.size = w1.heap.size + 3) := by show _ = _; simp
  generalize ((w1.alloc (.cells #[.slice xa lx.length xc] 102)).alloc (.map #[] 0)).alloc (.cells #[.map (some (w1.heap.size + 1))] 114) = w3 at *
  have h3z : w1.heap.size + 2 < w3.heap.size := by have := HZJ.out; omega
  clear HZJ
  go_wp2
  go_loopw [12, 25] (fun ov iv wr => ∃ k : Nat, k ≤ l.length ∧ iv = .int .i64 k ∧ Below w1.heap.size w1 wr ∧ Hid (w3.heap.size ≤ wr.heap.size) ∧ Hid (JudgeIs lx (.slice xa lx.length xc) w1.heap.size k wr) ∧ Hid (OwnA wr w3.heap.size ov (FK k)))
    (fun _ iv _ => l.length - (intOf iv).toNat)
  case atStart => exact ⟨0, Nat.zero_le _, rfl, hbj, Nat.le_refl _, HJ0, by rw [HF0.out]; exact World.ownsRow_nil _ _ _ _⟩
  case round =>
    clear HJ0 hbj
    obtain ⟨k, hk, rfl, hbr, HZ, HJ, HO⟩ := hrel
    have hk0 : (0 : Int) ≤ (k : Int) := by omega
    by_cases hkl : k < l.length
    · obtain ⟨a, hak⟩ : ∃ a, l[k]? = some a := ⟨_, List.getElem?_eq_getElem hkl⟩
      obtain ⟨b1, o1, rfl, hbb1, d0, d1, d2⟩ := apprs_elem (HA2.out.below hbr) hak
      have hk1 : (k : Int) < (l.length : Int) := by omega
      have hz := HSA.out a (List.mem_of_getElem? hak)
      have HPT := Lib.hid (HFT2.out k a hak)
      have HCA := Lib.hid (HCT.out a)
      have HSB := Lib.hid (HJD.out a)
      have hfl : (FK k).length ≤ 30000 := by have := HFL2.out k; rw [List.length_take] at this; omega
      clear hak
      generalize hcur : FK k = cur at *
      generalize hnxt : FK (k + 1) = nxt at *
      have HNX := Lib.hid hnxt
      clear hcur hnxt
      have hA := qalloc wr (.cells #[.string a.who, .int .i64 a.change, .string a.saw] 51)
      have HB := Lib.hid (CBox.new wr 51 #[.string a.who, .int .i64 a.change, .string a.saw])
      have hbA := qtrans hbr hA
      have HJA := Lib.hid (HJ.out.below hA)
      have HOA := Lib.hid (HO.out.below hA)
      have HZA := Lib.hid (Nat.le_trans HZ.out hA.size)
      have hzw := HZ.out
      clear HJ HO hbr
      -- the end of a round that takes the approval
      cases hch : (a.change == change) with
      | false =>
        have HN : Hid (nxt = cur) := by show _ = _; rw [HPT.out, HCA.out, hch]; simp
        clear hA
        go_wp2
        go_roundw
        case rel => exact ⟨k + 1, by omega, by go_num, hbA, HZA, HJA.out.succ, by rw [HNX.out, HN.out]; exact HOA⟩
        case measure => simp [intOf]; omega
      | true =>
        rw [hch, Bool.true_and, HSB.out] at HCA
        have x0 := HB.out.cell (i := 0) rfl
        have x1 := HB.out.cell (i := 1) rfl
        have x2 := HB.out.cell (i := 2) rfl
        have xl := HB.out.lt
        cases her : (er != 0) with
        | true =>
          have HN : Hid (nxt = cur ++ [a]) := by show _ = _; rw [HPT.out, HCA.out, her]; simp
          have hown := HOA.out
          go_wp2_with (at_builtin; refine wpList_append_own _ rfl _ _ 59 rfl w3.heap.size 51 i0 _ 3 40 Tryz.underlying59 hi hz0 hz1 hz2 rfl (by decide) _ _ _ rfl (HOA.out.alloc _) ⟨wr.heap.size + 1, 0, none⟩ 1 1 [.string a.who, .int .i64 a.change, .string a.saw] rfl rfl (cell_three _ _ _ _ _ (by simp)) (by simp [Value.oneCell']) (by unfold maxLen; omega) (by omega) (by simp; omega) ?_)
          intro v8 w8 hown8 hg8 _
          have HO8 : Hid (OwnA w8 w3.heap.size v8 (cur ++ [a])) := by refine Lib.hid ?_; unfold OwnA; rw [List.length_append, apprCells_snoc]; exact hown8
          have hb8 : Below w1.heap.size w1 w8 := (qtrans hbA (qalloc _ _)).grown hg8 (by have := hbA.size; simp at this ⊢; omega) (fun k hk => by have := owns_block hown hk; omega)
          have HJ8 := Lib.hid ((HJA.out.below (qalloc _ _)).grown hg8 (fun r hr => by have := owns_block hown hr; omega))
          have HZ8 : Hid (w3.heap.size ≤ w8.heap.size) := by have := hg8.size; simp at this; refine Lib.hid ?_; omega
          rw [← HN.out] at HO8
          clear hown8 hg8 hown HJA HOA HZA hbA hA x0 x1 x2 HB
          go_wp2
          go_roundw
          case rel => exact ⟨k + 1, by omega, by go_num, hb8, HZ8, HJ8.out.succ, by rw [HNX.out]; exact HO8⟩
          case measure => simp [intOf]; omega
        | false =>
          rw [her, Bool.false_or] at HCA
          have HJ1 := Lib.hid (fun W h1 h2 => judge1_any a hz lx HSO.out (.slice xa lx.length xc) w1.heap.size k (by omega) W h1 h2)
          cases hst : (a.saw.toList == (viewF lx a.who).toList) with
          | true =>
            rw [hst] at HJ1 HCA
            have HN : Hid (nxt = cur) := by show _ = _; rw [HPT.out, HCA.out]; simp
            go_wp2_with (fail)
            refine (HJ1.out _ (HLV.out.below hbA) HJA.out).mono ?_
            rintro e w5 ⟨rfl, hj5, hm5⟩
            have HJ5 := Lib.hid hj5
            have hb5 : Below w1.heap.size w1 w5 := hbA.trans (hm5.upto (by have := hbA.size; exact this) (fun k hk => by simp at hk; omega))
            have HO5 : Hid (OwnA w5 w3.heap.size u12 cur) := owns_mod HOA.out hm5 (fun b hb hx => by have := owns_block HOA.out hb; simp at hx; omega)
            have HZ5 : Hid (w3.heap.size ≤ w5.heap.size) := Nat.le_trans HZA.out hm5.size
            clear hj5 hm5 HJ1 HJA HOA HZA hA hbA HB x0 x1 x2
            go_wp2
            go_roundw
            case rel => exact ⟨k + 1, by omega, by go_num, hb5, HZ5, HJ5, by rw [HNX.out, HN.out]; exact HO5⟩
            case measure => simp [intOf]; omega
          | false =>
            rw [hst] at HJ1 HCA
            have HN : Hid (nxt = cur ++ [a]) := by show _ = _; rw [HPT.out, HCA.out]; simp
            have HBX := Lib.hid (fun (w5 : World) (hm : Mod [w1.heap.size + 1] (wr.alloc (.cells #[.string a.who, .int .i64 a.change, .string a.saw] 51)) w5) => (hm.block wr.heap.size HB.out.lt (by have := hbA.size; simp at this ⊢; omega)).trans HB.out)
            go_wp2_with (fail)
            refine (HJ1.out _ (HLV.out.below hbA) HJA.out).mono ?_
            rintro e w5 ⟨rfl, hj5, hm5⟩
            have HJ5 := Lib.hid hj5
            have hb5 : Below w1.heap.size w1 w5 := hbA.trans (hm5.upto (by have := hbA.size; exact this) (fun k hk => by simp at hk; omega))
            have HO5 : Hid (OwnA w5 w3.heap.size u12 cur) := owns_mod HOA.out hm5 (fun b hb hx => by have := owns_block HOA.out hb; simp at hx; omega)
            have HZ5 : Hid (w3.heap.size ≤ w5.heap.size) := Nat.le_trans HZA.out hm5.size
            have hB5 : CBox w5 wr.heap.size 51 #[.string a.who, .int .i64 a.change, .string a.saw] := HBX.out w5 hm5
            have y0 := hB5.cell (i := 0) rfl
            have y1 := hB5.cell (i := 1) rfl
            have y2 := hB5.cell (i := 2) rfl
            have yl := hB5.lt
            have hown := HO5.out
            have hz5 := HZ5.out
            clear hj5 hm5 HJ1 HJA HOA HZA hA hbA HB x0 x1 x2 hB5 HBX
            go_wp2_with (at_builtin; refine wpList_append_own _ rfl _ _ 59 rfl w3.heap.size 51 i0 _ 3 40 Tryz.underlying59 hi hz0 hz1 hz2 rfl (by decide) _ _ _ rfl (HO5.out.alloc _) ⟨w5.heap.size, 0, none⟩ 1 1 [.string a.who, .int .i64 a.change, .string a.saw] rfl rfl (cell_three _ _ _ _ _ rfl) (by simp [Value.oneCell']) (by unfold maxLen; omega) (by omega) (by simp; omega) ?_)
            intro v8 w8 hown8 hg8 _
            have HO8 : Hid (OwnA w8 w3.heap.size v8 (cur ++ [a])) := by refine Lib.hid ?_; unfold OwnA; rw [List.length_append, apprCells_snoc]; exact hown8
            have hb8 : Below w1.heap.size w1 w8 := (qtrans hb5 (qalloc _ _)).grown hg8 (by have := hb5.size; simp at this ⊢; omega) (fun k hk => by have := owns_block hown hk; omega)
            have HJ8 := Lib.hid ((HJ5.out.below (qalloc _ _)).grown hg8 (fun r hr => by have := owns_block hown hr; omega))
            have HZ8 : Hid (w3.heap.size ≤ w8.heap.size) := by have := hg8.size; simp at this; refine Lib.hid ?_; omega
            rw [← HN.out] at HO8
            clear hown8 hg8 hown HJ5 HO5 HZ5 hb5 y0 y1 y2 hz5
            go_wp2
            go_roundw
            case rel => exact ⟨k + 1, by omega, by go_num, hb8, HZ8, HJ8, by rw [HNX.out]; exact HO8⟩
            case measure => simp [intOf]; omega
    · have hkl' : k = l.length := by omega
      subst hkl'
      rw [HFE.out] at HO
      have hrd := HO.out.reads
      obtain ⟨oa, oc, rfl, -, -⟩ := apprs_val hrd
      have hbf := qtrans hb1 hbr
      clear HO HJ
      go_wp2
      go_ret
      exact ⟨_, rfl, hrd, hbf⟩
end Go.Proofs.YtidkpnabdfiilaaGreatDoor
