/- approval.difference: the changes of files. -/
import Derived.Test.YtidkpnabdfiilaaGreatDoorRiC
import Derived.Test.YtidkpnabdfiilaaGreatDoorQ24
namespace Go.Proofs.YtidkpnabdfiilaaGreatDoor
open Go.RowKit Go.Shelf
attribute [local go_sem] Oper.semAt_some
attribute [local irreducible] Go.wpStill

theorem dff_end {old fresh : List OFile} {i k : Nat} {f : OFile} (hi : old[i]? = some f) (hk : ¬ k < fresh.length) : diffC (old.drop i) (fresh.drop k) = oldC f :: diffC (old.drop (i + 1)) (fresh.drop k) := by
  rw [drop_at hi, drop_nil hk]; rfl
theorem dff_fresh {old fresh : List OFile} {i k : Nat} {g : OFile} (hi : ¬ i < old.length) (hk : fresh[k]? = some g) : diffC (old.drop i) (fresh.drop k) = newC g :: diffC (old.drop i) (fresh.drop (k + 1)) := by
  rw [drop_at hk, drop_nil hi]; rfl
theorem dff_old {old fresh : List OFile} {i k : Nat} {f g : OFile} (hi : old[i]? = some f) (hk : fresh[k]? = some g) (h : lessB f g = true) : diffC (old.drop i) (fresh.drop k) = oldC f :: diffC (old.drop (i + 1)) (fresh.drop k) := by
  rw [drop_at hi, drop_at hk, diff_old h]
theorem dff_new {old fresh : List OFile} {i k : Nat} {f g : OFile} (hi : old[i]? = some f) (hk : fresh[k]? = some g) (h : lessB f g = false) (h2 : lessB g f = true) : diffC (old.drop i) (fresh.drop k) = newC g :: diffC (old.drop i) (fresh.drop (k + 1)) := by
  rw [drop_at hi, drop_at hk, diff_new h h2]
theorem dff_both {old fresh : List OFile} {i k : Nat} {f g : OFile} (hi : old[i]? = some f) (hk : fresh[k]? = some g) (h : lessB f g = false) (h2 : lessB g f = false) : diffC (old.drop i) (fresh.drop k) = (if sameDt f g then [] else [bothC f g]) ++ diffC (old.drop (i + 1)) (fresh.drop (k + 1)) := by
  rw [drop_at hi, drop_at hk, diff_both h h2]
  cases sameDt f g <;> rfl
set_option maxRecDepth 100000 in
set_option maxHeartbeats 8000000 in
theorem difference_any (v1 v2 : Value) (old fresh : List OFile) (w : World) (h1 : Reads w [] (filesT old) v1) (h2 : Reads w [] (filesT fresh) v2) (hl : old.length + fresh.length ≤ 40000) :
    Calls Tryz.prog 95 #[v1, v2] w fun e w' => ∃ cv, e = .returned cv ∧ OwnC w' w.heap.size cv (diffC old fresh) ∧ Below w.heap.size w w' := by
  obtain ⟨a1, cap1, rfl, hc1, hd1⟩ := files_val h1
  obtain ⟨a2, cap2, rfl, hc2, hd2⟩ := files_val h2
  obtain ⟨i0, hi, hz0, hz1, hz2⟩ := info_parts infoChg
  have H1 := Lib.hid h1
  have H2 := Lib.hid h2
  have HLEN := Lib.hid (diff_len _ old fresh (Nat.le_refl _))
  clear h1 h2
  go_enter Tryz.func95, Tryz.ntmps95
  go_wp2
  go_loopw [5, 6, 7] (fun pv iv kv wr => ∃ (pre : List FChg) (i k : Nat), i ≤ old.length ∧ k ≤ fresh.length ∧ iv = .int .i64 i ∧ kv = .int .i64 k ∧ OwnC wr w.heap.size pv pre ∧ Below w.heap.size w wr ∧ Hid (diffC old fresh = pre ++ diffC (old.drop i) (fresh.drop k)))
    (fun _ iv kv _ => old.length - (intOf iv).toNat + (fresh.length - (intOf kv).toNat))
  case atStart => exact ⟨[], 0, 0, Nat.zero_le _, Nat.zero_le _, rfl, rfl, World.ownsRow_nil _ _ _ _, qrefl _, rfl⟩
  case round =>
    obtain ⟨pre, i, k, hii, hkk, rfl, rfl, hown, hbel, HD⟩ := hrel
    have hpl : pre.length ≤ 40000 := by
      have := congrArg List.length HD.out
      rw [List.length_append] at this
      have := HLEN.out
      omega
    have hbz := hbel.size
    have hi0 : (0 : Int) ≤ (i : Int) := by omega
    have hk0 : (0 : Int) ≤ (k : Int) := by omega
    by_cases hil : i < old.length
    · obtain ⟨f, hf⟩ : ∃ f, old[i]? = some f := ⟨_, List.getElem?_eq_getElem hil⟩
      obtain ⟨b1, o1, rfl, hb1, hp1, hq1⟩ := files_elem (H1.out.below hbel) hf
      have hi1 : (i : Int) < (old.length : Int) := by omega
      have hdi : decide ((i : Int) < (old.length : Int)) = true := decide_eq_true hi1
      have hei : ((i : Int) == (old.length : Int)) = false := by rw [beq_eq_false_iff_ne]; omega
      by_cases hkl : k < fresh.length
      · obtain ⟨g, hg⟩ : ∃ g, fresh[k]? = some g := ⟨_, List.getElem?_eq_getElem hkl⟩
        obtain ⟨b2, o2, rfl, hb2, hp2, hq2⟩ := files_elem (H2.out.below hbel) hg
        have hk1 : (k : Int) < (fresh.length : Int) := by omega
        have hdk : decide ((k : Int) < (fresh.length : Int)) = true := decide_eq_true hk1
        have hek : ((k : Int) == (fresh.length : Int)) = false := by rw [beq_eq_false_iff_ne]; omega
        have HL1 : Hid (lessB f g = Op.bytesLess f.path.toList g.path.toList) := by show _ = _; rw [lessB, tl, tl]
        have HL2 : Hid (lessB g f = Op.bytesLess g.path.toList f.path.toList) := by show _ = _; rw [lessB, tl, tl]
        have HSD : Hid (sameDt f g = (f.data.toList == g.data.toList)) := by show _ = _; rw [sameDt, tl, tl]
        cases hl1 : Op.bytesLess f.path.toList g.path.toList with
        | true =>
          have HN : Hid (diffC old fresh = (pre ++ [oldC f]) ++ diffC (old.drop (i + 1)) (fresh.drop (k))) := by
            show _ = _; rw [HD.out, dff_old hf hg (by rw [HL1.out, hl1])]; simp
          clear HD
          go_wp2
          go_quiet (fail)
          go_wp2_with (fail)
          have hownd := (hown.below (below_drewN (qrefl _) nq)).below (qrefl _).drew
          have hbeld := (below_drewN hbel nq).drew
          refine wp_region_noPanic (region_lexT (fun W => W.cell? ⟨b1, o1 + i * 2, none⟩ = some (.string f.path) ∧ W.cell? ⟨b1, o1 + i * 2 + 1, none⟩ = some (.string f.data)) [true, true, true, true, true, true, true, true, true, true, true, true, false] mixedK (by kernel_rfl) (fun _ _ _ _ _ h => h) ⟨hp1, hq1⟩ (fun hHeld => ?_))
          have hbzd := hbeld.size
          have hb1d : b1 < (wr.drewN nq).drew.heap.size := hb1
          clear hown hbel
          generalize (wr.drewN nq).drew = wd at *
          iterate 12 (first | (refine lexT_skip (by rfl) ?_; (try simp only [Act.put, List.setIfInBounds_toArray, List.set_cons_zero, List.set_cons_succ])) | (refine lexT_take (v := ?_) (by rfl) ?_ ?_; rotate_left; (focus (intro wq hSw; (try dsimp only at hSw); go_simp; (try with_reducible rfl))); (try simp only [Act.put, List.setIfInBounds_toArray, List.set_cons_zero, List.set_cons_succ])))
          (refine lexT_do (by rfl) (fun K hK => ?_); go_simp)
          refine hK.out _ _ ⟨((qalloc wd _).cell (p := ⟨b1, o1 + i * 2, none⟩) hb1d).trans hHeld.1, ((qalloc wd _).cell (p := ⟨b1, o1 + i * 2 + 1, none⟩) hb1d).trans hHeld.2⟩ (fun hHeld1 => ?_)
          clear hK K
          (try simp only [Act.put, List.setIfInBounds_toArray, List.set_cons_zero, List.set_cons_succ])
          refine lexT_end ?_
          go_wp2_with (at_builtin; refine wpList_append_own _ rfl _ _ 37 rfl w.heap.size 40 i0 _ 5 56 Tryz.underlying37 hi hz0 hz1 hz2 rfl (by decide) _ _ _ rfl (hownd.alloc _) _ 1 1 [.string f.path, .bool true, .bool false, .string f.data, .string ⟨#[]⟩] rfl rfl (cell_five _ _ _ _ _ _ _) (by simp [Value.oneCell']) (by unfold maxLen; omega) (by omega) (by simp; omega) ?_)
          intro v3 w3 hown3 hg3 _
          have hb3 : Below w.heap.size w w3 := (qtrans hbeld (qalloc _ _)).grown hg3 (by simp; omega) (fun k hk => owns_block hownd hk)
          have hs3 : OwnC w3 w.heap.size v3 (pre ++ [oldC f]) := by unfold OwnC; rw [List.length_append, chgCells_snoc]; exact hown3
          clear hg3 hown3 hownd
          go_wp2_with (fail)
          refine NoPanic.normal ?_
          go_wp2
          go_roundw
          case rel => exact ⟨(pre ++ [oldC f]), i + 1, k, by omega, by omega, by go_num, by go_num, hs3, hb3, HN⟩
          case measure => simp [intOf]; omega
        | false =>
          cases hl2 : Op.bytesLess g.path.toList f.path.toList with
          | true =>
            have HN : Hid (diffC old fresh = (pre ++ [newC g]) ++ diffC (old.drop (i)) (fresh.drop (k + 1))) := by
              show _ = _; rw [HD.out, dff_new hf hg (by rw [HL1.out, hl1]) (by rw [HL2.out, hl2])]; simp
            clear HD
            go_wp2
            go_quiet (fail)
            generalize nq = nq0 at *
            go_wp2
            go_quiet (fail)
            go_wp2_with (fail)
            have hownd := ((hown.below (below_drewN (qrefl _) nq0)).below (below_drewN (qrefl _) nq)).below (qrefl _).drew
            have hbeld := (below_drewN (below_drewN hbel nq0) nq).drew
            refine wp_region_noPanic (region_lexT (fun W => W.cell? ⟨b2, o2 + k * 2, none⟩ = some (.string g.path) ∧ W.cell? ⟨b2, o2 + k * 2 + 1, none⟩ = some (.string g.data)) [true, true, true, true, true, true, true, true, true, true, true, true, false] mixedK (by kernel_rfl) (fun _ _ _ _ _ h => h) ⟨hp2, hq2⟩ (fun hHeld => ?_))
            have hbzd := hbeld.size
            have hb2d : b2 < ((wr.drewN nq0).drewN nq).drew.heap.size := hb2
            clear hown hbel
            generalize ((wr.drewN nq0).drewN nq).drew = wd at *
            iterate 12 (first | (refine lexT_skip (by rfl) ?_; (try simp only [Act.put, List.setIfInBounds_toArray, List.set_cons_zero, List.set_cons_succ])) | (refine lexT_take (v := ?_) (by rfl) ?_ ?_; rotate_left; (focus (intro wq hSw; (try dsimp only at hSw); go_simp; (try with_reducible rfl))); (try simp only [Act.put, List.setIfInBounds_toArray, List.set_cons_zero, List.set_cons_succ])))
            (refine lexT_do (by rfl) (fun K hK => ?_); go_simp)
            refine hK.out _ _ ⟨((qalloc wd _).cell (p := ⟨b2, o2 + k * 2, none⟩) hb2d).trans hHeld.1, ((qalloc wd _).cell (p := ⟨b2, o2 + k * 2 + 1, none⟩) hb2d).trans hHeld.2⟩ (fun hHeld1 => ?_)
            clear hK K
            (try simp only [Act.put, List.setIfInBounds_toArray, List.set_cons_zero, List.set_cons_succ])
            refine lexT_end ?_
            go_wp2_with (at_builtin; refine wpList_append_own _ rfl _ _ 37 rfl w.heap.size 40 i0 _ 5 56 Tryz.underlying37 hi hz0 hz1 hz2 rfl (by decide) _ _ _ rfl (hownd.alloc _) _ 1 1 [.string g.path, .bool false, .bool true, .string ⟨#[]⟩, .string g.data] rfl rfl (cell_five _ _ _ _ _ _ _) (by simp [Value.oneCell']) (by unfold maxLen; omega) (by omega) (by simp; omega) ?_)
            intro v3 w3 hown3 hg3 _
            have hb3 : Below w.heap.size w w3 := (qtrans hbeld (qalloc _ _)).grown hg3 (by simp; omega) (fun k hk => owns_block hownd hk)
            have hs3 : OwnC w3 w.heap.size v3 (pre ++ [newC g]) := by unfold OwnC; rw [List.length_append, chgCells_snoc]; exact hown3
            clear hg3 hown3 hownd
            go_wp2_with (fail)
            refine NoPanic.normal ?_
            go_wp2
            go_roundw
            case rel => exact ⟨(pre ++ [newC g]), i, k + 1, by omega, by omega, by go_num, by go_num, hs3, hb3, HN⟩
            case measure => simp [intOf]; omega
          | false =>
            cases hsd : (f.data.toList == g.data.toList) with
            | true =>
              have HN : Hid (diffC old fresh = pre ++ diffC (old.drop (i + 1)) (fresh.drop (k + 1))) := by
                show _ = _; rw [HD.out, dff_both hf hg (by rw [HL1.out, hl1]) (by rw [HL2.out, hl2]), HSD.out, hsd, if_pos rfl]; simp
              clear HD
              go_wp2
              go_quiet (fail)
              generalize nq = nq0 at *
              go_wp2
              go_quiet (fail)
              generalize nq = nq1 at *
              go_wp2
              go_quiet (fail)
              have hownd := hown.below (below_drewN (qrefl wr) (nq0 + nq1 + nq))
              have hbeld := below_drewN hbel (nq0 + nq1 + nq)
              go_wp2
              go_roundw
              case rel => exact ⟨pre, i + 1, k + 1, by omega, by omega, by go_num, by go_num, hownd, hbeld, HN⟩
              case measure => simp [intOf]; omega
            | false =>
              have HN : Hid (diffC old fresh = (pre ++ [bothC f g]) ++ diffC (old.drop (i + 1)) (fresh.drop (k + 1))) := by
                show _ = _; rw [HD.out, dff_both hf hg (by rw [HL1.out, hl1]) (by rw [HL2.out, hl2]), HSD.out, hsd, if_neg (by simp)]; simp
              clear HD
              go_wp2
              go_quiet (fail)
              generalize nq = nq0 at *
              go_wp2
              go_quiet (fail)
              generalize nq = nq1 at *
              go_wp2
              go_quiet (fail)
              go_wp2_with (fail)
              have hownd := (((hown.below (below_drewN (qrefl _) nq0)).below (below_drewN (qrefl _) nq1)).below (below_drewN (qrefl _) nq)).below (qrefl _).drew
              have hbeld := (below_drewN (below_drewN (below_drewN hbel nq0) nq1) nq).drew
              refine wp_region_noPanic (region_lexT (fun W => W.cell? ⟨b1, o1 + i * 2, none⟩ = some (.string f.path) ∧ W.cell? ⟨b1, o1 + i * 2 + 1, none⟩ = some (.string f.data) ∧ W.cell? ⟨b2, o2 + k * 2 + 1, none⟩ = some (.string g.data)) [true, true, true, true, true, true, true, true, true, true, true, true, true, true, true, true, true, false] mixedK (by kernel_rfl) (fun _ _ _ _ _ h => h) ⟨hp1, hq1, hq2⟩ (fun hHeld => ?_))
              have hbzd := hbeld.size
              have hb1d : b1 < (((wr.drewN nq0).drewN nq1).drewN nq).drew.heap.size := hb1; have hb2d : b2 < (((wr.drewN nq0).drewN nq1).drewN nq).drew.heap.size := hb2
              clear hown hbel
              generalize (((wr.drewN nq0).drewN nq1).drewN nq).drew = wd at *
              iterate 17 (first | (refine lexT_skip (by rfl) ?_; (try simp only [Act.put, List.setIfInBounds_toArray, List.set_cons_zero, List.set_cons_succ])) | (refine lexT_take (v := ?_) (by rfl) ?_ ?_; rotate_left; (focus (intro wq hSw; (try dsimp only at hSw); go_simp; (try with_reducible rfl))); (try simp only [Act.put, List.setIfInBounds_toArray, List.set_cons_zero, List.set_cons_succ])))
              (refine lexT_do (by rfl) (fun K hK => ?_); go_simp)
              refine hK.out _ _ ⟨((qalloc wd _).cell (p := ⟨b1, o1 + i * 2, none⟩) hb1d).trans hHeld.1, ((qalloc wd _).cell (p := ⟨b1, o1 + i * 2 + 1, none⟩) hb1d).trans hHeld.2.1, ((qalloc wd _).cell (p := ⟨b2, o2 + k * 2 + 1, none⟩) hb2d).trans hHeld.2.2⟩ (fun hHeld1 => ?_)
              clear hK K
              (try simp only [Act.put, List.setIfInBounds_toArray, List.set_cons_zero, List.set_cons_succ])
              refine lexT_end ?_
              go_wp2_with (at_builtin; refine wpList_append_own _ rfl _ _ 37 rfl w.heap.size 40 i0 _ 5 56 Tryz.underlying37 hi hz0 hz1 hz2 rfl (by decide) _ _ _ rfl (hownd.alloc _) _ 1 1 [.string f.path, .bool true, .bool true, .string f.data, .string g.data] rfl rfl (cell_five _ _ _ _ _ _ _) (by simp [Value.oneCell']) (by unfold maxLen; omega) (by omega) (by simp; omega) ?_)
              intro v3 w3 hown3 hg3 _
              have hb3 : Below w.heap.size w w3 := (qtrans hbeld (qalloc _ _)).grown hg3 (by simp; omega) (fun k hk => owns_block hownd hk)
              have hs3 : OwnC w3 w.heap.size v3 (pre ++ [bothC f g]) := by unfold OwnC; rw [List.length_append, chgCells_snoc]; exact hown3
              clear hg3 hown3 hownd
              go_wp2_with (fail)
              refine NoPanic.normal ?_
              go_wp2
              go_roundw
              case rel => exact ⟨(pre ++ [bothC f g]), i + 1, k + 1, by omega, by omega, by go_num, by go_num, hs3, hb3, HN⟩
              case measure => simp [intOf]; omega
      · have hdk : decide ((k : Int) < (fresh.length : Int)) = false := decide_eq_false (by omega)
        have hek : ((k : Int) == (fresh.length : Int)) = true := by rw [beq_iff_eq]; omega
        have HN : Hid (diffC old fresh = (pre ++ [oldC f]) ++ diffC (old.drop (i + 1)) (fresh.drop (k))) := by
          show _ = _; rw [HD.out, dff_end hf hkl]; simp
        clear HD
        go_wp2
        go_quiet (fail)
        go_wp2_with (fail)
        have hownd := (hown.below (below_drewN (qrefl _) nq)).below (qrefl _).drew
        have hbeld := (below_drewN hbel nq).drew
        refine wp_region_noPanic (region_lexT (fun W => W.cell? ⟨b1, o1 + i * 2, none⟩ = some (.string f.path) ∧ W.cell? ⟨b1, o1 + i * 2 + 1, none⟩ = some (.string f.data)) [true, true, true, true, true, true, true, true, true, true, true, true, false] mixedK (by kernel_rfl) (fun _ _ _ _ _ h => h) ⟨hp1, hq1⟩ (fun hHeld => ?_))
        have hbzd := hbeld.size
        have hb1d : b1 < (wr.drewN nq).drew.heap.size := hb1
        clear hown hbel
        generalize (wr.drewN nq).drew = wd at *
        iterate 12 (first | (refine lexT_skip (by rfl) ?_; (try simp only [Act.put, List.setIfInBounds_toArray, List.set_cons_zero, List.set_cons_succ])) | (refine lexT_take (v := ?_) (by rfl) ?_ ?_; rotate_left; (focus (intro wq hSw; (try dsimp only at hSw); go_simp; (try with_reducible rfl))); (try simp only [Act.put, List.setIfInBounds_toArray, List.set_cons_zero, List.set_cons_succ])))
        (refine lexT_do (by rfl) (fun K hK => ?_); go_simp)
        refine hK.out _ _ ⟨((qalloc wd _).cell (p := ⟨b1, o1 + i * 2, none⟩) hb1d).trans hHeld.1, ((qalloc wd _).cell (p := ⟨b1, o1 + i * 2 + 1, none⟩) hb1d).trans hHeld.2⟩ (fun hHeld1 => ?_)
        clear hK K
        (try simp only [Act.put, List.setIfInBounds_toArray, List.set_cons_zero, List.set_cons_succ])
        refine lexT_end ?_
        go_wp2_with (at_builtin; refine wpList_append_own _ rfl _ _ 37 rfl w.heap.size 40 i0 _ 5 56 Tryz.underlying37 hi hz0 hz1 hz2 rfl (by decide) _ _ _ rfl (hownd.alloc _) _ 1 1 [.string f.path, .bool true, .bool false, .string f.data, .string ⟨#[]⟩] rfl rfl (cell_five _ _ _ _ _ _ _) (by simp [Value.oneCell']) (by unfold maxLen; omega) (by omega) (by simp; omega) ?_)
        intro v3 w3 hown3 hg3 _
        have hb3 : Below w.heap.size w w3 := (qtrans hbeld (qalloc _ _)).grown hg3 (by simp; omega) (fun k hk => owns_block hownd hk)
        have hs3 : OwnC w3 w.heap.size v3 (pre ++ [oldC f]) := by unfold OwnC; rw [List.length_append, chgCells_snoc]; exact hown3
        clear hg3 hown3 hownd
        go_wp2_with (fail)
        refine NoPanic.normal ?_
        go_wp2
        go_roundw
        case rel => exact ⟨(pre ++ [oldC f]), i + 1, k, by omega, by omega, by go_num, by go_num, hs3, hb3, HN⟩
        case measure => simp [intOf]; omega
    · have hdi : decide ((i : Int) < (old.length : Int)) = false := decide_eq_false (by omega)
      have hei : ((i : Int) == (old.length : Int)) = true := by rw [beq_iff_eq]; omega
      by_cases hkl : k < fresh.length
      · obtain ⟨g, hg⟩ : ∃ g, fresh[k]? = some g := ⟨_, List.getElem?_eq_getElem hkl⟩
        obtain ⟨b2, o2, rfl, hb2, hp2, hq2⟩ := files_elem (H2.out.below hbel) hg
        have hk1 : (k : Int) < (fresh.length : Int) := by omega
        have hdk : decide ((k : Int) < (fresh.length : Int)) = true := decide_eq_true hk1
        have hek : ((k : Int) == (fresh.length : Int)) = false := by rw [beq_eq_false_iff_ne]; omega
        have HN : Hid (diffC old fresh = (pre ++ [newC g]) ++ diffC (old.drop (i)) (fresh.drop (k + 1))) := by
          show _ = _; rw [HD.out, dff_fresh hil hg]; simp
        clear HD
        go_wp2
        go_quiet (fail)
        generalize nq = nq0 at *
        go_wp2
        go_quiet (fail)
        go_wp2_with (fail)
        have hownd := ((hown.below (below_drewN (qrefl _) nq0)).below (below_drewN (qrefl _) nq)).below (qrefl _).drew
        have hbeld := (below_drewN (below_drewN hbel nq0) nq).drew
        refine wp_region_noPanic (region_lexT (fun W => W.cell? ⟨b2, o2 + k * 2, none⟩ = some (.string g.path) ∧ W.cell? ⟨b2, o2 + k * 2 + 1, none⟩ = some (.string g.data)) [true, true, true, true, true, true, true, true, true, true, true, true, false] mixedK (by kernel_rfl) (fun _ _ _ _ _ h => h) ⟨hp2, hq2⟩ (fun hHeld => ?_))
        have hbzd := hbeld.size
        have hb2d : b2 < ((wr.drewN nq0).drewN nq).drew.heap.size := hb2
        clear hown hbel
        generalize ((wr.drewN nq0).drewN nq).drew = wd at *
        iterate 12 (first | (refine lexT_skip (by rfl) ?_; (try simp only [Act.put, List.setIfInBounds_toArray, List.set_cons_zero, List.set_cons_succ])) | (refine lexT_take (v := ?_) (by rfl) ?_ ?_; rotate_left; (focus (intro wq hSw; (try dsimp only at hSw); go_simp; (try with_reducible rfl))); (try simp only [Act.put, List.setIfInBounds_toArray, List.set_cons_zero, List.set_cons_succ])))
        (refine lexT_do (by rfl) (fun K hK => ?_); go_simp)
        refine hK.out _ _ ⟨((qalloc wd _).cell (p := ⟨b2, o2 + k * 2, none⟩) hb2d).trans hHeld.1, ((qalloc wd _).cell (p := ⟨b2, o2 + k * 2 + 1, none⟩) hb2d).trans hHeld.2⟩ (fun hHeld1 => ?_)
        clear hK K
        (try simp only [Act.put, List.setIfInBounds_toArray, List.set_cons_zero, List.set_cons_succ])
        refine lexT_end ?_
        go_wp2_with (at_builtin; refine wpList_append_own _ rfl _ _ 37 rfl w.heap.size 40 i0 _ 5 56 Tryz.underlying37 hi hz0 hz1 hz2 rfl (by decide) _ _ _ rfl (hownd.alloc _) _ 1 1 [.string g.path, .bool false, .bool true, .string ⟨#[]⟩, .string g.data] rfl rfl (cell_five _ _ _ _ _ _ _) (by simp [Value.oneCell']) (by unfold maxLen; omega) (by omega) (by simp; omega) ?_)
        intro v3 w3 hown3 hg3 _
        have hb3 : Below w.heap.size w w3 := (qtrans hbeld (qalloc _ _)).grown hg3 (by simp; omega) (fun k hk => owns_block hownd hk)
        have hs3 : OwnC w3 w.heap.size v3 (pre ++ [newC g]) := by unfold OwnC; rw [List.length_append, chgCells_snoc]; exact hown3
        clear hg3 hown3 hownd
        go_wp2_with (fail)
        refine NoPanic.normal ?_
        go_wp2
        go_roundw
        case rel => exact ⟨(pre ++ [newC g]), i, k + 1, by omega, by omega, by go_num, by go_num, hs3, hb3, HN⟩
        case measure => simp [intOf]; omega
      · have hdk : decide ((k : Int) < (fresh.length : Int)) = false := decide_eq_false (by omega)
        have HN : Hid (diffC old fresh = pre) := by
          show _ = _; rw [HD.out, drop_nil hil, drop_nil hkl]; simp [diffC]
        go_wp2
        go_ret
        exact ⟨_, rfl, by rw [HN.out]; exact hown, hbel⟩
end Go.Proofs.YtidkpnabdfiilaaGreatDoor
