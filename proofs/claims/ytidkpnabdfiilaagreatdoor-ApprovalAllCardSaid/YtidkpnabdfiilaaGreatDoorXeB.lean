/- The reference's check and Seen. -/
import Derived.Test.YtidkpnabdfiilaaGreatDoorXeA
import Derived.Test.YtidkpnabdfiilaaGreatDoorSeB
import Derived.Test.YtidkpnabdfiilaaGreatDoorQ25
namespace Go.Proofs.YtidkpnabdfiilaaGreatDoor
open Go.RowKit

theorem xcheck_any (v1 v2 : Value) (old fresh : List OFile) (w : World) (h1 : Reads w [] (filesT old) v1) (h2 : Reads w [] (filesT fresh) v2) (hs1 : SmallF old) (hs2 : SmallF fresh) (hd1 : ∀ f ∈ old, f.data.size ≤ 16000) (hd2 : ∀ f ∈ fresh, f.data.size ≤ 16000) :
    Calls Tryz.prog 63 #[v1, v2] w fun e w' => e = .returned (.int .i64 (treesErr old fresh)) ∧ Below w.heap.size w w' := by
  have HC1 := Lib.hid (r9Check_any v1 old w h1 hs1 hd1)
  obtain ⟨a1, cap1, rfl, hc1, hd1'⟩ := files_val h1
  obtain ⟨a2, cap2, rfl, hc2, hd2'⟩ := files_val h2
  have H2 := Lib.hid h2
  have HC2 := Lib.hid (fun W h => r9Check_any (.slice a2 fresh.length cap2) fresh W h hs2 hd2)
  have HT : Hid (treesErr old fresh = if treeErr old = 0 then treeErr fresh else treeErr old) := rfl
  clear h1 h2 hs1 hs2 hd1 hd2
  by_cases e1 : treeErr old = 0
  · have HT2 : Hid (treesErr old fresh = treeErr fresh) := by show _ = _; rw [HT.out, if_pos e1]
    rw [e1] at HC1
    generalize treeErr fresh = q at *
    clear HT e1
    go_enter Tryz.func63, Tryz.ntmps63
    go_wp2_with (fail)
    refine HC1.out.mono ?_
    rintro e w1 ⟨rfl, hb1⟩
    go_wp2_with (fail)
    refine (HC2.out w1 (H2.out.below hb1)).mono ?_
    rintro e w2 ⟨rfl, hb2⟩
    go_wp2
    go_ret
    exact ⟨ret_int (by rw [HT2.out]), qtrans hb1 hb2⟩
  · have HT2 : Hid (treesErr old fresh = treeErr old) := by show _ = _; rw [HT.out, if_neg e1]
    have hne : (treeErr old != 0) = true := by simpa using e1
    generalize treeErr old = q at *
    clear HT e1
    go_enter Tryz.func63, Tryz.ntmps63
    go_wp2_with (fail)
    refine HC1.out.mono ?_
    rintro e w1 ⟨rfl, hb1⟩
    go_wp2
    go_ret
    exact ⟨ret_int (by rw [HT2.out]), hb1⟩
theorem any_take_at {α : Type} {p : α → Bool} {l : List α} {k : Nat} {x : α} (h : l[k]? = some x) : (l.take (k + 1)).any p = ((l.take k).any p || p x) := by
  rw [take_at h, List.any_append]; simp
theorem filter_take_at {α : Type} {p : α → Bool} {l : List α} {k : Nat} {x : α} (h : l[k]? = some x) : (l.take (k + 1)).filter p = (l.take k).filter p ++ (if p x then [x] else []) := by
  rw [take_at h, List.filter_append, List.filter_cons]; rfl
set_option maxRecDepth 100000 in
set_option maxHeartbeats 4000000 in
theorem xSeen_any (v1 v2 : Value) (old fresh : List OFile) (who : ByteArray) (w : World) (h1 : Reads w [] (filesT old) v1) (h2 : Reads w [] (filesT fresh) v2) (hs1 : SmallF old) (hs2 : SmallF fresh) (hd1 : ∀ f ∈ old, f.data.size ≤ 16000) (hd2 : ∀ f ∈ fresh, f.data.size ≤ 16000) (hl : old.length + fresh.length ≤ 4000) :
    Calls Tryz.prog 28 #[v1, v2, .string who] w (SeenPost (seenOf old fresh who) w) := by
  obtain ⟨i0, hi, hz0, hz1, hz2⟩ := info_parts infoChg
  obtain ⟨a1, cap1, rfl, hc1, hd1'⟩ := files_val h1
  obtain ⟨a2, cap2, rfl, hc2, hd2'⟩ := files_val h2
  have H1 := Lib.hid h1
  have H2 := Lib.hid h2
  have HCK := Lib.hid (fun W h h' => xcheck_any (.slice a1 old.length cap1) (.slice a2 fresh.length cap2) old fresh W h h' hs1 hs2 hd1 hd2)
  have HGR := Lib.hid (fun p W h hp => rGroups_any (.slice a1 old.length cap1) old p W h hs1 hd1 hp)
  have HS1 := Lib.hid hs1
  have HS2 := Lib.hid hs2
  have HR : Hid (seenOf old fresh who = if treesErr old fresh = 0 then (seenL old fresh who, 0) else ([], treesErr old fresh)) := rfl
  clear h1 h2 hs1 hs2 hd1 hd2
  have HA := Lib.hid (qalloc w (.cells #[] 40))
  have HO := Lib.hid (OwnC.new w w.heap.size (Nat.le_refl _))
  by_cases e1 : treesErr old fresh = 0
  · have HR2 : Hid (seenOf old fresh who = (seenL old fresh who, 0)) := by show _ = _; rw [HR.out, if_pos e1]
    rw [e1] at HCK
    obtain ⟨T1, T2⟩ := treesErr_two e1
    have HCH := Lib.hid (changes_diff T1.ord T2.ord)
    have HPL := Lib.hid (diff_len _ old fresh (Nat.le_refl _))
    have HGO := Lib.hid (fun c (hc : c ∈ diffC old fresh) => groupsOf_ok T1 (diff_path T1 T2 hc))
    have HDS := Lib.hid (fun c (hc : c ∈ diffC old fresh) => diff_size HS1.out HS2.out T1 T2 hc)
    have HSL : Hid (seenL old fresh who = (diffC old fresh).filter (seesC (rulesM old) who)) := rfl
    have HGD := Lib.hid (fun p g (hg : g ∈ ownersM (rulesM old) p) => (ownersM_good (rulesM_good old) p g hg).len)
    have HGN := Lib.hid (fun p => ownersM_len (rulesM_good old) p)
    clear e1 HR T1 T2
    go_enter Tryz.func28, Tryz.ntmps28
    go_wp2_with (fail)
    refine (HCK.out _ (H1.out.below HA.out) (H2.out.below HA.out)).mono ?_
    rintro e w1 ⟨rfl, hb1⟩
    have hb01 := qtrans HA.out hb1
    clear HCK
    go_wp2_with (fail)
    refine (r9Changes_any _ _ old fresh w1 (H1.out.below hb01) (H2.out.below hb01) (by omega)).mono ?_
    rintro e w2 ⟨cv, rfl, hcv, hb2⟩
    rw [HCH.out] at hcv
    have HO2 : Hid (OwnC w2 w.heap.size (.slice (some ⟨w.heap.size, 0, none⟩) 0 0) []) := (HO.out.below hb1).below hb2
    have hz1' : w.heap.size + 1 ≤ w1.heap.size := by have := hb1.size; simpa using this
    have hzw2 : w1.heap.size ≤ w2.heap.size := hb2.size
    have HCX : Hid (Reads w2 [w.heap.size] (chgsT (diffC old fresh)) cv) := by
      obtain ⟨xs, r1, _, r3⟩ := Reads.toRow hcv.reads
      exact Reads.ofRow r1 (fun _ b hb hc => by have := owns_block hcv hb; simp at hc; omega) (by rw [readsL_chgs] at r3 ⊢; exact r3)
    obtain ⟨ca, cc, rfl, hcc1, hcc2⟩ := chgs_val hcv.reads
    have hb02 := qtrans hb01 hb2
    rw [HSL.out] at HR2
    generalize diffC old fresh = cs at *
    have hcl : cs.length ≤ 4000 := by have := HPL.out; omega
    generalize hm : rulesM old = m at *
    clear hcv HPL HA HO hb1 hb2 hb01 HCH
    go_wp2
    go_loopw [8, 11] (fun ov iv wr => ∃ (k : Nat), k ≤ cs.length ∧ iv = .int .i64 k ∧ Hid (OwnC wr w.heap.size ov ((cs.take k).filter (seesC m who))) ∧ Hid (∀ b, ov.ownBlock = some b → b ∈ [w.heap.size] ∨ w2.heap.size ≤ b) ∧ Mod [w.heap.size] w2 wr)
      (fun _ iv _ => cs.length - (intOf iv).toNat)
    case atStart => exact ⟨0, Nat.zero_le _, rfl, HO2, fun b hb => by cases hb; exact .inl (by simp), Mod.refl _ _⟩
    case round =>
      obtain ⟨k, hk, rfl, HO, HOB, hmod⟩ := hrel
      have hk0 : (0 : Int) ≤ (k : Int) := by omega
      by_cases hkl : k < cs.length
      · obtain ⟨c, hc⟩ : ∃ c, cs[k]? = some c := ⟨_, List.getElem?_eq_getElem hkl⟩
        obtain ⟨b1, o1, rfl, hbb1, d0, -, -, -, -⟩ := chgs_elem (HCX.out.mod hmod) hc
        have hk1 : (k : Int) < (cs.length : Int) := by omega
        have hcm := List.mem_of_getElem? hc
        have HFT := Lib.hid (filter_take_at (p := seesC m who) hc)
        have HSC : Hid (seesC m who c = (ownersM m c.path).any fun g => memS who g) := rfl
        have hpl : ((cs.take k).filter (seesC m who)).length ≤ 4000 := by
          have := List.length_filter_le (seesC m who) (cs.take k)
          rw [List.length_take] at this; omega
        have HGC := Lib.hid (fun W h => HGR.out c.path W h (HDS.out c hcm))
        rw [HGO.out c hcm] at HGC
        have HGL := Lib.hid (HGD.out c.path)
        have hgl := HGN.out c.path
        have hbw : Below w.heap.size w wr := hb02.trans (hmod.upto hb02.size (fun k hk => by simp at hk; omega))
        have HCC := Lib.hid (fun W (h : Mod [w.heap.size] w2 W) => chgs_elem (HCX.out.mod h) hc)
        clear hc hcm
        generalize ownersM m c.path = gs at *
        generalize (cs.take k).filter (seesC m who) = pre at *
        go_wp2_with (fail)
        refine (HGC.out wr (H1.out.below hbw)).mono ?_
        rintro e w5 ⟨gv, rfl, hgv, hb5⟩
        simp only [] at hgv
        obtain ⟨ga, gc, rfl, -, -⟩ := groups_val hgv
        have HGV := Lib.hid hgv
        have hmod5 : Mod [w.heap.size] w2 w5 := hmod.trans (Mod.of hb5)
        have HO5 := Lib.hid (HO.out.below hb5)
        obtain ⟨b2, o2, ea, hbb2, f0, f1, f2, f3, f4⟩ := HCC.out w5 hmod5
        cases ea
        clear hgv HGC hb5 HO HCC d0 hbw hmod hbb1
        go_wp2
        go_loop [14, 15] (fun bv iv => ∃ j : Nat, j ≤ gs.length ∧ iv = .int .i64 j ∧ bv = .bool ((gs.take j).any fun g => memS who g)) (fun _ iv => gs.length - (intOf iv).toNat)
        case atStart => exact ⟨0, Nat.zero_le _, rfl, rfl⟩
        case round =>
          obtain ⟨j, hj, rfl, rfl⟩ := hrel
          have hj0 : (0 : Int) ≤ (j : Int) := by omega
          by_cases hjl : j < gs.length
          · obtain ⟨g, hg⟩ : ∃ g, gs[j]? = some g := ⟨_, List.getElem?_eq_getElem hjl⟩
            obtain ⟨b3, o3, ag, cg, rfl, hb3, c3, q1, q2, HRG⟩ := groups_elem HGV.out hg
            have hj1 : (j : Int) < (gs.length : Int) := by omega
            have HAT := Lib.hid (any_take_at (p := fun g => memS who g) hg)
            have HHA := Lib.hid (rHas_any (.slice ag g.length cg) who g w5 HRG.out (by have := HGL.out g (List.mem_of_getElem? hg); omega))
            clear hg
            cases hany : (gs.take j).any fun g => memS who g with
            | true =>
              have HN : Hid (((gs.take (j + 1)).any fun g => memS who g) = true) := by show _ = _; rw [HAT.out, hany]; rfl
              go_wp2
              go_round
              case rel => exact ⟨j + 1, by omega, by go_num, by rw [HN.out]⟩
              case measure => simp [intOf]; omega
            | false =>
              have HN : Hid (((gs.take (j + 1)).any fun g => memS who g) = memS who g) := by show _ = _; rw [HAT.out, hany]; rfl
              go_wp2_with (fail)
              refine HHA.out.mono ?_
              rintro e w' ⟨rfl, rfl⟩
              go_wp2
              go_round
              case rel => exact ⟨j + 1, by omega, by go_num, by rw [HN.out]⟩
              case measure => simp [intOf]; omega
          · have hjl' : j = gs.length := by omega
            subst hjl'
            rw [List.take_length]
            cases hse : gs.any fun g => memS who g with
            | false =>
              have HN : Hid ((cs.take (k + 1)).filter (seesC m who) = pre) := by show _ = _; rw [HFT.out, HSC.out, hse]; simp
              clear hse HGV
              go_wp2
              go_roundw
              case rel => exact ⟨k + 1, by omega, by go_num, by rw [HN.out]; exact HO5, HOB, hmod5⟩
              case measure => simp [intOf]; omega
            | true =>
              have HN : Hid ((cs.take (k + 1)).filter (seesC m who) = pre ++ [c]) := by show _ = _; rw [HFT.out, HSC.out, hse]; simp
              have hown := HO5.out
              have hz5 : w.heap.size ≤ w5.heap.size := by have := hmod5.size; omega
              clear hse HGV
              go_wp2_with (at_builtin; refine wpList_append_own_at _ rfl _ _ 37 rfl w.heap.size 40 i0 _ 5 56 Tryz.underlying37 hi hz0 hz1 hz2 rfl (by decide) _ _ _ rfl (hown.alloc _) ⟨w5.heap.size, 0, none⟩ 1 1 [.string c.path, .bool c.hasOld, .bool c.hasNew, .string c.old, .string c.fresh] rfl rfl (cell_five _ _ _ _ _ _ _) (by simp [Value.oneCell']) (by unfold maxLen; omega) (by omega) (by simp; omega) ?_)
              intro v8 w8 hown8 hg8 _ hbk8
              have HO8 : Hid (OwnC w8 w.heap.size v8 (pre ++ [c])) := by refine Lib.hid ?_; unfold OwnC; rw [List.length_append, chgCells_snoc]; exact hown8
              have hmod8 : Mod [w.heap.size] w2 w8 := (hmod5.trans (Mod.of (qalloc _ _))).grow hg8 (fun k hk => HOB.out k hk)
              have HOB8 : Hid (∀ b, v8.ownBlock = some b → b ∈ [w.heap.size] ∨ w2.heap.size ≤ b) := fun b hb => by
                rcases hbk8 with h | h
                · rw [h] at hb; exact HOB.out b hb
                · rw [h] at hb; cases hb; right; have := hmod5.size; simp; omega
              clear hown8 hg8 hbk8 hown HO5
              rw [← HN.out] at HO8
              go_wp2
              go_roundw
              case rel => exact ⟨k + 1, by omega, by go_num, HO8, HOB8, hmod8⟩
              case measure => simp [intOf]; omega
      · have hkl' : k = cs.length := by omega
        subst hkl'
        rw [List.take_length] at HO
        have hrd := HO.out.reads
        obtain ⟨oa, oc, rfl, -, -⟩ := chgs_val hrd
        have hbf : Below w.heap.size w wr := hb02.trans (hmod.upto hb02.size (fun k hk => by simp at hk; omega))
        go_wp2
        go_ret2
        rw [HR2.out]
        exact ⟨_, rfl, hrd, hbf⟩
  · have HR2 : Hid (seenOf old fresh who = ([], treesErr old fresh)) := by show _ = _; rw [HR.out, if_neg e1]
    have hne : (treesErr old fresh != 0) = true := by simpa using e1
    clear HR e1
    generalize treesErr old fresh = q at *
    go_enter Tryz.func28, Tryz.ntmps28
    go_wp2_with (fail)
    refine (HCK.out _ (H1.out.below HA.out) (H2.out.below HA.out)).mono ?_
    rintro e w1 ⟨rfl, hb1⟩
    have HO2 := Lib.hid (HO.out.below hb1).reads
    go_wp2
    go_ret2
    rw [HR2.out]
    exact ⟨_, rfl, HO2.out, qtrans HA.out hb1⟩
end Go.Proofs.YtidkpnabdfiilaaGreatDoor
