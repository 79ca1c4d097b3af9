/- approval.examine. -/
import Derived.Test.YtidkpnabdfiilaaGreatDoorExA
namespace Go.Proofs.YtidkpnabdfiilaaGreatDoor
open Go.RowKit

theorem filter_small {fs : List OFile} (hs : SmallF fs) (p : OFile → Bool) : SmallF (fs.filter p) :=
  ⟨Nat.le_trans (List.length_filter_le _ _) hs.len, fun f hf => hs.each f (List.mem_filter.1 hf).1⟩
theorem diff_size {old fresh : List OFile} (hs1 : SmallF old) (hs2 : SmallF fresh) (T1 : TreeOk old) (T2 : TreeOk fresh) {c : FChg} (hc : c ∈ diffC old fresh) : c.path.size ≤ 30000 := by
  have := diff_path T1 T2 hc
  have _ := hs1; have _ := hs2
  unfold pathS pathB at this
  simp only [Bool.and_eq_true, decide_eq_true_eq] at this
  have h3 := this.1
  rw [← sz]; omega
theorem map_take_at {α β : Type} {f : α → β} {l : List α} {k : Nat} {x : α} (h : l[k]? = some x) : (l.take (k + 1)).map f = (l.take k).map f ++ [f x] := by
  rw [take_at h, List.map_append]; rfl
def ExamPost (x : List OwnedC × Int) (w : World) (e : Ending) (w' : World) : Prop := ∃ lv, e = .returned (.tuple #[lv, .int .i64 x.2]) ∧ Reads w' [] (ownedsT x.1) lv ∧ Below w.heap.size w w'
set_option maxRecDepth 100000 in
set_option maxHeartbeats 4000000 in
theorem examine_any (v1 v2 : Value) (old fresh : List OFile) (w : World) (h1 : Reads w [] (filesT old) v1) (h2 : Reads w [] (filesT fresh) v2) (hs1 : SmallF old) (hs2 : SmallF fresh) (hl : old.length + fresh.length ≤ 4000) :
    Calls Tryz.prog 60 #[v1, v2] w (ExamPost (examineOf old fresh) w) := by
  have HC1 := Lib.hid (treeCheck_any v1 old w h1 hs1)
  obtain ⟨i0, hi, hz0, hz1, hz2⟩ := info_parts infoOwned
  obtain ⟨a1, cap1, rfl, hc1, hd1⟩ := files_val h1
  obtain ⟨a2, cap2, rfl, hc2, hd2⟩ := files_val h2
  have H1 := Lib.hid h1
  have H2 := Lib.hid h2
  have HC2 := Lib.hid (fun W h => treeCheck_any (.slice a2 fresh.length cap2) fresh W h hs2)
  have HS1 := Lib.hid hs1
  have HS2 := Lib.hid hs2
  have HR : Hid (examineOf old fresh = if treesErr old fresh = 0 then (examL old fresh, 0) else ([], treesErr old fresh)) := rfl
  clear h1 h2 hs1 hs2
  by_cases e1 : treeErr old = 0
  · have HT : Hid (treesErr old fresh = treeErr fresh) := by show _ = _; rw [treesErr, if_pos e1]
    rw [e1] at HC1
    by_cases e2 : treeErr fresh = 0
    · have HR2 : Hid (examineOf old fresh = (examL old fresh, 0)) := by show _ = _; rw [HR.out, HT.out, if_pos e2]
      rw [e2] at HC2
      have T1 := (treeErr_iff old).1 e1
      have T2 := (treeErr_iff fresh).1 e2
      have HPL := Lib.hid (diff_len _ old fresh (Nat.le_refl _))
      have HGF := Lib.hid (fun c (hc : c ∈ diffC old fresh) => groupsOf_filter T1 (diff_path T1 T2 hc))
      have HDS := Lib.hid (fun c (hc : c ∈ diffC old fresh) => diff_size HS1.out HS2.out T1 T2 hc)
      have HFS := Lib.hid (filter_small HS1.out ownF)
      have HEX : Hid (examL old fresh = (diffC old fresh).map fun c => (c, ownersM (rulesM old) c.path)) := rfl
      clear e1 e2 HR T1 T2 HT
      go_enter Tryz.func60, Tryz.ntmps60
      go_wp2_with (fail)
      refine HC1.out.mono ?_
      rintro e w1 ⟨rfl, hb1⟩
      go_wp2_with (fail)
      refine (HC2.out w1 (H2.out.below hb1)).mono ?_
      rintro e w2 ⟨rfl, hb2⟩
      have hb02 := qtrans hb1 hb2
      go_wp2_with (fail)
      refine (rulesOnly_any _ old w2 (H1.out.below hb02) HS1.out).mono ?_
      rintro e w3 ⟨rv, rfl, hrv, hb3⟩
      have hrr := hrv.reads
      obtain ⟨ra, rc, rfl, -, -⟩ := files_val hrr
      have HRV := Lib.hid hrr
      have hb03 := qtrans hb02 hb3
      clear HC1 HC2 hrv hrr
      go_wp2_with (fail)
      refine (difference_any _ _ old fresh _ (H1.out.below hb03) (H2.out.below hb03) (by omega)).mono ?_
      rintro e w4 ⟨cv, rfl, hcv, hb4⟩
      have hcr := hcv.reads
      obtain ⟨ca, cc, rfl, hcc1, hcc2⟩ := chgs_val hcr
      have HCV := Lib.hid hcr
      have HRV4 := Lib.hid (HRV.out.below hb4)
      have hb04 := qtrans hb03 hb4
      clear hcr hcv HRV
      rw [HEX.out] at HR2
      clear HEX
      generalize diffC old fresh = cs at *
      have hcl : cs.length ≤ 4000 := by have := HPL.out; omega
      generalize rulesM old = m at *
      generalize old.filter ownF = own at *
      go_wp2
      go_loopw [9, 30] (fun ov iv wr => ∃ (k : Nat), k ≤ cs.length ∧ iv = .int .i64 k ∧ Hid (OwnT wr [] w4.heap.size 149 6 ownedT ov ((cs.take k).map fun c => (c, ownersM m c.path))) ∧ Below w4.heap.size w4 wr)
        (fun _ iv _ => cs.length - (intOf iv).toNat)
      case atStart => exact ⟨0, Nat.zero_le _, rfl, OwnT.nil _ _ _ _ _ _, qrefl _⟩
      case round =>
        obtain ⟨k, hk, rfl, HO, hbel⟩ := hrel
        have hk0 : (0 : Int) ≤ (k : Int) := by omega
        by_cases hkl : k < cs.length
        · obtain ⟨c, hc⟩ : ∃ c, cs[k]? = some c := ⟨_, List.getElem?_eq_getElem hkl⟩
          obtain ⟨b1, o1, rfl, hbb1, d0, d1, d2, d3, d4⟩ := chgs_elem (HCV.out.below hbel) hc
          have hk1 : (k : Int) < (cs.length : Int) := by omega
          have hcm := List.mem_of_getElem? hc
          have HMT := Lib.hid (map_take_at (f := fun c : FChg => (c, ownersM m c.path)) hc)
          have hml : ((cs.take k).map fun c : FChg => (c, ownersM m c.path)).length ≤ 4000 := by rw [List.length_map, List.length_take]; omega
          have HGA := Lib.hid (fun W h => Groups_anyX (.slice ra own.length rc) own c.path W h HFS.out (HDS.out c hcm))
          rw [HGF.out c hcm] at HGA
          have hA := qalloc wr (.cells #[.string c.path, .bool c.hasOld, .bool c.hasNew, .string c.old, .string c.fresh] 40)
          have hbA := qtrans hbel hA
          have hBX := CBox.new wr 40 #[.string c.path, .bool c.hasOld, .bool c.hasNew, .string c.old, .string c.fresh]
          have HBX := Lib.hid hBX
          have hAs : (wr.alloc (.cells #[.string c.path, .bool c.hasOld, .bool c.hasNew, .string c.old, .string c.fresh] 40)).heap.size = wr.heap.size + 1 := by simp
          have HAS := Lib.hid hAs
          clear hc hcm hBX hAs
          generalize ((cs.take k).map fun c : FChg => (c, ownersM m c.path)) = pre at *
          generalize hgs : ownersM m c.path = gs at *
          go_wp2_with (fail)
          refine (HGA.out _ (HRV4.out.below hbA)).mono ?_
          rintro e w5 ⟨gv, rfl, hgv, hb5⟩
          simp only [] at hgv
          obtain ⟨ga, gc, rfl, hgc1, hgc2⟩ := groups_val hgv
          have HG5 : Hid (Reads w5 u9.ownBlock.toList (groupsT gs) (.slice ga gs.length gc)) := hgv.fewer (fun j hj => by
            have h3 := OwnT.lt HO.out (b := j) (by simpa using hj)
            rw [HAS.out]
            simp; omega)
          obtain ⟨xs, hrow, hrl⟩ := (HO.out.below hA).below hb5
          have HRL := Lib.hid hrl
          have q0 := (HBX.out.below hb5).cell (i := 0) rfl
          have q1 := (HBX.out.below hb5).cell (i := 1) rfl
          have q2 := (HBX.out.below hb5).cell (i := 2) rfl
          have q3 := (HBX.out.below hb5).cell (i := 3) rfl
          have q4 := (HBX.out.below hb5).cell (i := 4) rfl
          have ql := (HBX.out.below hb5).lt
          have hb45 := qtrans hbA hb5
          have hz45 := hb45.size
          clear hgv HGA hA hbA hb5 HBX hbel hrl d0 d1 d2 d3 d4
          go_wp2_with (at_builtin; refine wpList_append_own_at _ rfl _ _ 102 rfl w4.heap.size 149 i0 _ 6 80 Tryz.underlying102 hi hz0 hz1 hz2 rfl (by decide) _ _ _ rfl (hrow.alloc _) ⟨w5.heap.size, 0, none⟩ 1 1 [.string c.path, .bool c.hasOld, .bool c.hasNew, .string c.old, .string c.fresh, .slice ga gs.length gc] rfl rfl (cell_six _ _ _ _ _ _ _ _ rfl) (by simp [Value.oneCell']) (by unfold maxLen; omega) (by omega) (by simp; omega) ?_)
          intro v' w8 hown8 hg8 _ hbk8
          have hA8 := qalloc w5 (.cells #[.string c.path, .bool c.hasOld, .bool c.hasNew, .string c.old, .string c.fresh, .slice ga gs.length gc] 149)
          have HO8 : Hid (OwnT w8 [] w4.heap.size 149 6 ownedT v' (pre ++ [(c, gs)])) := OwnT.grown (hrow.alloc _) (HRL.out.below hA8) ((ReadsL.cons (Reads.leaf' _ _ _) (ReadsL.cons (Reads.leaf' _ _ _) (ReadsL.cons (Reads.leaf' _ _ _) (ReadsL.cons (Reads.leaf' _ _ _) (ReadsL.cons (Reads.leaf' _ _ _) (ReadsL.cons (by rw [List.append_nil]; exact HG5.out) (ReadsL.nil _ _))))))).below hA8) hown8 hg8 (by simpa using hbk8)
          have hb8 : Below w4.heap.size w4 w8 := (qtrans hb45 hA8).grown hg8 (by simp; omega) (fun k hk => owns_block hrow hk)
          clear hg8 hbk8 hown8 hA8 hrow HRL HG5
          rw [← HMT.out] at HO8
          go_wp2
          go_roundw
          case rel => exact ⟨k + 1, by omega, by go_num, HO8, hb8⟩
          case measure => simp [intOf]; omega
        · have hkl' : k = cs.length := by omega
          subst hkl'
          rw [List.take_length] at HO
          obtain ⟨oa, oc, rfl, -, -⟩ := OwnT.val HO.out
          go_wp2
          go_ret2
          rw [HR2.out]
          exact ⟨_, rfl, OwnT.reads0 HO.out, qtrans hb04 hbel⟩
    · have HR2 : Hid (examineOf old fresh = ([], treeErr fresh)) := by show _ = _; rw [HR.out, HT.out, if_neg e2]
      have hne : (treeErr fresh != 0) = true := by simpa using e2
      generalize treeErr fresh = q at *
      clear e1 e2 HR HT
      go_enter Tryz.func60, Tryz.ntmps60
      go_wp2_with (fail)
      refine HC1.out.mono ?_
      rintro e w1 ⟨rfl, hb1⟩
      go_wp2_with (fail)
      refine (HC2.out w1 (H2.out.below hb1)).mono ?_
      rintro e w2 ⟨rfl, hb2⟩
      go_wp2
      go_ret2
      rw [HR2.out]
      exact ⟨_, rfl, Reads.nilRow _ _ _ _, qtrans hb1 hb2⟩
  · have HT : treesErr old fresh = treeErr old := by rw [treesErr, if_neg e1]
    have HR2 : Hid (examineOf old fresh = ([], treeErr old)) := by show _ = _; rw [HR.out, HT, if_neg e1]
    have hne : (treeErr old != 0) = true := by simpa using e1
    generalize treeErr old = q at *
    clear e1 HR HT
    go_enter Tryz.func60, Tryz.ntmps60
    go_wp2_with (fail)
    refine HC1.out.mono ?_
    rintro e w1 ⟨rfl, hb1⟩
    go_wp2
    go_ret2
    rw [HR2.out]
    exact ⟨_, rfl, Reads.nilRow _ _ _ _, hb1⟩
end Go.Proofs.YtidkpnabdfiilaaGreatDoor
