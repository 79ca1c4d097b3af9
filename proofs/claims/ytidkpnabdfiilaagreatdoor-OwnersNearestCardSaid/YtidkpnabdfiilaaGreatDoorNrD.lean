/- tree.Patch without changes: the files themselves, or an error. -/
import Derived.Test.YtidkpnabdfiilaaGreatDoorNrB
import Derived.Test.YtidkpnabdfiilaaGreatDoorNrC
import Derived.Test.YtidkpnabdfiilaaGreatDoorShN
import Derived.Test.YtidkpnabdfiilaaGreatDoorQ24
namespace Go.Proofs.YtidkpnabdfiilaaGreatDoor
open Go.RowKit
open Go.Maps (Keyed)

theorem tree_names : ∀ (l pre : List OFile), treeFrom pre l = 0 → ∀ f ∈ l, pathS f.path = true
  | [], _, _, f, hf => by cases hf
  | g :: r, pre, h, f, hf => by
    rw [treeFrom] at h
    split at h
    · rename_i hp
      split at h
      · cases h
      · rcases List.mem_cons.1 hf with rfl | hf
        · exact hp
        · exact tree_names r _ h f hf
    · cases h
theorem tree_len {fs : List OFile} (h : treeErr fs = 0) : fs.length ≤ 200 := by
  unfold treeErr at h
  split at h
  · cases h
  · omega
theorem enc_paths (fs : List OFile) : (fs.map (·.path.data.toList)).map encStr = (fs.map (·.path)).map .string := by
  rw [List.map_map, List.map_map]
  refine List.map_congr_left fun f _ => ?_
  simp [encStr]
theorem getD_path {fs : List OFile} {k : Nat} {f : OFile} (h : fs[k]? = some f) : (fs.map (·.path)).getD k ByteArray.empty = f.path := by
  rw [List.getD_eq_getElem?_getD, List.getElem?_map, h]; rfl
attribute [local go_sem] run_mkMap
set_option maxRecDepth 100000 in
set_option maxHeartbeats 2000000 in
theorem Patch_any (v : Value) (fs : List OFile) (w : World) (hv : Reads w [] (filesT fs) v) (hs : SizedF fs) :
    Calls Tryz.prog 44 #[v, .slice none 0 0] w fun e w' => ∃ (lv : Value) (er : Int), e = .returned (.tuple #[lv, .int .i64 er]) ∧ (er = 0 → treeErr fs = 0 ∧ Reads w' [] (filesT fs) lv) ∧ Below w.heap.size w w' := by
  obtain ⟨a, cap, rfl, hc1, hc2⟩ := files_val hv
  obtain ⟨i0, hi, hz0, hz1, hz2⟩ := info_parts infoFile
  have HV := Lib.hid hv
  have HS := Lib.hid hs
  have HC := Lib.hid (treeCheck_x _ fs w hv hs)
  clear hv hs
  go_enter Tryz.func44, Tryz.ntmps44
  go_wp2_with (fail)
  refine HC.out.mono ?_
  rintro e w1 ⟨er, rfl, ht, hb1⟩
  by_cases her : er = 0
  rotate_left
  · have herb : (er != 0) = true := by simp [her]
    go_wp2
    go_ret2
    exact ⟨_, _, rfl, fun h => absurd h her, hb1⟩
  have herb : (er != 0) = false := by simp [her]
  have HT := Lib.hid (ht her)
  clear ht her HC
  have HP : Hid (fs.Pairwise lessF) := (tree_order fs [] (treeErr_from HT.out)).2
  have HZ : Hid (∀ f ∈ fs, f.path.size ≤ 100) := fun f hf => path_size (tree_names fs [] (treeErr_from HT.out) f hf)
  have hl200 := tree_len HT.out
  have hA1 := qalloc w1 (.map #[] 0)
  go_wp2
  go_loopw [25] (fun i wr => ∃ k : Nat, k ≤ fs.length ∧ i = .int .i64 k ∧ Below w1.heap.size w1 wr ∧ Hid (IsMapS Tryz.prog 9 wr w1.heap.size k (dataM (fs.take k)))) (fun i _ => fs.length - (intOf i).toNat)
  case atStart => exact ⟨0, Nat.zero_le _, rfl, hA1, IsMapS.made _ _ _⟩
  case round =>
    obtain ⟨k, hk, rfl, hb, HM⟩ := hrel
    by_cases hlt : k < fs.length
    · obtain ⟨f, hf⟩ : ∃ f, fs[k]? = some f := ⟨_, List.getElem?_eq_getElem hlt⟩
      have HTK := Lib.hid (take_at hf)
      have hsz := HZ.out f (List.mem_of_getElem? hf)
      obtain ⟨b, o, rfl, hbb, hcp, hcd⟩ := files_elem ((HV.out.below hb1).below hb) hf
      have hA := qalloc wr (.cells #[.string f.path, .string f.data] 55)
      obtain ⟨w5, hput, hm5, hg5⟩ := (HM.out.below hA).put strKeyed Tryz.underlying114 (by unfold maxLen; omega) (key_str f.path (by omega)) (.string f.data)
      rw [dataM_snoc, ← HTK.out] at hm5
      have HM5 := Lib.hid hm5
      have hb5 : Below w1.heap.size w1 w5 := (qtrans hb hA).grown hg5 (qtrans hb hA).size (fun k e => by cases e; exact Nat.le_refl _)
      clear hm5 hg5 hf
      go_wp2
      go_roundw
      case rel => exact ⟨k + 1, by omega, by go_num, hb5, HM5⟩
      case measure => simp [intOf]; omega
    · have hkl : k = fs.length := by omega
      rw [hkl, List.take_length] at HM
      clear hkl
      obtain ⟨D, hown, hDs, hK⟩ := keys_paths HM.out HP.out
      have HK := Lib.hid hK
      have HcK := Lib.hid (Tryz.maps_Keys (some w1.heap.size) wr)
      have HcS := Lib.hid (Tryz.slices_Sorted_keys w1.heap.size fs.length D heldE wr hown (by unfold maxLen; omega) (by omega))
      clear hown hK hDs
      generalize wr = wo at *
      go_wp2
      go_loopw [37] (fun i wr => i = .int .i64 0 ∧ wr = wo) (fun _ _ => 0)
      case atStart => exact ⟨rfl, rfl⟩
      case round =>
        obtain ⟨rfl, rfl⟩ := hrel
        go_wp2_with (fail)
        refine HcK.out.mono ?_
        rintro e w2 ⟨rfl, rfl⟩
        go_wp2_with (fail)
        refine HcS.out.mono ?_
        rintro e w3 ⟨sv, ss, rfl, hperm, hrow, -, hb3⟩
        have hssl : ss.length = fs.length := by
          have := congrArg List.length (HK.out ss hperm)
          simpa using this
        rw [HK.out ss hperm, enc_paths, hssl] at hrow
        obtain ⟨sa, sc, rfl⟩ := owns_val hrow
        have HST : Hid (Strs w3 (.slice sa (fs.map (·.path)).length sc) (fs.map (·.path))) := by
          rw [List.length_map]
          show IsRow _ _ _ _ _
          rw [List.length_map]
          exact owns_row hrow
        have HM3 := Lib.hid ((HM.out.below (qalloc _ _)).below hb3)
        have hbw : Below w.heap.size w w3 := qtrans hb1 (qtrans hb (qtrans (qalloc _ _) hb3))
        clear hperm hrow hssl HcK HcS HM HK
        go_wp2
        go_loopw [64, 13, 15] (fun i rv _ wr => ∃ k : Nat, k ≤ fs.length ∧ i = .int .i64 k ∧ OwnF wr w3.heap.size rv (fs.take k) ∧ Below w3.heap.size w3 wr) (fun i _ _ _ => fs.length - (intOf i).toNat)
        case atStart => exact ⟨0, Nat.zero_le _, rfl, ⟨rfl, .inl ⟨rfl, rfl⟩⟩, qrefl _⟩
        case round =>
          obtain ⟨q, hq, rfl, hof, hbq⟩ := hrel
          by_cases hql : q < fs.length
          · obtain ⟨f, hf⟩ : ∃ f, fs[q]? = some f := ⟨_, List.getElem?_eq_getElem hql⟩
            have HTK := Lib.hid (take_at hf)
            have hsz := HZ.out f (List.mem_of_getElem? hf)
            obtain ⟨b, o, rfl, hbb, hcp⟩ := (HST.out.below hbq).elem (i := q) (by rw [List.length_map]; exact hql)
            rw [getD_path hf] at hcp
            have hlook := (HM3.out.below hbq).look strKeyed Tryz.underlying114 (Tryz.zeroValue9 wr) (key_str f.path (by omega))
            rw [dataM_at HP.out hf] at hlook
            simp only [Option.getD_some] at hlook
            have htl : (fs.take q).length = q := by rw [List.length_take]; omega
            unfold OwnF at hof
            rw [htl] at hof
            obtain ⟨ra, rc, rfl⟩ := owns_val hof
            clear hf
            go_wp2_with (at_builtin; refine wpList_append_own _ rfl _ _ 22 rfl w3.heap.size 55 i0 _ 2 32 Tryz.underlying22 hi hz0 hz1 hz2 rfl (by decide) _ _ _ rfl (hof.alloc _) _ 1 1 [.string f.path, .string f.data] rfl rfl (cell_two _ _ _ _) (by simp [Value.oneCell']) (by unfold maxLen; omega) (by omega) (by have := hbq.size; simp; omega) ?_)
            intro v4 w4 hown4 hg4 _
            have hb4 : Below w3.heap.size w3 w4 := (qtrans hbq (qalloc _ _)).grown hg4 (qtrans hbq (qalloc _ _)).size (fun k hk => owns_block hof hk)
            have hs4 : OwnF w4 w3.heap.size v4 (fs.take (q + 1)) := by
              unfold OwnF
              rw [HTK.out, fileCells_snoc, List.length_append, htl]; exact hown4
            clear hg4 hof hown4
            go_wp2
            go_roundw
            case rel => exact ⟨q + 1, by omega, by go_num, hs4, hb4⟩
            case measure => simp [intOf]; omega
          · have hkl : q = fs.length := by omega
            rw [hkl, List.take_length] at hof
            clear hkl
            have HR := Lib.hid hof.reads
            have HC2 := Lib.hid (treeCheck_x _ fs wr hof.reads HS.out)
            obtain ⟨ra, rc, rfl⟩ := hof.val
            clear hof
            go_wp2_with (fail)
            refine HC2.out.mono ?_
            rintro e w5 ⟨er2, rfl, -, hb5⟩
            have hbe : Below w.heap.size w w5 := qtrans hbw (qtrans hbq hb5)
            by_cases her : er2 = 0
            · have herb2 : (er2 != 0) = false := by simp [her]
              clear her
              go_wp2
              go_ret2
              exact ⟨_, _, rfl, fun _ => ⟨HT.out, HR.out.below hb5⟩, hbe⟩
            · have herb2 : (er2 != 0) = true := by simp [her]
              go_wp2
              go_ret2
              exact ⟨_, _, rfl, fun h => absurd h her, hbe⟩
end Go.Proofs.YtidkpnabdfiilaaGreatDoor
