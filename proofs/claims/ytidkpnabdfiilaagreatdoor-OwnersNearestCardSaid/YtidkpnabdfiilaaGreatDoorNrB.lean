/- tree.Check at files of any size: where it finds no error, the files are a tree. -/
import Derived.Test.YtidkpnabdfiilaaGreatDoorNrA
import Derived.Test.YtidkpnabdfiilaaGreatDoorQ17
import Derived.IntWalk
namespace Go.Proofs.YtidkpnabdfiilaaGreatDoor
open Go.RowKit

theorem path_size {s : ByteArray} (h : pathS s = true) : s.size ≤ 100 := by
  rw [pathS, pathB, Bool.and_eq_true] at h
  have := h.1
  simp at this
  omega
attribute [local go_sem] run_mkMap
set_option maxRecDepth 100000 in
set_option maxHeartbeats 2000000 in
theorem treeCheck_x (v : Value) (fs : List OFile) (w : World) (hv : Reads w [] (filesT fs) v) (hs : SizedF fs) :
    Calls Tryz.prog 47 #[v] w fun e w' => ∃ er : Int, e = .returned (.int .i64 er) ∧ (er = 0 → treeErr fs = 0) ∧ Below w.heap.size w w' := by
  obtain ⟨a, cap, rfl, hc1, hc2⟩ := files_val hv
  have HV := Lib.hid hv
  have HS := Lib.hid hs
  clear hv hs
  by_cases h0 : 200 < fs.length
  · go_enter Tryz.func47, Tryz.ntmps47
    go_wp2
    go_ret
    exact ⟨_, rfl, fun h => by omega, qrefl _⟩
  have H : Hid (treeErr fs = if treeFrom [] fs = 0 then (if someDir fs fs then 7 else 0) else treeFrom [] fs) := by show _ = _; unfold treeErr; rw [if_neg h0]
  go_enter Tryz.func47, Tryz.ntmps47
  go_wp2
  go_loopw [15, 5] (fun i _ wr => ∃ k : Nat, k ≤ fs.length ∧ i = .int .i64 k ∧ Below w.heap.size w wr ∧ Hid (IsMapS Tryz.prog 9 wr w.heap.size k (pathF (fs.take k))) ∧ Hid (treeFrom [] fs = treeFrom (fs.take k) (fs.drop k)) ∧ Hid (∀ (j : Nat) (g : OFile), j < k → fs[j]? = some g → g.path.size ≤ 100)) (fun i _ _ => fs.length - (intOf i).toNat)
  case atStart => exact ⟨0, Nat.zero_le _, rfl, qalloc _ _, IsMapS.made _ _ _, rfl, fun j g hj _ => by omega⟩
  case round =>
    obtain ⟨k, hk, rfl, hb, HM, HE, HP⟩ := hrel
    by_cases hlt : k < fs.length
    · obtain ⟨f, hf⟩ : ∃ f, fs[k]? = some f := ⟨_, List.getElem?_eq_getElem hlt⟩
      have HE2 := Lib.hid (HE.out.trans (treeFrom_at hf))
      have hsf := HS.out f (List.mem_of_getElem? hf)
      obtain ⟨b, o, rfl, hbb, hcp, hcd⟩ := files_elem (HV.out.below hb) hf
      have HTK := Lib.hid (take_at hf)
      have hA := qalloc wr (.cells #[.string f.path, .string f.data] 55)
      have HCB := Lib.hid (CBox.new wr 55 #[.string f.path, .string f.data])
      have HO : Hid (orderBad (fs.take k) f = false ∧ k = 0 ∨ ∃ j g, k = j + 1 ∧ fs[j]? = some g ∧ orderBad (fs.take k) f = leB f.path.data.toList g.path.data.toList) := by
        cases k with
        | zero => exact .inl ⟨orderBad_zero _ _, rfl⟩
        | succ j =>
          obtain ⟨g, hg⟩ : ∃ g, fs[j]? = some g := ⟨_, List.getElem?_eq_getElem (by omega)⟩
          exact .inr ⟨j, g, rfl, hg, orderBad_succ hg⟩
      have HFK := Lib.hid hf
      clear HE hf
      cases hp : pathS f.path with
      | false =>
        go_wp2_with (go_at_call 79; refine (isPath_x _ _ hsf.1).mono ?_; rintro e w2 ⟨rfl, hb2⟩; rw [hp])
        go_ret
        exact ⟨_, rfl, fun h => by omega, qtrans hb (qtrans hA hb2)⟩
      | true =>
        have hp100 := path_size hp
        have HP2 : Hid (∀ (j : Nat) (g : OFile), j < k + 1 → fs[j]? = some g → g.path.size ≤ 100) := fun j g hj hg => by
          by_cases e : j = k
          · subst e
            rw [HFK.out] at hg
            cases hg; exact hp100
          · exact HP.out j g (by omega) hg
        go_wp2_with (fail)
        refine (isPath_x _ _ hsf.1).mono ?_
        rintro e w2 ⟨rfl, hb2⟩
        rw [hp]
        have hcb := (HCB.out.below hb2).cell (i := 1) rfl
        have hcl := (HCB.out.below hb2).lt
        go_wp2_with (fail)
        refine (blob_any _ _).mono ?_
        rintro e w3 ⟨rfl, hb3⟩
        go_wp2_with (fail)
        refine (oCheck_x _ hsf.2 _).mono ?_
        rintro e w4 ⟨er, rfl, hb4⟩
        have hb24 := qtrans hb2 (qtrans hb3 hb4)
        have hd0 := (HCB.out.below hb24).cell (i := 0) rfl
        have hdl := (HCB.out.below hb24).lt
        have hbw : Below w.heap.size w w4 := qtrans hb (qtrans hA hb24)
        have HM2 := Lib.hid ((HM.out.below hA).below hb24)
        clear hcb hcl hb2 hb3 hb4
        by_cases her : er = 0
        rotate_left
        · have herb : (er != 0) = true := by simp [her]
          clear HO
          go_wp2
          go_ret
          exact ⟨_, rfl, fun h => by omega, hbw⟩
        have herb : (er != 0) = false := by simp [her]
        clear her
        go_wp2_with (fail)
        rcases HO.out with ⟨ho, hk0⟩ | ⟨j, g, rfl, hg, ho⟩
        · have HF : Hid (treeFrom [] fs = treeFrom (fs.take (k + 1)) (fs.drop (k + 1))) := by show _ = _; rw [HE2.out, hp, ho]; rfl
          have hkd : decide (0 < (k : Int)) = false := by simp [hk0]
          have hkn : ¬ 0 < k := by omega
          clear ho hk0 HO
          go_quiet (fail)
          obtain ⟨w5, hput, hm5, hg5⟩ := (HM2.out.below (below_drewN (qrefl w4) nq)).put strKeyed Tryz.underlying82 (by unfold maxLen; omega) (key_str f.path (by omega)) (.bool true)
          rw [pathF_snoc, ← HTK.out] at hm5
          have HM5 := Lib.hid hm5
          have hb5 : Below w.heap.size w w5 := (below_drewN hbw nq).grown hg5 (below_drewN hbw nq).size (fun k e => by cases e; exact Nat.le_refl _)
          clear hm5 hg5
          go_wp2
          go_roundw
          case rel => exact ⟨_, by omega, by go_num, hb5, HM5, HF, HP2⟩
          case measure => simp [intOf]; omega
        · obtain ⟨b', o', e', hbb', hgp, -⟩ := files_elem (HV.out.below hbw) hg
          cases e'
          have hkd : decide (0 < ((j : Int) + 1)) = true := decide_eq_true (by omega)
          have hj0 : (0 : Int) ≤ (j : Int) := by omega
          have hj1 : (j : Int) < (fs.length : Int) := by omega
          have hw1 : IntKind.i64.wrap ((j : Int) + 1 - 1) = (j : Int) := by rw [Int.add_sub_cancel]; exact IntWalk.i64_in _ (by omega)
          have HLE : Hid (orderBad (fs.take (j + 1)) f = (Op.bytesLess f.path.toList g.path.toList || f.path.toList == g.path.toList)) := by show _ = _; rw [ho, leB, tl, tl]
          clear ho HO hg
          cases hle : (Op.bytesLess f.path.toList g.path.toList || f.path.toList == g.path.toList) with
          | true =>
            go_quiet (fail)
            go_wp2
            go_ret
            exact ⟨_, rfl, fun h => by omega, below_drewN hbw _⟩
          | false =>
            have HF : Hid (treeFrom [] fs = treeFrom (fs.take (j + 1 + 1)) (fs.drop (j + 1 + 1))) := by show _ = _; rw [HE2.out, hp, HLE.out, hle]; rfl
            go_quiet (fail)
            obtain ⟨w5, hput, hm5, hg5⟩ := (HM2.out.below (below_drewN (qrefl w4) nq)).put strKeyed Tryz.underlying82 (by unfold maxLen; omega) (key_str f.path (by omega)) (.bool true)
            rw [pathF_snoc, ← HTK.out] at hm5
            have HM5 := Lib.hid hm5
            have hb5 : Below w.heap.size w w5 := (below_drewN hbw nq).grown hg5 (below_drewN hbw nq).size (fun k e => by cases e; exact Nat.le_refl _)
            clear hm5 hg5
            go_wp2
            go_roundw
            case rel => exact ⟨_, by omega, by go_num, hb5, HM5, HF, HP2⟩
            case measure => simp [intOf]; omega
    · have HF : Hid (treeFrom [] fs = 0) := by
        show _ = _
        rw [HE.out, List.drop_eq_nil_of_le (by omega)]; rfl
      have hkl : k = fs.length := by omega
      rw [hkl] at HP
      rw [hkl, List.take_length] at HM
      have H2 : Hid (treeErr fs = if someDir fs fs then 7 else 0) := by show _ = _; rw [H.out, HF.out, if_pos rfl]
      clear HE hkl
      generalize wr = wo at *
      go_wp2
      go_loopw [51] (fun i wr => ∃ k : Nat, k ≤ fs.length ∧ i = .int .i64 k ∧ Below wo.heap.size wo wr ∧ Hid (someDir fs fs = someDir fs (fs.drop k))) (fun i _ => fs.length - (intOf i).toNat)
      case atStart => exact ⟨0, Nat.zero_le _, rfl, qrefl _, rfl⟩
      case round =>
        obtain ⟨q, hq, rfl, hbq, HE⟩ := hrel
        by_cases hql : q < fs.length
        · obtain ⟨f, hf⟩ : ∃ f, fs[q]? = some f := ⟨_, List.getElem?_eq_getElem hql⟩
          have HE2 := Lib.hid (HE.out.trans (someDir_at hf))
          have hp100 := HP.out q f (by omega) hf
          have hsf := HS.out f (List.mem_of_getElem? hf)
          obtain ⟨b, o, rfl, hbb, hcp, hcd⟩ := files_elem (HV.out.below (qtrans hb hbq)) hf
          have hA := qalloc wr (.cells #[.string f.path, .string f.data] 55)
          clear HE hf
          go_wp2
          have hCB := CBox.new wr 55 #[.string f.path, .string f.data]
          have HMA := Lib.hid ((HM.out.below hbq).below hA)
          have hd0 := hCB.cell (i := 0) rfl
          have hdl := hCB.lt
          have HWA : Hid (Below wo.heap.size wo (wr.alloc (.cells #[.string f.path, .string f.data] 55))) := qtrans hbq hA
          clear hCB hA
          generalize wr.alloc (.cells #[.string f.path, .string f.data] 55) = wi at *
          go_loop [58] (fun i => ∃ m : Nat, m ≤ f.path.size ∧ i = .int .i64 m ∧ Hid (∀ j, j < m → dirAt fs f.path.data.toList j = false)) (fun i => f.path.size - (intOf i).toNat)
          case atStart => exact ⟨0, Nat.zero_le _, rfl, fun j hj => by omega⟩
          case round =>
            obtain ⟨m, hm, rfl, HN⟩ := hrel
            by_cases hml : m < f.path.size
            · have hi0 : (0 : Int) ≤ (m : Int) := by omega
              have HD : Hid (dirAt fs f.path.data.toList m = (((f.path[m].toNat : Int) == 47) && inPaths fs (f.path.extract 0 m).data.toList)) := by
                show _ = _
                rw [dirAt, getD_at _ _ hml, show ((f.path[m].toNat : Int) == 47) = (f.path[m] == 47) from byteN _ 47, ex_take]
              cases h47 : ((f.path[m].toNat : Int) == 47) with
              | false =>
                have HN2 : Hid (∀ j, j < m + 1 → dirAt fs f.path.data.toList j = false) := fun j hj => by
                  by_cases e : j = m
                  · rw [e, HD.out, h47]; rfl
                  · exact HN.out j (by omega)
                go_wp2
                go_round
                case rel => exact ⟨m + 1, by omega, by go_num, HN2⟩
                case measure => simp [intOf]; omega
              | true =>
                have hlook := HMA.out.look strKeyed Tryz.underlying82 (Tryz.zeroValue4 wi) (key_str (f.path.extract 0 m) (by rw [ByteArray.size_extract]; omega))
                rw [pathF_get] at hlook
                cases hin : inPaths fs (f.path.extract 0 m).data.toList with
                | false =>
                  rw [hin] at hlook
                  have HN2 : Hid (∀ j, j < m + 1 → dirAt fs f.path.data.toList j = false) := fun j hj => by
                    by_cases e : j = m
                    · rw [e, HD.out, hin, Bool.and_false]
                    · exact HN.out j (by omega)
                  clear hin
                  go_wp2
                  go_round
                  case rel => exact ⟨m + 1, by omega, by go_num, HN2⟩
                  case measure => simp [intOf]; omega
                | true =>
                  rw [hin] at hlook
                  clear hin
                  go_wp2
                  go_ret
                  exact ⟨_, rfl, fun h => by omega, qtrans hb HWA.out⟩
            · have HY : Hid (someDir fs fs = someDir fs (fs.drop (q + 1))) := by
                show _ = _
                rw [HE2.out, dirIn_no (fun j hj => HN.out j (by rw [sz] at hj; omega)), Bool.false_or]
              go_wp2
              go_roundw
              case rel => exact ⟨q + 1, by omega, by go_num, HWA.out, HY⟩
              case measure => simp [intOf]; omega
        · have HY : Hid (someDir fs fs = false) := by
            show _ = _
            rw [HE.out, List.drop_eq_nil_of_le (by omega)]; rfl
          go_wp2
          go_ret
          exact ⟨_, rfl, fun _ => by rw [H2.out, HY.out]; rfl, qtrans hb hbq⟩
end Go.Proofs.YtidkpnabdfiilaaGreatDoor
