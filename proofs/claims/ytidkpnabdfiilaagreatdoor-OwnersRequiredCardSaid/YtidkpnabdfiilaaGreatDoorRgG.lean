/- The reference of chapter 54: owned, Groups. -/
import Derived.Test.YtidkpnabdfiilaaGreatDoorRgF
import Derived.Test.YtidkpnabdfiilaaGreatDoorRpX
namespace Go.Proofs.YtidkpnabdfiilaaGreatDoor
open Go.RowKit Go.Shelf
attribute [local go_sem] Oper.semAt_some

theorem extract_up (p : ByteArray) {k : Nat} (h0 : 0 < k) (hk : k ≤ p.size) : (p.extract 0 k).size = k ∧ upF (p.extract 0 k).data.toList ((p.extract 0 k).size - 1) = upF p.data.toList (k - 1) := by
  have hs : (p.extract 0 k).size = k := by rw [← sz, ex_take, List.length_take, sz]; omega
  refine ⟨hs, ?_⟩
  rw [hs, ex_take, upF_take _ _ _ (by omega)]
theorem findD_size {fs : List OFile} (hs : SmallF fs) (x : List UInt8) : (findD fs x).size ≤ 40000 := by
  unfold findD
  split
  · rename_i f hf
    exact (hs.each f (List.mem_of_find?_eq_some hf)).2
  · exact Nat.zero_le _
set_option maxRecDepth 100000 in
set_option maxHeartbeats 2000000 in
theorem rowned_anyX (X : List Nat) (v : Value) (fs : List OFile) (p : ByteArray) (w : World) (hXw : ∀ k, k ∈ X → k < w.heap.size) (hv : Reads w [] (filesT fs) v) (hs : SmallF fs) (ht : treeErr fs = 0) (hp : pathS p = true) (hps : p.size ≤ 30000) :
    Calls Tryz.prog 51 #[v, .string p] w fun e w' => ∃ gv, e = .returned gv ∧ Reads w' X (groupsT (ownersM (rulesM fs) p)) gv ∧ Below w.heap.size w w' := by
  obtain ⟨a, cap, rfl, hc1, hc2⟩ := files_val hv
  have HV := Lib.hid hv
  have HS := Lib.hid hs
  have HT := Lib.hid ht
  have HP := Lib.hid (path_end hp)
  clear hv hs ht hp
  go_enter Tryz.func51, Tryz.ntmps51
  go_wp2
  go_loopw [5] (fun i wr => ∃ k : Nat, k ≤ p.size ∧ i = .int .i64 k ∧ Below w.heap.size w wr ∧ Hid (ownersM (rulesM fs) p = ownersFrom (rulesM fs) p (dirsB p.data.toList k))) (fun i _ => (intOf i).toNat)
  case atStart => exact ⟨p.size, Nat.le_refl _, rfl, qrefl _, by show _ = _; rw [ownersM, HP.out.2]⟩
  case round =>
    obtain ⟨k, hk, rfl, hb, HE⟩ := hrel
    by_cases h0 : 0 < k
    · have HE2 := Lib.hid (HE.out.trans (ownersM_find HT.out h0 hk))
      obtain ⟨hxs, hxu⟩ := extract_up p h0 hk
      have hi0 : (0 : Int) ≤ (k : Int) := by omega
      have hi1 : (k : Int) ≤ (p.size : Int) := by omega
      have hd : decide (0 < (k : Int)) = true := decide_eq_true (by omega)
      have HU := Lib.hid (fun w => rup_any (p.extract 0 k) w (by omega) (by omega))
      rw [hxu] at HU
      have hul := upF_le p.data.toList (k - 1)
      have HFE := Lib.hid (fileAt_eq p (upF p.data.toList (k - 1)))
      have HRE := Lib.hid (restAt_eq p (upF p.data.toList (k - 1)))
      clear HE hxu
      generalize upF p.data.toList (k - 1) = u at *
      have hu0 : (0 : Int) ≤ (u : Int) := by omega
      have hu1 : (u : Int) ≤ (p.size : Int) := by omega
      have hcs : ¬ (9223372036854775807 < (p.extract 0 u).size + 6) := by
        have : (p.extract 0 u).size ≤ p.size := by rw [← sz, ← sz, ex_take, List.length_take]; omega
        omega
      go_wp2_with (fail)
      refine (HU.out _).mono ?_
      rintro e w1 ⟨rfl, rfl⟩
      go_wp2_with (fail)
      rw [← HFE.out]
      have HFI := Lib.hid (r9Find_any _ fs (fileAt p u) wr (HV.out.below hb))
      refine HFI.out.mono ?_
      rintro e w1 ⟨rfl, rfl⟩
      have hds := findD_size HS.out (fileAt p u).data.toList
      generalize findD fs (fileAt p u).data.toList = dat at *
      go_wp2_with (fail)
      have HPA := Lib.hid (rParse_anyX X dat (by omega) w1 (fun k hk => by have h1 := hXw k hk; have h2 := hb.size; omega))
      refine HPA.out.mono ?_
      rintro e w2 ⟨lv, rfl, hlv, hb2⟩
      have HSR := Lib.hid (oparse_small (s := dat) (by omega))
      generalize oparse dat = O at *
      obtain ⟨a2, cap2, rfl, l2, m2⟩ := rules_val hlv
      have HLV := Lib.hid hlv
      have hbw : Below w.heap.size w w2 := qtrans hb hb2
      clear hlv hb hb2 HPA HFI HU
      cases hth : findB fs (fileAt p u).data.toList with
      | false =>
        have HF : Hid (ownersM (rulesM fs) p = ownersFrom (rulesM fs) p (dirsB p.data.toList u)) := by show _ = _; rw [HE2.out, hth]; rfl
        go_wp2
        go_roundw
        case rel => exact ⟨u, by omega, rfl, hbw, HF⟩
        case measure => simp [intOf]; omega
      | true =>
        cases hok : (O.2.2 == 0) with
        | false =>
          have HF : Hid (ownersM (rulesM fs) p = ownersFrom (rulesM fs) p (dirsB p.data.toList u)) := by show _ = _; rw [HE2.out, hth, hok]; rfl
          go_wp2
          go_roundw
          case rel => exact ⟨u, by omega, rfl, hbw, HF⟩
          case measure => simp [intOf]; omega
        | true =>
          have HF : Hid (ownersM (rulesM fs) p = match fit O.1 (restAt p u).data.toList with | some r => r.groups | none => ownersFrom (rulesM fs) p (dirsB p.data.toList u)) := by
            show _ = _; rw [HE2.out, hth, hok, if_pos (by rfl)]
            generalize fit O.1 (restAt p u).data.toList = o
            cases o <;> rfl
          go_wp2_with (fail)
          rw [← HRE.out]
          refine (rfitting_any _ O.1 (restAt p u) _ HLV.out HSR.out).mono ?_
          rintro e w3 ⟨gv, rfl, hgv, hb3⟩
          generalize fit O.1 (restAt p u).data.toList = ft at *
          have hbx := qtrans hbw hb3
          cases ft with
          | none =>
            go_wp2
            go_roundw
            case rel => exact ⟨u, by omega, rfl, hbx, HF⟩
            case measure => simp [intOf]; omega
          | some r =>
            obtain ⟨ag, cg, rfl, -, -⟩ := groups_val hgv
            go_wp2
            go_ret
            exact ⟨_, rfl, by rw [HF.out]; exact hgv, hbx⟩
    · have hk0 : k = 0 := by omega
      subst hk0
      have HF : Hid (ownersM (rulesM fs) p = []) := by show _ = _; rw [HE.out]; rfl
      go_wp2
      go_ret
      exact ⟨_, rfl, by rw [HF.out]; exact reads_noGroups _ _ _, qtrans hb (qalloc _ _)⟩
theorem rowned_any (v : Value) (fs : List OFile) (p : ByteArray) (w : World) (hv : Reads w [] (filesT fs) v) (hs : SmallF fs) (ht : treeErr fs = 0) (hp : pathS p = true) (hps : p.size ≤ 30000) :
    Calls Tryz.prog 51 #[v, .string p] w fun e w' => ∃ gv, e = .returned gv ∧ Reads w' [] (groupsT (ownersM (rulesM fs) p)) gv ∧ Below w.heap.size w w' := rowned_anyX [] v fs p w (fun _ h => by cases h) hv hs ht hp hps
theorem rGroups_any (v : Value) (fs : List OFile) (p : ByteArray) (w : World) (hv : Reads w [] (filesT fs) v) (hs : SmallF fs) (hdt : ∀ f ∈ fs, f.data.size ≤ 16000) (hps : p.size ≤ 30000) :
    Calls Tryz.prog 33 #[v, .string p] w (GroupsPost (groupsOf fs p) w) := by
  have HV := Lib.hid hv
  have HC := Lib.hid (r9Check_any v fs w hv hs hdt)
  have HS := Lib.hid hs
  have HG : Hid (groupsOf fs p = if treeErr fs = 0 then (if pathS p then (ownersM (rulesM fs) p, 0) else ([], 6)) else ([], treeErr fs)) := by
    show _ = _
    rw [groupsOf, treeErr_one]
    cases pathS p <;> rfl
  obtain ⟨a, cap, rfl, hc1, hc2⟩ := files_val hv
  clear hv hs hdt
  go_enter Tryz.func33, Tryz.ntmps33
  go_wp2_with (fail)
  refine HC.out.mono ?_
  rintro e w1 ⟨rfl, hb⟩
  cases hte : (treeErr fs == 0) with
  | false =>
    have hne : treeErr fs ≠ 0 := by simpa using hte
    have H : Hid (groupsOf fs p = ([], treeErr fs)) := by show _ = _; rw [HG.out, if_neg hne]
    generalize treeErr fs = E at *
    clear hne HG HC
    go_wp2
    go_ret2
    exact ⟨_, (by rw [H.out] <;> rfl), by rw [H.out]; exact reads_noGroups _ _ _, qtrans hb (qalloc _ _)⟩
  | true =>
    have he : treeErr fs = 0 := by simpa using hte
    have HTE := Lib.hid he
    rw [he]
    clear hte he
    go_wp2_with (fail)
    refine (r9Path_any p _ (by omega)).mono ?_
    rintro e w2 ⟨rfl, n2, rfl⟩
    have hb2 := below_drewN hb n2
    have HV2 := Lib.hid ((HV.out.below hb).drewN n2)
    clear hb HC
    generalize w1.drewN n2 = W at *
    cases hpp : pathS p with
    | false =>
      have H : Hid (groupsOf fs p = ([], 6)) := by show _ = _; rw [HG.out, if_pos HTE.out, hpp]; rfl
      go_wp2
      go_ret2
      exact ⟨_, (by rw [H.out] <;> rfl), by rw [H.out]; exact reads_noGroups _ _ _, qtrans hb2 (qalloc _ _)⟩
    | true =>
      have H : Hid (groupsOf fs p = (ownersM (rulesM fs) p, 0)) := by show _ = _; rw [HG.out, if_pos HTE.out, hpp]; rfl
      go_wp2_with (fail)
      refine (rowned_any _ fs p _ HV2.out HS.out HTE.out hpp hps).mono ?_
      rintro e w3 ⟨gv, rfl, hgv, hb3⟩
      obtain ⟨ag, cg, rfl, -, -⟩ := groups_val hgv
      go_wp2
      go_ret2
      exact ⟨_, (by rw [H.out] <;> rfl), by rw [H.out]; exact hgv, qtrans hb2 hb3⟩
end Go.Proofs.YtidkpnabdfiilaaGreatDoor
