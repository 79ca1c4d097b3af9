/- The reference's Missing. -/
import Derived.Test.YtidkpnabdfiilaaGreatDoorXeD
import Derived.Test.YtidkpnabdfiilaaGreatDoorQ25
namespace Go.Proofs.YtidkpnabdfiilaaGreatDoor
open Go.RowKit

theorem row_apart {w : World} {size : Nat} {v : Value} {n : Nat} {xs : List Value} {B0 : Nat} (h : IsRow w size v n xs) (hs : 0 < size) (hB : ∀ o, w.cell? ⟨B0, o, none⟩ = none) : 0 < n → ∀ b, v.ownBlock = some b → b ∉ [B0] := by
  obtain ⟨hl, a, cap, rfl, h1, h2, h3⟩ := h
  intro hn b hb hm
  obtain ⟨b', o, rfl, hb', hc⟩ := h3 hn
  have e : b' = b := by cases hb; rfl
  subst e
  have e2 : b' = B0 := by simpa using hm
  subst e2
  have hx0 : 0 < xs.length := by rw [hl]; exact Nat.mul_pos hn hs
  have := hc 0 _ (List.getElem?_eq_getElem hx0)
  rw [hB] at this
  cases this
theorem readsL_apart {w : World} {B0 : Nat} (hB : ∀ o, w.cell? ⟨B0, o, none⟩ = none) : ∀ {gs : List (List ByteArray)} {xs : List Value}, ReadsL w [] (gs.flatMap fun g => [strsT g]) xs → ReadsL w [B0] (gs.flatMap fun g => [strsT g]) xs
  | [], xs, h => h
  | g :: gs, xs, h => by
    obtain ⟨x, r, rfl, h1, h2⟩ := ReadsL.inv (show ReadsL w [] (strsT g :: gs.flatMap fun g => [strsT g]) xs from h)
    refine ReadsL.cons ?_ (readsL_apart hB h2)
    obtain ⟨s1, _⟩ := reads_strs.1 h1
    exact reads_strs.2 ⟨s1, row_apart s1 (by decide) hB⟩
theorem groups_apart {w : World} {B0 : Nat} {gs : List (List ByteArray)} {v : Value} (h : Reads w [] (groupsT gs) v) (hB : ∀ o, w.cell? ⟨B0, o, none⟩ = none) : Reads w [B0] (groupsT gs) v := by
  obtain ⟨xs, h1, _, h3⟩ := Reads.toRow h
  exact Reads.ofRow h1 (row_apart h1 (by decide) hB) (readsL_apart hB h3)
theorem one_groupC {w : World} {b o cap : Nat} {v : Value} {g : List ByteArray} (h : Reads w [] (strsT g) v) (hc : w.cell? ⟨b, o, none⟩ = some v) (h1 : 1 ≤ cap) (h2 : cap ≤ 9223372036854775807) : Reads w [] (groupsT [g]) (.slice (some ⟨b, o, none⟩) 1 cap) := by
  refine Reads.ofRow (xs := [v]) ⟨rfl, _, _, rfl, h1, by unfold maxLen; omega, fun _ => ⟨b, o, rfl, lt_of_cell hc, fun j u hj => ?_⟩⟩ (fun _ _ _ h => by cases h) ?_
  · match j, hj with
    | 0, hj => cases hj; exact hc
    | (j + 1), hj => cases hj
  · exact ReadsL.cons h (ReadsL.nil _ _)
theorem enough_one (ps g : List ByteArray) : enoughB [g] ps = someIn ps g := by unfold enoughB; simp
set_option maxRecDepth 100000 in
set_option maxHeartbeats 4000000 in
theorem xMissing_any (va v1 v2 : Value) (l : List Appr) (change : Int) (old fresh : List OFile) (w : World) (ha : Reads w [] (apprsT l) va) (hsa : smallA l) (h1 : Reads w [] (filesT old) v1) (h2 : Reads w [] (filesT fresh) v2) (hs : Small2 old fresh) :
    Calls Tryz.prog 39 #[va, .int .i64 change, v1, v2] w (GroupsPost (missingOf l change old fresh) w) := by
  obtain ⟨aa, capa, rfl, hca, hda⟩ := apprs_val ha
  obtain ⟨a1, cap1, rfl, hc1, hd1⟩ := files_val h1
  obtain ⟨a2, cap2, rfl, hc2, hd2⟩ := files_val h2
  obtain ⟨ig0, hig, hzg0, hzg1, hzg2⟩ := info_parts infoStrs
  have HR : Hid (missingOf l change old fresh = if treesErr old fresh = 0 then (missL (reqL old fresh) (peopleL l change old fresh), 0) else ([], treesErr old fresh)) := rfl
  have HQ : Hid (requiredOf old fresh = if treesErr old fresh = 0 then (reqL old fresh, 0) else ([], treesErr old fresh)) := required_eq old fresh
  have hA := qalloc w (.cells #[] 30)
  have HN0 := Lib.hid (CBox.new w 30 #[])
  have HO0 := Lib.hid (OwnG.new w w.heap.size (Nat.le_refl _))
  have H1 := Lib.hid (h1.below hA)
  have H2 := Lib.hid (h2.below hA)
  have HAL := Lib.hid (ha.below hA)
  have HRQ := Lib.hid (rRequired_any _ _ old fresh _ H1.out H2.out hs.s1 hs.s2 (fun f hf => (hs.d1 f hf).2) (fun f hf => (hs.d2 f hf).2) hs.len)
  have HPP := Lib.hid (fun W ha h1 h2 => xPeople_any (.slice aa l.length capa) (.slice a1 old.length cap1) (.slice a2 fresh.length cap2) l change old fresh W ha hsa h1 h2 hs)
  have hpl : (peopleL l change old fresh).length ≤ 30000 := by
    unfold peopleL; rw [List.length_map]
    exact Nat.le_trans (List.length_filter_le _ _) hsa.1
  have HRL : Hid ((reqL old fresh).length ≤ 32000) := by
    have h1 := reqFrom_len (rulesM_good old) (pathsC old fresh) []
    have h2 := diff_len _ old fresh (Nat.le_refl _)
    have h3 := hs.len
    unfold reqL
    refine Lib.hid ?_
    unfold pathsC at h1 ⊢
    rw [List.length_map] at h1
    simp at h1; omega
  clear ha h1 h2 hs hsa
  by_cases e1 : treesErr old fresh = 0
  · have HR2 : Hid (missingOf l change old fresh = (missL (reqL old fresh) (peopleL l change old fresh), 0)) := by show _ = _; rw [HR.out, if_pos e1]
    rw [HQ.out, if_pos e1] at HRQ
    clear HR HQ e1
    generalize reqL old fresh = gs at *
    generalize peopleL l change old fresh = ps at *
    go_enter Tryz.func39, Tryz.ntmps39
    go_wp2_with (fail)
    refine HRQ.out.mono ?_
    rintro e w1 ⟨gv, rfl, hgv, hb1⟩
    simp only [] at hgv
    have HG1 := Lib.hid (groups_apart hgv (B0 := w.heap.size) (fun o => by have := HN0.out.below hb1; unfold CBox at this; simp [World.cell?, this]))
    obtain ⟨ga, gc, rfl, hgl, hgm⟩ := groups_val hgv
    have HO1 := Lib.hid (HO0.out.below hb1)
    have hb01 := qtrans hA hb1
    have hz1 : w.heap.size + 1 ≤ w1.heap.size := by have := hb1.size; simpa using this
    have HN1 := Lib.hid (HN0.out.below hb1)
    clear hgv HRQ HN0 HO0
    go_wp2_with (fail)
    refine (HPP.out w1 (HAL.out.below hb1) (H1.out.below hb1) (H2.out.below hb1)).mono ?_
    rintro e w2 ⟨pv, rfl, hpv, hb2⟩
    obtain ⟨pa, pc, rfl, -, -⟩ := Reads.val hpv
    have HG2 := Lib.hid (HG1.out.below hb2)
    have HO2 := Lib.hid (HO1.out.below hb2)
    have hb02 := qtrans hb01 hb2
    have hz2 : w.heap.size + 1 ≤ w2.heap.size := by have := hb2.size; omega
    have HP2X : Hid (Reads w2 [w.heap.size] (strsT ps) (.slice pa ps.length pc)) := by
      obtain ⟨s1, _⟩ := reads_strs.1 hpv
      exact reads_strs.2 ⟨s1, row_apart s1 (by decide) (fun o => by have := HN1.out.below hb2; unfold CBox at this; simp [World.cell?, this])⟩
    clear hpv HPP HAL H1 H2 hb1 hb2 hA HG1 HO1 hb01 hz1
    go_wp2
    go_loopw [10, 14] (fun ov iv wr => ∃ (k : Nat), k ≤ gs.length ∧ iv = .int .i64 k ∧ Hid (OwnG wr w.heap.size ov (missL (gs.take k) ps)) ∧ Hid (∀ b, ov.ownBlock = some b → b ∈ [w.heap.size] ∨ w2.heap.size ≤ b) ∧ Mod [w.heap.size] w2 wr)
      (fun _ iv _ => gs.length - (intOf iv).toNat)
    case atStart => exact ⟨0, Nat.zero_le _, rfl, HO2, fun b hb => by cases hb; exact .inl (by simp), Mod.refl _ _⟩
    case round =>
      obtain ⟨k, hk, rfl, HO, HOB, hmod⟩ := hrel
      have hk0 : (0 : Int) ≤ (k : Int) := by omega
      by_cases hkl : k < gs.length
      · obtain ⟨g, hg⟩ : ∃ g, gs[k]? = some g := ⟨_, List.getElem?_eq_getElem hkl⟩
        have HGX : Reads wr u10.ownBlock.toList (groupsT gs) (.slice ga gs.length gc) := by
          cases hob : u10.ownBlock with
          | none => exact (HG2.out.mod hmod).fewer (fun k hk => by simp at hk)
          | some b =>
            rcases HOB.out b hob with h | h
            · exact (HG2.out.mod hmod).fewer (fun k hk => by simp at hk h ⊢; omega)
            · exact ((HG2.out.more h).mod (hmod.mono (fun k hk => List.mem_cons_of_mem _ hk))).fewer (fun k hk => by simp at hk; simp [hk])
        obtain ⟨b2, o2, ag, cg, rfl, hb2, c2, q1, q2, HRG⟩ := groups_elemX HGX hg
        have hk1 : (k : Int) < (gs.length : Int) := by omega
        have HMT := Lib.hid (miss_take (ps := ps) hg)
        have HEN := Lib.hid (rEnough_any (.slice (some ⟨b2, o2 + k, none⟩) 1 (gc - k)) (.slice pa ps.length pc) [g] ps wr (one_groupC HRG.out.free c2 (by omega) (by omega)) (reads_strs.1 (HP2X.out.mod hmod).free).1 (by omega))
        rw [enough_one] at HEN
        have hml : (missL (gs.take k) ps).length ≤ 32000 := by
          have h1 := List.length_filter_le (fun g => !someIn ps g) (gs.take k)
          rw [List.length_take] at h1
          have := HRL.out
          unfold missL; omega
        have hgsl := HRL.out
        clear hg HGX
        generalize missL (gs.take k) ps = cur at *
        cases hin : someIn ps g with
        | true =>
          rw [hin] at HEN
          have HN : Hid (missL (gs.take (k + 1)) ps = cur) := by show _ = _; rw [HMT.out, hin]; simp
          go_wp2_with (fail)
          refine HEN.out.mono ?_
          rintro e w5 ⟨rfl, rfl⟩
          go_wp2
          go_roundw
          case rel => exact ⟨k + 1, by omega, by go_num, by rw [HN.out]; exact HO, HOB, hmod⟩
          case measure => simp [intOf]; omega
        | false =>
          rw [hin] at HEN
          have HN : Hid (missL (gs.take (k + 1)) ps = cur ++ [g]) := by show _ = _; rw [HMT.out, hin]; simp
          obtain ⟨xs, hrow, hrl⟩ := HO.out
          have HRL2 := Lib.hid hrl
          have hzo := hmod.size
          clear hrl
          go_wp2_with (fail)
          refine HEN.out.mono ?_
          rintro e w5 ⟨rfl, rfl⟩
          clear HEN
          have HRGX := HRG
          go_wp2_with (at_builtin; refine wpList_append_own_at _ rfl _ _ 23 rfl w.heap.size 30 ig0 _ 1 24 Tryz.underlying23 hig hzg0 hzg1 hzg2 rfl (by decide) _ _ _ rfl (hrow.alloc _) ⟨wr.heap.size, 0, none⟩ 1 1 [.slice ag g.length cg] rfl rfl (cell_one_new _ _ _) (by simp [Value.oneCell']) (by unfold maxLen; omega) (by omega) (by simp; omega) ?_)
          intro v' w8 hown8 hg8 _ hbk8
          have hA := qalloc wr (.cells #[.slice ag g.length cg] 30)
          have HO8 : Hid (OwnG w8 w.heap.size v' (cur ++ [g])) := OwnT.grown (hrow.alloc _) (HRL2.out.below hA) ((ReadsL.cons (by rw [List.append_nil]; exact HRGX.out) (ReadsL.nil _ _)).below hA) hown8 hg8 (by simpa using hbk8)
          have hmod8 : Mod [w.heap.size] w2 w8 := (hmod.trans (Mod.of hA)).grow hg8 (fun k hk => HOB.out k hk)
          have HOB8 : Hid (∀ b, v'.ownBlock = some b → b ∈ [w.heap.size] ∨ w2.heap.size ≤ b) := fun b hb => by
            rcases hbk8 with h | h
            · rw [h] at hb; exact HOB.out b hb
            · rw [h] at hb; cases hb; right; first | omega | (simp; omega)
          clear hg8 hbk8 hown8 hA hrow HRL2
          rw [← HN.out] at HO8
          go_wp2
          go_roundw
          case rel => exact ⟨k + 1, by omega, by go_num, HO8, HOB8, hmod8⟩
          case measure => simp [intOf]; omega
      · have hkl' : k = gs.length := by omega
        subst hkl'
        rw [List.take_length] at HO
        obtain ⟨oa, oc, rfl, -, -⟩ := OwnT.val HO.out
        have hbf : Below w.heap.size w wr := hb02.trans (hmod.upto hb02.size (fun k hk => by simp at hk; omega))
        go_wp2
        go_ret2
        rw [HR2.out]
        exact ⟨_, rfl, HO.out.reads, hbf⟩
  · rw [HQ.out, if_neg e1] at HRQ
    have HR2 : Hid (missingOf l change old fresh = ([], treesErr old fresh)) := by show _ = _; rw [HR.out, if_neg e1]
    have hne : (treesErr old fresh != 0) = true := by simpa using e1
    clear HR HQ e1
    generalize treesErr old fresh = q at *
    go_enter Tryz.func39, Tryz.ntmps39
    go_wp2_with (fail)
    refine HRQ.out.mono ?_
    rintro e w1 ⟨gv, rfl, hgv, hb1⟩
    simp only [] at hgv
    obtain ⟨ga, gc, rfl, -, -⟩ := groups_val hgv
    have HO1 := Lib.hid (HO0.out.below hb1).reads
    clear hgv
    go_wp2
    go_ret2
    rw [HR2.out]
    exact ⟨_, rfl, HO1.out, qtrans hA hb1⟩
end Go.Proofs.YtidkpnabdfiilaaGreatDoor
