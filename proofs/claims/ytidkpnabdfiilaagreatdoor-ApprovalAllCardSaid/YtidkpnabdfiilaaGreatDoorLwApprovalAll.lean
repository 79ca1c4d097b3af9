/- ApprovalAll: the walk. -/
import Derived.Test.YtidkpnabdfiilaaGreatDoorLwApprovalMissing
namespace Go.Proofs.YtidkpnabdfiilaaGreatDoor
open Go.RowKit

/-- A slice of small numbers. -/
def Picks (w : World) (v : Value) (gs : List Int) : Prop :=
  ∃ (a : Option Addr) (cap : Nat), v = .slice a gs.length cap ∧ gs.length ≤ cap ∧ cap ≤ 9223372036854775807 ∧ (∀ g ∈ gs, 0 ≤ g ∧ g ≤ 255) ∧
    ∀ i, i < gs.length → ∃ b o : Nat, a = some ⟨b, o, none⟩ ∧ b < w.heap.size ∧ w.cell? ⟨b, o + i, none⟩ = some (.int .u8 (gs.getD i 0))
theorem Picks.below {w w' : World} {v : Value} {gs : List Int} (h : Picks w v gs) (m : Below w.heap.size w w') : Picks w' v gs := by
  obtain ⟨a, cap, e, h1, h2, h3, h4⟩ := h
  refine ⟨a, cap, e, h1, h2, h3, fun i hi => ?_⟩
  obtain ⟨b, o, ea, hb, hc⟩ := h4 i hi
  exact ⟨b, o, ea, Nat.lt_of_lt_of_le hb m.size, (m.cell (p := ⟨b, o + i, none⟩) hb).trans hc⟩
theorem Picks.elem {w : World} {a : Option Addr} {cap : Nat} {gs : List Int} (h : Picks w (.slice a gs.length cap) gs) {i : Nat} (hi : i < gs.length) : ∃ b o : Nat, a = some ⟨b, o, none⟩ ∧ b < w.heap.size ∧ w.cell? ⟨b, o + i, none⟩ = some (.int .u8 (gs.getD i 0)) ∧ 0 ≤ gs.getD i 0 ∧ gs.getD i 0 ≤ 255 := by
  obtain ⟨a', cap', e, h1, h2, h3, h4⟩ := h
  cases e
  obtain ⟨b, o, ea, hb, hc⟩ := h4 i hi
  have hm : gs.getD i 0 ∈ gs := by rw [List.getD_eq_getElem?_getD, List.getElem?_eq_getElem hi]; exact List.getElem_mem hi
  exact ⟨b, o, ea, hb, hc, h3 _ hm⟩
def pickAt (picks : List Int) (i : Nat) (g : List ByteArray) : ByteArray := g.getD ((picks.getD (i % picks.length) 0).toNat % g.length) ByteArray.empty
def pickA (picks : List Int) (change : Int) (old fresh : List OFile) (i : Nat) (g : List ByteArray) : Appr := ⟨pickAt picks i g, change, viewOf old fresh (pickAt picks i g)⟩
def allA (picks : List Int) (change : Int) (old fresh : List OFile) (gs : List (List ByteArray)) (k : Nat) : List Appr := (List.range k).map fun i => pickA picks change old fresh i (gs.getD i [])
theorem allA_succ {picks : List Int} {change : Int} {old fresh : List OFile} {gs : List (List ByteArray)} {k : Nat} {g : List ByteArray} (h : gs[k]? = some g) : allA picks change old fresh gs (k + 1) = allA picks change old fresh gs k ++ [pickA picks change old fresh k g] := by
  unfold allA
  rw [List.range_succ, List.map_append, List.map_cons, List.map_nil, List.getD_eq_getElem?_getD, h]; rfl
theorem allA_len (picks : List Int) (change : Int) (old fresh : List OFile) (gs : List (List ByteArray)) (k : Nat) : (allA picks change old fresh gs k).length = k := by
  unfold allA; rw [List.length_map, List.length_range]
theorem allA_ok {picks : List Int} {change : Int} {old fresh : List OFile} {gs : List (List ByteArray)} (e : treesErr old fresh = 0) (hg : ∀ g ∈ gs, 0 < g.length) :
    missL gs (peopleL (allA picks change old fresh gs gs.length) change old fresh) = [] ∧ fallenL (allA picks change old fresh gs gs.length) change old fresh = [] := by
  obtain ⟨h1, h2⟩ := all_stand (l := allA picks change old fresh gs gs.length) (change := change) (old := old) (fresh := fresh) (fun a ha => by
    obtain ⟨i, _, rfl⟩ := List.mem_map.1 ha
    refine ⟨rfl, ?_⟩
    unfold standsB
    rw [decide_eq_true e]
    simp [pickA])
  refine ⟨?_, h2⟩
  rw [h1]
  refine miss_all (fun g hgm => ?_)
  obtain ⟨i, hi, rfl⟩ := List.getElem_of_mem hgm
  have hp := hg _ hgm
  have hlt : (picks.getD (i % picks.length) 0).toNat % gs[i].length < gs[i].length := Nat.mod_lt _ hp
  refine ⟨pickAt picks i gs[i], ?_, ?_⟩
  · unfold pickAt
    rw [List.getD_eq_getElem?_getD, List.getElem?_eq_getElem hlt]
    exact List.getElem_mem hlt
  · rw [List.mem_map]
    refine ⟨pickA picks change old fresh i gs[i], ?_, rfl⟩
    unfold allA
    rw [List.mem_map]
    refine ⟨i, List.mem_range.2 hi, ?_⟩
    rw [List.getD_eq_getElem?_getD, List.getElem?_eq_getElem hi]; rfl
theorem missing_none {change : Int} {old fresh : List OFile} : missingOf [] change old fresh = if treesErr old fresh = 0 then (reqL old fresh, 0) else ([], treesErr old fresh) := by
  unfold missingOf
  rw [show peopleL [] change old fresh = [] from rfl, miss_none]
set_option maxRecDepth 100000 in
set_option maxHeartbeats 4000000 in
theorem LApprovalAll_any (v1 : Value) (old : List OFile) (v2 : Value) (fresh : List OFile) (change : Int) (v3 : Value) (picks : List Int) (w : World) (h1 : Reads w [] (filesT old) v1) (z1 : SizedF old) (h2 : Reads w [] (filesT fresh) v2) (z2 : SizedF fresh) (_zc : (Lit.int .i64 change).wf = true) (h3 : Picks w v3 picks) :
    Calls Tryz.prog 10 #[v1, v2, .int .i64 change, v3] w fun e w' => e = .returned (.bool true) ∧ Below w.heap.size w w' := by
  obtain ⟨ia0, hia, hza0, hza1, hza2⟩ := info_parts infoAppr
  obtain ⟨a1, cap1, rfl, hc1, hd1⟩ := files_val h1
  obtain ⟨a2, cap2, rfl, hc2, hd2⟩ := files_val h2
  obtain ⟨a3, cap3, rfl, hc3, hd3, -, -⟩ := id h3
  have hA := qalloc w (.cells #[.slice a1 old.length cap1, .slice a2 fresh.length cap2] 22)
  have HG := Lib.hid (great55_any _ [old, fresh] _ (two_files h1 h2) (sized2 z1 z2))
  have H1 := Lib.hid (h1.below hA)
  have H2 := Lib.hid (h2.below hA)
  have HP := Lib.hid (h3.below hA)
  clear h1 h2 z1 z2 h3
  cases hg : [old, fresh].any greatF with
  | true =>
    rw [hg] at HG
    go_enter Tryz.func10, Tryz.ntmps10
    go_wp2_with (fail)
    refine HG.out.mono ?_
    rintro e w0 ⟨rfl, rfl⟩
    go_wp2_with (fail)
    refine (awake55_any _).mono ?_
    rintro e w9 ⟨rfl, hb9⟩
    go_wp2
    go_ret
    exact ⟨rfl, qtrans hA hb9⟩
  | false =>
  rw [hg] at HG
  by_cases hp0 : picks.length = 0
  · have hd : ((picks.length : Int) == 0) = true := by rw [hp0]; rfl
    go_enter Tryz.func10, Tryz.ntmps10
    go_wp2_with (fail)
    refine HG.out.mono ?_
    rintro e w0 ⟨rfl, rfl⟩
    go_wp2_with (fail)
    refine (awake55_any _).mono ?_
    rintro e w9 ⟨rfl, hb9⟩
    go_wp2
    go_ret
    exact ⟨rfl, qtrans hA hb9⟩
  have hd : ((picks.length : Int) == 0) = false := by rw [beq_eq_false_iff_ne]; omega
  by_cases hp20 : 20 < picks.length
  · have hd2 : decide ((20 : Int) < (picks.length : Int)) = true := decide_eq_true (by omega)
    go_enter Tryz.func10, Tryz.ntmps10
    go_wp2_with (fail)
    refine HG.out.mono ?_
    rintro e w0 ⟨rfl, rfl⟩
    go_wp2_with (fail)
    refine (awake55_any _).mono ?_
    rintro e w9 ⟨rfl, hb9⟩
    go_wp2
    go_ret
    exact ⟨rfl, qtrans hA hb9⟩
  have hd2 : decide ((20 : Int) < (picks.length : Int)) = false := decide_eq_false (by omega)
  obtain ⟨g1, g2⟩ := two_great hg
  have hS := great_small2 g1 g2
  have HM0 := Lib.hid (fun W h1 h2 => Missing_any (.slice none 0 0) (.slice a1 old.length cap1) (.slice a2 fresh.length cap2) [] change old fresh W (Reads.nilRow _ _ _ _) ⟨Nat.zero_le _, fun a h => by cases h⟩ h1 h2 hS.s1 hS.s2 hS.len)
  rw [missing_none] at HM0
  by_cases e1 : treesErr old fresh = 0
  rotate_left
  · rw [if_neg e1] at HM0
    have hne : (treesErr old fresh != 0) = true := by simpa using e1
    generalize treesErr old fresh = q at *
    go_enter Tryz.func10, Tryz.ntmps10
    go_wp2_with (fail)
    refine HG.out.mono ?_
    rintro e w0 ⟨rfl, rfl⟩
    go_wp2_with (fail)
    refine (HM0.out _ H1.out H2.out).mono ?_
    rintro e w1 ⟨gv, rfl, rg, hb1⟩
    simp only [] at rg
    obtain ⟨ga, gc, rfl, -, -⟩ := groups_val rg
    clear rg
    go_wp2_with (fail)
    refine (awake55_any _).mono ?_
    rintro e w9 ⟨rfl, hb9⟩
    go_wp2
    go_ret
    exact ⟨rfl, qtrans hA (qtrans hb1 hb9)⟩
  rw [if_pos e1] at HM0
  have HSW := Lib.hid (fun who W h1 h2 => Saw_any (.slice a1 old.length cap1) (.slice a2 fresh.length cap2) old fresh who W h1 h2 hS.s1 hS.s2 hS.len)
  have HSX : Hid (∀ who, sawOf old fresh who = (viewOf old fresh who, 0)) := fun who => by unfold sawOf; rw [if_pos e1]
  have HGG := Lib.hid (req_good old fresh)
  have HRL : (reqL old fresh).length ≤ 8000 := by
    have q1 := reqFrom_len (rulesM_good old) (pathsC old fresh) []
    have q2 := diff_len _ old fresh (Nat.le_refl _)
    have q3 := (greatF_small g1).1
    have q4 := (greatF_small g2).1
    unfold reqL
    unfold pathsC at q1 ⊢
    rw [List.length_map] at q1
    simp at q1; omega
  obtain ⟨k1, k2⟩ := allA_ok (picks := picks) (change := change) e1 (fun g hg => (HGG.out g hg).pos)
  have hMS : smallA (allA picks change old fresh (reqL old fresh) (reqL old fresh).length) := by
    refine ⟨by rw [allA_len]; omega, fun a ha => ?_⟩
    obtain ⟨i, hi, rfl⟩ := List.mem_map.1 ha
    have hi' := List.mem_range.1 hi
    have hgm : (reqL old fresh).getD i [] ∈ reqL old fresh := by rw [List.getD_eq_getElem?_getD, List.getElem?_eq_getElem hi']; exact List.getElem_mem hi'
    show (pickAt picks i ((reqL old fresh).getD i [])).size ≤ 40000
    generalize (reqL old fresh).getD i [] = g at hgm ⊢
    have hgd := HGG.out _ hgm
    have hlt : (picks.getD (i % picks.length) 0).toNat % g.length < g.length := Nat.mod_lt _ hgd.pos
    have hsm : pickAt picks i g ∈ g := by
      unfold pickAt
      rw [List.getD_eq_getElem?_getD, List.getElem?_eq_getElem hlt]
      exact List.getElem_mem hlt
    have := person_len (hgd.each _ hsm)
    rw [sz] at this
    omega
  have HMI := Lib.hid (fun v W ha h1 h2 => Missing_any v (.slice a1 old.length cap1) (.slice a2 fresh.length cap2) (allA picks change old fresh (reqL old fresh) (reqL old fresh).length) change old fresh W ha hMS h1 h2 hS.s1 hS.s2 hS.len)
  have HFI := Lib.hid (fun v W ha h1 h2 => Fallen_any v (.slice a1 old.length cap1) (.slice a2 fresh.length cap2) (allA picks change old fresh (reqL old fresh) (reqL old fresh).length) change old fresh W ha hMS h1 h2 hS.s1 hS.s2 hS.len)
  rw [show missingOf (allA picks change old fresh (reqL old fresh) (reqL old fresh).length) change old fresh = ([], 0) by unfold missingOf; rw [if_pos e1, k1]] at HMI
  rw [k2] at HFI
  have HAS := Lib.hid (fun k g (h : (reqL old fresh)[k]? = some g) => allA_succ (picks := picks) (change := change) (old := old) (fresh := fresh) h)
  have HAL := Lib.hid (fun k => allA_len picks change old fresh (reqL old fresh) k)
  have HA0 : Hid (allA picks change old fresh (reqL old fresh) 0 = []) := rfl
  have HPK : Hid (∀ i g, pickA picks change old fresh i g = ⟨pickAt picks i g, change, viewOf old fresh (pickAt picks i g)⟩) := fun _ _ => rfl
  have HPA : Hid (∀ i g, pickAt picks i g = g.getD ((picks.getD (i % picks.length) 0).toNat % g.length) ByteArray.empty) := fun _ _ => rfl
  clear hg g1 g2 hS e1 k1 k2 hMS
  generalize reqL old fresh = gs at *
  generalize allA picks change old fresh gs = AL at *
  go_enter Tryz.func10, Tryz.ntmps10
  go_wp2_with (fail)
  refine HG.out.mono ?_
  rintro e w0 ⟨rfl, rfl⟩
  generalize w.alloc (.cells #[.slice a1 old.length cap1, .slice a2 fresh.length cap2] 22) = W0 at *
  go_wp2_with (fail)
  refine (HM0.out W0 H1.out H2.out).mono ?_
  rintro e w1 ⟨gv, rfl, rg, hb1⟩
  simp only [] at rg
  obtain ⟨ga, gc, rfl, -, -⟩ := groups_val rg
  have RG := Lib.hid rg
  have H11 := Lib.hid (H1.out.below hb1)
  have H21 := Lib.hid (H2.out.below hb1)
  have HP1 := Lib.hid (HP.out.below hb1)
  have hb01 := qtrans hA hb1
  have hAq := qalloc w1 (.cells #[] 51)
  have HO0 : Hid (OwnA (w1.alloc (.cells #[] 51)) w1.heap.size (.slice (some ⟨w1.heap.size, 0, none⟩) 0 0) (AL 0)) := by
    rw [HA0.out]
    exact OwnA.new w1 w1.heap.size (Nat.le_refl _)
  clear rg H1 H2 HP hb1 hA HM0 HG
  go_wp2
  generalize w1.alloc (.cells #[] 51) = w2 at *
  go_loopw [11, 47] (fun ov iv wr => ∃ k : Nat, k ≤ gs.length ∧ iv = .int .i64 k ∧ Below w1.heap.size w1 wr ∧ Hid (OwnA wr w1.heap.size ov (AL k))) (fun _ iv _ => gs.length - (intOf iv).toNat)
  case atStart => exact ⟨0, Nat.zero_le _, rfl, hAq, HO0⟩
  case round =>
    clear HO0 hAq
    obtain ⟨k, hk, rfl, hbr, HO⟩ := hrel
    have hk0 : (0 : Int) ≤ (k : Int) := by omega
    by_cases hkl : k < gs.length
    · obtain ⟨g, hgk⟩ : ∃ g, gs[k]? = some g := ⟨_, List.getElem?_eq_getElem hkl⟩
      obtain ⟨b1, o1, ag, cg, rfl, hb1', c1, q1, q2, HRG⟩ := groups_elem (RG.out.below hbr) hgk
      have hk1 : (k : Int) < (gs.length : Int) := by omega
      have HAK := Lib.hid (HAS.out k g hgk)
      have hgd := HGG.out g (List.mem_of_getElem? hgk)
      have hgp := hgd.pos
      have hgl := hgd.len
      have hal := HAL.out k
      have hg0 : ((g.length : Int) == 0) = false := by rw [beq_eq_false_iff_ne]; omega
      have hlt : k % picks.length < picks.length := Nat.mod_lt _ (by omega)
      obtain ⟨b2, o2, rfl, hb2', c2, z0, z255⟩ := (HP1.out.below hbr).elem hlt
      have ht1 : Int.tmod (k : Int) (picks.length : Int) = ((k % picks.length : Nat) : Int) := by rw [Int.tmod_eq_emod_of_nonneg (by omega)]; rfl
      have HPI := Lib.hid (HPA.out k g)
      have HPK2 := Lib.hid (HPK.out k g)
      generalize k % picks.length = r at *
      have hr0 : (0 : Int) ≤ (r : Int) := by omega
      have hr1 : (r : Int) < (picks.length : Int) := by omega
      obtain ⟨c, hc⟩ : ∃ c : Nat, picks.getD r 0 = (c : Int) := ⟨(picks.getD r 0).toNat, by omega⟩
      rw [hc] at c2 z255 HPI
      rw [Int.toNat_natCast] at HPI
      have hlt2 : c % g.length < g.length := Nat.mod_lt _ hgp
      obtain ⟨b3, o3, rfl, hb3', c3⟩ := HRG.out.elem hlt2
      have ht2 : Int.tmod (c : Int) (g.length : Int) = ((c % g.length : Nat) : Int) := by rw [Int.tmod_eq_emod_of_nonneg (by omega)]; rfl
      generalize c % g.length = s at *
      have hs0 : (0 : Int) ≤ (s : Int) := by omega
      have hs1 : (s : Int) < (g.length : Int) := by omega
      have hcw : IntKind.i64.wrap (c : Int) = (c : Int) := IntWalk.i64_in _ (by omega)
      have hpn : ((picks.length : Int) == 0) = false := hd
      rw [← HPI.out] at c3
      have HSWW := Lib.hid (HSW.out (pickAt picks k g))
      rw [HSX.out] at HSWW
      clear hgk hgd hc
      generalize hpk : pickAt picks k g = who at *
      generalize hvv : viewOf old fresh who = vw at *
      have HPK3 : Hid (pickA picks change old fresh k g = ⟨who, change, vw⟩) := HPK2
      clear hpk hvv HPK2 HPI
      rw [HPK3.out] at HAK
      generalize hcur : AL k = cur at *
      generalize hnx : AL (k + 1) = nxt at *
      have HNX := Lib.hid hnx
      have hcl : cur.length ≤ 8000 := by omega
      clear hcur hnx
      have hbz := hbr.size
      go_wp2_with (fail)
      refine (HSWW.out wr (H11.out.below hbr) (H21.out.below hbr)).mono ?_
      rintro e w3 ⟨rfl, hb3⟩
      have hown : OwnA w3 w1.heap.size u11 cur := HO.out.below hb3
      have hb13 := qtrans hbr hb3
      have hz13 := hb13.size
      clear HSWW HO c1 c2 c3 hb3 hbr
      go_wp2_with (at_builtin; refine wpList_append_own _ rfl _ _ 59 rfl w1.heap.size 51 ia0 _ 3 40 Tryz.underlying59 hia hza0 hza1 hza2 rfl (by decide) _ _ _ rfl (hown.alloc _) ⟨w3.heap.size, 0, none⟩ 1 1 [.string who, .int .i64 change, .string vw] rfl rfl (cell_three _ _ _ _ _ rfl) (by simp [Value.oneCell']) (by unfold maxLen; omega) (by omega) (by simp; omega) ?_)
      intro v8 w8 hown8 hg8 _
      have HO8 : Hid (OwnA w8 w1.heap.size v8 (cur ++ [⟨who, change, vw⟩])) := by refine Lib.hid ?_; unfold OwnA; rw [List.length_append, apprCells_snoc, hal]; exact hown8
      have hb8 : Below w1.heap.size w1 w8 := (qtrans hb13 (qalloc _ _)).grown hg8 (by simp; omega) (fun k hk => owns_block hown hk)
      clear hown8 hg8 hown
      rw [← HAK.out] at HO8
      go_wp2
      go_roundw
      case rel => exact ⟨k + 1, by omega, by go_num, hb8, by rw [HNX.out]; exact HO8⟩
      case measure => simp [intOf]; omega
    · have hkl' : k = gs.length := by omega
      subst hkl'
      generalize wr = wo at *
      have HRD := Lib.hid HO.out.reads
      obtain ⟨oa, oc, rfl, -, -⟩ := apprs_val HRD.out
      have H1o := Lib.hid (H11.out.below hbr)
      have H2o := Lib.hid (H21.out.below hbr)
      have hb0 := qtrans hb01 hbr
      clear HO H11 H21 HP1 RG hbr hb01 HSW HAS
      go_wp2_with (fail)
      refine (HMI.out _ wo HRD.out H1o.out H2o.out).mono ?_
      rintro e w4 ⟨xv, rfl, rx, hb4⟩
      simp only [] at rx
      obtain ⟨xa, xc, rfl, -, -⟩ := groups_val rx
      have HRD4 := Lib.hid (HRD.out.below hb4)
      have H14 := Lib.hid (H1o.out.below hb4)
      have H24 := Lib.hid (H2o.out.below hb4)
      have hb04 := qtrans hb0 hb4
      clear rx HRD H1o H2o hb4 hb0 HMI
      go_wp2_with (fail)
      refine (HFI.out _ w4 HRD4.out H14.out H24.out).mono ?_
      rintro e w5 ⟨fv, rfl, rf, hb5⟩
      obtain ⟨fa, fc, rfl, -, -⟩ := apprs_val rf
      have hb05 := qtrans hb04 hb5
      clear rf HRD4 H14 H24 hb5 hb04 HFI
      go_wp2_with (fail)
      refine (awake55_any _).mono ?_
      rintro e w9 ⟨rfl, hb9⟩
      go_wp2
      go_ret
      exact ⟨rfl, qtrans hb05 hb9⟩
end Go.Proofs.YtidkpnabdfiilaaGreatDoor
