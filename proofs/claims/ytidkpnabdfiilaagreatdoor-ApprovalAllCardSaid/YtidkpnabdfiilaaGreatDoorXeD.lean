/- The reference's People, Missing, Fallen. -/
import Derived.Test.YtidkpnabdfiilaaGreatDoorXeC
import Derived.Test.YtidkpnabdfiilaaGreatDoorFaA
namespace Go.Proofs.YtidkpnabdfiilaaGreatDoor
open Go.RowKit

theorem mod_upto {X : List Nat} {a b : World} {B : Nat} (h : Mod X a b) (hB : B ≤ a.heap.size) (hx : ∀ k ∈ X, B ≤ k) : Below B a b := h.upto hB hx
structure Small2 (old fresh : List OFile) : Prop where
  s1 : SmallF old
  s2 : SmallF fresh
  d1 : ∀ f ∈ old, f.path.size ≤ 16000 ∧ f.data.size ≤ 16000
  d2 : ∀ f ∈ fresh, f.path.size ≤ 16000 ∧ f.data.size ≤ 16000
  len : old.length + fresh.length ≤ 4000
set_option maxRecDepth 100000 in
set_option maxHeartbeats 4000000 in
theorem xPeople_any (va v1 v2 : Value) (l : List Appr) (change : Int) (old fresh : List OFile) (w : World) (ha : Reads w [] (apprsT l) va) (hsa : smallA l) (h1 : Reads w [] (filesT old) v1) (h2 : Reads w [] (filesT fresh) v2) (hs : Small2 old fresh) :
    Calls Tryz.prog 68 #[va, .int .i64 change, v1, v2] w fun e w' => ∃ rv, e = .returned rv ∧ Reads w' [] (strsT (peopleL l change old fresh)) rv ∧ Below w.heap.size w w' := by
  obtain ⟨aa, capa, rfl, hca, hda⟩ := apprs_val ha
  obtain ⟨a1, cap1, rfl, hc1, hd1⟩ := files_val h1
  obtain ⟨a2, cap2, rfl, hc2, hd2⟩ := files_val h2
  obtain ⟨i0, hi, hz0, hz1, hz2⟩ := info_parts infoStr
  have HS := Lib.hid (fun a W h1 h2 => xStands_any a (.slice a1 old.length cap1) (.slice a2 fresh.length cap2) old fresh W h1 h2 hs.s1 hs.s2 hs.d1 hs.d2 hs.len)
  have H1 := Lib.hid h1
  have H2 := Lib.hid h2
  have HA := Lib.hid ha
  have hla := hsa.1
  have HTK := Lib.hid (fun k a (h : l[k]? = some a) => people_take (change := change) (old := old) (fresh := fresh) h)
  have HFE : Hid (peopleL (l.take l.length) change old fresh = peopleL l change old fresh) := by show _ = _; rw [List.take_length]
  have HLN : Hid (∀ k, (peopleL (l.take k) change old fresh).length ≤ (l.take k).length) := fun k => by
    unfold peopleL; rw [List.length_map]; exact List.length_filter_le _ _
  have HB0 := Lib.hid (qalloc w (.cells #[] 9))
  have HO0 : Hid (OwnS (w.alloc (.cells #[] 9)) w.heap.size (.slice (some ⟨w.heap.size, 0, none⟩) 0 0) (peopleL (l.take 0) change old fresh)) :=
    ⟨rfl, .inr ⟨w.heap.size, 0, #[], rfl, Nat.le_refl _, World.alloc_heap_new _ _, Nat.le_refl _, Nat.zero_le _, rfl, rfl⟩⟩
  clear ha h1 h2 hs hsa
  go_enter Tryz.func68, Tryz.ntmps68
  go_wp2
  generalize w.alloc (.cells #[] 9) = w0 at *
  go_loopw [9, 10] (fun ov iv wr => ∃ k : Nat, k ≤ l.length ∧ iv = .int .i64 k ∧ Below w.heap.size w wr ∧ Hid (OwnS wr w.heap.size ov (peopleL (l.take k) change old fresh))) (fun _ iv _ => l.length - (intOf iv).toNat)
  case atStart => exact ⟨0, Nat.zero_le _, rfl, HB0.out, HO0⟩
  case round =>
    clear HO0 HB0
    obtain ⟨k, hk, rfl, hbr, HO⟩ := hrel
    have hk0 : (0 : Int) ≤ (k : Int) := by omega
    by_cases hkl : k < l.length
    · obtain ⟨a, hak⟩ : ∃ a, l[k]? = some a := ⟨_, List.getElem?_eq_getElem hkl⟩
      obtain ⟨b1, o1, e1, hbb1, d0, d1, d2⟩ := apprs_elem (HA.out.below hbr) hak
      have hk1 : (k : Int) < (l.length : Int) := by omega
      have HPT := Lib.hid (HTK.out k a hak)
      have HCE := Lib.hid (fun W (h : Below w.heap.size w W) => apprs_elem (HA.out.below h) hak)
      have hfl : (peopleL (l.take k) change old fresh).length ≤ 30000 := by have := HLN.out k; rw [List.length_take] at this; omega
      have HSA := Lib.hid (HS.out a)
      have HCB : Hid (countsB change old fresh a = ((a.change == change) && (if 0 = 1 then !standsB old fresh a else standsB old fresh a))) := rfl
      have hzb := hbr.size
      clear hak
      cases e1
      generalize hcur : peopleL (l.take k) change old fresh = cur at *
      generalize hnx : peopleL (l.take (k + 1)) change old fresh = nxt at *
      have HNX := Lib.hid hnx
      clear hcur hnx
      cases hch : (a.change == change) with
      | false =>
        have HN : Hid (nxt = cur) := by show _ = _; rw [HPT.out, HCB.out, hch]; simp
        clear HSA HCE
        go_wp2
        go_roundw
        case rel => exact ⟨k + 1, by omega, by go_num, hbr, by rw [HNX.out, HN.out]; exact HO⟩
        case measure => simp [intOf]; omega
      | true =>
        cases hst : standsB old fresh a with
        | false =>
          rw [hst] at HSA
          have HN : Hid (nxt = cur) := by show _ = _; rw [HPT.out, HCB.out, hch, hst]; simp
          go_wp2_with (fail)
          refine (HSA.out wr (H1.out.below hbr) (H2.out.below hbr)).mono ?_
          rintro e w5 ⟨rfl, hb5⟩
          have hbr5 := qtrans hbr hb5
          have HO5 : Hid (OwnS w5 w.heap.size u9 cur) := HO.out.below hb5
          clear HSA HCE HO hb5 d0 d1 d2
          go_wp2
          go_roundw
          case rel => exact ⟨k + 1, by omega, by go_num, hbr5, by rw [HNX.out, HN.out]; exact HO5⟩
          case measure => simp [intOf]; omega
        | true =>
          rw [hst] at HSA
          have HN : Hid (nxt = cur ++ [a.who]) := by show _ = _; rw [HPT.out, HCB.out, hch, hst]; simp
          go_wp2_with (fail)
          refine (HSA.out wr (H1.out.below hbr) (H2.out.below hbr)).mono ?_
          rintro e w5 ⟨rfl, hb5⟩
          have hbr5 := qtrans hbr hb5
          have hown : OwnS w5 w.heap.size u9 cur := HO.out.below hb5
          obtain ⟨b2, o2, ea, hbb2, f0, f1, f2⟩ := HCE.out w5 hbr5
          cases ea
          have hz5 := hbr5.size
          clear HSA HCE HO hb5 d0 d1 d2
          go_wp2_with (at_builtin; refine wpList_append_own _ rfl _ _ 30 rfl w.heap.size 9 i0 _ 1 16 Tryz.underlying30 hi hz0 hz1 hz2 rfl (by decide) _ _ _ rfl (hown.alloc _) ⟨w5.heap.size, 0, none⟩ 1 1 [.string a.who] rfl rfl (by first | exact cell_three _ _ _ _ _ rfl | exact cell_one_new _ _ _) (by simp [Value.oneCell']) (by unfold maxLen; omega) (by omega) (by simp; omega) ?_)
          intro v8 w8 hown8 hg8 _
          have HO8 : Hid (OwnS w8 w.heap.size v8 (cur ++ [a.who])) := by
            refine Lib.hid ?_
            unfold OwnS
            rw [List.length_append, List.map_append]; exact hown8
          have hb8 : Below w.heap.size w w8 := (qtrans hbr5 (qalloc _ _)).grown hg8 (by simp; omega) (fun k hk => owns_block hown hk)
          clear hg8 hown8 hown
          rw [← HN.out, ← HNX.out] at HO8
          go_wp2
          go_roundw
          case rel => exact ⟨k + 1, by omega, by go_num, hb8, HO8⟩
          case measure => simp [intOf]; omega
    · have hkl' : k = l.length := by omega
      subst hkl'
      rw [HFE.out] at HO
      have hrd : Reads wr [] (strsT (peopleL l change old fresh)) u9 := reads_strs.2 ⟨HO.out.strs, fun _ _ _ h => by cases h⟩
      obtain ⟨oa, oc, rfl, -, -⟩ := Reads.val hrd
      clear HO
      go_wp2
      go_ret
      exact ⟨_, rfl, hrd, hbr⟩
set_option maxRecDepth 100000 in
set_option maxHeartbeats 4000000 in
theorem xFallen_any (va v1 v2 : Value) (l : List Appr) (change : Int) (old fresh : List OFile) (w : World) (ha : Reads w [] (apprsT l) va) (hsa : smallA l) (h1 : Reads w [] (filesT old) v1) (h2 : Reads w [] (filesT fresh) v2) (hs : Small2 old fresh) :
    Calls Tryz.prog 42 #[va, .int .i64 change, v1, v2] w fun e w' => ∃ rv, e = .returned rv ∧ Reads w' [] (apprsT (fallenL l change old fresh)) rv ∧ Below w.heap.size w w' := by
  obtain ⟨aa, capa, rfl, hca, hda⟩ := apprs_val ha
  obtain ⟨a1, cap1, rfl, hc1, hd1⟩ := files_val h1
  obtain ⟨a2, cap2, rfl, hc2, hd2⟩ := files_val h2
  obtain ⟨i0, hi, hz0, hz1, hz2⟩ := info_parts infoAppr
  have HS := Lib.hid (fun a W h1 h2 => xStands_any a (.slice a1 old.length cap1) (.slice a2 fresh.length cap2) old fresh W h1 h2 hs.s1 hs.s2 hs.d1 hs.d2 hs.len)
  have H1 := Lib.hid h1
  have H2 := Lib.hid h2
  have HA := Lib.hid ha
  have hla := hsa.1
  have HTK := Lib.hid (fun k a (h : l[k]? = some a) => fallen_take (change := change) (old := old) (fresh := fresh) h)
  have HFE : Hid (fallenL (l.take l.length) change old fresh = fallenL l change old fresh) := by show _ = _; rw [List.take_length]
  have HLN : Hid (∀ k, (fallenL (l.take k) change old fresh).length ≤ (l.take k).length) := fun k => by
    exact List.length_filter_le _ _
  have HB0 := Lib.hid (qalloc w (.cells #[] 51))
  have HO0 : Hid (OwnA (w.alloc (.cells #[] 51)) w.heap.size (.slice (some ⟨w.heap.size, 0, none⟩) 0 0) (fallenL (l.take 0) change old fresh)) :=
    ⟨rfl, .inr ⟨w.heap.size, 0, #[], rfl, Nat.le_refl _, World.alloc_heap_new _ _, Nat.le_refl _, Nat.zero_le _, rfl, rfl⟩⟩
  clear ha h1 h2 hs hsa
  go_enter Tryz.func42, Tryz.ntmps42
  go_wp2
  generalize w.alloc (.cells #[] 51) = w0 at *
  go_loopw [9, 10] (fun ov iv wr => ∃ k : Nat, k ≤ l.length ∧ iv = .int .i64 k ∧ Below w.heap.size w wr ∧ Hid (OwnA wr w.heap.size ov (fallenL (l.take k) change old fresh))) (fun _ iv _ => l.length - (intOf iv).toNat)
  case atStart => exact ⟨0, Nat.zero_le _, rfl, HB0.out, HO0⟩
  case round =>
    clear HO0 HB0
    obtain ⟨k, hk, rfl, hbr, HO⟩ := hrel
    have hk0 : (0 : Int) ≤ (k : Int) := by omega
    by_cases hkl : k < l.length
    · obtain ⟨a, hak⟩ : ∃ a, l[k]? = some a := ⟨_, List.getElem?_eq_getElem hkl⟩
      obtain ⟨b1, o1, e1, hbb1, d0, d1, d2⟩ := apprs_elem (HA.out.below hbr) hak
      have hk1 : (k : Int) < (l.length : Int) := by omega
      have HPT := Lib.hid (HTK.out k a hak)
      have HCE := Lib.hid (fun W (h : Below w.heap.size w W) => apprs_elem (HA.out.below h) hak)
      have hfl : (fallenL (l.take k) change old fresh).length ≤ 30000 := by have := HLN.out k; rw [List.length_take] at this; omega
      have HSA := Lib.hid (HS.out a)
      have HCB : Hid (fallB change old fresh a = ((a.change == change) && (if 1 = 1 then !standsB old fresh a else standsB old fresh a))) := rfl
      have hzb := hbr.size
      clear hak
      cases e1
      generalize hcur : fallenL (l.take k) change old fresh = cur at *
      generalize hnx : fallenL (l.take (k + 1)) change old fresh = nxt at *
      have HNX := Lib.hid hnx
      clear hcur hnx
      cases hch : (a.change == change) with
      | false =>
        have HN : Hid (nxt = cur) := by show _ = _; rw [HPT.out, HCB.out, hch]; simp
        clear HSA HCE
        go_wp2
        go_roundw
        case rel => exact ⟨k + 1, by omega, by go_num, hbr, by rw [HNX.out, HN.out]; exact HO⟩
        case measure => simp [intOf]; omega
      | true =>
        cases hst : standsB old fresh a with
        | true =>
          rw [hst] at HSA
          have HN : Hid (nxt = cur) := by show _ = _; rw [HPT.out, HCB.out, hch, hst]; simp
          go_wp2_with (fail)
          refine (HSA.out wr (H1.out.below hbr) (H2.out.below hbr)).mono ?_
          rintro e w5 ⟨rfl, hb5⟩
          have hbr5 := qtrans hbr hb5
          have HO5 : Hid (OwnA w5 w.heap.size u9 cur) := HO.out.below hb5
          clear HSA HCE HO hb5 d0 d1 d2
          go_wp2
          go_roundw
          case rel => exact ⟨k + 1, by omega, by go_num, hbr5, by rw [HNX.out, HN.out]; exact HO5⟩
          case measure => simp [intOf]; omega
        | false =>
          rw [hst] at HSA
          have HN : Hid (nxt = cur ++ [a]) := by show _ = _; rw [HPT.out, HCB.out, hch, hst]; simp
          go_wp2_with (fail)
          refine (HSA.out wr (H1.out.below hbr) (H2.out.below hbr)).mono ?_
          rintro e w5 ⟨rfl, hb5⟩
          have hbr5 := qtrans hbr hb5
          have hown : OwnA w5 w.heap.size u9 cur := HO.out.below hb5
          obtain ⟨b2, o2, ea, hbb2, f0, f1, f2⟩ := HCE.out w5 hbr5
          cases ea
          have hz5 := hbr5.size
          clear HSA HCE HO hb5 d0 d1 d2
          go_wp2_with (at_builtin; refine wpList_append_own _ rfl _ _ 59 rfl w.heap.size 51 i0 _ 3 40 Tryz.underlying59 hi hz0 hz1 hz2 rfl (by decide) _ _ _ rfl (hown.alloc _) ⟨w5.heap.size, 0, none⟩ 1 1 [.string a.who, .int .i64 a.change, .string a.saw] rfl rfl (by first | exact cell_three _ _ _ _ _ rfl | exact cell_one_new _ _ _) (by simp [Value.oneCell']) (by unfold maxLen; omega) (by omega) (by simp; omega) ?_)
          intro v8 w8 hown8 hg8 _
          have HO8 : Hid (OwnA w8 w.heap.size v8 (cur ++ [a])) := by
            refine Lib.hid ?_
            unfold OwnA
            rw [List.length_append, apprCells_snoc]; exact hown8
          have hb8 : Below w.heap.size w w8 := (qtrans hbr5 (qalloc _ _)).grown hg8 (by simp; omega) (fun k hk => owns_block hown hk)
          clear hg8 hown8 hown
          rw [← HN.out, ← HNX.out] at HO8
          go_wp2
          go_roundw
          case rel => exact ⟨k + 1, by omega, by go_num, hb8, HO8⟩
          case measure => simp [intOf]; omega
    · have hkl' : k = l.length := by omega
      subst hkl'
      rw [HFE.out] at HO
      have hrd := HO.out.reads
      obtain ⟨oa, oc, rfl, -, -⟩ := apprs_val hrd
      clear HO
      go_wp2
      go_ret
      exact ⟨_, rfl, hrd, hbr⟩
end Go.Proofs.YtidkpnabdfiilaaGreatDoor
