/- The law BuildfileLabels: it returns true for every input. -/
import Derived.Test.YtgcmekpfhagnbaaDoorLbA
import Derived.Test.YtgcmekpfhagnbaaDoorAwA
namespace Go.Proofs.YtgcmekpfhagnbaaDoor
open Go.RowKit

theorem app_data (d n : ByteArray) : (d ++ ⟨#[47]⟩ ++ n).data.toList = d.data.toList ++ 47 :: n.data.toList := by simp
theorem nameS_parts {n : ByteArray} (h : nameS n = true) : labelS n = true ∧ n.data.toList.contains 47 = false := by
  rw [nameS, nameB, Bool.and_eq_true, Bool.not_eq_true'] at h
  exact h
theorem name_word {n : ByteArray} (h : nameS n = true) : wordN 20 n.data.toList = true := by
  obtain ⟨h1, h2⟩ := nameS_parts h
  have := (labelB_parts h1).2
  rw [split_name h2] at this
  simpa using this
theorem empty_eq {d : ByteArray} (h : d.toList.isEmpty = true) : d = ⟨#[]⟩ := by
  apply bOf_inj
  have := empty_toList h
  rw [tl] at this
  rw [this]
/-- What is joined is split again. -/
theorem split_of_join {d n s : ByteArray} (h : joinR d n = (s, 0)) : splitR s = (d, n, 0) := by
  unfold joinR at h
  split at h
  · cases h
  · rename_i h1
    have hn : nameS n = true := by cases e : nameS n with | true => rfl | false => exact absurd (.inr e) h1
    obtain ⟨hl, hc⟩ := nameS_parts hn
    split at h
    · rename_i h2
      cases h
      have hneg : lastSlS n < 0 := by
        have := lastSl_neg n
        rw [hc] at this
        simpa using this
      unfold splitR
      rw [if_neg (by rw [hl]; simp), if_pos hneg, empty_eq h2]
    · split at h
      · rename_i h3
        cases h
        have hlast : lastSlS (d ++ ⟨#[47]⟩ ++ n) = d.size := by
          unfold lastSlS
          rw [← sz, app_data, lastSl_join _ _ hc, sz]
        unfold splitR
        rw [if_neg (by rw [h3]; simp), hlast, if_neg (by omega), Int.toNat_natCast]
        have e1 : (d ++ ⟨#[47]⟩ ++ n).extract 0 d.size = d := by
          apply bOf_inj
          rw [ex_take, app_data, ← sz, List.take_left]
        have e2 : (d ++ ⟨#[47]⟩ ++ n).extract (d.size + 1) (d ++ ⟨#[47]⟩ ++ n).size = n := by
          apply bOf_inj
          rw [ex_end, app_data, ← sz, ← List.drop_drop, List.drop_left]; rfl
        rw [e1, e2]
      · cases h
theorem join_of_split {l a b : ByteArray} (h : splitR l = (a, b, 0)) : joinR a b = (l, 0) := by
  unfold splitR at h
  split at h
  · cases h
  · rename_i h1
    have hl : labelS l = true := by simpa using h1
    split at h
    · rename_i h2
      cases h
      have hc : l.data.toList.contains 47 = false := by
        have := lastSl_neg l
        rw [decide_eq_true h2] at this
        simpa using this.symm
      have hn : nameS l = true := by rw [nameS, nameB, show labelB l.data.toList = true from hl, hc]; rfl
      unfold joinR
      rw [if_neg (by rw [hn]; simp [tl]), if_pos (by simp [tl])]
    · rename_i h2
      obtain ⟨k, hk⟩ : ∃ k : Nat, lastSlS l = k := ⟨(lastSlS l).toNat, by omega⟩
      rw [hk, Int.toNat_natCast] at h
      obtain ⟨k1, k2, k3⟩ := lastSlFrom_at (show lastSlFrom l.data.toList l.size = k from hk)
      have hkl : k < l.data.toList.length := by rw [sz]; exact k1
      have hcut := cut_at hkl k2
      have hns := noslash_after (fun j h4 h5 => k3 j h4 (by rw [sz] at h5; exact h5))
      simp only [Prod.mk.injEq, and_true] at h
      obtain ⟨ha, hb⟩ := h
      have da : a.data.toList = l.data.toList.take k := by rw [← ha, ex_take]
      have db : b.data.toList = l.data.toList.drop (k + 1) := by rw [← hb, ex_end]
      have hlab : labelB (a.data.toList ++ 47 :: b.data.toList) = true := by rw [da, db, ← hcut]; exact hl
      have hbs : b.data.toList.contains 47 = false := by rw [db]; exact hns
      have hj := labelB_join a.data.toList b.data.toList hbs
      rw [hlab] at hj
      have hj := hj.symm
      simp only [Bool.and_eq_true, decide_eq_true_eq] at hj
      obtain ⟨⟨j1, j2⟩, j3⟩ := hj
      have hla : labelS a = true := labelB_mk (by omega) j2
      have hlb : labelS b = true := labelB_mk (by omega) (by rw [split_name hbs]; simpa using j3)
      have hnb : nameS b = true := by rw [nameS, nameB, show labelB b.data.toList = true from hlb, hbs]; rfl
      have hae : a.toList.isEmpty = false := by
        rw [tl, List.isEmpty_eq_false_iff]
        exact labelB_pos hla
      have happ : a ++ ⟨#[47]⟩ ++ b = l := by
        apply bOf_inj
        rw [app_data, da, db, ← hcut]
      unfold joinR
      rw [if_neg (by rw [hla, hnb]; simp), if_neg (by rw [hae]; simp), happ, if_pos hl]
theorem split_err {l : ByteArray} (h : (splitR l).2.2 ≠ 0) : splitR l = (⟨#[]⟩, ⟨#[]⟩, 6) := by
  unfold splitR at h ⊢
  split
  · rfl
  · rename_i h1
    rw [if_neg h1] at h
    split at h
    · exact absurd rfl h
    · exact absurd rfl h
theorem join_size {d n s : ByteArray} (hd : d.size ≤ 100) (hn : n.size ≤ 100) (h : joinR d n = (s, 0)) : s.size ≤ 400 := by
  unfold joinR at h
  split at h
  · cases h
  · split at h
    · cases h; omega
    · split at h
      · cases h
        rw [ByteArray.size_append, ByteArray.size_append]
        show d.size + 1 + n.size ≤ 400
        omega
      · cases h
theorem split_size {l : ByteArray} (hl : l.size ≤ 100) : (splitR l).1.size ≤ 400 ∧ (splitR l).2.1.size ≤ 400 := by
  unfold splitR
  split
  · exact ⟨by decide, by decide⟩
  · split
    · exact ⟨by show (0 : Nat) ≤ 400; omega, by show l.size ≤ 400; omega⟩
    · refine ⟨?_, ?_⟩
      · show (l.extract _ _).size ≤ 400
        rw [ByteArray.size_extract]; omega
      · show (l.extract _ _).size ≤ 400
        rw [ByteArray.size_extract]; omega

set_option maxRecDepth 100000 in
set_option maxHeartbeats 2000000 in
theorem LLabels_any (d n l : ByteArray) (w : World) (hd : d.size ≤ 9223372036854775807) (hn : n.size ≤ 9223372036854775807) (hl : l.size ≤ 9223372036854775807) :
    Calls Tryd.prog 6 #[.string d, .string n, .string l] w fun e w' => e = .returned (.bool true) ∧ Below w.heap.size w w' := by
  have hcs : (100 < d.size) ∨ (¬ 100 < d.size ∧ 100 < n.size) ∨ (¬ 100 < d.size ∧ ¬ 100 < n.size ∧ 100 < l.size) ∨ (¬ 100 < d.size ∧ ¬ 100 < n.size ∧ ¬ 100 < l.size) := by omega
  rcases hcs with h1 | ⟨h1, h2⟩ | ⟨h1, h2, h3⟩ | ⟨h1, h2, h3⟩
  · go_enter Tryd.func6, Tryd.ntmps6
    go_wp2_with (go_at_call 11; refine (awake_any _).mono ?_; rintro e w1 ⟨rfl, hb1⟩)
    go_ret
    exact ⟨rfl, hb1⟩
  · go_enter Tryd.func6, Tryd.ntmps6
    go_wp2_with (go_at_call 11; refine (awake_any _).mono ?_; rintro e w1 ⟨rfl, hb1⟩)
    go_ret
    exact ⟨rfl, hb1⟩
  · go_enter Tryd.func6, Tryd.ntmps6
    go_wp2_with (go_at_call 11; refine (awake_any _).mono ?_; rintro e w1 ⟨rfl, hb1⟩)
    go_ret
    exact ⟨rfl, hb1⟩
  · obtain ⟨s, q, hj⟩ : ∃ s q, joinR d n = (s, q) := ⟨_, _, rfl⟩
    obtain ⟨a, b, r, hsp⟩ : ∃ a b r, splitR l = (a, b, r) := ⟨_, _, _, rfl⟩
    have CJ := Lib.hid (fun w => hj ▸ Join_any d n w (by omega) (by omega))
    have CS := Lib.hid (fun w => hsp ▸ Split_any l w (by omega))
    by_cases hq : q = 0
    · subst hq
      have hss := join_size (by omega) (by omega) hj
      have CS2 := Lib.hid (fun w => split_of_join hj ▸ Split_any s w hss)
      by_cases hr : r = 0
      · subst hr
        have hsz := split_size (l := l) (by omega)
        rw [hsp] at hsz
        have CJ2 := Lib.hid (fun w => join_of_split hsp ▸ Join_any a b w hsz.1 hsz.2)
        clear hj hsp hsz hss
        go_enter Tryd.func6, Tryd.ntmps6
        go_wp2_with (fail)
        refine (CJ.out _).mono ?_
        rintro e w1 ⟨rfl, hb1⟩
        go_wp2_with (fail)
        refine (CS2.out _).mono ?_
        rintro e w2 ⟨rfl, hb2⟩
        go_wp2_with (fail)
        refine (CS.out _).mono ?_
        rintro e w3 ⟨rfl, hb3⟩
        go_wp2_with (fail)
        refine (CJ2.out _).mono ?_
        rintro e w4 ⟨rfl, hb4⟩
        go_wp2_with (go_at_call 11; refine (awake_any _).mono ?_; rintro e w5 ⟨rfl, hb5⟩)
        go_ret
        exact ⟨rfl, qtrans (qtrans (qtrans (qtrans hb1 hb2) hb3) hb4) hb5⟩
      · have he := split_err (l := l) (by rw [hsp]; exact hr)
        rw [hsp] at he
        cases he
        clear hj hsp hss hr
        go_enter Tryd.func6, Tryd.ntmps6
        go_wp2_with (fail)
        refine (CJ.out _).mono ?_
        rintro e w1 ⟨rfl, hb1⟩
        go_wp2_with (fail)
        refine (CS2.out _).mono ?_
        rintro e w2 ⟨rfl, hb2⟩
        go_wp2_with (fail)
        refine (CS.out _).mono ?_
        rintro e w3 ⟨rfl, hb3⟩
        go_wp2_with (go_at_call 11; refine (awake_any _).mono ?_; rintro e w5 ⟨rfl, hb5⟩)
        go_ret
        exact ⟨rfl, qtrans (qtrans (qtrans hb1 hb2) hb3) hb5⟩
    · have hq' : (q == 0) = false := by simpa using hq
      by_cases hr : r = 0
      · subst hr
        have hsz := split_size (l := l) (by omega)
        rw [hsp] at hsz
        have CJ2 := Lib.hid (fun w => join_of_split hsp ▸ Join_any a b w hsz.1 hsz.2)
        clear hj hsp hsz hq
        go_enter Tryd.func6, Tryd.ntmps6
        go_wp2_with (fail)
        refine (CJ.out _).mono ?_
        rintro e w1 ⟨rfl, hb1⟩
        go_wp2_with (fail)
        refine (CS.out _).mono ?_
        rintro e w3 ⟨rfl, hb3⟩
        go_wp2_with (fail)
        refine (CJ2.out _).mono ?_
        rintro e w4 ⟨rfl, hb4⟩
        go_wp2_with (go_at_call 11; refine (awake_any _).mono ?_; rintro e w5 ⟨rfl, hb5⟩)
        go_ret
        exact ⟨rfl, qtrans (qtrans (qtrans hb1 hb3) hb4) hb5⟩
      · have he := split_err (l := l) (by rw [hsp]; exact hr)
        rw [hsp] at he
        cases he
        clear hj hsp hr hq
        go_enter Tryd.func6, Tryd.ntmps6
        go_wp2_with (fail)
        refine (CJ.out _).mono ?_
        rintro e w1 ⟨rfl, hb1⟩
        go_wp2_with (fail)
        refine (CS.out _).mono ?_
        rintro e w3 ⟨rfl, hb3⟩
        go_wp2_with (go_at_call 11; refine (awake_any _).mono ?_; rintro e w5 ⟨rfl, hb5⟩)
        go_ret
        exact ⟨rfl, qtrans (qtrans hb1 hb3) hb5⟩
end Go.Proofs.YtgcmekpfhagnbaaDoor
