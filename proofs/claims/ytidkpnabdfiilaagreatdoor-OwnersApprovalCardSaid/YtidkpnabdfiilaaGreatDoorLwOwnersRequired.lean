/- OwnersRequired: the walk. -/
import Derived.Test.YtidkpnabdfiilaaGreatDoorQ25
import Derived.Test.YtidkpnabdfiilaaGreatDoorQ17
namespace Go.Proofs.YtidkpnabdfiilaaGreatDoor
open Go.RowKit
attribute [local go_sem] Oper.semAt_some

theorem last_group {w : World} {gs : List (List ByteArray)} {n : Nat} {a : Option Addr} {cap : Nat} (h : Reads w [] (groupsT gs) (.slice a (n + 1) cap)) (hn : gs.length = n + 1) :
    ∃ (who : List ByteArray) (b o : Nat) (ag : Option Addr) (cg : Nat), gs[n]? = some who ∧ a = some ⟨b, o, none⟩ ∧ b < w.heap.size ∧ w.cell? ⟨b, o + n, none⟩ = some (.slice ag who.length cg) ∧ who.length ≤ cg ∧ cg ≤ 9223372036854775807 ∧ Hid (Strs w (.slice ag who.length cg) who) ∧ Hid (Reads w [] (groupsT (gs.take n)) (.slice a n cap)) := by
  obtain ⟨who, hw⟩ : ∃ who, gs[n]? = some who := ⟨_, List.getElem?_eq_getElem (by omega)⟩
  rw [← hn] at h
  obtain ⟨b, o, ag, cg, rfl, hb, c, q1, q2, s⟩ := groups_elem h hw
  exact ⟨who, b, o, ag, cg, hw, rfl, hb, c, q1, q2, s, Reads.takeRow (f := fun g : List ByteArray => [strsT g]) (fun _ => rfl) h (by omega)⟩
theorem diff_from : ∀ (n : Nat) (a b : List OFile), a.length + b.length ≤ n → ∀ c ∈ diffC a b, ∃ f, (f ∈ a ∨ f ∈ b) ∧ c.path = f.path := by
  intro n
  induction n with
  | zero =>
    intro a b h c hc
    obtain rfl : a = [] := List.length_eq_zero_iff.1 (by omega)
    obtain rfl : b = [] := List.length_eq_zero_iff.1 (by omega)
    cases hc
  | succ n ih =>
    intro a b hn c hc
    match a, b, hn, hc with
    | [], [], _, hc => cases hc
    | [], g :: b, hn, hc =>
      rw [diff_fresh] at hc
      rcases List.mem_cons.1 hc with rfl | hc
      · exact ⟨g, .inr (List.mem_cons_self ..), rfl⟩
      · obtain ⟨f, hf, e⟩ := ih [] b (by simp at hn ⊢; omega) c hc
        exact ⟨f, hf.imp id (List.mem_cons_of_mem _), e⟩
    | f :: a, [], hn, hc =>
      rw [diff_end] at hc
      rcases List.mem_cons.1 hc with rfl | hc
      · exact ⟨f, .inl (List.mem_cons_self ..), rfl⟩
      · obtain ⟨g, hg, e⟩ := ih a [] (by simp at hn ⊢; omega) c hc
        exact ⟨g, hg.imp (List.mem_cons_of_mem _) id, e⟩
    | f :: a, g :: b, hn, hc =>
      cases h1 : lessB f g with
      | true =>
        rw [diff_old h1] at hc
        rcases List.mem_cons.1 hc with rfl | hc
        · exact ⟨f, .inl (List.mem_cons_self ..), rfl⟩
        · obtain ⟨x, hx, e⟩ := ih a (g :: b) (by simp at hn ⊢; omega) c hc
          exact ⟨x, hx.imp (List.mem_cons_of_mem _) id, e⟩
      | false =>
        cases h2 : lessB g f with
        | true =>
          rw [diff_new h1 h2] at hc
          rcases List.mem_cons.1 hc with rfl | hc
          · exact ⟨g, .inr (List.mem_cons_self ..), rfl⟩
          · obtain ⟨x, hx, e⟩ := ih (f :: a) b (by simp at hn ⊢; omega) c hc
            exact ⟨x, hx.imp id (List.mem_cons_of_mem _), e⟩
        | false =>
          rw [diff_both h1 h2] at hc
          have key : c ∈ diffC a b → ∃ x, (x ∈ f :: a ∨ x ∈ g :: b) ∧ c.path = x.path := fun hc => by
            obtain ⟨x, hx, e⟩ := ih a b (by simp at hn; omega) c hc
            exact ⟨x, hx.imp (List.mem_cons_of_mem _) (List.mem_cons_of_mem _), e⟩
          split at hc
          · exact key hc
          · rcases List.mem_cons.1 hc with rfl | hc
            · exact ⟨f, .inl (List.mem_cons_self ..), rfl⟩
            · exact key hc
set_option maxRecDepth 100000 in
set_option maxHeartbeats 2000000 in
theorem LOwnersRequired_any (v1 : Value) (old : List OFile) (v2 : Value) (fresh : List OFile) (gv : Value) (gs : List (List ByteArray)) (w : World) (h1 : Reads w [] (filesT old) v1) (z1 : SizedF old) (h2 : Reads w [] (filesT fresh) v2) (z2 : SizedF fresh) (hg : Reads w [] (groupsT gs) gv) (zg : SizedG gs) :
    Calls Tryz.prog 3 #[v1, v2, gv] w fun e w' => e = .returned (.bool true) ∧ Below w.heap.size w w' := by
  have HG1 := Lib.hid (rGreat09_any v1 old w h1 z1)
  have HG2 := Lib.hid (rGreat09_any v2 fresh w h2 z2)
  have HGG := Lib.hid (rGreatGroups_any gv gs w hg zg)
  obtain ⟨a1, cap1, rfl, hc1, hd1⟩ := files_val h1
  obtain ⟨a2, cap2, rfl, hc2, hd2⟩ := files_val h2
  obtain ⟨a3, cap3, rfl, hc3, hd3⟩ := groups_val hg
  have H1 := Lib.hid h1
  have H2 := Lib.hid h2
  have H3 := Lib.hid hg
  clear h1 h2 hg z1 z2 zg
  cases g1 : greatF old with
  | true =>
    rw [g1] at HG1
    go_enter Tryz.func3, Tryz.ntmps3
    go_wp2_with (fail)
    refine HG1.out.mono ?_
    rintro e w0 ⟨rfl, rfl⟩
    go_wp2_with (fail)
    refine (awake_any _).mono ?_
    rintro e w9 ⟨rfl, hb9⟩
    go_wp2
    go_ret
    exact ⟨rfl, hb9⟩
  | false =>
  rw [g1] at HG1
  cases g2 : greatF fresh with
  | true =>
    rw [g2] at HG2
    go_enter Tryz.func3, Tryz.ntmps3
    go_wp2_with (fail)
    refine HG1.out.mono ?_
    rintro e w0 ⟨rfl, rfl⟩
    go_wp2_with (fail)
    refine HG2.out.mono ?_
    rintro e w0 ⟨rfl, rfl⟩
    go_wp2_with (fail)
    refine (awake_any _).mono ?_
    rintro e w9 ⟨rfl, hb9⟩
    go_wp2
    go_ret
    exact ⟨rfl, hb9⟩
  | false =>
  rw [g2] at HG2
  cases g3 : greatG gs with
  | true =>
    rw [g3] at HGG
    go_enter Tryz.func3, Tryz.ntmps3
    go_wp2_with (fail)
    refine HG1.out.mono ?_
    rintro e w0 ⟨rfl, rfl⟩
    go_wp2_with (fail)
    refine HG2.out.mono ?_
    rintro e w0 ⟨rfl, rfl⟩
    go_wp2_with (fail)
    refine HGG.out.mono ?_
    rintro e w0 ⟨rfl, rfl⟩
    go_wp2_with (fail)
    refine (awake_any _).mono ?_
    rintro e w9 ⟨rfl, hb9⟩
    go_wp2
    go_ret
    exact ⟨rfl, hb9⟩
  | false =>
  rw [g3] at HGG
  obtain ⟨u1, u2⟩ := greatG_small g3
  generalize hgl : gs.length = L at *
  rcases L with _ | n
  · have he0 : ((0 : Int) == 0) = true := rfl
    clear g1 g2 g3 u2
    go_enter Tryz.func3, Tryz.ntmps3
    go_wp2_with (fail)
    refine HG1.out.mono ?_
    rintro e w0 ⟨rfl, rfl⟩
    go_wp2_with (fail)
    refine HG2.out.mono ?_
    rintro e w0 ⟨rfl, rfl⟩
    go_wp2_with (fail)
    refine HGG.out.mono ?_
    rintro e w0 ⟨rfl, rfl⟩
    go_wp2_with (fail)
    refine (awake_any _).mono ?_
    rintro e w9 ⟨rfl, hb9⟩
    go_wp2
    go_ret
    exact ⟨rfl, hb9⟩
  have hn := hgl
  obtain ⟨s1, s2⟩ := greatF_small g1
  obtain ⟨t1, t2⟩ := greatF_small g2
  have sm1 : SmallF old := ⟨by omega, fun f hf => by have := s2 f hf; omega⟩
  have sm2 : SmallF fresh := ⟨by omega, fun f hf => by have := t2 f hf; omega⟩
  have HRQ := Lib.hid (Required_any _ _ old fresh w H1.out H2.out sm1 sm2 (by omega) (fun p hp => by
    obtain ⟨c, hc, rfl⟩ := List.mem_map.1 hp
    obtain ⟨f, hm, e⟩ := diff_from _ old fresh (Nat.le_refl _) c hc
    rw [e]
    rcases hm with hm | hm
    · have := s2 f hm; omega
    · have := t2 f hm; omega))
  have HRR := Lib.hid (fun W h1 h2 => rRequired_any (.slice a1 old.length cap1) (.slice a2 fresh.length cap2) old fresh W h1 h2 sm1 sm2 (fun f hf => by have := s2 f hf; omega) (fun f hf => by have := t2 f hf; omega) (by omega))
  generalize requiredOf old fresh = x at *
  obtain ⟨xg, xe⟩ := x
  have HU2 := Lib.hid u2
  clear g1 g2 g3 s2 t2 u2 sm1 sm2 hgl
  go_enter Tryz.func3, Tryz.ntmps3
  go_wp2_with (fail)
  refine HG1.out.mono ?_
  rintro e w0 ⟨rfl, rfl⟩
  go_wp2_with (fail)
  refine HG2.out.mono ?_
  rintro e w0 ⟨rfl, rfl⟩
  go_wp2_with (fail)
  refine HGG.out.mono ?_
  rintro e w0 ⟨rfl, rfl⟩
  go_wp2_with (fail)
  refine HRQ.out.mono ?_
  rintro e w2 ⟨qv, rfl, hqv, hb2⟩
  simp only [] at hqv
  obtain ⟨qa, qc, rfl, -, -⟩ := groups_val hqv
  have HQV := Lib.hid hqv
  have HR2 := Lib.hid (HRR.out w2 (H1.out.below hb2) (H2.out.below hb2))
  clear hqv HRR HRQ HG1 HG2 HGG
  go_wp2_with (fail)
  refine HR2.out.mono ?_
  rintro e w3 ⟨rv, rfl, hrv, hb3⟩
  simp only [] at hrv
  obtain ⟨ra, rc, rfl, -, -⟩ := groups_val hrv
  have HSG := Lib.hid (fun W h1 h2 => rSameGroups_eq (.slice qa xg.length qc) (.slice ra xg.length rc) xg W h1 h2)
  have HQ3 := Lib.hid (HQV.out.below hb3)
  have HRV := Lib.hid hrv
  have hee : (xe == xe) = true := by simp
  have hb23 := qtrans hb2 hb3
  have H33 := H3.out.below hb23
  obtain ⟨who, b, o, ag, cg, hwho, rfl, hbb, hcell, hg1, hg2, HSW, HTK⟩ := last_group H33 hn
  have hws := HU2.out who (List.mem_of_getElem? hwho)
  have htl : (gs.take n).length = n := by rw [List.length_take]; omega
  have HEN := Lib.hid (fun W h1 h2 => Enough_any (.slice (some ⟨b, o, none⟩) n cap3) (.slice ag who.length cg) (gs.take n) who W h1 h2 (by omega) (fun s hs => by have := hws.2 s hs; omega) (fun g hg s hs => by have := (HU2.out g (List.mem_of_mem_take hg)).2 s hs; omega))
  have HREN := Lib.hid (fun W h1 h2 => rEnough_any (.slice (some ⟨b, o, none⟩) n cap3) (.slice ag who.length cg) (gs.take n) who W h1 h2 (by omega))
  generalize enoughB (gs.take n) who = en at *
  have hen : (en == en) = true := by simp
  have hw1 : IntKind.i64.wrap ((n : Int) + 1 - 1) = (n : Int) := by rw [Int.add_sub_cancel]; exact IntWalk.i64_in _ (by omega)
  have hn0 : (0 : Int) ≤ (n : Int) := by omega
  have hw2 : IntKind.i64.wrap (n : Int) = (n : Int) := IntWalk.i64_in _ (by omega)
  have hn2 : (n : Int) ≤ (cap3 : Int) := by omega
  have hn1 : (n : Int) < (n : Int) + 1 := by omega
  clear hrv HQV HR2 hwho H33 H3 htl
  go_wp2_with (fail)
  refine wp_region_noPanic (region_ord (fun _ => True) [(true, 0), (true, 1), (false, 2), (true, 3), (true, 4), (true, 5), (true, 6), (true, 7), (true, 8), (true, 9), (true, 10), (true, 11), (true, 12), (true, 13), (true, 14), (true, 16), (true, 17), (true, 18), (true, 19), (true, 20), (true, 21), (false, 15), (false, 22), (true, 23), (true, 24), (true, 25), (false, 26), (true, 27), (true, 28)] mixedK (by kernel_rfl) (fun _ _ _ _ _ h => h) trivial (fun _ => ?_))
  have HQ4 := Lib.hid (HQ3.out.below (qrefl w3).drew)
  have HRV4 := Lib.hid (HRV.out.below (qrefl w3).drew)
  have HSW4 := Lib.hid (HSW.out.below (qrefl w3).drew)
  have HTK4 := Lib.hid (HTK.out.below (qrefl w3).drew)
  have hb4 := hb23.drew
  clear HQ3 HRV HSW HTK hb23 hcell hbb
  generalize w3.drew = w4 at *
  iterate 2 (first | (refine ord_skip rfl (by rfl) ?_; (try simp only [List.getElem_toArray, List.getElem_cons_succ, List.getElem_cons_zero, Act.put, List.setIfInBounds_toArray, List.set_cons_zero, List.set_cons_succ])) | (refine ord_take (v := ?_) rfl (by rfl) ?_ ?_; rotate_left; (focus (intro wq hSw; (try dsimp only at hSw); go_simp; (try rw [if_neg (by first | omega | (simp; omega))]); (try with_reducible rfl))); (try simp only [List.getElem_toArray, List.getElem_cons_succ, List.getElem_cons_zero, Act.put, List.setIfInBounds_toArray, List.set_cons_zero, List.set_cons_succ])))
  (refine ord_do rfl (by rfl) (fun K hK => ?_); go_simp)
  refine (HSG.out w4 HQ4.out HRV4.out).mono ?_
  rintro e w5 ⟨rfl, n5, rfl⟩
  refine hK.out _ _ trivial (fun _ => ?_)
  clear hK K
  (try simp only [List.getElem_toArray, List.getElem_cons_succ, List.getElem_cons_zero, Act.put, List.setIfInBounds_toArray, List.set_cons_zero, List.set_cons_succ])
  have HSW5 := Lib.hid (HSW4.out.drewN n5)
  have HTK5 := Lib.hid (HTK4.out.drewN n5)
  have hb5 := below_drewN hb4 n5
  clear HSG HQ4 HRV4 HSW4 HTK4 hb4
  generalize w4.drewN n5 = w5 at *
  iterate 10 (first | (refine ord_skip rfl (by rfl) ?_; (try simp only [List.getElem_toArray, List.getElem_cons_succ, List.getElem_cons_zero, Act.put, List.setIfInBounds_toArray, List.set_cons_zero, List.set_cons_succ])) | (refine ord_take (v := ?_) rfl (by rfl) ?_ ?_; rotate_left; (focus (intro wq hSw; (try dsimp only at hSw); go_simp; (try rw [if_neg (by first | omega | (simp; omega))]); (try with_reducible rfl))); (try simp only [List.getElem_toArray, List.getElem_cons_succ, List.getElem_cons_zero, Act.put, List.setIfInBounds_toArray, List.set_cons_zero, List.set_cons_succ])))
  refine ord_take (v := .slice (some ⟨b, o, none⟩) n cap3) rfl (by rfl) ?_ ?_
  · intro wq hSw
    go_simp
  (try simp only [List.getElem_toArray, List.getElem_cons_succ, List.getElem_cons_zero, Act.put, List.setIfInBounds_toArray, List.set_cons_zero, List.set_cons_succ])
  iterate 5 (first | (refine ord_skip rfl (by rfl) ?_; (try simp only [List.getElem_toArray, List.getElem_cons_succ, List.getElem_cons_zero, Act.put, List.setIfInBounds_toArray, List.set_cons_zero, List.set_cons_succ])) | (refine ord_take (v := ?_) rfl (by rfl) ?_ ?_; rotate_left; (focus (intro wq hSw; (try dsimp only at hSw); go_simp; (try rw [if_neg (by first | omega | (simp; omega))]); (try with_reducible rfl))); (try simp only [List.getElem_toArray, List.getElem_cons_succ, List.getElem_cons_zero, Act.put, List.setIfInBounds_toArray, List.set_cons_zero, List.set_cons_succ])))
  refine ord_take (v := .slice (some ⟨b, o, none⟩) n cap3) rfl (by rfl) ?_ ?_
  · intro wq hSw
    go_simp
  (try simp only [List.getElem_toArray, List.getElem_cons_succ, List.getElem_cons_zero, Act.put, List.setIfInBounds_toArray, List.set_cons_zero, List.set_cons_succ])
  iterate 1 (first | (refine ord_skip rfl (by rfl) ?_; (try simp only [List.getElem_toArray, List.getElem_cons_succ, List.getElem_cons_zero, Act.put, List.setIfInBounds_toArray, List.set_cons_zero, List.set_cons_succ])) | (refine ord_take (v := ?_) rfl (by rfl) ?_ ?_; rotate_left; (focus (intro wq hSw; (try dsimp only at hSw); go_simp; (try rw [if_neg (by first | omega | (simp; omega))]); (try with_reducible rfl))); (try simp only [List.getElem_toArray, List.getElem_cons_succ, List.getElem_cons_zero, Act.put, List.setIfInBounds_toArray, List.set_cons_zero, List.set_cons_succ])))
  (refine ord_do rfl (by rfl) (fun K hK => ?_); go_simp)
  refine (HEN.out w5 HTK5.out HSW5.out).mono ?_
  rintro e w6 ⟨rfl, hb6⟩
  refine hK.out _ _ trivial (fun _ => ?_)
  clear hK K
  (try simp only [List.getElem_toArray, List.getElem_cons_succ, List.getElem_cons_zero, Act.put, List.setIfInBounds_toArray, List.set_cons_zero, List.set_cons_succ])
  (refine ord_do rfl (by rfl) (fun K hK => ?_); go_simp)
  refine (HREN.out w6 (HTK5.out.below hb6) (HSW5.out.below hb6)).mono ?_
  rintro e w7 ⟨rfl, rfl⟩
  refine hK.out _ _ trivial (fun _ => ?_)
  clear hK K
  (try simp only [List.getElem_toArray, List.getElem_cons_succ, List.getElem_cons_zero, Act.put, List.setIfInBounds_toArray, List.set_cons_zero, List.set_cons_succ])
  iterate 3 (first | (refine ord_skip rfl (by rfl) ?_; (try simp only [List.getElem_toArray, List.getElem_cons_succ, List.getElem_cons_zero, Act.put, List.setIfInBounds_toArray, List.set_cons_zero, List.set_cons_succ])) | (refine ord_take (v := ?_) rfl (by rfl) ?_ ?_; rotate_left; (focus (intro wq hSw; (try dsimp only at hSw); go_simp; (try rw [if_neg (by first | omega | (simp; omega))]); (try with_reducible rfl))); (try simp only [List.getElem_toArray, List.getElem_cons_succ, List.getElem_cons_zero, Act.put, List.setIfInBounds_toArray, List.set_cons_zero, List.set_cons_succ])))
  (refine ord_do rfl (by rfl) (fun K hK => ?_); go_simp)
  refine (awake_any _).mono ?_
  rintro e w8 ⟨rfl, hb8⟩
  refine hK.out _ _ trivial (fun _ => ?_)
  clear hK K
  (try simp only [List.getElem_toArray, List.getElem_cons_succ, List.getElem_cons_zero, Act.put, List.setIfInBounds_toArray, List.set_cons_zero, List.set_cons_succ])
  iterate 2 (first | (refine ord_skip rfl (by rfl) ?_; (try simp only [List.getElem_toArray, List.getElem_cons_succ, List.getElem_cons_zero, Act.put, List.setIfInBounds_toArray, List.set_cons_zero, List.set_cons_succ])) | (refine ord_take (v := ?_) rfl (by rfl) ?_ ?_; rotate_left; (focus (intro wq hSw; (try dsimp only at hSw); go_simp; (try rw [if_neg (by first | omega | (simp; omega))]); (try with_reducible rfl))); (try simp only [List.getElem_toArray, List.getElem_cons_succ, List.getElem_cons_zero, Act.put, List.setIfInBounds_toArray, List.set_cons_zero, List.set_cons_succ])))
  refine ord_end (NoPanic.normal ?_)
  go_wp2
  go_ret
  exact ⟨rfl, qtrans hb5 (qtrans hb6 hb8)⟩
end Go.Proofs.YtidkpnabdfiilaaGreatDoor
