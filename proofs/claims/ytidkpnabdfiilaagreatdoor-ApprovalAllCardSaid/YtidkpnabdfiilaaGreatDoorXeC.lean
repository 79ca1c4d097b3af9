/- The reference's Encode, Saw, Stands. -/
import Derived.Test.YtidkpnabdfiilaaGreatDoorXeB
import Derived.Test.YtidkpnabdfiilaaGreatDoorEnA
import Derived.Test.YtidkpnabdfiilaaGreatDoorApB
namespace Go.Proofs.YtidkpnabdfiilaaGreatDoor
open Go.RowKit Go.Shelf
attribute [local go_sem] Oper.semAt_some
attribute [local irreducible] Go.wpStill

theorem encF_bOf_size (b : Bool) : (bOf (encF b)).size ≤ 9 := encFL b
theorem encT_bOf_size (s : ByteArray) : (bOf (encT s)).size ≤ s.size + 9 := encL s
def Held5 (b1 o : Nat) (c : FChg) (W : World) : Prop := W.cell? ⟨b1, o, none⟩ = some (.string c.path) ∧ W.cell? ⟨b1, o + 1, none⟩ = some (.bool c.hasOld) ∧ W.cell? ⟨b1, o + 2, none⟩ = some (.bool c.hasNew) ∧ W.cell? ⟨b1, o + 3, none⟩ = some (.string c.old) ∧ W.cell? ⟨b1, o + 4, none⟩ = some (.string c.fresh)
theorem Held5.below {b1 o : Nat} {c : FChg} {W W' : World} (h : Held5 b1 o c W) (hb : Below W.heap.size W W') (hl : b1 < W.heap.size) : Held5 b1 o c W' :=
  ⟨(hb.cell (p := ⟨b1, o, none⟩) hl).trans h.1, (hb.cell (p := ⟨b1, o + 1, none⟩) hl).trans h.2.1, (hb.cell (p := ⟨b1, o + 2, none⟩) hl).trans h.2.2.1, (hb.cell (p := ⟨b1, o + 3, none⟩) hl).trans h.2.2.2.1, (hb.cell (p := ⟨b1, o + 4, none⟩) hl).trans h.2.2.2.2⟩
set_option maxRecDepth 100000 in
set_option maxHeartbeats 4000000 in
theorem xEncode_any (v : Value) (cs : List FChg) (w : World) (h : Reads w [] (chgsT cs) v) (hl : cs.length ≤ 4000) (hs : ∀ c ∈ cs, c.path.size < 16384 ∧ c.old.size < 16384 ∧ c.fresh.size < 16384) :
    Calls Tryz.prog 65 #[v] w fun e w' => e = .returned (.string (bOf (encC cs))) ∧ Below w.heap.size w w' := by
  obtain ⟨a, cap, rfl, hc1, hc2⟩ := chgs_val h
  have H := Lib.hid h
  have HS := Lib.hid hs
  have HN := Lib.hid (xnumber_any cs.length (by omega))
  have HZ : Hid (encC cs = intB cs.length ++ ((cs.take cs.length).map encC1).flatten) := by show _ = _; rw [List.take_length]; rfl
  have hp0 : (bOf (intB cs.length)).size ≤ 9 := (digs_len 8 cs.length).2
  have HP0 : Hid (bOf (intB cs.length) = bOf (intB cs.length ++ ((cs.take 0).map encC1).flatten)) := by show _ = _; simp
  clear h hs
  go_enter Tryz.func65, Tryz.ntmps65
  go_wp2_with (fail)
  refine (HN.out w).mono ?_
  rintro e w1 ⟨rfl, hb1⟩
  rw [HP0.out]
  have hpl : (intB cs.length).length ≤ 9 := hp0
  generalize intB cs.length = p at *
  clear HN hp0 HP0
  go_wp2
  go_loopw [3, 4] (fun ov iv wr => ∃ k : Nat, k ≤ cs.length ∧ iv = .int .i64 k ∧ ov = .string (bOf (p ++ ((cs.take k).map encC1).flatten)) ∧ Below w.heap.size w wr) (fun _ iv _ => cs.length - (intOf iv).toNat)
  case atStart => exact ⟨0, Nat.zero_le _, rfl, by simp, hb1⟩
  case round =>
    obtain ⟨k, hk, rfl, rfl, hbel⟩ := hrel
    have hk0 : (0 : Int) ≤ (k : Int) := by omega
    by_cases hkl : k < cs.length
    · obtain ⟨c, hc⟩ : ∃ c, cs[k]? = some c := ⟨_, List.getElem?_eq_getElem hkl⟩
      obtain ⟨b1, o1, rfl, hbb1, d0, d1, d2, d3, d4⟩ := chgs_elem (H.out.below hbel) hc
      have hk1 : (k : Int) < (cs.length : Int) := by omega
      have hsm := HS.out c (List.mem_of_getElem? hc)
      have HT : Hid (bOf (p ++ ((cs.take (k + 1)).map encC1).flatten) = ((((bOf (p ++ ((cs.take k).map encC1).flatten) ++ bOf (encT c.path)) ++ bOf (encF c.hasOld)) ++ bOf (encF c.hasNew)) ++ bOf (encT c.old)) ++ bOf (encT c.fresh)) := by
        refine Lib.hid (bytes_eq ?_)
        rw [enc_take hc]
        simp [bOf]
      have hL : (bOf (p ++ ((cs.take k).map encC1).flatten)).size ≤ 500000000 := by
        have h1 := flatC_len (cs := cs.take k) (N := 120100) (fun x hx => by
          have := HS.out x (List.mem_of_mem_take hx)
          exact encC1_len ⟨by omega, by omega, by omega⟩)
        rw [List.length_take] at h1
        rw [bOf_size, List.length_append]
        have : min k cs.length * 120100 ≤ 4000 * 120100 := Nat.mul_le_mul_right _ (by omega)
        omega
      have s1 := encT_bOf_size c.path
      have s2 := encF_bOf_size c.hasOld
      have s3 := encF_bOf_size c.hasNew
      have s4 := encT_bOf_size c.old
      have s5 := encT_bOf_size c.fresh
      have HC1 := Lib.hid (xtext_any c.path (by omega))
      have HC2 := Lib.hid (xtruth_any c.hasOld)
      have HC3 := Lib.hid (xtruth_any c.hasNew)
      have HC4 := Lib.hid (xtext_any c.old (by omega))
      have HC5 := Lib.hid (xtext_any c.fresh (by omega))
      clear hc
      generalize bOf (p ++ ((cs.take k).map encC1).flatten) = q at *
      generalize bOf (encT c.path) = t1 at *
      generalize bOf (encF c.hasOld) = t2 at *
      generalize bOf (encF c.hasNew) = t3 at *
      generalize bOf (encT c.old) = t4 at *
      generalize bOf (encT c.fresh) = t5 at *
      have n1 : ¬ (9223372036854775807 < q.size + t1.size) := by omega
      have z1 : (q ++ t1).size = q.size + t1.size := ByteArray.size_append
      have n2 : ¬ (9223372036854775807 < (q ++ t1).size + t2.size) := by omega
      have z2 : (q ++ t1 ++ t2).size = (q ++ t1).size + t2.size := ByteArray.size_append
      have n3 : ¬ (9223372036854775807 < (q ++ t1 ++ t2).size + t3.size) := by omega
      have z3 : (q ++ t1 ++ t2 ++ t3).size = (q ++ t1 ++ t2).size + t3.size := ByteArray.size_append
      have n4 : ¬ (9223372036854775807 < (q ++ t1 ++ t2 ++ t3).size + t4.size) := by omega
      have z4 : (q ++ t1 ++ t2 ++ t3 ++ t4).size = (q ++ t1 ++ t2 ++ t3).size + t4.size := ByteArray.size_append
      have n5 : ¬ (9223372036854775807 < (q ++ t1 ++ t2 ++ t3 ++ t4).size + t5.size) := by omega
      have m2 : ¬ (9223372036854775807 < q.size + t1.size + t2.size) := by omega
      have m3 : ¬ (9223372036854775807 < q.size + t1.size + t2.size + t3.size) := by omega
      have m4 : ¬ (9223372036854775807 < q.size + t1.size + t2.size + t3.size + t4.size) := by omega
      have m5 : ¬ (9223372036854775807 < q.size + t1.size + t2.size + t3.size + t4.size + t5.size) := by omega
      clear z1 z2 z3 z4
      go_wp2_with (fail)
      have hbd1 := hbel.drew
      have HH1 : Hid (Held5 b1 (o1 + k * 5) c wr.drew) := ⟨d0, d1, d2, d3, d4⟩
      have hl1 : b1 < wr.drew.heap.size := hbb1
      refine wp_region_noPanic (region_ordT (fun W => W.cell? ⟨b1, o1 + k * 5, none⟩ = some (.string c.path) ∧ W.cell? ⟨b1, o1 + k * 5 + 1, none⟩ = some (.bool c.hasOld) ∧ W.cell? ⟨b1, o1 + k * 5 + 2, none⟩ = some (.bool c.hasNew) ∧ W.cell? ⟨b1, o1 + k * 5 + 3, none⟩ = some (.string c.old) ∧ W.cell? ⟨b1, o1 + k * 5 + 4, none⟩ = some (.string c.fresh)) 36 [(true, 0), (true, 1), (true, 2), (true, 3), (true, 4), (true, 5), (true, 8), (true, 9), (true, 10), (true, 11), (true, 12), (true, 15), (true, 16), (true, 17), (true, 18), (true, 19), (true, 22), (true, 23), (true, 24), (true, 25), (true, 26), (true, 29), (true, 30), (true, 31), (true, 32), (true, 33), (false, 6), (true, 7), (false, 13), (true, 14), (false, 20), (true, 21), (false, 27), (true, 28), (false, 34), (true, 35)] mixedK (by kernel_rfl) (fun _ _ _ _ _ h => h) HH1.out (fun hHeld1 => ?_))
      clear d0 d1 d2 d3 d4 hbb1 hbel
      generalize wr.drew = wd at *
      iterate 26 (first | (refine ordT_skip rfl (by rfl) ?_; (try simp only [List.getElem_toArray, List.getElem_cons_succ, List.getElem_cons_zero, Act.put, List.setIfInBounds_toArray, List.set_cons_zero, List.set_cons_succ])) | (refine ordT_take (v := ?_) rfl (by rfl) ?_ ?_; rotate_left; (focus (intro wq hSw; (try dsimp only at hSw); go_simp; (try rw [if_neg (by first | omega | (simp; omega))]); (try with_reducible rfl))); (try simp only [List.getElem_toArray, List.getElem_cons_succ, List.getElem_cons_zero, Act.put, List.setIfInBounds_toArray, List.set_cons_zero, List.set_cons_succ])))
      (refine ordT_do rfl (by rfl) (fun K hK => ?_); go_simp)
      refine (HC1.out _).mono ?_
      rintro e w2 ⟨rfl, hb2⟩
      (try go_simp)
      have HH2 := Lib.hid (HH1.out.below hb2 hl1)
      have hl2 : b1 < w2.heap.size := Nat.lt_of_lt_of_le hl1 hb2.size
      have hbd2 := qtrans hbd1 hb2
      refine hK.out _ _ HH2.out (fun hHeld2 => ?_)
      clear hK K hb2 HH1 hl1 hbd1 hHeld1
      (try simp only [List.getElem_toArray, List.getElem_cons_succ, List.getElem_cons_zero, Act.put, List.setIfInBounds_toArray, List.set_cons_zero, List.set_cons_succ])
      iterate 1 (first | (refine ordT_skip rfl (by rfl) ?_; (try simp only [List.getElem_toArray, List.getElem_cons_succ, List.getElem_cons_zero, Act.put, List.setIfInBounds_toArray, List.set_cons_zero, List.set_cons_succ])) | (refine ordT_take (v := ?_) rfl (by rfl) ?_ ?_; rotate_left; (focus (intro wq hSw; (try dsimp only at hSw); go_simp; (try rw [if_neg (by first | omega | (simp; omega))]); (try with_reducible rfl))); (try simp only [List.getElem_toArray, List.getElem_cons_succ, List.getElem_cons_zero, Act.put, List.setIfInBounds_toArray, List.set_cons_zero, List.set_cons_succ])))
      (refine ordT_do rfl (by rfl) (fun K hK => ?_); go_simp)
      refine (HC2.out _).mono ?_
      rintro e w3 ⟨rfl, hb3⟩
      (try go_simp)
      have HH3 := Lib.hid (HH2.out.below hb3 hl2)
      have hl3 : b1 < w3.heap.size := Nat.lt_of_lt_of_le hl2 hb3.size
      have hbd3 := qtrans hbd2 hb3
      refine hK.out _ _ HH3.out (fun hHeld3 => ?_)
      clear hK K hb3 HH2 hl2 hbd2 hHeld2
      (try simp only [List.getElem_toArray, List.getElem_cons_succ, List.getElem_cons_zero, Act.put, List.setIfInBounds_toArray, List.set_cons_zero, List.set_cons_succ])
      iterate 1 (first | (refine ordT_skip rfl (by rfl) ?_; (try simp only [List.getElem_toArray, List.getElem_cons_succ, List.getElem_cons_zero, Act.put, List.setIfInBounds_toArray, List.set_cons_zero, List.set_cons_succ])) | (refine ordT_take (v := ?_) rfl (by rfl) ?_ ?_; rotate_left; (focus (intro wq hSw; (try dsimp only at hSw); go_simp; (try rw [if_neg (by first | omega | (simp; omega))]); (try with_reducible rfl))); (try simp only [List.getElem_toArray, List.getElem_cons_succ, List.getElem_cons_zero, Act.put, List.setIfInBounds_toArray, List.set_cons_zero, List.set_cons_succ])))
      (refine ordT_do rfl (by rfl) (fun K hK => ?_); go_simp)
      refine (HC3.out _).mono ?_
      rintro e w4 ⟨rfl, hb4⟩
      (try go_simp)
      have HH4 := Lib.hid (HH3.out.below hb4 hl3)
      have hl4 : b1 < w4.heap.size := Nat.lt_of_lt_of_le hl3 hb4.size
      have hbd4 := qtrans hbd3 hb4
      refine hK.out _ _ HH4.out (fun hHeld4 => ?_)
      clear hK K hb4 HH3 hl3 hbd3 hHeld3
      (try simp only [List.getElem_toArray, List.getElem_cons_succ, List.getElem_cons_zero, Act.put, List.setIfInBounds_toArray, List.set_cons_zero, List.set_cons_succ])
      iterate 1 (first | (refine ordT_skip rfl (by rfl) ?_; (try simp only [List.getElem_toArray, List.getElem_cons_succ, List.getElem_cons_zero, Act.put, List.setIfInBounds_toArray, List.set_cons_zero, List.set_cons_succ])) | (refine ordT_take (v := ?_) rfl (by rfl) ?_ ?_; rotate_left; (focus (intro wq hSw; (try dsimp only at hSw); go_simp; (try rw [if_neg (by first | omega | (simp; omega))]); (try with_reducible rfl))); (try simp only [List.getElem_toArray, List.getElem_cons_succ, List.getElem_cons_zero, Act.put, List.setIfInBounds_toArray, List.set_cons_zero, List.set_cons_succ])))
      (refine ordT_do rfl (by rfl) (fun K hK => ?_); go_simp)
      refine (HC4.out _).mono ?_
      rintro e w5 ⟨rfl, hb5⟩
      (try go_simp)
      have HH5 := Lib.hid (HH4.out.below hb5 hl4)
      have hl5 : b1 < w5.heap.size := Nat.lt_of_lt_of_le hl4 hb5.size
      have hbd5 := qtrans hbd4 hb5
      refine hK.out _ _ HH5.out (fun hHeld5 => ?_)
      clear hK K hb5 HH4 hl4 hbd4 hHeld4
      (try simp only [List.getElem_toArray, List.getElem_cons_succ, List.getElem_cons_zero, Act.put, List.setIfInBounds_toArray, List.set_cons_zero, List.set_cons_succ])
      iterate 1 (first | (refine ordT_skip rfl (by rfl) ?_; (try simp only [List.getElem_toArray, List.getElem_cons_succ, List.getElem_cons_zero, Act.put, List.setIfInBounds_toArray, List.set_cons_zero, List.set_cons_succ])) | (refine ordT_take (v := ?_) rfl (by rfl) ?_ ?_; rotate_left; (focus (intro wq hSw; (try dsimp only at hSw); go_simp; (try rw [if_neg (by first | omega | (simp; omega))]); (try with_reducible rfl))); (try simp only [List.getElem_toArray, List.getElem_cons_succ, List.getElem_cons_zero, Act.put, List.setIfInBounds_toArray, List.set_cons_zero, List.set_cons_succ])))
      (refine ordT_do rfl (by rfl) (fun K hK => ?_); go_simp)
      refine (HC5.out _).mono ?_
      rintro e w6 ⟨rfl, hb6⟩
      (try go_simp)
      have HH6 := Lib.hid (HH5.out.below hb6 hl5)
      have hl6 : b1 < w6.heap.size := Nat.lt_of_lt_of_le hl5 hb6.size
      have hbd6 := qtrans hbd5 hb6
      refine hK.out _ _ HH6.out (fun hHeld6 => ?_)
      clear hK K hb6 HH5 hl5 hbd5 hHeld5
      (try simp only [List.getElem_toArray, List.getElem_cons_succ, List.getElem_cons_zero, Act.put, List.setIfInBounds_toArray, List.set_cons_zero, List.set_cons_succ])
      iterate 1 (first | (refine ordT_skip rfl (by rfl) ?_; (try simp only [List.getElem_toArray, List.getElem_cons_succ, List.getElem_cons_zero, Act.put, List.setIfInBounds_toArray, List.set_cons_zero, List.set_cons_succ])) | (refine ordT_take (v := ?_) rfl (by rfl) ?_ ?_; rotate_left; (focus (intro wq hSw; (try dsimp only at hSw); go_simp; (try rw [if_neg (by first | omega | (simp; omega))]); (try with_reducible rfl))); (try simp only [List.getElem_toArray, List.getElem_cons_succ, List.getElem_cons_zero, Act.put, List.setIfInBounds_toArray, List.set_cons_zero, List.set_cons_succ])))
      refine ordT_end ?_
      go_wp2_with (fail)
      refine NoPanic.normal ?_
      go_wp2
      go_roundw
      case rel => exact ⟨k + 1, by omega, by go_num, by rw [HT.out], hbd6⟩
      case measure => simp [intOf]; omega
    · have hkl' : k = cs.length := by omega
      subst hkl'
      rw [← HZ.out]
      go_wp2
      go_ret
      exact ⟨rfl, hbel⟩
def SawPost (x : ByteArray × Int) (w : World) (e : Ending) (w' : World) : Prop := e = .returned (.tuple #[.string x.1, .int .i64 x.2]) ∧ Below w.heap.size w w'
theorem seenL_small {old fresh : List OFile} (T1 : TreeOk old) (T2 : TreeOk fresh) {N : Nat} (hs1 : ∀ f ∈ old, f.path.size ≤ N ∧ f.data.size ≤ N) (hs2 : ∀ f ∈ fresh, f.path.size ≤ N ∧ f.data.size ≤ N) (who : ByteArray) : ∀ c ∈ seenL old fresh who, c.path.size ≤ N ∧ c.old.size ≤ N ∧ c.fresh.size ≤ N := by
  intro c hc
  obtain ⟨h, hm, rfl, _⟩ := ((diff_spec _ old fresh (Nat.le_refl _) T1.ord T2.ord).1 c).1 (List.mem_filter.1 hc).1
  have fd : ∀ (l : List OFile), (∀ f ∈ l, f.path.size ≤ N ∧ f.data.size ≤ N) → ∀ x, (findD l x).size ≤ N := fun l hl x => by
    unfold findD
    cases e : findF l x with
    | none => exact Nat.zero_le _
    | some f => exact (hl f (List.mem_of_find?_eq_some e)).2
  exact ⟨hm.elim (fun hm => (hs1 h hm).1) (fun hm => (hs2 h hm).1), fd old hs1 _, fd fresh hs2 _⟩
theorem seenL_len {old fresh : List OFile} (hl : old.length + fresh.length ≤ 4000) (who : ByteArray) : (seenL old fresh who).length ≤ 4000 := by
  have := diff_len _ old fresh (Nat.le_refl _)
  exact Nat.le_trans (List.length_filter_le _ _) (by omega)
theorem Saw_any (v1 v2 : Value) (old fresh : List OFile) (who : ByteArray) (w : World) (h1 : Reads w [] (filesT old) v1) (h2 : Reads w [] (filesT fresh) v2) (hs1 : SmallF old) (hs2 : SmallF fresh) (hl : old.length + fresh.length ≤ 4000) :
    Calls Tryz.prog 29 #[v1, v2, .string who] w (SawPost (sawOf old fresh who) w) := by
  have HE := Lib.hid (Seen_any v1 v2 old fresh who w h1 h2 hs1 hs2 hl)
  obtain ⟨a1, cap1, rfl, hc1, hd1⟩ := files_val h1
  obtain ⟨a2, cap2, rfl, hc2, hd2⟩ := files_val h2
  have HR : Hid (sawOf old fresh who = if treesErr old fresh = 0 then (viewOf old fresh who, 0) else (⟨#[]⟩, treesErr old fresh)) := rfl
  have HX : Hid (seenOf old fresh who = if treesErr old fresh = 0 then (seenL old fresh who, 0) else ([], treesErr old fresh)) := rfl
  have HV : Hid (viewOf old fresh who = bOf (encC (seenL old fresh who))) := rfl
  clear h1 h2
  by_cases e1 : treesErr old fresh = 0
  · obtain ⟨T1, T2⟩ := treesErr_two e1
    have HSM := Lib.hid (seenL_small (N := 40000) T1 T2 (fun f hf => hs1.each f hf) (fun f hf => hs2.each f hf) who)
    have HLN := Lib.hid (seenL_len hl who)
    rw [HX.out, if_pos e1] at HE
    have HR2 : Hid (sawOf old fresh who = (viewOf old fresh who, 0)) := by show _ = _; rw [HR.out, if_pos e1]
    rw [HV.out] at HR2
    clear HR HX HV e1 T1 T2
    generalize seenL old fresh who = l at *
    go_enter Tryz.func29, Tryz.ntmps29
    go_wp2_with (fail)
    refine HE.out.mono ?_
    rintro e w1 ⟨lv, rfl, hlv, hb1⟩
    simp only [] at hlv
    obtain ⟨la, lc, rfl, -, -⟩ := chgs_val hlv
    have HLV := Lib.hid hlv
    clear hlv HE
    go_wp2_with (fail)
    refine (encode_any _ l w1 HLV.out HLN.out (fun c hc => by obtain ⟨h1, h2, h3⟩ := HSM.out c hc; exact ⟨h1, h2, h3⟩)).mono ?_
    rintro e w2 ⟨rfl, hb2⟩
    go_wp2
    go_ret2
    rw [HR2.out]
    exact ⟨rfl, qtrans hb1 hb2⟩
  · rw [HX.out, if_neg e1] at HE
    have HR2 : Hid (sawOf old fresh who = (⟨#[]⟩, treesErr old fresh)) := by show _ = _; rw [HR.out, if_neg e1]
    have hne : (treesErr old fresh != 0) = true := by simpa using e1
    clear HR HX HV e1
    generalize treesErr old fresh = q at *
    go_enter Tryz.func29, Tryz.ntmps29
    go_wp2_with (fail)
    refine HE.out.mono ?_
    rintro e w1 ⟨lv, rfl, hlv, hb1⟩
    simp only [] at hlv
    obtain ⟨la, lc, rfl, -, -⟩ := chgs_val hlv
    clear hlv HE
    go_wp2
    go_ret2
    rw [HR2.out]
    exact ⟨rfl, hb1⟩
theorem xSaw_any (v1 v2 : Value) (old fresh : List OFile) (who : ByteArray) (w : World) (h1 : Reads w [] (filesT old) v1) (h2 : Reads w [] (filesT fresh) v2) (hs1 : SmallF old) (hs2 : SmallF fresh) (hd1 : ∀ f ∈ old, f.path.size ≤ 16000 ∧ f.data.size ≤ 16000) (hd2 : ∀ f ∈ fresh, f.path.size ≤ 16000 ∧ f.data.size ≤ 16000) (hl : old.length + fresh.length ≤ 4000) :
    Calls Tryz.prog 30 #[v1, v2, .string who] w (SawPost (sawOf old fresh who) w) := by
  have HE := Lib.hid (xSeen_any v1 v2 old fresh who w h1 h2 hs1 hs2 (fun f hf => (hd1 f hf).2) (fun f hf => (hd2 f hf).2) hl)
  obtain ⟨a1, cap1, rfl, hc1, hd1'⟩ := files_val h1
  obtain ⟨a2, cap2, rfl, hc2, hd2'⟩ := files_val h2
  have HR : Hid (sawOf old fresh who = if treesErr old fresh = 0 then (viewOf old fresh who, 0) else (⟨#[]⟩, treesErr old fresh)) := rfl
  have HX : Hid (seenOf old fresh who = if treesErr old fresh = 0 then (seenL old fresh who, 0) else ([], treesErr old fresh)) := rfl
  have HV : Hid (viewOf old fresh who = bOf (encC (seenL old fresh who))) := rfl
  clear h1 h2
  by_cases e1 : treesErr old fresh = 0
  · obtain ⟨T1, T2⟩ := treesErr_two e1
    have HSM := Lib.hid (seenL_small (N := 16000) T1 T2 hd1 hd2 who)
    have HLN := Lib.hid (seenL_len hl who)
    rw [HX.out, if_pos e1] at HE
    have HR2 : Hid (sawOf old fresh who = (viewOf old fresh who, 0)) := by show _ = _; rw [HR.out, if_pos e1]
    rw [HV.out] at HR2
    clear HR HX HV e1 T1 T2
    generalize seenL old fresh who = l at *
    go_enter Tryz.func30, Tryz.ntmps30
    go_wp2_with (fail)
    refine HE.out.mono ?_
    rintro e w1 ⟨lv, rfl, hlv, hb1⟩
    simp only [] at hlv
    obtain ⟨la, lc, rfl, -, -⟩ := chgs_val hlv
    have HLV := Lib.hid hlv
    clear hlv HE
    go_wp2_with (fail)
    refine (xEncode_any _ l w1 HLV.out HLN.out (fun c hc => by have := HSM.out c hc; omega)).mono ?_
    rintro e w2 ⟨rfl, hb2⟩
    go_wp2
    go_ret2
    rw [HR2.out]
    exact ⟨rfl, qtrans hb1 hb2⟩
  · rw [HX.out, if_neg e1] at HE
    have HR2 : Hid (sawOf old fresh who = (⟨#[]⟩, treesErr old fresh)) := by show _ = _; rw [HR.out, if_neg e1]
    have hne : (treesErr old fresh != 0) = true := by simpa using e1
    clear HR HX HV e1
    generalize treesErr old fresh = q at *
    go_enter Tryz.func30, Tryz.ntmps30
    go_wp2_with (fail)
    refine HE.out.mono ?_
    rintro e w1 ⟨lv, rfl, hlv, hb1⟩
    simp only [] at hlv
    obtain ⟨la, lc, rfl, -, -⟩ := chgs_val hlv
    clear hlv HE
    go_wp2
    go_ret2
    rw [HR2.out]
    exact ⟨rfl, hb1⟩
theorem AStands_any (a : Appr) (v1 v2 : Value) (old fresh : List OFile) (w : World) (h1 : Reads w [] (filesT old) v1) (h2 : Reads w [] (filesT fresh) v2) (hs1 : SmallF old) (hs2 : SmallF fresh)  (hl : old.length + fresh.length ≤ 4000) :
    Calls Tryz.prog 32 #[.agg #[.string a.who, .int .i64 a.change, .string a.saw], v1, v2] w fun e w' => e = .returned (.bool (standsB old fresh a)) ∧ Below w.heap.size w w' := by
  have HA := Lib.hid (qalloc w (.cells #[.string a.who, .int .i64 a.change, .string a.saw] 51))
  have HB := Lib.hid (CBox.new w 51 #[.string a.who, .int .i64 a.change, .string a.saw])
  have HE := Lib.hid (Saw_any v1 v2 old fresh a.who _ (h1.below HA.out) (h2.below HA.out) hs1 hs2 hl)
  obtain ⟨a1, cap1, rfl, hc1, hd1'⟩ := files_val h1
  obtain ⟨a2, cap2, rfl, hc2, hd2'⟩ := files_val h2
  have HR : Hid (sawOf old fresh a.who = if treesErr old fresh = 0 then (viewOf old fresh a.who, 0) else (⟨#[]⟩, treesErr old fresh)) := rfl
  clear h1 h2
  have x0 := HB.out.cell (i := 0) rfl
  by_cases e1 : treesErr old fresh = 0
  · have HST : Hid (standsB old fresh a = (a.saw.toList == (viewOf old fresh a.who).toList)) := by
      refine Lib.hid ?_
      unfold standsB; rw [e1, tl, tl]; rfl
    rw [HR.out, if_pos e1] at HE
    generalize viewOf old fresh a.who = vw at *
    clear HR e1
    go_enter Tryz.func32, Tryz.ntmps32
    go_wp2_with (fail)
    refine HE.out.mono ?_
    rintro e w1 ⟨rfl, hb1⟩
    have y2 := (HB.out.below hb1).cell (i := 2) rfl
    have yl := (HB.out.below hb1).lt
    have hb01 := qtrans HA.out hb1
    clear HE HA HB x0 hb1
    go_wp2
    go_ret
    exact ⟨ret_bool (by rw [HST.out]), hb01⟩
  · have HST : Hid (standsB old fresh a = false) := by
      refine Lib.hid ?_
      unfold standsB; rw [decide_eq_false e1]; rfl
    have hne : (treesErr old fresh == 0) = false := by simpa using e1
    rw [HR.out, if_neg e1] at HE
    generalize treesErr old fresh = q at *
    clear HR e1
    go_enter Tryz.func32, Tryz.ntmps32
    go_wp2_with (fail)
    refine HE.out.mono ?_
    rintro e w1 ⟨rfl, hb1⟩
    have hb01 := qtrans HA.out hb1
    clear HE HA HB x0 hb1
    go_wp2
    go_ret
    exact ⟨ret_bool (by rw [HST.out]), hb01⟩
theorem xStands_any (a : Appr) (v1 v2 : Value) (old fresh : List OFile) (w : World) (h1 : Reads w [] (filesT old) v1) (h2 : Reads w [] (filesT fresh) v2) (hs1 : SmallF old) (hs2 : SmallF fresh) (hd1 : ∀ f ∈ old, f.path.size ≤ 16000 ∧ f.data.size ≤ 16000) (hd2 : ∀ f ∈ fresh, f.path.size ≤ 16000 ∧ f.data.size ≤ 16000) (hl : old.length + fresh.length ≤ 4000) :
    Calls Tryz.prog 38 #[.agg #[.string a.who, .int .i64 a.change, .string a.saw], v1, v2] w fun e w' => e = .returned (.bool (standsB old fresh a)) ∧ Below w.heap.size w w' := by
  have HA := Lib.hid (qalloc w (.cells #[.string a.who, .int .i64 a.change, .string a.saw] 51))
  have HB := Lib.hid (CBox.new w 51 #[.string a.who, .int .i64 a.change, .string a.saw])
  have HE := Lib.hid (xSaw_any v1 v2 old fresh a.who _ (h1.below HA.out) (h2.below HA.out) hs1 hs2 hd1 hd2 hl)
  obtain ⟨a1, cap1, rfl, hc1, hd1'⟩ := files_val h1
  obtain ⟨a2, cap2, rfl, hc2, hd2'⟩ := files_val h2
  have HR : Hid (sawOf old fresh a.who = if treesErr old fresh = 0 then (viewOf old fresh a.who, 0) else (⟨#[]⟩, treesErr old fresh)) := rfl
  clear h1 h2
  have x0 := HB.out.cell (i := 0) rfl
  by_cases e1 : treesErr old fresh = 0
  · have HST : Hid (standsB old fresh a = (a.saw.toList == (viewOf old fresh a.who).toList)) := by
      refine Lib.hid ?_
      unfold standsB; rw [e1, tl, tl]; rfl
    rw [HR.out, if_pos e1] at HE
    generalize viewOf old fresh a.who = vw at *
    rw [show (a.saw.toList == vw.toList) = (vw.toList == a.saw.toList) from Bool.beq_comm] at HST
    clear HR e1
    go_enter Tryz.func38, Tryz.ntmps38
    go_wp2_with (fail)
    refine HE.out.mono ?_
    rintro e w1 ⟨rfl, hb1⟩
    have y2 := (HB.out.below hb1).cell (i := 2) rfl
    have yl := (HB.out.below hb1).lt
    have hb01 := qtrans HA.out hb1
    clear HE HA HB x0 hb1
    go_wp2
    go_ret
    exact ⟨ret_bool (by rw [HST.out]), hb01⟩
  · have HST : Hid (standsB old fresh a = false) := by
      refine Lib.hid ?_
      unfold standsB; rw [decide_eq_false e1]; rfl
    have hne : (treesErr old fresh == 0) = false := by simpa using e1
    rw [HR.out, if_neg e1] at HE
    generalize treesErr old fresh = q at *
    clear HR e1
    go_enter Tryz.func38, Tryz.ntmps38
    go_wp2_with (fail)
    refine HE.out.mono ?_
    rintro e w1 ⟨rfl, hb1⟩
    have hb01 := qtrans HA.out hb1
    clear HE HA HB x0 hb1
    go_wp2
    go_ret
    exact ⟨ret_bool (by rw [HST.out]), hb01⟩
end Go.Proofs.YtidkpnabdfiilaaGreatDoor
