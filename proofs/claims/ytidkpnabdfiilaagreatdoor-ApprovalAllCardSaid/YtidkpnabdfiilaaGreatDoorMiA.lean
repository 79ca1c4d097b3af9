/- approval.Missing, approval.Fallen. -/
import Derived.Test.YtidkpnabdfiilaaGreatDoorJuA
import Derived.Test.YtidkpnabdfiilaaGreatDoorQ25
namespace Go.Proofs.YtidkpnabdfiilaaGreatDoor
open Go.RowKit Go.Shelf
attribute [local go_sem] run_mkMap

theorem Missing1_any (s : ByteArray) (hs : s.size ≤ 40000) (who : List ByteArray) (c b n : Nat) (w : World) (hc : w.cell? ⟨c, 0, none⟩ = some (.map (some b))) (hm : IsMapS Tryz.prog 9 w b n (peopleF who)) :
    Calls Tryz.prog 67 #[.string s, .pointer (some ⟨c, 0, none⟩)] w fun e w' => e = .returned (.bool (memS s who)) ∧ w = w' := by
  have hlook := hm.look strKeyed Tryz.underlying82 (Tryz.zeroValue4 w) (key_str s hs)
  rw [peopleF_get] at hlook
  clear hm
  go_enter Tryz.func67, Tryz.ntmps67
  go_wp2
  go_ret
  exact ⟨rfl, rfl⟩
set_option maxHeartbeats 1000000 in
theorem IndexFuncM_any (v : Value) (g who : List ByteArray) (c b n : Nat) (w : World) (hv : Strs w v g) (hz : ∀ s ∈ g, s.size ≤ 40000) (hc : w.cell? ⟨c, 0, none⟩ = some (.map (some b))) (hm : IsMapS Tryz.prog 9 w b n (peopleF who)) :
    Calls Tryz.prog 89 #[v, .func (.func 67) #[] #[.pointer (some ⟨c, 0, none⟩)]] w fun e w' => ∃ r : Int, e = .returned (.int .i64 r) ∧ decide (0 ≤ r) = someIn who g ∧ w = w' := by
  obtain ⟨a, cap, rfl, hc1, hc2⟩ := hv.len
  have HV := Lib.hid hv
  have HZ := Lib.hid hz
  have HC := Lib.hid (fun s hs => Missing1_any s hs who c b n w hc hm)
  clear hv hz hc hm
  go_enter Tryz.func89, Tryz.ntmps89
  go_wp2
  go_loop [8] (fun i => ∃ k : Nat, k ≤ g.length ∧ i = .int .i64 k ∧ Hid (∀ j, j < k → memS (g.getD j ByteArray.empty) who = false)) (fun i => g.length - (intOf i).toNat)
  case atStart => exact ⟨0, Nat.zero_le _, rfl, fun j hj => by omega⟩
  case round =>
    obtain ⟨k, hk, rfl, HK⟩ := hrel
    by_cases hlt : k < g.length
    · obtain ⟨b1, o1, rfl, hb1, c1⟩ := HV.out.elem hlt
      have hts := HZ.out (g.getD k ByteArray.empty) (by rw [List.getD_eq_getElem?_getD, List.getElem?_eq_getElem hlt]; exact List.getElem_mem hlt)
      have HY : Hid (memS (g.getD k ByteArray.empty) who = true → someIn who g = true) := someIn_yes hlt
      have HN : Hid (memS (g.getD k ByteArray.empty) who = false → ∀ j, j < k + 1 → memS (g.getD j ByteArray.empty) who = false) := fun h j hj => by
        by_cases e : j = k
        · rw [e]; exact h
        · exact HK.out j (by omega)
      generalize g.getD k ByteArray.empty = t at *
      have hi0 : (0 : Int) ≤ (k : Int) := by omega
      have hi1 : (k : Int) < (g.length : Int) := by omega
      have HCT := Lib.hid (HC.out t hts)
      cases hmm : memS t who with
      | true =>
        have H := Lib.hid (HY.out hmm)
        rw [hmm] at HCT
        go_wp2_with (go_at_call 67; refine HCT.out.mono ?_; rintro e w' ⟨rfl, rfl⟩)
        go_ret
        exact ⟨k, rfl, by rw [H.out]; simp, rfl⟩
      | false =>
        have H := Lib.hid (HN.out hmm)
        rw [hmm] at HCT
        go_wp2_with (go_at_call 67; refine HCT.out.mono ?_; rintro e w' ⟨rfl, rfl⟩)
        go_round
        case rel => exact ⟨k + 1, by omega, by go_num, H⟩
        case measure => simp [intOf]; omega
    · have H : Hid (someIn who g = false) := someIn_none (fun i hi => HK.out i (by omega))
      go_wp2
      go_ret
      exact ⟨-1, rfl, by rw [H.out]; rfl, rfl⟩
theorem ContainsFuncM_any (v : Value) (g who : List ByteArray) (c b n : Nat) (w : World) (hv : Strs w v g) (hz : ∀ s ∈ g, s.size ≤ 40000) (hc : w.cell? ⟨c, 0, none⟩ = some (.map (some b))) (hm : IsMapS Tryz.prog 9 w b n (peopleF who)) :
    Calls Tryz.prog 53 #[v, .func (.func 67) #[] #[.pointer (some ⟨c, 0, none⟩)]] w fun e w' => e = .returned (.bool (someIn who g)) ∧ w = w' := by
  have HI := Lib.hid (IndexFuncM_any v g who c b n w hv hz hc hm)
  obtain ⟨a, cap, rfl, hc1, hc2⟩ := hv.len
  clear hv hz hc hm
  go_enter Tryz.func53, Tryz.ntmps53
  go_wp2_with (go_at_call 89; refine HI.out.mono ?_; rintro e w' ⟨r, rfl, hr, rfl⟩)
  go_ret
  exact ⟨rfl, rfl⟩
theorem exam_smallO {old fresh : List OFile} (hs1 : SmallF old) (hs2 : SmallF fresh) (T1 : TreeOk old) (T2 : TreeOk fresh) (hl : old.length + fresh.length ≤ 4000) : smallO (examL old fresh) := by
  refine ⟨exam_len hl, fun x hx => ?_, exam_small⟩
  obtain ⟨c, hc, rfl⟩ := List.mem_map.1 hx
  obtain ⟨h, hm, rfl, _⟩ := ((diff_spec _ old fresh (Nat.le_refl _) T1.ord T2.ord).1 c).1 hc
  have fd : ∀ (l : List OFile), SmallF l → ∀ y, (findD l y).size ≤ 40000 := fun l hl y => by
    unfold findD
    cases e : findF l y with
    | none => exact Nat.zero_le _
    | some f => exact (hl.each f (List.mem_of_find?_eq_some e)).2
  exact ⟨hm.elim (fun hm => (hs1.each h hm).1) (fun hm => (hs2.each h hm).1), fd old hs1 _, fd fresh hs2 _⟩
theorem viewF_exam (old fresh : List OFile) (who : ByteArray) : viewF (examL old fresh) who = viewOf old fresh who := by
  unfold viewF viewOf; rw [show seenFrom who (examL old fresh) = seenL old fresh who from seenFrom_exam old fresh who]
theorem reads_oldX {w : World} {d : Tree} {v : Value} (h : Reads w [] d v) : ∀ {X : List Nat}, (∀ k ∈ X, w.heap.size ≤ k) → Reads w X d v
  | [], _ => h
  | k :: X, hx => (reads_oldX h (X := X) (fun j hj => hx j (List.mem_cons_of_mem _ hj))).more (hx k (List.mem_cons_self ..))
theorem people_take {l : List Appr} {change : Int} {old fresh : List OFile} {k : Nat} {a : Appr} (h : l[k]? = some a) : peopleL (l.take (k + 1)) change old fresh = peopleL (l.take k) change old fresh ++ (if countsB change old fresh a then [a.who] else []) := by
  unfold peopleL
  rw [take_at h, List.filter_append, List.map_append, List.filter_cons]
  split <;> rfl
theorem miss_take {gs : List (List ByteArray)} {ps : List ByteArray} {k : Nat} {g : List ByteArray} (h : gs[k]? = some g) : missL (gs.take (k + 1)) ps = missL (gs.take k) ps ++ (if someIn ps g then [] else [g]) := by
  unfold missL
  rw [take_at h, List.filter_append, List.filter_cons]
  cases someIn ps g <;> rfl
def smallA (l : List Appr) : Prop := l.length ≤ 30000 ∧ ∀ a ∈ l, a.who.size ≤ 40000
set_option maxRecDepth 100000 in
set_option maxHeartbeats 4000000 in
theorem Missing_any (va v1 v2 : Value) (l : List Appr) (change : Int) (old fresh : List OFile) (w : World) (ha : Reads w [] (apprsT l) va) (hsa : smallA l) (h1 : Reads w [] (filesT old) v1) (h2 : Reads w [] (filesT fresh) v2) (hs1 : SmallF old) (hs2 : SmallF fresh) (hl : old.length + fresh.length ≤ 4000) :
    Calls Tryz.prog 37 #[va, .int .i64 change, v1, v2] w (GroupsPost (missingOf l change old fresh) w) := by
  have HE := Lib.hid (examine_any v1 v2 old fresh w h1 h2 hs1 hs2 hl)
  obtain ⟨aa, capa, rfl, hca, hda⟩ := apprs_val ha
  obtain ⟨a1, cap1, rfl, hc1, hd1⟩ := files_val h1
  obtain ⟨a2, cap2, rfl, hc2, hd2⟩ := files_val h2
  obtain ⟨ig0, hig, hzg0, hzg1, hzg2⟩ := info_parts infoStrs
  have HR : Hid (missingOf l change old fresh = if treesErr old fresh = 0 then (missL (reqL old fresh) (peopleL l change old fresh), 0) else ([], treesErr old fresh)) := rfl
  have HX : Hid (examineOf old fresh = if treesErr old fresh = 0 then (examL old fresh, 0) else ([], treesErr old fresh)) := rfl
  have HQ : Hid (requiredOf old fresh = if treesErr old fresh = 0 then (reqL old fresh, 0) else ([], treesErr old fresh)) := required_eq old fresh
  have H1 := Lib.hid h1
  have H2 := Lib.hid h2
  have HAL := Lib.hid ha
  have HSA := Lib.hid hsa.2
  have hla := hsa.1
  by_cases e1 : treesErr old fresh = 0
  · obtain ⟨T1, T2⟩ := treesErr_two e1
    have hps : ∀ p ∈ pathsC old fresh, p.size ≤ 30000 := fun p hp => by
      obtain ⟨c, hc, rfl⟩ := List.mem_map.1 hp
      exact diff_size hs1 hs2 T1 T2 hc
    have HRQ := Lib.hid (fun W h1 h2 => Required_any (.slice a1 old.length cap1) (.slice a2 fresh.length cap2) old fresh W h1 h2 hs1 hs2 hl hps)
    have HSO := Lib.hid (exam_smallO hs1 hs2 T1 T2 hl)
    have HVW := Lib.hid (viewF_exam old fresh)
    have HST : Hid (∀ a : Appr, standsB old fresh a = (a.saw.toList == (viewOf old fresh a.who).toList)) := fun a => by
      unfold standsB; rw [e1, tl, tl]; rfl
    have HCT : Hid (∀ a : Appr, countsB change old fresh a = ((a.change == change) && standsB old fresh a)) := fun a => rfl
    have HGD := Lib.hid (req_good old fresh)
    rw [HX.out, if_pos e1] at HE
    rw [HQ.out, if_pos e1] at HRQ
    have HRL : Hid ((reqL old fresh).length ≤ 32000) := by
      have h1 := reqFrom_len (rulesM_good old) (pathsC old fresh) []
      have h2 := diff_len _ old fresh (Nat.le_refl _)
      unfold reqL
      refine Lib.hid ?_
      unfold pathsC at h1 ⊢
      rw [List.length_map] at h1
      simp at h1; omega
    have HR2 : Hid (missingOf l change old fresh = (missL (reqL old fresh) (peopleL l change old fresh), 0)) := by show _ = _; rw [HR.out, if_pos e1]
    clear HR HX HQ e1 h1 h2 ha hs1 hs2 hsa T1 T2 hps
    generalize examL old fresh = lx at *
    generalize reqL old fresh = gs at *
    go_enter Tryz.func37, Tryz.ntmps37
    go_wp2_with (fail)
    refine HE.out.mono ?_
    rintro e w1 ⟨lv, rfl, hlv, hb1⟩
    simp only [] at hlv
    have HLV := Lib.hid hlv
    obtain ⟨xa, xc, rfl, -, -⟩ := owneds_val hlv
    clear hlv HE
    go_wp2_with (fail)
    refine (HRQ.out w1 (H1.out.below hb1) (H2.out.below hb1)).mono ?_
    rintro e w2 ⟨gv, rfl, hgv, hb2⟩
    simp only [] at hgv
    have HGV := Lib.hid hgv
    obtain ⟨ga, gc, rfl, -, -⟩ := groups_val hgv
    have hb02 := qtrans hb1 hb2
    have HL2 := Lib.hid (HLV.out.below hb2)
    have HA2 := Lib.hid (HAL.out.below hb02)
    clear hgv HRQ HLV HAL hb1 hb2 H1 H2
    go_wp2_with (fail)
    refine (judge_any _ _ _ w2).mono ?_
    rintro e w3 ⟨rfl, rfl⟩
    have HJ0 := Lib.hid (JudgeIs.new lx (.slice xa lx.length xc) w2)
    have hbj : Below w2.heap.size w2 (((w2.alloc (.cells #[.slice xa lx.length xc] 102)).alloc (.map #[] 0)).alloc (.cells #[.map (some (w2.heap.size + 1))] 114)) := qtrans (qtrans (qalloc _ _) (qalloc _ _)) (qalloc _ _)
    have hzj : (((w2.alloc (.cells #[.slice xa lx.length xc] 102)).alloc (.map #[] 0)).alloc (.cells #[.map (some (w2.heap.size + 1))] 114)).heap.size = w2.heap.size + 3 := by simp
    have HZJ := Lib.hid hzj
    clear hzj
    generalize ((w2.alloc (.cells #[.slice xa lx.length xc] 102)).alloc (.map #[] 0)).alloc (.cells #[.map (some (w2.heap.size + 1))] 114) = w3 at *
    go_wp2
    generalize hW0 : (w3.alloc (.map #[] 0)).alloc (.cells #[.map (some w3.heap.size)] 82) = W0
    have hb30 : Below w3.heap.size w3 W0 := by rw [← hW0]; exact qtrans (qalloc _ _) (qalloc _ _)
    have HM0 : Hid (IsMapS Tryz.prog 9 W0 w3.heap.size 0 (peopleF [])) := by
      rw [← hW0]; exact (IsMapS.made _ _ _).below (qalloc _ _)
    have HC0 : Hid (CBox W0 (w3.heap.size + 1) 82 #[.map (some w3.heap.size)]) := by
      refine Lib.hid ?_; rw [← hW0]; have := CBox.new (w3.alloc (.map #[] 0)) 82 #[.map (some w3.heap.size)]; simpa using this
    have HJW := Lib.hid (HJ0.out.below hb30)
    have hb20 := qtrans hbj hb30
    have h3z : w2.heap.size + 2 < w3.heap.size := by have := HZJ.out; omega
    clear hW0 HJ0 hbj hb30 HZJ
    go_loopw [43] (fun iv wr => ∃ k : Nat, k ≤ l.length ∧ iv = .int .i64 k ∧ Below w2.heap.size w2 wr ∧ Hid (JudgeIs lx (.slice xa lx.length xc) w2.heap.size k wr) ∧ Hid (CBox wr (w3.heap.size + 1) 82 #[.map (some w3.heap.size)]) ∧ Hid (∃ n, n ≤ k ∧ IsMapS Tryz.prog 9 wr w3.heap.size n (peopleF (peopleL (l.take k) change old fresh))))
      (fun iv _ => l.length - (intOf iv).toNat)
    case atStart => exact ⟨0, Nat.zero_le _, rfl, hb20, HJW, HC0, ⟨0, Nat.le_refl _, HM0.out⟩⟩
    case round =>
      clear HJW HC0 HM0 hb20
      obtain ⟨k, hk, rfl, hbr, HJ, HC, HM⟩ := hrel
      have hk0 : (0 : Int) ≤ (k : Int) := by omega
      by_cases hkl : k < l.length
      · obtain ⟨a, hak⟩ : ∃ a, l[k]? = some a := ⟨_, List.getElem?_eq_getElem hkl⟩
        obtain ⟨b1, o1, rfl, hbb1, d0, d1, d2⟩ := apprs_elem (HA2.out.below hbr) hak
        have hk1 : (k : Int) < (l.length : Int) := by omega
        have hz := HSA.out a (List.mem_of_getElem? hak)
        have HPT := Lib.hid (people_take (change := change) (old := old) (fresh := fresh) hak)
        have HCA := Lib.hid (HCT.out a)
        have HSB := Lib.hid (HST.out a)
        clear hak
        obtain ⟨n, hnk, hm⟩ := HM.out
        have hA := qalloc wr (.cells #[.string a.who, .int .i64 a.change, .string a.saw] 51)
        have HB := Lib.hid (CBox.new wr 51 #[.string a.who, .int .i64 a.change, .string a.saw])
        have hbA := qtrans hbr hA
        have hwz := HC.out.lt
        have HJA := Lib.hid (HJ.out.below hA)
        have HCA2 := Lib.hid (HC.out.below hA)
        have HMA := Lib.hid (hm.below hA)
        clear hm HM HJ HC hbr
        generalize peopleL (l.take k) change old fresh = ps at *
        cases hch : (a.change == change) with
        | false =>
          have HN : Hid (peopleL (l.take (k + 1)) change old fresh = ps) := by show _ = _; rw [HPT.out, HCA.out, hch]; simp
          clear hA
          go_wp2
          go_roundw
          case rel => exact ⟨k + 1, by omega, by go_num, hbA, ⟨HJA.out.cl, HJA.out.cv, by obtain ⟨n, f, q1, q2⟩ := HJA.out.mp; exact ⟨n, f, by omega, q2⟩⟩, HCA2, ⟨n, by omega, by rw [HN.out]; exact HMA.out⟩⟩
          case measure => simp [intOf]; omega
        | true =>
          have HJ1 := Lib.hid (fun W h1 h2 => judge1_any a hz lx HSO.out (.slice xa lx.length xc) w2.heap.size k (by omega) W h1 h2)
          rw [HVW.out, ← HSB.out] at HJ1
          rw [hch, Bool.true_and] at HCA
          have x0 := HB.out.cell (i := 0) rfl
          cases hst : standsB old fresh a with
          | false =>
            rw [hst] at HJ1 HCA
            have HN : Hid (peopleL (l.take (k + 1)) change old fresh = ps) := by show _ = _; rw [HPT.out, HCA.out]; simp
            go_wp2_with (fail)
            refine (HJ1.out _ (HL2.out.below hbA) HJA.out).mono ?_
            rintro e w5 ⟨rfl, hj5, hm5⟩
            have HJ5 := Lib.hid hj5
            have hb5 : Below w2.heap.size w2 w5 := hbA.trans (hm5.upto (by have := hbA.size; exact this) (fun k hk => by simp at hk; omega))
            have HC5 : Hid (CBox w5 (w3.heap.size + 1) 82 #[.map (some w3.heap.size)]) := (hm5.block _ HCA2.out.lt (by simp; omega)).trans HCA2.out
            have HM5 := Lib.hid (HMA.out.block (hm5.block _ HMA.out.lt (by simp; omega)))
            clear hj5 hm5 HJ1 HJA HCA2 HMA hA hbA HB x0
            go_wp2
            go_roundw
            case rel => exact ⟨k + 1, by omega, by go_num, hb5, HJ5, HC5, ⟨n, by omega, by rw [HN.out]; exact HM5.out⟩⟩
            case measure => simp [intOf]; omega
          | true =>
            rw [hst] at HJ1 HCA
            have HN : Hid (peopleL (l.take (k + 1)) change old fresh = ps ++ [a.who]) := by show _ = _; rw [HPT.out, HCA.out]; simp
            have HBX := Lib.hid (fun (w5 : World) (hm : Mod [w2.heap.size + 1] (wr.alloc (.cells #[.string a.who, .int .i64 a.change, .string a.saw] 51)) w5) => (hm.block wr.heap.size HB.out.lt (by have := hbA.size; simp at this ⊢; omega)).trans HB.out)
            go_wp2_with (fail)
            refine (HJ1.out _ (HL2.out.below hbA) HJA.out).mono ?_
            rintro e w5 ⟨rfl, hj5, hm5⟩
            have HJ5 := Lib.hid hj5
            have hb5 : Below w2.heap.size w2 w5 := hbA.trans (hm5.upto (by have := hbA.size; exact this) (fun k hk => by simp at hk; omega))
            have HC5 : Hid (CBox w5 (w3.heap.size + 1) 82 #[.map (some w3.heap.size)]) := (hm5.block _ HCA2.out.lt (by simp; omega)).trans HCA2.out
            have HM5 := Lib.hid (HMA.out.block (hm5.block _ HMA.out.lt (by simp; omega)))
            have hB5 : CBox w5 wr.heap.size 51 #[.string a.who, .int .i64 a.change, .string a.saw] := HBX.out w5 hm5
            have y0 := hB5.cell (i := 0) rfl
            have yl := hB5.lt
            have c5 := HC5.out.cell (i := 0) rfl
            have cl5 := HC5.out.lt
            obtain ⟨w6, hput, hm6, hg6⟩ := HM5.out.put strKeyed Tryz.underlying82 (by unfold maxLen; omega) (key_str a.who hz) (.bool true)
            rw [peopleF_snoc, ← HN.out] at hm6
            have HM6 := Lib.hid hm6
            have hb6 : Below w2.heap.size w2 w6 := hb5.grown hg6 hb5.size (fun k e => by cases e; omega)
            have HC6 := Lib.hid (HC5.out.own hg6 HM5.out.noCells)
            have HJ6 := Lib.hid (HJ5.out.kept hg6 HM5.out.noCells (fun e => by have := Option.some.inj e; omega))
            clear hj5 hm5 HJ1 HJA HCA2 HMA hA hbA HB x0 hB5 HBX hm6 hg6 HJ5 HC5 HM5 hb5
            go_wp2
            go_roundw
            case rel => exact ⟨k + 1, by omega, by go_num, hb6, HJ6, HC6, ⟨n + 1, by omega, HM6.out⟩⟩
            case measure => simp [intOf]; omega
      · have hkl' : k = l.length := by omega
        subst hkl'
        rw [List.take_length] at HM
        obtain ⟨n, -, hm⟩ := HM.out
        generalize wr = wo at *
        have HMO := Lib.hid hm
        have HGO := Lib.hid (HGV.out.below hbr)
        have hgsl := HRL.out
        generalize peopleL l change old fresh = ps at *
        clear hm HM HJ HGV HL2 HA2
        go_wp2
        go_loopw [17, 62] (fun ov iv wr => ∃ (k : Nat), k ≤ gs.length ∧ iv = .int .i64 k ∧ Hid (OwnG wr wo.heap.size ov (missL (gs.take k) ps)) ∧ Below wo.heap.size wo wr)
          (fun _ iv _ => gs.length - (intOf iv).toNat)
        case atStart => exact ⟨0, Nat.zero_le _, rfl, OwnT.nil _ _ _ _ _ _, qrefl _⟩
        case round =>
          obtain ⟨q, hq, rfl, HO, hbo⟩ := hrel
          have hq0 : (0 : Int) ≤ (q : Int) := by omega
          by_cases hql : q < gs.length
          · obtain ⟨g, hg⟩ : ∃ g, gs[q]? = some g := ⟨_, List.getElem?_eq_getElem hql⟩
            have HGX : Hid (Reads wr u17.ownBlock.toList (groupsT gs) (.slice ga gs.length gc)) := (reads_oldX HGO.out (X := u17.ownBlock.toList) (fun j hj => OwnT.ge HO.out (b := j) (by simpa using hj))).below hbo
            obtain ⟨b2, o2, ag, cg, rfl, hb2, c2, q1, q2, HRG⟩ := groups_elemX HGX.out hg
            have hq1 : (q : Int) < (gs.length : Int) := by omega
            have HMT := Lib.hid (miss_take (ps := ps) hg)
            have hgd := HGD.out g (List.mem_of_getElem? hg)
            have hml : (missL (gs.take q) ps).length ≤ 32000 := by
              have h1 := List.length_filter_le (fun g => !someIn ps g) (gs.take q)
              rw [List.length_take] at h1
              have := HRL.out
              unfold missL; omega
            have HCF := Lib.hid (ContainsFuncM_any (.slice ag g.length cg) g ps (w3.heap.size + 1) w3.heap.size n wr (reads_strs.1 HRG.out.free).1 (fun s hs => by have := person_len (hgd.each s hs); rw [sz] at this; omega) ((HC.out.below hbo).cell (i := 0) rfl) (HMO.out.below hbo))
            clear hg HGX
            generalize missL (gs.take q) ps = cur at *
            cases hin : someIn ps g with
            | true =>
              rw [hin] at HCF
              have HN : Hid (missL (gs.take (q + 1)) ps = cur) := by show _ = _; rw [HMT.out, hin]; simp
              go_wp2_with (fail)
              refine HCF.out.mono ?_
              rintro e w5 ⟨rfl, rfl⟩
              go_wp2
              go_roundw
              case rel => exact ⟨q + 1, by omega, by go_num, by rw [HN.out]; exact HO, hbo⟩
              case measure => simp [intOf]; omega
            | false =>
              rw [hin] at HCF
              have HN : Hid (missL (gs.take (q + 1)) ps = cur ++ [g]) := by show _ = _; rw [HMT.out, hin]; simp
              obtain ⟨xs, hrow, hrl⟩ := HO.out
              have HRL2 := Lib.hid hrl
              have hzo := hbo.size
              clear hrl
              go_wp2_with (fail)
              refine HCF.out.mono ?_
              rintro e w5 ⟨rfl, rfl⟩
              clear HCF
              go_wp2_with (at_builtin; refine wpList_append_own_at _ rfl _ _ 23 rfl wo.heap.size 30 ig0 _ 1 24 Tryz.underlying23 hig hzg0 hzg1 hzg2 rfl (by decide) _ _ _ rfl (hrow.alloc _) ⟨wr.heap.size, 0, none⟩ 1 1 [.slice ag g.length cg] rfl rfl (cell_one_new _ _ _) (by simp [Value.oneCell']) (by unfold maxLen; omega) (by omega) (by simp; omega) ?_)
              intro v' w8 hown8 hg8 _ hbk8
              have hA := qalloc wr (.cells #[.slice ag g.length cg] 30)
              have HO8 : Hid (OwnG w8 wo.heap.size v' (cur ++ [g])) := OwnT.grown (hrow.alloc _) (HRL2.out.below hA) ((ReadsL.cons (by rw [List.append_nil]; exact HRG.out) (ReadsL.nil _ _)).below hA) hown8 hg8 (by simpa using hbk8)
              have hb8 : Below wo.heap.size wo w8 := (qtrans hbo hA).grown hg8 (by simp; omega) (fun k hk => owns_block hrow hk)
              clear hg8 hbk8 hown8 hA hrow HRL2
              rw [← HN.out] at HO8
              go_wp2
              go_roundw
              case rel => exact ⟨q + 1, by omega, by go_num, HO8, hb8⟩
              case measure => simp [intOf]; omega
          · have hql' : q = gs.length := by omega
            subst hql'
            rw [List.take_length] at HO
            obtain ⟨oa, oc, rfl, -, -⟩ := OwnT.val HO.out
            have hbf := qtrans hb02 (qtrans hbr hbo)
            go_wp2
            go_ret2
            rw [HR2.out]
            exact ⟨_, rfl, HO.out.reads, hbf⟩
  · rw [HX.out, if_neg e1] at HE
    have HR2 : Hid (missingOf l change old fresh = ([], treesErr old fresh)) := by show _ = _; rw [HR.out, if_neg e1]
    have hne : (treesErr old fresh != 0) = true := by simpa using e1
    clear HR HX HQ e1 h1 h2 ha hs1 hs2 hsa
    generalize treesErr old fresh = q at *
    go_enter Tryz.func37, Tryz.ntmps37
    go_wp2_with (fail)
    refine HE.out.mono ?_
    rintro e w1 ⟨lv, rfl, hlv, hb1⟩
    simp only [] at hlv
    obtain ⟨la, lc, rfl, -, -⟩ := owneds_val hlv
    clear hlv HE
    go_wp2
    go_ret2
    rw [HR2.out]
    exact ⟨_, rfl, Reads.nilRow _ _ _ _, hb1⟩
end Go.Proofs.YtidkpnabdfiilaaGreatDoor
