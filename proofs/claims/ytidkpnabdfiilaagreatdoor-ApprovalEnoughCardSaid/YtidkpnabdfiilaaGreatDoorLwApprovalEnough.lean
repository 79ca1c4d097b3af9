/- ApprovalEnough: the walk. -/
import Derived.Test.YtidkpnabdfiilaaGreatDoorLwApprovalMissing
namespace Go.Proofs.YtidkpnabdfiilaaGreatDoor
open Go.RowKit

theorem wpList_append_rowQ {P : Program} {ops : Array Oper} {rest : List Oper} {o : Oper} {a : Act} {w : World} {Q : Exit → Act → World → Prop} (hw : Region.wanted o (yielded ops a.tmps) = true) (s x : Operand) (t : TypeId)
    (ho : o.op = .call { callee := .builtin .append, args := #[s, x], argTypes := #[t, t] })
    (base : Nat) (e : TypeId) (i : TypeInfo) (z : Value) (size bytes : Nat) (ht : P.underlying t = some (.slice e)) (hi : P.info? e = some i) (hz : i.zero = some z)
    (hsize : i.size = size) (hby : i.bytes = bytes) (hzs : z.cells.size = size) (hsz : 0 < size)
    (v : Value) (n : Nat) (xs : List Value) (hs : a.eval s = v) (hown : w.ownsRow base e size v n xs)
    (sv : Value) (m : Nat) (news : List Value) (hx : a.eval x = sv) (hr : IsRow w size sv m news) (h1 : ∀ u ∈ news, u.oneCell' = true)
    (h63 : n + m ≤ maxLen) (hbytes : (n + m) * bytes ≤ 140737488355328) (hbase : base ≤ w.heap.size)
    (h : ∀ v' w', w'.ownsRow base e size v' (n + m) (xs ++ news) → w.grownBy w' v.ownBlock → (v'.ownBlock = v.ownBlock ∨ v'.ownBlock = some w.heap.size) → wpList P ops Q rest (a.put o.dst v') w') :
    wpList P ops Q (o :: rest) a w := by
  rw [wpList, if_pos hw]
  refine .inl ?_
  obtain ⟨v', w', hrun, h2, h3, h4⟩ := run_append_row (P := P) base t o.type e i z size bytes ht hi hz hsize hby hzs hsz v n xs hown sv m news hr h1 h63 hbytes hbase
  unfold Oper.wp execOp
  simp only [ho, resolve, invoke, builtin, Sem.run_bind, Sem.run_pure, Result.andThen_ok, List.map_toArray, List.map_cons, List.map_nil, hs, hx, hrun]
  exact h v' w' h2 h3 h4
theorem apprCells_one (l : List Appr) : ∀ u ∈ apprCells l, u.oneCell' = true := by
  intro u hu
  obtain ⟨a, _, h⟩ := List.mem_flatMap.1 hu
  simp only [apprCell, List.mem_cons, List.not_mem_nil, or_false] at h
  rcases h with rfl | rfl | rfl <;> rfl
theorem apprCells_append (a b : List Appr) : apprCells (a ++ b) = apprCells a ++ apprCells b := by simp [apprCells]
theorem miss_enough (gs : List (List ByteArray)) (ps : List ByteArray) : (((missL gs ps).length : Int) == 0) = enoughB gs ps := by
  rw [Bool.eq_iff_iff, beq_iff_eq, ← miss_nil]
  omega
set_option maxRecDepth 100000 in
set_option maxHeartbeats 4000000 in
theorem LApprovalEnough_any (va : Value) (l : List Appr) (vm : Value) (more : List Appr) (change : Int) (v1 : Value) (old : List OFile) (v2 : Value) (fresh : List OFile) (w : World) (ha : Reads w [] (apprsT l) va) (za : SizedA l) (hm : Reads w [] (apprsT more) vm) (zm : SizedA more) (_zc : (Lit.int .i64 change).wf = true) (h1 : Reads w [] (filesT old) v1) (z1 : SizedF old) (h2 : Reads w [] (filesT fresh) v2) (z2 : SizedF fresh) :
    Calls Tryz.prog 8 #[va, vm, .int .i64 change, v1, v2] w fun e w' => e = .returned (.bool true) ∧ Below w.heap.size w w' := by
  obtain ⟨ia0, hia, hza0, hza1, hza2⟩ := info_parts infoAppr
  obtain ⟨is0, his, hzs0, hzs1, hzs2⟩ := info_parts infoStr
  obtain ⟨aa, capa, rfl, hca, hda⟩ := apprs_val ha
  obtain ⟨am, capm, rfl, hcm, hdm⟩ := apprs_val hm
  obtain ⟨a1, cap1, rfl, hc1, hd1⟩ := files_val h1
  obtain ⟨a2, cap2, rfl, hc2, hd2⟩ := files_val h2
  have hA := qalloc w (.cells #[.slice a1 old.length cap1, .slice a2 fresh.length cap2] 22)
  have HG := Lib.hid (great55_any _ [old, fresh] _ (two_files h1 h2) (sized2 z1 z2))
  have H1 := Lib.hid (h1.below hA)
  have H2 := Lib.hid (h2.below hA)
  have HL := Lib.hid (ha.below hA)
  have HM := Lib.hid (hm.below hA)
  have HGA := Lib.hid (xGreat_any _ l _ HL.out za)
  have HGM := Lib.hid (xGreat_any _ more _ HM.out zm)
  clear h1 h2 z1 z2 ha za hm zm
  cases hg : [old, fresh].any greatF with
  | true =>
    rw [hg] at HG
    go_enter Tryz.func8, Tryz.ntmps8
    go_wp2_with (fail)
    refine HG.out.mono ?_
    rintro e w0 ⟨rfl, rfl⟩
    go_wp2_with (fail)
    refine (awake55_any _).mono ?_
    rintro e w9 ⟨rfl, hb9⟩
    go_wp2
    go_ret
    exact ⟨rfl, qtrans hA hb9⟩
  | false =>
  rw [hg] at HG
  cases hga : greatA l with
  | true =>
    rw [hga] at HGA
    go_enter Tryz.func8, Tryz.ntmps8
    go_wp2_with (fail)
    refine HG.out.mono ?_
    rintro e w0 ⟨rfl, rfl⟩
    go_wp2_with (fail)
    refine HGA.out.mono ?_
    rintro e w0 ⟨rfl, rfl⟩
    go_wp2_with (fail)
    refine (awake55_any _).mono ?_
    rintro e w9 ⟨rfl, hb9⟩
    go_wp2
    go_ret
    exact ⟨rfl, qtrans hA hb9⟩
  | false =>
  rw [hga] at HGA
  cases hgm : greatA more with
  | true =>
    rw [hgm] at HGM
    go_enter Tryz.func8, Tryz.ntmps8
    go_wp2_with (fail)
    refine HG.out.mono ?_
    rintro e w0 ⟨rfl, rfl⟩
    go_wp2_with (fail)
    refine HGA.out.mono ?_
    rintro e w0 ⟨rfl, rfl⟩
    go_wp2_with (fail)
    refine HGM.out.mono ?_
    rintro e w0 ⟨rfl, rfl⟩
    go_wp2_with (fail)
    refine (awake55_any _).mono ?_
    rintro e w9 ⟨rfl, hb9⟩
    go_wp2
    go_ret
    exact ⟨rfl, qtrans hA hb9⟩
  | false =>
  rw [hgm] at HGM
  obtain ⟨g1, g2⟩ := two_great hg
  have hS := great_small2 g1 g2
  have hSA := smallA_of hga
  have hSM := smallA_of hgm
  have hl1 := (greatA_small hga).1
  have hm1 := (greatA_small hgm).1
  have hof : old.length ≤ 10 ∧ fresh.length ≤ 10 := ⟨(greatF_small g1).1, (greatF_small g2).1⟩
  have hSB : smallA (l ++ more) := ⟨by rw [List.length_append]; omega, fun a ha => by
    rcases List.mem_append.1 ha with h | h
    · exact hSA.2 a h
    · exact hSM.2 a h⟩
  have HST := Lib.hid (fun a W h1 h2 => AStands_any a (.slice a1 old.length cap1) (.slice a2 fresh.length cap2) old fresh W h1 h2 hS.s1 hS.s2 hS.len)
  have HMI := Lib.hid (fun W ha h1 h2 => Missing_any (.slice aa l.length capa) (.slice a1 old.length cap1) (.slice a2 fresh.length cap2) l change old fresh W ha hSA h1 h2 hS.s1 hS.s2 hS.len)
  have HMJ := Lib.hid (fun v W ha h1 h2 => Missing_any v (.slice a1 old.length cap1) (.slice a2 fresh.length cap2) (l ++ more) change old fresh W ha hSB h1 h2 hS.s1 hS.s2 hS.len)
  have HRQ := Lib.hid (fun W h1 h2 => rRequired_any (.slice a1 old.length cap1) (.slice a2 fresh.length cap2) old fresh W h1 h2 hS.s1 hS.s2 (fun f hf => (hS.d1 f hf).2) (fun f hf => (hS.d2 f hf).2) hS.len)
  have HQ : Hid (requiredOf old fresh = if treesErr old fresh = 0 then (reqL old fresh, 0) else ([], treesErr old fresh)) := required_eq old fresh
  have HR1 : Hid (missingOf l change old fresh = if treesErr old fresh = 0 then (missL (reqL old fresh) (peopleL l change old fresh), 0) else ([], treesErr old fresh)) := rfl
  have HR2 : Hid (missingOf (l ++ more) change old fresh = if treesErr old fresh = 0 then (missL (reqL old fresh) (peopleL l change old fresh ++ peopleL more change old fresh), 0) else ([], treesErr old fresh)) := by
    refine Lib.hid ?_; unfold missingOf; rw [people_append]
  have HTK := Lib.hid (fun k a (h : l[k]? = some a) => people_take (change := change) (old := old) (fresh := fresh) h)
  have HFE : Hid (peopleL (l.take l.length) change old fresh = peopleL l change old fresh) := by show _ = _; rw [List.take_length]
  have HLN : Hid (∀ k, (peopleL (l.take k) change old fresh).length ≤ (l.take k).length) := fun k => by
    unfold peopleL; rw [List.length_map]; exact List.length_filter_le _ _
  have HF0 : Hid (peopleL (l.take 0) change old fresh = []) := rfl
  have HCB : Hid (∀ a, countsB change old fresh a = ((a.change == change) && standsB old fresh a)) := fun a => rfl
  have HGG := Lib.hid (req_good old fresh)
  have hplen : (peopleL l change old fresh).length ≤ 10 := by
    unfold peopleL; rw [List.length_map]; exact Nat.le_trans (List.length_filter_le _ _) hl1
  clear hg hga hgm g1 g2 hS hSA hSM hSB
  obtain ⟨xs, ys, gs, er, E1, E2, E3, F1, F2⟩ : ∃ (xs ys gs : List (List ByteArray)) (er : Int), Hid (missingOf l change old fresh = (xs, er)) ∧ Hid (missingOf (l ++ more) change old fresh = (ys, er)) ∧ Hid (requiredOf old fresh = (gs, er)) ∧ Hid (er ≠ 0 → xs = []) ∧ Hid (((xs.length : Int) == 0) = enoughB gs (peopleL l change old fresh) ∧ ys.length ≤ 32000 ∧ ∀ g ∈ ys, hasG xs g = true) := by
    have HRL : (reqL old fresh).length ≤ 32000 := by
      have h1 := reqFrom_len (rulesM_good old) (pathsC old fresh) []
      have h2 := diff_len _ old fresh (Nat.le_refl _)
      unfold reqL
      unfold pathsC at h1 ⊢
      rw [List.length_map] at h1
      simp at h1; omega
    by_cases e1 : treesErr old fresh = 0
    · exact ⟨_, _, _, 0, Lib.hid (HR1.out.trans (if_pos e1)), Lib.hid (HR2.out.trans (if_pos e1)), Lib.hid (HQ.out.trans (if_pos e1)), Lib.hid (fun h => absurd rfl h), Lib.hid ⟨miss_enough _ _, Nat.le_trans (List.length_filter_le _ _) HRL, fun g hgm => (hasG_iff _ _).2 (miss_more hgm)⟩⟩
    · exact ⟨[], [], [], treesErr old fresh, Lib.hid (HR1.out.trans (if_neg e1)), Lib.hid (HR2.out.trans (if_neg e1)), Lib.hid (HQ.out.trans (if_neg e1)), Lib.hid (fun _ => rfl), Lib.hid ⟨rfl, Nat.zero_le _, fun g hgm => by cases hgm⟩⟩
  rw [E1.out] at HMI
  rw [E2.out] at HMJ
  rw [E3.out] at HRQ
  clear E1 E2 E3 HR1 HR2 HQ HGG
  generalize hFK : (fun k => peopleL (l.take k) change old fresh) = FK at *
  have HFK : Hid (∀ k, peopleL (l.take k) change old fresh = FK k) := fun k => by rw [← hFK]
  rw [HFK.out] at HFE HF0
  generalize peopleL l change old fresh = ps at *
  have HLN2 : Hid (∀ k, (FK k).length ≤ (l.take k).length) := fun k => by rw [← HFK.out]; exact HLN.out k
  have HTK2 : Hid (∀ k a, l[k]? = some a → FK (k + 1) = FK k ++ (if countsB change old fresh a then [a.who] else [])) := fun k a h => by rw [← HFK.out, ← HFK.out]; exact HTK.out k a h
  clear hFK HFK HLN HTK
  go_enter Tryz.func8, Tryz.ntmps8
  go_wp2_with (fail)
  refine HG.out.mono ?_
  rintro e w0 ⟨rfl, rfl⟩
  go_wp2_with (fail)
  refine HGA.out.mono ?_
  rintro e w0 ⟨rfl, rfl⟩
  go_wp2_with (fail)
  refine HGM.out.mono ?_
  rintro e w0 ⟨rfl, rfl⟩
  generalize w.alloc (.cells #[.slice a1 old.length cap1, .slice a2 fresh.length cap2] 22) = W0 at *
  clear HG HGA HGM
  go_wp2_with (fail)
  refine (HMI.out W0 HL.out H1.out H2.out).mono ?_
  rintro e w1 ⟨xv, rfl, rx, hb1⟩
  simp only [] at rx
  obtain ⟨xa, xc, rfl, -, -⟩ := groups_val rx
  have hA1 := qalloc w1 (.cells #[] 51)
  have HOA := Lib.hid (OwnA.new w1 w1.heap.size (Nat.le_refl _))
  have RX := Lib.hid rx
  have IL := Lib.hid (reads_apprs.1 (HL.out.below (qtrans hb1 hA1)))
  have HM1 := Lib.hid (HM.out.below hb1)
  have H1A := Lib.hid (H1.out.below hb1)
  have H2A := Lib.hid (H2.out.below hb1)
  have HL1 := Lib.hid (HL.out.below hb1)
  have hb01 := qtrans hA hb1
  clear rx HMI H1 H2 HL HM hb1 hA
  have hown0 : (w1.alloc (.cells #[] 51)).ownsRow w1.heap.size 51 3 (.slice (some ⟨w1.heap.size, 0, none⟩) 0 0) 0 [] := HOA.out
  go_wp2_with (at_builtin; refine wpList_append_rowQ (by rfl) _ _ 59 rfl w1.heap.size 51 ia0 _ 3 40 Tryz.underlying59 hia hza0 hza1 hza2 rfl (by decide) _ _ _ rfl hown0 _ _ _ rfl IL.out (apprCells_one l) (by unfold maxLen; omega) (by omega) (by simp) ?_)
  intro v8 w8 hown8 hg8 _
  have hb8 : Below w1.heap.size w1 w8 := hA1.grown hg8 (by simp) (fun k hk => by cases hk; exact Nat.le_refl _)
  have IM8 := Lib.hid (reads_apprs.1 (HM1.out.below hb8))
  have hz8 := hb8.size
  have HO8 : Hid (OwnA w8 w1.heap.size v8 l) := by
    refine Lib.hid ?_
    unfold OwnA
    simpa using hown8
  clear hg8 IL HM1 hA1 HOA hown0 hown8
  go_wp2_with (at_builtin; refine wpList_append_rowQ (by rfl) _ _ 59 rfl w1.heap.size 51 ia0 _ 3 40 Tryz.underlying59 hia hza0 hza1 hza2 rfl (by decide) _ _ _ rfl HO8.out _ _ _ rfl IM8.out (apprCells_one more) (by unfold maxLen; omega) (by omega) hz8 ?_)
  intro v9 w9 hown9 hg9 _
  have hb9 : Below w1.heap.size w1 w9 := hb8.grown hg9 hz8 (fun k hk => owns_block HO8.out hk)
  have HO9 : Hid (OwnA w9 w1.heap.size v9 (l ++ more)) := by
    refine Lib.hid ?_
    unfold OwnA
    rw [apprCells_append, List.length_append]
    exact hown9
  have HRD := Lib.hid HO9.out.reads
  obtain ⟨va, vc, rfl, -, -⟩ := apprs_val HRD.out
  have hla : (l ++ more).length = l.length + more.length := List.length_append
  rw [hla] at HRD
  rw [hla]
  have RX9 := Lib.hid (RX.out.below hb9)
  have H19 := Lib.hid (H1A.out.below hb9)
  have H29 := Lib.hid (H2A.out.below hb9)
  have HL9 := Lib.hid (HL1.out.below hb9)
  have hb09 := qtrans hb01 hb9
  clear HO8 hown9 hg9 IM8 hb8 hb9 HO9 RX H1A H2A HL1 hb01 hz8
  go_wp2_with (fail)
  refine (HMJ.out _ w9 HRD.out H19.out H29.out).mono ?_
  rintro e w2 ⟨yv, rfl, ry, hb2⟩
  simp only [] at ry
  obtain ⟨ya, yc, rfl, -, -⟩ := groups_val ry
  have RY := Lib.hid ry
  have RX2 := Lib.hid (RX9.out.below hb2)
  have H12 := Lib.hid (H19.out.below hb2)
  have H22 := Lib.hid (H29.out.below hb2)
  have HL2 := Lib.hid (HL9.out.below hb2)
  have hb02 := qtrans hb09 hb2
  clear ry HMJ HRD RX9 H19 H29 HL9 hb09 hb2
  by_cases e1 : er = 0
  · subst e1
    have hAS := qalloc w2 (.cells #[] 9)
    have HO0 : Hid (OwnS (w2.alloc (.cells #[] 9)) w2.heap.size (.slice (some ⟨w2.heap.size, 0, none⟩) 0 0) (FK 0)) := by
      rw [HF0.out]
      exact ⟨rfl, .inr ⟨w2.heap.size, 0, #[], rfl, Nat.le_refl _, World.alloc_heap_new _ _, Nat.le_refl _, Nat.zero_le _, rfl, rfl⟩⟩
    go_wp2
    generalize w2.alloc (.cells #[] 9) = w3 at *
    go_loopw [15, 75] (fun ov iv wr => ∃ k : Nat, k ≤ l.length ∧ iv = .int .i64 k ∧ Below w2.heap.size w2 wr ∧ Hid (OwnS wr w2.heap.size ov (FK k))) (fun _ iv _ => l.length - (intOf iv).toNat)
    case atStart => exact ⟨0, Nat.zero_le _, rfl, hAS, HO0⟩
    case round =>
      clear HO0 hAS
      obtain ⟨k, hk, rfl, hbr, HO⟩ := hrel
      have hk0 : (0 : Int) ≤ (k : Int) := by omega
      by_cases hkl : k < l.length
      · obtain ⟨a, hak⟩ : ∃ a, l[k]? = some a := ⟨_, List.getElem?_eq_getElem hkl⟩
        obtain ⟨b1, o1, rfl, hbb1, d0, d1, d2⟩ := apprs_elem (HL2.out.below hbr) hak
        have hk1 : (k : Int) < (l.length : Int) := by omega
        have HPT := Lib.hid (HTK2.out k a hak)
        have hfl : (FK k).length ≤ 30000 := by have := HLN2.out k; rw [List.length_take] at this; omega
        have HSA := Lib.hid (HST.out a)
        have HCA := Lib.hid (HCB.out a)
        have hzb := hbr.size
        have hA1 := qalloc wr (.cells #[.string a.who, .int .i64 a.change, .string a.saw] 51)
        have HB := Lib.hid (CBox.new wr 51 #[.string a.who, .int .i64 a.change, .string a.saw])
        have hbA := qtrans hbr hA1
        have HOA := Lib.hid (HO.out.below hA1)
        clear hak HO hA1
        generalize standsB old fresh a = sb at *
        generalize hcur : FK k = cur at *
        generalize hnx : FK (k + 1) = nxt at *
        have HNX := Lib.hid hnx
        clear hcur hnx
        cases hch : (a.change == change) with
        | false =>
          have HN : Hid (nxt = cur) := by show _ = _; rw [HPT.out, HCA.out, hch]; simp
          go_wp2
          go_roundw
          case rel => exact ⟨k + 1, by omega, by go_num, hbA, by rw [HNX.out, HN.out]; exact HOA⟩
          case measure => simp [intOf]; omega
        | true =>
          have x0 := HB.out.cell (i := 0) rfl
          have x1 := HB.out.cell (i := 1) rfl
          have x2 := HB.out.cell (i := 2) rfl
          have xl := HB.out.lt
          cases sb with
          | false =>
            have HN : Hid (nxt = cur) := by show _ = _; rw [HPT.out, HCA.out, hch]; simp
            go_wp2_with (fail)
            refine (HSA.out _ (H12.out.below hbA) (H22.out.below hbA)).mono ?_
            rintro e w5 ⟨rfl, hb5⟩
            have hb25 := qtrans hbA hb5
            have HO5 := Lib.hid (HOA.out.below hb5)
            clear x0 x1 x2 xl HB HOA hbA hb5 HSA
            go_wp2
            go_roundw
            case rel => exact ⟨k + 1, by omega, by go_num, hb25, by rw [HNX.out, HN.out]; exact HO5⟩
            case measure => simp [intOf]; omega
          | true =>
            have HN : Hid (nxt = cur ++ [a.who]) := by show _ = _; rw [HPT.out, HCA.out, hch]; simp
            go_wp2_with (fail)
            refine (HSA.out _ (H12.out.below hbA) (H22.out.below hbA)).mono ?_
            rintro e w5 ⟨rfl, hb5⟩
            have hb25 := qtrans hbA hb5
            have hown : OwnS w5 w2.heap.size u15 cur := HOA.out.below hb5
            have y0 := (HB.out.below hb5).cell (i := 0) rfl
            have yl := (HB.out.below hb5).lt
            have hz5 := hb25.size
            clear x0 x1 x2 xl HB HOA hbA hb5 HSA
            go_wp2_with (at_builtin; refine wpList_append_own _ rfl _ _ 30 rfl w2.heap.size 9 is0 _ 1 16 Tryz.underlying30 his hzs0 hzs1 hzs2 rfl (by decide) _ _ _ rfl (hown.alloc _) ⟨w5.heap.size, 0, none⟩ 1 1 [.string a.who] rfl rfl (cell_one_new _ _ _) (by simp [Value.oneCell']) (by unfold maxLen; omega) (by omega) (by simp; omega) ?_)
            intro v8 w8 hown8 hg8 _
            have HO8 : Hid (OwnS w8 w2.heap.size v8 (cur ++ [a.who])) := by
              refine Lib.hid ?_
              unfold OwnS
              rw [List.length_append, List.map_append]; exact hown8
            have hb8 : Below w2.heap.size w2 w8 := (qtrans hb25 (qalloc _ _)).grown hg8 (by simp; omega) (fun k hk => owns_block hown hk)
            clear hg8 hown8 hown
            rw [← HN.out, ← HNX.out] at HO8
            go_wp2
            go_roundw
            case rel => exact ⟨k + 1, by omega, by go_num, hb8, HO8⟩
            case measure => simp [intOf]; omega
      · have hkl' : k = l.length := by omega
        subst hkl'
        rw [HFE.out] at HO
        obtain ⟨oa, oc, rfl, -, -⟩ := HO.out.strs.len
        generalize wr = wo at *
        have HOS := Lib.hid HO.out.strs
        have hb0 := qtrans hb02 hbr
        have RXo := Lib.hid (RX2.out.below hbr)
        have RYo := Lib.hid (RY.out.below hbr)
        clear HO HL2 HST
        go_wp2_with (fail)
        refine (HRQ.out wo (H12.out.below hbr) (H22.out.below hbr)).mono ?_
        rintro e w4 ⟨gv, rfl, rg, hb4⟩
        simp only [] at rg
        have HEN := Lib.hid (rEnough_any gv (.slice oa ps.length oc) gs ps w4 rg (HOS.out.below hb4) (by omega))
        obtain ⟨ga, gc, rfl, -, -⟩ := groups_val rg
        have RX4 := Lib.hid (RXo.out.below hb4)
        have RY4 := Lib.hid (RYo.out.below hb4)
        have hb04 := qtrans hb0 hb4
        obtain ⟨hxe, hyl, hsub⟩ := F2.out
        have HSUB := Lib.hid hsub
        have hneq : (((xs.length : Int) == 0) != enoughB gs ps) = false := by rw [hxe]; simp
        clear RXo RYo HOS H12 H22 RX2 RY hbr hb4 hb0 hb02 HRQ rg hsub F2
        generalize enoughB gs ps = eb at *
        rw [hxe] at hneq
        go_wp2_with (fail)
        refine HEN.out.mono ?_
        rintro e w5 ⟨rfl, rfl⟩
        go_wp2
        go_loopw [114] (fun iv wr => ∃ j : Nat, j ≤ ys.length ∧ iv = .int .i64 j ∧ Hid (∃ n, wr = w4.drewN n)) (fun iv _ => ys.length - (intOf iv).toNat)
        case atStart => exact ⟨0, Nat.zero_le _, rfl, ⟨0, rfl⟩⟩
        case round =>
          obtain ⟨j, hj, rfl, HW⟩ := hrel
          have hj0 : (0 : Int) ≤ (j : Int) := by omega
          obtain ⟨nw, rfl⟩ := HW.out
          have HWP : Hid (∃ n, w4.drewN nw = w4.drewN n) := ⟨nw, rfl⟩
          have RY7 := Lib.hid (RY4.out.drewN nw)
          have RX7 := Lib.hid (RX4.out.drewN nw)
          have hb7 := below_drewN hb04 nw
          generalize w4.drewN nw = w7 at *
          by_cases hjl : j < ys.length
          · obtain ⟨g, hg⟩ : ∃ g, ys[j]? = some g := ⟨_, List.getElem?_eq_getElem hjl⟩
            obtain ⟨b2, o2, ag, cg, rfl, hb2', c2, q1, q2, HRG⟩ := groups_elem RY7.out hg
            have hj1 : (j : Int) < (ys.length : Int) := by omega
            have HHG := Lib.hid (rHasGroup_any _ _ xs g w7 RX7.out HRG.out)
            rw [HSUB.out g (List.mem_of_getElem? hg)] at HHG
            clear hg
            go_wp2_with (fail)
            refine HHG.out.mono ?_
            rintro e w8 ⟨rfl, n8, rfl⟩
            go_wp2
            go_roundw
            case rel => exact ⟨j + 1, by omega, by go_num, by obtain ⟨n, hn⟩ := HWP.out; rw [hn]; exact ⟨_, World.drewN_drewN _ _ _⟩⟩
            case measure => simp [intOf]; omega
          · go_wp2_with (fail)
            refine (awake55_any _).mono ?_
            rintro e w9 ⟨rfl, hb9⟩
            go_wp2
            go_ret
            exact ⟨rfl, qtrans hb7 hb9⟩
  · have hne1 : (er != 0) = true := by simpa using e1
    have hee : (er == er) = true := by simp
    have hxn := F1.out e1
    subst hxn
    clear HRQ H12 H22 HL2 RX2 RY F1 F2 e1 HST
    go_wp2_with (fail)
    refine (awake55_any _).mono ?_
    rintro e w9 ⟨rfl, hb9⟩
    go_wp2
    go_ret
    exact ⟨rfl, qtrans hb02 hb9⟩
end Go.Proofs.YtidkpnabdfiilaaGreatDoor
