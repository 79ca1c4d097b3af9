/- OwnersApproval: the walk. -/
import Derived.Test.YtidkpnabdfiilaaGreatDoorLwOwnersRequired
namespace Go.Proofs.YtidkpnabdfiilaaGreatDoor
open Go.RowKit
attribute [local go_sem] Oper.semAt_some

/-! Plain. -/
theorem addG_old {out : List (List ByteArray)} {g x : List ByteArray} (h : x ∈ out) : x ∈ addG out g := by
  unfold addG; split
  · exact h
  · exact List.mem_append_left _ h
theorem addG_new (out : List (List ByteArray)) (g : List ByteArray) : g ∈ addG out g := by
  unfold addG; split
  · rename_i h; exact (hasG_iff out g).1 h
  · exact List.mem_append_right _ (List.mem_singleton.2 rfl)
theorem addGs_old : ∀ {gs out : List (List ByteArray)} {x : List ByteArray}, x ∈ out → x ∈ addGs out gs
  | [], _, _, h => h
  | g :: gs, out, _, h => addGs_old (gs := gs) (out := addG out g) (addG_old h)
theorem addGs_new : ∀ {gs out : List (List ByteArray)} {x : List ByteArray}, x ∈ gs → x ∈ addGs out gs
  | g :: gs, out, x, h => by
    rcases List.mem_cons.1 h with rfl | h
    · exact addGs_old (gs := gs) (addG_new out _)
    · exact addGs_new (gs := gs) (out := addG out g) h
theorem req_old {m : ruleMap} : ∀ {ps : List ByteArray} {out : List (List ByteArray)} {x : List ByteArray}, x ∈ out → x ∈ reqFrom m out ps
  | [], _, _, h => h
  | p :: ps, out, _, h => req_old (ps := ps) (out := addGs out (ownersM m p)) (addGs_old h)
theorem req_new {m : ruleMap} : ∀ {ps : List ByteArray} {out : List (List ByteArray)} {p : ByteArray} {x : List ByteArray}, p ∈ ps → x ∈ ownersM m p → x ∈ reqFrom m out ps
  | q :: ps, out, p, x, h, hx => by
    rcases List.mem_cons.1 h with rfl | h
    · exact req_old (ps := ps) (addGs_new hx)
    · exact req_new (ps := ps) (out := addGs out (ownersM m q)) h hx
theorem memS_more {s : ByteArray} {who more : List ByteArray} (h : memS s who = true) : memS s (who ++ more) = true := by
  unfold memS at *; rw [List.any_append, h]; rfl
theorem enough_more {gs : List (List ByteArray)} {who more : List ByteArray} (h : enoughB gs who = true) : enoughB gs (who ++ more) = true := by
  unfold enoughB at *
  rw [List.all_eq_true] at *
  intro g hg
  have := h g hg
  unfold someIn at *
  rw [List.any_eq_true] at *
  obtain ⟨s, hs, e⟩ := this
  exact ⟨s, hs, memS_more e⟩
theorem two_groups {w : World} {v3 v4 : Value} {who more : List ByteArray} (h3 : Strs w v3 who) (h4 : Strs w v4 more) : Reads (w.alloc (.cells #[v3, v4] 30)) [] (groupsT [who, more]) (.slice (some ⟨w.heap.size, 0, none⟩) 2 2) := by
  have hB := CBox.new w 30 #[v3, v4]
  have hA := qalloc w (.cells #[v3, v4] 30)
  refine Reads.ofRow (xs := [v3, v4]) ⟨rfl, _, _, rfl, Nat.le_refl _, by unfold maxLen; omega, fun _ => ⟨w.heap.size, 0, rfl, hB.lt, fun j u hj => ?_⟩⟩ (fun _ _ _ h => by cases h) ?_
  · match j, hj with
    | 0, hj => cases hj; exact hB.cell (i := 0) rfl
    | 1, hj => cases hj; exact hB.cell (i := 1) rfl
    | (j + 2), hj => cases hj
  · exact ReadsL.cons (reads_strs.2 ⟨h3.below hA, fun _ _ _ h => by cases h⟩) (ReadsL.cons (reads_strs.2 ⟨h4.below hA, fun _ _ _ h => by cases h⟩) (ReadsL.nil _ _))
theorem wpList_append_rowG {P : Program} {ops : Array Oper} {rest : List Oper} {o : Oper} {a : Act} {w : World} {Q : Exit → Act → World → Prop} (hw : Region.wanted o (yielded ops a.tmps) = true) (s x : Operand) (t : TypeId)
    (ho : o.op = .call { callee := .builtin .append, args := #[s, x], argTypes := #[t, t] })
    (base : Nat) (e : TypeId) (i : TypeInfo) (z : Value) (size bytes : Nat) (ht : P.underlying t = some (.slice e)) (hi : P.info? e = some i) (hz : i.zero = some z)
    (hsize : i.size = size) (hby : i.bytes = bytes) (hzs : z.cells.size = size) (hsz : 0 < size)
    (v : Value) (n : Nat) (xs : List Value) (hs : a.eval s = v) (hown : w.ownsRow base e size v n xs)
    (sv : Value) (m : Nat) (news : List Value) (hx : a.eval x = sv) (hr : IsRow w size sv m news) (h1 : ∀ u ∈ news, u.oneCell' = true)
    (h63 : n + m ≤ maxLen) (hbytes : (n + m) * bytes ≤ 140737488355328) (hbase : base ≤ w.heap.size)
    (h : ∀ v' w', w'.ownsRow base e size v' (n + m) (xs ++ news) → w.grownBy w' v.ownBlock → (v'.ownBlock = v.ownBlock ∨ v'.ownBlock = some w.heap.size) → wpList P ops Q rest (a.put o.dst v') w') :
    wpList P ops Q (o :: rest) a w := by
  rw [wpList, if_pos hw]
  refine .inl ?_
  obtain ⟨v', w', hrun, h2, h3, h4⟩ := run_append_row (P := P) base t o.type e i z size bytes ht hi hz hsize hby hzs hsz v n xs hown sv m news hr h1 h63 hbytes hbase
  unfold Oper.wp execOp
  simp only [ho, resolve, invoke, builtin, Sem.run_bind, Sem.run_pure, Result.andThen_ok, List.map_toArray, List.map_cons, List.map_nil, hs, hx, hrun]
  exact h v' w' h2 h3 h4
set_option maxRecDepth 100000 in
set_option maxHeartbeats 2000000 in
theorem LOwnersApproval_any (v1 v2 v3 v4 : Value) (old fresh : List OFile) (who more : List ByteArray) (w : World) (h1 : Reads w [] (filesT old) v1) (z1 : SizedF old) (h2 : Reads w [] (filesT fresh) v2) (z2 : SizedF fresh) (h3 : Strs w v3 who) (z3 : SizedS who) (h4 : Strs w v4 more) (z4 : SizedS more) :
    Calls Tryz.prog 4 #[.agg #[v1, v2, v3, v4]] w fun e w' => e = .returned (.bool true) ∧ Below w.heap.size w w' := by
  have HG1 := Lib.hid (fun W h => rGreat09_any v1 old W h z1)
  have HG2 := Lib.hid (fun W h => rGreat09_any v2 fresh W h z2)
  have HGG := Lib.hid (fun W h => rGreatGroups_any (.slice (some ⟨W, 0, none⟩) 2 2) [who, more] h)
  obtain ⟨is0, his, hzs0, hzs1, hzs2⟩ := info_parts infoStr
  obtain ⟨a1, cap1, rfl, hc1, hd1⟩ := files_val h1
  obtain ⟨a2, cap2, rfl, hc2, hd2⟩ := files_val h2
  obtain ⟨a3, cap3, rfl, hc3, hd3⟩ := h3.len
  obtain ⟨a4, cap4, rfl, hc4, hd4⟩ := h4.len
  have HZG : Hid (SizedG [who, more]) := fun g hg => by
    simp only [List.mem_cons, List.not_mem_nil, or_false] at hg
    rcases hg with rfl | rfl
    · exact z3
    · exact z4
  have hA0 := qalloc w (.cells #[.slice a1 old.length cap1, .slice a2 fresh.length cap2, .slice a3 who.length cap3, .slice a4 more.length cap4] 35)
  have H1 := Lib.hid (h1.below hA0)
  have H2 := Lib.hid (h2.below hA0)
  have H3 := Lib.hid (h3.below hA0)
  have H4 := Lib.hid (h4.below hA0)
  clear h1 h2 h3 h4 z1 z2 z3 z4
  go_enter Tryz.func4, Tryz.ntmps4
  go_wp2
  go_quiet (fail)
  have hbW := below_drewN hA0 nq
  have H1d := Lib.hid (H1.out.drewN nq)
  have H2d := Lib.hid (H2.out.drewN nq)
  have H3d := Lib.hid (H3.out.drewN nq)
  have H4d := Lib.hid (H4.out.drewN nq)
  clear H1 H2 H3 H4 hA0
  generalize (w.alloc (.cells #[.slice a1 old.length cap1, .slice a2 fresh.length cap2, .slice a3 who.length cap3, .slice a4 more.length cap4] 35)).drewN nq = W0 at *
  have HG1 := Lib.hid (HG1.out W0 H1d.out)
  have HG2 := Lib.hid (HG2.out W0 H2d.out)
  cases g1 : greatF old with
  | true =>
    rw [g1] at HG1
    go_wp2_with (fail)
    refine HG1.out.mono ?_
    rintro e w0 ⟨rfl, rfl⟩
    go_wp2_with (fail)
    refine (awake_any _).mono ?_
    rintro e w9 ⟨rfl, hb9⟩
    go_wp2
    go_ret
    exact ⟨rfl, qtrans hbW hb9⟩
  | false =>
  rw [g1] at HG1
  cases g2 : greatF fresh with
  | true =>
    rw [g2] at HG2
    go_wp2_with (fail)
    refine HG1.out.mono ?_
    rintro e w0 ⟨rfl, rfl⟩
    go_wp2_with (fail)
    refine HG2.out.mono ?_
    rintro e w0 ⟨rfl, rfl⟩
    go_wp2_with (fail)
    refine (awake_any _).mono ?_
    rintro e w9 ⟨rfl, hb9⟩
    go_wp2
    go_ret
    exact ⟨rfl, qtrans hbW hb9⟩
  | false =>
  rw [g2] at HG2
  have hA1 := qalloc W0 (.cells #[.slice a3 who.length cap3, .slice a4 more.length cap4] 30)
  have HGG := Lib.hid (HGG.out _ _ (two_groups H3d.out H4d.out) HZG.out)
  have hbW1 := qtrans hbW hA1
  have H1e := Lib.hid (H1d.out.below hA1)
  have H2e := Lib.hid (H2d.out.below hA1)
  have H3e := Lib.hid (H3d.out.below hA1)
  have H4e := Lib.hid (H4d.out.below hA1)
  cases g3 : greatG [who, more] with
  | true =>
    rw [g3] at HGG
    go_wp2_with (fail)
    refine HG1.out.mono ?_
    rintro e w0 ⟨rfl, rfl⟩
    go_wp2_with (fail)
    refine HG2.out.mono ?_
    rintro e w0 ⟨rfl, rfl⟩
    go_wp2_with (fail)
    refine HGG.out.mono ?_
    rintro e w0 ⟨rfl, rfl⟩
    go_wp2_with (fail)
    refine (awake_any _).mono ?_
    rintro e w9 ⟨rfl, hb9⟩
    go_wp2
    go_ret
    exact ⟨rfl, qtrans hbW1 hb9⟩
  | false =>
  rw [g3] at HGG
  obtain ⟨s1, s2⟩ := greatF_small g1
  obtain ⟨t1, t2⟩ := greatF_small g2
  obtain ⟨-, u2⟩ := greatG_small g3
  have sm1 : SmallF old := ⟨by omega, fun f hf => by have := s2 f hf; omega⟩
  have sm2 : SmallF fresh := ⟨by omega, fun f hf => by have := t2 f hf; omega⟩
  have HK1 := Lib.hid (fun W h => r9Check_any (.slice a1 old.length cap1) old W h sm1 (fun f hf => by have := s2 f hf; omega))
  have HK2 := Lib.hid (fun W h => r9Check_any (.slice a2 fresh.length cap2) fresh W h sm2 (fun f hf => by have := t2 f hf; omega))
  have hwho := u2 who (by simp)
  have hmore := u2 more (by simp)
  clear H1d H2d H3d H4d HZG g1 g2 g3 u2
  go_wp2_with (fail)
  refine HG1.out.mono ?_
  rintro e w0 ⟨rfl, rfl⟩
  go_wp2_with (fail)
  refine HG2.out.mono ?_
  rintro e w0 ⟨rfl, rfl⟩
  go_wp2_with (fail)
  refine HGG.out.mono ?_
  rintro e w0 ⟨rfl, rfl⟩
  clear HG1 HG2 HGG
  generalize W0.alloc (.cells #[.slice a3 who.length cap3, .slice a4 more.length cap4] 30) = W1 at *
  go_wp2_with (fail)
  refine (HK1.out W1 H1e.out).mono ?_
  rintro e w1 ⟨rfl, hb1⟩
  cases e1 : (treeErr old != 0) with
  | true =>
    generalize treeErr old = q at *
    clear HK1 HK2
    go_wp2_with (fail)
    refine (awake_any _).mono ?_
    rintro e w9 ⟨rfl, hb9⟩
    go_wp2
    go_ret
    exact ⟨rfl, qtrans hbW1 (qtrans hb1 hb9)⟩
  | false =>
  have e1' : treeErr old = 0 := by simpa using e1
  rw [e1']
  clear e1
  go_wp2_with (fail)
  refine (HK2.out w1 (H2e.out.below hb1)).mono ?_
  rintro e w2 ⟨rfl, hb2⟩
  cases e2 : (treeErr fresh != 0) with
  | true =>
    generalize treeErr fresh = q at *
    clear HK1 HK2
    go_wp2_with (fail)
    refine (awake_any _).mono ?_
    rintro e w9 ⟨rfl, hb9⟩
    go_wp2
    go_ret
    exact ⟨rfl, qtrans hbW1 (qtrans hb1 (qtrans hb2 hb9))⟩
  | false =>
  have e2' : treeErr fresh = 0 := by simpa using e2
  rw [e2']
  clear e2 HK1 HK2
  have T1 := (treeErr_iff old).1 e1'
  have T2 := (treeErr_iff fresh).1 e2'
  have hb12 := qtrans hb1 hb2
  have H1f := Lib.hid (H1e.out.below hb12)
  have H2f := Lib.hid (H2e.out.below hb12)
  have H3f := Lib.hid (H3e.out.below hb12)
  have H4f := Lib.hid (H4e.out.below hb12)
  have hbf := qtrans hbW1 hb12
  have HQ0 : Hid (requiredOf old old = ([], 0)) := by show _ = _; rw [requiredOf, if_pos e1', if_pos e1', pathsC, diff_self]; rfl
  have HQ1 : Hid (requiredOf old fresh = (reqFrom (rulesM old) [] (pathsC old fresh), 0)) := by show _ = _; rw [requiredOf, if_pos e1', if_pos e2']
  have hps : ∀ p ∈ pathsC old fresh, p.size ≤ 30000 := fun p hp => by
    obtain ⟨c, hc, rfl⟩ := List.mem_map.1 hp
    obtain ⟨f, hm, e⟩ := diff_from _ old fresh (Nat.le_refl _) c hc
    rw [e]
    rcases hm with hm | hm
    · have := s2 f hm; omega
    · have := t2 f hm; omega
  have HRA := Lib.hid (Required_any _ _ old old w2 H1f.out H1f.out sm1 sm1 (by omega) (fun p hp => by rw [pathsC, diff_self] at hp; cases hp))
  have HRB := Lib.hid (fun W h1 h2 => Required_any (.slice a1 old.length cap1) (.slice a2 fresh.length cap2) old fresh W h1 h2 sm1 sm2 (by omega) hps)
  rw [HQ0.out] at HRA
  rw [HQ1.out] at HRB
  have HCH := Lib.hid (changes_diff T1.ord T2.ord)
  have HGS := Lib.hid (fun W h c (hc : c ∈ diffC old fresh) => Groups_any (.slice a1 old.length cap1) old c.path W h sm1 (hps c.path (List.mem_map.2 ⟨c, hc, rfl⟩)))
  have HGO := Lib.hid (fun c (hc : c ∈ diffC old fresh) => groupsOf_ok T1 (diff_path T1 T2 hc))
  have HMEM : Hid (∀ c ∈ diffC old fresh, ∀ g ∈ ownersM (rulesM old) c.path, hasG (reqFrom (rulesM old) [] (pathsC old fresh)) g = true) := fun c hc g hg => (hasG_iff _ _).2 (req_new (List.mem_map.2 ⟨c, hc, rfl⟩) hg)
  have HQG := Lib.hid (reqFrom_good (rulesM_good old) (ps := pathsC old fresh) (out := []) (fun _ h => by cases h))
  generalize reqFrom (rulesM old) [] (pathsC old fresh) = xs at *
  clear e1' e2' T1 T2 hb1 hb2 hb12 H1e H2e H3e H4e hbW hA1 hbW1 hps HQ0 HQ1 s2 t2
  go_wp2_with (fail)
  refine HRA.out.mono ?_
  rintro e w3 ⟨nv, rfl, hnv, hb3⟩
  simp only [] at hnv
  obtain ⟨na, nc, rfl, -, -⟩ := groups_val hnv
  clear hnv HRA
  go_wp2_with (fail)
  refine (HRB.out w3 (H1f.out.below hb3) (H2f.out.below hb3)).mono ?_
  rintro e w4 ⟨xv, rfl, hxv, hb4⟩
  simp only [] at hxv
  obtain ⟨xa, xc, rfl, -, -⟩ := groups_val hxv
  have HXV := Lib.hid hxv
  have hb34 := qtrans hb3 hb4
  have hz0 : ((([] : List (List ByteArray)).length : Int) != 0) = false := rfl
  clear hxv HRB
  go_wp2_with (fail)
  refine (r9Changes_any _ _ old fresh w4 (H1f.out.below hb34) (H2f.out.below hb34) (by omega)).mono ?_
  rintro e w5 ⟨cv, rfl, hcv, hb5⟩
  rw [HCH.out] at hcv
  have hcr := hcv.reads
  obtain ⟨ca, cc, rfl, hcc1, hcc2⟩ := chgs_val hcr
  have HCV := Lib.hid hcr
  have hb25 := qtrans hb34 hb5
  have HX5 := Lib.hid (HXV.out.below hb5)
  have H15 := Lib.hid (H1f.out.below hb25)
  have H35 := Lib.hid (H3f.out.below hb25)
  have H45 := Lib.hid (H4f.out.below hb25)
  have hbf5 := qtrans hbf hb25
  clear hcr hcv HXV H1f H2f H3f H4f hbf hb3 hb4 hb34 hb5 hb25 HCH
  generalize diffC old fresh = cs at *
  go_wp2
  go_loopw [75] (fun iv wr => ∃ k : Nat, k ≤ cs.length ∧ iv = .int .i64 k ∧ Below w5.heap.size w5 wr) (fun iv _ => cs.length - (intOf iv).toNat)
  case atStart => exact ⟨0, Nat.zero_le _, rfl, qrefl _⟩
  case round =>
    obtain ⟨k, hk, rfl, hbr⟩ := hrel
    have hk0 : (0 : Int) ≤ (k : Int) := by omega
    by_cases hkl : k < cs.length
    · obtain ⟨c, hc⟩ : ∃ c, cs[k]? = some c := ⟨_, List.getElem?_eq_getElem hkl⟩
      obtain ⟨b1, o1, rfl, hbb1, d0, d1, d2, d3, d4⟩ := chgs_elem (HCV.out.below hbr) hc
      have hk1 : (k : Int) < (cs.length : Int) := by omega
      have hcm := List.mem_of_getElem? hc
      have HGC := Lib.hid (fun W h => HGS.out W h c hcm)
      rw [HGO.out c hcm] at HGC
      have HHM := Lib.hid (HMEM.out c hcm)
      have hA := qalloc wr (.cells #[.string c.path, .bool c.hasOld, .bool c.hasNew, .string c.old, .string c.fresh] 40)
      have hbA := qtrans hbr hA
      clear hc hcm
      generalize ownersM (rulesM old) c.path = gs at *
      go_wp2_with (fail)
      refine (HGC.out _ (H15.out.below hbA)).mono ?_
      rintro e w6 ⟨gv, rfl, hgv, hb6⟩
      simp only [] at hgv
      obtain ⟨ga, gc, rfl, hgb1, hgb2⟩ := groups_val hgv
      have HGV := Lib.hid hgv
      have hb6' := qtrans hbA hb6
      have HX6 := Lib.hid (HX5.out.below hb6')
      clear hgv HGC hb6 hA hbA hbr
      go_wp2
      go_loopw [90] (fun iv wr => ∃ j : Nat, j ≤ gs.length ∧ iv = .int .i64 j ∧ Hid (∃ n, wr = w6.drewN n)) (fun iv _ => gs.length - (intOf iv).toNat)
      case atStart => exact ⟨0, Nat.zero_le _, rfl, ⟨0, rfl⟩⟩
      case round =>
        obtain ⟨j, hj, rfl, HW⟩ := hrel
        have hj0 : (0 : Int) ≤ (j : Int) := by omega
        obtain ⟨nw, rfl⟩ := HW.out
        have HWP : Hid (∃ n, w6.drewN nw = w6.drewN n) := ⟨nw, rfl⟩
        have HG7 := Lib.hid (HGV.out.drewN nw)
        have HX7 := Lib.hid (HX6.out.drewN nw)
        have hb7 := below_drewN hb6' nw
        generalize w6.drewN nw = w7 at *
        by_cases hjl : j < gs.length
        · obtain ⟨g, hg⟩ : ∃ g, gs[j]? = some g := ⟨_, List.getElem?_eq_getElem hjl⟩
          obtain ⟨b2, o2, ag, cg, rfl, hb2', c2, q1, q2, HR⟩ := groups_elem HG7.out hg
          have hj1 : (j : Int) < (gs.length : Int) := by omega
          have HHG := Lib.hid (rHasGroup_any _ _ xs g w7 HX7.out HR.out)
          rw [HHM.out g (List.mem_of_getElem? hg)] at HHG
          clear hg
          go_wp2_with (fail)
          refine HHG.out.mono ?_
          rintro e w8 ⟨rfl, n8, rfl⟩
          go_wp2
          go_roundw
          case rel => exact ⟨j + 1, by omega, by go_num, by obtain ⟨n, hn⟩ := HWP.out; rw [hn]; exact ⟨_, World.drewN_drewN _ _ _⟩⟩
          case measure => simp [intOf]; omega
        · go_wp2
          go_roundw
          case rel => exact ⟨k + 1, by omega, by go_num, hb7⟩
          case measure => simp [intOf]; omega
    · have HX6 := Lib.hid (HX5.out.below hbr)
      have H36 := Lib.hid (H35.out.below hbr)
      have H46 := Lib.hid (H45.out.below hbr)
      have hbf6 := qtrans hbf5 hbr
      have HEN := Lib.hid (fun W v ws h1 h2 h3 h4 => Enough_any (.slice xa xs.length xc) v xs ws W h1 h2 h3 h4 (fun g hg s hs => by have := person_len ((HQG.out g hg).each s hs); rw [sz] at this; omega))
      clear HX5 H15 H35 H45 hbf5 hbr HGS HGO HMEM
      generalize wr = wo at *
      have HE1 := Lib.hid (HEN.out wo (.slice a3 who.length cap3) who HX6.out H36.out (by omega) (fun s hs => by have := hwho.2 s hs; omega))
      cases hen : enoughB xs who with
      | false =>
        rw [hen] at HE1
        go_wp2_with (fail)
        refine HE1.out.mono ?_
        rintro e w7 ⟨rfl, hb7⟩
        have HE3 := Lib.hid (Enough_any (.slice none 0 0) (.slice a3 who.length cap3) [] who w7 (Reads.nilRow _ _ _ _) (H36.out.below hb7) (by omega) (fun s hs => by have := hwho.2 s hs; omega) (fun g hg => by cases hg))
        have hbf7 := qtrans hbf6 hb7
        clear HEN HE1 HX6 H36 H46 hbf6 hb7
        go_wp2_with (fail)
        refine HE3.out.mono ?_
        rintro e w8 ⟨rfl, hb8⟩
        have hnil : enoughB [] who = true := rfl
        rw [hnil]
        go_wp2_with (fail)
        refine (awake_any _).mono ?_
        rintro e w9 ⟨rfl, hb9⟩
        go_wp2
        go_ret
        exact ⟨rfl, qtrans hbf7 (qtrans hb8 hb9)⟩
      | true =>
        rw [hen] at HE1
        have HEM := Lib.hid (enough_more (more := more) hen)
        go_wp2_with (fail)
        refine HE1.out.mono ?_
        rintro e w7 ⟨rfl, hb7⟩
        have H37 := Lib.hid (H36.out.below hb7)
        have H47 := Lib.hid (H46.out.below hb7)
        have HX7 := Lib.hid (HX6.out.below hb7)
        have hbf7 := qtrans hbf6 hb7
        have hA7 := qalloc w7 (.cells #[] 9)
        clear HE1 HX6 H36 H46 hbf6 hb7
        have HO7 : Hid (OwnS (w7.alloc (.cells #[] 9)) w7.heap.size (.slice (some ⟨w7.heap.size, 0, none⟩) 0 0) []) :=
          ⟨rfl, .inr ⟨w7.heap.size, 0, #[], rfl, Nat.le_refl _, World.alloc_heap_new _ _, Nat.le_refl _, Nat.zero_le _, rfl, rfl⟩⟩
        go_wp2_with (at_builtin; refine wpList_append_rowG (by rfl) _ _ 30 rfl w7.heap.size 9 is0 _ 1 16 Tryz.underlying30 his hzs0 hzs1 hzs2 rfl (by decide) _ _ _ rfl HO7.out _ _ (who.map .string) rfl (H37.out.below hA7) (fun u hu => by obtain ⟨s, _, rfl⟩ := List.mem_map.1 hu; rfl) (by unfold maxLen; simp; omega) (by simp; omega) (by simp) ?_)
        intro v8 w8 hown8 hg8 hbk8
        have hb8 : Below w7.heap.size w7 w8 := hA7.grown hg8 (by simp) (fun k hk => owns_block HO7.out hk)
        have HO8 : Hid (OwnS w8 w7.heap.size v8 who) := by
          refine Lib.hid ?_
          unfold OwnS
          simpa using hown8
        clear hg8 hbk8 hown8 HO7
        go_wp2_with (at_builtin; refine wpList_append_rowG (by rfl) _ _ 30 rfl w7.heap.size 9 is0 _ 1 16 Tryz.underlying30 his hzs0 hzs1 hzs2 rfl (by decide) _ _ _ rfl HO8.out _ _ (more.map .string) rfl (H47.out.below hb8) (fun u hu => by obtain ⟨s, _, rfl⟩ := List.mem_map.1 hu; rfl) (by unfold maxLen; omega) (by omega) hb8.size ?_)
        intro v9 w9 hown9 hg9 hbk9
        have hb9 : Below w7.heap.size w7 w9 := hb8.grown hg9 hb8.size (fun k hk => owns_block HO8.out hk)
        have HO9 : Hid (OwnS w9 w7.heap.size v9 (who ++ more)) := by
          refine Lib.hid ?_
          unfold OwnS
          rw [List.length_append, List.map_append]; exact hown9
        clear hg9 hbk9 hown9 HO8
        obtain ⟨va, vc, rfl, -, -⟩ := HO9.out.strs.len
        have HE2 := Lib.hid (HEN.out w9 _ (who ++ more) (HX7.out.below hb9) HO9.out.strs (by rw [List.length_append]; omega) (fun s hs => by
          rcases List.mem_append.1 hs with hs | hs
          · have := hwho.2 s hs; omega
          · have := hmore.2 s hs; omega))
        rw [HEM.out, List.length_append] at HE2
        go_wp2_with (fail)
        refine HE2.out.mono ?_
        rintro e w10 ⟨rfl, hb10⟩
        have hb710 := qtrans hb9 hb10
        have HE3 := Lib.hid (Enough_any (.slice none 0 0) (.slice a3 who.length cap3) [] who w10 (Reads.nilRow _ _ _ _) (H37.out.below hb710) (by omega) (fun s hs => by have := hwho.2 s hs; omega) (fun g hg => by cases hg))
        clear HEN HE2 HX7 H37 H47 hb9 hb10 hA7
        go_wp2_with (fail)
        refine HE3.out.mono ?_
        rintro e w11 ⟨rfl, hb11⟩
        have hnil : enoughB [] who = true := rfl
        rw [hnil]
        go_wp2_with (fail)
        refine (awake_any _).mono ?_
        rintro e w12 ⟨rfl, hb12⟩
        go_wp2
        go_ret
        exact ⟨rfl, qtrans hbf7 (qtrans hb710 (qtrans hb11 hb12))⟩
end Go.Proofs.YtidkpnabdfiilaaGreatDoor
