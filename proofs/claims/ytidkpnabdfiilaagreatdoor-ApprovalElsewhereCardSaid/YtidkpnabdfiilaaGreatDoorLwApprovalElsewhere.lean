/- ApprovalElsewhere: the walk. -/
import Derived.Test.YtidkpnabdfiilaaGreatDoorLwApprovalStands
namespace Go.Proofs.YtidkpnabdfiilaaGreatDoor
open Go.RowKit
attribute [local go_sem] Oper.semAt_some
attribute [local irreducible] Go.wpStill

theorem one_fileG {w : World} {b : Nat} {f : OFile} (hB : CBox w b 55 #[.string f.path, .string f.data]) : Reads w [] (filesT [f]) (.slice (some ⟨b, 0, none⟩) 1 1) := by
  refine Reads.ofRow (xs := [.string f.path, .string f.data]) ⟨rfl, _, _, rfl, Nat.le_refl _, by unfold maxLen; omega, fun _ => ⟨b, 0, rfl, hB.lt, fun j u hj => ?_⟩⟩ (fun _ _ _ h => by cases h) ?_
  · match j, hj with
    | 0, hj => cases hj; exact hB.cell (i := 0) rfl
    | 1, hj => cases hj; exact hB.cell (i := 1) rfl
    | (j + 2), hj => cases hj
  · exact ReadsL.cons (Reads.leaf' _ _ _) (ReadsL.cons (Reads.leaf' _ _ _) (ReadsL.nil _ _))
theorem groupsOf_own {fs : List OFile} (h : TreeOk fs) {p : ByteArray} (e : (groupsOf fs p).2 = 0) : (groupsOf fs p).1 = ownersM (rulesM fs) p := by
  unfold groupsOf at e ⊢
  rw [if_pos ((treeErr_iff fs).2 h)] at e ⊢
  split
  · rfl
  · rename_i h2
    rw [if_neg h2] at e
    exact absurd e (by decide)
theorem withF_mem {l : List OFile} (hl : l.Pairwise lessF) {f x : OFile} (hx : x ∈ withF l f) : x = f ∨ x ∈ l := by
  rcases ((with_spec f l hl).1 x).1 hx with h | h
  · exact .inl h
  · exact .inr h.1
theorem with_small2 {old fresh : List OFile} {f g : OFile} (h1 : greatF old = false) (h2 : greatF fresh = false) (h3 : greatF [f] = false) (h4 : greatF [g] = false) (T1 : TreeOk old) (T2 : TreeOk fresh) (l1 : (withF old f).length ≤ 11) (l2 : (withF fresh g).length ≤ 11) : Small2 (withF old f) (withF fresh g) := by
  obtain ⟨-, s2⟩ := greatF_small h1
  obtain ⟨-, t2⟩ := greatF_small h2
  have u := (greatF_small h3).2 f (List.mem_singleton.2 rfl)
  have v := (greatF_small h4).2 g (List.mem_singleton.2 rfl)
  have k1 : ∀ x ∈ withF old f, x.path.size ≤ 120 ∧ x.data.size ≤ 200 := fun x hx => by
    rcases withF_mem T1.ord hx with rfl | h
    · exact u
    · exact s2 x h
  have k2 : ∀ x ∈ withF fresh g, x.path.size ≤ 120 ∧ x.data.size ≤ 200 := fun x hx => by
    rcases withF_mem T2.ord hx with rfl | h
    · exact v
    · exact t2 x h
  exact ⟨⟨by omega, fun x hx => by have := k1 x hx; omega⟩, ⟨by omega, fun x hx => by have := k2 x hx; omega⟩, fun x hx => by have := k1 x hx; omega, fun x hx => by have := k2 x hx; omega, by omega⟩
theorem view_elsewhere {old fresh : List OFile} {f g : OFile} {who : ByteArray} (T1 : TreeOk old) (T2 : TreeOk fresh) (hp : f.path.data.toList = g.path.data.toList) (hf : ownF f = false)
    (hs : (ownersM (rulesM old) f.path).any (fun x => memS who x) = false) : viewOf (withF old f) (withF fresh g) who = viewOf old fresh who := by
  unfold viewOf; rw [elsewhere T1 T2 hp hf hs]
theorem not_own {f : OFile} (h : f.path.size < 6 ∨ ((f.path.extract (f.path.size - 6) f.path.size).toList == [79, 87, 78, 69, 82, 83]) = false) : ownF f = false := by
  unfold ownF
  by_cases h6 : f.path.size < 6
  · exact own_short (by rw [sz]; exact h6)
  · rcases h with h | h
    · exact absurd h h6
    · rw [own_tail (by rw [sz]; omega), sz]
      rw [tl, ex_end] at h
      rw [show (f.path.data.toList.drop (f.path.size - 6) == wOwners) = false from h]
      rfl
theorem sized4 {a b c d : List OFile} (h1 : SizedF a) (h2 : SizedF b) (h3 : SizedF c) (h4 : SizedF d) : ∀ fs ∈ [a, b, c, d], SizedF fs := by
  intro fs hf
  simp only [List.mem_cons, List.not_mem_nil, or_false] at hf
  rcases hf with rfl | rfl | rfl | rfl
  · exact h1
  · exact h2
  · exact h3
  · exact h4
theorem any_from {gs : List (List ByteArray)} {who : ByteArray} (h : ∀ (j : Nat) (g : List ByteArray), j < gs.length → gs[j]? = some g → memS who g = false) : gs.any (fun x => memS who x) = false := by
  rw [List.any_eq_false]
  intro g hg
  obtain ⟨i, hi, rfl⟩ := List.getElem_of_mem hg
  rw [h i _ hi (List.getElem?_eq_getElem hi)]; simp
set_option maxRecDepth 100000 in
set_option maxHeartbeats 8000000 in
theorem LApprovalElsewhere_any (v1 : Value) (old : List OFile) (v2 : Value) (fresh : List OFile) (who : ByteArray) (f g : OFile) (w : World) (h1 : Reads w [] (filesT old) v1) (z1 : SizedF old) (h2 : Reads w [] (filesT fresh) v2) (z2 : SizedF fresh) (hz : who.size ≤ 9223372036854775807) (zf : f.path.size ≤ 9223372036854775807 ∧ f.data.size ≤ 9223372036854775807) (zg : g.path.size ≤ 9223372036854775807 ∧ g.data.size ≤ 9223372036854775807) :
    Calls Tryz.prog 7 #[v1, v2, .string who, .agg #[.string f.path, .string f.data], .agg #[.string g.path, .string g.data]] w fun e w' => e = .returned (.bool true) ∧ Below w.heap.size w w' := by
  obtain ⟨a1, cap1, rfl, hc1, hd1⟩ := files_val h1
  obtain ⟨a2, cap2, rfl, hc2, hd2⟩ := files_val h2
  have A1 := qalloc w (.cells #[.string f.path, .string f.data] 55)
  have B1 := CBox.new w 55 #[.string f.path, .string f.data]
  have A2 := qalloc (w.alloc (.cells #[.string f.path, .string f.data] 55)) (.cells #[.string g.path, .string g.data] 55)
  have B2 := CBox.new (w.alloc (.cells #[.string f.path, .string f.data] 55)) 55 #[.string g.path, .string g.data]
  have A3 := qalloc ((w.alloc (.cells #[.string f.path, .string f.data] 55)).alloc (.cells #[.string g.path, .string g.data] 55)) (.cells #[.string f.path, .string f.data] 55)
  have B3 := CBox.new ((w.alloc (.cells #[.string f.path, .string f.data] 55)).alloc (.cells #[.string g.path, .string g.data] 55)) 55 #[.string f.path, .string f.data]
  have A4 := qalloc (((w.alloc (.cells #[.string f.path, .string f.data] 55)).alloc (.cells #[.string g.path, .string g.data] 55)).alloc (.cells #[.string f.path, .string f.data] 55)) (.cells #[.string g.path, .string g.data] 55)
  have B4 := CBox.new (((w.alloc (.cells #[.string f.path, .string f.data] 55)).alloc (.cells #[.string g.path, .string g.data] 55)).alloc (.cells #[.string f.path, .string f.data] 55)) 55 #[.string g.path, .string g.data]
  rw [World.size_alloc] at B2
  rw [World.size_alloc, World.size_alloc] at B3
  rw [World.size_alloc, World.size_alloc, World.size_alloc] at B4
  have A14 := qtrans (qtrans (qtrans A1 A2) A3) A4
  have HG4 := great55_any _ [old, fresh, [f], [g]] _ (four_files (h1.below A14) (h2.below A14) (one_fileG (B3.below A4)) (one_fileG B4)) (sized4 z1 z2 (fun x hx => by rw [List.mem_singleton.1 hx]; exact zf) (fun x hx => by rw [List.mem_singleton.1 hx]; exact zg))
  rw [World.size_alloc, World.size_alloc, World.size_alloc, World.size_alloc] at HG4
  have HG := Lib.hid HG4
  have A5 := qalloc ((((w.alloc (.cells #[.string f.path, .string f.data] 55)).alloc (.cells #[.string g.path, .string g.data] 55)).alloc (.cells #[.string f.path, .string f.data] 55)).alloc (.cells #[.string g.path, .string g.data] 55)) (.cells #[.slice a1 old.length cap1, .slice a2 fresh.length cap2, .slice (some ⟨w.heap.size + 1 + 1, 0, none⟩) 1 1, .slice (some ⟨w.heap.size + 1 + 1 + 1, 0, none⟩) 1 1] 22)
  have hA := qtrans A14 A5
  have H1 := Lib.hid (h1.below hA)
  have H2 := Lib.hid (h2.below hA)
  have HB1 : Hid (CBox (((((w.alloc (.cells #[.string f.path, .string f.data] 55)).alloc (.cells #[.string g.path, .string g.data] 55)).alloc (.cells #[.string f.path, .string f.data] 55)).alloc (.cells #[.string g.path, .string g.data] 55)).alloc (.cells #[.slice a1 old.length cap1, .slice a2 fresh.length cap2, .slice (some ⟨w.heap.size + 1 + 1, 0, none⟩) 1 1, .slice (some ⟨w.heap.size + 1 + 1 + 1, 0, none⟩) 1 1] 22)) w.heap.size 55 #[.string f.path, .string f.data]) := (((B1.below A2).below A3).below A4).below A5
  have HB2 : Hid (CBox (((((w.alloc (.cells #[.string f.path, .string f.data] 55)).alloc (.cells #[.string g.path, .string g.data] 55)).alloc (.cells #[.string f.path, .string f.data] 55)).alloc (.cells #[.string g.path, .string g.data] 55)).alloc (.cells #[.slice a1 old.length cap1, .slice a2 fresh.length cap2, .slice (some ⟨w.heap.size + 1 + 1, 0, none⟩) 1 1, .slice (some ⟨w.heap.size + 1 + 1 + 1, 0, none⟩) 1 1] 22)) (w.heap.size + 1) 55 #[.string g.path, .string g.data]) := ((B2.below A3).below A4).below A5
  clear h1 h2 z1 z2 zf zg A1 B1 A2 B2 A3 B3 A4 B4 A14 A5 HG4
  have f0 := HB1.out.cell (i := 0) rfl
  have f1 := HB1.out.cell (i := 1) rfl
  have fl := HB1.out.lt
  have q0 := HB2.out.cell (i := 0) rfl
  have q1 := HB2.out.cell (i := 1) rfl
  have ql := HB2.out.lt
  cases hg : [old, fresh, [f], [g]].any greatF with
  | true =>
    rw [hg] at HG
    go_enter Tryz.func7, Tryz.ntmps7
    go_wp2_with (fail)
    refine HG.out.mono ?_
    rintro e w0 ⟨rfl, rfl⟩
    go_wp2_with (fail)
    refine (awake55_any _).mono ?_
    rintro e w9 ⟨rfl, hb9⟩
    go_wp2
    go_ret
    exact ⟨rfl, qtrans hA hb9⟩
  | false =>
  rw [hg] at HG
  by_cases hwz : 50 < who.size
  · have hd : decide ((50 : Int) < (who.size : Int)) = true := decide_eq_true (by omega)
    go_enter Tryz.func7, Tryz.ntmps7
    go_wp2_with (fail)
    refine HG.out.mono ?_
    rintro e w0 ⟨rfl, rfl⟩
    go_wp2_with (fail)
    refine (awake55_any _).mono ?_
    rintro e w9 ⟨rfl, hb9⟩
    go_wp2
    go_ret
    exact ⟨rfl, qtrans hA hb9⟩
  have hd : decide ((50 : Int) < (who.size : Int)) = false := decide_eq_false (by omega)
  by_cases ho8 : 8 < old.length
  · have hd2 : decide ((8 : Int) < (old.length : Int)) = true := decide_eq_true (by omega)
    go_enter Tryz.func7, Tryz.ntmps7
    go_wp2_with (fail)
    refine HG.out.mono ?_
    rintro e w0 ⟨rfl, rfl⟩
    go_wp2_with (fail)
    refine (awake55_any _).mono ?_
    rintro e w9 ⟨rfl, hb9⟩
    go_wp2
    go_ret
    exact ⟨rfl, qtrans hA hb9⟩
  have hd2 : decide ((8 : Int) < (old.length : Int)) = false := decide_eq_false (by omega)
  by_cases hf8 : 8 < fresh.length
  · have hd3 : decide ((8 : Int) < (fresh.length : Int)) = true := decide_eq_true (by omega)
    go_enter Tryz.func7, Tryz.ntmps7
    go_wp2_with (fail)
    refine HG.out.mono ?_
    rintro e w0 ⟨rfl, rfl⟩
    go_wp2_with (fail)
    refine (awake55_any _).mono ?_
    rintro e w9 ⟨rfl, hb9⟩
    go_wp2
    go_ret
    exact ⟨rfl, qtrans hA hb9⟩
  have hd3 : decide ((8 : Int) < (fresh.length : Int)) = false := decide_eq_false (by omega)
  cases hpp : (f.path.toList == g.path.toList) with
  | false =>
    go_enter Tryz.func7, Tryz.ntmps7
    go_wp2_with (fail)
    refine HG.out.mono ?_
    rintro e w0 ⟨rfl, rfl⟩
    go_wp2_with (fail)
    refine (awake55_any _).mono ?_
    rintro e w9 ⟨rfl, hb9⟩
    go_wp2
    go_ret
    exact ⟨rfl, qtrans hA hb9⟩
  | true =>
  obtain ⟨g1, g2, g3, g4⟩ := four_great hg
  have hS := great_small2 g1 g2
  have HK1 := Lib.hid (fun W h => r9Check_any (.slice a1 old.length cap1) old W h hS.s1 (fun x hx => (hS.d1 x hx).2))
  have HK2 := Lib.hid (fun W h => r9Check_any (.slice a2 fresh.length cap2) fresh W h hS.s2 (fun x hx => (hS.d2 x hx).2))
  have H1K := Lib.hid (HK1.out _ H1.out)
  by_cases e1 : treeErr old = 0
  rotate_left
  · have hne : (treeErr old != 0) = true := by simpa using e1
    generalize treeErr old = q at *
    go_enter Tryz.func7, Tryz.ntmps7
    go_wp2_with (fail)
    refine HG.out.mono ?_
    rintro e w0 ⟨rfl, rfl⟩
    go_wp2_with (fail)
    refine H1K.out.mono ?_
    rintro e w1 ⟨rfl, hb1⟩
    go_wp2_with (fail)
    refine (awake55_any _).mono ?_
    rintro e w9 ⟨rfl, hb9⟩
    go_wp2
    go_ret
    exact ⟨rfl, qtrans hA (qtrans hb1 hb9)⟩
  have T1 := (treeErr_iff old).1 e1
  rw [e1] at H1K HK1
  by_cases e2 : treeErr fresh = 0
  rotate_left
  · have hne : (treeErr fresh != 0) = true := by simpa using e2
    generalize treeErr fresh = q at *
    go_enter Tryz.func7, Tryz.ntmps7
    go_wp2_with (fail)
    refine HG.out.mono ?_
    rintro e w0 ⟨rfl, rfl⟩
    go_wp2_with (fail)
    refine H1K.out.mono ?_
    rintro e w1 ⟨rfl, hb1⟩
    go_wp2_with (fail)
    refine (HK2.out w1 (H2.out.below hb1)).mono ?_
    rintro e w2 ⟨rfl, hb2⟩
    go_wp2_with (fail)
    refine (awake55_any _).mono ?_
    rintro e w9 ⟨rfl, hb9⟩
    go_wp2
    go_ret
    exact ⟨rfl, qtrans hA (qtrans hb1 (qtrans hb2 hb9))⟩
  have T2 := (treeErr_iff fresh).1 e2
  rw [e2] at HK2
  have et : treesErr old fresh = 0 := by unfold treesErr; rw [if_pos e1]; exact e2
  have hp : f.path.data.toList = g.path.data.toList := by rw [← tl, ← tl]; exact beq_iff_eq.1 hpp
  have hfz := (greatF_small g3).2 f (List.mem_singleton.2 rfl)
  have HGR := Lib.hid (fun W h => rGroups_any (.slice a1 old.length cap1) old f.path W h hS.s1 (fun x hx => (hS.d1 x hx).2) (by omega))
  have HGO := Lib.hid (fun h => groupsOf_own (p := f.path) T1 h)
  have HGL := Lib.hid (fun p x (hx : x ∈ ownersM (rulesM old) p) => (ownersM_good (rulesM_good old) p x hx).len)
  have HGN := Lib.hid (fun p => ownersM_len (rulesM_good old) p)
  have l1 : (withF old f).length ≤ 11 := by have := with_len f false old; unfold withF; omega
  have l2 : (withF fresh g).length ≤ 11 := by have := with_len g false fresh; unfold withF; omega
  have hX := with_small2 g1 g2 g3 g4 T1 T2 l1 l2
  have HS1 := Lib.hid (fun W h1 h2 => Saw_any (.slice a1 old.length cap1) (.slice a2 fresh.length cap2) old fresh who W h1 h2 hS.s1 hS.s2 hS.len)
  have HS2 := Lib.hid (fun v1 v2 W h1 h2 => Saw_any v1 v2 (withF old f) (withF fresh g) who W h1 h2 hX.s1 hX.s2 hX.len)
  have HX1 := Lib.hid (fun v W h => r9Check_any v (withF old f) W h hX.s1 (fun x hx => (hX.d1 x hx).2))
  have HX2 := Lib.hid (fun v W h => r9Check_any v (withF fresh g) W h hX.s2 (fun x hx => (hX.d2 x hx).2))
  have HW1 := Lib.hid (fun W h => r9With_any (.slice a1 old.length cap1) old f W h (by omega))
  have HW2 := Lib.hid (fun W h => r9With_any (.slice a2 fresh.length cap2) fresh g W h (by omega))
  have HSW : Hid (sawOf old fresh who = (viewOf old fresh who, 0)) := by refine Lib.hid ?_; unfold sawOf; rw [if_pos et]
  rw [HSW.out] at HS1
  have HVE := Lib.hid (fun (hf : ownF f = false) hs => view_elsewhere (who := who) T1 T2 hp hf hs)
  have HNO := Lib.hid (fun h => not_own (f := f) h)
  have HSX : Hid (sawOf (withF old f) (withF fresh g) who = if treesErr (withF old f) (withF fresh g) = 0 then (viewOf (withF old f) (withF fresh g) who, 0) else (⟨#[]⟩, treesErr (withF old f) (withF fresh g))) := rfl
  have HTE : Hid (treesErr (withF old f) (withF fresh g) = if treeErr (withF old f) = 0 then treeErr (withF fresh g) else treeErr (withF old f)) := rfl
  have hfz1 := hfz.1
  clear hS hX g1 g2 g3 g4 hg et e1 e2 T1 T2 hfz HSW
  go_enter Tryz.func7, Tryz.ntmps7
  go_wp2_with (fail)
  refine HG.out.mono ?_
  rintro e w0 ⟨rfl, rfl⟩
  go_wp2_with (fail)
  refine H1K.out.mono ?_
  rintro e w1 ⟨rfl, hb1⟩
  go_wp2_with (fail)
  refine (HK2.out w1 (H2.out.below hb1)).mono ?_
  rintro e w2 ⟨rfl, hb2⟩
  have hb12 := qtrans hb1 hb2
  have HB12 := Lib.hid (HB1.out.below hb12)
  have HB22 := Lib.hid (HB2.out.below hb12)
  have H12 := Lib.hid (H1.out.below hb12)
  have H22 := Lib.hid (H2.out.below hb12)
  have hb02 := qtrans hA hb12
  clear f0 f1 fl q0 q1 ql HB1 HB2 H1 H2 hb1 hb2 hb12 hA HG H1K HK1 HK2
  have f0 := HB12.out.cell (i := 0) rfl
  have fl := HB12.out.lt
  generalize hgo : groupsOf old f.path = go at *
  obtain ⟨gl, ge⟩ := go
  go_wp2_with (fail)
  refine (HGR.out w2 H12.out).mono ?_
  rintro e w3 ⟨gv, rfl, rg, hb3⟩
  simp only [] at rg
  obtain ⟨ga, gc, rfl, -, -⟩ := groups_val rg
  have RG := Lib.hid rg
  have HB13 := Lib.hid (HB12.out.below hb3)
  have HB23 := Lib.hid (HB22.out.below hb3)
  have H13 := Lib.hid (H12.out.below hb3)
  have H23 := Lib.hid (H22.out.below hb3)
  have hb03 := qtrans hb02 hb3
  clear f0 fl HB12 HB22 H12 H22 hb3 hb02 rg HGR
  have f0 := HB13.out.cell (i := 0) rfl
  have f1 := HB13.out.cell (i := 1) rfl
  have fl := HB13.out.lt
  by_cases ege : ge = 0
  rotate_left
  · have hne : (ge != 0) = true := by simpa using ege
    go_wp2_with (fail)
    refine (awake55_any _).mono ?_
    rintro e w9 ⟨rfl, hb9⟩
    go_wp2
    go_ret
    exact ⟨rfl, qtrans hb03 hb9⟩
  subst ege
  have hgl : gl = ownersM (rulesM old) f.path := HGO.out rfl
  have HGLL : Hid (∀ x ∈ gl, x.length ≤ 20) := by rw [hgl]; exact HGL.out _
  have hgn : gl.length ≤ 8 := by rw [hgl]; exact HGN.out _
  have HGE := Lib.hid hgl
  clear hgl HGO HGL HGN
  by_cases h6 : 6 ≤ f.path.size
  · have hd6 : decide ((6 : Int) ≤ (f.path.size : Int)) = true := decide_eq_true (by omega)
    obtain ⟨n, hna, hnb⟩ : ∃ n, f.path.size ≤ n + 6 ∧ n + 6 ≤ f.path.size := ⟨f.path.size - 6, by omega, by omega⟩
    have hw : IntKind.i64.wrap ((f.path.size : Int) - 6) = (n : Int) := by rw [show (f.path.size : Int) - 6 = (n : Int) by omega]; exact IntWalk.i64_in _ (by omega)
    have hn0 : (0 : Int) ≤ (n : Int) := by omega
    have hn1 : (n : Int) ≤ (f.path.size : Int) := by omega
    have hnn : f.path.size - 6 = n := by omega
    rw [hnn] at HNO
    cases ht : ((f.path.extract n f.path.size).toList == [79, 87, 78, 69, 82, 83]) with
    | true =>
      go_wp2_with (fail)
      refine (awake55_any _).mono ?_
      rintro e w9 ⟨rfl, hb9⟩
      go_wp2
      go_ret
      exact ⟨rfl, qtrans hb03 hb9⟩
    | false =>
      have HOWN := Lib.hid (HNO.out (.inr ht))
      have RGL := Lib.hid HGLL.out
      go_wp2
      go_loop [90] (fun i => ∃ j : Nat, j ≤ gl.length ∧ i = .int .i64 j ∧ Hid (∀ (k : Nat) (x : List ByteArray), k < j → gl[k]? = some x → memS who x = false)) (fun i => gl.length - (intOf i).toNat)
      case atStart => exact ⟨0, Nat.zero_le _, rfl, fun k x hk => by omega⟩
      case round =>
        obtain ⟨j, hj, rfl, HK⟩ := hrel
        have hj0 : (0 : Int) ≤ (j : Int) := by omega
        by_cases hjl : j < gl.length
        · obtain ⟨x, hx⟩ : ∃ x, gl[j]? = some x := ⟨_, List.getElem?_eq_getElem hjl⟩
          obtain ⟨b3, o3, ag, cg, rfl, hb3', c3, q1', q2', HRG⟩ := groups_elem RG.out hx
          have hj1 : (j : Int) < (gl.length : Int) := by omega
          have HHA := Lib.hid (rHas_any (.slice ag x.length cg) who x w3 HRG.out (by have := RGL.out x (List.mem_of_getElem? hx); omega))
          have HF : Hid (memS who x = false → ∀ (k : Nat) (y : List ByteArray), k < j + 1 → gl[k]? = some y → memS who y = false) := fun e k y hk hy => by
            by_cases ek : k = j
            · rw [ek, hx] at hy; cases hy; exact e
            · exact HK.out k y (by omega) hy
          clear hx
          cases hm : memS who x with
          | true =>
            rw [hm] at HHA
            go_wp2_with (fail)
            refine HHA.out.mono ?_
            rintro e w' ⟨rfl, rfl⟩
            go_wp2_with (fail)
            refine (awake55_any _).mono ?_
            rintro e w9 ⟨rfl, hb9⟩
            go_wp2
            go_ret
            exact ⟨rfl, qtrans hb03 hb9⟩
          | false =>
            have H := Lib.hid (HF.out hm)
            rw [hm] at HHA
            go_wp2_with (fail)
            refine HHA.out.mono ?_
            rintro e w' ⟨rfl, rfl⟩
            go_wp2
            go_round
            case rel => exact ⟨j + 1, by omega, by go_num, H⟩
            case measure => simp [intOf]; omega
        · have HV : Hid (viewOf (withF old f) (withF fresh g) who = viewOf old fresh who) := HVE.out HOWN.out (by rw [← HGE.out]; exact any_from (fun k x hk hx => HK.out k x (by omega) hx))
          clear HVE HNO HGE RG RGL HGLL
          go_wp2_with (fail)
          have hbd := hb03.drew
          have hyq : (fun W : World => W.cell? ⟨w.heap.size, 0, none⟩ = some (.string f.path) ∧ W.cell? ⟨w.heap.size, 1, none⟩ = some (.string f.data) ∧ W.cell? ⟨w.heap.size + 1, 0, none⟩ = some (.string g.path) ∧ W.cell? ⟨w.heap.size + 1, 1, none⟩ = some (.string g.data)) w3.drew := ⟨HB13.out.cell (i := 0) rfl, HB13.out.cell (i := 1) rfl, HB23.out.cell (i := 0) rfl, HB23.out.cell (i := 1) rfl⟩
          have HB1d := Lib.hid (HB13.out.below (qrefl w3).drew)
          have HB2d := Lib.hid (HB23.out.below (qrefl w3).drew)
          have H1d := Lib.hid (H13.out.below (qrefl w3).drew)
          have H2d := Lib.hid (H23.out.below (qrefl w3).drew)
          refine wp_region_noPanic (region_ordT (fun W => W.cell? ⟨w.heap.size, 0, none⟩ = some (.string f.path) ∧ W.cell? ⟨w.heap.size, 1, none⟩ = some (.string f.data) ∧ W.cell? ⟨w.heap.size + 1, 0, none⟩ = some (.string g.path) ∧ W.cell? ⟨w.heap.size + 1, 1, none⟩ = some (.string g.data)) 6 [(true, 0), (true, 1), (true, 3), (true, 4), (false, 2), (false, 5)] mixedK (by kernel_rfl) (fun _ _ _ _ _ h => h) hyq (fun hHeld => ?_))
          clear hyq HB13 HB23 H13 H23 f0 f1 fl
          generalize w3.drew = wd at *
          iterate 4 (first | (refine ordT_skip rfl (by rfl) ?_; (try simp only [List.getElem_toArray, List.getElem_cons_succ, List.getElem_cons_zero, Act.put, List.setIfInBounds_toArray, List.set_cons_zero, List.set_cons_succ])) | (refine ordT_take (v := ?_) rfl (by rfl) ?_ ?_; rotate_left; (focus (intro wq hSw; (try dsimp only at hSw); go_simp; (try rw [if_neg (by first | omega | (simp; omega))]); (try with_reducible rfl))); (try simp only [List.getElem_toArray, List.getElem_cons_succ, List.getElem_cons_zero, Act.put, List.setIfInBounds_toArray, List.set_cons_zero, List.set_cons_succ])))
          (refine ordT_do rfl (by rfl) (fun K hK => ?_); go_simp)
          refine (HW1.out wd H1d.out).mono ?_
          rintro e w4 ⟨xv, rfl, hx, hb4⟩
          (try go_simp)
          have HB14 := Lib.hid (HB1d.out.below hb4)
          have HB24 := Lib.hid (HB2d.out.below hb4)
          refine hK.out _ _ ⟨HB14.out.cell (i := 0) rfl, HB14.out.cell (i := 1) rfl, HB24.out.cell (i := 0) rfl, HB24.out.cell (i := 1) rfl⟩ (fun hHeld1 => ?_)
          clear hK K hHeld
          (try simp only [List.getElem_toArray, List.getElem_cons_succ, List.getElem_cons_zero, Act.put, List.setIfInBounds_toArray, List.set_cons_zero, List.set_cons_succ])
          (refine ordT_do rfl (by rfl) (fun K hK => ?_); go_simp)
          refine (HW2.out w4 (H2d.out.below hb4)).mono ?_
          rintro e w5 ⟨yv, rfl, hy, hb5⟩
          (try go_simp)
          have HB15 := Lib.hid (HB14.out.below hb5)
          have HB25 := Lib.hid (HB24.out.below hb5)
          refine hK.out _ _ ⟨HB15.out.cell (i := 0) rfl, HB15.out.cell (i := 1) rfl, HB25.out.cell (i := 0) rfl, HB25.out.cell (i := 1) rfl⟩ (fun hHeld2 => ?_)
          clear hK K hHeld1
          (try simp only [List.getElem_toArray, List.getElem_cons_succ, List.getElem_cons_zero, Act.put, List.setIfInBounds_toArray, List.set_cons_zero, List.set_cons_succ])
          refine ordT_end ?_
          have HX5 := Lib.hid (hx.reads.below hb5)
          have HY5 := Lib.hid hy.reads
          obtain ⟨xa, xc, rfl⟩ := hx.val
          obtain ⟨ya, yc, rfl⟩ := hy.val
          have hb45 := qtrans hb4 hb5
          have H15 := Lib.hid (H1d.out.below hb45)
          have H25 := Lib.hid (H2d.out.below hb45)
          have hb05 := qtrans hbd hb45
          clear hx hy HB14 HB24 HB15 HB25 H1d H2d HB1d HB2d hbd hb4 hb5 hb45 hHeld2 HW1 HW2
          go_wp2_with (fail)
          refine NoPanic.normal ?_
          have HCH1 := Lib.hid (HX1.out (.slice xa (withF old f).length xc))
          have HCH2 := Lib.hid (HX2.out (.slice ya (withF fresh g).length yc))
          obtain ⟨sv, se, HSV⟩ : ∃ (sv : ByteArray) (se : Int), Hid (sawOf (withF old f) (withF fresh g) who = (sv, se)) := ⟨_, _, Lib.hid rfl⟩
          rw [HSV.out] at HS2
          have HFIN : Hid (treeErr (withF old f) = 0 → treeErr (withF fresh g) = 0 → sv = viewOf old fresh who ∧ se = 0) := fun h1 h2 => by
            have e3 : treesErr (withF old f) (withF fresh g) = 0 := by rw [HTE.out, if_pos h1]; exact h2
            have e4 := HSV.out
            rw [HSX.out, if_pos e3, HV.out] at e4
            cases e4
            exact ⟨rfl, rfl⟩
          clear HSV HSX HTE HV HX1 HX2
          generalize viewOf old fresh who = vw at *
          generalize treeErr (withF old f) = tx at *
          generalize treeErr (withF fresh g) = ty at *
          generalize withF old f = xl at *
          generalize withF fresh g = yl at *
          go_wp2_with (fail)
          refine (HS1.out w5 H15.out H25.out).mono ?_
          rintro e w6 ⟨rfl, hb6⟩
          go_wp2_with (fail)
          refine (HS2.out _ _ w6 (HX5.out.below hb6) (HY5.out.below hb6)).mono ?_
          rintro e w7 ⟨rfl, hb7⟩
          have hb57 := qtrans hb6 hb7
          have HX7 := Lib.hid (HX5.out.below hb57)
          have HY7 := Lib.hid (HY5.out.below hb57)
          have hb07 := qtrans hb05 hb57
          clear HX5 HY5 H15 H25 hb6 hb7 hb57 hb05 HS1 HS2
          by_cases ex : tx = 0
          · subst ex
            by_cases ey : ty = 0
            · subst ey
              obtain ⟨rfl, rfl⟩ := HFIN.out rfl rfl
              have hvv : (sv.toList == sv.toList) = true := by simp
              go_wp2_with (fail)
              refine (HCH1.out w7 HX7.out).mono ?_
              rintro e w8 ⟨rfl, hb8⟩
              go_wp2_with (fail)
              refine (HCH2.out w8 (HY7.out.below hb8)).mono ?_
              rintro e w9 ⟨rfl, hb9⟩
              have hb09 := qtrans hb07 (qtrans hb8 hb9)
              clear HCH1 HCH2 HX7 HY7 hb8 hb9 hb07
              go_wp2_with (fail)
              refine (awake55_any _).mono ?_
              rintro e w10 ⟨rfl, hb10⟩
              go_wp2
              go_ret
              exact ⟨rfl, qtrans hb09 hb10⟩
            · have hne : (ty != 0) = true := by simpa using ey
              go_wp2_with (fail)
              refine (HCH1.out w7 HX7.out).mono ?_
              rintro e w8 ⟨rfl, hb8⟩
              go_wp2_with (fail)
              refine (HCH2.out w8 (HY7.out.below hb8)).mono ?_
              rintro e w9 ⟨rfl, hb9⟩
              have hb09 := qtrans hb07 (qtrans hb8 hb9)
              go_wp2_with (fail)
              refine (awake55_any _).mono ?_
              rintro e w10 ⟨rfl, hb10⟩
              go_wp2
              go_ret
              exact ⟨rfl, qtrans hb09 hb10⟩
          · have hne : (tx != 0) = true := by simpa using ex
            go_wp2_with (fail)
            refine (HCH1.out w7 HX7.out).mono ?_
            rintro e w8 ⟨rfl, hb8⟩
            have hb08 := qtrans hb07 hb8
            go_wp2_with (fail)
            refine (awake55_any _).mono ?_
            rintro e w10 ⟨rfl, hb10⟩
            go_wp2
            go_ret
            exact ⟨rfl, qtrans hb08 hb10⟩
  · have hd6 : decide ((6 : Int) ≤ (f.path.size : Int)) = false := decide_eq_false (by omega)
    have HOWN := Lib.hid (HNO.out (.inl (by omega)))
    have RGL := Lib.hid HGLL.out
    go_wp2
    go_loop [90] (fun i => ∃ j : Nat, j ≤ gl.length ∧ i = .int .i64 j ∧ Hid (∀ (k : Nat) (x : List ByteArray), k < j → gl[k]? = some x → memS who x = false)) (fun i => gl.length - (intOf i).toNat)
    case atStart => exact ⟨0, Nat.zero_le _, rfl, fun k x hk => by omega⟩
    case round =>
      obtain ⟨j, hj, rfl, HK⟩ := hrel
      have hj0 : (0 : Int) ≤ (j : Int) := by omega
      by_cases hjl : j < gl.length
      · obtain ⟨x, hx⟩ : ∃ x, gl[j]? = some x := ⟨_, List.getElem?_eq_getElem hjl⟩
        obtain ⟨b3, o3, ag, cg, rfl, hb3', c3, q1', q2', HRG⟩ := groups_elem RG.out hx
        have hj1 : (j : Int) < (gl.length : Int) := by omega
        have HHA := Lib.hid (rHas_any (.slice ag x.length cg) who x w3 HRG.out (by have := RGL.out x (List.mem_of_getElem? hx); omega))
        have HF : Hid (memS who x = false → ∀ (k : Nat) (y : List ByteArray), k < j + 1 → gl[k]? = some y → memS who y = false) := fun e k y hk hy => by
          by_cases ek : k = j
          · rw [ek, hx] at hy; cases hy; exact e
          · exact HK.out k y (by omega) hy
        clear hx
        cases hm : memS who x with
        | true =>
          rw [hm] at HHA
          go_wp2_with (fail)
          refine HHA.out.mono ?_
          rintro e w' ⟨rfl, rfl⟩
          go_wp2_with (fail)
          refine (awake55_any _).mono ?_
          rintro e w9 ⟨rfl, hb9⟩
          go_wp2
          go_ret
          exact ⟨rfl, qtrans hb03 hb9⟩
        | false =>
          have H := Lib.hid (HF.out hm)
          rw [hm] at HHA
          go_wp2_with (fail)
          refine HHA.out.mono ?_
          rintro e w' ⟨rfl, rfl⟩
          go_wp2
          go_round
          case rel => exact ⟨j + 1, by omega, by go_num, H⟩
          case measure => simp [intOf]; omega
      · have HV : Hid (viewOf (withF old f) (withF fresh g) who = viewOf old fresh who) := HVE.out HOWN.out (by rw [← HGE.out]; exact any_from (fun k x hk hx => HK.out k x (by omega) hx))
        clear HVE HNO HGE RG RGL HGLL
        go_wp2_with (fail)
        have hbd := hb03.drew
        have hyq : (fun W : World => W.cell? ⟨w.heap.size, 0, none⟩ = some (.string f.path) ∧ W.cell? ⟨w.heap.size, 1, none⟩ = some (.string f.data) ∧ W.cell? ⟨w.heap.size + 1, 0, none⟩ = some (.string g.path) ∧ W.cell? ⟨w.heap.size + 1, 1, none⟩ = some (.string g.data)) w3.drew := ⟨HB13.out.cell (i := 0) rfl, HB13.out.cell (i := 1) rfl, HB23.out.cell (i := 0) rfl, HB23.out.cell (i := 1) rfl⟩
        have HB1d := Lib.hid (HB13.out.below (qrefl w3).drew)
        have HB2d := Lib.hid (HB23.out.below (qrefl w3).drew)
        have H1d := Lib.hid (H13.out.below (qrefl w3).drew)
        have H2d := Lib.hid (H23.out.below (qrefl w3).drew)
        refine wp_region_noPanic (region_ordT (fun W => W.cell? ⟨w.heap.size, 0, none⟩ = some (.string f.path) ∧ W.cell? ⟨w.heap.size, 1, none⟩ = some (.string f.data) ∧ W.cell? ⟨w.heap.size + 1, 0, none⟩ = some (.string g.path) ∧ W.cell? ⟨w.heap.size + 1, 1, none⟩ = some (.string g.data)) 6 [(true, 0), (true, 1), (true, 3), (true, 4), (false, 2), (false, 5)] mixedK (by kernel_rfl) (fun _ _ _ _ _ h => h) hyq (fun hHeld => ?_))
        clear hyq HB13 HB23 H13 H23 f0 f1 fl
        generalize w3.drew = wd at *
        iterate 4 (first | (refine ordT_skip rfl (by rfl) ?_; (try simp only [List.getElem_toArray, List.getElem_cons_succ, List.getElem_cons_zero, Act.put, List.setIfInBounds_toArray, List.set_cons_zero, List.set_cons_succ])) | (refine ordT_take (v := ?_) rfl (by rfl) ?_ ?_; rotate_left; (focus (intro wq hSw; (try dsimp only at hSw); go_simp; (try rw [if_neg (by first | omega | (simp; omega))]); (try with_reducible rfl))); (try simp only [List.getElem_toArray, List.getElem_cons_succ, List.getElem_cons_zero, Act.put, List.setIfInBounds_toArray, List.set_cons_zero, List.set_cons_succ])))
        (refine ordT_do rfl (by rfl) (fun K hK => ?_); go_simp)
        refine (HW1.out wd H1d.out).mono ?_
        rintro e w4 ⟨xv, rfl, hx, hb4⟩
        (try go_simp)
        have HB14 := Lib.hid (HB1d.out.below hb4)
        have HB24 := Lib.hid (HB2d.out.below hb4)
        refine hK.out _ _ ⟨HB14.out.cell (i := 0) rfl, HB14.out.cell (i := 1) rfl, HB24.out.cell (i := 0) rfl, HB24.out.cell (i := 1) rfl⟩ (fun hHeld1 => ?_)
        clear hK K hHeld
        (try simp only [List.getElem_toArray, List.getElem_cons_succ, List.getElem_cons_zero, Act.put, List.setIfInBounds_toArray, List.set_cons_zero, List.set_cons_succ])
        (refine ordT_do rfl (by rfl) (fun K hK => ?_); go_simp)
        refine (HW2.out w4 (H2d.out.below hb4)).mono ?_
        rintro e w5 ⟨yv, rfl, hy, hb5⟩
        (try go_simp)
        have HB15 := Lib.hid (HB14.out.below hb5)
        have HB25 := Lib.hid (HB24.out.below hb5)
        refine hK.out _ _ ⟨HB15.out.cell (i := 0) rfl, HB15.out.cell (i := 1) rfl, HB25.out.cell (i := 0) rfl, HB25.out.cell (i := 1) rfl⟩ (fun hHeld2 => ?_)
        clear hK K hHeld1
        (try simp only [List.getElem_toArray, List.getElem_cons_succ, List.getElem_cons_zero, Act.put, List.setIfInBounds_toArray, List.set_cons_zero, List.set_cons_succ])
        refine ordT_end ?_
        have HX5 := Lib.hid (hx.reads.below hb5)
        have HY5 := Lib.hid hy.reads
        obtain ⟨xa, xc, rfl⟩ := hx.val
        obtain ⟨ya, yc, rfl⟩ := hy.val
        have hb45 := qtrans hb4 hb5
        have H15 := Lib.hid (H1d.out.below hb45)
        have H25 := Lib.hid (H2d.out.below hb45)
        have hb05 := qtrans hbd hb45
        clear hx hy HB14 HB24 HB15 HB25 H1d H2d HB1d HB2d hbd hb4 hb5 hb45 hHeld2 HW1 HW2
        go_wp2_with (fail)
        refine NoPanic.normal ?_
        have HCH1 := Lib.hid (HX1.out (.slice xa (withF old f).length xc))
        have HCH2 := Lib.hid (HX2.out (.slice ya (withF fresh g).length yc))
        obtain ⟨sv, se, HSV⟩ : ∃ (sv : ByteArray) (se : Int), Hid (sawOf (withF old f) (withF fresh g) who = (sv, se)) := ⟨_, _, Lib.hid rfl⟩
        rw [HSV.out] at HS2
        have HFIN : Hid (treeErr (withF old f) = 0 → treeErr (withF fresh g) = 0 → sv = viewOf old fresh who ∧ se = 0) := fun h1 h2 => by
          have e3 : treesErr (withF old f) (withF fresh g) = 0 := by rw [HTE.out, if_pos h1]; exact h2
          have e4 := HSV.out
          rw [HSX.out, if_pos e3, HV.out] at e4
          cases e4
          exact ⟨rfl, rfl⟩
        clear HSV HSX HTE HV HX1 HX2
        generalize viewOf old fresh who = vw at *
        generalize treeErr (withF old f) = tx at *
        generalize treeErr (withF fresh g) = ty at *
        generalize withF old f = xl at *
        generalize withF fresh g = yl at *
        go_wp2_with (fail)
        refine (HS1.out w5 H15.out H25.out).mono ?_
        rintro e w6 ⟨rfl, hb6⟩
        go_wp2_with (fail)
        refine (HS2.out _ _ w6 (HX5.out.below hb6) (HY5.out.below hb6)).mono ?_
        rintro e w7 ⟨rfl, hb7⟩
        have hb57 := qtrans hb6 hb7
        have HX7 := Lib.hid (HX5.out.below hb57)
        have HY7 := Lib.hid (HY5.out.below hb57)
        have hb07 := qtrans hb05 hb57
        clear HX5 HY5 H15 H25 hb6 hb7 hb57 hb05 HS1 HS2
        by_cases ex : tx = 0
        · subst ex
          by_cases ey : ty = 0
          · subst ey
            obtain ⟨rfl, rfl⟩ := HFIN.out rfl rfl
            have hvv : (sv.toList == sv.toList) = true := by simp
            go_wp2_with (fail)
            refine (HCH1.out w7 HX7.out).mono ?_
            rintro e w8 ⟨rfl, hb8⟩
            go_wp2_with (fail)
            refine (HCH2.out w8 (HY7.out.below hb8)).mono ?_
            rintro e w9 ⟨rfl, hb9⟩
            have hb09 := qtrans hb07 (qtrans hb8 hb9)
            clear HCH1 HCH2 HX7 HY7 hb8 hb9 hb07
            go_wp2_with (fail)
            refine (awake55_any _).mono ?_
            rintro e w10 ⟨rfl, hb10⟩
            go_wp2
            go_ret
            exact ⟨rfl, qtrans hb09 hb10⟩
          · have hne : (ty != 0) = true := by simpa using ey
            go_wp2_with (fail)
            refine (HCH1.out w7 HX7.out).mono ?_
            rintro e w8 ⟨rfl, hb8⟩
            go_wp2_with (fail)
            refine (HCH2.out w8 (HY7.out.below hb8)).mono ?_
            rintro e w9 ⟨rfl, hb9⟩
            have hb09 := qtrans hb07 (qtrans hb8 hb9)
            go_wp2_with (fail)
            refine (awake55_any _).mono ?_
            rintro e w10 ⟨rfl, hb10⟩
            go_wp2
            go_ret
            exact ⟨rfl, qtrans hb09 hb10⟩
        · have hne : (tx != 0) = true := by simpa using ex
          go_wp2_with (fail)
          refine (HCH1.out w7 HX7.out).mono ?_
          rintro e w8 ⟨rfl, hb8⟩
          have hb08 := qtrans hb07 hb8
          go_wp2_with (fail)
          refine (awake55_any _).mono ?_
          rintro e w10 ⟨rfl, hb10⟩
          go_wp2
          go_ret
          exact ⟨rfl, qtrans hb08 hb10⟩
end Go.Proofs.YtidkpnabdfiilaaGreatDoor
