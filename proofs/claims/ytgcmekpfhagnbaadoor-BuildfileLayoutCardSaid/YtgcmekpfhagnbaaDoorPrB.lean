/- buildfile.Print. -/
import Derived.Test.YtgcmekpfhagnbaaDoorPrA
namespace Go.Proofs.YtgcmekpfhagnbaaDoor
open Go.RowKit

def PrintPost (x : ByteArray × Int) (w : World) (e : Ending) (w' : World) : Prop := e = .returned (.tuple #[.string x.1, .int .i64 x.2]) ∧ Below w.heap.size w w'
theorem isB_byte {T : TypeId} {B b : Nat} {p : Value} {l : List UInt8} {s : ByteArray} {w : World} (h : Lib.BuilderAt T 5 B b (.pointer (some ⟨b, 0, none⟩)) (Lib.byteCells l ++ Lib.strCells s) w) (_hp : p = p) : Lib.IsBuilder T 5 B b (Lib.byteCells (l ++ s.data.toList)) w := by
  rw [Lib.byteCells_append, ← Lib.strCells_eq]
  exact .inr h
theorem isB_below {T : TypeId} {B b : Nat} {bs : List Value} {w w' : World} (h : Lib.IsBuilder T 5 B b bs w) (m : Below w.heap.size w w') : Lib.IsBuilder T 5 B b bs w' := by
  have key : ∀ p, Lib.BuilderAt T 5 B b p bs w → Lib.BuilderAt T 5 B b p bs w' := fun p h => by
    obtain ⟨h1, v, h2, h3, h4⟩ := h
    exact ⟨h1, v, (m.block b (Array.getElem?_eq_some_iff.1 h2).1).trans h2, owns_below h3 m, h4⟩
  exact h.elim (fun h => .inl (key _ h)) (fun h => .inr (key _ h))
theorem strs_cells {w : World} {b o n c : Nat} {ss : List ByteArray} (h : Strs w (.slice (some ⟨b, o, none⟩) n c) ss) : ∀ j u, (ss.map Value.string)[j]? = some u → w.cell? ((⟨b, o, none⟩ : Addr).add j) = some u := by
  obtain ⟨_, a, cap, e, _, _, h3⟩ := h
  cases e
  intro j u hj
  have hlt : j < ss.length := by have := (List.getElem?_eq_some_iff.1 hj).1; simpa using this
  obtain ⟨b', o', e', _, hc⟩ := h3 (by omega)
  cases e'
  have := hc j u hj
  by_cases h0 : j = 0
  · subst h0; simpa [Addr.add] using this
  · simpa [Addr.add, h0] using this

theorem strs_first {w : World} {b o n c : Nat} {ss : List ByteArray} (h : Strs w (.slice (some ⟨b, o, none⟩) n c) ss) (hn : 0 < n) : b < w.heap.size ∧ n ≤ c := by
  obtain ⟨_, a, cap, e, h1, _, h3⟩ := h
  cases e
  obtain ⟨b', o', e', hb, _⟩ := h3 hn
  cases e'
  exact ⟨hb, h1⟩
set_option maxRecDepth 100000 in
set_option maxHeartbeats 4000000 in
theorem Print_any (v : Value) (rs : List Rule) (w : World) (hr : IsRules w v rs) (hs : SmallRs rs) (hn : rs.length ≤ 40000) :
    Calls Tryd.prog 20 #[v] w (PrintPost (printR rs) w) := by
  obtain ⟨a, cap, rfl, h1, h2⟩ := hr.val
  have HR := Lib.hid hr
  clear hr
  obtain ⟨i0, hi, hz0, hz1, hz2⟩ := info_parts infoStr
  by_cases hce : checkErr rs = 0
  · obtain ⟨hlen, hall⟩ := checkErr_ok hce
    have HF : Hid (printR rs = (⟨(textOf rs).toArray⟩, 0)) := by show _ = _; unfold printR; rw [if_pos hce]
    have HALL : Hid (∀ r ∈ rs, SmallR r ∧ r.deps.length ≤ 20 ∧ r.vis.length ≤ 20) := fun r hr => ⟨hs.all r hr, ruleErr_len (hall r hr)⟩
    have hce' : (checkErr rs != 0) = false := by simp [hce]
    clear hce hall
    go_enter Tryd.func20, Tryd.ntmps20
    go_wp2_with (go_at_call 22; refine (Check_any _ rs _ HR.out hs hn).mono ?_; rintro e w1 ⟨rfl, hb1⟩)
    have HR1 := Lib.hid (HR.out.below hb1)
    have hB0 := Lib.fresh_isBuilder 68 5 w1
    have hBe := qalloc w1 (.cells #[.pointer none, .slice none 0 0] 68)
    have hBz : w1.heap.size + 1 ≤ (w1.alloc (.cells #[.pointer none, .slice none 0 0] 68)).heap.size := by simp
    generalize w1.alloc (.cells #[.pointer none, .slice none 0 0] 68) = W0 at *
    clear HR
    go_loopw [16] (fun iv wr => ∃ k : Nat, k ≤ rs.length ∧ iv = .int .i64 k ∧ Hid (Lib.IsBuilder 68 5 w1.heap.size w1.heap.size (Lib.byteCells (textOf (rs.take k))) wr) ∧ Below w1.heap.size w1 wr ∧ w1.heap.size + 1 ≤ wr.heap.size) (fun iv _ => rs.length - (intOf iv).toNat)
    case atStart => exact ⟨0, Nat.zero_le _, rfl, hB0, hBe, hBz⟩
    case round =>
      obtain ⟨k, hk, rfl, HB, hbl, hz⟩ := hrel
      clear hB0 hBe hBz
      clear W0
      by_cases hlt : k < rs.length
      · obtain ⟨r, hrk⟩ : ∃ r, rs[k]? = some r := ⟨_, List.getElem?_eq_getElem hlt⟩
        have HTX := Lib.hid (textOf_snoc hrk)
        obtain ⟨b, o, ad, cd, av, cv, rfl, hbb, c0, c1, c2, c3, sd, sv⟩ := (HR1.out.below hbl).elem hrk
        obtain ⟨hsm, hdl, hvl⟩ := HALL.out r (by obtain ⟨hk', e⟩ := List.getElem?_eq_some_iff.1 hrk; rw [← e]; exact List.getElem_mem hk')
        have hjl := joined_len hsm ⟨hdl, hvl⟩
        have hpl := wordsR_len (r := r) ⟨hdl, hvl⟩
        have htl : (textOf (rs.take k)).length ≤ 180004600 := by
          have := textOf_len (rs := rs.take k) (fun q hq => HALL.out q (List.mem_of_mem_take hq))
          rw [List.length_take] at this
          have h3 : min k rs.length * 1800046 ≤ 100 * 1800046 := Nat.mul_le_mul_right _ (by omega)
          omega
        clear hrk
        go_upto_if 25 with (fail)
        go_cut [8, 16] from 17 to 54 (fun s8 s16 wx => s16 = .int .i64 k ∧ PSt wr wx s8 [kindB r.kind, r.name] r (.slice ad r.deps.length cd) (.slice av r.vis.length cv))
        case first =>
          by_cases hk2 : r.kind = 2
          · have hkb : (r.kind == 2) = true := by simp [hk2]
            have HKB : Hid (kindB r.kind = b_test) := by show _ = _; unfold kindB; rw [if_pos hk2]
            clear hk2
            go_wp2
            go_meet
            case rel => exact ⟨rfl, by rw [HKB.out]; exact PSt.start wr r _ _ b_test⟩
          · have hkb : (r.kind == 2) = false := by simp [hk2]
            have HKB : Hid (kindB r.kind = b_lib) := by show _ = _; unfold kindB; rw [if_neg hk2]
            clear hk2
            go_wp2
            go_meet
            case rel => exact ⟨rfl, by rw [HKB.out]; exact PSt.start wr r _ _ b_lib⟩
        case rest =>
          obtain ⟨rfl, hp⟩ := hcut
          have HP := Lib.hid hp
          obtain ⟨a8, c8, rfl⟩ := owns_val hp.own
          obtain ⟨_, k0, k1, k2, k3, -⟩ := hp.rb.cells
          clear hp c0 c1 c2 c3 hbb
          have hp0 : ([kindB r.kind, r.name]).length = 2 := rfl
          have hp1 : ([kindB r.kind, r.name] ++ secOf bb_deps r.deps).length ≤ 23 := by rw [List.length_append]; unfold secOf; split <;> simp <;> omega
          go_upto_if 31 with (fail)
          go_cut [8, 16] from 17 to 54 (fun s8 s16 wx => s16 = .int .i64 k ∧ PSt wr wx s8 ([kindB r.kind, r.name] ++ secOf bb_deps r.deps) r (.slice ad r.deps.length cd) (.slice av r.vis.length cv))
          case first =>
            by_cases hd0 : r.deps.length = 0
            · have hsec : [kindB r.kind, r.name] ++ secOf bb_deps r.deps = [kindB r.kind, r.name] := by rw [show secOf bb_deps r.deps = [] by unfold secOf; rw [if_pos hd0], List.append_nil]
              have HSEC := Lib.hid hsec
              have hd1 : decide (0 < r.deps.length) = false := decide_eq_false (by omega)
              have hd2 : ¬ 0 < r.deps.length := by omega
              clear hsec hd0
              go_wp2
              go_meet
              case rel => exact ⟨rfl, by rw [HSEC.out]; exact HP.out⟩
            · have hsec : [kindB r.kind, r.name] ++ secOf bb_deps r.deps = ([kindB r.kind, r.name] ++ [bb_deps]) ++ r.deps := by rw [show secOf bb_deps r.deps = bb_deps :: r.deps by unfold secOf; rw [if_neg hd0]]; simp
              have HSEC := Lib.hid hsec
              have hd1 : decide (0 < r.deps.length) = true := decide_eq_true (by omega)
              have hd2 : 0 < r.deps.length := by omega
              obtain ⟨bd, od, rfl, _⟩ : ∃ bd od, ad = some ⟨bd, od, none⟩ ∧ True := by
                obtain ⟨b', o', e, _⟩ := Strs.elem sd.out (i := 0) (by omega)
                exact ⟨b', o', e, trivial⟩
              clear hsec
              go_upto_region 12 with (fail)
              have HPD := Lib.hid (HP.out.below (below_drew (qrefl _)))
              have hcd : wc.drew.cell? ⟨wr.heap.size, 2, none⟩ = some (.slice (some ⟨bd, od, none⟩) r.deps.length cd) := by obtain ⟨_, k0, k1, k2, k3, -⟩ := HPD.out.rb.cells; exact k2
              refine wp_region_noPanic (region_ord (fun W => W.cell? ⟨wr.heap.size, 2, none⟩ = some (.slice (some ⟨bd, od, none⟩) r.deps.length cd)) [(true, 0), (true, 3), (true, 4), (false, 1), (false, 2), (false, 5), (true, 6)] mixedK (by kernel_rfl) (fun _ _ _ _ _ h => h) hcd (fun hHeld => ?_))
              clear hcd HP
              generalize wc.drew = WD at *
              iterate 3 (refine ord_take (v := ?_) rfl (by rfl) ?_ ?_; rotate_left; (focus (intro wq hSw; (try dsimp only at hSw); go_simp; (try rw [if_neg (by first | omega | (simp; omega))]); (try with_reducible rfl))); (try simp only [List.getElem_toArray, List.getElem_cons_succ, List.getElem_cons_zero, Act.put, List.setIfInBounds_toArray, List.set_cons_zero, List.set_cons_succ]))
              (refine ord_do rfl (by rfl) (fun K hK => ?_); go_simp)
              have HP1 := Lib.hid (HPD.out.below (qalloc WD (.cells #[.string bb_deps] 9)))
              obtain ⟨_, k0, k1, k2, k3, -⟩ := HP1.out.rb.cells
              refine hK.out _ _ k2 (fun hHeld1 => ?_)
              clear hK K k0 k1 k2 k3 hHeld
              (try simp only [List.getElem_toArray, List.getElem_cons_succ, List.getElem_cons_zero, Act.put, List.setIfInBounds_toArray, List.set_cons_zero, List.set_cons_succ])
              refine ord_do rfl (by rfl) (fun K hK => ?_)
              refine wp_append_own _ _ _ 29 rfl wr.heap.size 9 i0 _ 1 16 Tryd.underlying29 hi hz0 hz1 hz2 rfl (by decide) _ _ _ rfl HP1.out.own ⟨WD.heap.size, 0, none⟩ 1 1 [.string bb_deps] rfl rfl (cell_one_new _ _ _) (by simp [Value.oneCell']) (by unfold maxLen; omega) (by omega) (by simp; have := HPD.out.z; omega) (fun v1 w1' hown1 hg1 _ => ?_)
              have HP2 := Lib.hid (HP1.out.grown (parts' := [kindB r.kind, r.name] ++ [bb_deps]) hg1 (by rw [List.map_append, List.length_append]; exact hown1))
              obtain ⟨_, k0, k1, k2, k3, -⟩ := HP2.out.rb.cells
              refine hK.out _ _ k2 (fun hHeld => ?_)
              clear hK K k0 k1 k2 k3 hHeld1 hown1 hg1
              (try simp only [List.getElem_toArray, List.getElem_cons_succ, List.getElem_cons_zero, Act.put, List.setIfInBounds_toArray, List.set_cons_zero, List.set_cons_succ])
              refine ord_do rfl (by rfl) (fun K hK => ?_)
              have SD := sd.out.below HP2.out.bl
              have hpl2 : ([kindB r.kind, r.name] ++ [bb_deps]).length = 2 + 1 := by rw [List.length_append]; rfl
              refine wp_append_own _ _ _ 29 rfl wr.heap.size 9 i0 _ 1 16 Tryd.underlying29 hi hz0 hz1 hz2 rfl (by decide) _ _ _ rfl HP2.out.own ⟨bd, od, none⟩ r.deps.length cd (r.deps.map .string) rfl (by simp) (strs_cells SD) (by simp [Value.oneCell']) (by unfold maxLen; omega) (by omega) (by have := HP2.out.z; omega) (fun v2 w2' hown2 hg2 _ => ?_)
              have HP3 := Lib.hid (HP2.out.grown (parts' := ([kindB r.kind, r.name] ++ [bb_deps]) ++ r.deps) hg2 (by rw [List.map_append, List.length_append]; exact hown2))
              obtain ⟨_, k0, k1, k2, k3, -⟩ := HP3.out.rb.cells
              refine hK.out _ _ k2 (fun hHeld => ?_)
              clear hK K k0 k1 k2 k3 hHeld hown2 hg2
              (try simp only [List.getElem_toArray, List.getElem_cons_succ, List.getElem_cons_zero, Act.put, List.setIfInBounds_toArray, List.set_cons_zero, List.set_cons_succ])
              (refine ord_take (v := ?_) rfl (by rfl) ?_ ?_; rotate_left; (focus (intro wq hSw; (try dsimp only at hSw); go_simp; (try rw [if_neg (by first | omega | (simp; omega))]); (try with_reducible rfl))); (try simp only [List.getElem_toArray, List.getElem_cons_succ, List.getElem_cons_zero, Act.put, List.setIfInBounds_toArray, List.set_cons_zero, List.set_cons_succ]))
              refine ord_end (NoPanic.normal ?_)
              go_wp2
              go_meet
              case rel => exact ⟨rfl, by rw [HSEC.out]; exact HP3.out⟩
          case rest =>
            obtain ⟨rfl, hp⟩ := hcut
            have HP := Lib.hid hp
            obtain ⟨a8, c8, rfl⟩ := owns_val hp.own
            obtain ⟨_, k0, k1, k2, k3, -⟩ := hp.rb.cells
            clear hp
            go_upto_if 41 with (fail)
            go_cut [8, 16] from 17 to 54 (fun s8 s16 wx => s16 = .int .i64 k ∧ PSt wr wx s8 (([kindB r.kind, r.name] ++ secOf bb_deps r.deps) ++ secOf bb_visible r.vis) r (.slice ad r.deps.length cd) (.slice av r.vis.length cv))
            case first =>
              by_cases hd0 : r.vis.length = 0
              · have hsec : ([kindB r.kind, r.name] ++ secOf bb_deps r.deps) ++ secOf bb_visible r.vis = ([kindB r.kind, r.name] ++ secOf bb_deps r.deps) := by rw [show secOf bb_visible r.vis = [] by unfold secOf; rw [if_pos hd0], List.append_nil]
                have HSEC := Lib.hid hsec
                have hd1 : decide (0 < r.vis.length) = false := decide_eq_false (by omega)
                have hd2 : ¬ 0 < r.vis.length := by omega
                clear hsec hd0
                go_wp2
                go_meet
                case rel => exact ⟨rfl, by rw [HSEC.out]; exact HP.out⟩
              · have hsec : ([kindB r.kind, r.name] ++ secOf bb_deps r.deps) ++ secOf bb_visible r.vis = (([kindB r.kind, r.name] ++ secOf bb_deps r.deps) ++ [bb_visible]) ++ r.vis := by rw [show secOf bb_visible r.vis = bb_visible :: r.vis by unfold secOf; rw [if_neg hd0]]; simp
                have HSEC := Lib.hid hsec
                have hd1 : decide (0 < r.vis.length) = true := decide_eq_true (by omega)
                have hd2 : 0 < r.vis.length := by omega
                obtain ⟨bd, od, rfl, _⟩ : ∃ bd od, av = some ⟨bd, od, none⟩ ∧ True := by
                  obtain ⟨b', o', e, _⟩ := Strs.elem sv.out (i := 0) (by omega)
                  exact ⟨b', o', e, trivial⟩
                clear hsec
                go_upto_region 14 with (fail)
                have HPD := Lib.hid (HP.out.below (below_drew (qrefl _)))
                have hcd : wc.drew.cell? ⟨wr.heap.size, 3, none⟩ = some (.slice (some ⟨bd, od, none⟩) r.vis.length cv) := by obtain ⟨_, k0, k1, k2, k3, -⟩ := HPD.out.rb.cells; exact k3
                refine wp_region_noPanic (region_ord (fun W => W.cell? ⟨wr.heap.size, 3, none⟩ = some (.slice (some ⟨bd, od, none⟩) r.vis.length cv)) [(true, 0), (true, 3), (true, 4), (false, 1), (false, 2), (false, 5), (true, 6)] mixedK (by kernel_rfl) (fun _ _ _ _ _ h => h) hcd (fun hHeld => ?_))
                clear hcd HP
                generalize wc.drew = WD at *
                iterate 3 (refine ord_take (v := ?_) rfl (by rfl) ?_ ?_; rotate_left; (focus (intro wq hSw; (try dsimp only at hSw); go_simp; (try rw [if_neg (by first | omega | (simp; omega))]); (try with_reducible rfl))); (try simp only [List.getElem_toArray, List.getElem_cons_succ, List.getElem_cons_zero, Act.put, List.setIfInBounds_toArray, List.set_cons_zero, List.set_cons_succ]))
                (refine ord_do rfl (by rfl) (fun K hK => ?_); go_simp)
                have HP1 := Lib.hid (HPD.out.below (qalloc WD (.cells #[.string bb_visible] 9)))
                obtain ⟨_, k0, k1, k2, k3, -⟩ := HP1.out.rb.cells
                refine hK.out _ _ k3 (fun hHeld1 => ?_)
                clear hK K k0 k1 k2 k3 hHeld
                (try simp only [List.getElem_toArray, List.getElem_cons_succ, List.getElem_cons_zero, Act.put, List.setIfInBounds_toArray, List.set_cons_zero, List.set_cons_succ])
                refine ord_do rfl (by rfl) (fun K hK => ?_)
                refine wp_append_own _ _ _ 29 rfl wr.heap.size 9 i0 _ 1 16 Tryd.underlying29 hi hz0 hz1 hz2 rfl (by decide) _ _ _ rfl HP1.out.own ⟨WD.heap.size, 0, none⟩ 1 1 [.string bb_visible] rfl rfl (cell_one_new _ _ _) (by simp [Value.oneCell']) (by unfold maxLen; omega) (by omega) (by simp; have := HPD.out.z; omega) (fun v1 w1' hown1 hg1 _ => ?_)
                have HP2 := Lib.hid (HP1.out.grown (parts' := ([kindB r.kind, r.name] ++ secOf bb_deps r.deps) ++ [bb_visible]) hg1 (by rw [List.map_append, List.length_append]; exact hown1))
                obtain ⟨_, k0, k1, k2, k3, -⟩ := HP2.out.rb.cells
                refine hK.out _ _ k3 (fun hHeld => ?_)
                clear hK K k0 k1 k2 k3 hHeld1 hown1 hg1
                (try simp only [List.getElem_toArray, List.getElem_cons_succ, List.getElem_cons_zero, Act.put, List.setIfInBounds_toArray, List.set_cons_zero, List.set_cons_succ])
                refine ord_do rfl (by rfl) (fun K hK => ?_)
                have SD := sv.out.below HP2.out.bl
                have hpl2 : (([kindB r.kind, r.name] ++ secOf bb_deps r.deps) ++ [bb_visible]).length = ([kindB r.kind, r.name] ++ secOf bb_deps r.deps).length + 1 := by rw [List.length_append]; rfl
                refine wp_append_own _ _ _ 29 rfl wr.heap.size 9 i0 _ 1 16 Tryd.underlying29 hi hz0 hz1 hz2 rfl (by decide) _ _ _ rfl HP2.out.own ⟨bd, od, none⟩ r.vis.length cv (r.vis.map .string) rfl (by simp) (strs_cells SD) (by simp [Value.oneCell']) (by unfold maxLen; omega) (by omega) (by have := HP2.out.z; omega) (fun v2 w2' hown2 hg2 _ => ?_)
                have HP3 := Lib.hid (HP2.out.grown (parts' := (([kindB r.kind, r.name] ++ secOf bb_deps r.deps) ++ [bb_visible]) ++ r.vis) hg2 (by rw [List.map_append, List.length_append]; exact hown2))
                obtain ⟨_, k0, k1, k2, k3, -⟩ := HP3.out.rb.cells
                refine hK.out _ _ k3 (fun hHeld => ?_)
                clear hK K k0 k1 k2 k3 hHeld hown2 hg2
                (try simp only [List.getElem_toArray, List.getElem_cons_succ, List.getElem_cons_zero, Act.put, List.setIfInBounds_toArray, List.set_cons_zero, List.set_cons_succ])
                (refine ord_take (v := ?_) rfl (by rfl) ?_ ?_; rotate_left; (focus (intro wq hSw; (try dsimp only at hSw); go_simp; (try rw [if_neg (by first | omega | (simp; omega))]); (try with_reducible rfl))); (try simp only [List.getElem_toArray, List.getElem_cons_succ, List.getElem_cons_zero, Act.put, List.setIfInBounds_toArray, List.set_cons_zero, List.set_cons_succ]))
                refine ord_end (NoPanic.normal ?_)
                go_wp2
                go_meet
                case rel => exact ⟨rfl, by rw [HSEC.out]; exact HP3.out⟩
            case rest =>
              obtain ⟨rfl, hp⟩ := hcut
              have HP := Lib.hid hp
              obtain ⟨a8, c8, rfl⟩ := owns_val hp.own
              obtain ⟨_, k0, k1, k2, k3, -⟩ := hp.rb.cells
              clear hp
              have hs2 : (secOf bb_visible r.vis).length ≤ 21 := by unfold secOf; split <;> simp <;> omega
              have hp2 : (([kindB r.kind, r.name] ++ secOf bb_deps r.deps) ++ secOf bb_visible r.vis).length ≤ 44 := by rw [List.length_append]; omega
              have hwl : Hid ((([kindB r.kind, r.name] ++ secOf bb_deps r.deps) ++ secOf bb_visible r.vis) ++ [b_semi] = wordsR r) := rfl
              generalize ([kindB r.kind, r.name] ++ secOf bb_deps r.deps) ++ secOf bb_visible r.vis = PP at *
              have hwz : wr.heap.size + 1 ≤ wc.heap.size := HP.out.z
              have hline : Hid (lineOf r = Lib.join ((wordsR r).map (·.data.toList)) [32] ++ [10]) := rfl
              have HJ0 : Hid (∀ (W : World) (g' cap' : Nat), Strs W (.slice (some ⟨g', 0, none⟩) (PP.length + 1) cap') (PP ++ [b_semi]) → g' < W.heap.size → PP.length + 1 ≤ cap' → Calls Tryd.prog 43 #[.slice (some ⟨g', 0, none⟩) (PP.length + 1) cap', .string ⟨#[32]⟩] W fun e w' => e = .returned (.string ⟨(Lib.join ((wordsR r).map (·.data.toList)) [32]).toArray⟩) ∧ Below W.heap.size W w') := by
                intro W g' cap' hst hg hc
                have hlw : (PP ++ [b_semi]).length = PP.length + 1 := by simp
                have hj := Tryd.strings_Join g' 0 cap' (PP ++ [b_semi]) ⟨#[32]⟩ W (fun j x hx => by
                  have hx' : ((PP ++ [b_semi]).map Value.string)[j]? = some (.string x) := by rw [List.getElem?_map, hx]; rfl
                  have := strs_cells hst j _ hx'
                  by_cases h0 : j = 0
                  · subst h0; simpa [Addr.add] using this
                  · simpa [Addr.add, h0] using this) hg (by rw [hlw]; omega) (by rw [hlw]; exact hc) (by rw [hwl.out]; exact Nat.le_trans hjl (by omega))
                rw [hlw, hwl.out] at hj
                exact hj
              generalize Lib.join ((wordsR r).map (·.data.toList)) [32] = J at *
              clear k0 k1 k2 k3 hpl
              go_wp2_with (at_builtin; refine wpList_append_own _ rfl _ _ 29 rfl wr.heap.size 9 i0 _ 1 16 Tryd.underlying29 hi hz0 hz1 hz2 rfl (by decide) _ _ _ rfl (HP.out.own.alloc _) ⟨wc.heap.size, 0, none⟩ 1 1 [.string b_semi] rfl rfl (cell_one_new _ _ _) (by simp [Value.oneCell']) (by unfold maxLen; omega) (by omega) (by simp; omega) ?_)
              intro v' w3 hown3 hg3 _
              have HP3 := Lib.hid ((HP.out.below (qalloc wc (.cells #[.string b_semi] 9))).grown (parts' := PP ++ [b_semi]) hg3 (by rw [List.map_append, List.length_append]; exact hown3))
              obtain ⟨g', cap', rfl⟩ := ownsRow_succ hown3
              have HJ : Hid (Calls Tryd.prog 43 #[.slice (some ⟨g', 0, none⟩) (PP.length + 1) cap', .string ⟨#[32]⟩] w3 fun e w' => e = .returned (.string ⟨J.toArray⟩) ∧ Below w3.heap.size w3 w') := by
                have hst := owns_strs HP3.out.own
                exact HJ0.out w3 g' cap' hst (strs_first hst (by omega)).1 (strs_first hst (by omega)).2
              clear hown3 hg3 HP HJ0
              go_wp2_with (fail)
              refine HJ.out.mono ?_
              rintro e w4 ⟨rfl, hb4⟩
              have hB4 := qtrans HP3.out.bl hb4
              have HB4 := Lib.hid (isB_below HB.out hB4)
              have hz4 : w1.heap.size + 1 ≤ w4.heap.size := by have := hB4.size; omega
              have hjs : (⟨J.toArray⟩ ++ ⟨#[10]⟩ : ByteArray).size ≤ 1800046 := by rw [ByteArray.size_append]; show J.toArray.size + 1 ≤ _; simp; omega
              have hjd : (⟨J.toArray⟩ ++ ⟨#[10]⟩ : ByteArray).data.toList = J ++ [10] := by simp
              have HJD := Lib.hid hjd
              clear hjd HJ
              go_wp2_with (fail)
              refine (Tryd.Builder_WriteString w1.heap.size w1.heap.size _ _ _ HB4.out (by rw [Lib.byteCells_length]; omega) (by omega)).mono ?_
              rintro e w5 ⟨rfl, hbu, hb5⟩
              have HB5 : Hid (Lib.IsBuilder 68 5 w1.heap.size w1.heap.size (Lib.byteCells (textOf (rs.take (k + 1)))) w5) := by
                have := isB_byte (p := .bool true) hbu rfl
                rw [HJD.out, ← hline.out, ← HTX.out] at this
                exact this
              have hbl5 : Below w1.heap.size w1 w5 := (hbl.trans (hB4.mono hbl.size)).trans hb5
              have hz5 : w1.heap.size + 1 ≤ w5.heap.size := by have := hb5.size; omega
              clear hbu HB4 HB
              go_wp2
              go_roundw
              case rel => exact ⟨k + 1, by omega, by go_num, HB5, hbl5, hz5⟩
              case measure => simp [intOf]; omega
      · obtain rfl : k = rs.length := by omega
        have HBE : Hid (Lib.IsBuilder 68 5 w1.heap.size w1.heap.size (Lib.byteCells (textOf rs)) wr) := by
          have := HB.out
          rw [List.take_length] at this
          exact this
        clear HB
        go_wp2_with (go_at_call 44; refine (Tryd.Builder_String_any _ _ _ _ HBE.out (by omega)).mono ?_; rintro e w2 ⟨rfl, hb2⟩)
        go_ret2
        rw [HF.out]
        exact ⟨rfl, (hb1.trans (hbl.mono hb1.size)).trans (hb2.mono hb1.size)⟩
  · have HF : Hid (printR rs = (⟨#[]⟩, checkErr rs)) := by show _ = _; unfold printR; rw [if_neg hce]
    have hce' : (checkErr rs != 0) = true := by simp [hce]
    clear hce
    go_enter Tryd.func20, Tryd.ntmps20
    go_wp2_with (go_at_call 22; refine (Check_any _ rs _ HR.out hs hn).mono ?_; rintro e w1 ⟨rfl, hb1⟩)
    go_ret2
    rw [HF.out]
    exact ⟨rfl, hb1⟩
end Go.Proofs.YtgcmekpfhagnbaaDoor
