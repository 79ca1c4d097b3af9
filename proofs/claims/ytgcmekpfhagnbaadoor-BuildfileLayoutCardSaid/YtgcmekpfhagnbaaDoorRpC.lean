/- The reference's list. -/
import Derived.Test.YtgcmekpfhagnbaaDoorRpB
import Derived.Test.YtgcmekpfhagnbaaDoorRL
import Derived.Deep.DeepCutAuto
import Derived.Outline
namespace Go.Proofs.YtgcmekpfhagnbaaDoor
open Go.RowKit

def contL (vis first : Bool) (ws : Words) (bad : Bool) : Bool := first || (!bad && !isT ws bad b_semi && (vis || !isT ws bad bb_visible))
/-- The loop of list, round by round. -/
def loopL (vb : ByteArray → Bool) (vis : Bool) : Nat → Bool → Words → Bool → List ByteArray → List ByteArray × Words × Bool
  | 0, _, ws, bad, got => (got, ws, bad)
  | f + 1, first, ws, bad, got => if contL vis first ws bad then loopL vb vis f false (nextT ws bad (vb (wordT ws bad))).1 (nextT ws bad (vb (wordT ws bad))).2 (got ++ [wordT ws bad]) else (got, ws, bad)
def measL (ws : Words) (bad first : Bool) : Nat := ws.length + (if bad then 0 else 1) + (if first then 1 else 0)
def measW (w : World) (B : Nat) (f : Value) : Nat :=
  (match w.cell? ⟨B, 0, none⟩ with | some (.slice _ n _) => n | _ => 0) + (match w.cell? ⟨B, 1, none⟩ with | some (.bool true) => 0 | _ => 1) + (match f with | .bool true => 1 | _ => 0)
theorem contL_bad {vis first bad : Bool} {ws : Words} (hb : first = true → bad = false) (hc : contL vis first ws bad = true) : bad = false := by
  cases first with
  | true => exact hb rfl
  | false =>
    cases bad with
    | false => rfl
    | true => simp [contL] at hc
theorem nextT_less {ws : Words} {fits first : Bool} : measL (nextT ws false fits).1 (nextT ws false fits).2 false < measL ws false first := by
  unfold nextT
  cases ws with
  | nil => cases fits <;> cases first <;> simp [measL]
  | cons x r => cases fits <;> cases first <;> simp [measL]
theorem nextT_small {ws : Words} (h : SmallW ws) (bad fits : Bool) : SmallW (nextT ws bad fits).1 := by
  unfold nextT
  split
  · exact h
  · exact small_tail h
/-- A value of type T in a box. -/
def TBox (w : World) (B : Nat) (v : Value) (bad : Bool) : Prop := w.heap[B]? = some (.cells #[v, .bool bad] 57 (0, 0))
theorem TBox.cells {w : World} {B : Nat} {v : Value} {bad : Bool} (h : TBox w B v bad) : B < w.heap.size ∧ w.cell? ⟨B, 0, none⟩ = some v ∧ w.cell? ⟨B, 1, none⟩ = some (.bool bad) ∧ (∀ o, w.frozen? ⟨B, o, none⟩ = false) := by
  have h' : w.heap[B]? = _ := h
  refine ⟨(Array.getElem?_eq_some_iff.1 h').1, ?_, ?_, fun o => ?_⟩
  all_goals simp [World.cell?, World.frozen?, h']
theorem TBox.below {w w' : World} {B : Nat} {v : Value} {bad : Bool} (h : TBox w B v bad) (m : Below w.heap.size w w') : TBox w' B v bad := (m.block B (Array.getElem?_eq_some_iff.1 h).1).trans h
theorem TBox.set {w : World} {B : Nat} {v : Value} {bad : Bool} (h : TBox w B v bad) (v' : Value) (bad' : Bool) : TBox ((w.setCell ⟨B, 0, none⟩ v').setCell ⟨B, 1, none⟩ (.bool bad')) B v' bad' := heap_setCell_at (heap_setCell_at h 0 v') 1 _
theorem measW_eq {w : World} {B : Nat} {v : Value} {bad : Bool} {ws : Words} {first : Bool} (h : TBox w B v bad) (hv : IsWords w v ws) : measW w B (.bool first) = measL ws bad first := by
  obtain ⟨_, c0, c1, _⟩ := h.cells
  obtain ⟨_, a, cap, rfl, _⟩ := hv
  unfold measW measL
  rw [c0, c1]
  cases bad <;> cases first <;> rfl
theorem below_drew {B : Nat} {a w : World} (h : Below B a w) : Below B a w.drew := h.drew
theorem words_val {w : World} {v : Value} {ws : Words} (h : IsWords w v ws) : ∃ a c, v = .slice a ws.length c := by obtain ⟨_, a, c, e, _⟩ := h; exact ⟨a, c, e⟩
theorem mixedK : Tryd.prog.follows .mixedOrders = true := by kernel_rfl
theorem ris_b (v : Value) (ws : Words) (bad : Bool) (txt : ByteArray) (w : World) (hv : IsWords w v ws) (hl : ws.length ≤ 40000) :
    Calls Tryd.prog 60 #[.agg #[v, .bool bad], .string txt] w fun e w' => e = .returned (.bool (isT ws bad txt)) ∧ Below w.heap.size w w' :=
  (ris_any v ws bad txt w hv hl).mono fun _ _ ⟨h, e⟩ => ⟨h, e ▸ qalloc _ _⟩
theorem rwordT_b (v : Value) (ws : Words) (bad : Bool) (w : World) (hv : IsWords w v ws) (hl : ws.length ≤ 40000) :
    Calls Tryd.prog 62 #[.agg #[v, .bool bad]] w fun e w' => e = .returned (.string (wordT ws bad)) ∧ Below w.heap.size w w' :=
  (rwordT_any v ws bad w hv hl).mono fun _ _ ⟨h, e⟩ => ⟨h, e ▸ qalloc _ _⟩

/-- What a round of list leaves, with no program in sight. -/
theorem list_round {w WB w3 : World} {v' v3 vo ov : Value} {bad bad3 : Bool} {ws3 : Words} {n : Nat} {xs : List Value} (s : Value)
    (h0 : TBox WB w.heap.size v' bad) (h1 : TBox WB (w.heap.size + 1) (.slice none 0 0) false) (hw : IsWords w3 v3 ws3) (ho : v3.ownBlock = vo.ownBlock) (hlow : ∀ b, vo.ownBlock = some b → b < w.heap.size)
    (hown : WB.ownsRow (w.heap.size + 1 + 1) 9 1 ov n xs) (hbel : Below w.heap.size w WB) (hz : w.heap.size + 3 ≤ WB.heap.size) (hb3 : Below WB.heap.size WB w3) :
    ((w3.setCell ⟨w.heap.size, 0, none⟩ v3).setCell ⟨w.heap.size, 1, none⟩ (.bool bad3)).ownsRow (w.heap.size + 1 + 1) 9 1 ov n xs ∧
    ∀ w4 : World, (((w3.setCell ⟨w.heap.size, 0, none⟩ v3).setCell ⟨w.heap.size, 1, none⟩ (.bool bad3)).alloc (.cells #[s] 9)).grownBy w4 ov.ownBlock →
      TBox w4 w.heap.size v3 bad3 ∧ TBox w4 (w.heap.size + 1) (.slice none 0 0) false ∧ IsWords w4 v3 ws3 ∧ Below w.heap.size w w4 ∧ w.heap.size + 3 ≤ w4.heap.size := by
  have hown3 := owns_below hown hb3
  have hownS := owns_set (owns_set hown3 (R := w.heap.size) (o := 0) (by omega) v3) (R := w.heap.size) (o := 1) (by omega) (.bool bad3)
  refine ⟨hownS, fun w4 hg => ?_⟩
  have mS : Mod [w.heap.size] w3 ((w3.setCell ⟨w.heap.size, 0, none⟩ v3).setCell ⟨w.heap.size, 1, none⟩ (.bool bad3)) := ((Mod.refl _ _).setCell (by simp) _).setCell (by simp) _
  have tS := (h0.below hb3).set v3 bad3
  have t1S : TBox ((w3.setCell ⟨w.heap.size, 0, none⟩ v3).setCell ⟨w.heap.size, 1, none⟩ (.bool bad3)) (w.heap.size + 1) (.slice none 0 0) false := mS.heap (h1.below hb3) (by simp)
  have hwS : IsWords _ v3 ws3 := IsRow.mod hw mS (fun b hb hx => by have := hlow b (ho ▸ hb); simp at hx; omega)
  have hz3 := hb3.size
  have hzS : ((w3.setCell ⟨w.heap.size, 0, none⟩ v3).setCell ⟨w.heap.size, 1, none⟩ (.bool bad3)).heap.size = w3.heap.size := by simp [World.setCell]
  have hbS : Below w.heap.size w ((w3.setCell ⟨w.heap.size, 0, none⟩ v3).setCell ⟨w.heap.size, 1, none⟩ (.bool bad3)) := hbel.trans ((Mod.of hb3 |>.trans (mS)).upto (by omega) (by simp))
  generalize (w3.setCell ⟨w.heap.size, 0, none⟩ v3).setCell ⟨w.heap.size, 1, none⟩ (.bool bad3) = WS at *
  have hA := qalloc WS (.cells #[s] 9)
  have hgb : ∀ k, k < w.heap.size + 2 → w4.heap[k]? = (WS.alloc (.cells #[s] 9)).heap[k]? := fun k hk => hg.block k (by simp; omega) (fun e => by have := owns_block hownS e.symm; omega)
  have hgs := hg.size
  simp at hgs
  refine ⟨(hgb _ (by omega)).trans (tS.below hA), (hgb _ (by omega)).trans (t1S.below hA), ?_, (qtrans hbS hA).grown hg (by simp; omega) (fun k hk => by have := owns_block hownS hk; omega), by omega⟩
  have mg : Mod (ov.ownBlock.toList) (WS.alloc (.cells #[s] 9)) w4 := ⟨hg.os, hg.tape, hg.output, hg.size, fun k hk hx => hg.block k hk (fun e => hx (by rw [← e]; simp))⟩
  refine IsRow.mod (IsRow.below hwS hA) mg (fun b hb hx => ?_)
  have h5 := hlow b (ho ▸ hb)
  have h6 : ov.ownBlock = some b := by simpa using hx
  have := owns_block hownS h6
  omega

theorem owns_strs {w : World} {base : Nat} {v : Value} {ss : List ByteArray} (h : w.ownsRow base 9 1 v ss.length (ss.map .string)) : Strs w v ss := owns_row h
def ListPost (x : List ByteArray × Words × Bool) (v : Value) (w : World) (e : Ending) (w' : World) : Prop :=
  ∃ lv v', e = .returned (.tuple #[lv, .agg #[v', .bool x.2.2]]) ∧ Strs w' lv x.1 ∧ OwnStr w.heap.size w' lv ∧ IsWords w' v' x.2.1 ∧ v'.ownBlock = v.ownBlock ∧ Below w.heap.size w w'
set_option maxRecDepth 100000 in
set_option maxHeartbeats 2000000 in
theorem rlist_true (v : Value) (ws : Words) (w : World) (hv : IsWords w v ws) (hlow : ∀ b, v.ownBlock = some b → b < w.heap.size) (hs : SmallW ws) :
    Calls Tryd.prog 64 #[.agg #[v, .bool false], .bool true] w (ListPost (loopL viewerS true (ws.length + 2) true ws false []) v w) := by
  have HV := Lib.hid hv
  obtain ⟨a, cap, rfl⟩ : ∃ a cap, v = .slice a ws.length cap := by obtain ⟨_, a, c, e, _⟩ := hv; exact ⟨a, c, e⟩
  have HLOW := Lib.hid hlow
  clear hv hlow
  obtain ⟨i0, hi, hz0, hz1, hz2⟩ := info_parts infoStr
  have hlen := hs.len
  go_enter Tryd.func64, Tryd.ntmps64
  go_wp2
  have tb0 : TBox (((w.alloc (.cells #[.slice a ws.length cap, .bool false] 57)).alloc (.cells #[.slice none 0 0, .bool false] 57)).alloc (.cells #[] 9)) w.heap.size (.slice a ws.length cap) false :=
    TBox.below (TBox.below (World.alloc_heap_new w _) (qalloc _ _)) (qalloc _ _)
  have tb1 : TBox (((w.alloc (.cells #[.slice a ws.length cap, .bool false] 57)).alloc (.cells #[.slice none 0 0, .bool false] 57)).alloc (.cells #[] 9)) (w.heap.size + 1) (.slice none 0 0) false := by
    have := World.alloc_heap_new (w.alloc (.cells #[.slice a ws.length cap, .bool false] 57)) (.cells #[.slice none 0 0, .bool false] 57)
    rw [World.size_alloc] at this
    exact TBox.below this (qalloc _ _)
  have ob0 : (((w.alloc (.cells #[.slice a ws.length cap, .bool false] 57)).alloc (.cells #[.slice none 0 0, .bool false] 57)).alloc (.cells #[] 9)).ownsRow (w.heap.size + 1 + 1) 9 1 (.slice (some ⟨w.heap.size + 1 + 1, 0, none⟩) 0 0) 0 [] := by
    refine ⟨rfl, .inr ⟨w.heap.size + 1 + 1, 0, #[], rfl, Nat.le_refl _, ?_, Nat.le_refl _, Nat.zero_le _, rfl, rfl⟩⟩
    have := World.alloc_heap_new ((w.alloc (.cells #[.slice a ws.length cap, .bool false] 57)).alloc (.cells #[.slice none 0 0, .bool false] 57)) (.cells #[] 9)
    rw [World.size_alloc, World.size_alloc] at this
    exact this
  have hbl := qtrans (qtrans (qalloc w (.cells #[.slice a ws.length cap, .bool false] 57)) (qalloc _ (.cells #[.slice none 0 0, .bool false] 57))) (qalloc _ (.cells #[] 9))
  have hv0 := IsRow.below HV.out hbl
  have hz0' : (((w.alloc (.cells #[.slice a ws.length cap, .bool false] 57)).alloc (.cells #[.slice none 0 0, .bool false] 57)).alloc (.cells #[] 9)).heap.size = w.heap.size + 3 := by simp
  generalize ((w.alloc (.cells #[.slice a ws.length cap, .bool false] 57)).alloc (.cells #[.slice none 0 0, .bool false] 57)).alloc (.cells #[] 9) = W0 at *
  have hz0'' : w.heap.size + 3 ≤ W0.heap.size := by omega
  clear hz0'
  go_loopw [6, 7] (fun ov fv wr => ∃ (got : List ByteArray) (ws' : Words) (bad first : Bool) (v' : Value) (f : Nat), fv = .bool first ∧ Hid (TBox wr w.heap.size v' bad) ∧ Hid (TBox wr (w.heap.size + 1) (.slice none 0 0) false) ∧ Hid (IsWords wr v' ws') ∧ Hid (v'.ownBlock = (Value.slice a ws.length cap).ownBlock) ∧ SmallW ws' ∧
      wr.ownsRow (w.heap.size + 1 + 1) 9 1 ov got.length (got.map .string) ∧ Below w.heap.size w wr ∧ w.heap.size + 3 ≤ wr.heap.size ∧ (first = true → bad = false) ∧ measL ws' bad first ≤ f ∧ got.length + measL ws' bad first ≤ 40003 ∧
      Hid (loopL viewerS true (ws.length + 2) true ws false [] = loopL viewerS true f first ws' bad got)) (fun _ fv wr => measW wr w.heap.size fv)
  case atStart => exact ⟨[], ws, false, true, _, ws.length + 2, rfl, tb0, tb1, hv0, rfl, hs, ob0, hbl, hz0'', fun _ => rfl, by simp [measL], by simp [measL]; omega, rfl⟩
  case round =>
    obtain ⟨got, ws', bad, first, v', f, rfl, HT0, HT1, HW, HO, hs', hown, hbel, hz, hfb, hmf, htot, HL⟩ := hrel
    clear tb0 tb1 ob0 hbl hv0 hz0''
    clear W0
    have HM := Lib.hid (measW_eq (first := first) HT0.out HW.out)
    obtain ⟨hB, q0, q1, -⟩ := HT0.out.cells
    obtain ⟨av, cv, rfl⟩ := words_val HW.out
    have hl' := hs'.len
    have HFB := Lib.hid hfb
    clear hfb
    go_upto_region 3 with (fail)
    go_cut [28] from 10 to 49 (fun c wx => c = .bool (contL true first ws' bad) ∧ Below wr.heap.size wr wx)
    case first =>
      have HIS := Lib.hid (fun (txt : ByteArray) (W : World) (hb : Below wr.heap.size wr W) => ris_b _ ws' bad txt W (IsRow.below HW.out hb) hl')
      cases first with
      | true =>
        go_wp2
        go_meet
        case rel => exact ⟨rfl, qrefl _⟩
      | false =>
        cases bad with
        | true =>
          go_wp2
          go_meet
          case rel => exact ⟨rfl, qrefl _⟩
        | false =>
          have HIS1 := Lib.hid (fun (W : World) (hb : Below wr.heap.size wr W) => HIS.out b_semi W hb)
          have HIS2 := Lib.hid (fun (W : World) (hb : Below wr.heap.size wr W) => HIS.out bb_visible W hb)
          have HC : Hid (contL true false ws' false = (!isT ws' false b_semi && (true || !isT ws' false bb_visible))) := by show _ = _; unfold contL; simp
          clear HIS
          generalize isT ws' false b_semi = s1 at *
          generalize isT ws' false bb_visible = s2 at *
          cases s1 with
          | true =>
            go_wp2_with (fail)
            refine (HIS1.out _ (qrefl _)).mono ?_
            rintro e w2 ⟨rfl, hb2⟩
            go_wp2
            go_meet
            case rel => exact ⟨by rw [HC.out]; rfl, hb2⟩
          | false =>
            go_wp2_with (fail)
            refine (HIS1.out _ (qrefl _)).mono ?_
            rintro e w2 ⟨rfl, hb2⟩
            obtain ⟨hc2, _⟩ := bcell hb2
            go_wp2
            go_meet
            case rel => exact ⟨by rw [HC.out]; rfl, hb2⟩
    case rest =>
      obtain ⟨rfl, hbx⟩ := hcut
      have HT0x := Lib.hid (HT0.out.below hbx)
      have HT1x := Lib.hid (HT1.out.below hbx)
      have HWx := Lib.hid (IsRow.below HW.out hbx)
      have hownx := owns_below hown hbx
      have hbelx := qtrans hbel hbx
      have hzx : w.heap.size + 3 ≤ wc.heap.size := by have := hbx.size; omega
      clear HT0 HT1 HW hown hbel hz q0 q1 hB hbx
      obtain ⟨hB, q0, q1, fz⟩ := HT0x.out.cells
      have f0 := fz 0
      have f1 := fz 1
      clear fz
      cases hc : contL true first ws' bad with
      | true =>
        obtain rfl : bad = false := contL_bad HFB.out hc
        have hpos : 1 ≤ measL ws' false first := by unfold measL; simp; omega
        obtain ⟨f, rfl⟩ : ∃ f', f = f' + 1 := ⟨f - 1, by omega⟩
        clear hpos
        have HL2 : Hid (loopL viewerS true (ws.length + 2) true ws false [] = loopL viewerS true f false (nextT ws' false (viewerS (headT ws'))).1 (nextT ws' false (viewerS (headT ws'))).2 (got ++ [headT ws'])) := by
          show _ = _; rw [HL.out, loopL, if_pos hc]; rfl
        have hhs := hs'.head
        have hles := @nextT_less ws' (viewerS (headT ws')) first
        have hsm := nextT_small hs' false (viewerS (headT ws'))
        clear hc
        go_wp2_with (fail)
        refine (rwordT_b _ ws' false _ HWx.out hl').mono ?_
        rintro e w2 ⟨rfl, hb2⟩
        rw [show wordT ws' false = headT ws' from rfl]
        go_wp2_with (fail)
        have hD := qtrans hb2 (below_drew (qrefl w2))
        have HT0B := Lib.hid (HT0x.out.below hD)
        have HT1B := Lib.hid (HT1x.out.below hD)
        have HWB := Lib.hid (IsRow.below HWx.out hD)
        have hownB := owns_below hownx hD
        have hbelB := qtrans hbelx hD
        have hzB : w.heap.size + 3 ≤ w2.drew.heap.size := by have := hD.size; omega
        obtain ⟨hB', p0, p1, fz⟩ := HT0B.out.cells
        clear q0 q1 f0 f1 hB fz
        have HN := Lib.hid (fun (W : World) (hw : IsWords W (.slice av ws'.length cv) ws') => rnext_any _ ws' false (viewerS (headT ws')) W hw hl')
        have HVF : Hid (∀ W, Calls Tryd.prog 79 #[.string (headT ws')] W fun e w' => e = .returned (.bool (viewerS (headT ws'))) ∧ W = w') := fun W => rseen_any _ _ hhs
        generalize nextT ws' false (viewerS (headT ws')) = nx at *
        generalize viewerS (headT ws') = fits at *
        obtain ⟨nw, nb⟩ := nx
        simp only at hles hsm
        cases fits <;>
        · refine wp_region_noPanic (region_lexT (fun W => W.cell? ⟨w.heap.size, 0, none⟩ = some (.slice av ws'.length cv) ∧ W.cell? ⟨w.heap.size, 1, none⟩ = some (.bool false)) [true, true, true, true, false, true, true, true, true, true, true, false, true, true] mixedK (by kernel_rfl) (fun _ _ _ _ _ h => h) ⟨p0, p1⟩ (fun hHeld => ?_))
          iterate 4 (first | (refine lexT_skip (by rfl) ?_; (try simp only [Act.put, List.setIfInBounds_toArray, List.set_cons_zero, List.set_cons_succ])) | (refine lexT_take (v := ?_) (by rfl) ?_ ?_; rotate_left; (focus (intro wq hSw; (try dsimp only at hSw); go_simp; (try with_reducible rfl))); (try simp only [Act.put, List.setIfInBounds_toArray, List.set_cons_zero, List.set_cons_succ])))
          (first | (refine lexT_skip (by rfl) ?_; (try simp only [Act.put, List.setIfInBounds_toArray, List.set_cons_zero, List.set_cons_succ])) | ((refine lexT_do (by rfl) (fun K hK => ?_); go_simp); refine (HVF.out _).mono ?_; rintro e w' ⟨rfl, rfl⟩; (try go_simp); refine hK.out _ _ hHeld (fun _ => ?_); clear hK K; (try simp only [Act.put, List.setIfInBounds_toArray, List.set_cons_zero, List.set_cons_succ])))
          iterate 6 (first | (refine lexT_skip (by rfl) ?_; (try simp only [Act.put, List.setIfInBounds_toArray, List.set_cons_zero, List.set_cons_succ])) | (refine lexT_take (v := ?_) (by rfl) ?_ ?_; rotate_left; (focus (intro wq hSw; (try dsimp only at hSw); go_simp; (try with_reducible rfl))); (try simp only [Act.put, List.setIfInBounds_toArray, List.set_cons_zero, List.set_cons_succ])))
          (first | (refine lexT_skip (by rfl) ?_; (try simp only [Act.put, List.setIfInBounds_toArray, List.set_cons_zero, List.set_cons_succ])) | ((refine lexT_do (by rfl) (fun K hK => ?_); go_simp); refine (HVF.out _).mono ?_; rintro e w' ⟨rfl, rfl⟩; (try go_simp); refine hK.out _ _ hHeld (fun _ => ?_); clear hK K; (try simp only [Act.put, List.setIfInBounds_toArray, List.set_cons_zero, List.set_cons_succ])))
          iterate 2 (first | (refine lexT_skip (by rfl) ?_; (try simp only [Act.put, List.setIfInBounds_toArray, List.set_cons_zero, List.set_cons_succ])) | (refine lexT_take (v := ?_) (by rfl) ?_ ?_; rotate_left; (focus (intro wq hSw; (try dsimp only at hSw); go_simp; (try with_reducible rfl))); (try simp only [Act.put, List.setIfInBounds_toArray, List.set_cons_zero, List.set_cons_succ])))
          refine lexT_end ?_
          clear hHeld HVF
          have hbz : w.heap.size + 3 ≤ w2.drew.heap.size := hzB
          generalize w2.drew = WB at *
          go_wp2_with (fail)
          refine (HN.out _ HWB.out).mono ?_
          rintro e w3 ⟨v3, rfl, hw3, ho3, hb3⟩
          obtain ⟨a3, c3, rfl⟩ := words_val hw3
          obtain ⟨hB3, c0, c1, fz⟩ := (HT0B.out.below hb3).cells
          have g0 := fz 0
          have g1 := fz 1
          have HLR := Lib.hid (fun s => list_round (bad3 := nb) s HT0B.out HT1B.out hw3 (ho3.trans HO.out) HLOW.out hownB hbelB hzB hb3)
          have hz3 : w.heap.size + 3 ≤ w3.heap.size := by have := hb3.size; omega
          clear HT0B HT1B HWB hw3 fz p0 p1
          go_wp2_with (fail)
          refine NoPanic.normal ?_
          have hzS : w3.heap.size = ((w3.setCell ⟨w.heap.size, 0, none⟩ (.slice a3 nw.length c3)).setCell ⟨w.heap.size, 1, none⟩ (.bool nb)).heap.size := by simp
          generalize (w3.setCell ⟨w.heap.size, 0, none⟩ (.slice a3 nw.length c3)).setCell ⟨w.heap.size, 1, none⟩ (.bool nb) = WS at *
          rw [hzS] at hz3
          clear c0 c1 g0 g1 hB3 hzS
          have hownS := (HLR.out (.string (headT ws'))).1
          go_wp2_with (at_builtin; refine wpList_append_own _ rfl _ _ 29 rfl (w.heap.size + 1 + 1) 9 i0 _ 1 16 Tryd.underlying29 hi hz0 hz1 hz2 rfl (by decide) _ _ _ rfl (hownS.alloc _) ⟨WS.heap.size, 0, none⟩ 1 1 [.string (headT ws')] rfl rfl (cell_one_new _ _ _) (by simp [Value.oneCell']) (by unfold maxLen; omega) (by omega) (by simp; omega) ?_)
          intro lv' w4 hown4 hg4 _
          obtain ⟨t0, t1, hw4, hb4, hz4⟩ := (HLR.out _).2 w4 hg4
          clear HLR hg4
          have HT04 := Lib.hid t0
          have HT14 := Lib.hid t1
          have HW4 := Lib.hid hw4
          have HO3 : Hid ((Value.slice a3 _ c3).ownBlock = (Value.slice a ws.length cap).ownBlock) := ho3.trans HO.out
          clear t0 t1 hw4 ho3
          go_wp2
          go_roundw
          case rel => exact ⟨got ++ [headT ws'], _, _, false, _, f, rfl, HT04, HT14, HW4, HO3, hsm, by rw [List.map_append, List.length_append]; exact hown4, hb4, hz4, (fun h => by cases h), by omega, by simp; omega, HL2⟩
          case measure => rw [measW_eq HT04.out HW4.out, HM.out]; exact hles
      | false =>
        have HF : Hid (loopL viewerS true (ws.length + 2) true ws false [] = (got, ws', bad)) := by
          show _ = _
          rw [HL.out]
          cases f with
          | zero => rfl
          | succ f => rw [loopL, if_neg (by rw [hc]; simp)]
        obtain ⟨hB1, r0, r1, fz⟩ := HT1x.out.cells
        have g0 := fz 0
        have g1 := fz 1
        clear fz hc
        go_wp2
        go_region
        have tS := (HT1x.out.set (.slice av ws'.length cv) bad).below (below_drew (qrefl _))
        have mS : Mod [w.heap.size + 1] wc ((wc.setCell ⟨w.heap.size + 1, 0, none⟩ (.slice av ws'.length cv)).setCell ⟨w.heap.size + 1, 1, none⟩ (.bool bad)).drew := (((Mod.refl _ _).setCell (by simp) _).setCell (by simp) _).drew
        have hownS := owns_below (owns_set (owns_set hownx (R := w.heap.size + 1) (o := 0) (by omega) (.slice av ws'.length cv)) (R := w.heap.size + 1) (o := 1) (by omega) (.bool bad)) (below_drew (qrefl _))
        have hwS : IsWords _ (.slice av ws'.length cv) ws' := IsRow.mod HWx.out mS (fun b hb hx => by have := HLOW.out b (HO.out ▸ hb); simp at hx; omega)
        have hbS : Below w.heap.size w ((wc.setCell ⟨w.heap.size + 1, 0, none⟩ (.slice av ws'.length cv)).setCell ⟨w.heap.size + 1, 1, none⟩ (.bool bad)).drew := hbelx.trans (mS.upto (by omega) (by simp))
        generalize ((wc.setCell ⟨w.heap.size + 1, 0, none⟩ (.slice av ws'.length cv)).setCell ⟨w.heap.size + 1, 1, none⟩ (.bool bad)).drew = WF at *
        obtain ⟨hBF, x0, x1, -⟩ := tS.cells
        have HWS := Lib.hid hwS
        have HOS := Lib.hid hownS
        clear hB1 r0 r1 g0 g1 hownx tS mS q0 q1 f0 f1 hB hownS hwS
        go_wp2
        refine bodyPost_ret (v := .tuple #[u6, .agg #[.slice av ws'.length cv, .bool bad]]) (by simp [results, Tryd.results64, go_sem, x0, x1]) rfl ?_
        rw [HF.out]
        exact ⟨_, _, rfl, owns_strs HOS.out, (owns_str HOS.out).lower (by omega), HWS.out, HO.out, hbS⟩
set_option maxRecDepth 100000 in
set_option maxHeartbeats 2000000 in
theorem rlist_false (v : Value) (ws : Words) (w : World) (hv : IsWords w v ws) (hlow : ∀ b, v.ownBlock = some b → b < w.heap.size) (hs : SmallW ws) :
    Calls Tryd.prog 64 #[.agg #[v, .bool false], .bool false] w (ListPost (loopL freeLabelS false (ws.length + 2) true ws false []) v w) := by
  have HV := Lib.hid hv
  obtain ⟨a, cap, rfl⟩ : ∃ a cap, v = .slice a ws.length cap := by obtain ⟨_, a, c, e, _⟩ := hv; exact ⟨a, c, e⟩
  have HLOW := Lib.hid hlow
  clear hv hlow
  obtain ⟨i0, hi, hz0, hz1, hz2⟩ := info_parts infoStr
  have hlen := hs.len
  go_enter Tryd.func64, Tryd.ntmps64
  go_wp2
  have tb0 : TBox (((w.alloc (.cells #[.slice a ws.length cap, .bool false] 57)).alloc (.cells #[.slice none 0 0, .bool false] 57)).alloc (.cells #[] 9)) w.heap.size (.slice a ws.length cap) false :=
    TBox.below (TBox.below (World.alloc_heap_new w _) (qalloc _ _)) (qalloc _ _)
  have tb1 : TBox (((w.alloc (.cells #[.slice a ws.length cap, .bool false] 57)).alloc (.cells #[.slice none 0 0, .bool false] 57)).alloc (.cells #[] 9)) (w.heap.size + 1) (.slice none 0 0) false := by
    have := World.alloc_heap_new (w.alloc (.cells #[.slice a ws.length cap, .bool false] 57)) (.cells #[.slice none 0 0, .bool false] 57)
    rw [World.size_alloc] at this
    exact TBox.below this (qalloc _ _)
  have ob0 : (((w.alloc (.cells #[.slice a ws.length cap, .bool false] 57)).alloc (.cells #[.slice none 0 0, .bool false] 57)).alloc (.cells #[] 9)).ownsRow (w.heap.size + 1 + 1) 9 1 (.slice (some ⟨w.heap.size + 1 + 1, 0, none⟩) 0 0) 0 [] := by
    refine ⟨rfl, .inr ⟨w.heap.size + 1 + 1, 0, #[], rfl, Nat.le_refl _, ?_, Nat.le_refl _, Nat.zero_le _, rfl, rfl⟩⟩
    have := World.alloc_heap_new ((w.alloc (.cells #[.slice a ws.length cap, .bool false] 57)).alloc (.cells #[.slice none 0 0, .bool false] 57)) (.cells #[] 9)
    rw [World.size_alloc, World.size_alloc] at this
    exact this
  have hbl := qtrans (qtrans (qalloc w (.cells #[.slice a ws.length cap, .bool false] 57)) (qalloc _ (.cells #[.slice none 0 0, .bool false] 57))) (qalloc _ (.cells #[] 9))
  have hv0 := IsRow.below HV.out hbl
  have hz0' : (((w.alloc (.cells #[.slice a ws.length cap, .bool false] 57)).alloc (.cells #[.slice none 0 0, .bool false] 57)).alloc (.cells #[] 9)).heap.size = w.heap.size + 3 := by simp
  generalize ((w.alloc (.cells #[.slice a ws.length cap, .bool false] 57)).alloc (.cells #[.slice none 0 0, .bool false] 57)).alloc (.cells #[] 9) = W0 at *
  have hz0'' : w.heap.size + 3 ≤ W0.heap.size := by omega
  clear hz0'
  go_loopw [6, 7] (fun ov fv wr => ∃ (got : List ByteArray) (ws' : Words) (bad first : Bool) (v' : Value) (f : Nat), fv = .bool first ∧ Hid (TBox wr w.heap.size v' bad) ∧ Hid (TBox wr (w.heap.size + 1) (.slice none 0 0) false) ∧ Hid (IsWords wr v' ws') ∧ Hid (v'.ownBlock = (Value.slice a ws.length cap).ownBlock) ∧ SmallW ws' ∧
      wr.ownsRow (w.heap.size + 1 + 1) 9 1 ov got.length (got.map .string) ∧ Below w.heap.size w wr ∧ w.heap.size + 3 ≤ wr.heap.size ∧ (first = true → bad = false) ∧ measL ws' bad first ≤ f ∧ got.length + measL ws' bad first ≤ 40003 ∧
      Hid (loopL freeLabelS false (ws.length + 2) true ws false [] = loopL freeLabelS false f first ws' bad got)) (fun _ fv wr => measW wr w.heap.size fv)
  case atStart => exact ⟨[], ws, false, true, _, ws.length + 2, rfl, tb0, tb1, hv0, rfl, hs, ob0, hbl, hz0'', fun _ => rfl, by simp [measL], by simp [measL]; omega, rfl⟩
  case round =>
    obtain ⟨got, ws', bad, first, v', f, rfl, HT0, HT1, HW, HO, hs', hown, hbel, hz, hfb, hmf, htot, HL⟩ := hrel
    clear tb0 tb1 ob0 hbl hv0 hz0''
    clear W0
    have HM := Lib.hid (measW_eq (first := first) HT0.out HW.out)
    obtain ⟨hB, q0, q1, -⟩ := HT0.out.cells
    obtain ⟨av, cv, rfl⟩ := words_val HW.out
    have hl' := hs'.len
    have HFB := Lib.hid hfb
    clear hfb
    go_upto_region 3 with (fail)
    go_cut [28] from 10 to 49 (fun c wx => c = .bool (contL false first ws' bad) ∧ Below wr.heap.size wr wx)
    case first =>
      have HIS := Lib.hid (fun (txt : ByteArray) (W : World) (hb : Below wr.heap.size wr W) => ris_b _ ws' bad txt W (IsRow.below HW.out hb) hl')
      cases first with
      | true =>
        go_wp2
        go_meet
        case rel => exact ⟨rfl, qrefl _⟩
      | false =>
        cases bad with
        | true =>
          go_wp2
          go_meet
          case rel => exact ⟨rfl, qrefl _⟩
        | false =>
          have HIS1 := Lib.hid (fun (W : World) (hb : Below wr.heap.size wr W) => HIS.out b_semi W hb)
          have HIS2 := Lib.hid (fun (W : World) (hb : Below wr.heap.size wr W) => HIS.out bb_visible W hb)
          have HC : Hid (contL false false ws' false = (!isT ws' false b_semi && (false || !isT ws' false bb_visible))) := by show _ = _; unfold contL; simp
          clear HIS
          generalize isT ws' false b_semi = s1 at *
          generalize isT ws' false bb_visible = s2 at *
          cases s1 with
          | true =>
            go_wp2_with (fail)
            refine (HIS1.out _ (qrefl _)).mono ?_
            rintro e w2 ⟨rfl, hb2⟩
            go_wp2
            go_meet
            case rel => exact ⟨by rw [HC.out]; rfl, hb2⟩
          | false =>
            go_wp2_with (fail)
            refine (HIS1.out _ (qrefl _)).mono ?_
            rintro e w2 ⟨rfl, hb2⟩
            obtain ⟨hc2, _⟩ := bcell hb2
            go_wp2_with (fail)
            refine (HIS2.out _ hb2).mono ?_
            rintro e w3 ⟨rfl, hb3⟩
            clear hc2
            cases s2 <;>
            · go_wp2
              go_meet
              case rel => exact ⟨by rw [HC.out]; rfl, qtrans hb2 hb3⟩
    case rest =>
      obtain ⟨rfl, hbx⟩ := hcut
      have HT0x := Lib.hid (HT0.out.below hbx)
      have HT1x := Lib.hid (HT1.out.below hbx)
      have HWx := Lib.hid (IsRow.below HW.out hbx)
      have hownx := owns_below hown hbx
      have hbelx := qtrans hbel hbx
      have hzx : w.heap.size + 3 ≤ wc.heap.size := by have := hbx.size; omega
      clear HT0 HT1 HW hown hbel hz q0 q1 hB hbx
      obtain ⟨hB, q0, q1, fz⟩ := HT0x.out.cells
      have f0 := fz 0
      have f1 := fz 1
      clear fz
      cases hc : contL false first ws' bad with
      | true =>
        obtain rfl : bad = false := contL_bad HFB.out hc
        have hpos : 1 ≤ measL ws' false first := by unfold measL; simp; omega
        obtain ⟨f, rfl⟩ : ∃ f', f = f' + 1 := ⟨f - 1, by omega⟩
        clear hpos
        have HL2 : Hid (loopL freeLabelS false (ws.length + 2) true ws false [] = loopL freeLabelS false f false (nextT ws' false (freeLabelS (headT ws'))).1 (nextT ws' false (freeLabelS (headT ws'))).2 (got ++ [headT ws'])) := by
          show _ = _; rw [HL.out, loopL, if_pos hc]; rfl
        have hhs := hs'.head
        have hles := @nextT_less ws' (freeLabelS (headT ws')) first
        have hsm := nextT_small hs' false (freeLabelS (headT ws'))
        clear hc
        go_wp2_with (fail)
        refine (rwordT_b _ ws' false _ HWx.out hl').mono ?_
        rintro e w2 ⟨rfl, hb2⟩
        rw [show wordT ws' false = headT ws' from rfl]
        go_wp2_with (fail)
        have hD := qtrans hb2 (below_drew (qrefl w2))
        have HT0B := Lib.hid (HT0x.out.below hD)
        have HT1B := Lib.hid (HT1x.out.below hD)
        have HWB := Lib.hid (IsRow.below HWx.out hD)
        have hownB := owns_below hownx hD
        have hbelB := qtrans hbelx hD
        have hzB : w.heap.size + 3 ≤ w2.drew.heap.size := by have := hD.size; omega
        obtain ⟨hB', p0, p1, fz⟩ := HT0B.out.cells
        clear q0 q1 f0 f1 hB fz
        have HN := Lib.hid (fun (W : World) (hw : IsWords W (.slice av ws'.length cv) ws') => rnext_any _ ws' false (freeLabelS (headT ws')) W hw hl')
        have HVF : Hid (∀ W, Calls Tryd.prog 80 #[.string (headT ws')] W fun e w' => e = .returned (.bool (freeLabelS (headT ws'))) ∧ W = w') := fun W => rlabel_any _ _ hhs
        generalize nextT ws' false (freeLabelS (headT ws')) = nx at *
        generalize freeLabelS (headT ws') = fits at *
        obtain ⟨nw, nb⟩ := nx
        simp only at hles hsm
        cases fits <;>
        · refine wp_region_noPanic (region_lexT (fun W => W.cell? ⟨w.heap.size, 0, none⟩ = some (.slice av ws'.length cv) ∧ W.cell? ⟨w.heap.size, 1, none⟩ = some (.bool false)) [true, true, true, true, false, true, true, true, true, true, true, false, true, true] mixedK (by kernel_rfl) (fun _ _ _ _ _ h => h) ⟨p0, p1⟩ (fun hHeld => ?_))
          iterate 4 (first | (refine lexT_skip (by rfl) ?_; (try simp only [Act.put, List.setIfInBounds_toArray, List.set_cons_zero, List.set_cons_succ])) | (refine lexT_take (v := ?_) (by rfl) ?_ ?_; rotate_left; (focus (intro wq hSw; (try dsimp only at hSw); go_simp; (try with_reducible rfl))); (try simp only [Act.put, List.setIfInBounds_toArray, List.set_cons_zero, List.set_cons_succ])))
          (first | (refine lexT_skip (by rfl) ?_; (try simp only [Act.put, List.setIfInBounds_toArray, List.set_cons_zero, List.set_cons_succ])) | ((refine lexT_do (by rfl) (fun K hK => ?_); go_simp); refine (HVF.out _).mono ?_; rintro e w' ⟨rfl, rfl⟩; (try go_simp); refine hK.out _ _ hHeld (fun _ => ?_); clear hK K; (try simp only [Act.put, List.setIfInBounds_toArray, List.set_cons_zero, List.set_cons_succ])))
          iterate 6 (first | (refine lexT_skip (by rfl) ?_; (try simp only [Act.put, List.setIfInBounds_toArray, List.set_cons_zero, List.set_cons_succ])) | (refine lexT_take (v := ?_) (by rfl) ?_ ?_; rotate_left; (focus (intro wq hSw; (try dsimp only at hSw); go_simp; (try with_reducible rfl))); (try simp only [Act.put, List.setIfInBounds_toArray, List.set_cons_zero, List.set_cons_succ])))
          (first | (refine lexT_skip (by rfl) ?_; (try simp only [Act.put, List.setIfInBounds_toArray, List.set_cons_zero, List.set_cons_succ])) | ((refine lexT_do (by rfl) (fun K hK => ?_); go_simp); refine (HVF.out _).mono ?_; rintro e w' ⟨rfl, rfl⟩; (try go_simp); refine hK.out _ _ hHeld (fun _ => ?_); clear hK K; (try simp only [Act.put, List.setIfInBounds_toArray, List.set_cons_zero, List.set_cons_succ])))
          iterate 2 (first | (refine lexT_skip (by rfl) ?_; (try simp only [Act.put, List.setIfInBounds_toArray, List.set_cons_zero, List.set_cons_succ])) | (refine lexT_take (v := ?_) (by rfl) ?_ ?_; rotate_left; (focus (intro wq hSw; (try dsimp only at hSw); go_simp; (try with_reducible rfl))); (try simp only [Act.put, List.setIfInBounds_toArray, List.set_cons_zero, List.set_cons_succ])))
          refine lexT_end ?_
          clear hHeld HVF
          have hbz : w.heap.size + 3 ≤ w2.drew.heap.size := hzB
          generalize w2.drew = WB at *
          go_wp2_with (fail)
          refine (HN.out _ HWB.out).mono ?_
          rintro e w3 ⟨v3, rfl, hw3, ho3, hb3⟩
          obtain ⟨a3, c3, rfl⟩ := words_val hw3
          obtain ⟨hB3, c0, c1, fz⟩ := (HT0B.out.below hb3).cells
          have g0 := fz 0
          have g1 := fz 1
          have HLR := Lib.hid (fun s => list_round (bad3 := nb) s HT0B.out HT1B.out hw3 (ho3.trans HO.out) HLOW.out hownB hbelB hzB hb3)
          have hz3 : w.heap.size + 3 ≤ w3.heap.size := by have := hb3.size; omega
          clear HT0B HT1B HWB hw3 fz p0 p1
          go_wp2_with (fail)
          refine NoPanic.normal ?_
          have hzS : w3.heap.size = ((w3.setCell ⟨w.heap.size, 0, none⟩ (.slice a3 nw.length c3)).setCell ⟨w.heap.size, 1, none⟩ (.bool nb)).heap.size := by simp
          generalize (w3.setCell ⟨w.heap.size, 0, none⟩ (.slice a3 nw.length c3)).setCell ⟨w.heap.size, 1, none⟩ (.bool nb) = WS at *
          rw [hzS] at hz3
          clear c0 c1 g0 g1 hB3 hzS
          have hownS := (HLR.out (.string (headT ws'))).1
          go_wp2_with (at_builtin; refine wpList_append_own _ rfl _ _ 29 rfl (w.heap.size + 1 + 1) 9 i0 _ 1 16 Tryd.underlying29 hi hz0 hz1 hz2 rfl (by decide) _ _ _ rfl (hownS.alloc _) ⟨WS.heap.size, 0, none⟩ 1 1 [.string (headT ws')] rfl rfl (cell_one_new _ _ _) (by simp [Value.oneCell']) (by unfold maxLen; omega) (by omega) (by simp; omega) ?_)
          intro lv' w4 hown4 hg4 _
          obtain ⟨t0, t1, hw4, hb4, hz4⟩ := (HLR.out _).2 w4 hg4
          clear HLR hg4
          have HT04 := Lib.hid t0
          have HT14 := Lib.hid t1
          have HW4 := Lib.hid hw4
          have HO3 : Hid ((Value.slice a3 _ c3).ownBlock = (Value.slice a ws.length cap).ownBlock) := ho3.trans HO.out
          clear t0 t1 hw4 ho3
          go_wp2
          go_roundw
          case rel => exact ⟨got ++ [headT ws'], _, _, false, _, f, rfl, HT04, HT14, HW4, HO3, hsm, by rw [List.map_append, List.length_append]; exact hown4, hb4, hz4, (fun h => by cases h), by omega, by simp; omega, HL2⟩
          case measure => rw [measW_eq HT04.out HW4.out, HM.out]; exact hles
      | false =>
        have HF : Hid (loopL freeLabelS false (ws.length + 2) true ws false [] = (got, ws', bad)) := by
          show _ = _
          rw [HL.out]
          cases f with
          | zero => rfl
          | succ f => rw [loopL, if_neg (by rw [hc]; simp)]
        obtain ⟨hB1, r0, r1, fz⟩ := HT1x.out.cells
        have g0 := fz 0
        have g1 := fz 1
        clear fz hc
        go_wp2
        go_region
        have tS := (HT1x.out.set (.slice av ws'.length cv) bad).below (below_drew (qrefl _))
        have mS : Mod [w.heap.size + 1] wc ((wc.setCell ⟨w.heap.size + 1, 0, none⟩ (.slice av ws'.length cv)).setCell ⟨w.heap.size + 1, 1, none⟩ (.bool bad)).drew := (((Mod.refl _ _).setCell (by simp) _).setCell (by simp) _).drew
        have hownS := owns_below (owns_set (owns_set hownx (R := w.heap.size + 1) (o := 0) (by omega) (.slice av ws'.length cv)) (R := w.heap.size + 1) (o := 1) (by omega) (.bool bad)) (below_drew (qrefl _))
        have hwS : IsWords _ (.slice av ws'.length cv) ws' := IsRow.mod HWx.out mS (fun b hb hx => by have := HLOW.out b (HO.out ▸ hb); simp at hx; omega)
        have hbS : Below w.heap.size w ((wc.setCell ⟨w.heap.size + 1, 0, none⟩ (.slice av ws'.length cv)).setCell ⟨w.heap.size + 1, 1, none⟩ (.bool bad)).drew := hbelx.trans (mS.upto (by omega) (by simp))
        generalize ((wc.setCell ⟨w.heap.size + 1, 0, none⟩ (.slice av ws'.length cv)).setCell ⟨w.heap.size + 1, 1, none⟩ (.bool bad)).drew = WF at *
        obtain ⟨hBF, x0, x1, -⟩ := tS.cells
        have HWS := Lib.hid hwS
        have HOS := Lib.hid hownS
        clear hB1 r0 r1 g0 g1 hownx tS mS q0 q1 f0 f1 hB hownS hwS
        go_wp2
        refine bodyPost_ret (v := .tuple #[u6, .agg #[.slice av ws'.length cv, .bool bad]]) (by simp [results, Tryd.results64, go_sem, x0, x1]) rfl ?_
        rw [HF.out]
        exact ⟨_, _, rfl, owns_strs HOS.out, (owns_str HOS.out).lower (by omega), HWS.out, HO.out, hbS⟩
end Go.Proofs.YtgcmekpfhagnbaaDoor
