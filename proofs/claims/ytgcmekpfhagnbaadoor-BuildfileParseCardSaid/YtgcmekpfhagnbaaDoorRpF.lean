/- The reference's Parse. -/
import Derived.Test.YtgcmekpfhagnbaaDoorRpP
namespace Go.Proofs.YtgcmekpfhagnbaaDoor
open Go.RowKit

theorem owns_other {w w' : World} {base : Nat} {e : TypeId} {size : Nat} {v : Value} {n : Nat} {xs : List Value} (h : w.ownsRow base e size v n xs) {R : Nat} {cs : Array Value} {t : TypeId} {q : Nat × Nat} (m : Mod [R] w w') (hR : w.heap[R]? = some (.cells cs t q)) (ht : t ≠ e) : w'.ownsRow base e size v n xs := by
  obtain ⟨h1, h2⟩ := h
  refine ⟨h1, ?_⟩
  rcases h2 with h2 | ⟨g, cap, cur, hv, hg, hh, r⟩
  · exact .inl h2
  · refine .inr ⟨g, cap, cur, hv, hg, m.heap hh (fun hx => ?_), r⟩
    simp at hx
    subst hx
    rw [hR] at hh
    cases hh
    exact ht rfl
theorem RC.other {w w' : World} {B R : Nat} {cs : Array Value} {t : TypeId} {q : Nat × Nat} (m : Mod [R] w w') (hR : w.heap[R]? = some (.cells cs t q)) (ht : t ≠ 9) : ∀ {rs : List Rule} {xs : List Value}, RC w B rs xs → RC w' B rs xs
  | [], _, h => h
  | _ :: _, _, ⟨dv, vv, rest, e, h1, h2, h3⟩ => ⟨dv, vv, rest, e, StrL.other h1 m hR ht, StrL.other h2 m hR ht, RC.other m hR ht h3⟩
theorem RC.below {w w' : World} {B : Nat} (m : Below w.heap.size w w') : ∀ {rs : List Rule} {xs : List Value}, RC w B rs xs → RC w' B rs xs
  | [], _, h => h
  | _ :: _, _, ⟨dv, vv, rest, e, h1, h2, h3⟩ => ⟨dv, vv, rest, e, StrL.below h1 m, StrL.below h2 m, RC.below m h3⟩
theorem TBox.grown {w w' : World} {R : Nat} {v lv : Value} {bad : Bool} (h : TBox w R v bad) (g : w.grownBy w' lv.ownBlock) (hrow : ∀ b, lv.ownBlock = some b → ∃ cur m, w.heap[b]? = some (.cells cur 42 m)) : TBox w' R v bad := by
  have h' : w.heap[R]? = _ := h
  refine (g.block R (Array.getElem?_eq_some_iff.1 h').1 (fun e => ?_)).trans h'
  obtain ⟨cur, q, hh⟩ := hrow R e.symm
  rw [h'] at hh
  cases hh
def measP (w : World) (B : Nat) : Nat := measW w B (.bool false)
theorem endT_less (ws : Words) : measL (endT ws).1 (endT ws).2 false < measL ws false false := by
  rcases rule_law ⟨ws, 0, ⟨#[]⟩, [], []⟩ with ⟨hb, he, _⟩ | ⟨_, he⟩
  · have : (stepsFrom 0 5 ⟨ws, 0, ⟨#[]⟩, [], []⟩).2.ws.length < ws.length := by
      rcases steps_inv ⟨ws, 0, ⟨#[]⟩, [], []⟩ with ⟨_, W, hW, hr⟩ | ⟨hb', _⟩
      · have := congrArg List.length hW
        rw [List.length_append] at this
        have := hr.ne
        simp only at *
        omega
      · rw [hb] at hb'; cases hb'
    simp only at he
    rw [he]
    simp [measL]
    exact this
  · have : (stepsFrom 0 5 ⟨ws, 0, ⟨#[]⟩, [], []⟩).2.ws.length ≤ ws.length := by
      rcases steps_inv ⟨ws, 0, ⟨#[]⟩, [], []⟩ with ⟨_, W, hW, hr⟩ | ⟨_, W, hW, _⟩ <;>
      · have := congrArg List.length hW
        rw [List.length_append] at this
        simp only at *
        omega
    simp only at he
    rw [he]
    simp [measL]
    omega
/-- The words lie in a block of their own type. -/
def WTy (w : World) (v : Value) : Prop := ∀ b, v.ownBlock = some b → ∃ cur m, w.heap[b]? = some (.cells cur 61 m)
theorem WTy.below {w w' : World} {v : Value} (h : WTy w v) (m : Below w.heap.size w w') : WTy w' v := fun b hb => by
  obtain ⟨cur, q, hh⟩ := h b hb
  exact ⟨cur, q, (m.block b (Array.getElem?_eq_some_iff.1 hh).1).trans hh⟩
theorem WTy.mod {w w' : World} {v : Value} {X : List Nat} (h : WTy w v) (m : Mod X w w') (hX : ∀ k, k ∈ X → ∀ cur q, w.heap[k]? ≠ some (.cells cur 61 q)) : WTy w' v ∧ ∀ b, v.ownBlock = some b → b ∉ X :=
  ⟨fun b hb => by
    obtain ⟨cur, q, hh⟩ := h b hb
    exact ⟨cur, q, m.heap hh (fun hx => hX b hx cur q hh)⟩, fun b hb hx => by
    obtain ⟨cur, q, hh⟩ := h b hb
    exact hX b hx cur q hh⟩
theorem cell_four' (w : World) (x y z u : Value) (t : TypeId) {h : Nat} (e : w.heap.size = h) : ∀ j q, [x, y, z, u][j]? = some q → (w.alloc (.cells #[x, y, z, u] t)).cell? ((⟨h, 0, none⟩ : Addr).add j) = some q := by
  rw [← e]; exact cell_four w x y z u t
/-- What a round of Parse leaves, with no program in sight. -/
theorem parse_round {w w2 : World} {R B n : Nat} {vold ov : Value} {badold : Bool} {rs : List Rule} {xs : List Value} {r : Rule} {dv vv v' : Value} {bad' : Bool} {ws' : Words}
    (hR : TBox w2 R vold badold) (hown : w2.ownsRow w.heap.size 42 4 ov n xs) (hrc : RC w2 B rs xs) (hd : StrL w2 B dv r.deps) (hv : StrL w2 B vv r.vis) (hw : IsWords w2 v' ws') (hty : WTy w2 v')
    (hbel : Below w.heap.size w w2) (hwR : w.heap.size ≤ R) :
    ∀ (w3 : World) (lv' : Value) (m : Nat) (ys : List Value), (((w2.alloc (.cells #[.int .i64 r.kind, .string r.name, dv, vv] 42)).alloc (.cells #[v', .bool bad'] 57)).alloc (.cells #[.int .i64 r.kind, .string r.name, dv, vv] 42)).grownBy w3 ov.ownBlock → w3.ownsRow w.heap.size 42 4 lv' m ys →
      TBox w3 (w2.heap.size + 1) v' bad' ∧ TBox w3 R vold badold ∧
      ∀ WF, WF = (w3.setCell ⟨R, 0, none⟩ v').setCell ⟨R, 1, none⟩ (.bool bad') → TBox WF R v' bad' ∧ IsWords WF v' ws' ∧ WTy WF v' ∧ WF.ownsRow w.heap.size 42 4 lv' m ys ∧ RC WF B (rs ++ [r]) (xs ++ [.int .i64 r.kind, .string r.name, dv, vv]) ∧ Below w.heap.size w WF ∧ R + 1 ≤ WF.heap.size := by
  have tb2 : TBox ((w2.alloc (.cells #[.int .i64 r.kind, .string r.name, dv, vv] 42)).alloc (.cells #[v', .bool bad'] 57)) (w2.heap.size + 1) v' bad' := by
    have := World.alloc_heap_new (w2.alloc (.cells #[.int .i64 r.kind, .string r.name, dv, vv] 42)) (.cells #[v', .bool bad'] 57)
    rw [World.size_alloc] at this
    exact this
  have tb2' := tb2.below (qalloc _ (.cells #[.int .i64 r.kind, .string r.name, dv, vv] 42))
  have bA := qtrans (qtrans (qalloc w2 (.cells #[.int .i64 r.kind, .string r.name, dv, vv] 42)) (qalloc _ (.cells #[v', .bool bad'] 57))) (qalloc _ (.cells #[.int .i64 r.kind, .string r.name, dv, vv] 42))
  generalize ((w2.alloc (.cells #[.int .i64 r.kind, .string r.name, dv, vv] 42)).alloc (.cells #[v', .bool bad'] 57)).alloc (.cells #[.int .i64 r.kind, .string r.name, dv, vv] 42) = W2 at *
  clear tb2
  intro w3 lv' m ys hg hown3
  have hownA := owns_below hown bA
  have hrow := owns_type hownA
  have tR := (hR.below bA).grown hg hrow
  refine ⟨tb2'.grown hg hrow, tR, ?_⟩
  rintro WF rfl
  have mg : Mod ov.ownBlock.toList W2 w3 := ⟨hg.os, hg.tape, hg.output, hg.size, fun k hk hx => hg.block k hk (fun e => hx (by rw [← e]; simp))⟩
  have hne : ∀ k, k ∈ ov.ownBlock.toList → ∀ cur q, W2.heap[k]? ≠ some (.cells cur 61 q) := fun k hk cur q hh => by
    obtain ⟨cur', q', hh'⟩ := hrow k (by simpa using hk)
    rw [hh] at hh'
    cases hh'
  obtain ⟨ty3, nb3⟩ := (hty.below bA).mod mg hne
  have hw3 : IsWords w3 v' ws' := IsRow.mod (IsRow.below hw bA) mg nb3
  have rc3 : RC w3 B (rs ++ [r]) (xs ++ [.int .i64 r.kind, .string r.name, dv, vv]) := by
    have d2 := hd.below bA
    have v2 := hv.below bA
    exact RC.snoc (d2.1.grown d2.2 hg (by decide) hrow rfl) (v2.1.grown v2.2 hg (by decide) hrow rfl) ((hrc.below bA).grown hg (by decide) hrow)
  have b3 : Below w.heap.size w w3 := (qtrans hbel bA).grown hg (by have := bA.size; have := hbel.size; omega) (fun k hk => owns_block hownA hk)
  have mS : Mod [R] w3 ((w3.setCell ⟨R, 0, none⟩ v').setCell ⟨R, 1, none⟩ (.bool bad')) := ((Mod.refl _ _).setCell (by simp) _).setCell (by simp) _
  have tR' : w3.heap[R]? = _ := tR
  obtain ⟨tyF, nbF⟩ := ty3.mod mS (fun k hk cur q hh => by simp at hk; subst hk; rw [tR'] at hh; cases hh)
  exact ⟨tR.set v' bad', IsRow.mod hw3 mS nbF, tyF, owns_other hown3 mS tR' (by decide), rc3.other mS tR' (by decide), b3.trans (mS.upto b3.size (by simpa using hwR)), by have := (Array.getElem?_eq_some_iff.1 tR').1; simp; omega⟩
theorem IsRules.empty (w : World) {b : Nat} {t : TypeId} {q : Nat × Nat} (_h : w.heap[b]? = some (.cells #[] t q)) : IsRules w (.slice (some ⟨b, 0, Option.none⟩) 0 0) [] := ⟨[], ⟨rfl, _, 0, rfl, Nat.le_refl _, Nat.zero_le _, fun h => absurd h (Nat.lt_irrefl _)⟩, rfl⟩
set_option maxRecDepth 100000 in
set_option maxHeartbeats 2000000 in
theorem rParse_any (s : ByteArray) (hs : s.size ≤ 1000) (w : World) :
    Calls Tryd.prog 13 #[.string s] w (ParsePost (refR s) w) := by
  have hw0 := wordsOf_length s
  have hsm : SmallW (wordsOf s) := ⟨by omega, fun x hx => by have := toks_small s _ _ x hx; omega⟩
  have hd : decide (65536 < (s.size : Int)) = false := by simp; omega
  obtain ⟨i0, hi, hz0, hz1, hz2⟩ := info_parts infoRule
  go_enter Tryd.func13, Tryd.ntmps13
  go_wp2_with (go_at_call 32; refine (rWords_any s hs _).mono ?_; rintro e w1 ⟨v, rfl, hv, hvb, hb1⟩; obtain ⟨a, cap, rfl⟩ := words_val hv)
  have ow0 : (w.alloc (.cells #[] 42)).ownsRow w.heap.size 42 4 (.slice (some ⟨w.heap.size, 0, none⟩) 0 0) 0 [] := ⟨rfl, .inr ⟨w.heap.size, 0, #[], rfl, Nat.le_refl _, World.alloc_heap_new _ _, Nat.le_refl _, Nat.zero_le _, rfl, rfl⟩⟩
  have hbw := qtrans (qalloc w (.cells #[] 42)) hb1
  have ow1 := owns_below ow0 hb1
  have hty : WTy w1 (Value.slice a (wordsOf s).length cap) := hvb
  have hvl : ∀ b, (Value.slice a (wordsOf s).length cap).ownBlock = some b → b < w1.heap.size := fun b hb => by
    obtain ⟨_, _, hh⟩ := hvb b hb
    exact (Array.getElem?_eq_some_iff.1 hh).1
  have tb : TBox (w1.alloc (.cells #[.slice a (wordsOf s).length cap, .bool false] 57)) w1.heap.size (.slice a (wordsOf s).length cap) false := World.alloc_heap_new _ _
  have hbT := qalloc w1 (.cells #[.slice a (wordsOf s).length cap, .bool false] 57)
  have hvT := IsRow.below hv hbT
  have htyT := hty.below hbT
  have ow2 := owns_below ow1 hbT
  have hbw2 := qtrans hbw hbT
  have hRz : w1.heap.size + 1 ≤ (w1.alloc (.cells #[.slice a (wordsOf s).length cap, .bool false] 57)).heap.size := by simp
  have hwR : w.heap.size ≤ w1.heap.size := hbw.size
  generalize w1.alloc (.cells #[.slice a (wordsOf s).length cap, .bool false] 57) = W0 at *
  clear hb1 hbw ow0 ow1 hbT hv hvb hty
  generalize w1.heap.size = R at *
  have HVL := Lib.hid hvl
  clear hvl
  go_loopw [5] (fun ov wr => ∃ (ws : Words) (bad : Bool) (rs : List Rule) (xs : List Value) (v : Value) (f : Nat), Hid (TBox wr R v bad) ∧ Hid (IsWords wr v ws) ∧ Hid (WTy wr v) ∧ Hid (v.ownBlock = (Value.slice a (wordsOf s).length cap).ownBlock) ∧ SmallW ws ∧ SmallRs rs ∧ wr.ownsRow w.heap.size 42 4 ov rs.length xs ∧ Hid (RC wr w.heap.size rs xs) ∧ Below w.heap.size w wr ∧ R + 1 ≤ wr.heap.size ∧ measL ws bad false ≤ f ∧ rs.length + measL ws bad false ≤ 1001 ∧
      Hid (loopP ((wordsOf s).length + 1) (wordsOf s) false [] = loopP f ws bad rs)) (fun _ wr => measP wr R)
  case atStart => exact ⟨wordsOf s, false, [], [], _, (wordsOf s).length + 1, tb, hvT, htyT, rfl, hsm, ⟨by simp⟩, ow2, rfl, hbw2, hRz, by simp [measL], by simp [measL]; omega, rfl⟩
  case round =>
    obtain ⟨ws, bad, rs, xs, v, f, HT, HW, HY, HO, hsw, hsr, hown, HRC, hbel, hz, hmf, htot, HL⟩ := hrel
    clear tb hvT htyT ow2 hbw2 hRz
    clear W0
    have HM := Lib.hid (measW_eq (first := false) HT.out HW.out)
    obtain ⟨hB, q0, q1, -⟩ := HT.out.cells
    obtain ⟨av, cv, rfl⟩ := words_val HW.out
    have hl := hsw.len
    by_cases hgo : 0 < ws.length ∧ bad = false
    · obtain ⟨hpos, rfl⟩ := hgo
      have hd1 : decide (0 < ws.length) = true := decide_eq_true hpos
      obtain ⟨f, rfl⟩ : ∃ f', f = f' + 1 := ⟨f - 1, by simp [measL] at hmf; omega⟩
      have HL2 : Hid (loopP ((wordsOf s).length + 1) (wordsOf s) false [] = loopP f (endT ws).1 (endT ws).2 (rs ++ [ruleT ws])) := by
        show _ = _; rw [HL.out, loopP, hd1]; rfl
      have hless := endT_less ws
      have hlo : Hid (∀ b, (Value.slice av ws.length cv).ownBlock = some b → b < wr.heap.size) := fun b hb => by have := HVL.out b (HO.out ▸ hb); omega
      obtain ⟨-, -, -, -, s5, s6, s7, s8, -⟩ := ruleT_small hsw
      have hsr' : SmallRs (rs ++ [ruleT ws]) := ⟨fun r hr => by
        rcases List.mem_append.1 hr with h | h
        · exact hsr.all r h
        · rw [List.mem_singleton.1 h]; exact ⟨s6, s7, s8⟩⟩
      clear s6 s7 s8
      go_wp2_with (fail)
      refine (rruleT_any _ ws _ HW.out hlo.out hsw).mono ?_
      rintro e w2 ⟨dv, vv, v', rfl, hdl, hvl', hw2, ho2, hb2⟩
      obtain ⟨a2, c2, rfl⟩ := words_val hw2
      obtain ⟨ad, cd, rfl⟩ := hdl.1.val
      obtain ⟨ax, cx, rfl⟩ := hvl'.1.val
      have hown2 := owns_below hown hb2
      have hB2 := qtrans hbel hb2
      have hyt2 : WTy w2 (.slice a2 (endT ws).1.length c2) := fun b hb => (HY.out.below hb2) b (ho2 ▸ hb)
      have HPR := Lib.hid (parse_round (r := ruleT ws) (bad' := (endT ws).2) (HT.out.below hb2) hown2 (HRC.out.below hb2) ⟨hdl.1, hdl.2.lower hbel.size⟩ ⟨hvl'.1, hvl'.2.lower hbel.size⟩ hw2 hyt2 hB2 hwR)
      have hzz : R + 1 ≤ w2.heap.size := by have := hb2.size; omega
      have HO2 : Hid ((Value.slice a2 (endT ws).1.length c2).ownBlock = (Value.slice a (wordsOf s).length cap).ownBlock) := ho2.trans HO.out
      have hwz : w.heap.size ≤ w2.heap.size := hB2.size
      clear HT HRC hdl hvl' hw2 hyt2 hown q0 q1 hB hlo hbel hz HY ho2 hb2
      go_wp2_with (at_builtin; refine wpList_append_own _ rfl _ _ 23 rfl w.heap.size 42 i0 _ 4 72 Tryd.underlying23 hi hz0 hz1 hz2 rfl (by decide) _ _ _ rfl (((hown2.alloc _).alloc _).alloc _) ⟨w2.heap.size + 1 + 1, 0, none⟩ 1 1 [.int .i64 (kdT ws), .string (nmT ws), .slice ad (dT ws).1.length cd, .slice ax (vT ws).1.length cx] rfl rfl (cell_four' _ _ _ _ _ _ (by simp)) (by simp [Value.oneCell']) (by unfold maxLen; omega) (by omega) (by simp; omega) ?_)
      intro lv' w3 hown3 hg3 _
      obtain ⟨t2, tR, hF⟩ := HPR.out w3 lv' _ _ hg3 hown3
      have HF := Lib.hid (hF _ rfl)
      obtain ⟨hB2', x0, x1, -⟩ := t2.cells
      obtain ⟨hBR, y0, y1, fz⟩ := tR.cells
      have f0 := fz 0
      have f1 := fz 1
      clear fz hF t2 tR HPR hg3 hown3 hown2
      go_wp2
      obtain ⟨tF, wF, yF, oF, rF, bF, zF⟩ := HF.out
      generalize (w3.setCell ⟨R, 0, none⟩ (.slice a2 (endT ws).1.length c2)).setCell ⟨R, 1, none⟩ (.bool (endT ws).2) = WF at *
      clear HF x0 x1 y0 y1 f0 f1 hBR hB2'
      go_roundw
      case rel => exact ⟨_, _, rs ++ [ruleT ws], _, _, f, tF, wF, yF, HO2, s5, hsr', by rw [List.length_append]; exact oF, rF, bF, zF, by omega, by simp; omega, HL2⟩
      case measure => show measW WF R (.bool false) < measW wr R (.bool false); rw [measW_eq tF wF, HM.out]; exact hless
    · have HE : Hid (loopP ((wordsOf s).length + 1) (wordsOf s) false [] = (rs, ws, bad)) := by
        show _ = _
        rw [HL.out]
        cases f with
        | zero => rfl
        | succ f =>
          rw [loopP, if_neg]
          intro hc
          rw [Bool.and_eq_true, decide_eq_true_eq, Bool.not_eq_true'] at hc
          exact hgo hc
      have HN : Hid (IsRules wr u5 rs) := ⟨xs, owns_row hown, HRC.out.cells⟩
      obtain ⟨al, cl, rfl⟩ := owns_val hown
      clear hown HRC HL HM
      cases bad with
      | true =>
        clear HN
        cases ws with
        | nil =>
          have HF : Hid (refR s = (([] : List Rule), ((s.size : Nat) : Int), (3 : Int))) := by show _ = _; unfold refR; rw [HE.out]
          clear hgo
          simp only [List.length_nil] at q0
          go_wp2
          go_ret3
          rw [HF.out]
          exact ⟨_, rfl, IsRules.empty _ (World.alloc_heap_new _ _), qtrans hbel (qalloc _ _)⟩
        | cons x r =>
          have HF : Hid (refR s = (([] : List Rule), ((x.2 : Nat) : Int), (3 : Int))) := by show _ = _; unfold refR; rw [HE.out]
          clear hgo
          obtain ⟨b, o, cap', e, k1, k2, kb, c0, c1, -⟩ := HW.out.cons
          cases e
          simp only [List.length_cons] at q0 hl
          have hne : (((r.length + 1 : Nat) : Int) == 0) = false := by rw [beq_eq_false_iff_ne]; omega
          have hp1 : decide (0 < r.length + 1) = true := decide_eq_true (by omega)
          go_wp2
          go_region
          go_wp2
          go_ret3
          rw [HF.out]
          exact ⟨_, rfl, IsRules.empty _ (World.alloc_heap_new _ _), below_drew (qtrans hbel (qalloc _ _))⟩
      | false =>
        have hws : ws = [] := by
          cases ws with
          | nil => rfl
          | cons x r => exact absurd ⟨by simp, rfl⟩ hgo
        subst hws
        clear hgo
        simp only [List.length_nil] at q0
        have hrl : rs.length ≤ 1000 := by simp [measL] at htot; omega
        by_cases hce : checkErr rs = 0
        · have HF : Hid (refR s = (rs, 0, 0)) := by show _ = _; unfold refR; rw [HE.out]; simp only; rw [if_pos hce]
          have hce' : (checkErr rs != 0) = false := by simp [hce]
          clear hce
          go_wp2_with (go_at_call 23; refine (rCheck_any _ rs _ HN.out hsr (by omega)).mono ?_; rintro e w2 ⟨rfl, hb2⟩)
          go_ret3
          rw [HF.out]
          exact ⟨_, rfl, HN.out.below hb2, hbel.trans (hb2.mono hbel.size)⟩
        · have HF : Hid (refR s = ([], 0, checkErr rs)) := by show _ = _; unfold refR; rw [HE.out]; simp only; rw [if_neg hce]
          have hce' : (checkErr rs != 0) = true := by simp [hce]
          clear hce
          go_wp2_with (go_at_call 23; refine (rCheck_any _ rs _ HN.out hsr (by omega)).mono ?_; rintro e w2 ⟨rfl, hb2⟩)
          go_ret3
          rw [HF.out]
          exact ⟨_, rfl, IsRules.empty _ (World.alloc_heap_new _ _), qtrans (hbel.trans (hb2.mono hbel.size)) (qalloc _ _)⟩
end Go.Proofs.YtgcmekpfhagnbaaDoor
