/- The reference's reading of rules is the reader's. Plain. -/
import Derived.Test.YtgcmekpfhagnbaaDoorRpE
import Derived.Test.YtgcmekpfhagnbaaDoorPlA
namespace Go.Proofs.YtgcmekpfhagnbaaDoor

theorem isT_head (ws : Words) (txt : ByteArray) (h : txt.data.toList ≠ []) : isT ws false txt = ((headT ws).toList == txt.toList) := by
  cases ws with
  | nil =>
    rw [tl, tl]
    show false = (([] : List UInt8) == txt.data.toList)
    cases e : txt.data.toList with
    | nil => exact absurd e h
    | cons a b => rfl
  | cons x r => rfl
theorem nextT_no (ws : Words) (bad : Bool) : nextT ws bad false = (ws, true) := by unfold nextT; simp
theorem nextT_bad (ws : Words) (fits : Bool) : nextT ws true fits = (ws, true) := by unfold nextT; simp
theorem nextT_yes (x : ByteArray × Nat) (r : Words) : nextT (x :: r) false true = (r, false) := rfl
theorem isT_bad (ws : Words) (txt : ByteArray) : isT ws true txt = false := rfl
/-- What a list may not hold. -/
structure Stops (vb : ByteArray → Bool) (vis : Bool) : Prop where
  nil : vb ⟨#[]⟩ = false
  semi : ∀ s : ByteArray, s.data.toList = b_semi.data.toList → vb s = false
  visible : vis = false → ∀ s : ByteArray, s.data.toList = bb_visible.data.toList → vb s = false
theorem stopsF : Stops freeLabelS false := ⟨free_nil, fun _ h => (free_semi h).1, fun _ _ h => (free_vis h).1⟩
theorem stopsV : Stops viewerS true := ⟨viewer_nil, fun _ h => (free_semi h).2.1, fun h => by cases h⟩
def stopL (vis : Bool) (rest : Words) : Bool := isT rest false b_semi || (!vis && isT rest false bb_visible)
theorem contL_stop (vis : Bool) (rest : Words) : contL vis false rest false = !stopL vis rest := by
  unfold contL stopL
  cases isT rest false b_semi <;> cases vis <;> cases isT rest false bb_visible <;> rfl
theorem stopL_valid {vb : ByteArray → Bool} {vis : Bool} (h : Stops vb vis) {x : ByteArray × Nat} (hx : vb x.1 = true) (r : Words) : stopL vis (x :: r) = false := by
  unfold stopL
  rw [isT_head _ _ (by decide), isT_head _ _ (by decide), tl, tl, tl]
  show ((x.1.data.toList == b_semi.data.toList) || (!vis && (x.1.data.toList == bb_visible.data.toList))) = false
  have h1 : (x.1.data.toList == b_semi.data.toList) = false := by
    cases e : (x.1.data.toList == b_semi.data.toList) with
    | false => rfl
    | true => rw [h.semi x.1 (beq_iff_eq.1 e)] at hx; cases hx
  rw [h1, Bool.false_or]
  cases hv : vis with
  | true => rfl
  | false =>
    have h2 : (x.1.data.toList == bb_visible.data.toList) = false := by
      cases e : (x.1.data.toList == bb_visible.data.toList) with
      | false => rfl
      | true => rw [h.visible hv x.1 (beq_iff_eq.1 e)] at hx; cases hx
    rw [h2]; rfl
theorem loopL_bad (vb : ByteArray → Bool) (vis : Bool) (f : Nat) (ws : Words) (got : List ByteArray) : loopL vb vis f false ws true got = (got, ws, true) := by
  cases f with
  | zero => rfl
  | succ f => rw [loopL, if_neg (by simp [contL])]
theorem loopL_inv {vb : ByteArray → Bool} {vis : Bool} (h : Stops vb vis) {rest : Words} (hr : vb (headT rest) = false) : ∀ (L : Words) (f : Nat) (first : Bool) (got : List ByteArray), (∀ x ∈ L, vb x.1 = true) → L.length + 1 ≤ f →
    (L ≠ [] ∨ first = false → stopL vis rest = true → loopL vb vis f first (L ++ rest) false got = (got ++ L.map (·.1), rest, false)) ∧
    ((L = [] ∧ first = true) ∨ stopL vis rest = false → ∃ g, loopL vb vis f first (L ++ rest) false got = (g, rest, true))
  | [], f, first, got, _, hf => by
    obtain ⟨f, rfl⟩ : ∃ f', f = f' + 1 := ⟨f - 1, by simp at hf; omega⟩
    refine ⟨fun h1 h2 => ?_, fun h1 => ?_⟩
    · have hfi : first = false := h1.elim (fun e => absurd rfl e) id
      rw [List.nil_append, loopL, hfi, contL_stop, h2]
      simp
    · have hc : contL vis first rest false = true := by
        rcases h1 with ⟨_, rfl⟩ | h1
        · rfl
        · cases first with
          | true => rfl
          | false => rw [contL_stop, h1]; rfl
      rw [List.nil_append, loopL, if_pos hc, show wordT rest false = headT rest from rfl, hr, nextT_no, loopL_bad]
      exact ⟨_, rfl⟩
  | x :: L, f, first, got, hL, hf => by
    obtain ⟨f, rfl⟩ : ∃ f', f = f' + 1 := ⟨f - 1, by simp at hf; omega⟩
    simp only [List.length_cons] at hf
    have hx := hL x (List.mem_cons_self ..)
    have hc : contL vis first (x :: (L ++ rest)) false = true := by
      cases first with
      | true => rfl
      | false => rw [contL_stop, stopL_valid h hx]; rfl
    have ih := loopL_inv h hr L f false (got ++ [x.1]) (fun y hy => hL y (List.mem_cons_of_mem _ hy)) (by omega)
    have e : loopL vb vis (f + 1) first (x :: L ++ rest) false got = loopL vb vis f false (L ++ rest) false (got ++ [x.1]) := by
      rw [List.cons_append, loopL, if_pos hc, show wordT (x :: (L ++ rest)) false = x.1 from rfl, hx, nextT_yes]
    rw [e]
    refine ⟨fun _ h2 => ?_, fun h1 => ?_⟩
    · rw [ih.1 (.inr rfl) h2]; simp
    · refine ih.2 (.inr ?_)
      rcases h1 with ⟨h1, _⟩ | h1
      · cases h1
      · exact h1
/-- A list after its word: as the reader has it. -/
theorem partT_listOf {txt : ByteArray} {vb : ByteArray → Bool} {vis : Bool} (h : Stops vb vis) (hne : txt.data.toList ≠ []) (ws : Words) :
    ((listOf txt vb ws).2.1 = false ∧ ∃ g, partT txt vb vis (ws, false) = (g, (listOf txt vb ws).2.2, true)) ∨
    ((listOf txt vb ws).2.1 = true ∧ ((partT txt vb vis (ws, false) = ((listOf txt vb ws).1, (listOf txt vb ws).2.2, false)) ∨
      (stopL vis (listOf txt vb ws).2.2 = false ∧ ∃ g, partT txt vb vis (ws, false) = (g, (listOf txt vb ws).2.2, true)))) := by
  unfold partT
  simp only
  rw [isT_head _ _ hne]
  cases hh : ((headT ws).toList == txt.toList) with
  | false =>
    right
    unfold listOf
    rw [hh]
    exact ⟨rfl, .inl rfl⟩
  | true =>
    obtain ⟨k, r, rfl⟩ := head_cons hh hne
    rw [if_pos rfl, nextT_yes]
    have el : listOf txt vb (k :: r) = ((takeV vb r).1, decide (0 < (takeV vb r).1.length), (takeV vb r).2) := by unfold listOf; rw [hh]; rfl
    rw [el]
    obtain ⟨L, h1, h2, h3, h4⟩ := takeV_inv vb h.nil r
    have hl := loopL_inv h h4 L (r.length + 2) true [] h3 (by have := congrArg List.length h1; rw [List.length_append] at this; omega)
    rw [← h1] at hl
    by_cases hL : L = []
    · left
      refine ⟨by rw [h2, hL]; rfl, hl.2 (.inl ⟨hL, rfl⟩)⟩
    · right
      refine ⟨by rw [h2, List.length_map]; exact decide_eq_true (List.length_pos_iff.2 hL), ?_⟩
      cases hs : stopL vis (takeV vb r).2 with
      | true => left; rw [hl.1 (.inl hL) hs, h2]; rfl
      | false => right; exact ⟨rfl, hl.2 (.inr hs)⟩
theorem partT_bad (txt : ByteArray) (vb : ByteArray → Bool) (vis : Bool) (ws : Words) : partT txt vb vis (ws, true) = ([], ws, true) := rfl
theorem stopL_no {vis : Bool} {ws : Words} (h : stopL vis ws = false) : ((headT ws).toList == b_semi.toList) = false ∧ (vis = false → ((headT ws).toList == bb_visible.toList) = false) := by
  unfold stopL at h
  rw [Bool.or_eq_false_iff, isT_head _ _ (by decide), isT_head _ _ (by decide)] at h
  refine ⟨h.1, fun hv => ?_⟩
  rw [hv] at h
  simpa using h.2
def ruleT (ws : Words) : Rule := ⟨kdT ws, nmT ws, (dT ws).1, (vT ws).1⟩
/-- A rule, read by the one and by the other. -/
theorem rule_law (st : St) : ((stepsFrom 0 5 st).1 = true ∧ endT st.ws = ((stepsFrom 0 5 st).2.ws, false) ∧ ruleT st.ws = ruleOf (stepsFrom 0 5 st).2) ∨
    ((stepsFrom 0 5 st).1 = false ∧ endT st.ws = ((stepsFrom 0 5 st).2.ws, true)) := by
  obtain ⟨ws, kd0, nm0, ds0, vs0⟩ := st
  simp only
  have e1 : isT ws false b_lib = ((headT ws).toList == b_lib.toList) := isT_head _ _ (by decide)
  have e2 : isT ws false b_test = ((headT ws).toList == b_test.toList) := isT_head _ _ (by decide)
  rw [stepsFrom]
  cases hk : kindOf ws with
  | none =>
    right
    have e : step 0 ⟨ws, kd0, nm0, ds0, vs0⟩ = (false, ⟨ws, 2, ⟨#[]⟩, [], []⟩) := by simp only [step]; rw [hk]
    rw [e]
    refine ⟨rfl, ?_⟩
    have h1 : n1T ws = (ws, true) := by
      unfold n1T
      rw [e1, e2]
      unfold kindOf at hk
      split at hk
      · cases hk
      · split at hk
        · cases hk
        · rename_i a b
          rw [Bool.not_eq_true] at a b
          rw [a, b]; exact nextT_no _ _
    have h2 : n2T ws = (ws, true) := by unfold n2T; rw [h1]; exact nextT_bad _ _
    have h3 : (dT ws).2 = (ws, true) := by unfold dT; rw [h2, partT_bad]
    have h4 : (vT ws).2 = (ws, true) := by unfold vT; rw [h3, partT_bad]
    unfold endT
    rw [h4]; exact nextT_bad _ _
  | some k =>
    have e : step 0 ⟨ws, kd0, nm0, ds0, vs0⟩ = (true, ⟨ws.tail, k, ⟨#[]⟩, [], []⟩) := by simp only [step]; rw [hk]
    obtain ⟨K, r0, rfl, hK⟩ := kindOf_inv hk
    rw [e, if_pos rfl, List.tail_cons, stepsFrom]
    have hkd : kdT (K :: r0) = k := by
      unfold kdT
      rw [e2, tl, tl]
      show (if (K.1.data.toList == b_test.data.toList) = true then (2 : Int) else 1) = k
      rcases hK with ⟨h, rfl⟩ | ⟨h, rfl⟩
      · rw [h]; rfl
      · rw [h]; rfl
    have h1 : n1T (K :: r0) = (r0, false) := by
      unfold n1T
      rw [e1, e2]
      have : (((headT (K :: r0)).toList == b_lib.toList) || ((headT (K :: r0)).toList == b_test.toList)) = true := by
        rw [tl, tl, tl]
        show ((K.1.data.toList == b_lib.data.toList) || (K.1.data.toList == b_test.data.toList)) = true
        rcases hK with ⟨h, _⟩ | ⟨h, _⟩
        · rw [h]; rfl
        · rw [h]; rfl
      rw [this]; rfl
    have hnm : nmT (K :: r0) = headT r0 := by unfold nmT; rw [h1]; rfl
    clear e hk e1 e2
    cases hn : freeNameS (headT r0) with
    | false =>
      right
      have e : step (0 + 1) ⟨r0, k, ⟨#[]⟩, [], []⟩ = (false, ⟨r0, k, headT r0, [], []⟩) := by simp only [step]; rw [if_neg (by rw [hn]; simp)]
      rw [e]
      refine ⟨rfl, ?_⟩
      have h2 : n2T (K :: r0) = (r0, true) := by unfold n2T; rw [h1, hnm, hn]; exact nextT_no _ _
      have h3 : (dT (K :: r0)).2 = (r0, true) := by unfold dT; rw [h2, partT_bad]
      have h4 : (vT (K :: r0)).2 = (r0, true) := by unfold vT; rw [h3, partT_bad]
      unfold endT
      rw [h4]; exact nextT_bad _ _
    | true =>
      obtain ⟨N, r1, rfl⟩ : ∃ N r1, r0 = N :: r1 := by
        cases r0 with
        | nil => exact absurd rfl (free_ne_nil hn)
        | cons N r1 => exact ⟨N, r1, rfl⟩
      have e : step (0 + 1) ⟨N :: r1, k, ⟨#[]⟩, [], []⟩ = (true, ⟨r1, k, N.1, [], []⟩) := by simp only [step]; rw [if_pos hn]; rfl
      rw [e, if_pos rfl, stepsFrom]
      clear e
      have h2 : n2T (K :: N :: r1) = (r1, false) := by unfold n2T; rw [h1, hnm, hn]; rfl
      have e2 : step (0 + 1 + 1) ⟨r1, k, N.1, [], []⟩ = ((listOf bb_deps freeLabelS r1).2.1, ⟨(listOf bb_deps freeLabelS r1).2.2, k, N.1, (listOf bb_deps freeLabelS r1).1, []⟩) := rfl
      rw [e2]
      have pd := partT_listOf (txt := bb_deps) stopsF (by decide) r1
      generalize listOf bb_deps freeLabelS r1 = ld at pd ⊢
      obtain ⟨l, b, r2⟩ := ld
      simp only at pd ⊢
      rcases pd with ⟨rfl, g, hg⟩ | ⟨rfl, hg⟩
      · right
        rw [if_neg (by simp)]
        refine ⟨rfl, ?_⟩
        have h3 : (dT (K :: N :: r1)).2 = (r2, true) := by unfold dT; rw [h2, hg]
        have h4 : (vT (K :: N :: r1)).2 = (r2, true) := by unfold vT; rw [h3, partT_bad]
        unfold endT
        rw [h4]; exact nextT_bad _ _
      · rw [if_pos rfl, stepsFrom]
        have e3 : step (0 + 1 + 1 + 1) ⟨r2, k, N.1, l, []⟩ = ((listOf bb_visible viewerS r2).2.1, ⟨(listOf bb_visible viewerS r2).2.2, k, N.1, l, (listOf bb_visible viewerS r2).1⟩) := rfl
        rw [e3]
        rcases hg with hg | ⟨hs, g, hg⟩
        · have h3 : dT (K :: N :: r1) = (l, r2, false) := by unfold dT; rw [h2, hg]
          have pv := partT_listOf (txt := bb_visible) stopsV (by decide) r2
          generalize listOf bb_visible viewerS r2 = lv at pv ⊢
          obtain ⟨m, b', r3⟩ := lv
          simp only at pv ⊢
          rcases pv with ⟨rfl, g', hg'⟩ | ⟨rfl, hg'⟩
          · right
            rw [if_neg (by simp)]
            refine ⟨rfl, ?_⟩
            have h4 : (vT (K :: N :: r1)).2 = (r3, true) := by unfold vT; rw [h3]; show (partT bb_visible viewerS true (r2, false)).2 = _; rw [hg']
            unfold endT
            rw [h4]; exact nextT_bad _ _
          · rw [if_pos rfl, stepsFrom]
            rcases hg' with hg' | ⟨hs', g', hg'⟩
            · have h4 : vT (K :: N :: r1) = (m, r3, false) := by unfold vT; rw [h3]; show partT bb_visible viewerS true (r2, false) = _; rw [hg']
              cases hs : ((headT r3).toList == b_semi.toList) with
              | false =>
                right
                have e4 : step (0 + 1 + 1 + 1 + 1) ⟨r3, k, N.1, l, m⟩ = (false, ⟨r3, k, N.1, l, m⟩) := by simp only [step]; rw [hs]; rfl
                rw [e4]
                refine ⟨rfl, ?_⟩
                unfold endT
                rw [h4]
                simp only
                rw [isT_head _ _ (by decide), hs]; exact nextT_no _ _
              | true =>
                left
                obtain ⟨S, r4, rfl⟩ := head_cons hs (by decide)
                have e4 : step (0 + 1 + 1 + 1 + 1) ⟨S :: r4, k, N.1, l, m⟩ = (true, ⟨r4, k, N.1, l, m⟩) := by simp only [step]; rw [hs]; rfl
                rw [e4, if_pos rfl, stepsFrom]
                refine ⟨rfl, ?_, ?_⟩
                · unfold endT
                  rw [h4]
                  simp only
                  rw [isT_head _ _ (by decide), hs]; rfl
                · unfold ruleT ruleOf
                  rw [hkd, hnm, h3, h4]; rfl
            · right
              have e4 : step (0 + 1 + 1 + 1 + 1) ⟨r3, k, N.1, l, m⟩ = (false, ⟨r3, k, N.1, l, m⟩) := by simp only [step]; rw [(stopL_no hs').1]; rfl
              rw [e4]
              refine ⟨rfl, ?_⟩
              have h4 : (vT (K :: N :: r1)).2 = (r3, true) := by unfold vT; rw [h3]; show (partT bb_visible viewerS true (r2, false)).2 = _; rw [hg']
              unfold endT
              rw [h4]; exact nextT_bad _ _
        · right
          obtain ⟨q1, q2⟩ := stopL_no hs
          have h3 : (dT (K :: N :: r1)).2 = (r2, true) := by unfold dT; rw [h2, hg]
          have h4 : (vT (K :: N :: r1)).2 = (r2, true) := by unfold vT; rw [h3, partT_bad]
          have el : listOf bb_visible viewerS r2 = ([], true, r2) := by unfold listOf; rw [q2 rfl]; rfl
          rw [el, if_pos rfl, stepsFrom]
          have e4 : step (0 + 1 + 1 + 1 + 1) ⟨r2, k, N.1, l, []⟩ = (false, ⟨r2, k, N.1, l, []⟩) := by simp only [step]; rw [q1]; rfl
          rw [e4]
          refine ⟨rfl, ?_⟩
          unfold endT
          rw [h4]; exact nextT_bad _ _
/-- The reference's rules, one after another. -/
def loopP : Nat → Words → Bool → List Rule → List Rule × Words × Bool
  | 0, ws, bad, rs => (rs, ws, bad)
  | f + 1, ws, bad, rs => if decide (0 < ws.length) && !bad then loopP f (endT ws).1 (endT ws).2 (rs ++ [ruleT ws]) else (rs, ws, bad)
def refR (s : ByteArray) : List Rule × Int × Int :=
  match loopP ((wordsOf s).length + 1) (wordsOf s) false [] with
  | (_, [], true) => ([], s.size, 3)
  | (_, x :: _, true) => ([], x.2, 3)
  | (rs, _, false) => if checkErr rs = 0 then (rs, 0, 0) else ([], 0, checkErr rs)
theorem loopP_bad (f : Nat) (ws : Words) (rs : List Rule) : loopP f ws true rs = (rs, ws, true) := by
  cases f with
  | zero => rfl
  | succ f => rw [loopP, if_neg (by simp)]
theorem loopP_law : ∀ (f : Nat) (st : St) (rs : List Rule) (g : Nat), SmallSt st → st.ws.length ≤ f → st.ws.length ≤ g →
    (∃ rs', parseW f st rs = .ok rs' ∧ loopP g st.ws false rs = (rs', [], false)) ∨ (∃ suf r, parseW f st rs = .error suf ∧ loopP (g + 1) st.ws false rs = (r, suf, true))
  | 0, st, rs, g, _, hf, _ => by
    have h0 : st.ws = [] := List.eq_nil_of_length_eq_zero (Nat.le_zero.1 hf)
    refine .inl ⟨rs, rfl, ?_⟩
    rw [h0]
    cases g with
    | zero => rfl
    | succ g => rw [loopP, if_neg (by simp)]
  | f + 1, st, rs, g, hs, hf, hg => by
    rw [parseW]
    by_cases hz : st.ws.length = 0
    · have h0 : st.ws = [] := List.eq_nil_of_length_eq_zero hz
      rw [if_pos hz]
      refine .inl ⟨rs, rfl, ?_⟩
      rw [h0]
      cases g with
      | zero => rfl
      | succ g => rw [loopP, if_neg (by simp)]
    · rw [if_neg hz]
      have hpos : (decide (0 < st.ws.length) && !false) = true := by rw [decide_eq_true (show 0 < st.ws.length by omega)]; rfl
      rcases rule_law st with ⟨hb, he, hr⟩ | ⟨hb, he⟩
      · have hless := rule_less hs hb
        have hsm := (steps_small 5 0 hs).1
        rw [hb, if_pos rfl]
        obtain ⟨g, rfl⟩ : ∃ g', g = g' + 1 := ⟨g - 1, by omega⟩
        rcases loopP_law f (stepsFrom 0 5 st).2 (rs ++ [ruleOf (stepsFrom 0 5 st).2]) g hsm (by omega) (by omega) with ⟨rs', h1, h2⟩ | ⟨suf, r, h1, h2⟩
        · exact .inl ⟨rs', h1, by rw [loopP, if_pos hpos, he, hr]; exact h2⟩
        · exact .inr ⟨suf, r, h1, by rw [loopP, if_pos hpos, he, hr]; exact h2⟩
      · rw [hb, if_neg (by simp)]
        refine .inr ⟨_, rs ++ [ruleT st.ws], rfl, ?_⟩
        rw [loopP, if_pos hpos, he]
        exact loopP_bad _ _ _
theorem refR_eq (s : ByteArray) (hs : s.size ≤ 1000) : refR s = parseR s := by
  have hw0 := wordsOf_length s
  have hsm : SmallW (wordsOf s) := ⟨by omega, fun x hx => by have := toks_small s _ _ x hx; omega⟩
  have hst : SmallSt ⟨wordsOf s, 0, ⟨#[]⟩, [], []⟩ := ⟨hsm, Nat.zero_le _, by simp, by simp⟩
  unfold refR parseR
  rcases loopP_law (wordsOf s).length ⟨wordsOf s, 0, ⟨#[]⟩, [], []⟩ [] ((wordsOf s).length + 1) hst (Nat.le_refl _) (by simp) with ⟨rs', h1, h2⟩ | ⟨suf, r, h1, _⟩
  · rw [h1, h2]
  · rcases loopP_law (wordsOf s).length ⟨wordsOf s, 0, ⟨#[]⟩, [], []⟩ [] (wordsOf s).length hst (Nat.le_refl _) (Nat.le_refl _) with ⟨rs', h1', _⟩ | ⟨suf', r', h1', h2'⟩
    · rw [h1] at h1'; cases h1'
    · rw [h1] at h1'
      cases h1'
      rw [h1, h2']
      cases suf <;> rfl
end Go.Proofs.YtgcmekpfhagnbaaDoor
