/- The words of rules: what the reader takes, and how it stops. Plain. -/
import Derived.Test.YtgcmekpfhagnbaaDoorTkA
import Derived.Test.YtgcmekpfhagnbaaDoorPsB
namespace Go.Proofs.YtgcmekpfhagnbaaDoor

/-- The words of a list after a certain word, or none. -/
def PartOf (txt : ByteArray) (vb : ByteArray → Bool) (D : Words) (l : List ByteArray) : Prop :=
  (D = [] ∧ l = []) ∨ ∃ k L, D = k :: L ∧ k.1.data.toList = txt.data.toList ∧ L ≠ [] ∧ (∀ x ∈ L, vb x.1 = true) ∧ l = L.map (·.1)
theorem takeV_app {vb : ByteArray → Bool} {rest : Words} (h : vb (headT rest) = false) : ∀ {L : Words}, (∀ x ∈ L, vb x.1 = true) → takeV vb (L ++ rest) = (L.map (·.1), rest)
  | [], _ => takeV_stop vb h
  | x :: L, hL => by
    rw [List.cons_append, takeV, if_pos (hL x (List.mem_cons_self ..)), takeV_app h (fun y hy => hL y (List.mem_cons_of_mem _ hy))]; rfl
theorem takeV_inv (vb : ByteArray → Bool) (h0 : vb ⟨#[]⟩ = false) : ∀ ws : Words, ∃ L, ws = L ++ (takeV vb ws).2 ∧ (takeV vb ws).1 = L.map (·.1) ∧ (∀ x ∈ L, vb x.1 = true) ∧ vb (headT (takeV vb ws).2) = false
  | [] => ⟨[], rfl, rfl, by simp, h0⟩
  | x :: r => by
    rw [takeV]
    by_cases h : vb x.1 = true
    · obtain ⟨L, h1, h2, h3, h4⟩ := takeV_inv vb h0 r
      rw [if_pos h]
      refine ⟨x :: L, by rw [List.cons_append, ← h1], by rw [h2]; rfl, fun y hy => ?_, h4⟩
      rcases List.mem_cons.1 hy with rfl | hy
      · exact h
      · exact h3 y hy
    · rw [if_neg h]
      exact ⟨[], rfl, rfl, by simp, by show vb x.1 = false; simpa using h⟩
theorem listOf_part {txt : ByteArray} {vb : ByteArray → Bool} {D : Words} {l : List ByteArray} (h : PartOf txt vb D l) {rest : Words} (h1 : vb (headT rest) = false) (h2 : (headT rest).data.toList ≠ txt.data.toList) : listOf txt vb (D ++ rest) = (l, true, rest) := by
  unfold listOf
  rw [tl, tl]
  rcases h with ⟨rfl, rfl⟩ | ⟨k, L, rfl, hk, hL, hv, rfl⟩
  · rw [List.nil_append, if_neg (by simpa using h2)]
  · rw [show headT (k :: L ++ rest) = k.1 from rfl, if_pos (by simpa using hk), List.cons_append, List.tail_cons, takeV_app h1 hv]
    have : 0 < (L.map (·.1)).length := by
      rw [List.length_map]; exact List.length_pos_iff.2 hL
    rw [decide_eq_true this]
theorem listOf_inv {txt : ByteArray} {vb : ByteArray → Bool} (h0 : vb ⟨#[]⟩ = false) (hne : txt.data.toList ≠ []) (ws : Words) :
    ((listOf txt vb ws).2.1 = true ∧ ∃ D, ws = D ++ (listOf txt vb ws).2.2 ∧ PartOf txt vb D (listOf txt vb ws).1) ∨
    ((listOf txt vb ws).2.1 = false ∧ ∃ k, ws = k :: (listOf txt vb ws).2.2 ∧ k.1.data.toList = txt.data.toList) := by
  unfold listOf
  cases hh : ((headT ws).toList == txt.toList) with
  | false => exact .inl ⟨rfl, [], rfl, .inl ⟨rfl, rfl⟩⟩
  | true =>
    obtain ⟨k, r, rfl⟩ := head_cons hh hne
    have hk : k.1.data.toList = txt.data.toList := by rw [tl, tl] at hh; simpa [headT] using hh
    obtain ⟨L, h1, h2, h3, h4⟩ := takeV_inv vb h0 r
    show (decide (0 < (takeV vb r).1.length) = true ∧ ∃ D, k :: r = D ++ (takeV vb r).2 ∧ PartOf txt vb D (takeV vb r).1) ∨ (decide (0 < (takeV vb r).1.length) = false ∧ ∃ k', k :: r = k' :: (takeV vb r).2 ∧ k'.1.data.toList = txt.data.toList)
    by_cases hL : L = []
    · right
      subst hL
      exact ⟨by rw [h2]; rfl, k, congrArg (k :: ·) h1, hk⟩
    · left
      refine ⟨by rw [h2, List.length_map]; exact decide_eq_true (List.length_pos_iff.2 hL), k :: L, congrArg (k :: ·) h1, .inr ⟨k, L, rfl, hk, hL, h3, h2⟩⟩
/-- The kind that a word tells. -/
def KindW (x : ByteArray × Nat) (k : Int) : Prop := (x.1.data.toList = b_lib.data.toList ∧ k = 1) ∨ (x.1.data.toList = b_test.data.toList ∧ k = 2)
theorem kindOf_W {x : ByteArray × Nat} {k : Int} (h : KindW x k) (r : Words) : kindOf (x :: r) = some k := by
  unfold kindOf
  rw [tl, tl, tl, show headT (x :: r) = x.1 from rfl]
  rcases h with ⟨h, rfl⟩ | ⟨h, rfl⟩
  · rw [if_pos (by simpa using h)]
  · rw [h, if_neg (by decide), if_pos (by simp)]
theorem kindOf_inv {ws : Words} {k : Int} (h : kindOf ws = some k) : ∃ x r, ws = x :: r ∧ KindW x k := by
  unfold kindOf at h
  split at h
  · rename_i hh
    obtain ⟨x, r, rfl⟩ := head_cons hh (by decide)
    cases h
    exact ⟨x, r, rfl, .inl ⟨by rw [tl, tl] at hh; simpa [headT] using hh, rfl⟩⟩
  · split at h
    · rename_i hh
      obtain ⟨x, r, rfl⟩ := head_cons hh (by decide)
      cases h
      exact ⟨x, r, rfl, .inr ⟨by rw [tl, tl] at hh; simpa [headT] using hh, rfl⟩⟩
    · cases h
/-- The words of a rule. -/
def RuleW (W : Words) (r : Rule) : Prop :=
  ∃ K N D V S, W = K :: N :: (D ++ (V ++ [S])) ∧ KindW K r.kind ∧ freeNameS N.1 = true ∧ N.1 = r.name ∧ PartOf bb_deps freeLabelS D r.deps ∧ PartOf bb_visible viewerS V r.vis ∧ S.1.data.toList = b_semi.data.toList
theorem free_semi {s : ByteArray} (h : s.data.toList = b_semi.data.toList) : freeLabelS s = false ∧ viewerS s = false ∧ s.data.toList ≠ bb_deps.data.toList ∧ s.data.toList ≠ bb_visible.data.toList := by
  unfold freeLabelS viewerS
  rw [h]
  exact ⟨by decide +kernel, by decide +kernel, by decide, by decide⟩
theorem free_vis {s : ByteArray} (h : s.data.toList = bb_visible.data.toList) : freeLabelS s = false ∧ s.data.toList ≠ bb_deps.data.toList := by
  unfold freeLabelS
  rw [h]
  exact ⟨by decide +kernel, by decide⟩
theorem free_nil : freeLabelS ⟨#[]⟩ = false := by decide +kernel
theorem viewer_nil : viewerS ⟨#[]⟩ = false := by decide +kernel
theorem free_ne_nil {s : ByteArray} (h : freeNameS s = true) : s.data.toList ≠ [] := by
  intro e
  unfold freeNameS at h
  rw [e] at h
  revert h
  decide +kernel
/-- The words behind the name and the lists: they begin with no word that a list takes. -/
theorem steps_rule {W : Words} {r : Rule} (h : RuleW W r) (rest : Words) (st : St) (hst : st.ws = W ++ rest) : stepsFrom 0 5 st = (true, ⟨rest, r.kind, r.name, r.deps, r.vis⟩) := by
  obtain ⟨K, N, D, V, S, rfl, hK, hN, hn, hD, hV, hS⟩ := h
  have e0 : step 0 st = (true, ⟨N :: (D ++ (V ++ (S :: rest))), r.kind, ⟨#[]⟩, [], []⟩) := by
    simp only [step]
    rw [hst, List.cons_append, kindOf_W hK]
    simp
  have fs := free_semi hS
  have hhead : freeLabelS (headT (V ++ (S :: rest))) = false ∧ (headT (V ++ (S :: rest))).data.toList ≠ bb_deps.data.toList := by
    rcases hV with ⟨rfl, _⟩ | ⟨k, L, rfl, hk, _⟩
    · exact ⟨fs.1, fs.2.2.1⟩
    · exact free_vis hk
  have l2 := listOf_part hD (rest := V ++ (S :: rest)) hhead.1 hhead.2
  have l3 := listOf_part hV (rest := S :: rest) fs.2.1 fs.2.2.2
  rw [stepsFrom, e0, if_pos rfl, stepsFrom]
  have e1 : step 1 ⟨N :: (D ++ (V ++ (S :: rest))), r.kind, ⟨#[]⟩, [], []⟩ = (true, ⟨D ++ (V ++ (S :: rest)), r.kind, r.name, [], []⟩) := by
    simp only [step]
    rw [show headT (N :: (D ++ (V ++ (S :: rest)))) = N.1 from rfl, if_pos hN, hn]; rfl
  rw [e1, if_pos rfl, stepsFrom]
  have e2 : step 2 ⟨D ++ (V ++ (S :: rest)), r.kind, r.name, [], []⟩ = (true, ⟨V ++ (S :: rest), r.kind, r.name, r.deps, []⟩) := by
    simp only [step]; rw [l2]
  rw [e2, if_pos rfl, stepsFrom]
  have e3 : step 3 ⟨V ++ (S :: rest), r.kind, r.name, r.deps, []⟩ = (true, ⟨S :: rest, r.kind, r.name, r.deps, r.vis⟩) := by
    simp only [step]; rw [l3]
  rw [e3, if_pos rfl, stepsFrom]
  have e4 : step 4 ⟨S :: rest, r.kind, r.name, r.deps, r.vis⟩ = (true, ⟨rest, r.kind, r.name, r.deps, r.vis⟩) := by
    simp only [step]; rw [show headT (S :: rest) = S.1 from rfl, tl, tl, if_pos (by simpa using hS)]; rfl
  rw [e4, if_pos rfl, stepsFrom]
/-- The words before a place at which a rule does not go on. -/
def BadW (Q : Words) : Prop :=
  Q = [] ∨ (∃ K k, Q = [K] ∧ KindW K k) ∨ (∃ K k N T, Q = [K, N, T] ∧ KindW K k ∧ freeNameS N.1 = true ∧ T.1.data.toList = bb_deps.data.toList) ∨
  (∃ K k N D l T, Q = K :: N :: (D ++ [T]) ∧ KindW K k ∧ freeNameS N.1 = true ∧ PartOf bb_deps freeLabelS D l ∧ T.1.data.toList = bb_visible.data.toList) ∨
  (∃ K k N D l V m, Q = K :: N :: (D ++ V) ∧ KindW K k ∧ freeNameS N.1 = true ∧ PartOf bb_deps freeLabelS D l ∧ PartOf bb_visible viewerS V m)
theorem steps_inv (st : St) :
    ((stepsFrom 0 5 st).1 = true ∧ ∃ W, st.ws = W ++ (stepsFrom 0 5 st).2.ws ∧ RuleW W (ruleOf (stepsFrom 0 5 st).2)) ∨
    ((stepsFrom 0 5 st).1 = false ∧ ∃ Q, st.ws = Q ++ (stepsFrom 0 5 st).2.ws ∧ BadW Q) := by
  rw [stepsFrom]
  cases hk : kindOf st.ws with
  | none =>
    have e : step 0 st = (false, ⟨st.ws, 2, ⟨#[]⟩, [], []⟩) := by simp only [step]; rw [hk]
    rw [e]
    exact .inr ⟨rfl, [], rfl, .inl rfl⟩
  | some k =>
    have e : step 0 st = (true, ⟨st.ws.tail, k, ⟨#[]⟩, [], []⟩) := by simp only [step]; rw [hk]
    obtain ⟨K, r0, hw, hK⟩ := kindOf_inv hk
    rw [e, if_pos rfl, hw, List.tail_cons, stepsFrom]
    clear e hk
    cases hn : freeNameS (headT r0) with
    | false =>
      have e : step (0 + 1) ⟨r0, k, ⟨#[]⟩, [], []⟩ = (false, ⟨r0, k, headT r0, [], []⟩) := by simp only [step]; rw [if_neg (by rw [hn]; simp)]
      rw [e]
      exact .inr ⟨rfl, [K], rfl, .inr (.inl ⟨K, k, rfl, hK⟩)⟩
    | true =>
      obtain ⟨N, r1, rfl⟩ : ∃ N r1, r0 = N :: r1 := by
        cases r0 with
        | nil => exact absurd rfl (free_ne_nil hn)
        | cons N r1 => exact ⟨N, r1, rfl⟩
      have e : step (0 + 1) ⟨N :: r1, k, ⟨#[]⟩, [], []⟩ = (true, ⟨r1, k, N.1, [], []⟩) := by simp only [step]; rw [if_pos hn]; rfl
      rw [e, if_pos rfl, stepsFrom]
      clear e
      have hN : freeNameS N.1 = true := hn
      have e2 : step (0 + 1 + 1) ⟨r1, k, N.1, [], []⟩ = ((listOf bb_deps freeLabelS r1).2.1, ⟨(listOf bb_deps freeLabelS r1).2.2, k, N.1, (listOf bb_deps freeLabelS r1).1, []⟩) := rfl
      rw [e2]
      rcases listOf_inv (txt := bb_deps) (vb := freeLabelS) free_nil (by decide) r1 with ⟨hb, D, hD, hp⟩ | ⟨hb, T, hT, ht⟩
      · rw [hb, if_pos rfl, stepsFrom]
        generalize (listOf bb_deps freeLabelS r1).2.2 = r2 at *
        generalize (listOf bb_deps freeLabelS r1).1 = l at *
        have e3 : step (0 + 1 + 1 + 1) ⟨r2, k, N.1, l, []⟩ = ((listOf bb_visible viewerS r2).2.1, ⟨(listOf bb_visible viewerS r2).2.2, k, N.1, l, (listOf bb_visible viewerS r2).1⟩) := rfl
        rw [e3]
        rcases listOf_inv (txt := bb_visible) (vb := viewerS) viewer_nil (by decide) r2 with ⟨hb', V, hV, hq⟩ | ⟨hb', T, hT, ht⟩
        · rw [hb', if_pos rfl, stepsFrom]
          generalize (listOf bb_visible viewerS r2).2.2 = r3 at *
          generalize (listOf bb_visible viewerS r2).1 = m at *
          cases hs : ((headT r3).toList == b_semi.toList) with
          | false =>
            have e4 : step (0 + 1 + 1 + 1 + 1) ⟨r3, k, N.1, l, m⟩ = (false, ⟨r3, k, N.1, l, m⟩) := by simp only [step]; rw [hs]; rfl
            rw [e4]
            exact .inr ⟨rfl, K :: N :: (D ++ V), by rw [hD, hV]; simp, .inr (.inr (.inr (.inr ⟨K, k, N, D, l, V, m, rfl, hK, hN, hp, hq⟩)))⟩
          | true =>
            have e4 : step (0 + 1 + 1 + 1 + 1) ⟨r3, k, N.1, l, m⟩ = (true, ⟨r3.tail, k, N.1, l, m⟩) := by simp only [step]; rw [hs]; rfl
            obtain ⟨S, r4, rfl⟩ := head_cons hs (by decide)
            rw [e4, if_pos rfl, stepsFrom]
            exact .inl ⟨rfl, K :: N :: (D ++ (V ++ [S])), by rw [hD, hV]; simp, K, N, D, V, S, rfl, hK, hN, rfl, hp, hq, by rw [tl, tl] at hs; simpa [headT] using hs⟩
        · rw [hb', if_neg (by simp)]
          exact .inr ⟨rfl, K :: N :: (D ++ [T]), by rw [hD]; show _ = K :: N :: (D ++ [T]) ++ (listOf bb_visible viewerS r2).2.2; rw [List.cons_append, List.cons_append, List.append_assoc, List.singleton_append, ← hT], .inr (.inr (.inr (.inl ⟨K, k, N, D, l, T, rfl, hK, hN, hp, ht⟩)))⟩
      · rw [hb, if_neg (by simp)]
        exact .inr ⟨rfl, [K, N, T], by show _ = K :: N :: T :: (listOf bb_deps freeLabelS r1).2.2; rw [← hT], .inr (.inr (.inl ⟨K, k, N, T, rfl, hK, hN, ht⟩))⟩
/-- The words of rules, one after another. -/
def RulesW (ws : Words) : List Rule → Prop
  | [] => ws = []
  | r :: rs => ∃ W ws', ws = W ++ ws' ∧ RuleW W r ∧ RulesW ws' rs
theorem RulesW.nil : RulesW [] [] := rfl
theorem RulesW.cons {W ws : Words} {r : Rule} {rs : List Rule} (h : RuleW W r) (h' : RulesW ws rs) : RulesW (W ++ ws) (r :: rs) := ⟨W, ws, rfl, h, h'⟩
theorem RuleW.ne {W : Words} {r : Rule} (h : RuleW W r) : 0 < W.length := by
  obtain ⟨K, N, D, V, S, rfl, _⟩ := h; simp
theorem RulesW.app {ws : Words} {rs' : List Rule} (h' : RulesW ws rs') : ∀ {rs : List Rule} {P : Words}, RulesW P rs → RulesW (P ++ ws) (rs ++ rs')
  | [], P, h => by rw [show P = [] from h]; exact h'
  | r :: rs, P, h => by
    obtain ⟨W, ws1, rfl, hW, h1⟩ := h
    rw [List.append_assoc]
    exact RulesW.cons hW (RulesW.app h' h1)
theorem RulesW.one {W : Words} {r : Rule} (h : RuleW W r) : RulesW W [r] := by
  have := RulesW.cons h .nil
  rwa [List.append_nil] at this
theorem parse_rules : ∀ {rs' : List Rule} {ws : Words}, RulesW ws rs' → ∀ (f : Nat) (st : St) (rs : List Rule), st.ws = ws → ws.length ≤ f → parseW f st rs = .ok (rs ++ rs')
  | [], ws, h => by
    intro f st rs hst _
    rw [show ws = [] from h] at hst
    cases f with
    | zero => rw [parseW, List.append_nil]
    | succ f => rw [parseW, if_pos (by rw [hst]; rfl), List.append_nil]
  | r :: rs', ws, h => by
    obtain ⟨W, ws, rfl, hW, h1⟩ := h
    intro f st rs hst hf
    have hne := hW.ne
    rw [List.length_append] at hf
    obtain ⟨f, rfl⟩ : ∃ f', f = f' + 1 := ⟨f - 1, by omega⟩
    rw [parseW, if_neg (by rw [hst, List.length_append]; omega), steps_rule hW ws st hst, if_pos rfl]
    rw [parse_rules h1 f _ _ rfl (by omega), List.append_assoc]
    rfl
theorem parse_inv : ∀ (f : Nat) (st : St) (rs : List Rule), st.ws.length ≤ f →
    (∃ rs', RulesW st.ws rs' ∧ parseW f st rs = .ok (rs ++ rs')) ∨ (∃ P rs' Q suf, st.ws = P ++ (Q ++ suf) ∧ RulesW P rs' ∧ BadW Q ∧ parseW f st rs = .error suf)
  | 0, st, rs, h => .inl ⟨[], by rw [List.eq_nil_of_length_eq_zero (Nat.le_zero.1 h)]; exact RulesW.nil, by rw [parseW, List.append_nil]⟩
  | f + 1, st, rs, h => by
    rw [parseW]
    by_cases hz : st.ws.length = 0
    · rw [if_pos hz]
      exact .inl ⟨[], by rw [List.eq_nil_of_length_eq_zero hz]; exact RulesW.nil, by rw [List.append_nil]⟩
    · rw [if_neg hz]
      rcases steps_inv st with ⟨hb, W, hW, hr⟩ | ⟨hb, Q, hQ, hq⟩
      · rw [hb, if_pos rfl]
        have hne := hr.ne
        have hl := congrArg List.length hW
        rw [List.length_append] at hl
        rcases parse_inv f (stepsFrom 0 5 st).2 (rs ++ [ruleOf (stepsFrom 0 5 st).2]) (by omega) with ⟨rs', h1, h2⟩ | ⟨P, rs', Q, suf, h1, h2, h3, h4⟩
        · exact .inl ⟨ruleOf (stepsFrom 0 5 st).2 :: rs', by rw [hW]; exact RulesW.cons hr h1, by rw [h2, List.append_assoc]; rfl⟩
        · exact .inr ⟨W ++ P, ruleOf (stepsFrom 0 5 st).2 :: rs', Q, suf, by rw [List.append_assoc, ← h1]; exact hW, RulesW.cons hr h2, h3, h4⟩
      · rw [hb, if_neg (by simp)]
        exact .inr ⟨[], [], Q, (stepsFrom 0 5 st).2.ws, hQ, RulesW.nil, hq, rfl⟩
end Go.Proofs.YtgcmekpfhagnbaaDoor
