/- Where an error is; how long the text of what was read is. Plain. -/
import Derived.Test.YtidkpnabdfiilaaGreatDoorVtO
namespace Go.Proofs.YtidkpnabdfiilaaGreatDoor

theorem readAll_pos : ∀ (ws : OWords) (p : Nat) (rs : List ORule) (i : Nat), readAll p rs ws = .error i → ∃ x ∈ ws, i = x.2
  | [], p, rs, i, h => by cases h
  | w :: ws, p, rs, i, h => by
    rw [readAll] at h
    cases hr : readW p rs w.1 with
    | none => rw [hr] at h; cases h; exact ⟨w, List.mem_cons_self .., rfl⟩
    | some x =>
      rw [hr] at h
      obtain ⟨y, hy, e⟩ := readAll_pos ws _ _ i h
      exact ⟨y, List.mem_cons_of_mem _ hy, e⟩
theorem oparse_error (s : ByteArray) (h : (oparse s).2.2 ≠ 0) : (oparse s).1 = [] ∧ 0 ≤ (oparse s).2.1 ∧ (oparse s).2.1 ≤ (s.size : Int) ∧ ((oparse s).2.2 = 3 ∨ (oparse s).2.1 = 0) := by
  unfold oparse at *
  cases hr : readAll 0 [] (wordsOf s) with
  | error i =>
    obtain ⟨x, hx, e⟩ := readAll_pos _ _ _ _ hr
    have := (toks_small s _ _ x hx).2
    refine ⟨rfl, ?_, ?_, .inl rfl⟩
    · show (0 : Int) ≤ (i : Int); omega
    · show (i : Int) ≤ (s.size : Int); omega
  | ok q =>
    obtain ⟨p, rs⟩ := q
    simp only [hr] at h ⊢
    split
    · rename_i hp
      split
      · rename_i hc; rw [if_pos hp, if_pos hc] at h; exact absurd rfl h
      · exact ⟨rfl, by simp, by simp, .inr rfl⟩
    · exact ⟨rfl, by simp, by simp, .inl rfl⟩
theorem oparse_okay (s : ByteArray) (h : (oparse s).2.2 = 0) : ∃ rs, oparse s = (rs, 0, 0) ∧ ocheckErr rs = 0 ∧ readAll 0 [] (wordsOf s) = .ok (0, rs) := by
  unfold oparse at *
  cases hr : readAll 0 [] (wordsOf s) with
  | error i => simp only [hr] at h; cases h
  | ok q =>
    obtain ⟨p, rs⟩ := q
    simp only [hr] at h ⊢
    split at h
    · rename_i hp
      split at h
      · rename_i hc; subst hp; exact ⟨rs, by rw [if_pos rfl, if_pos hc], hc, rfl⟩
      · rename_i hc; exact absurd h hc
    · cases h
/-! The words that were read. -/
def Wd (p : Nat) (rs : List ORule) (ws : List ByteArray) : Prop :=
  (p = 0 ∧ ws = allB rs) ∨ (p = 1 ∧ ws = allB rs ++ [bPrefix]) ∨ (2 ≤ p ∧ ∃ ri pre gs, rs = ri ++ [⟨pre, gs⟩] ∧ ws = allB ri ++ headW pre ++ groupsWB gs)
theorem allB_app (a b : List ORule) : allB (a ++ b) = allB a ++ allB b := by simp [allB]
theorem groupsWB_app (a b : List (List ByteArray)) : groupsWB (a ++ b) = groupsWB a ++ groupsWB b := by simp [groupsWB]
theorem readW_word {p p' : Nat} {rs rs' : List ORule} {w : ByteArray} {ws : List ByteArray} (h : readW p rs w = some (p', rs')) (ho : OkP p rs) (hne : w.data.toList ≠ []) (hw : Wd p rs ws) : Wd p' rs' (ws ++ [w]) := by
  unfold readW at h
  split at h
  · rename_i hc
    cases h
    rcases hw with ⟨_, rfl⟩ | ⟨e, _⟩ | ⟨e, _⟩
    · refine .inr (.inr ⟨by omega, rs, _, _, rfl, ?_⟩)
      rw [show w = bAll from bytes_ext hc.2]
      simp [headW, groupsWB]
    · omega
    · omega
  split at h
  · rename_i hc
    cases h
    rcases hw with ⟨_, rfl⟩ | ⟨e, _⟩ | ⟨e, _⟩
    · exact .inr (.inl ⟨rfl, by rw [show w = bPrefix from bytes_ext hc.2]⟩)
    · omega
    · omega
  split at h
  · rename_i hc
    cases h
    rcases hw with ⟨e, _⟩ | ⟨_, rfl⟩ | ⟨e, _⟩
    · omega
    · refine .inr (.inr ⟨by omega, rs, _, _, rfl, ?_⟩)
      simp [headW, hne, groupsWB]
    · omega
  split at h
  · rename_i hc
    cases h
    rcases hw with ⟨e, _⟩ | ⟨e, _⟩ | ⟨_, ri, pre, gs, rfl, rfl⟩
    · omega
    · omega
    · refine .inr (.inr ⟨by omega, ri, pre, gs ++ [[]], addGroup_snoc _ _ _, ?_⟩)
      rw [groupsWB_app, show w = bGroup from bytes_ext hc.2]
      simp [groupsWB]
  split at h
  · rename_i hc
    cases h
    rcases hw with ⟨e, _⟩ | ⟨e, _⟩ | ⟨_, ri, pre, gs, rfl, rfl⟩
    · omega
    · omega
    · obtain ⟨ri', pre', gi, gl, e⟩ := ho.2.2 hc.1
      obtain ⟨rfl, e2⟩ := List.append_inj' e rfl
      cases e2
      refine .inr (.inr ⟨by omega, ri, pre, gi ++ [gl ++ [w]], addPerson_snoc _ _ _ _ _, ?_⟩)
      rw [groupsWB_app, groupsWB_app]
      simp [groupsWB]
  split at h
  · rename_i hc
    cases h
    rcases hw with ⟨e, _⟩ | ⟨e, _⟩ | ⟨_, ri, pre, gs, rfl, rfl⟩
    · omega
    · omega
    · refine .inl ⟨rfl, ?_⟩
      rw [allB_app, show w = bSemi from bytes_ext hc.2]
      simp [allB, wordsB]
  · cases h
theorem readAll_words : ∀ (ws : OWords) (p K : Nat) (rs : List ORule) (us : List ByteArray) (q : Nat) (rs' : List ORule), (∀ x ∈ ws, x.1.data.toList ≠ [] ∧ x.1.size ≤ 40000) → OkP p rs → Bnd K rs → Wd p rs us → readAll p rs ws = .ok (q, rs') → Wd q rs' (us ++ ws.map (·.1))
  | [], p, K, rs, us, q, rs', _, _, _, hw, h => by rw [readAll] at h; cases h; simpa using hw
  | w :: ws, p, K, rs, us, q, rs', hs, ho, hB, hw, h => by
    rw [readAll] at h
    cases hr : readW p rs w.1 with
    | none => rw [hr] at h; cases h
    | some x =>
      rw [hr] at h
      obtain ⟨p1, rs1⟩ := x
      have hk := readW_keeps hr ho hB (hs w (List.mem_cons_self ..)).2
      have := readAll_words ws p1 (K + 1) rs1 (us ++ [w.1]) q rs' (fun y hy => hs y (List.mem_cons_of_mem _ hy)) hk.1 hk.2 (readW_word hr ho (hs w (List.mem_cons_self ..)).1 hw) h
      simpa using this
/-! Lengths. -/
def sumB (l : List ByteArray) : Nat := (l.map fun x => x.data.toList.length + 1).sum
theorem tk_words : ∀ (n : Nat) (l : List UInt8) (i : Nat), l.length ≤ n → sumB ((tk l i).map (·.1)) ≤ l.length + 1 ∧ (∀ x ∈ tk l i, x.1.data.toList ≠ [])
  | 0, l, i, h => by
    obtain rfl : l = [] := List.eq_nil_of_length_eq_zero (by omega)
    simp [tk_nil, sumB]
  | n + 1, [], i, h => by simp [tk_nil, sumB]
  | n + 1, c :: r, i, h => by
    simp only [List.length_cons] at h
    cases hs : isSp c with
    | true =>
      rw [tk_sp hs]
      have := tk_words n r (i + 1) (by omega)
      exact ⟨by simp only [List.length_cons]; omega, this.2⟩
    | false =>
      by_cases h35 : c = 35
      · obtain ⟨a, b, rfl, h1, h2⟩ := span_of isNl r
        rw [h35, tk_com h1 h2]
        have := tk_words n b (i + 1 + a.length) (by simp at h; omega)
        exact ⟨by simp only [List.length_cons, List.length_append]; omega, this.2⟩
      · obtain ⟨a, b, rfl, h1, h2⟩ := span_of isSp r
        rw [tk_word hs h35 h1 h2]
        cases b with
        | nil =>
          rw [tk_nil]
          refine ⟨by show ((c :: a).length + 1) + 0 ≤ _; simp, fun x hx => ?_⟩
          rw [List.mem_singleton.1 hx]; simp
        | cons y b =>
          rw [tk_sp (h2 y b rfl)]
          have := tk_words n b (i + 1 + a.length + 1) (by simp at h; omega)
          refine ⟨?_, fun x hx => ?_⟩
          · have e : sumB (List.map (·.1) ((⟨(c :: a).toArray⟩, i) :: tk b (i + 1 + a.length + 1))) = (a.length + 1 + 1) + sumB ((tk b (i + 1 + a.length + 1)).map (·.1)) := rfl
            rw [e]
            simp only [List.length_cons, List.length_append]
            omega
          · rcases List.mem_cons.1 hx with rfl | hx
            · simp
            · exact this.2 x hx
theorem sumB_app (a b : List ByteArray) : sumB (a ++ b) = sumB a + sumB b := by simp [sumB]
theorem seps_len : ∀ l : List ByteArray, (glue (sepsO (l.map (·.data.toList)))).length = sumB l
  | [] => rfl
  | [x] => by simp [sepsO, glue, sumB]
  | x :: y :: l => by
    have ih := seps_len (y :: l)
    have e : sumB (x :: y :: l) = x.data.toList.length + 1 + sumB (y :: l) := by simp [sumB]
    rw [List.map_cons, List.map_cons, sepsO, glue_cons, e, ← ih, List.map_cons]
    simp; omega
theorem text_len : ∀ rs : List ORule, (textO rs).length = sumB (allB rs)
  | [] => rfl
  | r :: rs => by
    have e : textO (r :: rs) = lineO r ++ textO rs := by simp [textO]
    have e2 : allB (r :: rs) = wordsB r ++ allB rs := by simp [allB]
    rw [e, e2, List.length_append, text_len rs, sumB_app, line_glue, seps_len]
theorem text_short {s : ByteArray} {rs : List ORule} (hs : s.size ≤ 40000) (h : readAll 0 [] (wordsOf s) = .ok (0, rs)) : (textO rs).length ≤ s.size + 1 := by
  obtain ⟨h1, h2⟩ := tk_words s.data.toList.length s.data.toList 0 (Nat.le_refl _)
  rw [← wordsOf_tk] at h1 h2
  have hsm := words_small s hs
  have := readAll_words (wordsOf s) 0 0 [] [] 0 rs (fun x hx => ⟨h2 x hx, (hsm.each x hx).1⟩) ⟨by omega, by omega, by omega⟩ ⟨Nat.zero_le _, fun r hr => by cases hr⟩ (.inl ⟨rfl, rfl⟩) h
  rcases this with ⟨_, e⟩ | ⟨e, _⟩ | ⟨e, _⟩
  · rw [text_len, ← e, List.nil_append, ← sz]; exact h1
  · omega
  · omega
end Go.Proofs.YtidkpnabdfiilaaGreatDoor
