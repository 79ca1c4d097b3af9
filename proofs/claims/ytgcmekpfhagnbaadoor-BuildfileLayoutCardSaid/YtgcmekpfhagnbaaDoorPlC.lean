/- The text of rules, and what is read out of it. Plain. -/
import Derived.Test.YtgcmekpfhagnbaaDoorPlB
import Derived.Test.YtgcmekpfhagnbaaDoorPrA
namespace Go.Proofs.YtgcmekpfhagnbaaDoor

def okW (w : List UInt8) : Prop := w ≠ [] ∧ ∀ c ∈ w, isSp c = false ∧ c ≠ 35
def sepOK (s : List UInt8) : Prop := (∃ c t, s = c :: t ∧ isSp c = true) ∧ ∀ rest i, tk (s ++ rest) i = tk rest (i + s.length)
theorem sep_sp (c : UInt8) (h : isSp c = true) : sepOK [c] := ⟨⟨c, [], rfl, h⟩, fun rest i => tk_sp h rest i⟩
def glue (ps : List (List UInt8 × List UInt8)) : List UInt8 := (ps.map fun p => p.1 ++ p.2).flatten
theorem glue_cons (p : List UInt8 × List UInt8) (ps : List (List UInt8 × List UInt8)) : glue (p :: ps) = p.1 ++ (p.2 ++ glue ps) := by simp [glue]
theorem tk_glue : ∀ (ps : List (List UInt8 × List UInt8)), (∀ p ∈ ps, okW p.1 ∧ sepOK p.2) → ∀ (rest : List UInt8) (i : Nat), ∃ (Ws : List (ByteArray × Nat)) (j : Nat), Ws.map (·.1.data.toList) = ps.map (·.1) ∧ tk (glue ps ++ rest) i = Ws ++ tk rest j
  | [], _, rest, i => ⟨[], i, rfl, rfl⟩
  | p :: ps, h, rest, i => by
    obtain ⟨⟨hne, hw⟩, ⟨c', t', hs, hc'⟩, hsep⟩ := h p (List.mem_cons_self ..)
    obtain ⟨c, a, hp⟩ : ∃ c a, p.1 = c :: a := by
      cases hp : p.1 with
      | nil => exact absurd hp hne
      | cons c a => exact ⟨c, a, rfl⟩
    rw [hp] at hw
    have e : glue (p :: ps) ++ rest = c :: (a ++ (p.2 ++ (glue ps ++ rest))) := by rw [glue_cons, hp]; simp
    obtain ⟨Ws, j, h1, h2⟩ := tk_glue ps (fun q hq => h q (List.mem_cons_of_mem _ hq)) rest (i + 1 + a.length + p.2.length)
    refine ⟨(⟨(c :: a).toArray⟩, i) :: Ws, j, ?_, ?_⟩
    · rw [List.map_cons, List.map_cons, h1, hp]
    · rw [e, tk_word (hw c (List.mem_cons_self ..)).1 (hw c (List.mem_cons_self ..)).2 (fun x hx => (hw x (List.mem_cons_of_mem _ hx)).1) (fun y t hy => by rw [hs] at hy; cases hy; exact hc'), hsep, h2]
      rfl
/-- Which characters labels have. -/
theorem split_mem : ∀ (l : List UInt8) (c : UInt8), c ∈ l → c = 47 ∨ ∃ p ∈ split l, c ∈ p
  | d :: r, c, hc => by
    rw [split]
    by_cases hd : d = 47
    · rw [if_pos hd]
      rcases List.mem_cons.1 hc with rfl | hc
      · exact .inl hd
      · rcases split_mem r c hc with h | ⟨p, hp, h⟩
        · exact .inl h
        · exact .inr ⟨p, List.mem_cons_of_mem _ hp, h⟩
    · rw [if_neg hd]
      cases hs : split r with
      | nil => exact absurd hs (split_ne r)
      | cons q qs =>
        rcases List.mem_cons.1 hc with rfl | hc
        · exact .inr ⟨c :: q, List.mem_cons_self .., List.mem_cons_self ..⟩
        · rcases split_mem r c hc with h | ⟨p, hp, h⟩
          · exact .inl h
          · rw [hs] at hp
            rcases List.mem_cons.1 hp with rfl | hp
            · exact .inr ⟨d :: p, List.mem_cons_self .., List.mem_cons_of_mem _ h⟩
            · exact .inr ⟨p, List.mem_cons_of_mem _ hp, h⟩
theorem word_char {p : List UInt8} (h : wordN 20 p = true) {c : UInt8} (hc : c ∈ p) : isSp c = false ∧ c ≠ 35 := by
  simp only [wordN, Bool.and_eq_true] at h
  obtain ⟨i, hi, rfl⟩ := List.getElem_of_mem hc
  have := (wordB_iff p).1 h.2 i hi
  rw [List.getD_eq_getElem?_getD, List.getElem?_eq_getElem hi] at this
  simp only [Option.getD_some, okAt, isLet, isDig, Bool.or_eq_true, Bool.and_eq_true, decide_eq_true_eq] at this
  have hb : 48 ≤ p[i].toNat := by
    rcases this with ⟨h1, _⟩ | ⟨_, h1, _⟩
    · omega
    · omega
  have ne : ∀ d : UInt8, d.toNat < 48 → p[i] ≠ d := fun d hd e => by rw [e] at hb; omega
  refine ⟨?_, ne 35 (by decide)⟩
  unfold isSp
  have h1 := ne 32 (by decide)
  have h2 := ne 10 (by decide)
  simp [h1, h2]
theorem label_okW {l : List UInt8} (h : labelB l = true) : okW l := by
  refine ⟨(fun e => by rw [e, labelB_nil] at h; cases h), fun c hc => ?_⟩
  rw [labelB, Bool.and_eq_true, List.all_eq_true] at h
  rcases split_mem l c hc with rfl | ⟨p, hp, hcp⟩
  · decide
  · exact word_char (h.2 p hp) hcp
theorem free_okW {s : ByteArray} (h : freeLabelS s = true) : okW s.data.toList := by
  unfold freeLabelS freeLabelB at h
  rw [Bool.and_eq_true] at h
  exact label_okW h.1
theorem name_okW {s : ByteArray} (h : freeNameS s = true) : okW s.data.toList := by
  unfold freeNameS freeNameB nameB at h
  rw [Bool.and_eq_true, Bool.and_eq_true] at h
  exact label_okW h.1.1
theorem viewer_okW {s : ByteArray} (h : viewerS s = true) : okW s.data.toList := by
  unfold viewerS viewerB at h
  split at h
  · rename_i hl
    obtain ⟨r, hr⟩ := List.getLast?_eq_some_iff.1 hl
    rw [hr, List.dropLast_concat] at h
    obtain ⟨h1, h2⟩ := label_okW h
    rw [hr]
    refine ⟨by simp, fun c hc => ?_⟩
    rcases List.mem_append.1 hc with hc | hc
    · exact h2 c hc
    · rw [List.mem_singleton.1 hc]; decide
  · rw [Bool.or_eq_true] at h
    rcases h with h | h
    · rw [beq_iff_eq.1 h]
      exact ⟨by simp, by decide⟩
    · exact free_okW h
theorem elems_all (vb : ByteArray → Bool) : ∀ (l pre : List ByteArray), elemsErr vb pre l = 0 → ∀ x ∈ l, vb x = true
  | [], _, _, x, hx => by cases hx
  | s :: l, pre, h, x, hx => by
    rw [elemsErr] at h
    split at h
    · rename_i hv
      split at h
      · cases h
      · rcases List.mem_cons.1 hx with rfl | hx
        · exact hv
        · exact elems_all vb l _ h x hx
    · cases h
structure GoodR (r : Rule) : Prop where
  kind : r.kind = 1 ∨ r.kind = 2
  name : freeNameS r.name = true
  deps : ∀ x ∈ r.deps, freeLabelS x = true
  vis : ∀ x ∈ r.vis, viewerS x = true
theorem ruleErr_good {r : Rule} (h : ruleErr r = 0) : GoodR r := by
  unfold ruleErr at h
  split at h
  · cases h
  · rename_i h1
    split at h
    · cases h
    · rename_i h2
      split at h
      · cases h
      · split at h
        · rename_i h4; exact absurd h h4
        · rename_i h4
          refine ⟨?_, by simpa using h2, elems_all _ _ _ (by simpa using h4), elems_all _ _ _ h⟩
          by_cases e : r.kind = 1
          · exact .inl e
          · by_cases e2 : r.kind = 2
            · exact .inr e2
            · exact absurd ⟨e, e2⟩ h1
theorem wordsR_ok {r : Rule} (h : GoodR r) : ∀ x ∈ wordsR r, okW x.data.toList := by
  intro x hx
  have hsec : ∀ (txt : ByteArray) (l : List ByteArray), okW txt.data.toList → (∀ s ∈ l, okW s.data.toList) → ∀ x ∈ secOf txt l, okW x.data.toList := fun txt l h1 h2 x hx => by
    unfold secOf at hx
    split at hx
    · cases hx
    · rcases List.mem_cons.1 hx with rfl | hx
      · exact h1
      · exact h2 x hx
  unfold wordsR at hx
  simp only [List.mem_append, List.mem_cons, List.not_mem_nil, or_false] at hx
  rcases hx with ((((rfl | rfl) | hx) | hx) | rfl)
  · unfold kindB
    split
    · exact ⟨by decide, by decide⟩
    · exact ⟨by decide, by decide⟩
  · exact name_okW h.name
  · exact hsec _ _ ⟨by decide, by decide⟩ (fun s hs => free_okW (h.deps s hs)) x hx
  · exact hsec _ _ ⟨by decide, by decide⟩ (fun s hs => viewer_okW (h.vis s hs)) x hx
  · exact ⟨by decide, by decide⟩
/-- The words with what follows each: a blank, and behind the last a line's end. -/
def seps : List (List UInt8) → List (List UInt8 × List UInt8)
  | [] => []
  | [x] => [(x, [10])]
  | x :: y :: l => (x, [32]) :: seps (y :: l)
theorem seps_map : ∀ l : List (List UInt8), (seps l).map (·.1) = l
  | [] => rfl
  | [x] => rfl
  | x :: y :: l => by rw [seps, List.map_cons, seps_map (y :: l)]
theorem seps_ok : ∀ {l : List (List UInt8)}, (∀ x ∈ l, okW x) → ∀ p ∈ seps l, okW p.1 ∧ sepOK p.2
  | [], _, p, hp => by cases hp
  | [x], h, p, hp => by
    rw [List.mem_singleton.1 hp]
    exact ⟨h x (List.mem_singleton_self x), sep_sp 10 rfl⟩
  | x :: y :: l, h, p, hp => by
    rw [seps] at hp
    rcases List.mem_cons.1 hp with rfl | hp
    · exact ⟨h x (List.mem_cons_self ..), sep_sp 32 rfl⟩
    · exact seps_ok (fun z hz => h z (List.mem_cons_of_mem _ hz)) p hp
theorem join_glue : ∀ {l : List (List UInt8)}, l ≠ [] → Lib.join l [32] ++ [10] = glue (seps l)
  | [], h => absurd rfl h
  | [x], _ => by rw [Lib.join_one]; simp [seps, glue]
  | x :: y :: l, _ => by
    have e : Lib.join (x :: y :: l) [32] = x ++ ([32] ++ Lib.join (y :: l) [32]) := by simp [Lib.join, List.intercalate, List.intersperse]
    rw [e, seps, glue_cons, ← join_glue (l := y :: l) (by simp)]
    simp
theorem wordsR_ne (r : Rule) : (wordsR r).map (·.data.toList) ≠ [] := by simp [wordsR]
/-- Words by their texts. -/
theorem texts_eq {Ws : Words} {l : List ByteArray} (h : Ws.map (·.1.data.toList) = l.map (·.data.toList)) : Ws.map (·.1) = l := by
  induction Ws generalizing l with
  | nil =>
    cases l with
    | nil => rfl
    | cons x l => cases h
  | cons y Ws ih =>
    cases l with
    | nil => cases h
    | cons x l =>
      simp only [List.map_cons, List.cons.injEq] at h
      rw [List.map_cons, ih h.2, bytes_ext h.1]
theorem part_texts {txt : ByteArray} {vb : ByteArray → Bool} {l : List ByteArray} (hv : ∀ x ∈ l, vb x = true) {D : Words} (h : D.map (·.1) = secOf txt l) : PartOf txt vb D l := by
  unfold secOf at h
  split at h
  · rename_i h0
    left
    exact ⟨List.map_eq_nil_iff.1 h, List.eq_nil_of_length_eq_zero h0⟩
  · rename_i h0
    right
    cases D with
    | nil => cases h
    | cons k L =>
      simp only [List.map_cons, List.cons.injEq] at h
      refine ⟨k, L, rfl, by rw [h.1], fun e => ?_, fun x hx => ?_, h.2.symm⟩
      · rw [e] at h
        apply h0
        rw [← h.2]; rfl
      · apply hv
        rw [← h.2]
        exact List.mem_map_of_mem hx
theorem rule_texts {r : Rule} (h : GoodR r) {Ws : Words} (hw : Ws.map (·.1) = wordsR r) : RuleW Ws r := by
  unfold wordsR at hw
  obtain ⟨A, B, rfl, hA, hB⟩ := List.map_eq_append_iff.1 hw
  obtain ⟨A1, V, rfl, hA1, hV⟩ := List.map_eq_append_iff.1 hA
  obtain ⟨A2, D, rfl, hA2, hD⟩ := List.map_eq_append_iff.1 hA1
  obtain ⟨K, A3, rfl, hK, hA3⟩ := List.map_eq_cons_iff.1 hA2
  obtain ⟨N, A4, rfl, hN, hA4⟩ := List.map_eq_cons_iff.1 hA3
  obtain rfl := List.map_eq_nil_iff.1 hA4
  obtain ⟨S, B', rfl, hS, hB'⟩ := List.map_eq_cons_iff.1 hB
  obtain rfl := List.map_eq_nil_iff.1 hB'
  refine ⟨K, N, D, V, S, by simp, ?_, by rw [hN]; exact h.name, hN, part_texts h.deps hD, part_texts h.vis hV, by rw [hS]⟩
  unfold KindW
  rw [hK]
  unfold kindB
  rcases h.kind with e | e
  · left; rw [e]; exact ⟨rfl, rfl⟩
  · right; rw [e]; exact ⟨rfl, rfl⟩
theorem tk_line {r : Rule} (h : GoodR r) (rest : List UInt8) (i : Nat) : ∃ (Ws : Words) (j : Nat), RuleW Ws r ∧ tk (lineOf r ++ rest) i = Ws ++ tk rest j := by
  obtain ⟨Ws, j, h1, h2⟩ := tk_glue (seps ((wordsR r).map (·.data.toList))) (seps_ok (fun x hx => by
    obtain ⟨y, hy, rfl⟩ := List.mem_map.1 hx
    exact wordsR_ok h y hy)) rest i
  rw [seps_map] at h1
  exact ⟨Ws, j, rule_texts h (texts_eq h1), by rw [lineOf, join_glue (wordsR_ne r)]; exact h2⟩
theorem tk_text : ∀ {rs : List Rule}, (∀ r ∈ rs, GoodR r) → ∀ i, RulesW (tk (textOf rs) i) rs
  | [], _, i => RulesW.nil
  | r :: rs, h, i => by
    have e : textOf (r :: rs) = lineOf r ++ textOf rs := by simp [textOf]
    obtain ⟨Ws, j, h1, h2⟩ := tk_line (h r (List.mem_cons_self ..)) (textOf rs) i
    rw [e, h2]
    exact RulesW.cons h1 (tk_text (fun q hq => h q (List.mem_cons_of_mem _ hq)) j)
theorem parse_words {s : ByteArray} {rs : List Rule} (h : RulesW (wordsOf s) rs) (hc : checkErr rs = 0) : parseR s = (rs, 0, 0) := by
  unfold parseR
  rw [parse_rules h _ _ _ rfl (Nat.le_refl _), List.nil_append]
  simp only
  rw [if_pos hc]
/-- The text of valid rules is read back. -/
theorem parse_text {rs : List Rule} (h : checkErr rs = 0) : parseR ⟨(textOf rs).toArray⟩ = (rs, 0, 0) := by
  refine parse_words ?_ h
  rw [wordsOf_tk]
  exact tk_text (fun r hr => ruleErr_good ((checkErr_ok h).2 r hr)) 0
/-! How long the text is. -/
def sumW (ws : List (List UInt8)) : Nat := (ws.map (fun x => x.length + 1)).sum
theorem glue_len : ∀ l : List (List UInt8), (glue (seps l)).length = sumW l
  | [] => rfl
  | [x] => by simp [seps, glue, sumW]
  | x :: y :: l => by
    rw [seps, glue_cons, List.length_append, List.length_append, glue_len (y :: l)]
    simp [sumW]; omega
theorem line_len (r : Rule) : (lineOf r).length = sumW ((wordsR r).map (·.data.toList)) := by rw [lineOf, join_glue (wordsR_ne r), glue_len]
theorem sumW_app (a b : List (List UInt8)) : sumW (a ++ b) = sumW a + sumW b := by simp [sumW]
theorem part_sum {txt : ByteArray} {vb : ByteArray → Bool} {D : Words} {l : List ByteArray} (h : PartOf txt vb D l) : (secOf txt l).map (·.data.toList) = D.map (·.1.data.toList) := by
  rcases h with ⟨rfl, rfl⟩ | ⟨k, L, rfl, hk, hL, _, rfl⟩
  · rfl
  · unfold secOf
    rw [if_neg (by rw [List.length_map]; exact fun e => hL (List.eq_nil_of_length_eq_zero e))]
    simp [hk]
theorem rule_sum {W : Words} {r : Rule} (h : RuleW W r) : sumW ((wordsR r).map (·.data.toList)) = sumW (W.map (·.1.data.toList)) := by
  obtain ⟨K, N, D, V, S, rfl, hK, _, hN, hD, hV, hS⟩ := h
  have hk : (kindB r.kind).data.toList = K.1.data.toList := by
    unfold kindB
    rcases hK with ⟨h, e⟩ | ⟨h, e⟩
    · rw [e, h]; rfl
    · rw [e, h]; rfl
  congr 1
  unfold wordsR
  simp only [List.map_append, List.map_cons, List.map_nil, part_sum hD, part_sum hV, hk, hS, ← hN]
  simp
theorem text_sum : ∀ {rs : List Rule} {ws : Words}, RulesW ws rs → (textOf rs).length = sumW (ws.map (·.1.data.toList))
  | [], ws, h => by rw [show ws = [] from h]; rfl
  | r :: rs, ws, h => by
    obtain ⟨W, ws', rfl, hW, h1⟩ := h
    have e : textOf (r :: rs) = lineOf r ++ textOf rs := by simp [textOf]
    rw [e, List.length_append, line_len, rule_sum hW, text_sum h1, List.map_append, sumW_app]
theorem tk_sum : ∀ (n : Nat) (l : List UInt8) (i : Nat), l.length ≤ n → sumW ((tk l i).map (·.1.data.toList)) ≤ l.length + 1
  | 0, l, i, h => by
    obtain rfl : l = [] := List.eq_nil_of_length_eq_zero (by omega)
    simp [tk_nil, sumW]
  | n + 1, [], i, h => by simp [tk_nil, sumW]
  | n + 1, c :: r, i, h => by
    simp only [List.length_cons] at h ⊢
    cases hs : isSp c with
    | true => rw [tk_sp hs]; have := tk_sum n r (i + 1) (by omega); omega
    | false =>
      by_cases h35 : c = 35
      · obtain ⟨a, b, rfl, h1, h2⟩ := span_of isNl r
        rw [h35, tk_com h1 h2]
        have := tk_sum n b (i + 1 + a.length) (by simp at h; omega)
        simp; omega
      · obtain ⟨a, b, rfl, h1, h2⟩ := span_of isSp r
        rw [tk_word hs h35 h1 h2, List.map_cons]
        have e : ∀ (x : List UInt8) l, sumW (x :: l) = x.length + 1 + sumW l := fun x l => by simp [sumW]
        rw [e]
        cases b with
        | nil => simp [tk_nil, sumW]
        | cons y t =>
          rw [tk_sp (h2 y t rfl)]
          have := tk_sum n t (i + 1 + a.length + 1) (by simp at h; omega)
          simp; omega
end Go.Proofs.YtgcmekpfhagnbaaDoor
