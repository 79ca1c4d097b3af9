/- Words with other white space and comments between them. Plain. -/
import Derived.Test.YtgcmekpfhagnbaaDoorPlC
import Derived.Test.YtgcmekpfhagnbaaDoorPrC
import Derived.Test.YtgcmekpfhagnbaaDoorGrA
import Derived.Lib.Fields
namespace Go.Proofs.YtgcmekpfhagnbaaDoor

/-- Characters that are no white space, whoever asks. -/
def ascW (w : List UInt8) : Prop := w ≠ [] ∧ ∀ c ∈ w, 42 ≤ c.toNat ∧ c.toNat ≤ 122
theorem word_asc {p : List UInt8} (h : wordN 20 p = true) {c : UInt8} (hc : c ∈ p) : 42 ≤ c.toNat ∧ c.toNat ≤ 122 := by
  simp only [wordN, Bool.and_eq_true] at h
  obtain ⟨i, hi, rfl⟩ := List.getElem_of_mem hc
  have := (wordB_iff p).1 h.2 i hi
  rw [List.getD_eq_getElem?_getD, List.getElem?_eq_getElem hi] at this
  simp only [Option.getD_some, okAt, isLet, isDig, Bool.or_eq_true, Bool.and_eq_true, decide_eq_true_eq] at this
  rcases this with ⟨h1, h2⟩ | ⟨_, h1, h2⟩ <;> omega
theorem label_asc {l : List UInt8} (h : labelB l = true) : ascW l := by
  refine ⟨(label_okW h).1, fun c hc => ?_⟩
  rw [labelB, Bool.and_eq_true, List.all_eq_true] at h
  rcases split_mem l c hc with rfl | ⟨p, hp, hcp⟩
  · decide
  · exact word_asc (h.2 p hp) hcp
theorem free_asc {s : ByteArray} (h : freeLabelS s = true) : ascW s.data.toList := by
  unfold freeLabelS freeLabelB at h
  rw [Bool.and_eq_true] at h
  exact label_asc h.1
theorem name_asc {s : ByteArray} (h : freeNameS s = true) : ascW s.data.toList := by
  unfold freeNameS freeNameB nameB at h
  rw [Bool.and_eq_true, Bool.and_eq_true] at h
  exact label_asc h.1.1
theorem viewer_asc {s : ByteArray} (h : viewerS s = true) : ascW s.data.toList := by
  unfold viewerS viewerB at h
  split at h
  · rename_i hl
    obtain ⟨r, hr⟩ := List.getLast?_eq_some_iff.1 hl
    rw [hr, List.dropLast_concat] at h
    obtain ⟨h1, h2⟩ := label_asc h
    rw [hr]
    refine ⟨by simp, fun c hc => ?_⟩
    rcases List.mem_append.1 hc with hc | hc
    · exact h2 c hc
    · rw [List.mem_singleton.1 hc]; decide
  · rw [Bool.or_eq_true] at h
    rcases h with h | h
    · rw [beq_iff_eq.1 h]
      exact ⟨by simp, by decide⟩
    · exact free_asc h
theorem wordsR_asc {r : Rule} (h : GoodR r) : ∀ x ∈ wordsR r, ascW x.data.toList := by
  intro x hx
  have hsec : ∀ (txt : ByteArray) (l : List ByteArray), ascW txt.data.toList → (∀ s ∈ l, ascW s.data.toList) → ∀ x ∈ secOf txt l, ascW x.data.toList := fun txt l h1 h2 x hx => by
    unfold secOf at hx
    split at hx
    · cases hx
    · rcases List.mem_cons.1 hx with rfl | hx
      · exact h1
      · exact h2 x hx
  unfold wordsR at hx
  simp only [List.mem_append, List.mem_cons, List.not_mem_nil, or_false] at hx
  rcases hx with ((((rfl | rfl) | hx) | hx) | rfl)
  · unfold kindB
    split
    · exact ⟨by decide, by decide⟩
    · exact ⟨by decide, by decide⟩
  · exact name_asc h.name
  · exact hsec _ _ ⟨by decide, by decide⟩ (fun s hs => free_asc (h.deps s hs)) x hx
  · exact hsec _ _ ⟨by decide, by decide⟩ (fun s hs => viewer_asc (h.vis s hs)) x hx
  · exact ⟨by decide, by decide⟩
theorem lsp_no {c : UInt8} (h : 42 ≤ c.toNat) : Lib.isSp c = false := by
  cases e : Lib.isSp c with
  | false => rfl
  | true =>
    unfold Lib.isSp at e
    simp only [Bool.or_eq_true, beq_iff_eq] at e
    have key : ∀ d : UInt8, d.toNat < 42 → c ≠ d := fun d hd e => by rw [e] at h; omega
    rcases e with ((((e | e) | e) | e) | e) | e <;> exact absurd e (key _ (by decide))
theorem fields_word : ∀ (a cur : List UInt8) (c : UInt8) (rest : List UInt8), (∀ x ∈ a, 42 ≤ x.toNat) → cur ++ a ≠ [] → Lib.isSp c = true → Lib.fieldsGo cur (a ++ c :: rest) = (cur ++ a) :: Lib.fieldsGo [] rest
  | [], cur, c, rest, _, hne, hc => by
    rw [List.append_nil] at hne ⊢
    exact Lib.fieldsGo_end cur c rest hc hne
  | x :: a, cur, c, rest, ha, _, hc => by
    rw [List.cons_append, Lib.fieldsGo_more _ _ _ (lsp_no (ha x (List.mem_cons_self ..))), fields_word a (cur ++ [x]) c rest (fun y hy => ha y (List.mem_cons_of_mem _ hy)) (by simp) hc]
    simp
theorem fields_seps : ∀ {l : List (List UInt8)}, (∀ x ∈ l, ascW x) → ∀ rest, Lib.fieldsGo [] (glue (seps l) ++ rest) = l ++ Lib.fieldsGo [] rest
  | [], _, rest => rfl
  | [x], h, rest => by
    obtain ⟨h1, h2⟩ := h x (List.mem_singleton_self x)
    rw [seps, glue_cons, List.append_assoc, List.append_assoc]
    show Lib.fieldsGo [] (x ++ 10 :: ([] ++ rest)) = _
    rw [fields_word x [] 10 _ (fun y hy => (h2 y hy).1) (by simpa using h1) (by decide)]
    rfl
  | x :: y :: l, h, rest => by
    obtain ⟨h1, h2⟩ := h x (List.mem_cons_self ..)
    rw [seps, glue_cons, List.append_assoc, List.append_assoc]
    show Lib.fieldsGo [] (x ++ 32 :: (glue (seps (y :: l)) ++ rest)) = _
    rw [fields_word x [] 32 _ (fun z hz => (h2 z hz).1) (by simpa using h1) (by decide), fields_seps (fun z hz => h z (List.mem_cons_of_mem _ hz)) rest]
    rfl
/-- All words of rules. -/
def allW (rs : List Rule) : List ByteArray := (rs.map wordsR).flatten
theorem fields_text : ∀ {rs : List Rule}, (∀ r ∈ rs, GoodR r) → Lib.fields (textOf rs) = (allW rs).map (·.data.toList)
  | [], _ => rfl
  | r :: rs, h => by
    have e : textOf (r :: rs) = lineOf r ++ textOf rs := by simp [textOf]
    have ih := fields_text (rs := rs) (fun q hq => h q (List.mem_cons_of_mem _ hq))
    unfold Lib.fields at ih ⊢
    rw [e, lineOf, join_glue (wordsR_ne r), fields_seps (fun x hx => by
      obtain ⟨y, hy, rfl⟩ := List.mem_map.1 hx
      exact wordsR_asc (h r (List.mem_cons_self ..)) y hy), ih]
    simp [allW]
/-- The five separators. -/
def gapB (j : Nat) : ByteArray := match j with
  | 0 => ⟨#[32]⟩ | 1 => ⟨#[10]⟩ | 2 => ⟨#[32, 32, 10, 32]⟩ | 3 => ⟨#[32, 35, 32, 108, 105, 98, 32, 120, 32, 59, 10]⟩ | _ => ⟨#[10, 35, 10, 35, 59, 10]⟩
theorem tk_com' (a : List UInt8) (ha : ∀ x ∈ a, isNl x = false) (rest : List UInt8) (i : Nat) : tk (35 :: (a ++ 10 :: rest)) i = tk rest (i + 1 + a.length + 1) := by
  rw [tk_com ha (fun y t e => by cases e; rfl), tk_nl]
theorem gap_ok (j : Nat) : sepOK (gapB j).data.toList := by
  match j with
  | 0 => exact sep_sp 32 rfl
  | 1 => exact sep_sp 10 rfl
  | 2 => exact ⟨⟨32, [32, 10, 32], rfl, rfl⟩, fun rest i => by
      show tk (32 :: 32 :: 10 :: 32 :: rest) i = tk rest (i + 4)
      rw [tk_sp rfl, tk_sp rfl, tk_sp rfl, tk_sp rfl]⟩
  | 3 => exact ⟨⟨32, [35, 32, 108, 105, 98, 32, 120, 32, 59, 10], rfl, rfl⟩, fun rest i => by
      show tk (32 :: 35 :: ([32, 108, 105, 98, 32, 120, 32, 59] ++ 10 :: rest)) i = tk rest (i + 11)
      rw [tk_sp rfl, tk_com' _ (by decide)]
      rfl⟩
  | (n + 4) => exact ⟨⟨10, [35, 10, 35, 59, 10], rfl, rfl⟩, fun rest i => by
      show tk (10 :: 35 :: ([] ++ 10 :: (35 :: ([59] ++ 10 :: rest)))) i = tk rest (i + 6)
      rw [tk_sp rfl, tk_com' _ (by simp), tk_com' _ (by decide)]
      rfl⟩
theorem gapB_size (j : Nat) : (gapB j).size ≤ 11 := by
  match j with
  | 0 => decide
  | 1 => decide
  | 2 => decide
  | 3 => decide
  | (n + 4) => exact (by decide : (⟨#[10, 35, 10, 35, 59, 10]⟩ : ByteArray).size ≤ 11)
/-- The words, each with the separator that its place has. -/
def pairsOf (ws : List ByteArray) (f : Nat → Nat) : List (List UInt8 × List UInt8) := (List.range ws.length).map fun j => ((ws.getD j ByteArray.empty).data.toList, (gapB (f j)).data.toList)
theorem pairs_map (ws : List ByteArray) (f : Nat → Nat) : (pairsOf ws f).map (·.1) = ws.map (·.data.toList) := by
  unfold pairsOf
  rw [List.map_map]
  apply List.ext_getElem?
  intro i
  by_cases hi : i < ws.length
  · simp [hi]
  · simp [hi]
theorem pairs_take {ws : List ByteArray} {f : Nat → Nat} {k : Nat} (hk : k < ws.length) : glue ((pairsOf ws f).take (k + 1)) = glue ((pairsOf ws f).take k) ++ ((ws.getD k ByteArray.empty).data.toList ++ (gapB (f k)).data.toList) := by
  have hl : k < (pairsOf ws f).length := by simpa [pairsOf] using hk
  rw [List.take_succ_eq_append_getElem hl]
  have e : (pairsOf ws f)[k] = ((ws.getD k ByteArray.empty).data.toList, (gapB (f k)).data.toList) := by simp [pairsOf]
  rw [e]
  simp [glue]
theorem rules_texts : ∀ {rs : List Rule}, (∀ r ∈ rs, GoodR r) → ∀ {Ws : Words}, Ws.map (·.1) = allW rs → RulesW Ws rs
  | [], _, Ws, h => List.map_eq_nil_iff.1 h
  | r :: rs, hg, Ws, h => by
    have e : allW (r :: rs) = wordsR r ++ allW rs := by simp [allW]
    rw [e] at h
    obtain ⟨A, B, rfl, hA, hB⟩ := List.map_eq_append_iff.1 h
    exact RulesW.cons (rule_texts (hg r (List.mem_cons_self ..)) hA) (rules_texts (fun q hq => hg q (List.mem_cons_of_mem _ hq)) hB)
def firstB : List UInt8 := [35, 32, 102, 105, 114, 115, 116, 10]
/-- What is laid out otherwise is read the same. -/
theorem parse_layout {rs : List Rule} (h : checkErr rs = 0) (f : Nat → Nat) {s : ByteArray} (hs : s.data.toList = firstB ++ glue (pairsOf (allW rs) f) ++ [35]) : parseR s = (rs, 0, 0) := by
  have hg : ∀ r ∈ rs, GoodR r := fun r hr => ruleErr_good ((checkErr_ok h).2 r hr)
  refine parse_words ?_ h
  rw [wordsOf_tk, hs]
  have e : firstB ++ glue (pairsOf (allW rs) f) ++ [35] = 35 :: ([32, 102, 105, 114, 115, 116] ++ 10 :: (glue (pairsOf (allW rs) f) ++ [35])) := by simp [firstB]
  rw [e, tk_com' _ (by decide)]
  obtain ⟨Ws, j, h1, h2⟩ := tk_glue (pairsOf (allW rs) f) (fun p hp => by
    unfold pairsOf at hp
    obtain ⟨q, hq, rfl⟩ := List.mem_map.1 hp
    refine ⟨?_, gap_ok _⟩
    have hlt := List.mem_range.1 hq
    have hm : (allW rs).getD q ByteArray.empty ∈ allW rs := by
      rw [List.getD_eq_getElem?_getD, List.getElem?_eq_getElem hlt]; exact List.getElem_mem hlt
    unfold allW at hm ⊢
    obtain ⟨l, hl, hx⟩ := List.mem_flatten.1 hm
    obtain ⟨r, hr, rfl⟩ := List.mem_map.1 hl
    exact wordsR_ok (hg r hr) _ hx) [35] (0 + 1 + ([32, 102, 105, 114, 115, 116] : List UInt8).length + 1)
  rw [h2, show tk [35] j = [] from rfl, List.append_nil]
  rw [pairs_map] at h1
  exact rules_texts hg (texts_eq h1)
/-! Sizes. -/
theorem glue_le (m : Nat) : ∀ {ps : List (List UInt8 × List UInt8)}, (∀ p ∈ ps, p.2.length ≤ m + 1) → (glue ps).length ≤ sumW (ps.map (·.1)) + ps.length * m
  | [], _ => by simp [glue, sumW]
  | p :: ps, h => by
    have ih := glue_le m (ps := ps) (fun q hq => h q (List.mem_cons_of_mem _ hq))
    have hp := h p (List.mem_cons_self ..)
    have e : sumW ((p :: ps).map (·.1)) = p.1.length + 1 + sumW (ps.map (·.1)) := by simp [sumW]
    rw [glue_cons, List.length_append, List.length_append, e, List.length_cons, Nat.add_mul, Nat.one_mul]
    omega
theorem all_sum : ∀ rs : List Rule, sumW ((allW rs).map (·.data.toList)) = (textOf rs).length
  | [] => rfl
  | r :: rs => by
    have e : textOf (r :: rs) = lineOf r ++ textOf rs := by simp [textOf]
    have e2 : allW (r :: rs) = wordsR r ++ allW rs := by simp [allW]
    rw [e, e2, List.map_append, sumW_app, all_sum rs, List.length_append, line_len]
theorem all_len : ∀ {rs : List Rule}, (∀ r ∈ rs, (wordsR r).length ≤ 45) → (allW rs).length ≤ rs.length * 45
  | [], _ => by simp [allW]
  | r :: rs, h => by
    have ih := all_len (rs := rs) (fun q hq => h q (List.mem_cons_of_mem _ hq))
    have hr := h r (List.mem_cons_self ..)
    have e2 : allW (r :: rs) = wordsR r ++ allW rs := by simp [allW]
    rw [e2, List.length_append, List.length_cons, Nat.add_mul, Nat.one_mul]
    omega
end Go.Proofs.YtgcmekpfhagnbaaDoor
