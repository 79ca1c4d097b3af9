/- Words with other white space and comments between them. Plain. -/
import Derived.Test.YtgknclplheldmaaDoorVvO
import Derived.Lib.Fields
namespace Go.Proofs.YtgknclplheldmaaDoor

theorem lsp_no {c : UInt8} (h : 42 ≤ c.toNat) : Lib.isSp c = false := by
  cases e : Lib.isSp c with
  | false => rfl
  | true =>
    unfold Lib.isSp at e
    simp only [Bool.or_eq_true, beq_iff_eq] at e
    have key : ∀ d : UInt8, d.toNat < 42 → c ≠ d := fun d hd e => by rw [e] at h; omega
    rcases e with ((((e | e) | e) | e) | e) | e <;> exact absurd e (key _ (by decide))
theorem fields_word : ∀ (a cur : List UInt8) (c : UInt8) (rest : List UInt8), (∀ x ∈ a, 42 ≤ x.toNat) → cur ++ a ≠ [] → Lib.isSp c = true → Lib.fieldsGo cur (a ++ c :: rest) = (cur ++ a) :: Lib.fieldsGo [] rest
  | [], cur, c, rest, _, hne, hc => by
    rw [List.append_nil] at hne ⊢
    exact Lib.fieldsGo_end cur c rest hc hne
  | x :: a, cur, c, rest, ha, _, hc => by
    rw [List.cons_append, Lib.fieldsGo_more _ _ _ (lsp_no (ha x (List.mem_cons_self ..))), fields_word a (cur ++ [x]) c rest (fun y hy => ha y (List.mem_cons_of_mem _ hy)) (by simp) hc]
    simp
theorem fields_seps : ∀ {l : List (List UInt8)}, (∀ x ∈ l, ascW x) → ∀ rest, Lib.fieldsGo [] (glue (sepsO l) ++ rest) = l ++ Lib.fieldsGo [] rest
  | [], _, rest => rfl
  | [x], h, rest => by
    obtain ⟨h1, h2⟩ := h x (List.mem_singleton_self x)
    rw [sepsO, glue_cons, List.append_assoc, List.append_assoc]
    show Lib.fieldsGo [] (x ++ 10 :: ([] ++ rest)) = _
    rw [fields_word x [] 10 _ (fun y hy => (h2 y hy).1) (by simpa using h1) (by decide)]
    rfl
  | x :: y :: l, h, rest => by
    obtain ⟨h1, h2⟩ := h x (List.mem_cons_self ..)
    rw [sepsO, glue_cons, List.append_assoc, List.append_assoc]
    show Lib.fieldsGo [] (x ++ 32 :: (glue (sepsO (y :: l)) ++ rest)) = _
    rw [fields_word x [] 32 _ (fun z hz => (h2 z hz).1) (by simpa using h1) (by decide), fields_seps (fun z hz => h z (List.mem_cons_of_mem _ hz)) rest]
    rfl
theorem fields_text : ∀ {rs : List ORule}, (∀ r ∈ rs, GoodO r) → Lib.fields (textO rs) = (allB rs).map (·.data.toList)
  | [], _ => rfl
  | r :: rs, h => by
    have e : textO (r :: rs) = lineO r ++ textO rs := by simp [textO]
    have ih := fields_text (rs := rs) (fun q hq => h q (List.mem_cons_of_mem _ hq))
    unfold Lib.fields at ih ⊢
    rw [e, line_glue, fields_seps (fun x hx => by
      obtain ⟨y, hy, rfl⟩ := List.mem_map.1 hx
      exact (words_ok (h r (List.mem_cons_self ..)) y hy).2), ih]
    simp [allB]
/-- The four separators. -/
def gapB (j : Nat) : ByteArray := match j with
  | 0 => ⟨#[32]⟩ | 1 => ⟨#[10, 10]⟩ | 2 => ⟨#[32, 35, 32, 103, 114, 111, 117, 112, 32, 120, 32, 59, 10]⟩ | _ => ⟨#[32, 32, 10, 35, 10]⟩
theorem tk_com' (a : List UInt8) (ha : ∀ x ∈ a, isNl x = false) (rest : List UInt8) (i : Nat) : tk (35 :: (a ++ 10 :: rest)) i = tk rest (i + 1 + a.length + 1) := by
  rw [tk_com ha (fun y t e => by cases e; rfl), tk_nl]
theorem gap_ok (j : Nat) : sepOK (gapB j).data.toList := by
  match j with
  | 0 => exact sep_sp 32 rfl
  | 1 => exact ⟨⟨10, [10], rfl, rfl⟩, fun rest i => by
      show tk (10 :: 10 :: rest) i = tk rest (i + 2)
      rw [tk_sp rfl, tk_sp rfl]⟩
  | 2 => exact ⟨⟨32, [35, 32, 103, 114, 111, 117, 112, 32, 120, 32, 59, 10], rfl, rfl⟩, fun rest i => by
      show tk (32 :: 35 :: ([32, 103, 114, 111, 117, 112, 32, 120, 32, 59] ++ 10 :: rest)) i = tk rest (i + 13)
      rw [tk_sp rfl, tk_com' _ (by decide)]
      rfl⟩
  | (n + 3) => exact ⟨⟨32, [32, 10, 35, 10], rfl, rfl⟩, fun rest i => by
      show tk (32 :: 32 :: 10 :: 35 :: ([] ++ 10 :: rest)) i = tk rest (i + 5)
      rw [tk_sp rfl, tk_sp rfl, tk_sp rfl, tk_com' _ (by simp)]
      rfl⟩
theorem gapB_size (j : Nat) : (gapB j).data.toList.length ≤ 13 := by
  match j with
  | 0 => decide
  | 1 => decide
  | 2 => decide
  | (n + 3) => exact (by decide : (⟨#[32, 32, 10, 35, 10]⟩ : ByteArray).data.toList.length ≤ 13)
/-- The words, each with the separator that its place has. -/
def pairsOf (ws : List ByteArray) (f : Nat → Nat) : List (List UInt8 × List UInt8) := (List.range ws.length).map fun j => ((ws.getD j ByteArray.empty).data.toList, (gapB (f j)).data.toList)
theorem pairs_map (ws : List ByteArray) (f : Nat → Nat) : (pairsOf ws f).map (·.1) = ws.map (·.data.toList) := by
  unfold pairsOf
  rw [List.map_map]
  apply List.ext_getElem?
  intro i
  by_cases hi : i < ws.length
  · simp [hi]
  · simp [hi]
theorem pairs_take {ws : List ByteArray} {f : Nat → Nat} {k : Nat} (hk : k < ws.length) : glue ((pairsOf ws f).take (k + 1)) = glue ((pairsOf ws f).take k) ++ ((ws.getD k ByteArray.empty).data.toList ++ (gapB (f k)).data.toList) := by
  have hl : k < (pairsOf ws f).length := by simpa [pairsOf] using hk
  rw [List.take_succ_eq_append_getElem hl]
  have e : (pairsOf ws f)[k] = ((ws.getD k ByteArray.empty).data.toList, (gapB (f k)).data.toList) := by simp [pairsOf]
  rw [e]
  simp [glue]
theorem parse_layout {rs : List ORule} (hc : ocheckErr rs = 0) (f : Nat → Nat) {s : ByteArray} (hs : s.data.toList = glue (pairsOf (allB rs) f)) : oparse s = (rs, 0, 0) :=
  parse_glue hc (pairsOf (allB rs) f) (pairs_map _ _) (fun p hp => by
    unfold pairsOf at hp
    obtain ⟨q, _, rfl⟩ := List.mem_map.1 hp
    exact gap_ok _) s hs
theorem glue_le : ∀ {ps : List (List UInt8 × List UInt8)}, (∀ p ∈ ps, p.2.length ≤ 13) → (glue ps).length ≤ (ps.map fun p => p.1.length + 1).sum + ps.length * 12
  | [], _ => by simp [glue]
  | p :: ps, h => by
    have ih := glue_le (ps := ps) (fun q hq => h q (List.mem_cons_of_mem _ hq))
    have hp := h p (List.mem_cons_self ..)
    rw [glue_cons, List.length_append, List.length_append, List.map_cons, List.sum_cons, List.length_cons, Nat.add_mul, Nat.one_mul]
    omega
theorem groupsWB_len {gs : List (List ByteArray)} (h : ∀ g ∈ gs, g.length ≤ 20) : (groupsWB gs).length ≤ gs.length * 21 := by
  induction gs with
  | nil => simp [groupsWB]
  | cons g gs ih =>
    have e : groupsWB (g :: gs) = bGroup :: (g ++ groupsWB gs) := by simp [groupsWB]
    have := ih (fun x hx => h x (List.mem_cons_of_mem _ hx))
    have hg := h g (List.mem_cons_self ..)
    rw [e, List.length_cons, List.length_append, List.length_cons, Nat.add_mul, Nat.one_mul]
    omega
theorem wordsB_len {r : ORule} (h : GoodO r) : (wordsB r).length ≤ 171 := by
  have h1 := groupsWB_len (gs := r.groups) (fun g hg => (h.each g hg).2.1)
  have h2 : (headW r.pre).length ≤ 2 := by unfold headW; split <;> simp
  have h3 : r.groups.length * 21 ≤ 8 * 21 := Nat.mul_le_mul_right _ h.len.2
  unfold wordsB
  rw [List.length_append, List.length_append]
  simp only [List.length_cons, List.length_nil]
  omega
theorem allB_len : ∀ {rs : List ORule}, (∀ r ∈ rs, GoodO r) → (allB rs).length ≤ rs.length * 171
  | [], _ => by simp [allB]
  | r :: rs, h => by
    have ih := allB_len (rs := rs) (fun q hq => h q (List.mem_cons_of_mem _ hq))
    have hr := wordsB_len (h r (List.mem_cons_self ..))
    have e2 : allB (r :: rs) = wordsB r ++ allB rs := by simp [allB]
    rw [e2, List.length_append, List.length_cons, Nat.add_mul, Nat.one_mul]
    omega
theorem layout_len {rs : List ORule} (hg : ∀ r ∈ rs, GoodO r) (h6 : rs.length ≤ 6) (f : Nat → Nat) (k : Nat) : (glue ((pairsOf (allB rs) f).take k)).length ≤ 37260 := by
  have h1 := glue_le (ps := (pairsOf (allB rs) f).take k) (fun p hp => by
    have hp' := List.mem_of_mem_take hp
    unfold pairsOf at hp'
    obtain ⟨q, _, rfl⟩ := List.mem_map.1 hp'
    exact gapB_size (f q))
  have h2 := allB_len hg
  have h3 : rs.length * 171 ≤ 6 * 171 := Nat.mul_le_mul_right _ h6
  have h5 : ((pairsOf (allB rs) f).take k).length ≤ 1026 := by rw [List.length_take]; simp [pairsOf]; omega
  have h4 : (((pairsOf (allB rs) f).take k).map fun p => p.1.length + 1).sum ≤ (textO rs).length := by
    have e : ((pairsOf (allB rs) f).map fun p => p.1.length + 1) = (allB rs).map fun x => x.data.toList.length + 1 := by
      have := congrArg (List.map fun l : List UInt8 => l.length + 1) (pairs_map (allB rs) f)
      rw [List.map_map, List.map_map] at this
      exact this
    rw [List.map_take, e, text_len]
    unfold sumB
    conv => rhs; rw [← List.take_append_drop k ((allB rs).map fun x => x.data.toList.length + 1)]
    rw [List.sum_append]
    omega
  have h7 := textO_len hg
  have h8 : rs.length * 4158 ≤ 6 * 4158 := Nat.mul_le_mul_right _ h6
  have h9 : ((pairsOf (allB rs) f).take k).length * 12 ≤ 1026 * 12 := Nat.mul_le_mul_right _ h5
  omega
theorem glue_ascii : ∀ {ps : List (List UInt8 × List UInt8)}, (∀ p ∈ ps, (∀ c ∈ p.1, c.toNat < 128) ∧ ∀ c ∈ p.2, c.toNat < 128) → ∀ c ∈ glue ps, c.toNat < 128
  | [], _, c, hc => by simp [glue] at hc
  | p :: ps, h, c, hc => by
    rw [glue_cons] at hc
    have hp := h p (List.mem_cons_self ..)
    rcases List.mem_append.1 hc with hc | hc
    · exact hp.1 c hc
    · rcases List.mem_append.1 hc with hc | hc
      · exact hp.2 c hc
      · exact glue_ascii (fun q hq => h q (List.mem_cons_of_mem _ hq)) c hc
theorem seps_ascii : ∀ (l : List (List UInt8)) (p : List UInt8 × List UInt8), p ∈ sepsO l → p.1 ∈ l ∧ (p.2 = [32] ∨ p.2 = [10])
  | [], p, h => by cases h
  | [x], p, h => by rw [List.mem_singleton.1 h]; exact ⟨List.mem_singleton_self _, .inr rfl⟩
  | x :: y :: l, p, h => by
    rw [sepsO] at h
    rcases List.mem_cons.1 h with rfl | h
    · exact ⟨List.mem_cons_self .., .inl rfl⟩
    · exact ⟨List.mem_cons_of_mem _ (seps_ascii (y :: l) p h).1, (seps_ascii (y :: l) p h).2⟩
theorem text_ascii {rs : List ORule} (h : ∀ r ∈ rs, GoodO r) : ∀ c ∈ textO rs, c.toNat < 128 := by
  rw [text_glue]
  refine glue_ascii (fun p hp => ?_)
  obtain ⟨r, hr, hpr⟩ := List.mem_flatMap.1 hp
  obtain ⟨h1, h2⟩ := seps_ascii _ p hpr
  obtain ⟨x, hx, e⟩ := List.mem_map.1 h1
  refine ⟨fun c hc => ?_, fun c hc => ?_⟩
  · rw [← e] at hc
    have := (words_ok (h r hr) x hx).2.2 c hc
    omega
  · rcases h2 with e2 | e2 <;> rw [e2] at hc <;> rw [List.mem_singleton.1 hc] <;> decide
end Go.Proofs.YtgknclplheldmaaDoor
