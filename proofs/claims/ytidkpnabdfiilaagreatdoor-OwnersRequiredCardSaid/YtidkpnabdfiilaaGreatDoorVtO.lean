/- The words of rules; what is read out of them, and out of a text. Plain. -/
import Derived.Test.YtidkpnabdfiilaaGreatDoorTgO
namespace Go.Proofs.YtidkpnabdfiilaaGreatDoor

def bAll : ByteArray := ⟨#[97, 108, 108]⟩
def bPrefix : ByteArray := ⟨#[112, 114, 101, 102, 105, 120]⟩
def bGroup : ByteArray := ⟨#[103, 114, 111, 117, 112]⟩
def bSemi : ByteArray := ⟨#[59]⟩
def headW (p : ByteArray) : List ByteArray := if p.data.toList = [] then [bAll] else [bPrefix, p]
def groupsWB (gs : List (List ByteArray)) : List ByteArray := gs.flatMap fun g => bGroup :: g
def wordsB (r : ORule) : List ByteArray := headW r.pre ++ groupsWB r.groups ++ [bSemi]
def allB (rs : List ORule) : List ByteArray := rs.flatMap wordsB
/-! Reading words without places. -/
def readB : Nat → List ORule → List ByteArray → Option (Nat × List ORule)
  | p, rs, [] => some (p, rs)
  | p, rs, w :: ws => match readW p rs w with
    | some (p', rs') => readB p' rs' ws
    | none => none
theorem readAll_of : ∀ (ws : OWords) (p : Nat) (rs : List ORule) (q : Nat × List ORule), readB p rs (ws.map (·.1)) = some q → readAll p rs ws = .ok q
  | [], p, rs, q, h => by rw [List.map_nil, readB] at h; cases h; rfl
  | w :: ws, p, rs, q, h => by
    rw [List.map_cons, readB] at h
    rw [readAll]
    cases hr : readW p rs w.1 with
    | none => rw [hr] at h; cases h
    | some x => rw [hr] at h; exact readAll_of ws _ _ q h
theorem readB_app : ∀ (a b : List ByteArray) (p : Nat) (rs : List ORule) (p' : Nat) (rs' : List ORule), readB p rs a = some (p', rs') → readB p rs (a ++ b) = readB p' rs' b
  | [], b, p, rs, p', rs', h => by rw [readB] at h; cases h; rfl
  | w :: a, b, p, rs, p', rs', h => by
    rw [readB] at h
    rw [List.cons_append, readB]
    cases hr : readW p rs w with
    | none => rw [hr] at h; cases h
    | some x => rw [hr] at h; exact readB_app a b _ _ p' rs' h
theorem persons_read (acc : List ORule) (pre : ByteArray) (gi : List (List ByteArray)) : ∀ (g gl : List ByteArray) (p : Nat), (p = 3 ∨ p = 4) → (∀ s ∈ g, personB s.data.toList = true) → g ≠ [] → readB p (acc ++ [⟨pre, gi ++ [gl]⟩]) g = some (4, acc ++ [⟨pre, gi ++ [gl ++ g]⟩])
  | [], gl, p, _, _, hne => absurd rfl hne
  | s :: g, gl, p, hp, hs, _ => by
    have hps : personS s = true := hs s (List.mem_cons_self ..)
    have hng : (s.toList == [103, 114, 111, 117, 112]) = false := by
      cases hq : (s.toList == [103, 114, 111, 117, 112]) with
      | false => rfl
      | true => rw [personS_group hq] at hps; cases hps
    rw [readB, readW_person hp (fun _ => hng) hps, addPerson_snoc]
    simp only []
    cases g with
    | nil => rfl
    | cons t g =>
      rw [persons_read acc pre gi (t :: g) (gl ++ [s]) 4 (.inr rfl) (fun x hx => hs x (List.mem_cons_of_mem _ hx)) (by simp)]
      simp
theorem group_eq : (bGroup.toList == [103, 114, 111, 117, 112]) = true := by rw [tl]; rfl
theorem groups_read (acc : List ORule) (pre : ByteArray) : ∀ (gs gi : List (List ByteArray)) (p : Nat), (p = 2 ∨ p = 4) → (∀ g ∈ gs, 0 < g.length ∧ ∀ s ∈ g, personB s.data.toList = true) → gs ≠ [] → readB p (acc ++ [⟨pre, gi⟩]) (groupsWB gs) = some (4, acc ++ [⟨pre, gi ++ gs⟩])
  | [], gi, p, _, _, hne => absurd rfl hne
  | g :: gs, gi, p, hp, hg, _ => by
    obtain ⟨h1, h2⟩ := hg g (List.mem_cons_self ..)
    have e : groupsWB (g :: gs) = bGroup :: (g ++ groupsWB gs) := by simp [groupsWB]
    rw [e, readB, readW_group hp group_eq, addGroup_snoc]
    simp only []
    rw [readB_app g (groupsWB gs) 3 _ 4 _ (persons_read acc pre gi g [] 3 (.inl rfl) h2 (by intro e; rw [e] at h1; simp at h1))]
    cases gs with
    | nil => rfl
    | cons g' gs =>
      rw [List.nil_append, groups_read acc pre (g' :: gs) (gi ++ [g]) 4 (.inr rfl) (fun x hx => hg x (List.mem_cons_of_mem _ hx)) (by simp)]
      simp
theorem empty_bytes {p : ByteArray} (h : p.data.toList = []) : p = ⟨#[]⟩ := bytes_ext h
theorem rule_read (acc : List ORule) (r : ORule) (h : GoodO r) : readB 0 acc (wordsB r) = some (0, acc ++ [r]) := by
  have hhead : readB 0 acc (headW r.pre) = some (2, acc ++ [⟨r.pre, []⟩]) := by
    unfold headW
    split
    · rename_i he
      rw [readB, readW_all (by rw [tl]; rfl), empty_bytes he]; rfl
    · rw [readB, readW_prefix (by rw [tl]; rfl) (by rw [tl]; rfl)]
      simp only []
      rw [readB, readW_pre h.pre]; rfl
  have hgs : readB 2 (acc ++ [⟨r.pre, []⟩]) (groupsWB r.groups) = some (4, acc ++ [⟨r.pre, [] ++ r.groups⟩]) :=
    groups_read acc r.pre r.groups [] 2 (.inl rfl) (fun g hg => ⟨(h.each g hg).1, (h.each g hg).2.2⟩) (by intro e; have := h.len.1; rw [e] at this; simp at this)
  unfold wordsB
  rw [List.append_assoc, readB_app _ _ _ _ _ _ hhead, readB_app _ _ _ _ _ _ hgs, readB, readW_semi (by rw [tl]; rfl) (by unfold personS; rfl) (by rw [tl]; rfl)]
  rfl
theorem rules_read : ∀ (rs acc : List ORule), (∀ r ∈ rs, GoodO r) → readB 0 acc (allB rs) = some (0, acc ++ rs)
  | [], acc, _ => by simp [allB, readB]
  | r :: rs, acc, h => by
    have e : allB (r :: rs) = wordsB r ++ allB rs := by simp [allB]
    rw [e, readB_app _ _ _ _ _ _ (rule_read acc r (h r (List.mem_cons_self ..))), rules_read rs (acc ++ [r]) (fun q hq => h q (List.mem_cons_of_mem _ hq))]
    simp
/-! The characters of the words. -/
theorem let_char {c : UInt8} (h : preC c = true) : isSp c = false ∧ c ≠ 35 ∧ 42 ≤ c.toNat ∧ c.toNat ≤ 122 := by
  have hb : 45 ≤ c.toNat ∧ c.toNat ≤ 122 := by
    unfold preC letU letN at h
    simp only [Bool.or_eq_true, Bool.and_eq_true, decide_eq_true_eq, beq_iff_eq] at h
    rcases h with h | h
    · rcases h with ((((h | h) | h) | h) | h) | h <;> omega
    · rw [h]; decide
  have ne : ∀ d : UInt8, d.toNat < 45 → c ≠ d := fun d hd e => by rw [e] at hb; omega
  refine ⟨?_, ne 35 (by decide), by omega, by omega⟩
  unfold isSp
  have h1 := ne 32 (by decide)
  have h2 := ne 10 (by decide)
  simp [h1, h2]
def ascW (w : List UInt8) : Prop := w ≠ [] ∧ ∀ c ∈ w, 42 ≤ c.toNat ∧ c.toNat ≤ 122
theorem pre_word {p : List UInt8} (h : preB p = true) (hne : p ≠ []) : okW p ∧ ascW p := by
  unfold preB at h
  simp only [Bool.and_eq_true, List.all_eq_true] at h
  exact ⟨⟨hne, fun c hc => ⟨(let_char (h.2 c hc)).1, (let_char (h.2 c hc)).2.1⟩⟩, ⟨hne, fun c hc => (let_char (h.2 c hc)).2.2⟩⟩
theorem person_word {p : List UInt8} (h : personB p = true) : okW p ∧ ascW p := by
  have hl := person_len h
  have hne : p ≠ [] := by intro e; rw [e] at hl; simp at hl
  unfold personB nameB at h
  simp only [Bool.and_eq_true, List.all_eq_true] at h
  have hc : ∀ c ∈ p, preC c = true := fun c hc => by unfold preC; rw [h.2.2 c hc]; rfl
  exact ⟨⟨hne, fun c hcc => ⟨(let_char (hc c hcc)).1, (let_char (hc c hcc)).2.1⟩⟩, ⟨hne, fun c hcc => (let_char (hc c hcc)).2.2⟩⟩
theorem words_ok {r : ORule} (h : GoodO r) : ∀ x ∈ wordsB r, okW x.data.toList ∧ ascW x.data.toList := by
  intro x hx
  unfold wordsB at hx
  simp only [List.mem_append, List.mem_singleton] at hx
  have kw : ∀ w : List UInt8, w ≠ [] → (∀ c ∈ w, isSp c = false ∧ c ≠ 35) → (∀ c ∈ w, 42 ≤ c.toNat ∧ c.toNat ≤ 122) → okW w ∧ ascW w := fun w a b c => ⟨⟨a, b⟩, ⟨a, c⟩⟩
  rcases hx with (hx | hx) | rfl
  · unfold headW at hx
    split at hx
    · rw [List.mem_singleton.1 hx]; exact kw _ (by decide) (by decide) (by decide)
    · rename_i hne
      simp only [List.mem_cons, List.not_mem_nil, or_false] at hx
      rcases hx with rfl | rfl
      · exact kw _ (by decide) (by decide) (by decide)
      · exact pre_word h.pre hne
  · unfold groupsWB at hx
    obtain ⟨g, hg, hxg⟩ := List.mem_flatMap.1 hx
    rcases List.mem_cons.1 hxg with rfl | hxg
    · exact kw _ (by decide) (by decide) (by decide)
    · exact person_word ((h.each g hg).2.2 x hxg)
  · exact kw _ (by decide) (by decide) (by decide)
theorem all_ok {rs : List ORule} (h : ∀ r ∈ rs, GoodO r) : ∀ x ∈ allB rs, okW x.data.toList ∧ ascW x.data.toList := by
  intro x hx
  obtain ⟨r, hr, hxr⟩ := List.mem_flatMap.1 hx
  exact words_ok (h r hr) x hxr
/-! A text that is words with separators. -/
theorem map_data_inj {a b : List ByteArray} (h : a.map (·.data.toList) = b.map (·.data.toList)) : a = b := by
  have := congrArg (List.map fun l : List UInt8 => (⟨l.toArray⟩ : ByteArray)) h
  rw [List.map_map, List.map_map] at this
  have e : ((fun l : List UInt8 => (⟨l.toArray⟩ : ByteArray)) ∘ fun x : ByteArray => x.data.toList) = id := by funext x; rfl
  rwa [e, List.map_id, List.map_id] at this
theorem parse_glue {rs : List ORule} (hc : ocheckErr rs = 0) (ps : List (List UInt8 × List UInt8)) (hp : ps.map (·.1) = (allB rs).map (·.data.toList)) (hs : ∀ p ∈ ps, sepOK p.2) (t : ByteArray) (ht : t.data.toList = glue ps) : oparse t = (rs, 0, 0) := by
  have hgood := (ocheck_ok hc).2
  have hok : ∀ p ∈ ps, okW p.1 ∧ sepOK p.2 := fun p hpm => by
    have : p.1 ∈ (allB rs).map (·.data.toList) := by rw [← hp]; exact List.mem_map_of_mem hpm
    obtain ⟨x, hx, e⟩ := List.mem_map.1 this
    rw [← e]
    exact ⟨(all_ok hgood x hx).1, hs p hpm⟩
  obtain ⟨Ws, j, h1, h2⟩ := tk_glue ps hok [] 0
  rw [List.append_nil, tk_nil, List.append_nil] at h2
  have hw : wordsOf t = Ws := by rw [wordsOf_tk, ht, h2]
  have hm : Ws.map (·.1) = allB rs := map_data_inj (by rw [List.map_map]; exact h1.trans hp)
  have := readAll_of Ws 0 [] (0, [] ++ rs) (by rw [hm]; exact rules_read rs [] hgood)
  unfold oparse
  rw [hw, this]
  simp only []
  rw [if_pos trivial, List.nil_append, if_pos hc]
def sepsO : List (List UInt8) → List (List UInt8 × List UInt8)
  | [] => []
  | [x] => [(x, [10])]
  | x :: y :: l => (x, [32]) :: sepsO (y :: l)
def blanksL (l : List (List UInt8)) : List UInt8 := (l.map fun s => 32 :: s).flatten
theorem glue_seps : ∀ (x : List UInt8) (l : List (List UInt8)), glue (sepsO (x :: l)) = x ++ blanksL l ++ [10]
  | x, [] => by simp [sepsO, glue, blanksL]
  | x, y :: l => by
    rw [sepsO, glue_cons, glue_seps y l]
    simp [blanksL]
theorem seps_map : ∀ l : List (List UInt8), (sepsO l).map (·.1) = l
  | [] => rfl
  | [x] => rfl
  | x :: y :: l => by rw [sepsO, List.map_cons, seps_map (y :: l)]
theorem seps_ok : ∀ (l : List (List UInt8)) (p : List UInt8 × List UInt8), p ∈ sepsO l → sepOK p.2
  | [], p, h => by cases h
  | [x], p, h => by rw [List.mem_singleton.1 h]; exact sep_sp 10 rfl
  | x :: y :: l, p, h => by
    rw [sepsO] at h
    rcases List.mem_cons.1 h with rfl | h
    · exact sep_sp 32 rfl
    · exact seps_ok (y :: l) p h
theorem blanksL_app (a b : List (List UInt8)) : blanksL (a ++ b) = blanksL a ++ blanksL b := by simp [blanksL]
theorem groups_blanks : ∀ gs : List (List ByteArray), blanksL ((groupsWB gs).map (·.data.toList)) = (gs.map groupL).flatten
  | [] => rfl
  | g :: gs => by
    have e : groupsWB (g :: gs) = bGroup :: (g ++ groupsWB gs) := by simp [groupsWB]
    rw [e, List.map_cons, List.map_append]
    have e2 : blanksL (bGroup.data.toList :: (g.map (·.data.toList) ++ (groupsWB gs).map (·.data.toList))) = groupL g ++ blanksL ((groupsWB gs).map (·.data.toList)) := by
      simp [blanksL, groupL, blanks, wGroup, bGroup]
      rfl
    rw [e2, groups_blanks gs]; simp
theorem line_glue (r : ORule) : lineO r = glue (sepsO ((wordsB r).map (·.data.toList))) := by
  unfold wordsB headW lineO headO
  split
  · have e : ([bAll] ++ groupsWB r.groups ++ [bSemi]).map (·.data.toList) = bAll.data.toList :: ((groupsWB r.groups).map (·.data.toList) ++ [bSemi.data.toList]) := by simp
    rw [e, glue_seps, blanksL_app, groups_blanks]
    simp [blanksL, bAll, bSemi, wAll]
  · have e : ([bPrefix, r.pre] ++ groupsWB r.groups ++ [bSemi]).map (·.data.toList) = bPrefix.data.toList :: ([r.pre.data.toList] ++ ((groupsWB r.groups).map (·.data.toList) ++ [bSemi.data.toList])) := by simp
    rw [e, glue_seps, blanksL_app, blanksL_app, groups_blanks]
    simp [blanksL, bPrefix, bSemi, wPrefix]
def textPs (rs : List ORule) : List (List UInt8 × List UInt8) := rs.flatMap fun r => sepsO ((wordsB r).map (·.data.toList))
theorem text_glue (rs : List ORule) : textO rs = glue (textPs rs) := by
  induction rs with
  | nil => rfl
  | cons r rs ih =>
    have e : textO (r :: rs) = lineO r ++ textO rs := by simp [textO]
    have e2 : textPs (r :: rs) = sepsO ((wordsB r).map (·.data.toList)) ++ textPs rs := by simp [textPs]
    rw [e, e2, ih, line_glue]
    simp [glue]
theorem textPs_map (rs : List ORule) : (textPs rs).map (·.1) = (allB rs).map (·.data.toList) := by
  induction rs with
  | nil => rfl
  | cons r rs ih =>
    have e : textPs (r :: rs) = sepsO ((wordsB r).map (·.data.toList)) ++ textPs rs := by simp [textPs]
    have e2 : allB (r :: rs) = wordsB r ++ allB rs := by simp [allB]
    rw [e, e2, List.map_append, List.map_append, seps_map, ih]
theorem parse_text {rs : List ORule} (hc : ocheckErr rs = 0) : oparse (bOf (textO rs)) = (rs, 0, 0) :=
  parse_glue hc (textPs rs) (textPs_map rs) (fun p hp => by
    obtain ⟨r, _, hr⟩ := List.mem_flatMap.1 hp
    exact seps_ok _ p hr) _ (by rw [data_bOf, text_glue])
end Go.Proofs.YtidkpnabdfiilaaGreatDoor
