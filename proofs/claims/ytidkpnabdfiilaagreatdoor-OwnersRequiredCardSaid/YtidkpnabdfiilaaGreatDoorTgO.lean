/- Words of a text by lists; words glued together by separators. Plain. -/
import Derived.Test.YtidkpnabdfiilaaGreatDoorPtO
namespace Go.Proofs.YtidkpnabdfiilaaGreatDoor

/-- The words of the bytes l, the first of which lies at i. -/
def tokL : Nat → List UInt8 → Nat → List (ByteArray × Nat)
  | 0, _, _ => []
  | _ + 1, [], _ => []
  | f + 1, c :: r, i => if isSp c then tokL f r (i + 1)
      else if c = 35 then tokL f (r.drop (r.findIdx isNl)) (i + 1 + r.findIdx isNl)
      else (⟨(c :: r.take (r.findIdx isSp)).toArray⟩, i) :: tokL f (r.drop (r.findIdx isSp)) (i + 1 + r.findIdx isSp)
def tk (l : List UInt8) (i : Nat) : List (ByteArray × Nat) := tokL l.length l i
theorem bytes_ext {a b : ByteArray} (h : a.data.toList = b.data.toList) : a = b := by
  cases a; cases b; congr 1; exact Array.toList_inj.1 h
theorem toks_eq (s : ByteArray) : ∀ f i, toks s f i = tokL f (s.data.toList.drop i) i := by
  intro f
  induction f with
  | zero => intro i; rfl
  | succ f ih =>
    intro i
    rw [toks]
    by_cases h : i < s.size
    · have hl : i < s.data.toList.length := by rw [sz]; exact h
      rw [if_pos h]
      have hd : s.data.toList.drop i = s.data.toList[i] :: s.data.toList.drop (i + 1) := List.drop_eq_getElem_cons hl
      have hg : s.data.toList.getD i 0 = s.data.toList[i] := by rw [List.getD_eq_getElem?_getD, List.getElem?_eq_getElem hl]; rfl
      have st : ∀ p : UInt8 → Bool, p s.data.toList[i] = false → stopAt p s.data.toList i = i + 1 + (s.data.toList.drop (i + 1)).findIdx p := fun p hp => by
        unfold stopAt; rw [hd, List.findIdx_cons, hp]; simp only [cond_false]; omega
      rw [hd, tokL, hg]
      by_cases h1 : isSp s.data.toList[i] = true
      · rw [if_pos h1, if_pos h1]; exact ih _
      · rw [if_neg h1, if_neg h1]
        have h1' : isSp s.data.toList[i] = false := by simpa using h1
        have h2' : isNl s.data.toList[i] = false := by unfold isSp at h1'; unfold isNl; simp at h1' ⊢; exact h1'.2
        by_cases h2 : s.data.toList[i] = 35
        · rw [if_pos h2, if_pos h2, ih, st _ h2', List.drop_drop]
        · rw [if_neg h2, if_neg h2, ih, st _ h1', List.drop_drop]
          congr 2
          apply bytes_ext
          rw [ex_data, hd]
          rw [show i + 1 + List.findIdx isSp (s.data.toList.drop (i + 1)) - i = List.findIdx isSp (s.data.toList.drop (i + 1)) + 1 by omega, List.take_succ_cons]
    · rw [if_neg h, List.drop_eq_nil_of_le (by rw [sz]; omega), tokL]
theorem tokL_fuel : ∀ (f g : Nat) (l : List UInt8) (i : Nat), l.length ≤ f → l.length ≤ g → tokL f l i = tokL g l i := by
  intro f
  induction f with
  | zero =>
    intro g l i h1 h2
    obtain rfl : l = [] := List.eq_nil_of_length_eq_zero (by omega)
    cases g <;> rfl
  | succ f ih =>
    intro g l i h1 h2
    cases l with
    | nil => cases g <;> rfl
    | cons c r =>
      obtain ⟨g, rfl⟩ : ∃ g', g = g' + 1 := ⟨g - 1, by simp at h2; omega⟩
      simp only [List.length_cons] at h1 h2
      have hd : ∀ k, (r.drop k).length ≤ r.length := fun k => by rw [List.length_drop]; omega
      rw [tokL, tokL]
      rw [ih g r _ (by omega) (by omega), ih g (r.drop (r.findIdx isNl)) _ (by have := hd (r.findIdx isNl); omega) (by have := hd (r.findIdx isNl); omega), ih g (r.drop (r.findIdx isSp)) _ (by have := hd (r.findIdx isSp); omega) (by have := hd (r.findIdx isSp); omega)]
theorem wordsOf_tk (s : ByteArray) : wordsOf s = tk s.data.toList 0 := by
  unfold wordsOf tk
  rw [toks_eq, sz]; rfl
theorem tk_nil (i : Nat) : tk [] i = [] := rfl
theorem tk_sp {c : UInt8} (h : isSp c = true) (r : List UInt8) (i : Nat) : tk (c :: r) i = tk r (i + 1) := by
  unfold tk; rw [List.length_cons, tokL, if_pos h]
theorem tk_nl (r : List UInt8) (i : Nat) : tk (10 :: r) i = tk r (i + 1) := tk_sp rfl r i
theorem findIdx_app {p : UInt8 → Bool} : ∀ {a b : List UInt8}, (∀ x ∈ a, p x = false) → (∀ y t, b = y :: t → p y = true) → (a ++ b).findIdx p = a.length
  | [], b, _, hb => by
    cases b with
    | nil => rfl
    | cons y t => rw [List.nil_append, List.findIdx_cons, hb y t rfl]; rfl
  | c :: a, b, ha, hb => by
    rw [List.cons_append, List.findIdx_cons, ha c (List.mem_cons_self ..), findIdx_app (fun x hx => ha x (List.mem_cons_of_mem _ hx)) hb]
    rfl
theorem span_of (p : UInt8 → Bool) : ∀ r : List UInt8, ∃ a b, r = a ++ b ∧ (∀ x ∈ a, p x = false) ∧ (∀ y t, b = y :: t → p y = true)
  | [] => ⟨[], [], rfl, by simp, by simp⟩
  | c :: r => by
    obtain ⟨a, b, rfl, h1, h2⟩ := span_of p r
    cases hc : p c with
    | true => exact ⟨[], c :: (a ++ b), rfl, by simp, fun y t e => by cases e; exact hc⟩
    | false => exact ⟨c :: a, b, rfl, fun x hx => (List.mem_cons.1 hx).elim (fun e => e ▸ hc) (h1 x), h2⟩
theorem tk_com {a b : List UInt8} (ha : ∀ x ∈ a, isNl x = false) (hb : ∀ y t, b = y :: t → isNl y = true) (i : Nat) : tk (35 :: (a ++ b)) i = tk b (i + 1 + a.length) := by
  unfold tk
  rw [List.length_cons, tokL, if_neg (by decide), if_pos rfl, findIdx_app ha hb, List.drop_left]
  exact tokL_fuel _ _ _ _ (by simp) (Nat.le_refl _)
theorem tk_word {c : UInt8} {a b : List UInt8} (hc : isSp c = false) (h35 : c ≠ 35) (ha : ∀ x ∈ a, isSp x = false) (hb : ∀ y t, b = y :: t → isSp y = true) (i : Nat) : tk (c :: (a ++ b)) i = (⟨(c :: a).toArray⟩, i) :: tk b (i + 1 + a.length) := by
  unfold tk
  rw [List.length_cons, tokL, if_neg (by simp [hc]), if_neg h35, findIdx_app ha hb, List.drop_left, List.take_left]
  rw [tokL_fuel (a ++ b).length b.length b _ (by simp) (Nat.le_refl _)]
theorem tk_ge : ∀ (n : Nat) (l : List UInt8) (i : Nat), l.length ≤ n → ∀ x ∈ tk l i, i ≤ x.2
  | 0, l, i, h, x, hx => by
    obtain rfl : l = [] := List.eq_nil_of_length_eq_zero (by omega)
    simp [tk_nil] at hx
  | n + 1, [], i, h, x, hx => by simp [tk_nil] at hx
  | n + 1, c :: r, i, h, x, hx => by
    simp only [List.length_cons] at h
    cases hs : isSp c with
    | true => rw [tk_sp hs] at hx; have := tk_ge n r (i + 1) (by omega) x hx; omega
    | false =>
      by_cases h35 : c = 35
      · obtain ⟨a, b, rfl, h1, h2⟩ := span_of isNl r
        rw [h35, tk_com h1 h2] at hx
        have := tk_ge n b _ (by simp at h; omega) x hx
        omega
      · obtain ⟨a, b, rfl, h1, h2⟩ := span_of isSp r
        rw [tk_word hs h35 h1 h2] at hx
        rcases List.mem_cons.1 hx with rfl | hx
        · exact Nat.le_refl _
        · have := tk_ge n b _ (by simp at h; omega) x hx; omega
def okW (w : List UInt8) : Prop := w ≠ [] ∧ ∀ c ∈ w, isSp c = false ∧ c ≠ 35
def sepOK (s : List UInt8) : Prop := (∃ c t, s = c :: t ∧ isSp c = true) ∧ ∀ rest i, tk (s ++ rest) i = tk rest (i + s.length)
theorem sep_sp (c : UInt8) (h : isSp c = true) : sepOK [c] := ⟨⟨c, [], rfl, h⟩, fun rest i => tk_sp h rest i⟩
def glue (ps : List (List UInt8 × List UInt8)) : List UInt8 := (ps.map fun p => p.1 ++ p.2).flatten
theorem glue_cons (p : List UInt8 × List UInt8) (ps : List (List UInt8 × List UInt8)) : glue (p :: ps) = p.1 ++ (p.2 ++ glue ps) := by simp [glue]
theorem tk_glue : ∀ (ps : List (List UInt8 × List UInt8)), (∀ p ∈ ps, okW p.1 ∧ sepOK p.2) → ∀ (rest : List UInt8) (i : Nat), ∃ (Ws : List (ByteArray × Nat)) (j : Nat), Ws.map (·.1.data.toList) = ps.map (·.1) ∧ tk (glue ps ++ rest) i = Ws ++ tk rest j
  | [], _, rest, i => ⟨[], i, rfl, rfl⟩
  | p :: ps, h, rest, i => by
    obtain ⟨⟨hne, hw⟩, ⟨c', t', hs, hc'⟩, hsep⟩ := h p (List.mem_cons_self ..)
    obtain ⟨c, a, hp⟩ : ∃ c a, p.1 = c :: a := by
      cases hp : p.1 with
      | nil => exact absurd hp hne
      | cons c a => exact ⟨c, a, rfl⟩
    rw [hp] at hw
    have e : glue (p :: ps) ++ rest = c :: (a ++ (p.2 ++ (glue ps ++ rest))) := by rw [glue_cons, hp]; simp
    obtain ⟨Ws, j, h1, h2⟩ := tk_glue ps (fun q hq => h q (List.mem_cons_of_mem _ hq)) rest (i + 1 + a.length + p.2.length)
    refine ⟨(⟨(c :: a).toArray⟩, i) :: Ws, j, ?_, ?_⟩
    · rw [List.map_cons, List.map_cons, h1, hp]
    · rw [e, tk_word (hw c (List.mem_cons_self ..)).1 (hw c (List.mem_cons_self ..)).2 (fun x hx => (hw x (List.mem_cons_of_mem _ hx)).1) (fun y t hy => by rw [hs] at hy; cases hy; exact hc'), hsep, h2]
      rfl
end Go.Proofs.YtidkpnabdfiilaaGreatDoor
