/- Plain facts on labels: a label is cut at its last slash into a label and a name, and back. No program in sight. -/
import Derived.Test.YtgcmekpfhagnbaaDoorJnA
namespace Go.Proofs.YtgcmekpfhagnbaaDoor

theorem split_append (x y : List UInt8) : split (x ++ 47 :: y) = split x ++ split y := by
  induction x with
  | nil => simp [split]
  | cons c x ih =>
    rw [List.cons_append, split, split]
    by_cases hc : c = 47
    · rw [if_pos hc, if_pos hc, ih]; rfl
    · rw [if_neg hc, if_neg hc, ih]
      cases hs : split x with
      | nil => exact absurd hs (split_ne x)
      | cons p ps => rfl
theorem slashAt_none {l : List UInt8} (h : l.contains 47 = false) : slashAt l = l.length := by
  unfold slashAt
  apply List.findIdx_eq_length_of_false
  intro x hx
  cases hx47 : (x == 47) with
  | false => rfl
  | true =>
    have e : x = 47 := by simpa using hx47
    rw [List.contains_eq_mem, decide_eq_false_iff_not] at h
    exact absurd (e ▸ hx) h
theorem split_name {l : List UInt8} (h : l.contains 47 = false) : split l = [l] := split_none (slashAt_none h)
/-- The parts of a label that is joined. -/
theorem labelB_join (x y : List UInt8) (hy : y.contains 47 = false) : labelB (x ++ 47 :: y) = (decide (x.length + 1 + y.length ≤ 90) && (split x).all (wordN 20) && wordN 20 y) := by
  rw [labelB, split_append, split_name hy, List.all_append]
  simp only [List.all_cons, List.all_nil, Bool.and_true, List.length_append, List.length_cons, Bool.and_assoc]
  congr 2
  apply propext
  constructor <;> intro h <;> omega
theorem labelB_pos {l : List UInt8} (h : labelB l = true) : l ≠ [] := by
  intro e; rw [e, labelB_nil] at h; cases h
theorem labelB_parts {l : List UInt8} (h : labelB l = true) : l.length ≤ 90 ∧ (split l).all (wordN 20) = true := by
  rw [labelB, Bool.and_eq_true, decide_eq_true_eq] at h; exact h
theorem labelB_mk {l : List UInt8} (h1 : l.length ≤ 90) (h2 : (split l).all (wordN 20) = true) : labelB l = true := by
  rw [labelB, Bool.and_eq_true, decide_eq_true_eq]; exact ⟨h1, h2⟩
/-- The last slash is where it is. -/
theorem lastSlFrom_at {l : List UInt8} : ∀ {n k : Nat}, lastSlFrom l n = k → k < n ∧ l.getD k 0 = 47 ∧ ∀ j, k < j → j < n → l.getD j 0 ≠ 47
  | 0, k, h => by simp [lastSlFrom] at h
  | n + 1, k, h => by
    rw [lastSlFrom] at h
    split at h
    · have : k = n := by omega
      subst this
      exact ⟨by omega, by assumption, fun j h1 h2 => by omega⟩
    · rename_i hn
      obtain ⟨h1, h2, h3⟩ := lastSlFrom_at h
      refine ⟨by omega, h2, fun j hj hjn => ?_⟩
      by_cases e : j = n
      · rw [e]; exact hn
      · exact h3 j hj (by omega)
theorem lastSlFrom_eq {l : List UInt8} {k : Nat} : ∀ {n : Nat}, k < n → l.getD k 0 = 47 → (∀ j, k < j → j < n → l.getD j 0 ≠ 47) → lastSlFrom l n = k
  | 0, h, _, _ => by omega
  | n + 1, h, h2, h3 => by
    rw [lastSlFrom]
    by_cases e : k = n
    · subst e; rw [if_pos h2]
    · rw [if_neg (h3 n (by omega) (by omega))]
      exact lastSlFrom_eq (by omega) h2 (fun j h4 h5 => h3 j h4 (by omega))
theorem lastSl_join (x y : List UInt8) (hy : y.contains 47 = false) : lastSlFrom (x ++ 47 :: y) (x ++ 47 :: y).length = x.length := by
  refine lastSlFrom_eq (by simp) (by rw [List.getD_eq_getElem?_getD, List.getElem?_append_right (Nat.le_refl _)]; simp) ?_
  intro j h1 h2 e
  rw [List.getD_eq_getElem?_getD, List.getElem?_append_right (by omega)] at e
  rw [List.contains_eq_mem, decide_eq_false_iff_not] at hy
  simp only [List.length_append, List.length_cons] at h2
  obtain ⟨i, hi⟩ : ∃ i, j - x.length = i + 1 := ⟨j - x.length - 1, by omega⟩
  rw [hi, List.getElem?_cons_succ, List.getElem?_eq_getElem (by omega)] at e
  simp only [Option.getD_some] at e
  exact hy (e ▸ List.getElem_mem _)
theorem cut_at {l : List UInt8} {k : Nat} (hk : k < l.length) (h : l.getD k 0 = 47) : l = l.take k ++ 47 :: l.drop (k + 1) := by
  rw [List.getD_eq_getElem?_getD, List.getElem?_eq_getElem hk] at h
  simp only [Option.getD_some] at h
  have := List.take_append_drop k l
  rw [List.drop_eq_getElem_cons hk, h] at this
  exact this.symm
theorem noslash_after {l : List UInt8} {k : Nat} (h : ∀ j, k < j → j < l.length → l.getD j 0 ≠ 47) : (l.drop (k + 1)).contains 47 = false := by
  rw [List.contains_eq_mem, decide_eq_false_iff_not]
  intro hm
  obtain ⟨i, hi, e⟩ := List.getElem_of_mem hm
  rw [List.length_drop] at hi
  rw [List.getElem_drop] at e
  refine h (k + 1 + i) (by omega) (by omega) ?_
  rw [List.getD_eq_getElem?_getD, List.getElem?_eq_getElem (by omega)]
  simpa using e
end Go.Proofs.YtgcmekpfhagnbaaDoor
