/- Words of a text by lists; the words of a text that is cut and gone on. Plain. -/
import Derived.Test.YtgcmekpfhagnbaaDoorTok
namespace Go.Proofs.YtgcmekpfhagnbaaDoor

/-- The words of the bytes l, the first of which lies at i. -/
def tokL : Nat → List UInt8 → Nat → List (ByteArray × Nat)
  | 0, _, _ => []
  | _ + 1, [], _ => []
  | f + 1, c :: r, i => if isSp c then tokL f r (i + 1)
      else if c = 35 then tokL f (r.drop (r.findIdx isNl)) (i + 1 + r.findIdx isNl)
      else (⟨(c :: r.take (r.findIdx isSp)).toArray⟩, i) :: tokL f (r.drop (r.findIdx isSp)) (i + 1 + r.findIdx isSp)
def tk (l : List UInt8) (i : Nat) : List (ByteArray × Nat) := tokL l.length l i
theorem bytes_ext {a b : ByteArray} (h : a.data.toList = b.data.toList) : a = b := by
  cases a; cases b; congr 1; exact Array.toList_inj.1 h
theorem toks_eq (s : ByteArray) : ∀ f i, toks s f i = tokL f (s.data.toList.drop i) i := by
  intro f
  induction f with
  | zero => intro i; rfl
  | succ f ih =>
    intro i
    rw [toks]
    by_cases h : i < s.size
    · have hl : i < s.data.toList.length := by rw [sz]; exact h
      rw [if_pos h]
      have hd : s.data.toList.drop i = s.data.toList[i] :: s.data.toList.drop (i + 1) := List.drop_eq_getElem_cons hl
      have hg : s.data.toList.getD i 0 = s.data.toList[i] := by rw [List.getD_eq_getElem?_getD, List.getElem?_eq_getElem hl]; rfl
      have st : ∀ p : UInt8 → Bool, p s.data.toList[i] = false → stopAt p s.data.toList i = i + 1 + (s.data.toList.drop (i + 1)).findIdx p := fun p hp => by
        unfold stopAt; rw [hd, List.findIdx_cons, hp]; simp only [cond_false]; omega
      rw [hd, tokL, hg]
      by_cases h1 : isSp s.data.toList[i] = true
      · rw [if_pos h1, if_pos h1]; exact ih _
      · rw [if_neg h1, if_neg h1]
        have h1' : isSp s.data.toList[i] = false := by simpa using h1
        have h2' : isNl s.data.toList[i] = false := by unfold isSp at h1'; unfold isNl; simp at h1' ⊢; exact h1'.2
        by_cases h2 : s.data.toList[i] = 35
        · rw [if_pos h2, if_pos h2, ih, st _ h2', List.drop_drop]
        · rw [if_neg h2, if_neg h2, ih, st _ h1', List.drop_drop]
          congr 2
          apply bytes_ext
          rw [ex_data, hd]
          rw [show i + 1 + List.findIdx isSp (s.data.toList.drop (i + 1)) - i = List.findIdx isSp (s.data.toList.drop (i + 1)) + 1 by omega, List.take_succ_cons]
    · rw [if_neg h, List.drop_eq_nil_of_le (by rw [sz]; omega), tokL]
theorem tokL_fuel : ∀ (f g : Nat) (l : List UInt8) (i : Nat), l.length ≤ f → l.length ≤ g → tokL f l i = tokL g l i := by
  intro f
  induction f with
  | zero =>
    intro g l i h1 h2
    obtain rfl : l = [] := List.eq_nil_of_length_eq_zero (by omega)
    cases g <;> rfl
  | succ f ih =>
    intro g l i h1 h2
    cases l with
    | nil => cases g <;> rfl
    | cons c r =>
      obtain ⟨g, rfl⟩ : ∃ g', g = g' + 1 := ⟨g - 1, by simp at h2; omega⟩
      simp only [List.length_cons] at h1 h2
      have hd : ∀ k, (r.drop k).length ≤ r.length := fun k => by rw [List.length_drop]; omega
      rw [tokL, tokL]
      rw [ih g r _ (by omega) (by omega), ih g (r.drop (r.findIdx isNl)) _ (by have := hd (r.findIdx isNl); omega) (by have := hd (r.findIdx isNl); omega), ih g (r.drop (r.findIdx isSp)) _ (by have := hd (r.findIdx isSp); omega) (by have := hd (r.findIdx isSp); omega)]
theorem wordsOf_tk (s : ByteArray) : wordsOf s = tk s.data.toList 0 := by
  unfold wordsOf tk
  rw [toks_eq, sz]; rfl
theorem tk_nil (i : Nat) : tk [] i = [] := rfl
theorem tk_sp {c : UInt8} (h : isSp c = true) (r : List UInt8) (i : Nat) : tk (c :: r) i = tk r (i + 1) := by
  unfold tk; rw [List.length_cons, tokL, if_pos h]
theorem tk_nl (r : List UInt8) (i : Nat) : tk (10 :: r) i = tk r (i + 1) := tk_sp rfl r i
theorem findIdx_app {p : UInt8 → Bool} : ∀ {a b : List UInt8}, (∀ x ∈ a, p x = false) → (∀ y t, b = y :: t → p y = true) → (a ++ b).findIdx p = a.length
  | [], b, _, hb => by
    cases b with
    | nil => rfl
    | cons y t => rw [List.nil_append, List.findIdx_cons, hb y t rfl]; rfl
  | c :: a, b, ha, hb => by
    rw [List.cons_append, List.findIdx_cons, ha c (List.mem_cons_self ..), findIdx_app (fun x hx => ha x (List.mem_cons_of_mem _ hx)) hb]
    rfl
theorem span_of (p : UInt8 → Bool) : ∀ r : List UInt8, ∃ a b, r = a ++ b ∧ (∀ x ∈ a, p x = false) ∧ (∀ y t, b = y :: t → p y = true)
  | [] => ⟨[], [], rfl, by simp, by simp⟩
  | c :: r => by
    obtain ⟨a, b, rfl, h1, h2⟩ := span_of p r
    cases hc : p c with
    | true => exact ⟨[], c :: (a ++ b), rfl, by simp, fun y t e => by cases e; exact hc⟩
    | false => exact ⟨c :: a, b, rfl, fun x hx => (List.mem_cons.1 hx).elim (fun e => e ▸ hc) (h1 x), h2⟩
theorem tk_com {a b : List UInt8} (ha : ∀ x ∈ a, isNl x = false) (hb : ∀ y t, b = y :: t → isNl y = true) (i : Nat) : tk (35 :: (a ++ b)) i = tk b (i + 1 + a.length) := by
  unfold tk
  rw [List.length_cons, tokL, if_neg (by decide), if_pos rfl, findIdx_app ha hb, List.drop_left]
  exact tokL_fuel _ _ _ _ (by simp) (Nat.le_refl _)
theorem tk_word {c : UInt8} {a b : List UInt8} (hc : isSp c = false) (h35 : c ≠ 35) (ha : ∀ x ∈ a, isSp x = false) (hb : ∀ y t, b = y :: t → isSp y = true) (i : Nat) : tk (c :: (a ++ b)) i = (⟨(c :: a).toArray⟩, i) :: tk b (i + 1 + a.length) := by
  unfold tk
  rw [List.length_cons, tokL, if_neg (by simp [hc]), if_neg h35, findIdx_app ha hb, List.drop_left, List.take_left]
  rw [tokL_fuel (a ++ b).length b.length b _ (by simp) (Nat.le_refl _)]
theorem tk_ge : ∀ (n : Nat) (l : List UInt8) (i : Nat), l.length ≤ n → ∀ x ∈ tk l i, i ≤ x.2
  | 0, l, i, h, x, hx => by
    obtain rfl : l = [] := List.eq_nil_of_length_eq_zero (by omega)
    simp [tk_nil] at hx
  | n + 1, [], i, h, x, hx => by simp [tk_nil] at hx
  | n + 1, c :: r, i, h, x, hx => by
    simp only [List.length_cons] at h
    cases hs : isSp c with
    | true => rw [tk_sp hs] at hx; have := tk_ge n r (i + 1) (by omega) x hx; omega
    | false =>
      by_cases h35 : c = 35
      · obtain ⟨a, b, rfl, h1, h2⟩ := span_of isNl r
        rw [h35, tk_com h1 h2] at hx
        have := tk_ge n b _ (by simp at h; omega) x hx
        omega
      · obtain ⟨a, b, rfl, h1, h2⟩ := span_of isSp r
        rw [tk_word hs h35 h1 h2] at hx
        rcases List.mem_cons.1 hx with rfl | hx
        · exact Nat.le_refl _
        · have := tk_ge n b _ (by simp at h; omega) x hx; omega
theorem head_cut {p : UInt8 → Bool} {b : List UInt8} (hb : ∀ y t, b = y :: t → p y = true) (hn : p 10 = true) (k : Nat) (e : List UInt8) : ∀ y t, b.take k ++ 10 :: e = y :: t → p y = true := by
  intro y t h
  cases b with
  | nil => simp at h; rw [← h.1]; exact hn
  | cons z u =>
    cases k with
    | zero => simp at h; rw [← h.1]; exact hn
    | succ k => simp at h; rw [← h.1]; exact hb z u rfl
/-- Where the cut lies: at the end, or at the first of the words that are left. -/
def CutAt (l : List UInt8) (i : Nat) (suf : List (ByteArray × Nat)) (k : Nat) : Prop := (suf = [] ∧ k = l.length) ∨ ∃ x r, suf = x :: r ∧ x.2 = i + k
theorem CutAt.down {l b : List UInt8} {i j k : Nat} {pre suf : List (ByteArray × Nat)} (h : CutAt l i suf k) (hl : l.length = j + b.length) (ht : tk b (i + j) = pre ++ suf) : ∃ k', k = j + k' ∧ CutAt b (i + j) suf k' := by
  rcases h with ⟨h1, h2⟩ | ⟨x, r, h1, h2⟩
  · exact ⟨b.length, by omega, .inl ⟨h1, rfl⟩⟩
  · have := tk_ge _ b (i + j) (Nat.le_refl _) x (by rw [ht, h1]; simp)
    exact ⟨k - j, by omega, .inr ⟨x, r, h1, by omega⟩⟩
/-- A text that is cut before a word, or at its end, and goes on after a line's end: the words before the cut, and those after it. -/
theorem tk_cut : ∀ (n : Nat) (l : List UInt8) (i : Nat) (pre suf : List (ByteArray × Nat)) (k : Nat), l.length ≤ n → tk l i = pre ++ suf → CutAt l i suf k → ∀ e, tk (l.take k ++ 10 :: e) i = pre ++ tk e (i + k + 1) := by
  intro n
  induction n with
  | zero =>
    intro l i pre suf k hn ht hk e
    obtain rfl : l = [] := List.eq_nil_of_length_eq_zero (by omega)
    rw [tk_nil] at ht
    obtain ⟨rfl, rfl⟩ := List.append_eq_nil_iff.1 ht.symm
    rcases hk with ⟨_, rfl⟩ | ⟨x, r, h, _⟩
    · exact tk_nl _ _
    · cases h
  | succ n ih =>
    intro l i pre suf k hn ht hk e
    cases l with
    | nil =>
      rw [tk_nil] at ht
      obtain ⟨rfl, rfl⟩ := List.append_eq_nil_iff.1 ht.symm
      rcases hk with ⟨_, rfl⟩ | ⟨x, r, h, _⟩
      · exact tk_nl _ _
      · cases h
    | cons c r =>
      simp only [List.length_cons] at hn
      cases hs : isSp c with
      | true =>
        rw [tk_sp hs] at ht
        obtain ⟨k, rfl, hk'⟩ := hk.down (b := r) (j := 1) (by simp; omega) ht
        rw [Nat.add_comm 1 k, List.take_succ_cons, List.cons_append, tk_sp hs, ih r (i + 1) pre suf k (by omega) ht hk' e]
        congr 2; omega
      | false =>
        by_cases h35 : c = 35
        · obtain ⟨a, b, rfl, h1, h2⟩ := span_of isNl r
          subst h35
          rw [tk_com h1 h2, Nat.add_assoc] at ht
          obtain ⟨k, rfl, hk'⟩ := hk.down (b := b) (j := 1 + a.length) (by simp; omega) ht
          rw [show 1 + a.length + k = (a.length + k) + 1 by omega, List.take_succ_cons, List.take_length_add_append, List.cons_append, List.append_assoc, tk_com h1 (head_cut h2 rfl k e), Nat.add_assoc, ih b _ pre suf k (by simp at hn; omega) ht hk' e]
          congr 2; omega
        · obtain ⟨a, b, rfl, h1, h2⟩ := span_of isSp r
          rw [tk_word hs h35 h1 h2] at ht
          cases pre with
          | nil =>
            rw [List.nil_append] at ht
            rcases hk with ⟨h, _⟩ | ⟨x, r, h, hx⟩
            · rw [h] at ht; cases ht
            · rw [h] at ht
              cases ht
              obtain rfl : k = 0 := by simp at hx; omega
              exact tk_nl _ _
          | cons y pre =>
            rw [List.cons_append, List.cons.injEq] at ht
            obtain ⟨rfl, ht⟩ := ht
            rw [Nat.add_assoc] at ht
            obtain ⟨k, rfl, hk'⟩ := hk.down (b := b) (j := 1 + a.length) (by simp; omega) ht
            rw [show 1 + a.length + k = (a.length + k) + 1 by omega, List.take_succ_cons, List.take_length_add_append, List.cons_append, List.append_assoc, tk_word hs h35 h1 (head_cut h2 rfl k e), Nat.add_assoc, ih b _ pre suf k (by simp at hn; omega) ht hk' e, List.cons_append]
            congr 3; omega
end Go.Proofs.YtgcmekpfhagnbaaDoor
