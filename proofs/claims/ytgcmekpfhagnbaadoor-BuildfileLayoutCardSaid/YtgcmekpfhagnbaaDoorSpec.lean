/- Plain functions on byte lists: words, labels. No program in sight; no conditions. -/
namespace Go.Proofs.YtgcmekpfhagnbaaDoor

def isLet (c : Int) : Bool := decide (97 ≤ c) && decide (c ≤ 122)
def isDig (c : Int) : Bool := decide (48 ≤ c) && decide (c ≤ 57)
/-- The characters of a word: a letter, then letters and digits. -/
def okAt (i : Nat) (c : UInt8) : Bool := isLet c.toNat || (i != 0 && isDig c.toNat)
def wordB (l : List UInt8) : Bool := (List.range l.length).all fun i => okAt i (l.getD i 0)
def wordN (n : Nat) (l : List UInt8) : Bool := decide (1 ≤ l.length) && decide (l.length ≤ n) && wordB l

theorem wordB_iff (l : List UInt8) : wordB l = true ↔ ∀ i, i < l.length → okAt i (l.getD i 0) = true := by
  simp [wordB]
theorem wordB_false {l : List UInt8} {i : Nat} (hi : i < l.length) (h : okAt i (l.getD i 0) = false) : wordB l = false := by
  cases hw : wordB l with
  | false => rfl
  | true => have := (wordB_iff l).1 hw i hi; rw [h] at this; cases this

/-- The parts between slashes. -/
def split : List UInt8 → List (List UInt8)
  | [] => [[]]
  | c :: r => if c = 47 then [] :: split r else match split r with
    | [] => [[c]]
    | p :: ps => (c :: p) :: ps
def slashAt (l : List UInt8) : Nat := l.findIdx (· == 47)
theorem slashAt_le (l : List UInt8) : slashAt l ≤ l.length := List.findIdx_le_length
theorem split_ne (l : List UInt8) : split l ≠ [] := by
  cases l with
  | nil => simp [split]
  | cons c r =>
    rw [split]
    split
    · simp
    · split <;> simp
theorem split_none {l : List UInt8} (h : slashAt l = l.length) : split l = [l] := by
  induction l with
  | nil => rfl
  | cons c r ih =>
    unfold slashAt at h ih
    rw [List.findIdx_cons] at h
    by_cases hc : c = 47
    · simp [hc] at h
    · have hb : (c == 47) = false := by simp [hc]
      rw [hb] at h
      rw [split, if_neg hc, ih (by simpa using h)]
theorem split_some {l : List UInt8} (h : slashAt l < l.length) : split l = l.take (slashAt l) :: split (l.drop (slashAt l + 1)) := by
  induction l with
  | nil => simp at h
  | cons c r ih =>
    unfold slashAt at h ih ⊢
    rw [List.findIdx_cons] at h ⊢
    by_cases hc : c = 47
    · simp [hc, split]
    · have hb : (c == 47) = false := by simp [hc]
      rw [hb] at h ⊢
      rw [split, if_neg hc, ih (by simpa using h)]
      simp
theorem slashAt_at {l : List UInt8} {k : Nat} (hk : k ≤ slashAt l) (hl : k < l.length) (h : l.getD k 0 = 47) : slashAt l = k := by
  refine Nat.le_antisymm ?_ hk
  unfold slashAt
  refine Nat.le_of_not_lt fun hlt => ?_
  have := List.not_of_lt_findIdx hlt
  rw [List.getD_eq_getElem?_getD, List.getElem?_eq_getElem hl] at h
  simp at h this
  exact this h
theorem slashAt_next {l : List UInt8} {k : Nat} (hk : k ≤ slashAt l) (hl : k < l.length) (h : l.getD k 0 ≠ 47) : k + 1 ≤ slashAt l := by
  refine Nat.lt_of_le_of_ne hk fun e => h ?_
  have hlt : List.findIdx (· == 47) l < l.length := by unfold slashAt at e; omega
  have := List.findIdx_getElem (w := hlt)
  rw [List.getD_eq_getElem?_getD, List.getElem?_eq_getElem hl]
  unfold slashAt at e
  simp at this ⊢
  simp only [e]
  exact this
def labelB (l : List UInt8) : Bool := decide (l.length ≤ 90) && (split l).all (wordN 20)

def b_deps : List UInt8 := [100, 101, 112, 115]
def b_visible : List UInt8 := [118, 105, 115, 105, 98, 108, 101]
def reservedB (l : List UInt8) : Bool := l == b_deps || l == b_visible
def freeLabelB (l : List UInt8) : Bool := labelB l && !reservedB l
def nameB (l : List UInt8) : Bool := labelB l && !l.contains 47
def freeNameB (l : List UInt8) : Bool := nameB l && !reservedB l
def viewerB (l : List UInt8) : Bool := if l.getLast? = some 47 then labelB l.dropLast else l == [42] || freeLabelB l

theorem wordN_short {n : Nat} {l : List UInt8} (h : l.length < 1) : wordN n l = false := by
  simp [wordN]; omega
theorem wordN_long {n : Nat} {l : List UInt8} (h : n < l.length) : wordN n l = false := by
  simp [wordN]; omega
theorem wordN_bad {n i : Nat} {l : List UInt8} (hi : i < l.length) (h : okAt i (l.getD i 0) = false) : wordN n l = false := by
  rw [wordN, wordB_false hi h]; simp
theorem wordN_good {n : Nat} {l : List UInt8} (h1 : 1 ≤ l.length) (h2 : l.length ≤ n) (h : ∀ i, i < l.length → okAt i (l.getD i 0) = true) : wordN n l = true := by
  simp [wordN, h1, h2, (wordB_iff l).2 h]
theorem wordN_20_24 (l : List UInt8) : wordN 20 l = (decide (l.length ≤ 20) && wordN 24 l) := by
  rw [Bool.eq_iff_iff]
  simp only [wordN, Bool.and_eq_true, decide_eq_true_eq]
  constructor
  · rintro ⟨⟨a, b⟩, c⟩; exact ⟨b, ⟨a, by omega⟩, c⟩
  · rintro ⟨a, ⟨b, _⟩, c⟩; exact ⟨⟨b, a⟩, c⟩
theorem labelB_long {l : List UInt8} (h : 90 < l.length) : labelB l = false := by
  simp [labelB]; omega

/-- The last slash before n, or -1. -/
def lastSlFrom (l : List UInt8) : Nat → Int
  | 0 => -1
  | n + 1 => if l.getD n 0 = 47 then n else lastSlFrom l n
/- The same over Go's strings. -/
def lastSlS (s : ByteArray) : Int := lastSlFrom s.data.toList s.size
def endsS (s : ByteArray) : Bool := s.data.toList.getLast? == some 47
def wordS (n : Nat) (s : ByteArray) : Bool := wordN n s.data.toList
def slashS (s : ByteArray) : Nat := slashAt s.data.toList
def labelS (s : ByteArray) : Bool := labelB s.data.toList
def reservedS (s : ByteArray) : Bool := reservedB s.data.toList
def freeLabelS (s : ByteArray) : Bool := freeLabelB s.data.toList
def nameS (s : ByteArray) : Bool := nameB s.data.toList
def freeNameS (s : ByteArray) : Bool := freeNameB s.data.toList
def viewerS (s : ByteArray) : Bool := viewerB s.data.toList
theorem lastSlFrom_neg (l : List UInt8) (n : Nat) (hn : n ≤ l.length) : decide (lastSlFrom l n < 0) = !(l.take n).contains 47 := by
  induction n with
  | zero => rfl
  | succ n ih =>
    rw [lastSlFrom]
    have e : l.take (n + 1) = l.take n ++ [l.getD n 0] := by
      rw [List.take_succ_eq_append_getElem (by omega), List.getD_eq_getElem?_getD, List.getElem?_eq_getElem (by omega)]; rfl
    by_cases h : l.getD n 0 = 47
    · rw [if_pos h, e, h]; simp
    · rw [if_neg h, ih (by omega), e]
      simp only [List.contains_eq_mem, List.mem_append, List.mem_singleton]
      have : ¬ (47 : UInt8) = l[n]?.getD 0 := fun e => h (by rw [List.getD_eq_getElem?_getD]; exact e.symm)
      simp [this]
theorem lastSl_neg (s : ByteArray) : decide (lastSlS s < 0) = !s.data.toList.contains 47 := by
  rw [lastSlS, lastSlFrom_neg _ _ (by simp), List.take_of_length_le (by simp)]
theorem split_ends (l : List UInt8) : [] ∈ split (l ++ [47]) := by
  induction l with
  | nil => simp [split]
  | cons c r ih =>
    rw [List.cons_append, split]
    by_cases hc : c = 47
    · rw [if_pos hc]; simp
    · rw [if_neg hc]
      cases hs : split (r ++ [47]) with
      | nil => rw [hs] at ih; simp at ih
      | cons p ps =>
        simp only [List.mem_cons]
        rw [hs] at ih
        have hr : ∃ x y ys, split (r ++ [47]) = x :: y :: ys := by
          clear ih hs
          induction r with
          | nil => exact ⟨[], [], [], by simp [split]⟩
          | cons d r ih' =>
            rw [List.cons_append, split]
            obtain ⟨x, y, ys, e⟩ := ih'
            by_cases hd : d = 47
            · rw [if_pos hd]; exact ⟨[], x, y :: ys, by rw [e]⟩
            · rw [if_neg hd, e]; exact ⟨d :: x, y, ys, rfl⟩
        obtain ⟨x, y, ys, e⟩ := hr
        rw [hs] at e
        cases e
        right
        have hlast : ∀ (r : List UInt8) x ys, split (r ++ [47]) = x :: ys → [] ∈ ys := by
          intro r
          induction r with
          | nil => intro x ys e; simp [split] at e; rw [← e.2]; simp
          | cons d r ih' =>
            intro x ys e
            rw [List.cons_append, split] at e
            by_cases hd : d = 47
            · rw [if_pos hd] at e
              cases hq : split (r ++ [47]) with
              | nil => exact absurd hq (split_ne _)
              | cons q qs => rw [hq] at e; cases e; exact List.mem_cons_of_mem _ (ih' q qs hq)
            · rw [if_neg hd] at e
              cases hq : split (r ++ [47]) with
              | nil => exact absurd hq (split_ne _)
              | cons q qs =>
                rw [hq] at e
                simp only [List.cons.injEq] at e
                rw [← e.2]
                exact ih' q qs hq
        exact hlast r _ _ hs
theorem labelB_ends {l : List UInt8} (h : l.getLast? = some 47) : labelB l = false := by
  obtain ⟨r, rfl⟩ : ∃ r, l = r ++ [47] := by
    rw [List.getLast?_eq_some_iff] at h
    exact h
  have := split_ends r
  rw [labelB, Bool.and_eq_false_iff]
  right
  rw [List.all_eq_false]
  exact ⟨[], this, by simp [wordN]⟩
theorem labelB_nil : labelB [] = false := by rfl
theorem viewerS_ends {s : ByteArray} (h : endsS s = true) : viewerS s = labelS (s.extract 0 (s.size - 1)) := by
  have h' : s.data.toList.getLast? = some 47 := by simpa [endsS] using h
  rw [viewerS, viewerB, if_pos h', labelS]
  congr 1
  have e : (s.extract 0 (s.size - 1)).data.toList = s.data.toList.take (s.size - 1) := by
    rw [ByteArray.data_extract, Array.toList_extract]
    rfl
  rw [e, List.dropLast_eq_take, Array.length_toList, ByteArray.size_data]
theorem viewerS_not {s : ByteArray} (h : endsS s = false) : viewerS s = (s.data.toList == [42] || freeLabelS s) := by
  have h' : ¬ s.data.toList.getLast? = some 47 := by simpa [endsS] using h
  rw [viewerS, viewerB, if_neg h', freeLabelS]
theorem freeLabelS_ends {s : ByteArray} (h : endsS s = true) : freeLabelS s = false := by
  have h' : s.data.toList.getLast? = some 47 := by simpa [endsS] using h
  rw [freeLabelS, freeLabelB, labelB_ends h']; rfl
end Go.Proofs.YtgcmekpfhagnbaaDoor
