/- Plain: independence and inverse edits. -/
import Derived.Test.YtlcpdhionefmbaaGreatDoorSEr
import Derived.Test.YtlcpdhionefmbaaGreatDoorT9
namespace Go.Proofs.YtlcpdhionefmbaaGreatDoor
open Go.RowKit

theorem firstNZ_zero : ∀ {l : List Int}, firstNZ l = 0 ↔ ∀ x ∈ l, x = 0
  | [] => by simp [firstNZ]
  | a :: r => by
    rw [firstNZ]
    split
    · rename_i h; rw [firstNZ_zero]; simp [h]
    · rename_i h; simp [h]
theorem nz_zero {f : Nat → Int} {n : Nat} : nzFrom f n 0 = 0 ↔ ∀ k, k < n → f k = 0 := by
  unfold nzFrom
  rw [List.drop_zero, firstNZ_zero]
  simp
theorem testErr_zero {l : List OMod} : testErr l = 0 ↔ ∀ m ∈ l, modErr m = 0 := by
  unfold testErr
  rw [nz_zero]
  constructor
  · intro h m hm
    obtain ⟨k, hk, rfl⟩ := List.mem_iff_getElem.1 hm
    have := h k hk
    rwa [mAt_of (List.getElem?_eq_getElem hk)] at this
  · intro h k hk
    rw [mAt_of (List.getElem?_eq_getElem hk)]
    exact h _ (List.getElem_mem hk)
theorem editErr_zero {e : OEdit} : editErr e = 0 ↔ (1 ≤ e.kind ∧ e.kind ≤ 9) ∧ fitsB e = true ∧ ∀ m ∈ testsOf e, modErr m = 0 := by
  unfold editErr
  split
  · rename_i h
    split
    · rename_i h2; rw [testErr_zero]; simp [h, h2]
    · rename_i h2; simp [h2]
  · rename_i h; simp; intro h1 h2; exact absurd ⟨h1, h2⟩ h
theorem sameD_symm (a b : ODecl) : sameD a b = sameD b a := by
  rw [Bool.eq_iff_iff, sameD_iff, sameD_iff]
  exact ⟨fun h => h.symm, fun h => h.symm⟩
theorem eqS_symm (a b : ByteArray) : eqS a b = eqS b a := by
  rw [Bool.eq_iff_iff, eqS_iff, eqS_iff]
  exact ⟨fun h => h.symm, fun h => h.symm⟩
theorem changeB_symm (k : Int) (o f : ODecl) : changeB k o f = changeB k f o := by
  unfold changeB
  rw [sameD_symm f o, show (f.id == o.id) = (o.id == f.id) from by rw [Bool.eq_iff_iff]; simp; exact ⟨fun h => h.symm, fun h => h.symm⟩]
  cases sameD o (partD k o) <;> cases sameD f (partD k f) <;> rfl
theorem opp_cases {k : Int} (h1 : 1 ≤ k) (h9 : k ≤ 9) : (1 ≤ opp k ∧ opp k ≤ 9) ∧ oldsN (opp k) = newsN k ∧ newsN (opp k) = oldsN k ∧ ((opp k = 3 ∨ opp k = 4) ↔ (k = 3 ∨ k = 4)) ∧ ((opp k = 1 ∨ opp k = 2) ↔ (k = 1 ∨ k = 2)) ∧ (7 ≤ k → opp k = k) ∧ (k < 7 → opp k < 7) ∧ opp (opp k) = k := by
  have h : k = 1 ∨ k = 2 ∨ k = 3 ∨ k = 4 ∨ k = 5 ∨ k = 6 ∨ k = 7 ∨ k = 8 ∨ k = 9 := by omega
  rcases h with rfl | rfl | rfl | rfl | rfl | rfl | rfl | rfl | rfl <;> decide
theorem opp_range (k : Int) : (1 ≤ opp k ∧ opp k ≤ 9) ↔ (1 ≤ k ∧ k ≤ 9) := by
  constructor
  · intro h
    unfold opp at h
    split at h
    · omega
    split at h
    · omega
    · exact h
  · intro h; exact (opp_cases h.1 h.2).1
theorem invE_invE {e : OEdit} (h1 : 1 ≤ e.kind) (h9 : e.kind ≤ 9) : invE (invE e) = e := by
  cases e
  simp only [invE, OEdit.mk.injEq, and_true]
  exact (opp_cases h1 h9).2.2.2.2.2.2.2
theorem textBad_inv {k : Int} (h1 : 1 ≤ k) (h9 : k ≤ 9) (t : ByteArray) : textBad (opp k) t = textBad k t := by
  unfold textBad
  have h : k = 1 ∨ k = 2 ∨ k = 3 ∨ k = 4 ∨ k = 5 ∨ k = 6 ∨ k = 7 ∨ k = 8 ∨ k = 9 := by omega
  have e : ((opp k != 3) && (opp k != 4)) = ((k != 3) && (k != 4)) := by
    rcases h with rfl | rfl | rfl | rfl | rfl | rfl | rfl | rfl | rfl <;> decide
  rw [e]
theorem fitsB_inv {e : OEdit} (h1 : 1 ≤ e.kind) (h9 : e.kind ≤ 9) (h : fitsB e = true) : fitsB (invE e) = true := by
  obtain ⟨_, ho, hn, _, _, h7, hl, _⟩ := opp_cases h1 h9
  unfold fitsB at h ⊢
  split at h
  · rename_i hc
    rw [if_pos (show (invE e).old.length = oldsN (invE e).kind ∧ (invE e).fresh.length = newsN (invE e).kind from by
      show e.fresh.length = oldsN (opp e.kind) ∧ e.old.length = newsN (opp e.kind)
      rw [ho, hn]; exact ⟨hc.2, hc.1⟩)]
    split at h
    · cases h
    · rename_i ht
      rw [if_neg (show ¬ textBad (invE e).kind (invE e).text = true from by
        show ¬ textBad (opp e.kind) e.text = true
        rw [textBad_inv h1 h9]; exact ht)]
      split at h
      · rename_i hk; rw [if_pos (show (invE e).kind < 7 from hl hk)]
      · rename_i hk
        have e7 := h7 (by omega)
        rw [if_neg (show ¬ (invE e).kind < 7 from by show ¬ opp e.kind < 7; rw [e7]; exact hk)]
        show changeB (opp e.kind) (dAt e.fresh 0) (dAt e.old 0) = true
        rw [e7, changeB_symm]
        exact h
  · cases h
theorem tests_inv {e : OEdit} (h1 : 1 ≤ e.kind) (h9 : e.kind ≤ 9) (h : ∀ m ∈ testsOf e, modErr m = 0) : ∀ m ∈ testsOf (invE e), modErr m = 0 := by
  obtain ⟨_, _, _, h34, h12, h7, hl, _⟩ := opp_cases h1 h9
  intro m hm
  apply h
  unfold testsOf at hm ⊢
  by_cases a : e.kind = 1 ∨ e.kind = 2
  · rw [if_pos (show (invE e).kind = 1 ∨ (invE e).kind = 2 from h12.2 a)] at hm; rw [if_pos a]; exact hm
  rw [if_neg (show ¬ ((invE e).kind = 1 ∨ (invE e).kind = 2) from fun x => a (h12.1 x))] at hm
  rw [if_neg a]
  by_cases b : e.kind = 3 ∨ e.kind = 4
  · rw [if_pos (show (invE e).kind = 3 ∨ (invE e).kind = 4 from h34.2 b)] at hm; rw [if_pos b]; exact hm
  rw [if_neg (show ¬ ((invE e).kind = 3 ∨ (invE e).kind = 4) from fun x => b (h34.1 x))] at hm
  rw [if_neg b]
  obtain ⟨d, hd, rfl⟩ := List.mem_map.1 hm
  have hc : compD (invE e).kind d = compD e.kind d := by
    show compD (opp e.kind) d = _
    by_cases c : e.kind < 7
    · rw [compD_low (hl c), compD_low c]
    · rw [h7 (by omega)]
  refine List.mem_map.2 ⟨d, List.mem_append.2 ((List.mem_append.1 hd).symm), ?_⟩
  rw [hc]
  rfl
theorem editErr_inv {e : OEdit} (h : editErr e = 0) : editErr (invE e) = 0 := by
  obtain ⟨⟨h1, h9⟩, hf, ht⟩ := editErr_zero.1 h
  exact editErr_zero.2 ⟨(opp_cases h1 h9).1, fitsB_inv h1 h9 hf, tests_inv h1 h9 ht⟩
theorem editErr_inv_iff {e : OEdit} : (editErr (invE e) == 0) = (editErr e == 0) := by
  rw [Bool.eq_iff_iff, beq_iff_eq, beq_iff_eq]
  constructor
  · intro h
    have hr := (editErr_zero.1 h).1
    have hr2 := (opp_range e.kind).1 hr
    have := editErr_inv h
    rwa [invE_invE hr2.1 hr2.2] at this
  · exact editErr_inv
theorem concT_inv {e : OEdit} (h1 : 1 ≤ e.kind) (h9 : e.kind ≤ 9) : concT (invE e) = concT e := by
  obtain ⟨_, _, _, h34, _⟩ := opp_cases h1 h9
  unfold concT
  by_cases b : e.kind = 3 ∨ e.kind = 4
  · rw [if_pos (show (invE e).kind = 3 ∨ (invE e).kind = 4 from h34.2 b), if_pos b]; rfl
  · rw [if_neg (show ¬ ((invE e).kind = 3 ∨ (invE e).kind = 4) from fun x => b (h34.1 x)), if_neg b]
theorem concP_inv {e : OEdit} (h1 : 1 ≤ e.kind) (h9 : e.kind ≤ 9) : concP (invE e) = concP e := by
  obtain ⟨_, _, _, _, _, h7, hl, _⟩ := opp_cases h1 h9
  unfold concP
  by_cases b : e.kind ≤ 6
  · rw [if_pos (show (invE e).kind ≤ 6 from by show opp e.kind ≤ 6; have := hl (by omega); omega), if_pos b]
  · rw [show (invE e).kind = e.kind from h7 (by omega)]
theorem concI_inv {e : OEdit} (h : editErr e = 0) : concI (invE e) = concI e := by
  obtain ⟨⟨h1, h9⟩, hf, _⟩ := editErr_zero.1 h
  unfold concI
  have hk : e.kind = 1 ∨ e.kind = 2 ∨ e.kind = 3 ∨ e.kind = 4 ∨ e.kind = 5 ∨ e.kind = 6 ∨ 7 ≤ e.kind := by omega
  have ek : (invE e).kind = opp e.kind := rfl
  rcases hk with k | k | k | k | k | k | k
  · rw [if_pos (show (invE e).kind ≤ 4 by rw [ek, k]; decide), if_pos (by omega)]
  · rw [if_pos (show (invE e).kind ≤ 4 by rw [ek, k]; decide), if_pos (by omega)]
  · rw [if_pos (show (invE e).kind ≤ 4 by rw [ek, k]; decide), if_pos (by omega)]
  · rw [if_pos (show (invE e).kind ≤ 4 by rw [ek, k]; decide), if_pos (by omega)]
  · rw [if_neg (show ¬ (invE e).kind ≤ 4 by rw [ek, k]; decide), if_neg (show ¬ (invE e).kind = 5 by rw [ek, k]; decide), if_neg (by omega), if_pos (by omega)]; rfl
  · rw [if_neg (show ¬ (invE e).kind ≤ 4 by rw [ek, k]; decide), if_pos (show (invE e).kind = 5 by rw [ek, k]; decide), if_neg (by omega), if_neg (by omega)]; rfl
  · have e7 : (invE e).kind = e.kind := (opp_cases h1 h9).2.2.2.2.2.1 k
    rw [e7, if_neg (by omega), if_neg (by omega), if_neg (by omega), if_neg (by omega)]
    show (dAt e.fresh 0).id = (dAt e.old 0).id
    unfold fitsB at hf
    split at hf
    · split at hf
      · cases hf
      · rw [if_neg (by omega)] at hf
        unfold changeB at hf
        simp only [Bool.and_eq_true, beq_iff_eq] at hf
        exact hf.2.2.1.symm
    · cases hf
theorem indepB_symm (a b : OEdit) : indepB a b = indepB b a := by
  have e1 : sameC a b = sameC b a := by
    unfold sameC
    rw [eqS_symm (concT a), show (concI a == concI b) = (concI b == concI a) by rw [Bool.eq_iff_iff]; simp; exact ⟨fun h => h.symm, fun h => h.symm⟩, show (concP a == concP b) = (concP b == concP a) by rw [Bool.eq_iff_iff]; simp; exact ⟨fun h => h.symm, fun h => h.symm⟩]
  have e2 : (concI a != concI b) = (concI b != concI a) := by rw [bne, bne, Bool.eq_iff_iff]; simp; exact ⟨fun h => fun e => h e.symm, fun h => fun e => h e.symm⟩
  unfold indepB
  rw [eqS_symm a.pack b.pack, e1, e2, eqS_symm (concT a), Bool.or_comm (zeroC a), Bool.and_comm (concP a != 0)]
theorem indepB_inv {a b : OEdit} (ha : editErr a = 0) (hb : editErr b = 0) : indepB (invE a) (invE b) = indepB a b := by
  obtain ⟨⟨a1, a9⟩, _⟩ := editErr_zero.1 ha
  obtain ⟨⟨b1, b9⟩, _⟩ := editErr_zero.1 hb
  unfold indepB zeroC sameC
  rw [concT_inv a1 a9, concT_inv b1 b9, concP_inv a1 a9, concP_inv b1 b9, concI_inv ha, concI_inv hb]
  rfl
theorem swapB_symm (a b : OEdit) : swapB a b = swapB b a := by
  unfold swapB
  rw [indepB_symm]
  cases editErr a == 0 <;> cases editErr b == 0 <;> rfl
theorem swapB_inv (a b : OEdit) : swapB (invE b) (invE a) = swapB a b := by
  rw [swapB_symm]
  unfold swapB
  rw [editErr_inv_iff, editErr_inv_iff]
  cases ha : editErr a == 0 with
  | false => rfl
  | true =>
    cases hb : editErr b == 0 with
    | false => rfl
    | true => rw [indepB_inv (by simpa using ha) (by simpa using hb)]

/-! What is not great is small. -/
theorem smX_small {x : Ex} : ∀ (_ : SmX 9223372036854775807 x) (_ : anyX longP x = false), SmX 40000 x := by
  refine Ex.ind (P := fun x => ∀ (_ : SmX 9223372036854775807 x) (_ : anyX longP x = false), SmX 40000 x) (fun x ih h hl => ?_) x
  have hs := h.subs
  cases x with
  | mk k n m i d s =>
    rw [anyX_eq] at hl
    simp only [Bool.or_eq_false_iff] at hl
    obtain ⟨h1, h2⟩ := hl
    unfold longP at h1
    simp only [Bool.or_eq_false_iff, decide_eq_false_iff_not] at h1
    refine .mk (by have := h1.1; simp only [Ex.name] at this; omega) (by have := h1.2; simp only [Ex.more] at this; omega) h.kind h.num h.den (fun y hy => ih y hy (hs y hy) ?_)
    rw [List.any_eq_false] at h2
    simpa using h2 y hy
structure BigE (e : OEdit) : Prop where
  pack : e.pack.size ≤ 4000000
  text : e.text.size ≤ 4000000
  old : ∀ d ∈ e.old, BigD d
  fresh : ∀ d ∈ e.fresh, BigD d
theorem smD_of {d : ODecl} (h : BigD d) (g : greatD d = false) : SmD d ∧ nodesN d.body ≤ 1000000 := by
  unfold greatD greatX at g
  simp only [Bool.or_eq_false_iff, decide_eq_false_iff_not, List.any_eq_false, decide_eq_true_eq] at g
  obtain ⟨⟨g1, g2, g3⟩, g4⟩ := g
  exact ⟨⟨fun s hs => by have := g4 s hs; omega, by omega, smX_small h.body g3, by omega⟩, by omega⟩
theorem smDs_of {l : List ODecl} (h : ∀ d ∈ l, BigD d) (g : greatDs l = false) : (∀ d ∈ l, SmD d ∧ nodesN d.body ≤ 1000000) ∧ l.length ≤ 1000000 := by
  unfold greatDs at g
  split at g
  · cases g
  · rename_i h8
    rw [List.any_eq_false] at g
    exact ⟨fun d hd => smD_of (h d hd) (by simpa using g d hd), by omega⟩
theorem smE_of {e : OEdit} (h : BigE e) (g : greatE e = false) : SmE e := by
  unfold greatE at g
  simp only [Bool.or_eq_false_iff, decide_eq_false_iff_not] at g
  obtain ⟨⟨⟨g1, g2⟩, g3⟩, g4⟩ := g
  obtain ⟨o1, o2⟩ := smDs_of h.old g3
  obtain ⟨f1, f2⟩ := smDs_of h.fresh g4
  exact ⟨by omega, by omega, o1, f1, o2, f2⟩
end Go.Proofs.YtlcpdhionefmbaaGreatDoor
