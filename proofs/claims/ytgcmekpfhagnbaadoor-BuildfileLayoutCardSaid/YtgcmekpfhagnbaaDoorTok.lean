/- The words of a text, plainly. -/
import Derived.Test.YtgcmekpfhagnbaaDoorBase
namespace Go.Proofs.YtgcmekpfhagnbaaDoor

theorem byteN (c d : UInt8) : ((c.toNat : Int) == (d.toNat : Int)) = (c == d) := by
  rw [Bool.eq_iff_iff, beq_iff_eq, beq_iff_eq, ← UInt8.toNat_inj]
  omega
theorem byteNe (c d : UInt8) : ((c.toNat : Int) != (d.toNat : Int)) = (c != d) := by
  rw [bne, bne, byteN]
theorem byteNeT {c d : UInt8} {b : Bool} (h : (c == d) = b) : ((c.toNat : Int) != (d.toNat : Int)) = !b := by rw [byteNe, bne, h]
def isSp (c : UInt8) : Bool := c == 32 || c == 10
def isNl (c : UInt8) : Bool := c == 10
/-- The first index from i on at which p holds, or the end. -/
def stopAt (p : UInt8 → Bool) (l : List UInt8) (i : Nat) : Nat := i + (l.drop i).findIdx p
theorem stopAt_ge (p : UInt8 → Bool) (l : List UInt8) (i : Nat) : i ≤ stopAt p l i := Nat.le_add_right _ _
theorem stopAt_le (p : UInt8 → Bool) {l : List UInt8} {i : Nat} (h : i ≤ l.length) : stopAt p l i ≤ l.length := by
  unfold stopAt
  have := List.findIdx_le_length (p := p) (xs := l.drop i)
  rw [List.length_drop] at this
  omega
theorem stopAt_here {p : UInt8 → Bool} {l : List UInt8} {i k : Nat} (h1 : i ≤ k) (h2 : k ≤ stopAt p l i) (h3 : k < l.length) (h : p (l.getD k 0) = true) : stopAt p l i = k := by
  refine Nat.le_antisymm ?_ h2
  unfold stopAt at *
  refine Nat.le_of_not_lt fun hlt => ?_
  have hk : k - i < List.findIdx p (l.drop i) := by omega
  have := List.not_of_lt_findIdx hk
  rw [List.getD_eq_getElem?_getD, List.getElem?_eq_getElem h3] at h
  rw [List.getElem_drop] at this
  simp only [Option.getD_some] at h
  have e : l[i + (k - i)]'(by omega) = l[k] := by congr 1; omega
  rw [e, h] at this
  cases this
theorem stopAt_next {p : UInt8 → Bool} {l : List UInt8} {i k : Nat} (h2 : k ≤ stopAt p l i) (h3 : k < l.length) (h : p (l.getD k 0) = false) : k + 1 ≤ stopAt p l i := by
  refine Nat.lt_of_le_of_ne h2 fun e => ?_
  unfold stopAt at *
  have hlt : List.findIdx p (l.drop i) < (l.drop i).length := by rw [List.length_drop]; omega
  have := List.findIdx_getElem (w := hlt)
  rw [List.getElem_drop] at this
  rw [List.getD_eq_getElem?_getD, List.getElem?_eq_getElem h3] at h
  simp only [Option.getD_some] at h
  have e' : l[i + List.findIdx p (l.drop i)]'(by omega) = l[k] := by congr 1; exact e.symm
  rw [e', h] at this
  cases this
/-- The words from index i on, each with its offset; f bounds the steps. -/
def toks (s : ByteArray) : Nat → Nat → List (ByteArray × Nat)
  | 0, _ => []
  | f + 1, i => if i < s.size then
      (if isSp (s.data.toList.getD i 0) then toks s f (i + 1)
       else if s.data.toList.getD i 0 = 35 then toks s f (stopAt isNl s.data.toList i)
       else (s.extract i (stopAt isSp s.data.toList i), i) :: toks s f (stopAt isSp s.data.toList i))
    else []
def wordsOf (s : ByteArray) : List (ByteArray × Nat) := toks s s.size 0
theorem toks_end (s : ByteArray) (f : Nat) {i : Nat} (h : ¬ i < s.size) : toks s f i = [] := by
  cases f with
  | zero => rfl
  | succ f => rw [toks, if_neg h]
theorem toks_small (s : ByteArray) : ∀ f i, ∀ x ∈ toks s f i, x.1.size ≤ s.size ∧ x.2 ≤ s.size := by
  intro f
  induction f with
  | zero => intro i x hx; simp [toks] at hx
  | succ f ih =>
    intro i x hx
    rw [toks] at hx
    split at hx
    · split at hx
      · exact ih _ x hx
      · split at hx
        · exact ih _ x hx
        · rcases List.mem_cons.1 hx with rfl | hx
          · refine ⟨?_, by show i ≤ _; omega⟩
            show (s.extract _ _).size ≤ _
            rw [ByteArray.size_extract]; omega
          · exact ih _ x hx
    · simp at hx
theorem toks_length (s : ByteArray) : ∀ f i, (toks s f i).length ≤ f := by
  intro f
  induction f with
  | zero => intro i; simp [toks]
  | succ f ih =>
    intro i
    rw [toks]
    split
    · split
      · have := ih (i + 1); omega
      · split
        · have := ih (stopAt isNl s.data.toList i); omega
        · have := ih (stopAt isSp s.data.toList i); simp; omega
    · simp
theorem wordsOf_length (s : ByteArray) : (wordsOf s).length ≤ s.size := toks_length s _ _
end Go.Proofs.YtgcmekpfhagnbaaDoor
