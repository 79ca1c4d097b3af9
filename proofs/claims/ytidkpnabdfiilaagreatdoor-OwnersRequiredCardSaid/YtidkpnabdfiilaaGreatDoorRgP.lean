/- The reference of chapters 9 and 54, plainly: the order of texts, paths below others, the first name of a path, the directories of a path, the file of a path. -/
import Derived.Test.YtidkpnabdfiilaaGreatDoorQ16
namespace Go.Proofs.YtidkpnabdfiilaaGreatDoor
open Go.RowKit

/-! The order of texts. -/
theorem less_irrefl : ∀ a : List UInt8, Op.bytesLess a a = false
  | [] => by simp [Op.bytesLess]
  | x :: a => by simp [Op.bytesLess, less_irrefl a]
theorem less_trans : ∀ {a b c : List UInt8}, Op.bytesLess a b = true → Op.bytesLess b c = true → Op.bytesLess a c = true
  | [], [], _, h, _ => by simp [Op.bytesLess] at h
  | _, _ :: _, [], _, h => by simp [Op.bytesLess] at h
  | [], _ :: _, _ :: _, _, _ => by simp [Op.bytesLess]
  | _ :: _, [], _, h, _ => by simp [Op.bytesLess] at h
  | x :: a, y :: b, z :: c, h1, h2 => by
    simp only [Op.bytesLess, Bool.or_eq_true, decide_eq_true_eq, Bool.and_eq_true, beq_iff_eq] at h1 h2 ⊢
    rcases h1 with h1 | ⟨rfl, h1⟩
    · rcases h2 with h2 | ⟨rfl, h2⟩
      · exact .inl (UInt8.lt_trans h1 h2)
      · exact .inl h1
    · rcases h2 with h2 | ⟨rfl, h2⟩
      · exact .inl h2
      · exact .inr ⟨rfl, less_trans h1 h2⟩
theorem less_total : ∀ a b : List UInt8, Op.bytesLess a b = true ∨ a = b ∨ Op.bytesLess b a = true
  | [], [] => .inr (.inl rfl)
  | [], _ :: _ => .inl (by simp [Op.bytesLess])
  | _ :: _, [] => .inr (.inr (by simp [Op.bytesLess]))
  | x :: a, y :: b => by
    simp only [Op.bytesLess, Bool.or_eq_true, decide_eq_true_eq, Bool.and_eq_true, beq_iff_eq]
    rcases Nat.lt_trichotomy x.toNat y.toNat with h | h | h
    · exact .inl (.inl (UInt8.lt_iff_toNat_lt.2 h))
    · have e : x = y := UInt8.toNat_inj.1 h
      subst e
      rcases less_total a b with h | h | h
      · exact .inl (.inr ⟨rfl, h⟩)
      · exact .inr (.inl (by rw [h]))
      · exact .inr (.inr (.inr ⟨rfl, h⟩))
    · exact .inr (.inr (.inl (UInt8.lt_iff_toNat_lt.2 h)))
theorem leB_not (a b : List UInt8) : leB a b = !(Op.bytesLess b a) := by
  unfold leB
  rcases less_total a b with h | h | h
  · rw [h, Bool.true_or]
    cases h2 : Op.bytesLess b a with
    | false => rfl
    | true => have := less_trans h h2; rw [less_irrefl] at this; cases this
  · subst h; simp [less_irrefl]
  · rw [h]
    cases h1 : Op.bytesLess a b with
    | true => have := less_trans h h1; rw [less_irrefl] at this; cases this
    | false =>
      have : (a == b) = false := by
        rw [beq_eq_false_iff_ne]; rintro rfl; rw [less_irrefl] at h; cases h
      rw [this]; rfl
/-! Paths below others. -/
def belowB (d p : List UInt8) : Bool := decide (d.length < p.length) && p.take d.length == d && p.getD d.length 0 == 47
theorem someDir_below (fs gs : List OFile) : someDir fs gs = fs.any fun f => gs.any fun g => belowB f.path.data.toList g.path.data.toList := by
  rw [Bool.eq_iff_iff]
  simp only [someDir, dirIn, dirAt, inPaths, belowB, List.any_eq_true, Bool.and_eq_true, decide_eq_true_eq, beq_iff_eq, List.mem_range]
  constructor
  · rintro ⟨g, hg, i, hi, h1, f, hf, h2⟩
    refine ⟨f, hf, g, hg, ?_⟩
    have hl : f.path.data.toList.length = i := by rw [h2, List.length_take]; omega
    rw [hl]
    exact ⟨⟨hi, h2.symm⟩, h1⟩
  · rintro ⟨f, hf, g, hg, ⟨h1, h2⟩, h3⟩
    exact ⟨g, hg, f.path.data.toList.length, h1, h3, f, hf, h2.symm⟩
/-! The directories of a path. -/
def upF (p : List UInt8) : Nat → Nat
  | 0 => 0
  | m + 1 => if p.getD m 0 = 47 then m + 1 else upF p m
theorem upF_le (p : List UInt8) : ∀ n, upF p n ≤ n
  | 0 => Nat.le_refl _
  | n + 1 => by
    rw [upF]; split
    · exact Nat.le_refl _
    · exact Nat.le_succ_of_le (upF_le p n)
theorem dirEnds_up (p : List UInt8) : ∀ n, dirEnds p n = upF p n :: (if upF p n = 0 then [] else dirEnds p (upF p n - 1))
  | 0 => rfl
  | n + 1 => by
    rw [dirEnds, upF]
    split
    · simp
    · exact dirEnds_up p n
theorem upF_sl (p : List UInt8) : ∀ n, upF p n = 0 ∨ p.getD (upF p n - 1) 0 = 47
  | 0 => .inl rfl
  | n + 1 => by
    rw [upF]; split
    · rename_i h; exact .inr h
    · exact upF_sl p n
end Go.Proofs.YtidkpnabdfiilaaGreatDoor
