/- Approvals in memory; the reference's Same, Great, SameChanges; the law's great. -/
import Derived.Test.YtidkpnabdfiilaaGreatDoorAvQ
import Derived.BigQuiet
namespace Go.Proofs.YtidkpnabdfiilaaGreatDoor
open Go.RowKit

def apprCell (c : Appr) : List Value := [.string c.who, .int .i64 c.change, .string c.saw]
def apprCells (cs : List Appr) : List Value := cs.flatMap apprCell
def apprT (c : Appr) : List Tree := [strT c.who, .leaf (.int .i64 c.change), strT c.saw]
def apprsT (cs : List Appr) : Tree := rowT 3 apprT cs
def apprV (c : Appr) : Value := .agg #[.string c.who, .int .i64 c.change, .string c.saw]
theorem apprCells_snoc (a : List Appr) (c : Appr) : apprCells (a ++ [c]) = apprCells a ++ apprCell c := by simp [apprCells]
theorem apprCells_len (a : List Appr) : (apprCells a).length = a.length * 3 := by
  induction a with
  | nil => rfl
  | cons c a ih =>
    have : apprCells (c :: a) = apprCell c ++ apprCells a := rfl
    rw [this, List.length_append, ih]; simp [apprCell]; omega
theorem readsL_apprs {w : World} {X : List Nat} : ∀ {cs : List Appr} {xs : List Value}, ReadsL w X (cs.flatMap apprT) xs ↔ xs = apprCells cs
  | [], xs => by simp [ReadsL, apprCells]
  | c :: cs, xs => by
    constructor
    · intro h
      obtain ⟨x1, r1, rfl, h1, h2⟩ := ReadsL.inv (show ReadsL w X (strT c.who :: .leaf (.int .i64 c.change) :: strT c.saw :: cs.flatMap apprT) xs from h)
      obtain ⟨x2, r2, rfl, h3, h4⟩ := ReadsL.inv h2
      obtain ⟨x3, r3, rfl, h5, h6⟩ := ReadsL.inv h4
      rw [Reads.leafv h1, Reads.leafv h3, Reads.leafv h5, readsL_apprs.1 h6]; rfl
    · rintro rfl
      exact ReadsL.cons (Reads.leaf' _ _ _) (ReadsL.cons (Reads.leaf' _ _ _) (ReadsL.cons (Reads.leaf' _ _ _) (readsL_apprs.2 rfl)))
theorem apprs_val {w : World} {X : List Nat} {cs : List Appr} {v : Value} (h : Reads w X (apprsT cs) v) : ∃ (a : Option Addr) (cap : Nat), v = .slice a cs.length cap ∧ cs.length ≤ cap ∧ cap ≤ 9223372036854775807 := h.val
theorem reads_apprs {w : World} {cs : List Appr} {v : Value} : Reads w [] (apprsT cs) v ↔ IsRow w 3 v cs.length (apprCells cs) := by
  constructor
  · intro h
    obtain ⟨xs, h1, _, h3⟩ := Reads.toRow h
    rwa [readsL_apprs.1 h3] at h1
  · intro h
    exact Reads.ofRow h (fun _ _ _ h => by cases h) (readsL_apprs.2 rfl)
theorem apprs_elem {w : World} {X : List Nat} {cs : List Appr} {a : Option Addr} {cap : Nat} (h : Reads w X (apprsT cs) (.slice a cs.length cap)) {i : Nat} {c : Appr} (hi : cs[i]? = some c) :
    ∃ b o : Nat, a = some ⟨b, o, none⟩ ∧ b < w.heap.size ∧ w.cell? ⟨b, o + i * 3, none⟩ = some (.string c.who) ∧ w.cell? ⟨b, o + i * 3 + 1, none⟩ = some (.int .i64 c.change) ∧ w.cell? ⟨b, o + i * 3 + 2, none⟩ = some (.string c.saw) := by
  obtain ⟨b, o, rfl, hb, hc⟩ := Reads.elem (f := apprT) (fun _ => rfl) h hi
  obtain ⟨u0, e0, d0⟩ := hc 0 _ rfl
  obtain ⟨u1, e1, d1⟩ := hc 1 _ rfl
  obtain ⟨u2, e2, d2⟩ := hc 2 _ rfl
  rw [Reads.leafv d0] at e0
  rw [Reads.leafv d1] at e1
  rw [Reads.leafv d2] at e2
  exact ⟨b, o, rfl, hb, e0, e1, e2⟩
theorem infoAppr : (Tryz.prog.info? 51).map (fun i => (i.zero, i.size, i.bytes)) = some (some (.agg #[.string ⟨#[]⟩, .int .i64 0, .string ⟨#[]⟩]), 3, 40) := by kernel_rfl
/-- A slice of approvals that the call owns. -/
def OwnA (w : World) (base : Nat) (v : Value) (cs : List Appr) : Prop := w.ownsRow base 51 3 v cs.length (apprCells cs)
theorem OwnA.reads {w : World} {base : Nat} {v : Value} {cs : List Appr} (h : OwnA w base v cs) : Reads w [] (apprsT cs) v := reads_apprs.2 (owns_row h)
theorem OwnA.below {w w' : World} {base : Nat} {v : Value} {cs : List Appr} (h : OwnA w base v cs) (m : Below w.heap.size w w') : OwnA w' base v cs := owns_below h m
theorem OwnA.new (w : World) (base : Nat) (hb : base ≤ w.heap.size) : OwnA (w.alloc (.cells #[] 51)) base (.slice (some ⟨w.heap.size, 0, none⟩) 0 0) [] :=
  ⟨rfl, .inr ⟨w.heap.size, 0, #[], rfl, hb, World.alloc_heap_new _ _, Nat.le_refl _, Nat.zero_le _, rfl, rfl⟩⟩
theorem cell_three (w : World) (x y z : Value) (t : TypeId) {B : Nat} (hB : w.heap.size = B) : ∀ j s, [x, y, z][j]? = some s → (w.alloc (.cells #[x, y, z] t)).cell? ((⟨B, 0, none⟩ : Addr).add j) = some s := by
  subst hB
  intro j s h
  have hB := CBox.new w t #[x, y, z]
  match j, h with
  | 0, h => cases h; exact hB.cell (i := 0) rfl
  | 1, h => cases h; exact hB.cell (i := 1) rfl
  | 2, h => cases h; exact hB.cell (i := 2) rfl
  | (j + 3), h => cases h

/-! Equality. -/
def sameA (a b : Appr) : Bool := (a.who.toList == b.who.toList) && ((a.change == b.change) && (a.saw.toList == b.saw.toList))
def sameCh (a b : FChg) : Bool := (a.path.toList == b.path.toList) && ((a.hasOld == b.hasOld) && ((a.hasNew == b.hasNew) && ((a.old.toList == b.old.toList) && (a.fresh.toList == b.fresh.toList))))
theorem beq_bytes (a b : ByteArray) : (a.toList == b.toList) = true ↔ a = b := by
  rw [beq_iff_eq, tl, tl]
  exact ⟨bytes_eq, fun e => by rw [e]⟩
theorem sameA_iff (a b : Appr) : sameA a b = true ↔ a = b := by
  unfold sameA
  rw [Bool.and_eq_true, Bool.and_eq_true, beq_bytes, beq_bytes, beq_iff_eq]
  constructor
  · rintro ⟨h1, h2, h3⟩; cases a; cases b; simp only at h1 h2 h3; rw [h1, h2, h3]
  · rintro rfl; exact ⟨rfl, rfl, rfl⟩
theorem sameCh_iff (a b : FChg) : sameCh a b = true ↔ a = b := by
  unfold sameCh
  rw [Bool.and_eq_true, Bool.and_eq_true, Bool.and_eq_true, Bool.and_eq_true, beq_bytes, beq_bytes, beq_bytes, beq_iff_eq, beq_iff_eq]
  constructor
  · rintro ⟨h1, h2, h3, h4, h5⟩; cases a; cases b; simp only at h1 h2 h3 h4 h5; rw [h1, h2, h3, h4, h5]
  · rintro rfl; exact ⟨rfl, rfl, rfl, rfl, rfl⟩
theorem run_eqAppr (a b : Appr) (w : World) : (Op.equalIn 10000 51 (.agg #[.string a.who, .int .i64 a.change, .string a.saw]) (.agg #[.string b.who, .int .i64 b.change, .string b.saw])).run Tryz.prog w = .ok (sameA a b) w := by
  unfold sameA
  cases h1 : (a.who.toList == b.who.toList) <;> cases h2 : (a.change == b.change) <;> cases h3 : (a.saw.toList == b.saw.toList) <;> simp [go_sem, h1, h2, h3]
theorem run_eqChg (a b : FChg) (w : World) : (Op.equalIn 10000 40 (.agg #[.string a.path, .bool a.hasOld, .bool a.hasNew, .string a.old, .string a.fresh]) (.agg #[.string b.path, .bool b.hasOld, .bool b.hasNew, .string b.old, .string b.fresh])).run Tryz.prog w = .ok (sameCh a b) w := by
  unfold sameCh
  cases h1 : (a.path.toList == b.path.toList) <;> cases h2 : (a.hasOld == b.hasOld) <;> cases h3 : (a.hasNew == b.hasNew) <;> cases h4 : (a.old.toList == b.old.toList) <;> cases h5 : (a.fresh.toList == b.fresh.toList) <;> simp [go_sem, h1, h2, h3, h4, h5]
end Go.Proofs.YtidkpnabdfiilaaGreatDoor
