/- Slices in memory: a row of cells read element by element; what a call leaves as it was. No program in sight. -/
import Derived.Test.YtgcmekpfhagnbaaDoorBase
import Derived.RangeFuncNested
namespace Go.Proofs.YtgcmekpfhagnbaaDoor
open Go.RowKit

/-- The slice v has n elements of 'size' cells each; its cells, one after another, are xs. -/
def IsRow (w : World) (size : Nat) (v : Value) (n : Nat) (xs : List Value) : Prop :=
  xs.length = n * size ∧ ∃ (a : Option Addr) (cap : Nat), v = .slice a n cap ∧ n ≤ cap ∧ cap ≤ maxLen ∧
    (0 < n → ∃ b o : Nat, a = some ⟨b, o, none⟩ ∧ b < w.heap.size ∧ ∀ j u, xs[j]? = some u → w.cell? ⟨b, o + j, none⟩ = some u)

/-- The slice of strings v reads as ss. -/
def Strs (w : World) (v : Value) (ss : List ByteArray) : Prop := IsRow w 1 v ss.length (ss.map .string)

/-- What a call leaves: the blocks that were there, but for those of X, are as they were. -/
structure Mod (X : List Nat) (w w' : World) : Prop where
  os : w'.os = w.os
  tape : w'.tape = w.tape
  output : w'.output = w.output
  size : w.heap.size ≤ w'.heap.size
  block : ∀ k, k < w.heap.size → k ∉ X → w'.heap[k]? = w.heap[k]?

theorem Mod.refl (X : List Nat) (w : World) : Mod X w w := ⟨rfl, rfl, rfl, Nat.le_refl _, fun _ _ _ => rfl⟩
theorem Mod.trans {X : List Nat} {a b c : World} (h : Mod X a b) (k : Mod X b c) : Mod X a c :=
  ⟨k.os.trans h.os, k.tape.trans h.tape, k.output.trans h.output, Nat.le_trans h.size k.size, fun i hi hx => (k.block i (Nat.lt_of_lt_of_le hi h.size) hx).trans (h.block i hi hx)⟩
theorem Mod.of {X : List Nat} {w w' : World} (h : Below w.heap.size w w') : Mod X w w' := ⟨h.os, h.tape, h.output, h.size, fun k hk _ => h.block k hk⟩
theorem Mod.below {w w' : World} (h : Mod [] w w') : Below w.heap.size w w' := ⟨h.os, h.tape, h.output, h.size, fun k hk => h.block k hk (by simp)⟩
theorem Mod.mono {X Y : List Nat} {w w' : World} (h : Mod X w w') (hs : ∀ k, k ∈ X → k ∈ Y) : Mod Y w w' := ⟨h.os, h.tape, h.output, h.size, fun k hk hy => h.block k hk (fun hx => hy (hs k hx))⟩
theorem Mod.upto {X : List Nat} {B : Nat} {w w' : World} (h : Mod X w w') (hB : B ≤ w.heap.size) (hX : ∀ k, k ∈ X → B ≤ k) : Below B w w' :=
  ⟨h.os, h.tape, h.output, h.size, fun k hk => h.block k (by omega) (fun hx => by have := hX k hx; omega)⟩
theorem Mod.setCell {X : List Nat} {a w : World} (h : Mod X a w) {p : Addr} (hp : p.block ∈ X) (u : Value) : Mod X a (w.setCell p u) :=
  h.trans ⟨rfl, rfl, rfl, by simp [World.setCell], fun k _ hx => Below.heap_setCell _ _ _ _ (fun e => hx (e ▸ hp))⟩
theorem Mod.alloc {X : List Nat} {a w : World} (h : Mod X a w) (o : Obj) : Mod X a (w.alloc o) := h.trans (Mod.of (qalloc w o))
theorem Mod.drew {X : List Nat} {a w : World} (h : Mod X a w) : Mod X a w.drew := ⟨h.os, h.tape, h.output, h.size, h.block⟩
theorem Mod.cell {X : List Nat} {w w' : World} (h : Mod X w w') {b o : Nat} {v : Value} (hc : w.cell? ⟨b, o, none⟩ = some v) (hb : b ∉ X) : w'.cell? ⟨b, o, none⟩ = some v := by
  obtain ⟨ob, ho, _⟩ := cells_of_cell hc
  exact (World.cell?_of_block (w := w) (h.block b (Array.getElem?_eq_some_iff.1 ho).1 hb)).trans hc
theorem Mod.heap {X : List Nat} {w w' : World} (h : Mod X w w') {b : Nat} {ob : Obj} (hc : w.heap[b]? = some ob) (hb : b ∉ X) : w'.heap[b]? = some ob :=
  (h.block b (Array.getElem?_eq_some_iff.1 hc).1 hb).trans hc

theorem Mod.trans' {X : List Nat} {a b c : World} (h : Mod X a b) {row : Option Nat} (g : b.grownBy c row) (hr : ∀ k, row = some k → a.heap.size ≤ k) : Mod X a c :=
  ⟨g.os.trans h.os, g.tape.trans h.tape, g.output.trans h.output, Nat.le_trans h.size g.size, fun i hi hx => (g.block i (Nat.lt_of_lt_of_le hi h.size) (fun e => by have := hr i e.symm; omega)).trans (h.block i hi hx)⟩
theorem IsRow.len {w : World} {size : Nat} {v : Value} {n : Nat} {xs : List Value} (h : IsRow w size v n xs) : xs.length = n * size := h.1
theorem IsRow.mod {w w' : World} {size : Nat} {v : Value} {n : Nat} {xs : List Value} {X : List Nat} (h : IsRow w size v n xs) (m : Mod X w w') (hx : ∀ b, v.ownBlock = some b → b ∉ X) : IsRow w' size v n xs := by
  obtain ⟨hl, a, cap, rfl, h1, h2, h3⟩ := h
  refine ⟨hl, a, cap, rfl, h1, h2, fun hn => ?_⟩
  obtain ⟨b, o, rfl, hb, hc⟩ := h3 hn
  exact ⟨b, o, rfl, Nat.lt_of_lt_of_le hb m.size, fun j u hj => m.cell (hc j u hj) (hx b rfl)⟩
theorem IsRow.below {w w' : World} {size : Nat} {v : Value} {n : Nat} {xs : List Value} (h : IsRow w size v n xs) (m : Below w.heap.size w w') : IsRow w' size v n xs :=
  h.mod (Mod.of (X := []) m) (by simp)
theorem Strs.mod {w w' : World} {v : Value} {ss : List ByteArray} {X : List Nat} (h : Strs w v ss) (m : Mod X w w') (hx : ∀ b, v.ownBlock = some b → b ∉ X) : Strs w' v ss := IsRow.mod h m hx
theorem Strs.below {w w' : World} {v : Value} {ss : List ByteArray} (h : Strs w v ss) (m : Below w.heap.size w w') : Strs w' v ss := IsRow.below h m
theorem Strs.nil (w : World) (a : Option Addr) (cap : Nat) (h : cap ≤ maxLen) : Strs w (.slice a 0 cap) [] := ⟨rfl, a, cap, rfl, Nat.zero_le _, h, fun h => absurd h (Nat.lt_irrefl _)⟩
theorem Strs.shape {w : World} {v : Value} {ss : List ByteArray} (h : Strs w v ss) : ∃ (a : Option Addr) (cap : Nat), v = .slice a ss.length cap ∧ ss.length ≤ cap ∧ cap ≤ maxLen ∧
    (∀ i, i < ss.length → ∃ b o : Nat, a = some ⟨b, o, none⟩ ∧ b < w.heap.size ∧ ∀ j, j < ss.length → w.cell? ⟨b, o + j, none⟩ = some (.string (ss.getD j ByteArray.empty))) := by
  obtain ⟨_, a, cap, rfl, h1, h2, h3⟩ := h
  refine ⟨a, cap, rfl, h1, h2, fun i hi => ?_⟩
  obtain ⟨b, o, rfl, hb, hc⟩ := h3 (by omega)
  refine ⟨b, o, rfl, hb, fun j hj => hc j _ ?_⟩
  rw [List.getElem?_map, List.getD_eq_getElem?_getD, List.getElem?_eq_getElem hj]; rfl
/-- A slice of the first i elements. -/
theorem Strs.take {w : World} {b o cap i : Nat} {ss : List ByteArray} (h : Strs w (.slice (some ⟨b, o, none⟩) ss.length cap) ss) (hi : i ≤ ss.length) : Strs w (.slice (some ⟨b, o, none⟩) i cap) (ss.take i) := by
  obtain ⟨_, a, cap', e, h1, h2, h3⟩ := h
  cases e
  refine ⟨by simp, some ⟨b, o, none⟩, cap, by rw [List.length_take, Nat.min_eq_left hi], by rw [List.length_take]; omega, h2, fun hn => ?_⟩
  obtain ⟨b', o', e, hb, hc⟩ := h3 (by rw [List.length_take] at hn; omega)
  cases e
  refine ⟨b, o, rfl, hb, fun j u hj => hc j u ?_⟩
  rw [List.map_take] at hj
  rw [List.getElem?_take] at hj
  split at hj
  · exact hj
  · cases hj
end Go.Proofs.YtgcmekpfhagnbaaDoor
