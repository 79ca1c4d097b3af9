/- The reader of owners.Parse: its state in memory, and what each step makes of it. The reader of owners.Parse: what a new rule, a new group and a new person make of its state. The reader of owners.Parse, plainly: which words fit where, and how great the rules become. -/
import Derived.Test.YtidkpnabdfiilaaGreatDoorQ11
import Derived.Test.YtidkpnabdfiilaaGreatDoorQ07
namespace Go.Proofs.YtidkpnabdfiilaaGreatDoor
open Go.RowKit

/-! Rows and data behind a change of objects that are no cells. -/
def NoCells (w : World) (row : Option Nat) : Prop := ∀ r, row = some r → ∃ o : Obj, w.heap[r]? = some o ∧ o.isCells = false
theorem cell_own {w w' : World} {row : Option Nat} (hg : w.grownBy w' row) (hr : NoCells w row) {a : Addr} {v : Value} (h : w.cell? a = some v) : w'.cell? a = some v := cell_kept h hg hr
theorem heap_own {w w' : World} {row : Option Nat} (hg : w.grownBy w' row) (hr : NoCells w row) {b : Nat} {cs : Array Value} {t : TypeId} {m : Nat × Nat} (h : w.heap[b]? = some (.cells cs t m)) : w'.heap[b]? = some (.cells cs t m) :=
  (hg.block b (Array.getElem?_eq_some_iff.1 h).1 (fun e => by
    obtain ⟨o, ho, hc⟩ := hr b e.symm
    rw [h] at ho; cases ho; cases hc)).trans h
theorem CBox.own {w w' : World} {row : Option Nat} (hg : w.grownBy w' row) (hr : NoCells w row) {B : Nat} {t : TypeId} {xs : Array Value} (h : CBox w B t xs) : CBox w' B t xs := heap_own hg hr h
theorem IsRow.own {w w' : World} {row : Option Nat} (hg : w.grownBy w' row) (hr : NoCells w row) {size : Nat} {v : Value} {n : Nat} {xs : List Value} (h : IsRow w size v n xs) : IsRow w' size v n xs := by
  obtain ⟨hl, a, cap, rfl, h1, h2, h3⟩ := h
  refine ⟨hl, a, cap, rfl, h1, h2, fun hn => ?_⟩
  obtain ⟨b, o, rfl, hb, hc⟩ := h3 hn
  exact ⟨b, o, rfl, Nat.lt_of_lt_of_le hb hg.size, fun j u hj => cell_own hg hr (hc j u hj)⟩
mutual
theorem Reads.own {w w' : World} {X : List Nat} {row : Option Nat} (hg : w.grownBy w' row) (hr : NoCells w row) : ∀ {d : Tree} {v : Value}, Reads w X d v → Reads w' X d v
  | .leaf _, _, h => by rw [Reads] at h ⊢; exact h
  | .row _ _ _, _, h => by
    rw [Reads] at h ⊢
    obtain ⟨xs, h1, h2, h3⟩ := h
    exact ⟨xs, h1.own hg hr, h2, ReadsL.own hg hr h3⟩
theorem ReadsL.own {w w' : World} {X : List Nat} {row : Option Nat} (hg : w.grownBy w' row) (hr : NoCells w row) : ∀ {ds : List Tree} {xs : List Value}, ReadsL w X ds xs → ReadsL w' X ds xs
  | [], _, h => by rw [ReadsL] at h ⊢; exact h
  | _ :: _, _, h => by
    rw [ReadsL] at h ⊢
    obtain ⟨x, rest, e, h1, h2⟩ := h
    exact ⟨x, rest, e, Reads.own hg hr h1, ReadsL.own hg hr h2⟩
end
theorem owns_own {w w' : World} {row : Option Nat} (hg : w.grownBy w' row) (hr : NoCells w row) {base : Nat} {e : TypeId} {size : Nat} {v : Value} {n : Nat} {xs : List Value} (h : w.ownsRow base e size v n xs) : w'.ownsRow base e size v n xs := by
  obtain ⟨h1, h2⟩ := h
  refine ⟨h1, ?_⟩
  rcases h2 with h2 | ⟨g, cap, cur, h3, h4, h5, h6⟩
  · exact .inl h2
  · exact .inr ⟨g, cap, cur, h3, h4, heap_own hg hr h5, h6⟩
/-- A cell of a row that the call owns is written. -/
theorem owns_set {w : World} {base : Nat} {e : TypeId} {size : Nat} {n : Nat} {g cap : Nat} {xs : List Value} (h : w.ownsRow base e size (.slice (some ⟨g, 0, none⟩) n cap) n xs) (j : Nat) (u : Value) :
    (w.setCell ⟨g, j, none⟩ u).ownsRow base e size (.slice (some ⟨g, 0, none⟩) n cap) n (xs.set j u) := by
  obtain ⟨h1, h2⟩ := h
  refine ⟨by simpa using h1, ?_⟩
  rcases h2 with ⟨h2, _⟩ | ⟨g', cap', cur, h3, h4, h5, h6, h7, h8, h9⟩
  · cases h2
  · cases h3
    refine .inr ⟨g, cap, cur.setIfInBounds j u, rfl, h4, heap_setCell_at h5 j u, h6, h7, by simpa using h8, ?_⟩
    rw [Array.toList_setIfInBounds, ← h9, List.take_set]
theorem owns_cell {w : World} {base : Nat} {e : TypeId} {size : Nat} {n : Nat} {g cap : Nat} {xs : List Value} (h : w.ownsRow base e size (.slice (some ⟨g, 0, none⟩) n cap) n xs) {j : Nat} {u : Value} (hj : xs[j]? = some u) :
    w.cell? ⟨g, j, none⟩ = some u ∧ w.frozen? ⟨g, j, none⟩ = false ∧ g < w.heap.size := by
  obtain ⟨h1, h2⟩ := h
  rcases h2 with ⟨h2, _⟩ | ⟨g', cap', cur, h3, h4, h5, h6, h7, h8, h9⟩
  · cases h2
  · cases h3
    refine ⟨?_, by simp [World.frozen?, h5], (Array.getElem?_eq_some_iff.1 h5).1⟩
    have : cur[j]? = some u := by
      rw [← h9, List.getElem?_take] at hj
      split at hj
      · rwa [← Array.getElem?_toList]
      · cases hj
    simp [World.cell?, h5, this]
/-- A row that is not empty lies in memory. -/
theorem owns_addr {w : World} {base : Nat} {e : TypeId} {size : Nat} {v : Value} {n : Nat} {xs : List Value} (h : w.ownsRow base e size v n xs) (hn : 0 < n) : ∃ g cap, v = .slice (some ⟨g, 0, none⟩) n cap ∧ n ≤ cap ∧ cap ≤ maxLen := by
  obtain ⟨h1, h2⟩ := h
  rcases h2 with ⟨h2, h3⟩ | ⟨g', cap', cur, h3, h4, h5, h6, h7, h8, h9⟩
  · omega
  · exact ⟨g', cap', h3, h6, h7⟩
theorem types_ne {w : World} {b c : Nat} {cs ds : Array Value} {t u : TypeId} {m k : Nat × Nat} (h1 : w.heap[b]? = some (.cells cs t m)) (h2 : w.heap[c]? = some (.cells ds u k)) (hne : t ≠ u) : b ≠ c := by
  rintro rfl
  rw [h1] at h2; cases h2; exact hne rfl
theorem owns_ne {w : World} {base base' : Nat} {e e' : TypeId} {size size' : Nat} {v v' : Value} {n n' : Nat} {xs xs' : List Value} (h : w.ownsRow base e size v n xs) (h' : w.ownsRow base' e' size' v' n' xs') (hne : e ≠ e') {b : Nat} (hb : v.ownBlock = some b) : b ∉ v'.ownBlock.toList := by
  intro hm
  obtain ⟨_, _, t1⟩ := owns_type h b hb
  obtain ⟨_, _, t2⟩ := owns_type h' b (by simpa using hm)
  exact types_ne t1 t2 hne rfl
theorem owns_neBox {w : World} {base : Nat} {e t : TypeId} {size : Nat} {v : Value} {n R : Nat} {xs : List Value} {ys : Array Value} (h : w.ownsRow base e size v n xs) (h' : CBox w R t ys) (hne : e ≠ t) {b : Nat} (hb : v.ownBlock = some b) : b ≠ R := by
  obtain ⟨_, _, t1⟩ := owns_type h b hb
  exact types_ne t1 h' hne

/-! The reader. -/
def nilS : Value := .slice none 0 0
/-- The groups of the last rule, and the last of them: slices that the call owns. -/
def GOwn (w : World) (base : Nat) (X : List Nat) (gv lv : Value) (gs : List (List ByteArray)) : Prop :=
  (gs = [] ∧ gv = nilS ∧ lv = nilS) ∨
  ∃ gi gl ys, gs = gi ++ [gl] ∧ w.ownsRow base 30 1 gv gs.length (ys ++ [lv]) ∧ ReadsL w X (gi.flatMap fun g => [strsT g]) ys ∧ w.ownsRow base 9 1 lv gl.length (gl.map .string)
def bl (v : Value) : List Nat := v.ownBlock.toList
def ROwn (w : World) (base : Nat) (rv : Value) (rs : List ORule) : Prop :=
  (rs = [] ∧ rv = nilS) ∨
  ∃ ri pre gs xs gv lv, rs = ri ++ [⟨pre, gs⟩] ∧ w.ownsRow base 75 2 rv rs.length (xs ++ [.string pre, gv]) ∧ ReadsL w (List.range base ++ (bl rv ++ bl gv ++ bl lv)) (ri.flatMap ruleT) xs ∧ GOwn w base (List.range base ++ (bl rv ++ bl gv ++ bl lv)) gv lv gs
/-- The reader at block R: the place, and the rules so far. -/
def RdI (w : World) (R base p : Nat) (rs : List ORule) : Prop := ∃ rv, CBox w R 121 #[.int .i64 p, rv] ∧ ROwn w base rv rs
/-- The types of the elements of the rows that the reader writes. -/
def RowTy (t : TypeId) : Prop := t = 75 ∨ t = 30 ∨ t = 9
/-- What the reader's steps leave as it was: all blocks below base but R, all that are no cells, all cells of other types. -/
structure Wr (R base : Nat) (w w' : World) : Prop where
  os : w'.os = w.os
  tape : w'.tape = w.tape
  output : w'.output = w.output
  size : w.heap.size ≤ w'.heap.size
  low : ∀ k, k < base → k ≠ R → w'.heap[k]? = w.heap[k]?
  keep : ∀ (k : Nat) (o : Obj), w.heap[k]? = some o → o.isCells = false → w'.heap[k]? = some o
  other : ∀ (k : Nat) (cs : Array Value) (t : TypeId) (m : Nat × Nat), w.heap[k]? = some (.cells cs t m) → ¬ RowTy t → k ≠ R → w'.heap[k]? = some (.cells cs t m)
theorem Wr.refl (R base : Nat) (w : World) : Wr R base w w := ⟨rfl, rfl, rfl, Nat.le_refl _, fun _ _ _ => rfl, fun _ _ h _ => h, fun _ _ _ _ h _ _ => h⟩
theorem Wr.trans {R base : Nat} {a b c : World} (h : Wr R base a b) (k : Wr R base b c) : Wr R base a c :=
  ⟨k.os.trans h.os, k.tape.trans h.tape, k.output.trans h.output, Nat.le_trans h.size k.size, fun i hi hx => (k.low i hi hx).trans (h.low i hi hx), fun i o hi hc => k.keep i o (h.keep i o hi hc) hc, fun i cs t m hi ht hR => k.other i cs t m (h.other i cs t m hi ht hR) ht hR⟩
theorem Wr.of {R base : Nat} {w w' : World} (h : Below w.heap.size w w') (hb : base ≤ w.heap.size) : Wr R base w w' :=
  ⟨h.os, h.tape, h.output, h.size, fun k hk _ => h.block k (by omega), fun k o hk _ => (h.block k (Array.getElem?_eq_some_iff.1 hk).1).trans hk, fun k _ _ _ hk _ _ => (h.block k (Array.getElem?_eq_some_iff.1 hk).1).trans hk⟩
theorem Wr.upto {R base B : Nat} {w w' : World} (h : Wr R base w w') (hB : B ≤ R) (hb : B ≤ base) : Below B w w' :=
  ⟨h.os, h.tape, h.output, h.size, fun k hk => h.low k (by omega) (by omega)⟩
theorem Wr.box {R base : Nat} {w w' : World} (h : Wr R base w w') {B : Nat} {t : TypeId} {xs : Array Value} (hx : CBox w B t xs) (h1 : B < base) (h2 : B ≠ R) : CBox w' B t xs := (h.low B h1 h2).trans hx
theorem Wr.keeps {R base B : Nat} {w w' : World} (h : Wr R base w w') : KeepsFrom B w w' := ⟨h.size, fun k o _ hk hc => h.keep k o hk hc⟩
/-- A cell of a block of cells is written. -/
theorem Wr.set {R base : Nat} (w : World) {g : Nat} {cs : Array Value} {t : TypeId} {m : Nat × Nat} (h : w.heap[g]? = some (.cells cs t m)) (hg : g = R ∨ (base ≤ g ∧ RowTy t)) (j : Nat) (u : Value) : Wr R base w (w.setCell ⟨g, j, none⟩ u) := by
  refine ⟨rfl, rfl, rfl, by simp [World.setCell], fun k hk hx => Below.heap_setCell _ _ _ _ (by show k ≠ g; omega), fun k o hk hc => ?_, fun k cs' t' m' hk ht hR => ?_⟩
  · rw [Below.heap_setCell _ _ _ _ (by show k ≠ g; rintro rfl; rw [h] at hk; cases hk; cases hc)]
    exact hk
  · rw [Below.heap_setCell _ _ _ _ (by show k ≠ g; rintro rfl; rw [h] at hk; cases hk; rcases hg with e | e; exact hR e; exact ht e.2)]
    exact hk
theorem Wr.grown {R base : Nat} {w w' : World} {base' : Nat} {e : TypeId} {size : Nat} {v : Value} {n : Nat} {xs : List Value} (h : w.ownsRow base' e size v n xs) (hg : w.grownBy w' v.ownBlock) (hb : base ≤ base') (hs : base ≤ w.heap.size) (he : RowTy e) : Wr R base w w' :=
  ⟨hg.os, hg.tape, hg.output, hg.size, fun k hk _ => hg.block k (by omega) (fun e => by have := owns_block h e.symm; omega),
   fun k o hk hc => (hg.block k (Array.getElem?_eq_some_iff.1 hk).1 (fun e => by
     obtain ⟨_, _, t⟩ := owns_type h k e.symm
     rw [t] at hk; cases hk; cases hc)).trans hk,
   fun k cs t' m hk ht _ => (hg.block k (Array.getElem?_eq_some_iff.1 hk).1 (fun e => by
     obtain ⟨_, _, t⟩ := owns_type h k e.symm
     rw [t] at hk; cases hk; exact ht he)).trans hk⟩
theorem Wr.alloc {R base : Nat} (w : World) (o : Obj) (hb : base ≤ w.heap.size) : Wr R base w (w.alloc o) := Wr.of (qalloc w o) hb

theorem GOwn.below {w w' : World} {base : Nat} {X : List Nat} {gv lv : Value} {gs : List (List ByteArray)} (h : GOwn w base X gv lv gs) (m : Below w.heap.size w w') : GOwn w' base X gv lv gs := by
  rcases h with h | ⟨gi, gl, ys, h1, h2, h3, h4⟩
  · exact .inl h
  · exact .inr ⟨gi, gl, ys, h1, owns_below h2 m, h3.below m, owns_below h4 m⟩
theorem GOwn.own {w w' : World} {row : Option Nat} (hg : w.grownBy w' row) (hr : NoCells w row) {base : Nat} {X : List Nat} {gv lv : Value} {gs : List (List ByteArray)} (h : GOwn w base X gv lv gs) : GOwn w' base X gv lv gs := by
  rcases h with h | ⟨gi, gl, ys, h1, h2, h3, h4⟩
  · exact .inl h
  · exact .inr ⟨gi, gl, ys, h1, owns_own hg hr h2, h3.own hg hr, owns_own hg hr h4⟩
theorem RdI.below {w w' : World} {R base p : Nat} {rs : List ORule} (h : RdI w R base p rs) (m : Below w.heap.size w w') : RdI w' R base p rs := by
  obtain ⟨rv, h0, h⟩ := h
  refine ⟨rv, h0.below m, ?_⟩
  rcases h with h | ⟨ri, pre, gs, xs, gv, lv, h1, h2, h3, h4⟩
  · exact .inl h
  · exact .inr ⟨ri, pre, gs, xs, gv, lv, h1, owns_below h2 m, h3.below m, h4.below m⟩
theorem RdI.own {w w' : World} {row : Option Nat} (hg : w.grownBy w' row) (hr : NoCells w row) {R base p : Nat} {rs : List ORule} (h : RdI w R base p rs) : RdI w' R base p rs := by
  obtain ⟨rv, h0, h⟩ := h
  refine ⟨rv, h0.own hg hr, ?_⟩
  rcases h with h | ⟨ri, pre, gs, xs, gv, lv, h1, h2, h3, h4⟩
  · exact .inl h
  · exact .inr ⟨ri, pre, gs, xs, gv, lv, h1, owns_own hg hr h2, h3.own hg hr, h4.own hg hr⟩
end Go.Proofs.YtidkpnabdfiilaaGreatDoor

namespace Go.Proofs.YtidkpnabdfiilaaGreatDoor
open Go.RowKit

theorem bl_some (g n c : Nat) : bl (.slice (some ⟨g, 0, none⟩) n c) = [g] := rfl
theorem bl_nil : bl nilS = [] := rfl
theorem bl_or {v v' : Value} {k : Nat} (h : v'.ownBlock = v.ownBlock ∨ v'.ownBlock = some k) : ∀ j, j ∈ bl v' → j ∈ bl v ∨ j = k := fun j hj => by
  rcases h with h | h
  · left; unfold bl at *; rwa [h] at hj
  · right; unfold bl at hj; rw [h] at hj; simpa using hj
def grpT (g : List ByteArray) : List Tree := [strsT g]
theorem GOwn.toT {w : World} {base : Nat} {X : List Nat} {rv gv lv : Value} {gs : List (List ByteArray)} {n : Nat} {xs : List Value} (h : GOwn w base X gv lv gs) (hX : ∀ k, k ∈ List.range base ++ (bl rv ++ bl gv ++ bl lv) → k ∈ X) (hr : w.ownsRow base 75 2 rv n xs) :
    OwnT w (List.range base ++ bl rv) base 30 1 grpT gv gs := by
  rcases h with ⟨rfl, rfl, rfl⟩ | ⟨gi, gl, ys, rfl, h2, h3, h4⟩
  · exact OwnT.nil _ _ _ _ _ _
  · refine ⟨ys ++ [lv], h2, ?_⟩
    rw [List.flatMap_append]
    refine ReadsL.append ?_ (h3.fewer (fun k hk => hX k (by simp [bl] at hk ⊢; grind)))
    refine ReadsL.cons (reads_strs.2 ⟨owns_row h4, fun _ b hb hm => ?_⟩) (ReadsL.nil _ _)
    have e1 := owns_ne h4 h2 (by decide) hb
    have e2 := owns_ne h4 hr (by decide) hb
    have e3 := owns_block h4 hb
    simp [bl] at hm e1 e2
    rcases hm with hm | hm | hm
    · exact e1 hm
    · omega
    · exact e2 hm
theorem ROwn.toT {w : World} {base : Nat} {rv : Value} {rs : List ORule} (h : ROwn w base rv rs) : OwnT w (List.range base) base 75 2 ruleT rv rs := by
  rcases h with ⟨rfl, rfl⟩ | ⟨ri, pre, gs, xs, gv, lv, rfl, h2, h3, h4⟩
  · exact OwnT.nil _ _ _ _ _ _
  · refine ⟨xs ++ [.string pre, gv], h2, ?_⟩
    rw [List.flatMap_append]
    refine ReadsL.append ?_ (h3.fewer (fun k hk => by simp [bl] at hk ⊢; grind))
    have hG := h4.toT (rv := rv) (fun k hk => hk) h2
    have hr : Reads w (List.range base ++ bl rv) (groupsT gs) gv := hG.reads (fun b hb hm => by
      obtain ⟨ys, hrow, _⟩ := hG
      have e2 := owns_ne hrow h2 (by decide) hb
      have e3 := owns_block hrow hb
      simp [bl] at hm e2
      rcases hm with hm | hm
      · omega
      · exact e2 hm)
    exact ReadsL.cons (Reads.leaf' _ _ _) (ReadsL.cons (hr.fewer (fun k hk => by simp [bl] at hk ⊢; grind)) (ReadsL.nil _ _))
theorem RdI.rules {w : World} {R base p : Nat} {rs : List ORule} (h : RdI w R base p rs) : ∃ rv, CBox w R 121 #[.int .i64 p, rv] ∧ Reads w (List.range base) (rulesT rs) rv := by
  obtain ⟨rv, h0, h1⟩ := h
  exact ⟨rv, h0, h1.toT.reads (fun b hb hm => by have := h1.toT.ge hb; simp at hm; omega)⟩
theorem RdI.place {w : World} {R base p : Nat} {rs : List ORule} (h : RdI w R base p rs) (hR : R < base) (q : Nat) : RdI (w.setCell ⟨R, 0, none⟩ (.int .i64 q)) R base q rs ∧ Wr R base w (w.setCell ⟨R, 0, none⟩ (.int .i64 q)) := by
  obtain ⟨rv, h0, h⟩ := h
  have M : Mod [R] w (w.setCell ⟨R, 0, none⟩ (.int .i64 q)) := (Mod.refl _ _).setCell (by simp) _
  refine ⟨⟨rv, h0.set 0 _, ?_⟩, Wr.set w h0 (.inl rfl) _ _⟩
  have far : ∀ {e : TypeId} {size : Nat} {v : Value} {n : Nat} {xs : List Value}, w.ownsRow base e size v n xs → (w.setCell ⟨R, 0, none⟩ (.int .i64 q)).ownsRow base e size v n xs := fun h => owns_mod h M (fun b hb hm => by have := owns_block h hb; simp at hm; omega)
  rcases h with h | ⟨ri, pre, gs, xs, gv, lv, h1, h2, h3, h4⟩
  · exact .inl h
  · refine .inr ⟨ri, pre, gs, xs, gv, lv, h1, far h2, h3.mod (M.mono (fun k hk => by simp at hk ⊢; omega)), ?_⟩
    rcases h4 with h4 | ⟨gi, gl, ys, k1, k2, k3, k4⟩
    · exact .inl h4
    · exact .inr ⟨gi, gl, ys, k1, far k2, k3.mod (M.mono (fun k hk => by simp at hk ⊢; omega)), far k4⟩

section
variable {w w1 : World} {R base p : Nat} {rs : List ORule} {rv v' : Value} {o : Obj}
theorem grown_mod (hg : (w.alloc o).grownBy w1 rv.ownBlock) : Mod (bl rv) w w1 := (Mod.of (qalloc w o)).trans (mod_of_grown hg)
theorem RdI.begin {xs : List Value} {pre : ByteArray} (h0 : CBox w R 121 #[.int .i64 p, rv]) (h1 : w.ownsRow base 75 2 rv rs.length xs) (h2 : ReadsL w (bl rv ++ List.range base) (rs.flatMap ruleT) xs)
    (ho : w1.ownsRow base 75 2 v' (rs.length + 1) (xs ++ [.string pre, nilS])) (hg : (w.alloc o).grownBy w1 rv.ownBlock) (hb : v'.ownBlock = rv.ownBlock ∨ v'.ownBlock = some (w.heap.size + 1)) (hbase : base ≤ w.heap.size) (hR : R < base) :
    CBox w1 R 121 #[.int .i64 p, rv] ∧ RdI (w1.setCell ⟨R, 1, none⟩ v') R base p (rs ++ [⟨pre, []⟩]) ∧ Wr R base w (w1.setCell ⟨R, 1, none⟩ v') := by
  have M := grown_mod hg
  have hRr : R ∉ bl rv := fun hm => by have := owns_block h1 (b := R) (by simpa [bl] using hm); omega
  have b1 := h0.mod M hRr
  have M1 : Mod [R] w1 (w1.setCell ⟨R, 1, none⟩ v') := (Mod.refl _ _).setCell (by simp) _
  have MM : Mod (bl rv ++ List.range base) w (w1.setCell ⟨R, 1, none⟩ v') := (M.mono (fun k hk => by simp; exact .inl hk)).trans (M1.mono (fun k hk => by simp at hk ⊢; omega))
  refine ⟨b1, ⟨v', b1.set 1 _, .inr ⟨rs, pre, [], xs, nilS, nilS, rfl, ?_, ?_, .inl ⟨rfl, rfl, rfl⟩⟩⟩, ?_⟩
  · rw [List.length_append]
    exact owns_mod ho M1 (fun b hb' hm => by have := owns_block ho hb'; simp at hm; omega)
  · refine ((h2.more (k := w.heap.size + 1) (by omega)).mod (MM.mono (fun k hk => List.mem_cons_of_mem _ hk))).fewer (fun k hk => ?_)
    have hk' := bl_or hb k
    simp [bl_nil] at hk ⊢
    grind
  · exact ((Wr.alloc w o hbase).trans (Wr.grown (h1.alloc o) hg (Nat.le_refl _) (by simp; omega) (.inl rfl))).trans (Wr.set w1 b1 (.inl rfl) _ _)
theorem RdI.group {ri : List ORule} {pre : ByteArray} {gs : List (List ByteArray)} {xs ys : List Value} {gv lv : Value} {g cap : Nat}
    (h0 : CBox w R 121 #[.int .i64 p, .slice (some ⟨g, 0, none⟩) (ri.length + 1) cap]) (h1 : w.ownsRow base 75 2 (.slice (some ⟨g, 0, none⟩) (ri.length + 1) cap) (ri.length + 1) (xs ++ [.string pre, gv]))
    (h2 : ReadsL w (List.range base ++ ([g] ++ bl gv ++ bl lv)) (ri.flatMap ruleT) xs) (h3 : w.ownsRow base 30 1 gv gs.length ys) (h4 : ReadsL w (bl gv ++ (List.range base ++ [g])) (gs.flatMap grpT) ys)
    (ho : w1.ownsRow base 30 1 v' (gs.length + 1) (ys ++ [nilS])) (hg : (w.alloc o).grownBy w1 gv.ownBlock) (hb : v'.ownBlock = gv.ownBlock ∨ v'.ownBlock = some (w.heap.size + 1)) (hbase : base ≤ w.heap.size) (hR : R < base) :
    (w1.cell? ⟨g, ri.length * 2 + 1, none⟩ = some gv ∧ w1.frozen? ⟨g, ri.length * 2 + 1, none⟩ = false ∧ g < w1.heap.size) ∧ RdI (w1.setCell ⟨g, ri.length * 2 + 1, none⟩ v') R base p (ri ++ [⟨pre, gs ++ [[]]⟩]) ∧ Wr R base w (w1.setCell ⟨g, ri.length * 2 + 1, none⟩ v') := by
  have M := grown_mod hg
  have hlx : xs.length = ri.length * 2 := by have := h1.1; simp at this; omega
  have hgR : g ≠ R := by have := owns_block h1 (b := g) rfl; omega
  have hgg : g ∉ bl gv := owns_ne h1 h3 (by decide) rfl
  have hRg : R ∉ bl gv := fun hm => by have := owns_block h3 (b := R) (by simpa [bl] using hm); omega
  have b1 := h0.mod M hRg
  have r1 := owns_mod h1 M (fun b hb' hm => by cases hb'; exact hgg hm)
  have M1 : Mod [g] w1 (w1.setCell ⟨g, ri.length * 2 + 1, none⟩ v') := (Mod.refl _ _).setCell (by simp) _
  have MM : Mod (bl gv ++ [g]) w (w1.setCell ⟨g, ri.length * 2 + 1, none⟩ v') := (M.mono (fun k hk => by simp; exact .inl hk)).trans (M1.mono (fun k hk => by simp at hk ⊢; exact .inr hk))
  have hset : (xs ++ [Value.string pre, gv]).set (ri.length * 2 + 1) v' = xs ++ [.string pre, v'] := by
    rw [List.set_append_right _ _ (by omega), hlx]; simp
  have hcell := owns_cell r1 (j := ri.length * 2 + 1) (u := gv) (by rw [List.getElem?_append_right (by omega), hlx]; simp)
  obtain ⟨cur, m, hblk⟩ := owns_type r1 g rfl
  have hfew : ∀ {X : List Nat}, (∀ k, k ∈ List.range base ++ ([g] ++ bl gv) → k ∈ X) → ∀ k, k ∈ List.range base ++ (bl (.slice (some ⟨g, 0, none⟩) (ri.length + 1) cap) ++ bl v' ++ bl nilS) → k ∈ (w.heap.size + 1) :: X := fun {X} hX k hk => by
    have hX' := hX k
    have hk' := bl_or hb k
    simp [bl_nil, bl_some] at hk hX' ⊢
    grind
  refine ⟨hcell, ⟨_, b1.mod M1 (by simpa using fun e => hgR e.symm), .inr ⟨ri, pre, gs ++ [[]], xs, v', nilS, rfl, ?_, ?_, .inr ⟨gs, [], ys, rfl, ?_, ?_, World.ownsRow_nil _ _ _ _⟩⟩⟩, ?_⟩
  · have := owns_set r1 (ri.length * 2 + 1) v'
    rw [hset] at this
    simpa using this
  · exact ((h2.more (k := w.heap.size + 1) (by omega)).mod (MM.mono (fun k hk => by simp [bl] at hk ⊢; grind))).fewer (hfew (fun k hk => by simp [bl] at hk ⊢; grind))
  · rw [List.length_append]
    exact owns_mod ho M1 (fun b hb' hm => by
      have e := owns_ne ho r1 (by decide) hb'
      simp [Value.ownBlock] at e hm
      omega)
  · exact ((h4.more (k := w.heap.size + 1) (by omega)).mod (MM.mono (fun k hk => by simp [bl] at hk ⊢; grind))).fewer (hfew (fun k hk => by simp [bl] at hk ⊢; grind))
  · exact ((Wr.alloc w o hbase).trans (Wr.grown (h3.alloc o) hg (Nat.le_refl _) (by simp; omega) (.inr (.inl rfl)))).trans (Wr.set w1 hblk (.inr ⟨owns_block h1 rfl, .inl rfl⟩) _ _)
theorem RdI.person {ri : List ORule} {pre s : ByteArray} {gi : List (List ByteArray)} {gl : List ByteArray} {xs ys : List Value} {lv : Value} {g cap gg gcap : Nat}
    (h0 : CBox w R 121 #[.int .i64 p, .slice (some ⟨g, 0, none⟩) (ri.length + 1) cap]) (h1 : w.ownsRow base 75 2 (.slice (some ⟨g, 0, none⟩) (ri.length + 1) cap) (ri.length + 1) (xs ++ [.string pre, .slice (some ⟨gg, 0, none⟩) (gi.length + 1) gcap]))
    (h2 : ReadsL w (List.range base ++ ([g] ++ [gg] ++ bl lv)) (ri.flatMap ruleT) xs) (h3 : w.ownsRow base 30 1 (.slice (some ⟨gg, 0, none⟩) (gi.length + 1) gcap) (gi.length + 1) (ys ++ [lv])) (h4 : ReadsL w (List.range base ++ ([g] ++ [gg] ++ bl lv)) (gi.flatMap fun g => [strsT g]) ys)
    (h5 : w.ownsRow base 9 1 lv gl.length (gl.map .string))
    (ho : w1.ownsRow base 9 1 v' (gl.length + 1) (gl.map .string ++ [.string s])) (hg : (w.alloc o).grownBy w1 lv.ownBlock) (hb : v'.ownBlock = lv.ownBlock ∨ v'.ownBlock = some (w.heap.size + 1)) (hbase : base ≤ w.heap.size) (hR : R < base) :
    (w1.cell? ⟨gg, gi.length, none⟩ = some lv ∧ w1.frozen? ⟨gg, gi.length, none⟩ = false ∧ gg < w1.heap.size) ∧ RdI (w1.setCell ⟨gg, gi.length, none⟩ v') R base p (ri ++ [⟨pre, gi ++ [gl ++ [s]]⟩]) ∧ Wr R base w (w1.setCell ⟨gg, gi.length, none⟩ v') := by
  have M := grown_mod hg
  have hly : ys.length = gi.length := by have := h3.1; simp at this; omega
  have hgR : gg ≠ R := by have := owns_block h3 (b := gg) rfl; omega
  have hgl : g ∉ bl lv := owns_ne h1 h5 (by decide) rfl
  have hggl : gg ∉ bl lv := owns_ne h3 h5 (by decide) rfl
  have hggg : gg ≠ g := by have := owns_ne h3 h1 (by decide) (b := gg) rfl; simpa [Value.ownBlock] using fun e => this (by simp [Value.ownBlock, e])
  have hRl : R ∉ bl lv := fun hm => by have := owns_block h5 (b := R) (by simpa [bl] using hm); omega
  have b1 := h0.mod M hRl
  have r1 := owns_mod h1 M (fun b hb' hm => by cases hb'; exact hgl hm)
  have r3 := owns_mod h3 M (fun b hb' hm => by cases hb'; exact hggl hm)
  have M1 : Mod [gg] w1 (w1.setCell ⟨gg, gi.length, none⟩ v') := (Mod.refl _ _).setCell (by simp) _
  have MM : Mod (bl lv ++ [gg]) w (w1.setCell ⟨gg, gi.length, none⟩ v') := (M.mono (fun k hk => by simp; exact .inl hk)).trans (M1.mono (fun k hk => by simp at hk ⊢; exact .inr hk))
  have hset : (ys ++ [lv]).set gi.length v' = ys ++ [v'] := by
    rw [List.set_append_right _ _ (by omega), hly]; simp
  have hcell := owns_cell r3 (j := gi.length) (u := lv) (by rw [List.getElem?_append_right (by omega), hly]; simp)
  obtain ⟨cur, m, hblk⟩ := owns_type r3 gg rfl
  have hfew : ∀ k, k ∈ List.range base ++ (bl (.slice (some ⟨g, 0, none⟩) (ri.length + 1) cap) ++ bl (.slice (some ⟨gg, 0, none⟩) (gi.length + 1) gcap) ++ bl v') → k ∈ (w.heap.size + 1) :: (List.range base ++ ([g] ++ [gg] ++ bl lv)) := fun k hk => by
    have hk' := bl_or hb k
    simp [bl_some] at hk ⊢
    grind
  refine ⟨hcell, ⟨_, b1.mod M1 (by simpa using fun e => hgR e.symm), .inr ⟨ri, pre, gi ++ [gl ++ [s]], xs, .slice (some ⟨gg, 0, none⟩) (gi.length + 1) gcap, v', rfl, ?_, ?_, .inr ⟨gi, gl ++ [s], ys, rfl, ?_, ?_, ?_⟩⟩⟩, ?_⟩
  · have := owns_mod r1 M1 (fun b hb' hm => by cases hb'; simp at hm; exact hggg hm.symm)
    simpa using this
  · exact ((h2.more (k := w.heap.size + 1) (by omega)).mod (MM.mono (fun k hk => by simp [bl] at hk ⊢; grind))).fewer hfew
  · have := owns_set r3 gi.length v'
    rw [hset] at this
    simpa using this
  · exact ((h4.more (k := w.heap.size + 1) (by omega)).mod (MM.mono (fun k hk => by simp [bl] at hk ⊢; grind))).fewer hfew
  · rw [List.length_append, List.map_append]
    exact owns_mod ho M1 (fun b hb' hm => by
      have e := owns_ne ho r3 (by decide) hb'
      simp [Value.ownBlock] at e hm
      omega)
  · exact ((Wr.alloc w o hbase).trans (Wr.grown (h5.alloc o) hg (Nat.le_refl _) (by simp; omega) (.inr (.inr rfl)))).trans (Wr.set w1 hblk (.inr ⟨owns_block h3 rfl, .inr (.inl rfl)⟩) _ _)
end
end Go.Proofs.YtidkpnabdfiilaaGreatDoor

namespace Go.Proofs.YtidkpnabdfiilaaGreatDoor

theorem addGroup_snoc (ri : List ORule) (pre : ByteArray) (gs : List (List ByteArray)) : addGroup (ri ++ [⟨pre, gs⟩]) = ri ++ [⟨pre, gs ++ [[]]⟩] := modLast_snoc _ _ _
theorem addPerson_snoc (s : ByteArray) (ri : List ORule) (pre : ByteArray) (gi : List (List ByteArray)) (gl : List ByteArray) : addPerson s (ri ++ [⟨pre, gi ++ [gl]⟩]) = ri ++ [⟨pre, gi ++ [gl ++ [s]]⟩] := by
  unfold addPerson
  rw [modLast_snoc]
  simp only []
  rw [modLast_snoc]
theorem eqL {s : ByteArray} {l : List UInt8} {b : Bool} (h : (s.toList == l) = b) : (s.data.toList = l) ↔ b = true := by
  rw [tl] at h
  rw [← h, beq_iff_eq]
section
variable {rs : List ORule} {s : ByteArray}
theorem readW_all (h : (s.toList == [97, 108, 108]) = true) : readW 0 rs s = some (2, rs ++ [⟨⟨#[]⟩, []⟩]) := by
  unfold readW; rw [if_pos ⟨rfl, (eqL h).2 rfl⟩]
theorem readW_prefix (h1 : (s.toList == [97, 108, 108]) = false) (h : (s.toList == [112, 114, 101, 102, 105, 120]) = true) : readW 0 rs s = some (1, rs) := by
  unfold readW; rw [if_neg (fun c => by have := (eqL h1).1 c.2; cases this), if_pos ⟨rfl, (eqL h).2 rfl⟩]
theorem readW_none0 (h1 : (s.toList == [97, 108, 108]) = false) (h : (s.toList == [112, 114, 101, 102, 105, 120]) = false) : readW 0 rs s = none := by
  unfold readW; rw [if_neg (fun c => by have := (eqL h1).1 c.2; cases this), if_neg (fun c => by have := (eqL h).1 c.2; cases this), if_neg (by simp), if_neg (by simp), if_neg (by simp), if_neg (by simp)]
theorem readW_pre (h : preS s = true) : readW 1 rs s = some (2, rs ++ [⟨s, []⟩]) := by
  unfold readW; rw [if_neg (by simp), if_neg (by simp), if_pos ⟨rfl, h⟩]
theorem readW_none1 (h : preS s = false) : readW 1 rs s = none := by
  unfold readW; rw [if_neg (by simp), if_neg (by simp), if_neg (fun c => by have := c.2; rw [show preB s.data.toList = false from h] at this; cases this), if_neg (by simp), if_neg (by simp), if_neg (by simp)]
theorem readW_group {p : Nat} (hp : p = 2 ∨ p = 4) (h : (s.toList == [103, 114, 111, 117, 112]) = true) : readW p rs s = some (3, addGroup rs) := by
  unfold readW; rw [if_neg (by omega), if_neg (by omega), if_neg (by omega), if_pos ⟨hp, (eqL h).2 rfl⟩]
theorem readW_none2 (h : (s.toList == [103, 114, 111, 117, 112]) = false) : readW 2 rs s = none := by
  unfold readW; rw [if_neg (by simp), if_neg (by simp), if_neg (by simp), if_neg (fun c => by have := (eqL h).1 c.2; cases this), if_neg (by simp), if_neg (by simp)]
theorem readW_person {p : Nat} (hp : p = 3 ∨ p = 4) (hg : p = 4 → (s.toList == [103, 114, 111, 117, 112]) = false) (h : personS s = true) : readW p rs s = some (4, addPerson s rs) := by
  unfold readW; rw [if_neg (by omega), if_neg (by omega), if_neg (by omega), if_neg (fun c => by have := (eqL (hg (by omega))).1 c.2; cases this), if_pos ⟨hp, h⟩]
theorem readW_none3 (h : personS s = false) : readW 3 rs s = none := by
  unfold readW; rw [if_neg (by simp), if_neg (by simp), if_neg (by simp), if_neg (by simp), if_neg (fun c => by have := c.2; rw [show personB s.data.toList = false from h] at this; cases this), if_neg (by simp)]
theorem readW_semi (hg : (s.toList == [103, 114, 111, 117, 112]) = false) (hp : personS s = false) (h : (s.toList == [59]) = true) : readW 4 rs s = some (0, rs) := by
  unfold readW; rw [if_neg (by simp), if_neg (by simp), if_neg (by simp), if_neg (fun c => by have := (eqL hg).1 c.2; cases this), if_neg (fun c => by have := c.2; rw [show personB s.data.toList = false from hp] at this; cases this), if_pos ⟨rfl, (eqL h).2 rfl⟩]
theorem readW_none4 (hg : (s.toList == [103, 114, 111, 117, 112]) = false) (hp : personS s = false) (h : (s.toList == [59]) = false) : readW 4 rs s = none := by
  unfold readW; rw [if_neg (by simp), if_neg (by simp), if_neg (by simp), if_neg (fun c => by have := (eqL hg).1 c.2; cases this), if_neg (fun c => by have := c.2; rw [show personB s.data.toList = false from hp] at this; cases this), if_neg (fun c => by have := (eqL h).1 c.2; cases this)]
end
/-- The place and the rules go together. -/
def OkP (p : Nat) (rs : List ORule) : Prop := p ≤ 4 ∧ (p = 2 → ∃ ri pre gs, rs = ri ++ [⟨pre, gs⟩]) ∧ (p = 3 ∨ p = 4 → ∃ ri pre gi gl, rs = ri ++ [⟨pre, gi ++ [gl]⟩])
/-- Not more rules, groups, members than K. -/
structure Bnd (K : Nat) (rs : List ORule) : Prop where
  len : rs.length ≤ K
  each : ∀ r ∈ rs, r.pre.size ≤ 40000 ∧ r.groups.length ≤ K ∧ ∀ g ∈ r.groups, g.length ≤ K ∧ ∀ s ∈ g, s.size ≤ 40000
theorem Bnd.small {K : Nat} {rs : List ORule} (h : Bnd K rs) (hK : K ≤ 40000) : SmallR rs :=
  ⟨by have := h.len; omega, fun r hr => ⟨(h.each r hr).1, by have := (h.each r hr).2.1; omega, fun g hg => ⟨by have := ((h.each r hr).2.2 g hg).1; omega, ((h.each r hr).2.2 g hg).2⟩⟩⟩
theorem Bnd.more {K : Nat} {rs : List ORule} (h : Bnd K rs) : Bnd (K + 1) rs :=
  ⟨by have := h.len; omega, fun r hr => ⟨(h.each r hr).1, by have := (h.each r hr).2.1; omega, fun g hg => ⟨by have := ((h.each r hr).2.2 g hg).1; omega, ((h.each r hr).2.2 g hg).2⟩⟩⟩
theorem Bnd.rule {K : Nat} {rs : List ORule} (h : Bnd K rs) {s : ByteArray} (hs : s.size ≤ 40000) : Bnd (K + 1) (rs ++ [⟨s, []⟩]) := by
  refine ⟨by have := h.len; simp; omega, fun r hr => ?_⟩
  rcases List.mem_append.1 hr with hr | hr
  · exact h.more.each r hr
  · rw [List.mem_singleton.1 hr]; exact ⟨hs, Nat.zero_le _, fun g hg => by cases hg⟩
theorem Bnd.group {K : Nat} {ri : List ORule} {pre : ByteArray} {gs : List (List ByteArray)} (h : Bnd K (ri ++ [⟨pre, gs⟩])) : Bnd (K + 1) (ri ++ [⟨pre, gs ++ [[]]⟩]) := by
  refine ⟨by have := h.len; simp at this ⊢; omega, fun r hr => ?_⟩
  rcases List.mem_append.1 hr with hr | hr
  · exact h.more.each r (List.mem_append_left _ hr)
  · rw [List.mem_singleton.1 hr]
    obtain ⟨a, b, c⟩ := h.each ⟨pre, gs⟩ (by simp)
    refine ⟨a, by simp at b ⊢; omega, fun g hg => ?_⟩
    rcases List.mem_append.1 hg with hg | hg
    · exact ⟨by have := (c g hg).1; omega, (c g hg).2⟩
    · rw [List.mem_singleton.1 hg]; exact ⟨Nat.zero_le _, fun s hs => by cases hs⟩
theorem Bnd.person {K : Nat} {ri : List ORule} {pre s : ByteArray} {gi : List (List ByteArray)} {gl : List ByteArray} (h : Bnd K (ri ++ [⟨pre, gi ++ [gl]⟩])) (hs : s.size ≤ 40000) : Bnd (K + 1) (ri ++ [⟨pre, gi ++ [gl ++ [s]]⟩]) := by
  refine ⟨by have := h.len; simp at this ⊢; omega, fun r hr => ?_⟩
  rcases List.mem_append.1 hr with hr | hr
  · exact h.more.each r (List.mem_append_left _ hr)
  · rw [List.mem_singleton.1 hr]
    obtain ⟨a, b, c⟩ := h.each ⟨pre, gi ++ [gl]⟩ (by simp)
    refine ⟨a, by simp at b ⊢; omega, fun g hg => ?_⟩
    rcases List.mem_append.1 hg with hg | hg
    · exact ⟨by have := (c g (List.mem_append_left _ hg)).1; omega, (c g (List.mem_append_left _ hg)).2⟩
    · rw [List.mem_singleton.1 hg]
      have := c gl (by simp)
      refine ⟨by simp; omega, fun t ht => ?_⟩
      rcases List.mem_append.1 ht with ht | ht
      · exact this.2 t ht
      · rw [List.mem_singleton.1 ht]; exact hs
end Go.Proofs.YtidkpnabdfiilaaGreatDoor
