/- Small lemmas used by the walks of this seat: results, worlds that only grew, strings as byte lists. No conditions. Plain functions on byte lists: words, labels. No program in sight; no conditions. The words of a text, plainly. Slices in memory: a row of cells read element by element; what a call leaves as it was. No program in sight. -/
import Derived.Test.YtidkpnabdfiilaaGreatDoorProg
import Derived.WalkKit
import Derived.WalkLawsBesides
import Derived.WalkSpells
import Derived.OpenShut
import Derived.LoopTactic
import Derived.Deep.QuietTactic
import Derived.BigQuiet
import Derived.Lib.Hide
import Derived.Lib.IndexBytes
import Derived.RangeFuncNested
namespace Go.Proofs.YtidkpnabdfiilaaGreatDoor
open Go.RowKit

theorem ret_int {k : IntKind} {a b : Int} (h : a = b) : Ending.returned (.int k a) = .returned (.int k b) := by rw [h]
theorem ret_bool {a b : Bool} (h : a = b) : Ending.returned (.bool a) = .returned (.bool b) := by rw [h]
theorem bcell {W w1 : World} (hb : Below W.heap.size W w1) : (∀ b o, b < W.heap.size → w1.cell? ⟨b, o, none⟩ = W.cell? ⟨b, o, none⟩) ∧ (∀ b o, b < W.heap.size → w1.frozen? ⟨b, o, none⟩ = W.frozen? ⟨b, o, none⟩) :=
  ⟨fun b o h => hb.cell (p := ⟨b, o, none⟩) h, fun b o h => hb.frozen (p := ⟨b, o, none⟩) h⟩

theorem sz (s : ByteArray) : s.data.toList.length = s.size := by simp
theorem getD_at (s : ByteArray) (i : Nat) (h : i < s.size) : s.data.toList.getD i 0 = s[i] := by
  rw [List.getD_eq_getElem?_getD, List.getElem?_eq_getElem (by simpa using h)]; rfl
theorem ex_data (s : ByteArray) (a b : Nat) : (s.extract a b).data.toList = (s.data.toList.drop a).take (b - a) := Lib.extract_data s a b
theorem ex_end (s : ByteArray) (a : Nat) : (s.extract a s.size).data.toList = s.data.toList.drop a := Lib.extract_to_end s a
theorem ex_take (s : ByteArray) (b : Nat) : (s.extract 0 b).data.toList = s.data.toList.take b := by rw [ex_data]; simp
theorem tl (s : ByteArray) : s.toList = s.data.toList := ByteArray.toList_eq s
theorem qtrans {a b c : World} (h : Below a.heap.size a b) (k : Below b.heap.size b c) : Below a.heap.size a c := h.trans (k.mono h.size)
theorem qalloc (w : World) (o : Obj) : Below w.heap.size w (w.alloc o) := (Below.refl _ _).alloc (Nat.le_refl _) o
theorem cell_far (w : World) (a b : Addr) (v : Value) (h : b.block ≠ a.block) : (w.setCell a v).cell? b = w.cell? b := World.cell?_of_block (Below.heap_setCell w a v b.block h)
theorem frozen_far (w : World) (a b : Addr) (v : Value) : (w.setCell a v).frozen? b = w.frozen? b := by rw [World.frozen?_setCell]
theorem qrefl (w : World) : Below w.heap.size w w := Below.refl _ _

end Go.Proofs.YtidkpnabdfiilaaGreatDoor

namespace Go.Proofs.YtidkpnabdfiilaaGreatDoor

def isLet (c : Int) : Bool := decide (97 ≤ c) && decide (c ≤ 122)
def isDig (c : Int) : Bool := decide (48 ≤ c) && decide (c ≤ 57)
/-- The characters of a word: a letter, then letters and digits. -/
def okAt (i : Nat) (c : UInt8) : Bool := isLet c.toNat || (i != 0 && isDig c.toNat)
def wordB (l : List UInt8) : Bool := (List.range l.length).all fun i => okAt i (l.getD i 0)
def wordN (n : Nat) (l : List UInt8) : Bool := decide (1 ≤ l.length) && decide (l.length ≤ n) && wordB l

theorem wordB_iff (l : List UInt8) : wordB l = true ↔ ∀ i, i < l.length → okAt i (l.getD i 0) = true := by
  simp [wordB]
theorem wordB_false {l : List UInt8} {i : Nat} (hi : i < l.length) (h : okAt i (l.getD i 0) = false) : wordB l = false := by
  cases hw : wordB l with
  | false => rfl
  | true => have := (wordB_iff l).1 hw i hi; rw [h] at this; cases this

/-- The parts between slashes. -/
def split : List UInt8 → List (List UInt8)
  | [] => [[]]
  | c :: r => if c = 47 then [] :: split r else match split r with
    | [] => [[c]]
    | p :: ps => (c :: p) :: ps
def slashAt (l : List UInt8) : Nat := l.findIdx (· == 47)
theorem slashAt_le (l : List UInt8) : slashAt l ≤ l.length := List.findIdx_le_length
theorem split_ne (l : List UInt8) : split l ≠ [] := by
  cases l with
  | nil => simp [split]
  | cons c r =>
    rw [split]
    split
    · simp
    · split <;> simp
theorem split_none {l : List UInt8} (h : slashAt l = l.length) : split l = [l] := by
  induction l with
  | nil => rfl
  | cons c r ih =>
    unfold slashAt at h ih
    rw [List.findIdx_cons] at h
    by_cases hc : c = 47
    · simp [hc] at h
    · have hb : (c == 47) = false := by simp [hc]
      rw [hb] at h
      rw [split, if_neg hc, ih (by simpa using h)]
theorem split_some {l : List UInt8} (h : slashAt l < l.length) : split l = l.take (slashAt l) :: split (l.drop (slashAt l + 1)) := by
  induction l with
  | nil => simp at h
  | cons c r ih =>
    unfold slashAt at h ih ⊢
    rw [List.findIdx_cons] at h ⊢
    by_cases hc : c = 47
    · simp [hc, split]
    · have hb : (c == 47) = false := by simp [hc]
      rw [hb] at h ⊢
      rw [split, if_neg hc, ih (by simpa using h)]
      simp
theorem slashAt_at {l : List UInt8} {k : Nat} (hk : k ≤ slashAt l) (hl : k < l.length) (h : l.getD k 0 = 47) : slashAt l = k := by
  refine Nat.le_antisymm ?_ hk
  unfold slashAt
  refine Nat.le_of_not_lt fun hlt => ?_
  have := List.not_of_lt_findIdx hlt
  rw [List.getD_eq_getElem?_getD, List.getElem?_eq_getElem hl] at h
  simp at h this
  exact this h
theorem slashAt_next {l : List UInt8} {k : Nat} (hk : k ≤ slashAt l) (hl : k < l.length) (h : l.getD k 0 ≠ 47) : k + 1 ≤ slashAt l := by
  refine Nat.lt_of_le_of_ne hk fun e => h ?_
  have hlt : List.findIdx (· == 47) l < l.length := by unfold slashAt at e; omega
  have := List.findIdx_getElem (w := hlt)
  rw [List.getD_eq_getElem?_getD, List.getElem?_eq_getElem hl]
  unfold slashAt at e
  simp at this ⊢
  simp only [e]
  exact this
def labelB (l : List UInt8) : Bool := decide (l.length ≤ 90) && (split l).all (wordN 20)

def b_deps : List UInt8 := [100, 101, 112, 115]
def b_visible : List UInt8 := [118, 105, 115, 105, 98, 108, 101]
def reservedB (l : List UInt8) : Bool := l == b_deps || l == b_visible
def freeLabelB (l : List UInt8) : Bool := labelB l && !reservedB l
def lnameB (l : List UInt8) : Bool := labelB l && !l.contains 47
def freeLNameB (l : List UInt8) : Bool := lnameB l && !reservedB l
def viewerB (l : List UInt8) : Bool := if l.getLast? = some 47 then labelB l.dropLast else l == [42] || freeLabelB l

theorem wordN_short {n : Nat} {l : List UInt8} (h : l.length < 1) : wordN n l = false := by
  simp [wordN]; omega
theorem wordN_long {n : Nat} {l : List UInt8} (h : n < l.length) : wordN n l = false := by
  simp [wordN]; omega
theorem wordN_bad {n i : Nat} {l : List UInt8} (hi : i < l.length) (h : okAt i (l.getD i 0) = false) : wordN n l = false := by
  rw [wordN, wordB_false hi h]; simp
theorem wordN_good {n : Nat} {l : List UInt8} (h1 : 1 ≤ l.length) (h2 : l.length ≤ n) (h : ∀ i, i < l.length → okAt i (l.getD i 0) = true) : wordN n l = true := by
  simp [wordN, h1, h2, (wordB_iff l).2 h]
theorem wordN_20_24 (l : List UInt8) : wordN 20 l = (decide (l.length ≤ 20) && wordN 24 l) := by
  rw [Bool.eq_iff_iff]
  simp only [wordN, Bool.and_eq_true, decide_eq_true_eq]
  constructor
  · rintro ⟨⟨a, b⟩, c⟩; exact ⟨b, ⟨a, by omega⟩, c⟩
  · rintro ⟨a, ⟨b, _⟩, c⟩; exact ⟨⟨b, a⟩, c⟩
theorem labelB_long {l : List UInt8} (h : 90 < l.length) : labelB l = false := by
  simp [labelB]; omega

/-- The last slash before n, or -1. -/
def lastSlFrom (l : List UInt8) : Nat → Int
  | 0 => -1
  | n + 1 => if l.getD n 0 = 47 then n else lastSlFrom l n
/- The same over Go's strings. -/
def lastSlS (s : ByteArray) : Int := lastSlFrom s.data.toList s.size
def endsS (s : ByteArray) : Bool := s.data.toList.getLast? == some 47
def wordS (n : Nat) (s : ByteArray) : Bool := wordN n s.data.toList
def slashS (s : ByteArray) : Nat := slashAt s.data.toList
def labelS (s : ByteArray) : Bool := labelB s.data.toList
def reservedS (s : ByteArray) : Bool := reservedB s.data.toList
def freeLabelS (s : ByteArray) : Bool := freeLabelB s.data.toList
def lnameS (s : ByteArray) : Bool := lnameB s.data.toList
def freeLNameS (s : ByteArray) : Bool := freeLNameB s.data.toList
def viewerS (s : ByteArray) : Bool := viewerB s.data.toList
theorem lastSlFrom_neg (l : List UInt8) (n : Nat) (hn : n ≤ l.length) : decide (lastSlFrom l n < 0) = !(l.take n).contains 47 := by
  induction n with
  | zero => rfl
  | succ n ih =>
    rw [lastSlFrom]
    have e : l.take (n + 1) = l.take n ++ [l.getD n 0] := by
      rw [List.take_succ_eq_append_getElem (by omega), List.getD_eq_getElem?_getD, List.getElem?_eq_getElem (by omega)]; rfl
    by_cases h : l.getD n 0 = 47
    · rw [if_pos h, e, h]; simp
    · rw [if_neg h, ih (by omega), e]
      simp only [List.contains_eq_mem, List.mem_append, List.mem_singleton]
      have : ¬ (47 : UInt8) = l[n]?.getD 0 := fun e => h (by rw [List.getD_eq_getElem?_getD]; exact e.symm)
      simp [this]
theorem lastSl_neg (s : ByteArray) : decide (lastSlS s < 0) = !s.data.toList.contains 47 := by
  rw [lastSlS, lastSlFrom_neg _ _ (by simp), List.take_of_length_le (by simp)]
theorem split_ends (l : List UInt8) : [] ∈ split (l ++ [47]) := by
  induction l with
  | nil => simp [split]
  | cons c r ih =>
    rw [List.cons_append, split]
    by_cases hc : c = 47
    · rw [if_pos hc]; simp
    · rw [if_neg hc]
      cases hs : split (r ++ [47]) with
      | nil => rw [hs] at ih; simp at ih
      | cons p ps =>
        simp only [List.mem_cons]
        rw [hs] at ih
        have hr : ∃ x y ys, split (r ++ [47]) = x :: y :: ys := by
          clear ih hs
          induction r with
          | nil => exact ⟨[], [], [], by simp [split]⟩
          | cons d r ih' =>
            rw [List.cons_append, split]
            obtain ⟨x, y, ys, e⟩ := ih'
            by_cases hd : d = 47
            · rw [if_pos hd]; exact ⟨[], x, y :: ys, by rw [e]⟩
            · rw [if_neg hd, e]; exact ⟨d :: x, y, ys, rfl⟩
        obtain ⟨x, y, ys, e⟩ := hr
        rw [hs] at e
        cases e
        right
        have hlast : ∀ (r : List UInt8) x ys, split (r ++ [47]) = x :: ys → [] ∈ ys := by
          intro r
          induction r with
          | nil => intro x ys e; simp [split] at e; rw [← e.2]; simp
          | cons d r ih' =>
            intro x ys e
            rw [List.cons_append, split] at e
            by_cases hd : d = 47
            · rw [if_pos hd] at e
              cases hq : split (r ++ [47]) with
              | nil => exact absurd hq (split_ne _)
              | cons q qs => rw [hq] at e; cases e; exact List.mem_cons_of_mem _ (ih' q qs hq)
            · rw [if_neg hd] at e
              cases hq : split (r ++ [47]) with
              | nil => exact absurd hq (split_ne _)
              | cons q qs =>
                rw [hq] at e
                simp only [List.cons.injEq] at e
                rw [← e.2]
                exact ih' q qs hq
        exact hlast r _ _ hs
theorem labelB_ends {l : List UInt8} (h : l.getLast? = some 47) : labelB l = false := by
  obtain ⟨r, rfl⟩ : ∃ r, l = r ++ [47] := by
    rw [List.getLast?_eq_some_iff] at h
    exact h
  have := split_ends r
  rw [labelB, Bool.and_eq_false_iff]
  right
  rw [List.all_eq_false]
  exact ⟨[], this, by simp [wordN]⟩
theorem labelB_nil : labelB [] = false := by rfl
theorem viewerS_ends {s : ByteArray} (h : endsS s = true) : viewerS s = labelS (s.extract 0 (s.size - 1)) := by
  have h' : s.data.toList.getLast? = some 47 := by simpa [endsS] using h
  rw [viewerS, viewerB, if_pos h', labelS]
  congr 1
  have e : (s.extract 0 (s.size - 1)).data.toList = s.data.toList.take (s.size - 1) := by
    rw [ByteArray.data_extract, Array.toList_extract]
    rfl
  rw [e, List.dropLast_eq_take, Array.length_toList, ByteArray.size_data]
theorem viewerS_not {s : ByteArray} (h : endsS s = false) : viewerS s = (s.data.toList == [42] || freeLabelS s) := by
  have h' : ¬ s.data.toList.getLast? = some 47 := by simpa [endsS] using h
  rw [viewerS, viewerB, if_neg h', freeLabelS]
theorem freeLabelS_ends {s : ByteArray} (h : endsS s = true) : freeLabelS s = false := by
  have h' : s.data.toList.getLast? = some 47 := by simpa [endsS] using h
  rw [freeLabelS, freeLabelB, labelB_ends h']; rfl
end Go.Proofs.YtidkpnabdfiilaaGreatDoor

namespace Go.Proofs.YtidkpnabdfiilaaGreatDoor

theorem byteN (c d : UInt8) : ((c.toNat : Int) == (d.toNat : Int)) = (c == d) := by
  rw [Bool.eq_iff_iff, beq_iff_eq, beq_iff_eq, ← UInt8.toNat_inj]
  omega
theorem byteNe (c d : UInt8) : ((c.toNat : Int) != (d.toNat : Int)) = (c != d) := by
  rw [bne, bne, byteN]
theorem byteNeT {c d : UInt8} {b : Bool} (h : (c == d) = b) : ((c.toNat : Int) != (d.toNat : Int)) = !b := by rw [byteNe, bne, h]
def isSp (c : UInt8) : Bool := c == 32 || c == 10
def isNl (c : UInt8) : Bool := c == 10
/-- The first index from i on at which p holds, or the end. -/
def stopAt (p : UInt8 → Bool) (l : List UInt8) (i : Nat) : Nat := i + (l.drop i).findIdx p
theorem stopAt_ge (p : UInt8 → Bool) (l : List UInt8) (i : Nat) : i ≤ stopAt p l i := Nat.le_add_right _ _
theorem stopAt_le (p : UInt8 → Bool) {l : List UInt8} {i : Nat} (h : i ≤ l.length) : stopAt p l i ≤ l.length := by
  unfold stopAt
  have := List.findIdx_le_length (p := p) (xs := l.drop i)
  rw [List.length_drop] at this
  omega
theorem stopAt_here {p : UInt8 → Bool} {l : List UInt8} {i k : Nat} (h1 : i ≤ k) (h2 : k ≤ stopAt p l i) (h3 : k < l.length) (h : p (l.getD k 0) = true) : stopAt p l i = k := by
  refine Nat.le_antisymm ?_ h2
  unfold stopAt at *
  refine Nat.le_of_not_lt fun hlt => ?_
  have hk : k - i < List.findIdx p (l.drop i) := by omega
  have := List.not_of_lt_findIdx hk
  rw [List.getD_eq_getElem?_getD, List.getElem?_eq_getElem h3] at h
  rw [List.getElem_drop] at this
  simp only [Option.getD_some] at h
  have e : l[i + (k - i)]'(by omega) = l[k] := by congr 1; omega
  rw [e, h] at this
  cases this
theorem stopAt_next {p : UInt8 → Bool} {l : List UInt8} {i k : Nat} (h2 : k ≤ stopAt p l i) (h3 : k < l.length) (h : p (l.getD k 0) = false) : k + 1 ≤ stopAt p l i := by
  refine Nat.lt_of_le_of_ne h2 fun e => ?_
  unfold stopAt at *
  have hlt : List.findIdx p (l.drop i) < (l.drop i).length := by rw [List.length_drop]; omega
  have := List.findIdx_getElem (w := hlt)
  rw [List.getElem_drop] at this
  rw [List.getD_eq_getElem?_getD, List.getElem?_eq_getElem h3] at h
  simp only [Option.getD_some] at h
  have e' : l[i + List.findIdx p (l.drop i)]'(by omega) = l[k] := by congr 1; exact e.symm
  rw [e', h] at this
  cases this
/-- The words from index i on, each with its offset; f bounds the steps. -/
def toks (s : ByteArray) : Nat → Nat → List (ByteArray × Nat)
  | 0, _ => []
  | f + 1, i => if i < s.size then
      (if isSp (s.data.toList.getD i 0) then toks s f (i + 1)
       else if s.data.toList.getD i 0 = 35 then toks s f (stopAt isNl s.data.toList i)
       else (s.extract i (stopAt isSp s.data.toList i), i) :: toks s f (stopAt isSp s.data.toList i))
    else []
def wordsOf (s : ByteArray) : List (ByteArray × Nat) := toks s s.size 0
theorem toks_end (s : ByteArray) (f : Nat) {i : Nat} (h : ¬ i < s.size) : toks s f i = [] := by
  cases f with
  | zero => rfl
  | succ f => rw [toks, if_neg h]
theorem toks_small (s : ByteArray) : ∀ f i, ∀ x ∈ toks s f i, x.1.size ≤ s.size ∧ x.2 ≤ s.size := by
  intro f
  induction f with
  | zero => intro i x hx; simp [toks] at hx
  | succ f ih =>
    intro i x hx
    rw [toks] at hx
    split at hx
    · split at hx
      · exact ih _ x hx
      · split at hx
        · exact ih _ x hx
        · rcases List.mem_cons.1 hx with rfl | hx
          · refine ⟨?_, by show i ≤ _; omega⟩
            show (s.extract _ _).size ≤ _
            rw [ByteArray.size_extract]; omega
          · exact ih _ x hx
    · simp at hx
theorem toks_length (s : ByteArray) : ∀ f i, (toks s f i).length ≤ f := by
  intro f
  induction f with
  | zero => intro i; simp [toks]
  | succ f ih =>
    intro i
    rw [toks]
    split
    · split
      · have := ih (i + 1); omega
      · split
        · have := ih (stopAt isNl s.data.toList i); omega
        · have := ih (stopAt isSp s.data.toList i); simp; omega
    · simp
theorem wordsOf_length (s : ByteArray) : (wordsOf s).length ≤ s.size := toks_length s _ _
end Go.Proofs.YtidkpnabdfiilaaGreatDoor

namespace Go.Proofs.YtidkpnabdfiilaaGreatDoor
open Go.RowKit

/-- The slice v has n elements of 'size' cells each; its cells, one after another, are xs. -/
def IsRow (w : World) (size : Nat) (v : Value) (n : Nat) (xs : List Value) : Prop :=
  xs.length = n * size ∧ ∃ (a : Option Addr) (cap : Nat), v = .slice a n cap ∧ n ≤ cap ∧ cap ≤ maxLen ∧
    (0 < n → ∃ b o : Nat, a = some ⟨b, o, none⟩ ∧ b < w.heap.size ∧ ∀ j u, xs[j]? = some u → w.cell? ⟨b, o + j, none⟩ = some u)

/-- The slice of strings v reads as ss. -/
def Strs (w : World) (v : Value) (ss : List ByteArray) : Prop := IsRow w 1 v ss.length (ss.map .string)

/-- What a call leaves: the blocks that were there, but for those of X, are as they were. -/
structure Mod (X : List Nat) (w w' : World) : Prop where
  os : w'.os = w.os
  tape : w'.tape = w.tape
  output : w'.output = w.output
  size : w.heap.size ≤ w'.heap.size
  block : ∀ k, k < w.heap.size → k ∉ X → w'.heap[k]? = w.heap[k]?

theorem Mod.refl (X : List Nat) (w : World) : Mod X w w := ⟨rfl, rfl, rfl, Nat.le_refl _, fun _ _ _ => rfl⟩
theorem Mod.trans {X : List Nat} {a b c : World} (h : Mod X a b) (k : Mod X b c) : Mod X a c :=
  ⟨k.os.trans h.os, k.tape.trans h.tape, k.output.trans h.output, Nat.le_trans h.size k.size, fun i hi hx => (k.block i (Nat.lt_of_lt_of_le hi h.size) hx).trans (h.block i hi hx)⟩
theorem Mod.of {X : List Nat} {w w' : World} (h : Below w.heap.size w w') : Mod X w w' := ⟨h.os, h.tape, h.output, h.size, fun k hk _ => h.block k hk⟩
theorem Mod.below {w w' : World} (h : Mod [] w w') : Below w.heap.size w w' := ⟨h.os, h.tape, h.output, h.size, fun k hk => h.block k hk (by simp)⟩
theorem Mod.mono {X Y : List Nat} {w w' : World} (h : Mod X w w') (hs : ∀ k, k ∈ X → k ∈ Y) : Mod Y w w' := ⟨h.os, h.tape, h.output, h.size, fun k hk hy => h.block k hk (fun hx => hy (hs k hx))⟩
theorem Mod.upto {X : List Nat} {B : Nat} {w w' : World} (h : Mod X w w') (hB : B ≤ w.heap.size) (hX : ∀ k, k ∈ X → B ≤ k) : Below B w w' :=
  ⟨h.os, h.tape, h.output, h.size, fun k hk => h.block k (by omega) (fun hx => by have := hX k hx; omega)⟩
theorem Mod.setCell {X : List Nat} {a w : World} (h : Mod X a w) {p : Addr} (hp : p.block ∈ X) (u : Value) : Mod X a (w.setCell p u) :=
  h.trans ⟨rfl, rfl, rfl, by simp [World.setCell], fun k _ hx => Below.heap_setCell _ _ _ _ (fun e => hx (e ▸ hp))⟩
theorem Mod.alloc {X : List Nat} {a w : World} (h : Mod X a w) (o : Obj) : Mod X a (w.alloc o) := h.trans (Mod.of (qalloc w o))
theorem Mod.drew {X : List Nat} {a w : World} (h : Mod X a w) : Mod X a w.drew := ⟨h.os, h.tape, h.output, h.size, h.block⟩
theorem Mod.cell {X : List Nat} {w w' : World} (h : Mod X w w') {b o : Nat} {v : Value} (hc : w.cell? ⟨b, o, none⟩ = some v) (hb : b ∉ X) : w'.cell? ⟨b, o, none⟩ = some v := by
  obtain ⟨ob, ho, _⟩ := cells_of_cell hc
  exact (World.cell?_of_block (w := w) (h.block b (Array.getElem?_eq_some_iff.1 ho).1 hb)).trans hc
theorem Mod.heap {X : List Nat} {w w' : World} (h : Mod X w w') {b : Nat} {ob : Obj} (hc : w.heap[b]? = some ob) (hb : b ∉ X) : w'.heap[b]? = some ob :=
  (h.block b (Array.getElem?_eq_some_iff.1 hc).1 hb).trans hc

theorem Mod.trans' {X : List Nat} {a b c : World} (h : Mod X a b) {row : Option Nat} (g : b.grownBy c row) (hr : ∀ k, row = some k → a.heap.size ≤ k) : Mod X a c :=
  ⟨g.os.trans h.os, g.tape.trans h.tape, g.output.trans h.output, Nat.le_trans h.size g.size, fun i hi hx => (g.block i (Nat.lt_of_lt_of_le hi h.size) (fun e => by have := hr i e.symm; omega)).trans (h.block i hi hx)⟩
theorem IsRow.len {w : World} {size : Nat} {v : Value} {n : Nat} {xs : List Value} (h : IsRow w size v n xs) : xs.length = n * size := h.1
theorem IsRow.mod {w w' : World} {size : Nat} {v : Value} {n : Nat} {xs : List Value} {X : List Nat} (h : IsRow w size v n xs) (m : Mod X w w') (hx : ∀ b, v.ownBlock = some b → b ∉ X) : IsRow w' size v n xs := by
  obtain ⟨hl, a, cap, rfl, h1, h2, h3⟩ := h
  refine ⟨hl, a, cap, rfl, h1, h2, fun hn => ?_⟩
  obtain ⟨b, o, rfl, hb, hc⟩ := h3 hn
  exact ⟨b, o, rfl, Nat.lt_of_lt_of_le hb m.size, fun j u hj => m.cell (hc j u hj) (hx b rfl)⟩
theorem IsRow.below {w w' : World} {size : Nat} {v : Value} {n : Nat} {xs : List Value} (h : IsRow w size v n xs) (m : Below w.heap.size w w') : IsRow w' size v n xs :=
  h.mod (Mod.of (X := []) m) (by simp)
theorem Strs.mod {w w' : World} {v : Value} {ss : List ByteArray} {X : List Nat} (h : Strs w v ss) (m : Mod X w w') (hx : ∀ b, v.ownBlock = some b → b ∉ X) : Strs w' v ss := IsRow.mod h m hx
theorem Strs.below {w w' : World} {v : Value} {ss : List ByteArray} (h : Strs w v ss) (m : Below w.heap.size w w') : Strs w' v ss := IsRow.below h m
theorem Strs.nil (w : World) (a : Option Addr) (cap : Nat) (h : cap ≤ maxLen) : Strs w (.slice a 0 cap) [] := ⟨rfl, a, cap, rfl, Nat.zero_le _, h, fun h => absurd h (Nat.lt_irrefl _)⟩
theorem Strs.shape {w : World} {v : Value} {ss : List ByteArray} (h : Strs w v ss) : ∃ (a : Option Addr) (cap : Nat), v = .slice a ss.length cap ∧ ss.length ≤ cap ∧ cap ≤ maxLen ∧
    (∀ i, i < ss.length → ∃ b o : Nat, a = some ⟨b, o, none⟩ ∧ b < w.heap.size ∧ ∀ j, j < ss.length → w.cell? ⟨b, o + j, none⟩ = some (.string (ss.getD j ByteArray.empty))) := by
  obtain ⟨_, a, cap, rfl, h1, h2, h3⟩ := h
  refine ⟨a, cap, rfl, h1, h2, fun i hi => ?_⟩
  obtain ⟨b, o, rfl, hb, hc⟩ := h3 (by omega)
  refine ⟨b, o, rfl, hb, fun j hj => hc j _ ?_⟩
  rw [List.getElem?_map, List.getD_eq_getElem?_getD, List.getElem?_eq_getElem hj]; rfl
/-- A slice of the first i elements. -/
theorem Strs.take {w : World} {b o cap i : Nat} {ss : List ByteArray} (h : Strs w (.slice (some ⟨b, o, none⟩) ss.length cap) ss) (hi : i ≤ ss.length) : Strs w (.slice (some ⟨b, o, none⟩) i cap) (ss.take i) := by
  obtain ⟨_, a, cap', e, h1, h2, h3⟩ := h
  cases e
  refine ⟨by simp, some ⟨b, o, none⟩, cap, by rw [List.length_take, Nat.min_eq_left hi], by rw [List.length_take]; omega, h2, fun hn => ?_⟩
  obtain ⟨b', o', e, hb, hc⟩ := h3 (by rw [List.length_take] at hn; omega)
  cases e
  refine ⟨b, o, rfl, hb, fun j u hj => hc j u ?_⟩
  rw [List.map_take] at hj
  rw [List.getElem?_take] at hj
  split at hj
  · exact hj
  · cases hj
end Go.Proofs.YtidkpnabdfiilaaGreatDoor
