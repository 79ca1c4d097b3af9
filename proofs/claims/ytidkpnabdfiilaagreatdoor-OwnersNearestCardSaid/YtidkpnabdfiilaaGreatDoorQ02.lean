/- slices.Index, slices.Contains over strings, and the reference's Has. Names, prefixes and rules of owners, plainly; what reading words yields. No program in sight. Data in memory: leaves, and slices of cells that hold data again. No program in sight. A map with string keys that the call has made: what it holds, key by key. No program in sight. -/
import Derived.Test.YtidkpnabdfiilaaGreatDoorQ01
import Derived.Maps.OwnSet
namespace Go.Proofs.YtidkpnabdfiilaaGreatDoor
open Go.RowKit

def memS (s : ByteArray) (ss : List ByteArray) : Bool := ss.any fun t => s.data.toList == t.data.toList
def IdxPost (s : ByteArray) (ss : List ByteArray) (w : World) (e : Ending) (w' : World) : Prop := ∃ r : Int, e = .returned (.int .i64 r) ∧ decide (0 ≤ r) = memS s ss ∧ w = w'
theorem memS_at {s : ByteArray} {ss : List ByteArray} {k : Nat} (hk : k < ss.length) (h : (s.toList == (ss.getD k ByteArray.empty).toList) = true) : memS s ss = true := by
  rw [memS, List.any_eq_true]
  refine ⟨ss[k], List.getElem_mem hk, ?_⟩
  rw [List.getD_eq_getElem?_getD, List.getElem?_eq_getElem hk, tl, tl] at h
  exact h
theorem memS_none {s : ByteArray} {ss : List ByteArray} (h : ∀ k, k < ss.length → (s.toList == (ss.getD k ByteArray.empty).toList) = false) : memS s ss = false := by
  rw [memS, List.any_eq_false]
  intro t ht
  obtain ⟨k, hk, rfl⟩ := List.getElem_of_mem ht
  have := h k hk
  rw [List.getD_eq_getElem?_getD, List.getElem?_eq_getElem hk, tl, tl] at this
  rw [Bool.not_eq_true]
  exact this

theorem SIndex_any (v : Value) (s : ByteArray) (ss : List ByteArray) (w : World) (hv : Strs w v ss) (hn : ss.length ≤ 40000) :
    Calls Tryz.prog 138 #[v, .string s] w (IdxPost s ss w) := by
  obtain ⟨a, cap, rfl, h1, h2, h3⟩ := hv.shape
  have HV := Lib.hid h3
  clear h3 hv
  go_enter Tryz.func138, Tryz.ntmps138
  go_wp2
  go_loop [8] (fun i => ∃ k : Nat, k ≤ ss.length ∧ i = .int .i64 k ∧ Hid (∀ j, j < k → (s.toList == (ss.getD j ByteArray.empty).toList) = false)) (fun i => ss.length - (intOf i).toNat)
  case atStart => exact ⟨0, Nat.zero_le _, rfl, fun j hj => by omega⟩
  case round =>
    obtain ⟨k, hk, rfl, HK⟩ := hrel
    by_cases hlt : k < ss.length
    · obtain ⟨b, o, rfl, hb, hc⟩ := HV.out k hlt
      have hcell := hc k hlt
      clear hc
      generalize ht : ss.getD k ByteArray.empty = t at *
      have HT := Lib.hid ht
      clear ht
      cases he : (s.toList == t.toList) with
      | true =>
        have HM : Hid (memS s ss = true) := memS_at hlt (by rw [HT.out, he])
        go_wp2
        go_ret
        exact ⟨k, rfl, by rw [HM.out]; simp, rfl⟩
      | false =>
        have HN : Hid (∀ j, j < k + 1 → (s.toList == (ss.getD j ByteArray.empty).toList) = false) := fun j hj => by
          by_cases e : j = k
          · rw [e, HT.out, he]
          · exact HK.out j (by omega)
        go_wp2
        go_round
        case rel => exact ⟨k + 1, by omega, by go_num, HN⟩
        case measure => simp [intOf]; omega
    · have HM : Hid (memS s ss = false) := memS_none (fun j hj => HK.out j (by omega))
      go_wp2
      go_ret
      exact ⟨-1, rfl, by rw [HM.out]; rfl, rfl⟩
theorem SContains_any (v : Value) (s : ByteArray) (ss : List ByteArray) (w : World) (hv : Strs w v ss) (hn : ss.length ≤ 40000) :
    Calls Tryz.prog 100 #[v, .string s] w fun e w' => e = .returned (.bool (memS s ss)) ∧ w = w' := by
  have HV := Lib.hid hv
  clear hv
  go_enter Tryz.func100, Tryz.ntmps100
  go_wp2_with (go_at_call 138; refine (SIndex_any _ _ _ _ HV.out hn).mono ?_; rintro e w' ⟨r, rfl, hr, rfl⟩)
  go_ret
  exact ⟨rfl, rfl⟩
theorem rHas_any (v : Value) (s : ByteArray) (ss : List ByteArray) (w : World) (hv : Strs w v ss) (hn : ss.length ≤ 40000) :
    Calls Tryz.prog 34 #[v, .string s] w fun e w' => e = .returned (.bool (memS s ss)) ∧ w = w' := by
  obtain ⟨a, cap, rfl, h1, h2, h3⟩ := hv.shape
  have HV := Lib.hid h3
  clear h3 hv
  go_enter Tryz.func34, Tryz.ntmps34
  go_wp2
  go_loop [5] (fun i => ∃ k : Nat, k ≤ ss.length ∧ i = .int .i64 k ∧ Hid (∀ j, j < k → (s.toList == (ss.getD j ByteArray.empty).toList) = false)) (fun i => ss.length - (intOf i).toNat)
  case atStart => exact ⟨0, Nat.zero_le _, rfl, fun j hj => by omega⟩
  case round =>
    obtain ⟨k, hk, rfl, HK⟩ := hrel
    by_cases hlt : k < ss.length
    · obtain ⟨b, o, rfl, hb, hc⟩ := HV.out k hlt
      have hcell := hc k hlt
      clear hc
      generalize ht : ss.getD k ByteArray.empty = t at *
      have HT := Lib.hid ht
      clear ht
      cases he : (t.toList == s.toList) with
      | true =>
        have HM : Hid (memS s ss = true) := memS_at hlt (by rw [HT.out, Bool.beq_comm]; exact he)
        go_wp2
        go_ret
        exact ⟨ret_bool (by rw [HM.out]), rfl⟩
      | false =>
        have HN : Hid (∀ j, j < k + 1 → (s.toList == (ss.getD j ByteArray.empty).toList) = false) := fun j hj => by
          by_cases e : j = k
          · rw [e, HT.out, Bool.beq_comm]; exact he
          · exact HK.out j (by omega)
        go_wp2
        go_round
        case rel => exact ⟨k + 1, by omega, by go_num, HN⟩
        case measure => simp [intOf]; omega
    · have HM : Hid (memS s ss = false) := memS_none (fun j hj => HK.out j (by omega))
      go_wp2
      go_ret
      exact ⟨ret_bool (by rw [HM.out]), rfl⟩
end Go.Proofs.YtidkpnabdfiilaaGreatDoor

namespace Go.Proofs.YtidkpnabdfiilaaGreatDoor

def letN (c : Int) : Bool := (decide (97 ≤ c) && decide (c ≤ 122)) || (decide (65 ≤ c) && decide (c ≤ 90)) || (decide (48 ≤ c) && decide (c ≤ 57)) || c == 46 || c == 95 || c == 45
def letU (c : UInt8) : Bool := letN (c.toNat : Int)
/-- A name: of a file, of a person. -/
def nameB (l : List UInt8) : Bool := decide (1 ≤ l.length) && decide (l.length ≤ 24) && !(l == [46]) && !(l == [46, 46]) && l.all letU
def preC (c : UInt8) : Bool := letU c || c == 47
def preB (l : List UInt8) : Bool := decide (l.length ≤ 100) && l.all preC
def wGroup : List UInt8 := [103, 114, 111, 117, 112]
def wAll : List UInt8 := [97, 108, 108]
def wPrefix : List UInt8 := [112, 114, 101, 102, 105, 120]
def wSemi : List UInt8 := [59]
def personB (l : List UInt8) : Bool := !(l == wGroup) && nameB l
structure ORule where
  pre : ByteArray
  groups : List (List ByteArray)

/-! Why a list of rules is not valid. -/
def groupErr (pre : List ByteArray) : List ByteArray → Int
  | [] => 0
  | w :: r => if personB w.data.toList then (if memS w pre then 7 else groupErr (pre ++ [w]) r) else 6
def groupsErr : List (List ByteArray) → Int
  | [] => 0
  | g :: r => if groupErr [] g = 0 then groupsErr r else groupErr [] g
def someEmpty (gs : List (List ByteArray)) : Bool := gs.any fun g => g.length == 0
def someBig (gs : List (List ByteArray)) : Bool := gs.any fun g => decide (20 < g.length)
def oruleErr (r : ORule) : Int :=
  if preB r.pre.data.toList then
    (if r.groups.length == 0 || someEmpty r.groups then 1
     else if decide (8 < r.groups.length) || someBig r.groups then 4
     else groupsErr r.groups)
  else 6
def preIn (p : ByteArray) (rs : List ORule) : Bool := rs.any fun o => o.pre.data.toList == p.data.toList
def ocheckFrom (pre : List ORule) : List ORule → Int
  | [] => 0
  | r :: rest => if oruleErr r = 0 then (if preIn r.pre pre then 7 else ocheckFrom (pre ++ [r]) rest) else oruleErr r
def ocheckErr (rs : List ORule) : Int := if 100 < rs.length then 4 else ocheckFrom [] rs

/-! Reading words: the place within a rule (0 all or prefix; 1 a prefix; 2 group; 3 a person; 4 a person, group or a semicolon), and the rules so far. -/
abbrev OWords := List (ByteArray × Nat)
def modLast {α : Type} (f : α → α) : List α → List α
  | [] => []
  | [x] => [f x]
  | x :: y :: r => x :: modLast f (y :: r)
def addGroup (rs : List ORule) : List ORule := modLast (fun r => ⟨r.pre, r.groups ++ [[]]⟩) rs
def addPerson (w : ByteArray) (rs : List ORule) : List ORule := modLast (fun r => ⟨r.pre, modLast (fun g => g ++ [w]) r.groups⟩) rs
def readW (place : Nat) (rs : List ORule) (w : ByteArray) : Option (Nat × List ORule) :=
  if place = 0 ∧ w.data.toList = wAll then some (2, rs ++ [⟨⟨#[]⟩, []⟩])
  else if place = 0 ∧ w.data.toList = wPrefix then some (1, rs)
  else if place = 1 ∧ preB w.data.toList = true then some (2, rs ++ [⟨w, []⟩])
  else if (place = 2 ∨ place = 4) ∧ w.data.toList = wGroup then some (3, addGroup rs)
  else if (place = 3 ∨ place = 4) ∧ personB w.data.toList = true then some (4, addPerson w rs)
  else if place = 4 ∧ w.data.toList = wSemi then some (0, rs)
  else none
/-- All words are read, or one of them does not fit. -/
def readAll : Nat → List ORule → OWords → Except Nat (Nat × List ORule)
  | p, rs, [] => .ok (p, rs)
  | p, rs, w :: r => match readW p rs w.1 with
    | some (p', rs') => readAll p' rs' r
    | none => .error w.2
def oparse (s : ByteArray) : List ORule × Int × Int :=
  match readAll 0 [] (wordsOf s) with
  | .error i => ([], i, 3)
  | .ok (p, rs) => if p = 0 then (if ocheckErr rs = 0 then (rs, 0, 0) else ([], 0, ocheckErr rs)) else ([], s.size, 3)

/-! Files. -/
structure OFile where
  path : ByteArray
  data : ByteArray
end Go.Proofs.YtidkpnabdfiilaaGreatDoor

namespace Go.Proofs.YtidkpnabdfiilaaGreatDoor
open Go.RowKit

/-- A datum: one value, or a slice of n elements of 'size' cells each. -/
inductive Tree where
  | leaf (v : Value)
  | row (size n : Nat) (ds : List Tree)

mutual
/-- The value v reads as the datum; no slice in it lies in a block of X. -/
def Reads (w : World) (X : List Nat) : Tree → Value → Prop
  | .leaf u, v => v = u
  | .row size n ds, v => ∃ xs, IsRow w size v n xs ∧ (0 < n → ∀ b, v.ownBlock = some b → b ∉ X) ∧ ReadsL w X ds xs
def ReadsL (w : World) (X : List Nat) : List Tree → List Value → Prop
  | [], xs => xs = []
  | d :: ds, xs => ∃ x rest, xs = x :: rest ∧ Reads w X d x ∧ ReadsL w X ds rest
end

theorem IsRow.mod' {w w' : World} {size : Nat} {v : Value} {n : Nat} {xs : List Value} {X : List Nat} (h : IsRow w size v n xs) (m : Mod X w w') (hx : 0 < n → ∀ b, v.ownBlock = some b → b ∉ X) : IsRow w' size v n xs := by
  obtain ⟨hl, a, cap, rfl, h1, h2, h3⟩ := h
  refine ⟨hl, a, cap, rfl, h1, h2, fun hn => ?_⟩
  obtain ⟨b, o, rfl, hb, hc⟩ := h3 hn
  exact ⟨b, o, rfl, Nat.lt_of_lt_of_le hb m.size, fun j u hj => m.cell (hc j u hj) (hx hn b rfl)⟩
mutual
theorem Reads.mod {w w' : World} {X : List Nat} (m : Mod X w w') : ∀ {d : Tree} {v : Value}, Reads w X d v → Reads w' X d v
  | .leaf _, _, h => by rw [Reads] at h ⊢; exact h
  | .row _ _ _, _, h => by
    rw [Reads] at h ⊢
    obtain ⟨xs, h1, h2, h3⟩ := h
    exact ⟨xs, h1.mod' m h2, h2, ReadsL.mod m h3⟩
theorem ReadsL.mod {w w' : World} {X : List Nat} (m : Mod X w w') : ∀ {ds : List Tree} {xs : List Value}, ReadsL w X ds xs → ReadsL w' X ds xs
  | [], _, h => by rw [ReadsL] at h ⊢; exact h
  | _ :: _, _, h => by
    rw [ReadsL] at h ⊢
    obtain ⟨x, rest, e, h1, h2⟩ := h
    exact ⟨x, rest, e, Reads.mod m h1, ReadsL.mod m h2⟩
end
mutual
theorem Reads.below {w w' : World} {X : List Nat} (m : Below w.heap.size w w') : ∀ {d : Tree} {v : Value}, Reads w X d v → Reads w' X d v
  | .leaf _, _, h => by rw [Reads] at h ⊢; exact h
  | .row _ _ _, _, h => by
    rw [Reads] at h ⊢
    obtain ⟨xs, h1, h2, h3⟩ := h
    exact ⟨xs, h1.below m, h2, ReadsL.below m h3⟩
theorem ReadsL.below {w w' : World} {X : List Nat} (m : Below w.heap.size w w') : ∀ {ds : List Tree} {xs : List Value}, ReadsL w X ds xs → ReadsL w' X ds xs
  | [], _, h => by rw [ReadsL] at h ⊢; exact h
  | _ :: _, _, h => by
    rw [ReadsL] at h ⊢
    obtain ⟨x, rest, e, h1, h2⟩ := h
    exact ⟨x, rest, e, Reads.below m h1, ReadsL.below m h2⟩
end
mutual
theorem Reads.fewer {w : World} {X Y : List Nat} (hs : ∀ k, k ∈ Y → k ∈ X) : ∀ {d : Tree} {v : Value}, Reads w X d v → Reads w Y d v
  | .leaf _, _, h => by rw [Reads] at h ⊢; exact h
  | .row _ _ _, _, h => by
    rw [Reads] at h ⊢
    obtain ⟨xs, h1, h2, h3⟩ := h
    exact ⟨xs, h1, fun hn b hb hy => h2 hn b hb (hs b hy), ReadsL.fewer hs h3⟩
theorem ReadsL.fewer {w : World} {X Y : List Nat} (hs : ∀ k, k ∈ Y → k ∈ X) : ∀ {ds : List Tree} {xs : List Value}, ReadsL w X ds xs → ReadsL w Y ds xs
  | [], _, h => by rw [ReadsL] at h ⊢; exact h
  | _ :: _, _, h => by
    rw [ReadsL] at h ⊢
    obtain ⟨x, rest, e, h1, h2⟩ := h
    exact ⟨x, rest, e, Reads.fewer hs h1, ReadsL.fewer hs h2⟩
end
mutual
/-- Blocks that are not there yet hold nothing of it. -/
theorem Reads.more {w : World} {X : List Nat} {k : Nat} (hk : w.heap.size ≤ k) : ∀ {d : Tree} {v : Value}, Reads w X d v → Reads w (k :: X) d v
  | .leaf _, _, h => by rw [Reads] at h ⊢; exact h
  | .row _ n _, v, h => by
    rw [Reads] at h ⊢
    obtain ⟨xs, h1, h2, h3⟩ := h
    refine ⟨xs, h1, fun hn b hb hy => ?_, ReadsL.more hk h3⟩
    rcases List.mem_cons.1 hy with rfl | hy
    · obtain ⟨_, a, cap, rfl, _, _, h5⟩ := h1
      obtain ⟨b', o, rfl, hlt, _⟩ := h5 hn
      cases hb
      exact absurd hlt (Nat.not_lt.2 hk)
    · exact h2 hn b hb hy
theorem ReadsL.more {w : World} {X : List Nat} {k : Nat} (hk : w.heap.size ≤ k) : ∀ {ds : List Tree} {xs : List Value}, ReadsL w X ds xs → ReadsL w (k :: X) ds xs
  | [], _, h => by rw [ReadsL] at h ⊢; exact h
  | _ :: _, _, h => by
    rw [ReadsL] at h ⊢
    obtain ⟨x, rest, e, h1, h2⟩ := h
    exact ⟨x, rest, e, Reads.more hk h1, ReadsL.more hk h2⟩
end
theorem Reads.free {w : World} {X : List Nat} {d : Tree} {v : Value} (h : Reads w X d v) : Reads w [] d v := h.fewer (by simp)
theorem Reads.leafv {w : World} {X : List Nat} {u v : Value} (h : Reads w X (.leaf u) v) : v = u := by rw [Reads] at h; exact h
theorem Reads.leaf' (w : World) (X : List Nat) (u : Value) : Reads w X (.leaf u) u := by rw [Reads]

theorem ReadsL.nil (w : World) (X : List Nat) : ReadsL w X [] [] := by rw [ReadsL]
theorem ReadsL.cons {w : World} {X : List Nat} {d : Tree} {ds : List Tree} {x : Value} {xs : List Value} (h : Reads w X d x) (hs : ReadsL w X ds xs) : ReadsL w X (d :: ds) (x :: xs) := by
  rw [ReadsL]; exact ⟨x, xs, rfl, h, hs⟩
theorem ReadsL.inv {w : World} {X : List Nat} {d : Tree} {ds : List Tree} {xs : List Value} (h : ReadsL w X (d :: ds) xs) : ∃ x rest, xs = x :: rest ∧ Reads w X d x ∧ ReadsL w X ds rest := by
  rw [ReadsL] at h; exact h
theorem ReadsL.len {w : World} {X : List Nat} : ∀ {ds : List Tree} {xs : List Value}, ReadsL w X ds xs → xs.length = ds.length
  | [], _, h => by rw [ReadsL] at h; rw [h]; rfl
  | _ :: _, _, h => by obtain ⟨x, rest, rfl, _, h2⟩ := h.inv; simp [ReadsL.len h2]
theorem ReadsL.at {w : World} {X : List Nat} : ∀ {ds : List Tree} {xs : List Value} {i : Nat} {d : Tree}, ReadsL w X ds xs → ds[i]? = some d → ∃ x, xs[i]? = some x ∧ Reads w X d x
  | [], _, _, _, _, hi => by simp at hi
  | _ :: _, _, 0, _, h, hi => by
    obtain ⟨x, rest, rfl, h1, _⟩ := h.inv
    simp at hi; subst hi
    exact ⟨x, rfl, h1⟩
  | _ :: _, _, i + 1, d, h, hi => by
    obtain ⟨x, rest, rfl, _, h2⟩ := h.inv
    obtain ⟨y, a, b⟩ := ReadsL.at (i := i) (d := d) h2 (by simpa using hi)
    exact ⟨y, by simpa using a, b⟩
theorem ReadsL.append {w : World} {X : List Nat} {es : List Tree} {ys : List Value} (h' : ReadsL w X es ys) : ∀ {ds : List Tree} {xs : List Value}, ReadsL w X ds xs → ReadsL w X (ds ++ es) (xs ++ ys)
  | [], _, h => by rw [ReadsL] at h; rw [h]; exact h'
  | _ :: _, _, h => by
    obtain ⟨x, rest, rfl, h1, h2⟩ := h.inv
    exact ReadsL.cons h1 (ReadsL.append h' h2)
theorem ReadsL.take {w : World} {X : List Nat} : ∀ {ds : List Tree} {xs : List Value} (i : Nat), ReadsL w X ds xs → ReadsL w X (ds.take i) (xs.take i)
  | [], _, i, h => by rw [ReadsL] at h; rw [h]; simp [ReadsL]
  | _ :: _, _, 0, _ => by simp [ReadsL]
  | _ :: _, _, i + 1, h => by
    obtain ⟨x, rest, rfl, h1, h2⟩ := h.inv
    exact ReadsL.cons h1 (ReadsL.take i h2)
theorem ReadsL.drop {w : World} {X : List Nat} : ∀ {ds : List Tree} {xs : List Value} (i : Nat), ReadsL w X ds xs → ReadsL w X (ds.drop i) (xs.drop i)
  | [], _, i, h => by rw [ReadsL] at h; rw [h]; simp [ReadsL]
  | _ :: _, _, 0, h => h
  | _ :: _, _, i + 1, h => by
    obtain ⟨x, rest, rfl, _, h2⟩ := h.inv
    exact ReadsL.drop i h2

/-! Slices of elements that have cells each. -/
section
variable {α : Type}
/-- The datum of a slice of elements, each of 'size' cells. -/
def rowT (size : Nat) (f : α → List Tree) (l : List α) : Tree := .row size l.length (l.flatMap f)
theorem flatMap_len {size : Nat} {f : α → List Tree} (hf : ∀ a, (f a).length = size) : ∀ l : List α, (l.flatMap f).length = l.length * size
  | [] => by simp
  | a :: l => by simp [flatMap_len hf l, hf a, Nat.add_mul, Nat.add_comm]
theorem flatMap_at {size : Nat} {f : α → List Tree} (hf : ∀ a, (f a).length = size) : ∀ (l : List α) (i j : Nat) (a : α) (d : Tree), l[i]? = some a → (f a)[j]? = some d → (l.flatMap f)[i * size + j]? = some d
  | [], _, _, _, _, h, _ => by simp at h
  | x :: l, 0, j, a, d, h, hj => by
    simp at h; subst h
    have : j < (f x).length := (List.getElem?_eq_some_iff.1 hj).1
    rw [List.flatMap_cons, Nat.zero_mul, Nat.zero_add, List.getElem?_append_left this]
    exact hj
  | x :: l, i + 1, j, a, d, h, hj => by
    rw [List.flatMap_cons, List.getElem?_append_right (by rw [hf x, Nat.add_mul]; omega), hf x, show (i + 1) * size + j - size = i * size + j by rw [Nat.add_mul]; omega]
    exact flatMap_at hf l i j a d (by simpa using h) hj
theorem flatMap_take {size : Nat} {f : α → List Tree} (hf : ∀ a, (f a).length = size) : ∀ (l : List α) (i : Nat), (l.flatMap f).take (i * size) = (l.take i).flatMap f
  | [], i => by simp
  | x :: l, 0 => by simp
  | x :: l, i + 1 => by
    rw [List.flatMap_cons, List.take_append, hf x, show (i + 1) * size - size = i * size by rw [Nat.add_mul]; omega, flatMap_take hf l i, List.take_of_length_le (by rw [hf x, Nat.add_mul]; omega)]
    simp
theorem flatMap_drop {size : Nat} {f : α → List Tree} (hf : ∀ a, (f a).length = size) : ∀ (l : List α) (i : Nat), (l.flatMap f).drop (i * size) = (l.drop i).flatMap f
  | [], i => by simp
  | x :: l, 0 => by simp
  | x :: l, i + 1 => by
    rw [List.flatMap_cons, List.drop_append, hf x, show (i + 1) * size - size = i * size by rw [Nat.add_mul]; omega, flatMap_drop hf l i, List.drop_of_length_le (by rw [hf x, Nat.add_mul]; omega)]
    simp
/-- The value of such a slice. -/
theorem Reads.val {w : World} {X : List Nat} {size : Nat} {f : α → List Tree} {l : List α} {v : Value} (h : Reads w X (rowT size f l) v) :
    ∃ (a : Option Addr) (cap : Nat), v = .slice a l.length cap ∧ l.length ≤ cap ∧ cap ≤ 9223372036854775807 := by
  rw [rowT, Reads] at h
  obtain ⟨xs, ⟨_, a, cap, e, h1, h2, _⟩, _, _⟩ := h
  exact ⟨a, cap, e, h1, by unfold maxLen at h2; omega⟩
/-- An element's cells. -/
theorem Reads.elem {w : World} {X : List Nat} {size : Nat} {f : α → List Tree} (hf : ∀ a, (f a).length = size) {l : List α} {a : Option Addr} {cap : Nat} (h : Reads w X (rowT size f l) (.slice a l.length cap)) {i : Nat} {x : α} (hi : l[i]? = some x) :
    ∃ b o : Nat, a = some ⟨b, o, none⟩ ∧ b < w.heap.size ∧ ∀ j d, (f x)[j]? = some d → ∃ u, w.cell? ⟨b, o + i * size + j, none⟩ = some u ∧ Reads w X d u := by
  rw [rowT, Reads] at h
  obtain ⟨xs, ⟨_, a', cap', e, _, _, h3⟩, _, hr⟩ := h
  cases e
  have hlt : i < l.length := (List.getElem?_eq_some_iff.1 hi).1
  obtain ⟨b, o, rfl, hb, hc⟩ := h3 (by omega)
  refine ⟨b, o, rfl, hb, fun j d hj => ?_⟩
  obtain ⟨u, hu, hd⟩ := hr.at (flatMap_at hf l i j x d hi hj)
  exact ⟨u, by have := hc _ _ hu; rwa [← Nat.add_assoc] at this, hd⟩
theorem Reads.nilRow (w : World) (X : List Nat) (size : Nat) (f : α → List Tree) : Reads w X (rowT size f []) (.slice none 0 0) := by
  rw [rowT, Reads]
  exact ⟨[], ⟨by simp, none, 0, rfl, Nat.le_refl _, Nat.zero_le _, fun h => absurd h (Nat.lt_irrefl _)⟩, fun h => absurd h (Nat.lt_irrefl _), by simp [ReadsL]⟩
/-- The first i elements. -/
theorem Reads.takeRow {w : World} {X : List Nat} {size : Nat} {f : α → List Tree} (hf : ∀ a, (f a).length = size) {l : List α} {a : Option Addr} {cap i : Nat} (h : Reads w X (rowT size f l) (.slice a l.length cap)) (hi : i ≤ l.length) :
    Reads w X (rowT size f (l.take i)) (.slice a i cap) := by
  rw [rowT, Reads] at h ⊢
  obtain ⟨xs, ⟨hl, a', cap', e, h1, h2, h3⟩, hx, hr⟩ := h
  cases e
  have hlen : (l.take i).length = i := by rw [List.length_take]; omega
  refine ⟨xs.take (i * size), ⟨by rw [hlen, List.length_take, hl]; exact Nat.min_eq_left (Nat.mul_le_mul_right _ hi), a, cap, by rw [hlen], by rw [hlen]; omega, h2, fun hn => ?_⟩, fun hn b hb => hx (by omega) b (by cases a <;> exact hb), ?_⟩
  · obtain ⟨b, o, rfl, hb, hc⟩ := h3 (by omega)
    refine ⟨b, o, rfl, hb, fun j u hj => hc j u ?_⟩
    rw [List.getElem?_take] at hj
    split at hj
    · exact hj
    · cases hj
  · rw [← flatMap_take hf]; exact hr.take _
/-- The elements from the i-th on. -/
theorem Reads.dropRow {w : World} {X : List Nat} {size : Nat} {f : α → List Tree} (hf : ∀ a, (f a).length = size) {l : List α} {b o cap i : Nat} (h : Reads w X (rowT size f l) (.slice (some ⟨b, o, none⟩) l.length cap)) (hi : i ≤ l.length) :
    Reads w X (rowT size f (l.drop i)) (.slice (some ⟨b, o + i * size, none⟩) (l.length - i) (cap - i)) := by
  rw [rowT, Reads] at h ⊢
  obtain ⟨xs, ⟨hl, a', cap', e, h1, h2, h3⟩, hx, hr⟩ := h
  cases e
  have hlen : (l.drop i).length = l.length - i := by rw [List.length_drop]
  refine ⟨xs.drop (i * size), ⟨by rw [hlen, List.length_drop, hl, Nat.sub_mul], _, cap - i, by rw [hlen], by rw [hlen]; omega, by omega, fun hn => ?_⟩, fun hn b hb => hx (by omega) b hb, ?_⟩
  · obtain ⟨b', o', e, hb, hc⟩ := h3 (by omega)
    cases e
    refine ⟨b, _, rfl, hb, fun j u hj => ?_⟩
    rw [List.getElem?_drop] at hj
    have := hc _ u hj
    rwa [← Nat.add_assoc] at this
  · rw [← flatMap_drop hf]; exact hr.drop _
/-- From the cells that a slice owns. -/
theorem Reads.ofRow {w : World} {X : List Nat} {size : Nat} {f : α → List Tree} {l : List α} {v : Value} {xs : List Value} (h : IsRow w size v l.length xs) (hx : 0 < l.length → ∀ b, v.ownBlock = some b → b ∉ X) (hr : ReadsL w X (l.flatMap f) xs) : Reads w X (rowT size f l) v := by
  rw [rowT, Reads]; exact ⟨xs, h, hx, hr⟩
theorem Reads.toRow {w : World} {X : List Nat} {size : Nat} {f : α → List Tree} {l : List α} {v : Value} (h : Reads w X (rowT size f l) v) : ∃ xs, IsRow w size v l.length xs ∧ (0 < l.length → ∀ b, v.ownBlock = some b → b ∉ X) ∧ ReadsL w X (l.flatMap f) xs := by
  rw [rowT, Reads] at h; exact h
end

/-! Slices of strings. -/
def strT (s : ByteArray) : Tree := .leaf (.string s)
def strsT (ss : List ByteArray) : Tree := rowT 1 (fun s => [strT s]) ss
theorem readsL_strs {w : World} {X : List Nat} : ∀ {ss : List ByteArray} {xs : List Value}, ReadsL w X (ss.flatMap fun s => [strT s]) xs ↔ xs = ss.map .string
  | [], xs => by simp [ReadsL]
  | s :: ss, xs => by
    rw [List.flatMap_cons, List.map_cons]
    constructor
    · intro h
      obtain ⟨x, rest, rfl, h1, h2⟩ := ReadsL.inv h
      rw [Reads.leafv h1, readsL_strs.1 h2]
    · rintro rfl
      exact ReadsL.cons (Reads.leaf' _ _ _) (readsL_strs.2 rfl)
theorem reads_strs {w : World} {X : List Nat} {ss : List ByteArray} {v : Value} : Reads w X (strsT ss) v ↔ Strs w v ss ∧ (0 < ss.length → ∀ b, v.ownBlock = some b → b ∉ X) := by
  constructor
  · intro h
    obtain ⟨xs, h1, h2, h3⟩ := Reads.toRow h
    rw [readsL_strs.1 h3] at h1
    exact ⟨h1, h2⟩
  · rintro ⟨h1, h2⟩
    exact Reads.ofRow h1 h2 (readsL_strs.2 rfl)
end Go.Proofs.YtidkpnabdfiilaaGreatDoor

namespace Go.Proofs.YtidkpnabdfiilaaGreatDoor
open Go.Maps (Keyed)
open Go.RowKit

def heldE (v : Value) : Option (DataW Value × List MemPlace) := some (.held v, [])
/-- Block b is a map of at most n entries that holds f. -/
def IsMapS (P : Program) (k : TypeId) (w : World) (b n : Nat) (f : List UInt8 → Option Value) : Prop :=
  ∃ D : DataW Value, w.ownsMap P k heldE b n D ∧ Maps.IsMap D ∧ ∀ s, (∀ z, D.atKey (.string s) (.held z) = .held ((f s).getD z)) ∧ Maps.has D (.string s) = (f s).isSome
theorem IsMapS.made (P : Program) (k : TypeId) (w : World) : IsMapS P k (w.alloc (.map #[] 0)) w.heap.size 0 (fun _ => none) :=
  ⟨.map [], World.ownsMap_made w P k heldE, ⟨[], rfl⟩, fun _ => ⟨fun _ => rfl, rfl⟩⟩
theorem IsMapS.lt {P : Program} {k : TypeId} {w : World} {b n : Nat} {f : List UInt8 → Option Value} (h : IsMapS P k w b n f) : b < w.heap.size := by
  obtain ⟨D, h1, _⟩ := h; exact h1.lt
theorem IsMapS.kept {P : Program} {k : TypeId} {w w' : World} {b n : Nat} {f : List UInt8 → Option Value} {row : Option Nat} (h : IsMapS P k w b n f) (g : w.grownBy w' row) (hne : some b ≠ row) : IsMapS P k w' b n f := by
  obtain ⟨D, h1, h2⟩ := h; exact ⟨D, h1.kept g hne, h2⟩
theorem IsMapS.block {P : Program} {k : TypeId} {w w' : World} {b n : Nat} {f : List UInt8 → Option Value} (h : IsMapS P k w b n f) (e : w'.heap[b]? = w.heap[b]?) : IsMapS P k w' b n f := by
  obtain ⟨D, ⟨es, c, h1, h2⟩, h3⟩ := h; exact ⟨D, ⟨es, c, e.trans h1, h2⟩, h3⟩
theorem IsMapS.below {P : Program} {k : TypeId} {w w' : World} {b n : Nat} {f : List UInt8 → Option Value} (h : IsMapS P k w b n f) (m : Below w.heap.size w w') : IsMapS P k w' b n f := h.block (m.block _ h.lt)
theorem IsMapS.look {P : Program} {k t e : TypeId} {w : World} {b n : Nat} {f : List UInt8 → Option Value} (h : IsMapS P k w b n f) (K : Keyed P k) (ht : P.underlying t = some (.map k e)) {z : Value} (hz : (zeroValue e).run P w = .ok z w)
    {s : ByteArray} (hk : keyOf P k (.string s) = some (.string s.data.toList)) : (Instr.lookup t (.map (some b)) (.string s) false).run P w = .ok ((f s.data.toList).getD z) w := by
  obtain ⟨D, h1, _, h3⟩ := h
  obtain ⟨v, ps, hr, hv⟩ := h1.lookup K ht hz (zd := .held z) (zp := []) rfl hk
  rw [(h3 _).1] at hv
  unfold heldE at hv
  injection hv with hv
  injection hv with hv
  injection hv with hv
  rw [hr, hv]
theorem IsMapS.lookOk {P : Program} {k t e : TypeId} {w : World} {b n : Nat} {f : List UInt8 → Option Value} (h : IsMapS P k w b n f) (K : Keyed P k) (ht : P.underlying t = some (.map k e)) {z : Value} (hz : (zeroValue e).run P w = .ok z w)
    {s : ByteArray} (hk : keyOf P k (.string s) = some (.string s.data.toList)) : (Instr.lookup t (.map (some b)) (.string s) true).run P w = .ok (.tuple #[(f s.data.toList).getD z, .bool (f s.data.toList).isSome]) w := by
  obtain ⟨D, h1, _, h3⟩ := h
  obtain ⟨v, ps, hr, hv⟩ := h1.look_ok K ht hz (zd := .held z) (zp := []) rfl hk
  rw [(h3 _).1] at hv
  unfold heldE at hv
  injection hv with hv
  injection hv with hv
  injection hv with hv
  rw [hr, hv, (h3 _).2]
theorem IsMapS.put {P : Program} {k t e : TypeId} {w : World} {b n : Nat} {f : List UInt8 → Option Value} (h : IsMapS P k w b n f) (K : Keyed P k) (ht : P.underlying t = some (.map k e)) (hn : n < maxLen)
    {s : ByteArray} (hk : keyOf P k (.string s) = some (.string s.data.toList)) (v : Value) :
    ∃ w', (Instr.mapUpdate t (.map (some b)) (.string s) v).run P w = .ok () w' ∧ IsMapS P k w' b (n + 1) (fun x => if x = s.data.toList then some v else f x) ∧ w.grownBy w' (some b) := by
  obtain ⟨D, h1, h2, h3⟩ := h
  obtain ⟨w', hr, ho, hg⟩ := h1.update K ht hn hk (val := v) (d := .held v) (ps := []) rfl
  refine ⟨w', hr, ⟨_, ho, ?_, fun x => ?_⟩, hg⟩
  · obtain ⟨es, rfl⟩ := h2; exact ⟨_, rfl⟩
  · by_cases hx : x = s.data.toList
    · subst hx
      simp only [if_pos]
      exact ⟨fun z => Maps.atKey_put_same h2 (K.key hk) _ _, Maps.has_put_same h2 (K.key hk) _⟩
    · simp only [if_neg hx]
      have hne : (Lit.string x) ≠ .string s.data.toList := fun e => hx (by injection e)
      exact ⟨fun z => by rw [Maps.atKey_put_other hne]; exact (h3 x).1 z, by rw [Maps.has_put_other hne]; exact (h3 x).2⟩
end Go.Proofs.YtidkpnabdfiilaaGreatDoor
