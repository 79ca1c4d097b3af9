/- The text of rules, plainly; what valid rules have. -/
import Derived.Test.YtidkpnabdfiilaaGreatDoorGtA
import Derived.Lib.Join
namespace Go.Proofs.YtidkpnabdfiilaaGreatDoor

def blanks (l : List ByteArray) : List UInt8 := (l.map fun s => 32 :: s.data.toList).flatten
def headO (p : ByteArray) : List UInt8 := if p.data.toList = [] then wAll else wPrefix ++ 32 :: p.data.toList
def groupL (g : List ByteArray) : List UInt8 := 32 :: wGroup ++ blanks g
def lineO (r : ORule) : List UInt8 := headO r.pre ++ (r.groups.map groupL).flatten ++ [32, 59, 10]
def textO (rs : List ORule) : List UInt8 := (rs.map lineO).flatten
def printO (rs : List ORule) : ByteArray × Int := if ocheckErr rs = 0 then (bOf (textO rs), 0) else (⟨#[]⟩, ocheckErr rs)
structure GoodO (r : ORule) : Prop where
  pre : preB r.pre.data.toList = true
  len : 0 < r.groups.length ∧ r.groups.length ≤ 8
  each : ∀ g ∈ r.groups, 0 < g.length ∧ g.length ≤ 20 ∧ ∀ s ∈ g, personB s.data.toList = true
theorem groupErr_ok : ∀ {g pre : List ByteArray}, groupErr pre g = 0 → ∀ s ∈ g, personB s.data.toList = true
  | [], _, _, s, hs => by cases hs
  | x :: g, pre, h, s, hs => by
    rw [groupErr] at h
    split at h
    · rename_i hp
      split at h
      · cases h
      · rcases List.mem_cons.1 hs with rfl | hs
        · exact hp
        · exact groupErr_ok h s hs
    · cases h
theorem groupsErr_ok : ∀ {gs : List (List ByteArray)}, groupsErr gs = 0 → ∀ g ∈ gs, groupErr [] g = 0
  | [], _, g, hg => by cases hg
  | x :: gs, h, g, hg => by
    rw [groupsErr] at h
    split at h
    · rename_i h0
      rcases List.mem_cons.1 hg with rfl | hg
      · exact h0
      · exact groupsErr_ok h g hg
    · rename_i h0; exact absurd h h0
theorem orule_good {r : ORule} (h : oruleErr r = 0) : GoodO r := by
  unfold oruleErr at h
  split at h
  · rename_i hp
    split at h
    · cases h
    · rename_i h1
      split at h
      · cases h
      · rename_i h2
        simp only [Bool.or_eq_true, beq_iff_eq, not_or, someEmpty, List.any_eq_true, not_exists, not_and] at h1
        simp only [Bool.or_eq_true, decide_eq_true_eq, not_or, someBig, List.any_eq_true, not_exists, not_and] at h2
        exact ⟨hp, ⟨by omega, by omega⟩, fun g hg => ⟨by have := h1.2 g hg; omega, by have := h2.2 g hg; omega, groupErr_ok (groupsErr_ok h g hg)⟩⟩
  · cases h
theorem ocheckFrom_ok : ∀ {rs pre : List ORule}, ocheckFrom pre rs = 0 → ∀ r ∈ rs, oruleErr r = 0
  | [], _, _, r, hr => by cases hr
  | x :: rs, pre, h, r, hr => by
    rw [ocheckFrom] at h
    split at h
    · rename_i h0
      split at h
      · cases h
      · rcases List.mem_cons.1 hr with rfl | hr
        · exact h0
        · exact ocheckFrom_ok h r hr
    · rename_i h0; exact absurd h h0
theorem ocheck_ok {rs : List ORule} (h : ocheckErr rs = 0) : rs.length ≤ 100 ∧ ∀ r ∈ rs, GoodO r := by
  unfold ocheckErr at h
  split at h
  · cases h
  · exact ⟨by omega, fun r hr => orule_good (ocheckFrom_ok h r hr)⟩
theorem person_len {l : List UInt8} (h : personB l = true) : 1 ≤ l.length ∧ l.length ≤ 24 := by
  unfold personB nameB at h
  simp only [Bool.and_eq_true, decide_eq_true_eq] at h
  exact ⟨h.2.1.1.1.1, h.2.1.1.1.2⟩
theorem pre_len {l : List UInt8} (h : preB l = true) : l.length ≤ 100 := by
  unfold preB at h
  simp only [Bool.and_eq_true, decide_eq_true_eq] at h
  exact h.1
theorem blanks_len (m : Nat) : ∀ {l : List ByteArray}, (∀ s ∈ l, s.data.toList.length ≤ m) → (blanks l).length ≤ l.length * (m + 1)
  | [], _ => by simp [blanks]
  | s :: l, h => by
    have ih := blanks_len m (l := l) (fun x hx => h x (List.mem_cons_of_mem _ hx))
    have hs := h s (List.mem_cons_self ..)
    have e : blanks (s :: l) = 32 :: s.data.toList ++ blanks l := by simp [blanks]
    rw [e, List.length_append, List.length_cons, List.length_cons, Nat.add_mul, Nat.one_mul]
    omega
theorem groupL_len {g : List ByteArray} (h : g.length ≤ 20) (hp : ∀ s ∈ g, personB s.data.toList = true) : (groupL g).length ≤ 506 := by
  have h1 := blanks_len 24 (l := g) (fun s hs => (person_len (hp s hs)).2)
  have e : (groupL g).length = 6 + (blanks g).length := by
    have : wGroup.length = 5 := rfl
    simp [groupL]; omega
  have : g.length * (24 + 1) ≤ 20 * (24 + 1) := Nat.mul_le_mul_right _ h
  omega
theorem flat_len (m : Nat) : ∀ {l : List (List UInt8)}, (∀ x ∈ l, x.length ≤ m) → l.flatten.length ≤ l.length * m
  | [], _ => by simp
  | x :: l, h => by
    have ih := flat_len m (l := l) (fun y hy => h y (List.mem_cons_of_mem _ hy))
    have := h x (List.mem_cons_self ..)
    rw [List.flatten_cons, List.length_append, List.length_cons, Nat.add_mul, Nat.one_mul]
    omega
theorem headO_len {p : ByteArray} (h : preB p.data.toList = true) : (headO p).length ≤ 107 := by
  have := pre_len h
  unfold headO
  split
  · decide
  · have e : wPrefix.length = 6 := rfl
    rw [List.length_append, List.length_cons, e]; omega
theorem groups_len {gs : List (List ByteArray)} (hl : gs.length ≤ 8) (h : ∀ g ∈ gs, g.length ≤ 20 ∧ ∀ s ∈ g, personB s.data.toList = true) : (gs.map groupL).flatten.length ≤ 4048 := by
  have h1 := flat_len 506 (l := gs.map groupL) (fun x hx => by
    obtain ⟨g, hg, rfl⟩ := List.mem_map.1 hx
    exact groupL_len (h g hg).1 (h g hg).2)
  rw [List.length_map] at h1
  have : gs.length * 506 ≤ 8 * 506 := Nat.mul_le_mul_right _ hl
  omega
theorem lineO_len {r : ORule} (h : GoodO r) : (lineO r).length ≤ 4158 := by
  have h1 := headO_len h.pre
  have h2 := groups_len h.len.2 (fun g hg => (h.each g hg).2)
  unfold lineO
  rw [List.length_append, List.length_append]
  simp only [List.length_cons, List.length_nil]
  omega
theorem textO_len {rs : List ORule} (h : ∀ r ∈ rs, GoodO r) : (textO rs).length ≤ rs.length * 4158 := by
  have := flat_len 4158 (l := rs.map lineO) (fun x hx => by
    obtain ⟨r, hr, rfl⟩ := List.mem_map.1 hx
    exact lineO_len (h r hr))
  rwa [List.length_map] at this
theorem textO_snoc {rs : List ORule} {k : Nat} {r : ORule} (h : rs[k]? = some r) : textO (rs.take (k + 1)) = textO (rs.take k) ++ lineO r := by
  rw [take_at h]; simp [textO]
theorem groupsL_snoc {gs : List (List ByteArray)} {k : Nat} {g : List ByteArray} (h : gs[k]? = some g) : ((gs.take (k + 1)).map groupL).flatten = ((gs.take k).map groupL).flatten ++ groupL g := by
  rw [take_at h]; simp
theorem join_blanks (x : ByteArray) : ∀ l : List ByteArray, Lib.join ((x :: l).map (·.data.toList)) [32] = x.data.toList ++ blanks l
  | [] => by simp [Lib.join_one, blanks]
  | y :: l => by
    have e : Lib.join ((x :: y :: l).map (·.data.toList)) [32] = x.data.toList ++ ([32] ++ Lib.join ((y :: l).map (·.data.toList)) [32]) := by simp [Lib.join, List.intercalate]
    rw [e, join_blanks y l]
    simp [blanks]
theorem groupL_join {g : List ByteArray} (h : 0 < g.length) : [32, 103, 114, 111, 117, 112, 32] ++ Lib.join (g.map (·.data.toList)) [32] = groupL g := by
  cases g with
  | nil => simp at h
  | cons x l => rw [join_blanks]; simp [groupL, wGroup, blanks]
end Go.Proofs.YtidkpnabdfiilaaGreatDoor
