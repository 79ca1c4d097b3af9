/- Slices of rules in memory. -/
import Derived.Test.YtgcmekpfhagnbaaDoorBfE
namespace Go.Proofs.YtgcmekpfhagnbaaDoor
open Go.RowKit

/-- The cells of rules; no list of theirs lies in a block of X. -/
def RuleCells (w : World) (X : List Nat) : List Rule → List Value → Prop
  | [], xs => xs = []
  | r :: rs, xs => ∃ dv vv rest, xs = .int .i64 r.kind :: .string r.name :: dv :: vv :: rest ∧ (Strs w dv r.deps ∧ ∀ b, dv.ownBlock = some b → b ∉ X) ∧ (Strs w vv r.vis ∧ ∀ b, vv.ownBlock = some b → b ∉ X) ∧ RuleCells w X rs rest
def IsRules (w : World) (v : Value) (rs : List Rule) : Prop := ∃ xs, IsRow w 4 v rs.length xs ∧ RuleCells w [] rs xs

theorem RuleCells.mod {w w' : World} {X : List Nat} (m : Mod X w w') : ∀ {rs : List Rule} {xs : List Value}, RuleCells w X rs xs → RuleCells w' X rs xs
  | [], _, h => h
  | _ :: _, _, ⟨dv, vv, rest, e, ⟨h1, x1⟩, ⟨h2, x2⟩, h3⟩ => ⟨dv, vv, rest, e, ⟨h1.mod m x1, x1⟩, ⟨h2.mod m x2, x2⟩, RuleCells.mod m h3⟩
theorem RuleCells.fewer {w : World} {X Y : List Nat} (hs : ∀ k, k ∈ Y → k ∈ X) : ∀ {rs : List Rule} {xs : List Value}, RuleCells w X rs xs → RuleCells w Y rs xs
  | [], _, h => h
  | _ :: _, _, ⟨dv, vv, rest, e, ⟨h1, x1⟩, ⟨h2, x2⟩, h3⟩ => ⟨dv, vv, rest, e, ⟨h1, fun b hb hy => x1 b hb (hs b hy)⟩, ⟨h2, fun b hb hy => x2 b hb (hs b hy)⟩, RuleCells.fewer hs h3⟩
theorem RuleCells.snoc {w : World} {X : List Nat} {r : Rule} {dv vv : Value} (h1 : Strs w dv r.deps) (x1 : ∀ b, dv.ownBlock = some b → b ∉ X) (h2 : Strs w vv r.vis) (x2 : ∀ b, vv.ownBlock = some b → b ∉ X) :
    ∀ {rs : List Rule} {xs : List Value}, RuleCells w X rs xs → RuleCells w X (rs ++ [r]) (xs ++ [.int .i64 r.kind, .string r.name, dv, vv])
  | [], _, h => by rw [show _ = [] from h]; exact ⟨dv, vv, [], rfl, ⟨h1, x1⟩, ⟨h2, x2⟩, rfl⟩
  | _ :: _, _, ⟨d, v, rest, e, g1, g2, h3⟩ => by
    rw [e]
    exact ⟨d, v, rest ++ [.int .i64 r.kind, .string r.name, dv, vv], rfl, g1, g2, RuleCells.snoc h1 x1 h2 x2 h3⟩
theorem RuleCells.at {w : World} {X : List Nat} : ∀ {rs : List Rule} {xs : List Value} {i : Nat} {r : Rule}, RuleCells w X rs xs → rs[i]? = some r →
    ∃ dv vv, xs[i * 4]? = some (.int .i64 r.kind) ∧ xs[i * 4 + 1]? = some (.string r.name) ∧ xs[i * 4 + 2]? = some dv ∧ xs[i * 4 + 3]? = some vv ∧ Strs w dv r.deps ∧ Strs w vv r.vis
  | [], _, _, _, _, hi => by simp at hi
  | _ :: _, _, 0, _, ⟨dv, vv, rest, e, h1, h2, _⟩, hi => by
    simp at hi; subst hi; rw [e]; exact ⟨dv, vv, rfl, rfl, rfl, rfl, h1.1, h2.1⟩
  | _ :: _, _, i + 1, r, ⟨_, _, rest, e, _, _, h3⟩, hi => by
    obtain ⟨dv, vv, a, b, c, d, f, g⟩ := RuleCells.at (i := i) (r := r) h3 (by simpa using hi)
    refine ⟨dv, vv, ?_, ?_, ?_, ?_, f, g⟩
    all_goals rw [e]
    · rw [show (i + 1) * 4 = i * 4 + 1 + 1 + 1 + 1 by omega]; simpa using a
    · rw [show (i + 1) * 4 + 1 = (i * 4 + 1) + 1 + 1 + 1 + 1 by omega]; simpa using b
    · rw [show (i + 1) * 4 + 2 = (i * 4 + 2) + 1 + 1 + 1 + 1 by omega]; simpa using c
    · rw [show (i + 1) * 4 + 3 = (i * 4 + 3) + 1 + 1 + 1 + 1 by omega]; simpa using d
theorem RuleCells.take {w : World} {X : List Nat} : ∀ {rs : List Rule} {xs : List Value} (i : Nat), RuleCells w X rs xs → RuleCells w X (rs.take i) (xs.take (i * 4))
  | [], _, i, h => by rw [show _ = [] from h]; simp [RuleCells]
  | _ :: _, _, 0, _ => by simp [RuleCells]
  | r :: rs, _, i + 1, ⟨dv, vv, rest, e, h1, h2, h3⟩ => by
    rw [e, show (i + 1) * 4 = i * 4 + 1 + 1 + 1 + 1 by omega]
    exact ⟨dv, vv, rest.take (i * 4), by simp, h1, h2, RuleCells.take i h3⟩
theorem RuleCells.len {w : World} {X : List Nat} : ∀ {rs : List Rule} {xs : List Value}, RuleCells w X rs xs → xs.length = rs.length * 4
  | [], _, h => by rw [show _ = [] from h]; rfl
  | _ :: _, _, ⟨_, _, rest, e, _, _, h3⟩ => by rw [e]; simp [RuleCells.len h3]; omega

theorem IsRules.below {w w' : World} {v : Value} {rs : List Rule} (h : IsRules w v rs) (m : Below w.heap.size w w') : IsRules w' v rs := by
  obtain ⟨xs, h1, h2⟩ := h
  exact ⟨xs, h1.below m, h2.mod (Mod.of m)⟩
theorem IsRules.drewN {w : World} {v : Value} {rs : List Rule} (h : IsRules w v rs) (n : Nat) : IsRules (w.drewN n) v rs := h.below (below_drewN (qrefl w) n)
/-- The value of a slice of rules, and the cells of its elements. -/
theorem IsRules.shape {w : World} {v : Value} {rs : List Rule} (h : IsRules w v rs) : ∃ (a : Option Addr) (cap : Nat), v = .slice a rs.length cap ∧ rs.length ≤ cap ∧ cap ≤ maxLen ∧
    (∀ i r, rs[i]? = some r → ∃ (b o : Nat) (dv vv : Value), a = some ⟨b, o, none⟩ ∧ b < w.heap.size ∧ w.cell? ⟨b, o + i * 4, none⟩ = some (.int .i64 r.kind) ∧ w.cell? ⟨b, o + i * 4 + 1, none⟩ = some (.string r.name) ∧
      w.cell? ⟨b, o + i * 4 + 2, none⟩ = some dv ∧ w.cell? ⟨b, o + i * 4 + 3, none⟩ = some vv ∧ Strs w dv r.deps ∧ Strs w vv r.vis) := by
  obtain ⟨xs, ⟨_, a, cap, rfl, h1, h2, h3⟩, hc⟩ := h
  refine ⟨a, cap, rfl, h1, h2, fun i r hi => ?_⟩
  have hlt : i < rs.length := (List.getElem?_eq_some_iff.1 hi).1
  obtain ⟨b, o, rfl, hb, hx⟩ := h3 (by omega)
  obtain ⟨dv, vv, c0, c1, c2, c3, sd, sv⟩ := hc.at hi
  exact ⟨b, o, dv, vv, rfl, hb, hx _ _ c0, by have := hx _ _ c1; rwa [← Nat.add_assoc] at this, by have := hx _ _ c2; rwa [← Nat.add_assoc] at this, by have := hx _ _ c3; rwa [← Nat.add_assoc] at this, sd, sv⟩
theorem IsRules.take {w : World} {b o cap i : Nat} {rs : List Rule} (h : IsRules w (.slice (some ⟨b, o, none⟩) rs.length cap) rs) (hi : i ≤ rs.length) : IsRules w (.slice (some ⟨b, o, none⟩) i cap) (rs.take i) := by
  obtain ⟨xs, ⟨hl, a, cap', e, h1, h2, h3⟩, hc⟩ := h
  cases e
  have hlen : (rs.take i).length = i := by rw [List.length_take]; omega
  refine ⟨xs.take (i * 4), ⟨by rw [hlen, List.length_take]; omega, some ⟨b, o, none⟩, cap, by rw [hlen], by rw [hlen]; omega, h2, fun hn => ?_⟩, hc.take i⟩
  obtain ⟨b', o', e, hb, hx⟩ := h3 (by omega)
  cases e
  refine ⟨b, o, rfl, hb, fun j u hj => hx j u ?_⟩
  rw [List.getElem?_take] at hj
  split at hj
  · exact hj
  · cases hj

theorem Strs.val {w : World} {v : Value} {ss : List ByteArray} (h : Strs w v ss) : ∃ (a : Option Addr) (cap : Nat), v = .slice a ss.length cap := by
  obtain ⟨a, cap, e, _⟩ := h.shape; exact ⟨a, cap, e⟩
theorem IsRules.val {w : World} {v : Value} {rs : List Rule} (h : IsRules w v rs) : ∃ (a : Option Addr) (cap : Nat), v = .slice a rs.length cap ∧ rs.length ≤ cap ∧ cap ≤ 9223372036854775807 := by
  obtain ⟨a, cap, e, h1, h2, _⟩ := h.shape; exact ⟨a, cap, e, h1, by unfold maxLen at h2; omega⟩
theorem IsRules.elem {w : World} {a : Option Addr} {cap : Nat} {rs : List Rule} (h : IsRules w (.slice a rs.length cap) rs) {i : Nat} {r : Rule} (hi : rs[i]? = some r) :
    ∃ (b o : Nat) (ad : Option Addr) (cd : Nat) (av : Option Addr) (cv : Nat), a = some ⟨b, o, none⟩ ∧ b < w.heap.size ∧ w.cell? ⟨b, o + i * 4, none⟩ = some (.int .i64 r.kind) ∧ w.cell? ⟨b, o + i * 4 + 1, none⟩ = some (.string r.name) ∧
      w.cell? ⟨b, o + i * 4 + 2, none⟩ = some (.slice ad r.deps.length cd) ∧ w.cell? ⟨b, o + i * 4 + 3, none⟩ = some (.slice av r.vis.length cv) ∧ Hid (Strs w (.slice ad r.deps.length cd) r.deps) ∧ Hid (Strs w (.slice av r.vis.length cv) r.vis) := by
  obtain ⟨a', cap', e, _, _, h3⟩ := h.shape
  cases e
  obtain ⟨b, o, dv, vv, rfl, hb, c0, c1, c2, c3, sd, sv⟩ := h3 i r hi
  obtain ⟨ad, cd, rfl⟩ := sd.val
  obtain ⟨av, cv, rfl⟩ := sv.val
  exact ⟨b, o, ad, cd, av, cv, rfl, hb, c0, c1, c2, c3, sd, sv⟩
/-! The plain check. -/
def nameIn (nm : ByteArray) (rs : List Rule) : Bool := rs.any fun o => o.name.data.toList == nm.data.toList
def checkFrom (pre : List Rule) : List Rule → Int
  | [] => 0
  | r :: rest => if ruleErr r = 0 then (if nameIn r.name pre then 7 else checkFrom (pre ++ [r]) rest) else ruleErr r
def checkErr (rs : List Rule) : Int := if 100 < rs.length then 4 else checkFrom [] rs
theorem checkFrom_at {rs : List Rule} {k : Nat} {r : Rule} (hr : rs[k]? = some r) :
    checkFrom (rs.take k) (rs.drop k) = if ruleErr r = 0 then (if nameIn r.name (rs.take k) then 7 else checkFrom (rs.take (k + 1)) (rs.drop (k + 1))) else ruleErr r := by
  obtain ⟨hk, e⟩ := List.getElem?_eq_some_iff.1 hr
  rw [List.drop_eq_getElem_cons hk, checkFrom, e, List.take_succ_eq_append_getElem hk, e]
theorem nameIn_at {nm : ByteArray} {rs : List Rule} {k : Nat} {r : Rule} (hr : rs[k]? = some r) (h : (r.name.toList == nm.toList) = true) : nameIn nm rs = true := by
  obtain ⟨hk, e⟩ := List.getElem?_eq_some_iff.1 hr
  rw [nameIn, List.any_eq_true]
  refine ⟨r, by rw [← e]; exact List.getElem_mem hk, ?_⟩
  rw [tl, tl] at h
  exact h
theorem nameIn_none {nm : ByteArray} {rs : List Rule} (h : ∀ (k : Nat) (r : Rule), rs[k]? = some r → (r.name.toList == nm.toList) = false) : nameIn nm rs = false := by
  rw [nameIn, List.any_eq_false]
  intro r hr
  obtain ⟨k, hk, rfl⟩ := List.getElem_of_mem hr
  have := h k rs[k] (List.getElem?_eq_getElem hk)
  rw [tl, tl] at this
  rw [Bool.not_eq_true]
  exact this
end Go.Proofs.YtgcmekpfhagnbaaDoor
