/- buildfile.Print: the words of a rule in memory; the plain text. -/
import Derived.Test.YtgcmekpfhagnbaaDoorRpD
import Derived.Test.YtgcmekpfhagnbaaDoorBfH
import Derived.Test.YtgcmekpfhagnbaaDoorRO
import Derived.Test.YtgcmekpfhagnbaaDoorShA
namespace Go.Proofs.YtgcmekpfhagnbaaDoor
open Go.RowKit

def kindB (k : Int) : ByteArray := if k = 2 then b_test else b_lib
def secOf (txt : ByteArray) (l : List ByteArray) : List ByteArray := if l.length = 0 then [] else txt :: l
def wordsR (r : Rule) : List ByteArray := [kindB r.kind, r.name] ++ secOf bb_deps r.deps ++ secOf bb_visible r.vis ++ [b_semi]
def lineOf (r : Rule) : List UInt8 := Lib.join ((wordsR r).map (·.data.toList)) [32] ++ [10]
def textOf (rs : List Rule) : List UInt8 := (rs.map lineOf).flatten
def printR (rs : List Rule) : ByteArray × Int := if checkErr rs = 0 then (⟨(textOf rs).toArray⟩, 0) else (⟨#[]⟩, checkErr rs)

theorem checkFrom_ok : ∀ {rs pre : List Rule}, checkFrom pre rs = 0 → ∀ r ∈ rs, ruleErr r = 0
  | [], _, _, r, hr => by cases hr
  | q :: rs, pre, h, r, hr => by
    rw [checkFrom] at h
    split at h
    · rename_i h0
      split at h
      · cases h
      · rcases List.mem_cons.1 hr with rfl | hr
        · exact h0
        · exact checkFrom_ok h r hr
    · rename_i h0; exact absurd h h0
theorem checkErr_ok {rs : List Rule} (h : checkErr rs = 0) : rs.length ≤ 100 ∧ ∀ r ∈ rs, ruleErr r = 0 := by
  unfold checkErr at h
  split at h
  · cases h
  · exact ⟨by omega, checkFrom_ok h⟩
theorem ruleErr_len {r : Rule} (h : ruleErr r = 0) : r.deps.length ≤ 20 ∧ r.vis.length ≤ 20 := by
  unfold ruleErr at h
  split at h
  · cases h
  · split at h
    · cases h
    · split at h
      · cases h
      · omega
theorem join_len (sep : List UInt8) (m : Nat) : ∀ (l : List (List UInt8)), (∀ x ∈ l, x.length ≤ m) → (Lib.join l sep).length ≤ l.length * (m + sep.length)
  | [], _ => by simp [Lib.join_nil]
  | [x], h => by rw [Lib.join_one]; have := h x (List.mem_singleton_self x); simp; omega
  | x :: y :: l, h => by
    have ih := join_len sep m (y :: l) (fun z hz => h z (List.mem_cons_of_mem _ hz))
    have hx := h x (List.mem_cons_self ..)
    have e : Lib.join (x :: y :: l) sep = x ++ (sep ++ Lib.join (y :: l) sep) := by simp [Lib.join, List.intercalate, List.intersperse]
    rw [e, List.length_append, List.length_append, List.length_cons, Nat.add_mul, Nat.one_mul]
    omega
theorem wordsR_small {r : Rule} (h : SmallR r) : ∀ x ∈ wordsR r, x.size ≤ 40000 := by
  intro x hx
  have hsec : ∀ (txt : ByteArray) (l : List ByteArray), txt.size ≤ 40000 → (∀ s ∈ l, s.size ≤ 40000) → ∀ x ∈ secOf txt l, x.size ≤ 40000 := fun txt l h1 h2 x hx => by
    unfold secOf at hx
    split at hx
    · cases hx
    · rcases List.mem_cons.1 hx with rfl | hx
      · exact h1
      · exact h2 x hx
  unfold wordsR at hx
  simp only [List.mem_append, List.mem_cons, List.not_mem_nil, or_false] at hx
  rcases hx with ((((rfl | rfl) | hx) | hx) | rfl)
  · unfold kindB; split <;> decide
  · exact h.name
  · exact hsec _ _ (by decide) h.deps x hx
  · exact hsec _ _ (by decide) h.vis x hx
  · decide
theorem wordsR_len {r : Rule} (h : r.deps.length ≤ 20 ∧ r.vis.length ≤ 20) : (wordsR r).length ≤ 45 := by
  have hsec : ∀ (txt : ByteArray) (l : List ByteArray), (secOf txt l).length ≤ l.length + 1 := fun txt l => by
    unfold secOf; split <;> simp
  have h1 := hsec bb_deps r.deps
  have h2 := hsec bb_visible r.vis
  unfold wordsR
  simp only [List.length_append, List.length_cons, List.length_nil]
  omega
theorem joined_len {r : Rule} (hs : SmallR r) (h : r.deps.length ≤ 20 ∧ r.vis.length ≤ 20) : (Lib.join ((wordsR r).map (·.data.toList)) [32]).length ≤ 1800045 := by
  have h1 := join_len [32] 40000 ((wordsR r).map (·.data.toList)) (fun x hx => by
    obtain ⟨y, hy, rfl⟩ := List.mem_map.1 hx
    rw [sz]; exact wordsR_small hs y hy)
  have h2 := wordsR_len h
  rw [List.length_map] at h1
  simp only [List.length_cons, List.length_nil] at h1
  have : (wordsR r).length * (40000 + (0 + 1)) ≤ 45 * (40000 + (0 + 1)) := Nat.mul_le_mul_right _ h2
  omega
theorem textOf_len : ∀ {rs : List Rule}, (∀ r ∈ rs, SmallR r ∧ r.deps.length ≤ 20 ∧ r.vis.length ≤ 20) → (textOf rs).length ≤ rs.length * 1800046
  | [], _ => by simp [textOf]
  | r :: rs, h => by
    have ih := textOf_len (rs := rs) (fun q hq => h q (List.mem_cons_of_mem _ hq))
    obtain ⟨h1, h2⟩ := h r (List.mem_cons_self ..)
    have := joined_len h1 h2
    have e : textOf (r :: rs) = lineOf r ++ textOf rs := by simp [textOf]
    rw [e, List.length_append, List.length_cons, Nat.add_mul]
    unfold lineOf
    rw [List.length_append]
    simp only [List.length_cons, List.length_nil]
    omega
theorem textOf_snoc {rs : List Rule} {k : Nat} {r : Rule} (h : rs[k]? = some r) : textOf (rs.take (k + 1)) = textOf (rs.take k) ++ lineOf r := by
  obtain ⟨hk, e⟩ := List.getElem?_eq_some_iff.1 h
  rw [List.take_succ_eq_append_getElem hk, e]
  simp [textOf]

/-- Where a round of Print stands: the words so far, and the rule's box. -/
structure PSt (wr wx : World) (s8 : Value) (parts : List ByteArray) (r : Rule) (dv vv : Value) : Prop where
  own : wx.ownsRow wr.heap.size 9 1 s8 parts.length (parts.map .string)
  rb : RBox wx wr.heap.size r.kind r.name dv vv
  bl : Below wr.heap.size wr wx
  z : wr.heap.size + 1 ≤ wx.heap.size
theorem PSt.below {wr wx wy : World} {s8 : Value} {parts : List ByteArray} {r : Rule} {dv vv : Value} (h : PSt wr wx s8 parts r dv vv) (m : Below wx.heap.size wx wy) : PSt wr wy s8 parts r dv vv :=
  ⟨owns_below h.own m, h.rb.below m, qtrans h.bl m, by have := m.size; have := h.z; omega⟩
theorem PSt.grown {wr wx wy : World} {s8 v' : Value} {parts parts' : List ByteArray} {r : Rule} {dv vv : Value} (h : PSt wr wx s8 parts r dv vv) (hg : wx.grownBy wy s8.ownBlock) (hown : wy.ownsRow wr.heap.size 9 1 v' parts'.length (parts'.map .string)) : PSt wr wy v' parts' r dv vv := by
  have hz := h.z
  have hgs := hg.size
  refine ⟨hown, (hg.block _ (by omega) (fun e => ?_)).trans h.rb, h.bl.grown hg (by omega) (fun k hk => owns_block h.own hk), by omega⟩
  obtain ⟨cur, q, hh⟩ := owns_type h.own _ e.symm
  have hrb : wx.heap[wr.heap.size]? = _ := h.rb
  rw [hrb] at hh
  cases hh
theorem PSt.start (wr : World) (r : Rule) (dv vv : Value) (x : ByteArray) :
    PSt wr ((wr.alloc (.cells #[.int .i64 r.kind, .string r.name, dv, vv] 42)).alloc (.cells #[.string x, .string r.name] 9)) (.slice (some ⟨wr.heap.size + 1, 0, none⟩) 2 2) [x, r.name] r dv vv := by
  have h0 : RBox (wr.alloc (.cells #[.int .i64 r.kind, .string r.name, dv, vv] 42)) wr.heap.size r.kind r.name dv vv := World.alloc_heap_new wr _
  have h1 := World.alloc_heap_new (wr.alloc (.cells #[.int .i64 r.kind, .string r.name, dv, vv] 42)) (.cells #[.string x, .string r.name] 9)
  rw [World.size_alloc] at h1
  refine ⟨⟨rfl, .inr ⟨wr.heap.size + 1, 2, #[.string x, .string r.name], rfl, by omega, h1, Nat.le_refl _, by unfold maxLen; omega, rfl, rfl⟩⟩, h0.below (qalloc _ _), qtrans (qalloc _ _) (qalloc _ _), by simp⟩
end Go.Proofs.YtgcmekpfhagnbaaDoor
