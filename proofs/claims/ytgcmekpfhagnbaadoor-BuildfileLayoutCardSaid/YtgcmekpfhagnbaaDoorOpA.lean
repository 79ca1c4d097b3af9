/- A slice of rules that came in, read: its rules. -/
import Derived.Test.YtgcmekpfhagnbaaDoorGrA
import Derived.Test.YtgcmekpfhagnbaaDoorPsB
import Derived.Deep.Strs
import Derived.WideShapes
namespace Go.Proofs.YtgcmekpfhagnbaaDoor
open Go.RowKit Go.ChangeShapes Go.WideShapes

section
variable {H : Type} {enc : TypeId × Value → H} {w : World} {base : Nat} {spare : Nat → Bool} {held : Bool}

theorem strs_of_cells {w : World} {a : Addr} {len cap : Nat} (Sx : Nat → ByteArray) (hl : len ≤ cap) (hm : cap ≤ maxLen) (h : ∀ i, i < len → w.cell? (a.add i) = some (.string (Sx i))) : Strs w (.slice (some a) len cap) ((List.range len).map Sx) := by
  have hlen : ((List.range len).map Sx).length = len := by simp
  refine ⟨by simp, some a, cap, by rw [hlen], by rw [hlen]; exact hl, hm, fun hn => ?_⟩
  rw [hlen] at hn
  have h0 := h 0 hn
  have hs : a.spot = none := by
    have := World.cell?_spot h0
    simpa [Addr.add] using this
  obtain ⟨b, o, sp⟩ := a
  simp only at hs
  subst hs
  have hb : b < w.heap.size := lt_of_cell (o := o) (by simpa [Addr.add] using h0)
  refine ⟨b, o, rfl, hb, fun j u hj => ?_⟩
  have hjl : j < len := by
    have := (List.getElem?_eq_some_iff.1 hj).1
    simpa using this
  have hc := h j hjl
  have hu : u = .string (Sx j) := by
    rw [List.getElem?_map, List.getElem?_map, List.getElem?_range hjl] at hj
    simpa using hj.symm
  rw [hu]
  by_cases h0 : j = 0
  · subst h0; simpa [Addr.add] using hc
  · simpa [Addr.add, h0] using hc
theorem open_strsL {fuel : Nat} {cs : List Value} {x : DataW H × List MemPlace} (h : DataW.trod enc Tryd.prog w base (fun _ => true) held fuel 29 cs = some x) :
    ∃ (v : Value) (ss : List ByteArray), cs = [v] ∧ Strs w v ss ∧ ∀ s ∈ ss, s.size ≤ 9223372036854775807 := by
  rcases Deep.open_strs Tryd.underlying29 Tryd.underlying9 (by kernel_rfl) h with ⟨rfl, _⟩ | ⟨a, len, cap, m, Sx, rfl, _, hl, hm, hmm, _, hc⟩
  · exact ⟨_, [], rfl, strsNil w, by simp⟩
  · have hlm : len ≤ m := by rw [hmm]; simpa using hl
    refine ⟨_, (List.range len).map Sx, rfl, strs_of_cells Sx hl hm (fun i hi => (hc i (by omega)).1), fun s hs => ?_⟩
    obtain ⟨i, hi, rfl⟩ := List.mem_map.1 hs
    have := (hc i (by have := List.mem_range.1 hi; omega)).2
    unfold maxLen at this
    omega
theorem four_of {cs : List Value} (h : cs.length = 4) : ∃ a b c d, cs = [a, b, c, d] := by
  match cs, h with
  | [a, b, c, d], _ => exact ⟨a, b, c, d, rfl⟩
theorem open_ruleL {fuel : Nat} {cs : List Value} {x : DataW H × List MemPlace} (h : DataW.trod enc Tryd.prog w base (fun _ => true) held fuel 42 cs = some x) :
    ∃ (r : Rule) (dv vv : Value), cs = [.int .i64 r.kind, .string r.name, dv, vv] ∧ Strs w dv r.deps ∧ Strs w vv r.vis ∧ Sized r := by
  obtain ⟨xs, n, _, _, hlen, hxl, hf⟩ := DataW.trod_struct Tryd.underlying42 h
  rw [show Tryd.prog.cellsOf 42 = 4 by kernel_rfl] at hlen
  obtain ⟨c0, c1, c2, c3, rfl⟩ := four_of hlen
  · have get : ∀ i, i < 4 → ∃ y, xs[i]? = some y := fun i hi => by
      have : i < xs.length := by rw [hxl]; exact hi
      exact ⟨xs[i], List.getElem?_eq_getElem this⟩
    obtain ⟨y0, e0⟩ := get 0 (by omega)
    obtain ⟨y1, e1⟩ := get 1 (by omega)
    obtain ⟨y2, e2⟩ := get 2 (by omega)
    obtain ⟨y3, e3⟩ := get 3 (by omega)
    have f0 := (hf 0 _ rfl).trans e0
    have f1 := (hf 1 _ rfl).trans e1
    have f2 := (hf 2 _ rfl).trans e2
    have f3 := (hf 3 _ rfl).trans e3
    simp only [List.getElem_toArray, List.getElem_cons_zero, List.getElem_cons_succ] at f0 f1 f2 f3
    rw [show Tryd.prog.cellsOf 3 = 1 by kernel_rfl] at f0
    rw [show Tryd.prog.cellsOf 9 = 1 by kernel_rfl] at f1
    rw [show Tryd.prog.cellsOf 29 = 1 by kernel_rfl] at f2 f3
    obtain ⟨kd, hk, _, _⟩ := DataW.trod_int Tryd.underlying3 f0
    obtain ⟨nm, hn, _, hnz⟩ := DataW.trod_string Tryd.underlying9 f1
    obtain ⟨dv, ds, hd, hds, hdz⟩ := open_strsL f2
    obtain ⟨vv, vs, hv, hvs, hvz⟩ := open_strsL f3
    simp at hk hn hd hv
    subst hk hn hd hv
    unfold maxLen at hnz
    exact ⟨⟨kd, nm, ds, vs⟩, _, _, rfl, hds, hvs, ⟨by show nm.size ≤ _; omega, hdz, hvz⟩⟩
theorem open_rulesL {fuel : Nat} {a : Option Addr} {len cap : Nat} {x : DataW H × List MemPlace} (h : DataW.trod enc Tryd.prog w base (fun _ => true) held fuel 23 [.slice a len cap] = some x) :
    ∃ rs : List Rule, IsRules w (.slice a len cap) rs ∧ ∀ r ∈ rs, Sized r := by
  rcases Deep.open_slice Tryd.underlying23 h with ⟨e, _⟩ | ⟨a', len', cap', m, n, D, Pl, e, _, hl, hm, hmm, _, hc⟩
  · cases e
    exact ⟨[], IsRules.none w, by simp⟩
  · cases e
    rw [show Tryd.prog.cellsOf 42 = 4 by kernel_rfl] at hc
    have hlm : len ≤ m := by rw [hmm]; simpa using hl
    have key : ∀ q, q ≤ len → ∃ (rs : List Rule) (xs : List Value), rs.length = q ∧ RuleCells w [] rs xs ∧ (∀ j u, xs[j]? = some u → w.cell? (a'.add j) = some u) ∧ ∀ r ∈ rs, Sized r := by
      intro q
      induction q with
      | zero => intro _; exact ⟨[], [], rfl, rfl, by simp, by simp⟩
      | succ q ih =>
        intro hq
        obtain ⟨rs, xs, hrl, hrc, hcell, hsz⟩ := ih (by omega)
        obtain ⟨cs', h1, h2⟩ := hc q (by omega)
        obtain ⟨r, dv, vv, rfl, hd, hv, hs⟩ := open_ruleL h2
        obtain ⟨_, _, hcs⟩ := World.cells?_some h1
        refine ⟨rs ++ [r], xs ++ [.int .i64 r.kind, .string r.name, dv, vv], by simp [hrl], RuleCells.snoc hd (by simp) hv (by simp) hrc, fun j u hj => ?_, fun p hp => ?_⟩
        · have hxl : xs.length = q * 4 := by rw [hrc.len, hrl]
          by_cases hjl : j < xs.length
          · rw [List.getElem?_append_left hjl] at hj
            exact hcell j u hj
          · rw [List.getElem?_append_right (by omega)] at hj
            have hlt := (List.getElem?_eq_some_iff.1 hj).1
            simp only [List.length_cons, List.length_nil] at hlt
            have := hcs (j - xs.length) (by omega)
            rw [hj, Deep.add_add, hxl, show q * 4 + (j - q * 4) = j by omega] at this
            exact this
        · rcases List.mem_append.1 hp with h | h
          · exact hsz p h
          · rw [List.mem_singleton.1 h]; exact hs
    obtain ⟨rs, xs, hrl, hrc, hcell, hsz⟩ := key len (Nat.le_refl _)
    refine ⟨rs, ⟨xs, ⟨by rw [hrc.len], some a', cap, by rw [hrl], by omega, hm, fun hn => ?_⟩, hrc⟩, hsz⟩
    have hx0 : 0 < xs.length := by rw [hrc.len]; omega
    have h0 := hcell 0 _ (List.getElem?_eq_getElem hx0)
    have hs : a'.spot = none := by
      have := World.cell?_spot h0
      simpa [Addr.add] using this
    obtain ⟨b, o, sp⟩ := a'
    simp only at hs
    subst hs
    refine ⟨b, o, rfl, lt_of_cell (o := o) (by simpa [Addr.add] using h0), fun j u hj => ?_⟩
    have := hcell j u hj
    by_cases h0 : j = 0
    · subst h0; simpa [Addr.add] using this
    · simpa [Addr.add, h0] using this
end
end Go.Proofs.YtgcmekpfhagnbaaDoor
