/- Arguments that came in, read: strings, slices of what can be read; files, groups, rules. -/
import Derived.Test.YtidkpnabdfiilaaGreatDoorQ16
import Derived.Deep.Strs
import Derived.WideShapes
namespace Go.Proofs.YtidkpnabdfiilaaGreatDoor
open Go.RowKit Go.ChangeShapes Go.WideShapes

section
variable {H : Type} {enc : TypeId × Value → H} {w : World} {base : Nat} {held : Bool}

/-- Whatever is read as data of type t is a datum of T, of which P holds. -/
def Opens (enc : TypeId × Value → H) (w : World) (base : Nat) (held : Bool) {α : Type} (t : TypeId) (f : α → List Tree) (P : α → Prop) : Prop :=
  ∀ (fuel : Nat) (cs : List Value) (x : DataW H × List MemPlace), DataW.trod enc Tryz.prog w base (fun _ => true) held fuel t cs = some x → ∃ a, ReadsL w [] (f a) cs ∧ P a
theorem open_str : Opens enc w base held 9 (fun s => [strT s]) (fun s => s.size ≤ 9223372036854775807) := fun fuel cs x h => by
  obtain ⟨nm, hn, _, hnz⟩ := DataW.trod_string Tryz.underlying9 h
  unfold maxLen at hnz
  rw [hn]
  exact ⟨nm, ReadsL.cons (Reads.leaf' _ _ _) (ReadsL.nil _ _), by omega⟩
theorem open_row {α : Type} {t e : TypeId} {size : Nat} {f : α → List Tree} {P : α → Prop} (hu : Tryz.prog.underlying t = some (.slice e)) (hsz : Tryz.prog.cellsOf e = size) (hs0 : 0 < size) (hf : ∀ a, (f a).length = size)
    (he : Opens enc w base held e f P) : Opens enc w base held t (fun l => [rowT size f l]) (fun l => ∀ a ∈ l, P a) := fun fuel cs x h => by
  rcases Deep.open_slice hu h with ⟨rfl, _⟩ | ⟨a', len, cap, m, n, D, Pl, rfl, _, hl, hm, hmm, _, hc⟩
  · exact ⟨[], ReadsL.cons (Reads.nilRow _ _ _ _) (ReadsL.nil _ _), by simp⟩
  · rw [hsz] at hc
    have hlm : len ≤ m := by rw [hmm]; simpa using hl
    have key : ∀ q, q ≤ len → ∃ (l : List α) (xs : List Value), l.length = q ∧ ReadsL w [] (l.flatMap f) xs ∧ (∀ j u, xs[j]? = some u → w.cell? (a'.add j) = some u) ∧ ∀ a ∈ l, P a := by
      intro q
      induction q with
      | zero => intro _; exact ⟨[], [], rfl, ReadsL.nil _ _, by simp, by simp⟩
      | succ q ih =>
        intro hq
        obtain ⟨l, xs, hll, hrl, hcell, hP⟩ := ih (by omega)
        obtain ⟨cs', h1, h2⟩ := hc q (by omega)
        obtain ⟨a, hra, hPa⟩ := he _ _ _ h2
        obtain ⟨_, _, hcs⟩ := World.cells?_some h1
        have hxl : xs.length = q * size := by rw [hrl.len, flatMap_len hf, hll]
        have hcl : cs'.length = size := by rw [hra.len, hf]
        refine ⟨l ++ [a], xs ++ cs', by simp [hll], by rw [List.flatMap_append, List.flatMap_cons, List.flatMap_nil, List.append_nil]; exact ReadsL.append hra hrl, fun j u hj => ?_, fun b hb => ?_⟩
        · by_cases hjl : j < xs.length
          · rw [List.getElem?_append_left hjl] at hj
            exact hcell j u hj
          · rw [List.getElem?_append_right (by omega)] at hj
            have hlt := (List.getElem?_eq_some_iff.1 hj).1
            have := hcs (j - xs.length) (by omega)
            rw [hj, Deep.add_add, hxl, show q * size + (j - q * size) = j by omega] at this
            exact this
        · rcases List.mem_append.1 hb with hb | hb
          · exact hP b hb
          · rw [List.mem_singleton.1 hb]; exact hPa
    obtain ⟨l, xs, hll, hrl, hcell, hP⟩ := key len (Nat.le_refl _)
    have hxl : xs.length = len * size := by rw [hrl.len, flatMap_len hf, hll]
    refine ⟨l, ReadsL.cons (Reads.ofRow (xs := xs) ⟨by rw [hll]; exact hxl, some a', cap, by rw [hll], by omega, hm, fun hn => ?_⟩ (fun _ _ _ h => by cases h) hrl) (ReadsL.nil _ _), hP⟩
    have hx0 : 0 < xs.length := by rw [hxl]; rw [hll] at hn; exact Nat.mul_pos hn hs0
    have h0 := hcell 0 _ (List.getElem?_eq_getElem hx0)
    have hs : a'.spot = none := by
      have := World.cell?_spot h0
      simpa [Addr.add] using this
    obtain ⟨b, o, sp⟩ := a'
    simp only at hs
    subst hs
    refine ⟨b, o, rfl, lt_of_cell (o := o) (by simpa [Addr.add] using h0), fun j u hj => ?_⟩
    have := hcell j u hj
    by_cases h0 : j = 0
    · subst h0; simpa [Addr.add] using this
    · simpa [Addr.add, h0] using this
def SizedS (ss : List ByteArray) : Prop := ∀ s ∈ ss, s.size ≤ 9223372036854775807
def SizedG (gs : List (List ByteArray)) : Prop := ∀ g ∈ gs, SizedS g
def SizedF (fs : List OFile) : Prop := ∀ f ∈ fs, f.path.size ≤ 9223372036854775807 ∧ f.data.size ≤ 9223372036854775807
def SizedR (rs : List ORule) : Prop := ∀ r ∈ rs, r.pre.size ≤ 9223372036854775807 ∧ SizedG r.groups
theorem open_strs' : Opens enc w base held 30 (fun ss => [strsT ss]) SizedS :=
  open_row Tryz.underlying30 (by kernel_rfl) (by decide) (fun _ => rfl) open_str
theorem open_groups : Opens enc w base held 23 (fun gs => [groupsT gs]) SizedG :=
  open_row Tryz.underlying23 (by kernel_rfl) (by decide) (fun _ => rfl) open_strs'
theorem two_of {cs : List Value} (h : cs.length = 2) : ∃ a b, cs = [a, b] := by
  match cs, h with
  | [a, b], _ => exact ⟨a, b, rfl⟩
theorem ReadsL.one {X : List Nat} {d : Tree} {v : Value} (h : ReadsL w X [d] [v]) : Reads w X d v := by
  obtain ⟨x, rest, e, h1, _⟩ := h.inv
  cases e; exact h1
theorem open_file : Opens enc w base held 55 fileT (fun f => f.path.size ≤ 9223372036854775807 ∧ f.data.size ≤ 9223372036854775807) := fun fuel cs x h => by
  obtain ⟨y0, y1, n, _, hlen, f0, f1⟩ := trod_struct2 Tryz.underlying55 h
  rw [show Tryz.prog.cellsOf 55 = 2 by kernel_rfl] at hlen
  obtain ⟨c0, c1, rfl⟩ := two_of hlen
  simp only [] at f0 f1
  rw [show Tryz.prog.cellsOf 9 = 1 by kernel_rfl] at f0 f1
  obtain ⟨p, hp, hpz⟩ := open_str _ _ _ f0
  obtain ⟨d, hd, hdz⟩ := open_str _ _ _ f1
  exact ⟨⟨p, d⟩, ReadsL.cons (ReadsL.one hp) (ReadsL.cons (ReadsL.one hd) (ReadsL.nil _ _)), hpz, hdz⟩
theorem open_files : Opens enc w base held 22 (fun fs => [filesT fs]) SizedF :=
  open_row Tryz.underlying22 (by kernel_rfl) (by decide) (fun _ => rfl) open_file
theorem open_orule : Opens enc w base held 75 ruleT (fun r => r.pre.size ≤ 9223372036854775807 ∧ SizedG r.groups) := fun fuel cs x h => by
  obtain ⟨y0, y1, n, _, hlen, f0, f1⟩ := trod_struct2 Tryz.underlying75 h
  rw [show Tryz.prog.cellsOf 75 = 2 by kernel_rfl] at hlen
  obtain ⟨c0, c1, rfl⟩ := two_of hlen
  simp only [] at f0 f1
  rw [show Tryz.prog.cellsOf 9 = 1 by kernel_rfl] at f0
  rw [show Tryz.prog.cellsOf 23 = 1 by kernel_rfl] at f1
  obtain ⟨p, hp, hpz⟩ := open_str _ _ _ f0
  obtain ⟨g, hg, hgz⟩ := open_groups _ _ _ f1
  exact ⟨⟨p, g⟩, ReadsL.cons (ReadsL.one hp) (ReadsL.cons (ReadsL.one hg) (ReadsL.nil _ _)), hpz, hgz⟩
theorem open_orules : Opens enc w base held 71 (fun rs => [rulesT rs]) SizedR :=
  open_row Tryz.underlying71 (by kernel_rfl) (by decide) (fun _ => rfl) open_orule
end
end Go.Proofs.YtidkpnabdfiilaaGreatDoor
