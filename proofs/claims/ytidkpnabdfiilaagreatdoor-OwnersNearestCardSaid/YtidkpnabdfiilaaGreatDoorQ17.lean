/- Arguments that came in, read: strings, slices of what can be read; files, groups, rules. How great files, groups and rules may be: the reference's Great, GreatGroups of chapter 54, Great of chapter 9. append of a whole slice, nil, empty or not, onto a slice that the call owns. No program in sight. -/
import Derived.Test.YtidkpnabdfiilaaGreatDoorQ16
import Derived.Deep.Strs
import Derived.WideShapes
import Derived.Test.YtidkpnabdfiilaaGreatDoorQ08
import Derived.Test.YtidkpnabdfiilaaGreatDoorQ02
namespace Go.Proofs.YtidkpnabdfiilaaGreatDoor
open Go.RowKit Go.ChangeShapes Go.WideShapes

section
variable {H : Type} {enc : TypeId × Value → H} {w : World} {base : Nat} {held : Bool}

/-- Whatever is read as data of type t is a datum of T, of which P holds. -/
def Opens (enc : TypeId × Value → H) (w : World) (base : Nat) (held : Bool) {α : Type} (t : TypeId) (f : α → List Tree) (P : α → Prop) : Prop :=
  ∀ (fuel : Nat) (cs : List Value) (x : DataW H × List MemPlace), DataW.trod enc Tryz.prog w base (fun _ => true) held fuel t cs = some x → ∃ a, ReadsL w [] (f a) cs ∧ P a
theorem open_str : Opens enc w base held 9 (fun s => [strT s]) (fun s => s.size ≤ 9223372036854775807) := fun fuel cs x h => by
  obtain ⟨nm, hn, _, hnz⟩ := DataW.trod_string Tryz.underlying9 h
  unfold maxLen at hnz
  rw [hn]
  exact ⟨nm, ReadsL.cons (Reads.leaf' _ _ _) (ReadsL.nil _ _), by omega⟩
theorem open_row {α : Type} {t e : TypeId} {size : Nat} {f : α → List Tree} {P : α → Prop} (hu : Tryz.prog.underlying t = some (.slice e)) (hsz : Tryz.prog.cellsOf e = size) (hs0 : 0 < size) (hf : ∀ a, (f a).length = size)
    (he : Opens enc w base held e f P) : Opens enc w base held t (fun l => [rowT size f l]) (fun l => ∀ a ∈ l, P a) := fun fuel cs x h => by
  rcases Deep.open_slice hu h with ⟨rfl, _⟩ | ⟨a', len, cap, m, n, D, Pl, rfl, _, hl, hm, hmm, _, hc⟩
  · exact ⟨[], ReadsL.cons (Reads.nilRow _ _ _ _) (ReadsL.nil _ _), by simp⟩
  · rw [hsz] at hc
    have hlm : len ≤ m := by rw [hmm]; simpa using hl
    have key : ∀ q, q ≤ len → ∃ (l : List α) (xs : List Value), l.length = q ∧ ReadsL w [] (l.flatMap f) xs ∧ (∀ j u, xs[j]? = some u → w.cell? (a'.add j) = some u) ∧ ∀ a ∈ l, P a := by
      intro q
      induction q with
      | zero => intro _; exact ⟨[], [], rfl, ReadsL.nil _ _, by simp, by simp⟩
      | succ q ih =>
        intro hq
        obtain ⟨l, xs, hll, hrl, hcell, hP⟩ := ih (by omega)
        obtain ⟨cs', h1, h2⟩ := hc q (by omega)
        obtain ⟨a, hra, hPa⟩ := he _ _ _ h2
        obtain ⟨_, _, hcs⟩ := World.cells?_some h1
        have hxl : xs.length = q * size := by rw [hrl.len, flatMap_len hf, hll]
        have hcl : cs'.length = size := by rw [hra.len, hf]
        refine ⟨l ++ [a], xs ++ cs', by simp [hll], by rw [List.flatMap_append, List.flatMap_cons, List.flatMap_nil, List.append_nil]; exact ReadsL.append hra hrl, fun j u hj => ?_, fun b hb => ?_⟩
        · by_cases hjl : j < xs.length
          · rw [List.getElem?_append_left hjl] at hj
            exact hcell j u hj
          · rw [List.getElem?_append_right (by omega)] at hj
            have hlt := (List.getElem?_eq_some_iff.1 hj).1
            have := hcs (j - xs.length) (by omega)
            rw [hj, Deep.add_add, hxl, show q * size + (j - q * size) = j by omega] at this
            exact this
        · rcases List.mem_append.1 hb with hb | hb
          · exact hP b hb
          · rw [List.mem_singleton.1 hb]; exact hPa
    obtain ⟨l, xs, hll, hrl, hcell, hP⟩ := key len (Nat.le_refl _)
    have hxl : xs.length = len * size := by rw [hrl.len, flatMap_len hf, hll]
    refine ⟨l, ReadsL.cons (Reads.ofRow (xs := xs) ⟨by rw [hll]; exact hxl, some a', cap, by rw [hll], by omega, hm, fun hn => ?_⟩ (fun _ _ _ h => by cases h) hrl) (ReadsL.nil _ _), hP⟩
    have hx0 : 0 < xs.length := by rw [hxl]; rw [hll] at hn; exact Nat.mul_pos hn hs0
    have h0 := hcell 0 _ (List.getElem?_eq_getElem hx0)
    have hs : a'.spot = none := by
      have := World.cell?_spot h0
      simpa [Addr.add] using this
    obtain ⟨b, o, sp⟩ := a'
    simp only at hs
    subst hs
    refine ⟨b, o, rfl, lt_of_cell (o := o) (by simpa [Addr.add] using h0), fun j u hj => ?_⟩
    have := hcell j u hj
    by_cases h0 : j = 0
    · subst h0; simpa [Addr.add] using this
    · simpa [Addr.add, h0] using this
def SizedS (ss : List ByteArray) : Prop := ∀ s ∈ ss, s.size ≤ 9223372036854775807
def SizedG (gs : List (List ByteArray)) : Prop := ∀ g ∈ gs, SizedS g
def SizedF (fs : List OFile) : Prop := ∀ f ∈ fs, f.path.size ≤ 9223372036854775807 ∧ f.data.size ≤ 9223372036854775807
def SizedR (rs : List ORule) : Prop := ∀ r ∈ rs, r.pre.size ≤ 9223372036854775807 ∧ SizedG r.groups
theorem open_strs' : Opens enc w base held 30 (fun ss => [strsT ss]) SizedS :=
  open_row Tryz.underlying30 (by kernel_rfl) (by decide) (fun _ => rfl) open_str
theorem open_groups : Opens enc w base held 23 (fun gs => [groupsT gs]) SizedG :=
  open_row Tryz.underlying23 (by kernel_rfl) (by decide) (fun _ => rfl) open_strs'
theorem two_of {cs : List Value} (h : cs.length = 2) : ∃ a b, cs = [a, b] := by
  match cs, h with
  | [a, b], _ => exact ⟨a, b, rfl⟩
theorem ReadsL.one {X : List Nat} {d : Tree} {v : Value} (h : ReadsL w X [d] [v]) : Reads w X d v := by
  obtain ⟨x, rest, e, h1, _⟩ := h.inv
  cases e; exact h1
theorem open_file : Opens enc w base held 55 fileT (fun f => f.path.size ≤ 9223372036854775807 ∧ f.data.size ≤ 9223372036854775807) := fun fuel cs x h => by
  obtain ⟨y0, y1, n, _, hlen, f0, f1⟩ := trod_struct2 Tryz.underlying55 h
  rw [show Tryz.prog.cellsOf 55 = 2 by kernel_rfl] at hlen
  obtain ⟨c0, c1, rfl⟩ := two_of hlen
  simp only [] at f0 f1
  rw [show Tryz.prog.cellsOf 9 = 1 by kernel_rfl] at f0 f1
  obtain ⟨p, hp, hpz⟩ := open_str _ _ _ f0
  obtain ⟨d, hd, hdz⟩ := open_str _ _ _ f1
  exact ⟨⟨p, d⟩, ReadsL.cons (ReadsL.one hp) (ReadsL.cons (ReadsL.one hd) (ReadsL.nil _ _)), hpz, hdz⟩
theorem open_files : Opens enc w base held 22 (fun fs => [filesT fs]) SizedF :=
  open_row Tryz.underlying22 (by kernel_rfl) (by decide) (fun _ => rfl) open_file
theorem open_orule : Opens enc w base held 75 ruleT (fun r => r.pre.size ≤ 9223372036854775807 ∧ SizedG r.groups) := fun fuel cs x h => by
  obtain ⟨y0, y1, n, _, hlen, f0, f1⟩ := trod_struct2 Tryz.underlying75 h
  rw [show Tryz.prog.cellsOf 75 = 2 by kernel_rfl] at hlen
  obtain ⟨c0, c1, rfl⟩ := two_of hlen
  simp only [] at f0 f1
  rw [show Tryz.prog.cellsOf 9 = 1 by kernel_rfl] at f0
  rw [show Tryz.prog.cellsOf 23 = 1 by kernel_rfl] at f1
  obtain ⟨p, hp, hpz⟩ := open_str _ _ _ f0
  obtain ⟨g, hg, hgz⟩ := open_groups _ _ _ f1
  exact ⟨⟨p, g⟩, ReadsL.cons (ReadsL.one hp) (ReadsL.cons (ReadsL.one hg) (ReadsL.nil _ _)), hpz, hgz⟩
theorem open_orules : Opens enc w base held 71 (fun rs => [rulesT rs]) SizedR :=
  open_row Tryz.underlying71 (by kernel_rfl) (by decide) (fun _ => rfl) open_orule
end
end Go.Proofs.YtidkpnabdfiilaaGreatDoor

namespace Go.Proofs.YtidkpnabdfiilaaGreatDoor
open Go.RowKit

def greatF (fs : List OFile) : Bool := decide (10 < fs.length) || fs.any fun f => decide (120 < f.path.size) || decide (200 < f.data.size)
theorem greatF_small {fs : List OFile} (h : greatF fs = false) : fs.length ≤ 10 ∧ ∀ f ∈ fs, f.path.size ≤ 120 ∧ f.data.size ≤ 200 := by
  simp only [greatF, Bool.or_eq_false_iff, decide_eq_false_iff_not, List.any_eq_false] at h
  refine ⟨by omega, fun f hf => ?_⟩
  have := h.2 f hf
  simp at this
  omega
theorem greatF_at {fs : List OFile} (_h0 : ¬ 10 < fs.length) {k : Nat} {f : OFile} (hf : fs[k]? = some f) (h : 120 < f.path.size ∨ 200 < f.data.size) : greatF fs = true := by
  simp only [greatF, Bool.or_eq_true, List.any_eq_true, decide_eq_true_eq]
  exact .inr ⟨f, List.mem_of_getElem? hf, h⟩
theorem greatF_none {fs : List OFile} (h0 : ¬ 10 < fs.length) (h : ∀ (k : Nat) (f : OFile), fs[k]? = some f → ¬ 120 < f.path.size ∧ ¬ 200 < f.data.size) : greatF fs = false := by
  simp only [greatF, Bool.or_eq_false_iff, decide_eq_false_iff_not, List.any_eq_false]
  refine ⟨h0, fun f hf => ?_⟩
  obtain ⟨k, hk, rfl⟩ := List.getElem_of_mem hf
  have := h k _ (List.getElem?_eq_getElem hk)
  simp
  omega
set_option maxHeartbeats 1000000 in
theorem rGreat09_any (v : Value) (fs : List OFile) (w : World) (hv : Reads w [] (filesT fs) v) (hz : SizedF fs) :
    Calls Tryz.prog 13 #[v] w fun e w' => e = .returned (.bool (greatF fs)) ∧ w = w' := by
  obtain ⟨a, cap, rfl, hc1, hc2⟩ := files_val hv
  have HV := Lib.hid hv
  have HZ := Lib.hid hz
  clear hv hz
  by_cases h10 : 10 < fs.length
  · have H : Hid (greatF fs = true) := by show _ = _; rw [greatF, decide_eq_true h10, Bool.true_or]
    go_enter Tryz.func13, Tryz.ntmps13
    go_wp2
    go_ret
    exact ⟨ret_bool (by rw [H.out]), rfl⟩
  have hd10 : decide (10 < (fs.length : Int)) = false := decide_eq_false (by omega)
  go_enter Tryz.func13, Tryz.ntmps13
  go_wp2
  go_loop [3] (fun i => ∃ k : Nat, k ≤ fs.length ∧ i = .int .i64 k ∧ Hid (∀ (j : Nat) (f : OFile), j < k → fs[j]? = some f → ¬ 120 < f.path.size ∧ ¬ 200 < f.data.size)) (fun i => fs.length - (intOf i).toNat)
  case atStart => exact ⟨0, Nat.zero_le _, rfl, fun j f hj => by omega⟩
  case round =>
    obtain ⟨k, hk, rfl, HN⟩ := hrel
    by_cases hlt : k < fs.length
    · obtain ⟨f, hf⟩ : ∃ f, fs[k]? = some f := ⟨_, List.getElem?_eq_getElem hlt⟩
      obtain ⟨b, o, rfl, hb, hcp, hcd⟩ := files_elem HV.out hf
      have hsz := HZ.out f (List.mem_of_getElem? hf)
      have hi0 : (0 : Int) ≤ (k : Int) := by omega
      have hi1 : (k : Int) < (fs.length : Int) := by omega
      by_cases h1 : 120 < f.path.size
      · have H : Hid (greatF fs = true) := greatF_at h10 hf (.inl h1)
        have hd : decide (120 < (f.path.size : Int)) = true := decide_eq_true (by omega)
        clear hf
        go_wp2
        go_ret
        exact ⟨ret_bool (by rw [H.out]), rfl⟩
      · have hd : decide (120 < (f.path.size : Int)) = false := decide_eq_false (by omega)
        by_cases h2 : 200 < f.data.size
        · have H : Hid (greatF fs = true) := greatF_at h10 hf (.inr h2)
          have hd2 : decide (200 < (f.data.size : Int)) = true := decide_eq_true (by omega)
          clear hf
          go_wp2
          go_ret
          exact ⟨ret_bool (by rw [H.out]), rfl⟩
        · have hd2 : decide (200 < (f.data.size : Int)) = false := decide_eq_false (by omega)
          have HN2 : Hid (∀ (j : Nat) (f : OFile), j < k + 1 → fs[j]? = some f → ¬ 120 < f.path.size ∧ ¬ 200 < f.data.size) := fun j g hj hg => by
            by_cases e : j = k
            · rw [e, hf] at hg; cases hg; exact ⟨h1, h2⟩
            · exact HN.out j g (by omega) hg
          clear hf
          go_wp2
          go_round
          case rel => exact ⟨k + 1, by omega, by go_num, HN2⟩
          case measure => simp [intOf]; omega
    · have H : Hid (greatF fs = false) := greatF_none h10 (fun j f hj => HN.out j f (by have := (List.getElem?_eq_some_iff.1 hj).1; omega) hj)
      go_wp2
      go_ret
      exact ⟨ret_bool (by rw [H.out]), rfl⟩
/-! Groups. -/
def greatG1 (g : List ByteArray) : Bool := g.any (fun s => decide (40 < s.size)) || decide (22 < g.length)
def greatG (gs : List (List ByteArray)) : Bool := gs.any greatG1 || decide (10 < gs.length)
theorem greatG_small {gs : List (List ByteArray)} (h : greatG gs = false) : gs.length ≤ 10 ∧ ∀ g ∈ gs, g.length ≤ 22 ∧ ∀ s ∈ g, s.size ≤ 40 := by
  simp only [greatG, Bool.or_eq_false_iff, decide_eq_false_iff_not, List.any_eq_false] at h
  refine ⟨by omega, fun g hg => ?_⟩
  have := h.1 g hg
  simp only [greatG1, Bool.or_eq_true, List.any_eq_true, decide_eq_true_eq, not_or, not_exists] at this
  refine ⟨by omega, fun s hs => ?_⟩
  have := this.1 s
  simp at this
  have := this hs
  omega
set_option maxHeartbeats 1000000 in
theorem rGreatGroups_any (v : Value) (gs : List (List ByteArray)) (w : World) (hv : Reads w [] (groupsT gs) v) (hz : SizedG gs) :
    Calls Tryz.prog 14 #[v] w fun e w' => e = .returned (.bool (greatG gs)) ∧ w = w' := by
  obtain ⟨a, cap, rfl, hc1, hc2⟩ := groups_val hv
  have HV := Lib.hid hv
  have HZ := Lib.hid hz
  clear hv hz
  go_enter Tryz.func14, Tryz.ntmps14
  go_wp2
  go_loop [3] (fun i => ∃ k : Nat, k ≤ gs.length ∧ i = .int .i64 k ∧ Hid (∀ (j : Nat) (g : List ByteArray), j < k → gs[j]? = some g → greatG1 g = false)) (fun i => gs.length - (intOf i).toNat)
  case atStart => exact ⟨0, Nat.zero_le _, rfl, fun j f hj => by omega⟩
  case round =>
    obtain ⟨k, hk, rfl, HN⟩ := hrel
    by_cases hlt : k < gs.length
    · obtain ⟨g, hg⟩ : ∃ g, gs[k]? = some g := ⟨_, List.getElem?_eq_getElem hlt⟩
      obtain ⟨b, o, ag, cg, rfl, hb, hcg, hg1, hg2, HS⟩ := groups_elem HV.out hg
      have hsz := HZ.out g (List.mem_of_getElem? hg)
      have HSZ := Lib.hid hsz
      have hi0 : (0 : Int) ≤ (k : Int) := by omega
      have hi1 : (k : Int) < (gs.length : Int) := by omega
      have HG := Lib.hid hg
      have HT : Hid (greatG1 g = true → greatG gs = true) := fun h => by
        rw [greatG, Bool.or_eq_true]; exact .inl (List.any_eq_true.2 ⟨g, List.mem_of_getElem? hg, h⟩)
      clear hg hsz
      go_wp2
      go_loop [4] (fun i => ∃ q : Nat, q ≤ g.length ∧ i = .int .i64 q ∧ Hid (∀ j, j < q → (g.getD j ByteArray.empty).size ≤ 40)) (fun i => g.length - (intOf i).toNat)
      case atStart => exact ⟨0, Nat.zero_le _, rfl, fun j hj => by omega⟩
      case round =>
        obtain ⟨q, hq, rfl, HQ⟩ := hrel
        by_cases hql : q < g.length
        · obtain ⟨a', cap', e, _, _, h3⟩ := HS.out.shape
          cases e
          obtain ⟨bg, og, rfl, hbg, hc⟩ := h3 q hql
          have hcq := hc q hql
          have hq0 : (0 : Int) ≤ (q : Int) := by omega
          have hq1 : (q : Int) < (g.length : Int) := by omega
          clear hc h3
          have hmem : g.getD q ByteArray.empty ∈ g := by rw [List.getD_eq_getElem?_getD, List.getElem?_eq_getElem hql]; exact List.getElem_mem hql
          have hts := HSZ.out _ hmem
          generalize ht : g.getD q ByteArray.empty = t at *
          have HTT := Lib.hid ht
          clear ht
          by_cases h40 : 40 < t.size
          · have H : Hid (greatG gs = true) := HT.out (by rw [greatG1, Bool.or_eq_true]; exact .inl (List.any_eq_true.2 ⟨t, hmem, decide_eq_true h40⟩))
            have hd : decide (40 < (t.size : Int)) = true := decide_eq_true (by omega)
            go_wp2
            go_ret
            exact ⟨ret_bool (by rw [H.out]), rfl⟩
          · have hd : decide (40 < (t.size : Int)) = false := decide_eq_false (by omega)
            have HQ2 : Hid (∀ j, j < q + 1 → (g.getD j ByteArray.empty).size ≤ 40) := fun j hj => by
              by_cases e : j = q
              · rw [e, HTT.out]; omega
              · exact HQ.out j (by omega)
            go_wp2
            go_round
            case rel => exact ⟨q + 1, by omega, by go_num, HQ2⟩
            case measure => simp [intOf]; omega
        · by_cases h22 : 22 < g.length
          · have H : Hid (greatG gs = true) := HT.out (by rw [greatG1, Bool.or_eq_true]; exact .inr (decide_eq_true h22))
            have hd : decide (22 < (g.length : Int)) = true := decide_eq_true (by omega)
            go_wp2
            go_ret
            exact ⟨ret_bool (by rw [H.out]), rfl⟩
          · have hd : decide (22 < (g.length : Int)) = false := decide_eq_false (by omega)
            have HN2 : Hid (∀ (j : Nat) (g : List ByteArray), j < k + 1 → gs[j]? = some g → greatG1 g = false) := fun j g' hj hg' => by
              by_cases e : j = k
              · rw [e, HG.out] at hg'; cases hg'
                rw [greatG1, decide_eq_false h22, Bool.or_false, List.any_eq_false]
                intro s hs
                obtain ⟨i, hi, rfl⟩ := List.getElem_of_mem hs
                have := HQ.out i (by omega)
                rw [List.getD_eq_getElem?_getD, List.getElem?_eq_getElem hi] at this
                simp at this ⊢; omega
              · exact HN.out j g' (by omega) hg'
            go_wp2
            go_round
            case rel => exact ⟨k + 1, by omega, by go_num, HN2⟩
            case measure => simp [intOf]; omega
    · have H : Hid (greatG gs = decide (10 < (gs.length : Int))) := by
        show _ = _
        rw [greatG]
        have : gs.any greatG1 = false := by
          rw [List.any_eq_false]
          intro g hg
          obtain ⟨i, hi, rfl⟩ := List.getElem_of_mem hg
          rw [HN.out i _ (by omega) (List.getElem?_eq_getElem hi)]; simp
        rw [this, Bool.false_or, decide_eq_decide]
        omega
      go_wp2
      go_ret
      exact ⟨ret_bool (by rw [H.out]), rfl⟩
def greatR (rs : List ORule) : Bool := rs.any (fun r => decide (120 < r.pre.size) || greatG r.groups) || decide (6 < rs.length)
theorem greatR_small {rs : List ORule} (h : greatR rs = false) : rs.length ≤ 6 ∧ ∀ r ∈ rs, r.pre.size ≤ 120 ∧ greatG r.groups = false := by
  simp only [greatR, Bool.or_eq_false_iff, decide_eq_false_iff_not, List.any_eq_false] at h
  refine ⟨by omega, fun r hr => ?_⟩
  have := h.1 r hr
  simp at this
  exact ⟨by omega, this.2⟩
theorem greatR_SmallR {rs : List ORule} (h : greatR rs = false) : SmallR rs := by
  obtain ⟨h1, h2⟩ := greatR_small h
  refine ⟨by omega, fun r hr => ⟨by have := (h2 r hr).1; omega, ?_⟩⟩
  obtain ⟨g1, g2⟩ := greatG_small (h2 r hr).2
  exact ⟨by omega, fun g hg => ⟨by have := (g2 g hg).1; omega, fun s hs => by have := (g2 g hg).2 s hs; omega⟩⟩
end Go.Proofs.YtidkpnabdfiilaaGreatDoor

namespace Go.Proofs.YtidkpnabdfiilaaGreatDoor
open Go.RowKit

section
variable {P : Program} {w : World}
theorem run_append_none (base : Nat) (t ty e : TypeId) (i : TypeInfo) (size : Nat) (ht : P.underlying t = some (.slice e)) (hi : P.info? e = some i) (v : Value) (n : Nat) (xs : List Value) (hown : w.ownsRow base e size v n xs) (c : Nat) :
    (Builtin.append_ #[t, t] ty #[v, .slice none 0 c]).run P w = .ok v w := by
  rcases hown.2 with ⟨rfl, _⟩ | ⟨g, cap, cur, rfl, _, _, hle, _⟩
  · simp [Builtin.append_, run_underlying ht, sizeOf, typeInfo, hi, Builtin.lenOf, Builtin.firstCells]
  · simp [Builtin.append_, run_underlying ht, sizeOf, typeInfo, hi, Builtin.lenOf, Builtin.firstCells, hle, storeCells]
theorem run_append_row (base : Nat) (t ty e : TypeId) (i : TypeInfo) (z : Value) (size bytes : Nat) (ht : P.underlying t = some (.slice e)) (hi : P.info? e = some i) (hz : i.zero = some z)
    (hsize : i.size = size) (hby : i.bytes = bytes) (hzs : z.cells.size = size) (hsz : 0 < size)
    (v : Value) (n : Nat) (xs : List Value) (hown : w.ownsRow base e size v n xs) (sv : Value) (m : Nat) (news : List Value) (hr : IsRow w size sv m news) (h1 : ∀ u ∈ news, u.oneCell' = true)
    (h63 : n + m ≤ maxLen) (hbytes : (n + m) * bytes ≤ 140737488355328) (hbase : base ≤ w.heap.size) :
    ∃ v' w', (Builtin.append_ #[t, t] ty #[v, sv]).run P w = .ok v' w' ∧ w'.ownsRow base e size v' (n + m) (xs ++ news) ∧ w.grownBy w' v.ownBlock ∧ (v'.ownBlock = v.ownBlock ∨ v'.ownBlock = some w.heap.size) := by
  obtain ⟨hl, a, cap, rfl, hle, hm, h3⟩ := hr
  cases a with
  | none =>
    have hm0 : m = 0 := by
      rcases Nat.eq_zero_or_pos m with h | h
      · exact h
      · obtain ⟨b, o, e, _⟩ := h3 h; cases e
    subst hm0
    obtain rfl : news = [] := List.eq_nil_of_length_eq_zero (by simpa using hl)
    exact ⟨v, w, run_append_none base t ty e i size ht hi v n xs hown cap, by simpa using hown, ⟨rfl, rfl, rfl, Nat.le_refl _, fun _ _ _ => rfl⟩, .inl rfl⟩
  | some ad =>
    have hcells : ∀ j u, news[j]? = some u → w.cell? (ad.add j) = some u := fun j u hj => by
      have hj' : j < m * size := by rw [← hl]; exact (List.getElem?_eq_some_iff.1 hj).1
      have hm0 : 0 < m := Nat.pos_of_ne_zero (fun e => by rw [e] at hj'; omega)
      obtain ⟨b, o, e, _, hc⟩ := h3 hm0
      cases e
      have := hc j u hj
      by_cases h0 : j = 0
      · subst h0; simpa [Addr.add] using this
      · simpa [Addr.add, h0] using this
    obtain ⟨v', w', hrun, h2, h4, _, h5⟩ := run_append_own_at (P := P) w base t ty e i z size bytes ht hi hz hsize hby hzs hsz v n xs hown ad m cap news hl hcells h1 h63 hbytes hbase
    exact ⟨v', w', hrun, h2, h4, h5⟩
theorem wpList_append_row {ops : Array Oper} {rest : List Oper} {o : Oper} {a : Act} {Q : Exit → Act → World → Prop} (hgd : o.guard = none) (s x : Operand) (t : TypeId)
    (ho : o.op = .call { callee := .builtin .append, args := #[s, x], argTypes := #[t, t] })
    (base : Nat) (e : TypeId) (i : TypeInfo) (z : Value) (size bytes : Nat) (ht : P.underlying t = some (.slice e)) (hi : P.info? e = some i) (hz : i.zero = some z)
    (hsize : i.size = size) (hby : i.bytes = bytes) (hzs : z.cells.size = size) (hsz : 0 < size)
    (v : Value) (n : Nat) (xs : List Value) (hs : a.eval s = v) (hown : w.ownsRow base e size v n xs)
    (sv : Value) (m : Nat) (news : List Value) (hx : a.eval x = sv) (hr : IsRow w size sv m news) (h1 : ∀ u ∈ news, u.oneCell' = true)
    (h63 : n + m ≤ maxLen) (hbytes : (n + m) * bytes ≤ 140737488355328) (hbase : base ≤ w.heap.size)
    (h : ∀ v' w', w'.ownsRow base e size v' (n + m) (xs ++ news) → w.grownBy w' v.ownBlock → (v'.ownBlock = v.ownBlock ∨ v'.ownBlock = some w.heap.size) → wpList P ops Q rest (a.put o.dst v') w') :
    wpList P ops Q (o :: rest) a w := by
  refine wpList_plain hgd fun K hK => ?_
  obtain ⟨v', w', hrun, h2, h3, h4⟩ := run_append_row (P := P) base t o.type e i z size bytes ht hi hz hsize hby hzs hsz v n xs hown sv m news hr h1 h63 hbytes hbase
  unfold Oper.wp execOp
  simp only [ho, resolve, invoke, builtin, Sem.run_bind, Sem.run_pure, Result.andThen_ok, List.map_toArray, List.map_cons, List.map_nil, hs, hx, hrun]
  exact hK _ _ (h v' w' h2 h3 h4)
end
end Go.Proofs.YtidkpnabdfiilaaGreatDoor
