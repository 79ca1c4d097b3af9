/- The text of rules, plainly; what valid rules have. Words of a text by lists; words glued together by separators. Plain. The words of rules; what is read out of them, and out of a text. Plain. Where an error is; how long the text of what was read is. Plain. -/
import Derived.Test.YtidkpnabdfiilaaGreatDoorQ17
import Derived.Lib.Join
namespace Go.Proofs.YtidkpnabdfiilaaGreatDoor

def blanks (l : List ByteArray) : List UInt8 := (l.map fun s => 32 :: s.data.toList).flatten
def headO (p : ByteArray) : List UInt8 := if p.data.toList = [] then wAll else wPrefix ++ 32 :: p.data.toList
def groupL (g : List ByteArray) : List UInt8 := 32 :: wGroup ++ blanks g
def lineO (r : ORule) : List UInt8 := headO r.pre ++ (r.groups.map groupL).flatten ++ [32, 59, 10]
def textO (rs : List ORule) : List UInt8 := (rs.map lineO).flatten
def printO (rs : List ORule) : ByteArray × Int := if ocheckErr rs = 0 then (bOf (textO rs), 0) else (⟨#[]⟩, ocheckErr rs)
structure GoodO (r : ORule) : Prop where
  pre : preB r.pre.data.toList = true
  len : 0 < r.groups.length ∧ r.groups.length ≤ 8
  each : ∀ g ∈ r.groups, 0 < g.length ∧ g.length ≤ 20 ∧ ∀ s ∈ g, personB s.data.toList = true
theorem groupErr_ok : ∀ {g pre : List ByteArray}, groupErr pre g = 0 → ∀ s ∈ g, personB s.data.toList = true
  | [], _, _, s, hs => by cases hs
  | x :: g, pre, h, s, hs => by
    rw [groupErr] at h
    split at h
    · rename_i hp
      split at h
      · cases h
      · rcases List.mem_cons.1 hs with rfl | hs
        · exact hp
        · exact groupErr_ok h s hs
    · cases h
theorem groupsErr_ok : ∀ {gs : List (List ByteArray)}, groupsErr gs = 0 → ∀ g ∈ gs, groupErr [] g = 0
  | [], _, g, hg => by cases hg
  | x :: gs, h, g, hg => by
    rw [groupsErr] at h
    split at h
    · rename_i h0
      rcases List.mem_cons.1 hg with rfl | hg
      · exact h0
      · exact groupsErr_ok h g hg
    · rename_i h0; exact absurd h h0
theorem orule_good {r : ORule} (h : oruleErr r = 0) : GoodO r := by
  unfold oruleErr at h
  split at h
  · rename_i hp
    split at h
    · cases h
    · rename_i h1
      split at h
      · cases h
      · rename_i h2
        simp only [Bool.or_eq_true, beq_iff_eq, not_or, someEmpty, List.any_eq_true, not_exists, not_and] at h1
        simp only [Bool.or_eq_true, decide_eq_true_eq, not_or, someBig, List.any_eq_true, not_exists, not_and] at h2
        exact ⟨hp, ⟨by omega, by omega⟩, fun g hg => ⟨by have := h1.2 g hg; omega, by have := h2.2 g hg; omega, groupErr_ok (groupsErr_ok h g hg)⟩⟩
  · cases h
theorem ocheckFrom_ok : ∀ {rs pre : List ORule}, ocheckFrom pre rs = 0 → ∀ r ∈ rs, oruleErr r = 0
  | [], _, _, r, hr => by cases hr
  | x :: rs, pre, h, r, hr => by
    rw [ocheckFrom] at h
    split at h
    · rename_i h0
      split at h
      · cases h
      · rcases List.mem_cons.1 hr with rfl | hr
        · exact h0
        · exact ocheckFrom_ok h r hr
    · rename_i h0; exact absurd h h0
theorem ocheck_ok {rs : List ORule} (h : ocheckErr rs = 0) : rs.length ≤ 100 ∧ ∀ r ∈ rs, GoodO r := by
  unfold ocheckErr at h
  split at h
  · cases h
  · exact ⟨by omega, fun r hr => orule_good (ocheckFrom_ok h r hr)⟩
theorem person_len {l : List UInt8} (h : personB l = true) : 1 ≤ l.length ∧ l.length ≤ 24 := by
  unfold personB nameB at h
  simp only [Bool.and_eq_true, decide_eq_true_eq] at h
  exact ⟨h.2.1.1.1.1, h.2.1.1.1.2⟩
theorem pre_len {l : List UInt8} (h : preB l = true) : l.length ≤ 100 := by
  unfold preB at h
  simp only [Bool.and_eq_true, decide_eq_true_eq] at h
  exact h.1
theorem blanks_len (m : Nat) : ∀ {l : List ByteArray}, (∀ s ∈ l, s.data.toList.length ≤ m) → (blanks l).length ≤ l.length * (m + 1)
  | [], _ => by simp [blanks]
  | s :: l, h => by
    have ih := blanks_len m (l := l) (fun x hx => h x (List.mem_cons_of_mem _ hx))
    have hs := h s (List.mem_cons_self ..)
    have e : blanks (s :: l) = 32 :: s.data.toList ++ blanks l := by simp [blanks]
    rw [e, List.length_append, List.length_cons, List.length_cons, Nat.add_mul, Nat.one_mul]
    omega
theorem groupL_len {g : List ByteArray} (h : g.length ≤ 20) (hp : ∀ s ∈ g, personB s.data.toList = true) : (groupL g).length ≤ 506 := by
  have h1 := blanks_len 24 (l := g) (fun s hs => (person_len (hp s hs)).2)
  have e : (groupL g).length = 6 + (blanks g).length := by
    have : wGroup.length = 5 := rfl
    simp [groupL]; omega
  have : g.length * (24 + 1) ≤ 20 * (24 + 1) := Nat.mul_le_mul_right _ h
  omega
theorem flat_len (m : Nat) : ∀ {l : List (List UInt8)}, (∀ x ∈ l, x.length ≤ m) → l.flatten.length ≤ l.length * m
  | [], _ => by simp
  | x :: l, h => by
    have ih := flat_len m (l := l) (fun y hy => h y (List.mem_cons_of_mem _ hy))
    have := h x (List.mem_cons_self ..)
    rw [List.flatten_cons, List.length_append, List.length_cons, Nat.add_mul, Nat.one_mul]
    omega
theorem headO_len {p : ByteArray} (h : preB p.data.toList = true) : (headO p).length ≤ 107 := by
  have := pre_len h
  unfold headO
  split
  · decide
  · have e : wPrefix.length = 6 := rfl
    rw [List.length_append, List.length_cons, e]; omega
theorem groups_len {gs : List (List ByteArray)} (hl : gs.length ≤ 8) (h : ∀ g ∈ gs, g.length ≤ 20 ∧ ∀ s ∈ g, personB s.data.toList = true) : (gs.map groupL).flatten.length ≤ 4048 := by
  have h1 := flat_len 506 (l := gs.map groupL) (fun x hx => by
    obtain ⟨g, hg, rfl⟩ := List.mem_map.1 hx
    exact groupL_len (h g hg).1 (h g hg).2)
  rw [List.length_map] at h1
  have : gs.length * 506 ≤ 8 * 506 := Nat.mul_le_mul_right _ hl
  omega
theorem lineO_len {r : ORule} (h : GoodO r) : (lineO r).length ≤ 4158 := by
  have h1 := headO_len h.pre
  have h2 := groups_len h.len.2 (fun g hg => (h.each g hg).2)
  unfold lineO
  rw [List.length_append, List.length_append]
  simp only [List.length_cons, List.length_nil]
  omega
theorem textO_len {rs : List ORule} (h : ∀ r ∈ rs, GoodO r) : (textO rs).length ≤ rs.length * 4158 := by
  have := flat_len 4158 (l := rs.map lineO) (fun x hx => by
    obtain ⟨r, hr, rfl⟩ := List.mem_map.1 hx
    exact lineO_len (h r hr))
  rwa [List.length_map] at this
theorem textO_snoc {rs : List ORule} {k : Nat} {r : ORule} (h : rs[k]? = some r) : textO (rs.take (k + 1)) = textO (rs.take k) ++ lineO r := by
  rw [take_at h]; simp [textO]
theorem groupsL_snoc {gs : List (List ByteArray)} {k : Nat} {g : List ByteArray} (h : gs[k]? = some g) : ((gs.take (k + 1)).map groupL).flatten = ((gs.take k).map groupL).flatten ++ groupL g := by
  rw [take_at h]; simp
theorem join_blanks (x : ByteArray) : ∀ l : List ByteArray, Lib.join ((x :: l).map (·.data.toList)) [32] = x.data.toList ++ blanks l
  | [] => by simp [Lib.join_one, blanks]
  | y :: l => by
    have e : Lib.join ((x :: y :: l).map (·.data.toList)) [32] = x.data.toList ++ ([32] ++ Lib.join ((y :: l).map (·.data.toList)) [32]) := by simp [Lib.join, List.intercalate]
    rw [e, join_blanks y l]
    simp [blanks]
theorem groupL_join {g : List ByteArray} (h : 0 < g.length) : [32, 103, 114, 111, 117, 112, 32] ++ Lib.join (g.map (·.data.toList)) [32] = groupL g := by
  cases g with
  | nil => simp at h
  | cons x l => rw [join_blanks]; simp [groupL, wGroup, blanks]
end Go.Proofs.YtidkpnabdfiilaaGreatDoor

namespace Go.Proofs.YtidkpnabdfiilaaGreatDoor

/-- The words of the bytes l, the first of which lies at i. -/
def tokL : Nat → List UInt8 → Nat → List (ByteArray × Nat)
  | 0, _, _ => []
  | _ + 1, [], _ => []
  | f + 1, c :: r, i => if isSp c then tokL f r (i + 1)
      else if c = 35 then tokL f (r.drop (r.findIdx isNl)) (i + 1 + r.findIdx isNl)
      else (⟨(c :: r.take (r.findIdx isSp)).toArray⟩, i) :: tokL f (r.drop (r.findIdx isSp)) (i + 1 + r.findIdx isSp)
def tk (l : List UInt8) (i : Nat) : List (ByteArray × Nat) := tokL l.length l i
theorem bytes_ext {a b : ByteArray} (h : a.data.toList = b.data.toList) : a = b := by
  cases a; cases b; congr 1; exact Array.toList_inj.1 h
theorem toks_eq (s : ByteArray) : ∀ f i, toks s f i = tokL f (s.data.toList.drop i) i := by
  intro f
  induction f with
  | zero => intro i; rfl
  | succ f ih =>
    intro i
    rw [toks]
    by_cases h : i < s.size
    · have hl : i < s.data.toList.length := by rw [sz]; exact h
      rw [if_pos h]
      have hd : s.data.toList.drop i = s.data.toList[i] :: s.data.toList.drop (i + 1) := List.drop_eq_getElem_cons hl
      have hg : s.data.toList.getD i 0 = s.data.toList[i] := by rw [List.getD_eq_getElem?_getD, List.getElem?_eq_getElem hl]; rfl
      have st : ∀ p : UInt8 → Bool, p s.data.toList[i] = false → stopAt p s.data.toList i = i + 1 + (s.data.toList.drop (i + 1)).findIdx p := fun p hp => by
        unfold stopAt; rw [hd, List.findIdx_cons, hp]; simp only [cond_false]; omega
      rw [hd, tokL, hg]
      by_cases h1 : isSp s.data.toList[i] = true
      · rw [if_pos h1, if_pos h1]; exact ih _
      · rw [if_neg h1, if_neg h1]
        have h1' : isSp s.data.toList[i] = false := by simpa using h1
        have h2' : isNl s.data.toList[i] = false := by unfold isSp at h1'; unfold isNl; simp at h1' ⊢; exact h1'.2
        by_cases h2 : s.data.toList[i] = 35
        · rw [if_pos h2, if_pos h2, ih, st _ h2', List.drop_drop]
        · rw [if_neg h2, if_neg h2, ih, st _ h1', List.drop_drop]
          congr 2
          apply bytes_ext
          rw [ex_data, hd]
          rw [show i + 1 + List.findIdx isSp (s.data.toList.drop (i + 1)) - i = List.findIdx isSp (s.data.toList.drop (i + 1)) + 1 by omega, List.take_succ_cons]
    · rw [if_neg h, List.drop_eq_nil_of_le (by rw [sz]; omega), tokL]
theorem tokL_fuel : ∀ (f g : Nat) (l : List UInt8) (i : Nat), l.length ≤ f → l.length ≤ g → tokL f l i = tokL g l i := by
  intro f
  induction f with
  | zero =>
    intro g l i h1 h2
    obtain rfl : l = [] := List.eq_nil_of_length_eq_zero (by omega)
    cases g <;> rfl
  | succ f ih =>
    intro g l i h1 h2
    cases l with
    | nil => cases g <;> rfl
    | cons c r =>
      obtain ⟨g, rfl⟩ : ∃ g', g = g' + 1 := ⟨g - 1, by simp at h2; omega⟩
      simp only [List.length_cons] at h1 h2
      have hd : ∀ k, (r.drop k).length ≤ r.length := fun k => by rw [List.length_drop]; omega
      rw [tokL, tokL]
      rw [ih g r _ (by omega) (by omega), ih g (r.drop (r.findIdx isNl)) _ (by have := hd (r.findIdx isNl); omega) (by have := hd (r.findIdx isNl); omega), ih g (r.drop (r.findIdx isSp)) _ (by have := hd (r.findIdx isSp); omega) (by have := hd (r.findIdx isSp); omega)]
theorem wordsOf_tk (s : ByteArray) : wordsOf s = tk s.data.toList 0 := by
  unfold wordsOf tk
  rw [toks_eq, sz]; rfl
theorem tk_nil (i : Nat) : tk [] i = [] := rfl
theorem tk_sp {c : UInt8} (h : isSp c = true) (r : List UInt8) (i : Nat) : tk (c :: r) i = tk r (i + 1) := by
  unfold tk; rw [List.length_cons, tokL, if_pos h]
theorem tk_nl (r : List UInt8) (i : Nat) : tk (10 :: r) i = tk r (i + 1) := tk_sp rfl r i
theorem findIdx_app {p : UInt8 → Bool} : ∀ {a b : List UInt8}, (∀ x ∈ a, p x = false) → (∀ y t, b = y :: t → p y = true) → (a ++ b).findIdx p = a.length
  | [], b, _, hb => by
    cases b with
    | nil => rfl
    | cons y t => rw [List.nil_append, List.findIdx_cons, hb y t rfl]; rfl
  | c :: a, b, ha, hb => by
    rw [List.cons_append, List.findIdx_cons, ha c (List.mem_cons_self ..), findIdx_app (fun x hx => ha x (List.mem_cons_of_mem _ hx)) hb]
    rfl
theorem span_of (p : UInt8 → Bool) : ∀ r : List UInt8, ∃ a b, r = a ++ b ∧ (∀ x ∈ a, p x = false) ∧ (∀ y t, b = y :: t → p y = true)
  | [] => ⟨[], [], rfl, by simp, by simp⟩
  | c :: r => by
    obtain ⟨a, b, rfl, h1, h2⟩ := span_of p r
    cases hc : p c with
    | true => exact ⟨[], c :: (a ++ b), rfl, by simp, fun y t e => by cases e; exact hc⟩
    | false => exact ⟨c :: a, b, rfl, fun x hx => (List.mem_cons.1 hx).elim (fun e => e ▸ hc) (h1 x), h2⟩
theorem tk_com {a b : List UInt8} (ha : ∀ x ∈ a, isNl x = false) (hb : ∀ y t, b = y :: t → isNl y = true) (i : Nat) : tk (35 :: (a ++ b)) i = tk b (i + 1 + a.length) := by
  unfold tk
  rw [List.length_cons, tokL, if_neg (by decide), if_pos rfl, findIdx_app ha hb, List.drop_left]
  exact tokL_fuel _ _ _ _ (by simp) (Nat.le_refl _)
theorem tk_word {c : UInt8} {a b : List UInt8} (hc : isSp c = false) (h35 : c ≠ 35) (ha : ∀ x ∈ a, isSp x = false) (hb : ∀ y t, b = y :: t → isSp y = true) (i : Nat) : tk (c :: (a ++ b)) i = (⟨(c :: a).toArray⟩, i) :: tk b (i + 1 + a.length) := by
  unfold tk
  rw [List.length_cons, tokL, if_neg (by simp [hc]), if_neg h35, findIdx_app ha hb, List.drop_left, List.take_left]
  rw [tokL_fuel (a ++ b).length b.length b _ (by simp) (Nat.le_refl _)]
theorem tk_ge : ∀ (n : Nat) (l : List UInt8) (i : Nat), l.length ≤ n → ∀ x ∈ tk l i, i ≤ x.2
  | 0, l, i, h, x, hx => by
    obtain rfl : l = [] := List.eq_nil_of_length_eq_zero (by omega)
    simp [tk_nil] at hx
  | n + 1, [], i, h, x, hx => by simp [tk_nil] at hx
  | n + 1, c :: r, i, h, x, hx => by
    simp only [List.length_cons] at h
    cases hs : isSp c with
    | true => rw [tk_sp hs] at hx; have := tk_ge n r (i + 1) (by omega) x hx; omega
    | false =>
      by_cases h35 : c = 35
      · obtain ⟨a, b, rfl, h1, h2⟩ := span_of isNl r
        rw [h35, tk_com h1 h2] at hx
        have := tk_ge n b _ (by simp at h; omega) x hx
        omega
      · obtain ⟨a, b, rfl, h1, h2⟩ := span_of isSp r
        rw [tk_word hs h35 h1 h2] at hx
        rcases List.mem_cons.1 hx with rfl | hx
        · exact Nat.le_refl _
        · have := tk_ge n b _ (by simp at h; omega) x hx; omega
def okW (w : List UInt8) : Prop := w ≠ [] ∧ ∀ c ∈ w, isSp c = false ∧ c ≠ 35
def sepOK (s : List UInt8) : Prop := (∃ c t, s = c :: t ∧ isSp c = true) ∧ ∀ rest i, tk (s ++ rest) i = tk rest (i + s.length)
theorem sep_sp (c : UInt8) (h : isSp c = true) : sepOK [c] := ⟨⟨c, [], rfl, h⟩, fun rest i => tk_sp h rest i⟩
def glue (ps : List (List UInt8 × List UInt8)) : List UInt8 := (ps.map fun p => p.1 ++ p.2).flatten
theorem glue_cons (p : List UInt8 × List UInt8) (ps : List (List UInt8 × List UInt8)) : glue (p :: ps) = p.1 ++ (p.2 ++ glue ps) := by simp [glue]
theorem tk_glue : ∀ (ps : List (List UInt8 × List UInt8)), (∀ p ∈ ps, okW p.1 ∧ sepOK p.2) → ∀ (rest : List UInt8) (i : Nat), ∃ (Ws : List (ByteArray × Nat)) (j : Nat), Ws.map (·.1.data.toList) = ps.map (·.1) ∧ tk (glue ps ++ rest) i = Ws ++ tk rest j
  | [], _, rest, i => ⟨[], i, rfl, rfl⟩
  | p :: ps, h, rest, i => by
    obtain ⟨⟨hne, hw⟩, ⟨c', t', hs, hc'⟩, hsep⟩ := h p (List.mem_cons_self ..)
    obtain ⟨c, a, hp⟩ : ∃ c a, p.1 = c :: a := by
      cases hp : p.1 with
      | nil => exact absurd hp hne
      | cons c a => exact ⟨c, a, rfl⟩
    rw [hp] at hw
    have e : glue (p :: ps) ++ rest = c :: (a ++ (p.2 ++ (glue ps ++ rest))) := by rw [glue_cons, hp]; simp
    obtain ⟨Ws, j, h1, h2⟩ := tk_glue ps (fun q hq => h q (List.mem_cons_of_mem _ hq)) rest (i + 1 + a.length + p.2.length)
    refine ⟨(⟨(c :: a).toArray⟩, i) :: Ws, j, ?_, ?_⟩
    · rw [List.map_cons, List.map_cons, h1, hp]
    · rw [e, tk_word (hw c (List.mem_cons_self ..)).1 (hw c (List.mem_cons_self ..)).2 (fun x hx => (hw x (List.mem_cons_of_mem _ hx)).1) (fun y t hy => by rw [hs] at hy; cases hy; exact hc'), hsep, h2]
      rfl
end Go.Proofs.YtidkpnabdfiilaaGreatDoor

namespace Go.Proofs.YtidkpnabdfiilaaGreatDoor

def bAll : ByteArray := ⟨#[97, 108, 108]⟩
def bPrefix : ByteArray := ⟨#[112, 114, 101, 102, 105, 120]⟩
def bGroup : ByteArray := ⟨#[103, 114, 111, 117, 112]⟩
def bSemi : ByteArray := ⟨#[59]⟩
def headW (p : ByteArray) : List ByteArray := if p.data.toList = [] then [bAll] else [bPrefix, p]
def groupsWB (gs : List (List ByteArray)) : List ByteArray := gs.flatMap fun g => bGroup :: g
def wordsB (r : ORule) : List ByteArray := headW r.pre ++ groupsWB r.groups ++ [bSemi]
def allB (rs : List ORule) : List ByteArray := rs.flatMap wordsB
/-! Reading words without places. -/
def readB : Nat → List ORule → List ByteArray → Option (Nat × List ORule)
  | p, rs, [] => some (p, rs)
  | p, rs, w :: ws => match readW p rs w with
    | some (p', rs') => readB p' rs' ws
    | none => none
theorem readAll_of : ∀ (ws : OWords) (p : Nat) (rs : List ORule) (q : Nat × List ORule), readB p rs (ws.map (·.1)) = some q → readAll p rs ws = .ok q
  | [], p, rs, q, h => by rw [List.map_nil, readB] at h; cases h; rfl
  | w :: ws, p, rs, q, h => by
    rw [List.map_cons, readB] at h
    rw [readAll]
    cases hr : readW p rs w.1 with
    | none => rw [hr] at h; cases h
    | some x => rw [hr] at h; exact readAll_of ws _ _ q h
theorem readB_app : ∀ (a b : List ByteArray) (p : Nat) (rs : List ORule) (p' : Nat) (rs' : List ORule), readB p rs a = some (p', rs') → readB p rs (a ++ b) = readB p' rs' b
  | [], b, p, rs, p', rs', h => by rw [readB] at h; cases h; rfl
  | w :: a, b, p, rs, p', rs', h => by
    rw [readB] at h
    rw [List.cons_append, readB]
    cases hr : readW p rs w with
    | none => rw [hr] at h; cases h
    | some x => rw [hr] at h; exact readB_app a b _ _ p' rs' h
theorem persons_read (acc : List ORule) (pre : ByteArray) (gi : List (List ByteArray)) : ∀ (g gl : List ByteArray) (p : Nat), (p = 3 ∨ p = 4) → (∀ s ∈ g, personB s.data.toList = true) → g ≠ [] → readB p (acc ++ [⟨pre, gi ++ [gl]⟩]) g = some (4, acc ++ [⟨pre, gi ++ [gl ++ g]⟩])
  | [], gl, p, _, _, hne => absurd rfl hne
  | s :: g, gl, p, hp, hs, _ => by
    have hps : personS s = true := hs s (List.mem_cons_self ..)
    have hng : (s.toList == [103, 114, 111, 117, 112]) = false := by
      cases hq : (s.toList == [103, 114, 111, 117, 112]) with
      | false => rfl
      | true => rw [personS_group hq] at hps; cases hps
    rw [readB, readW_person hp (fun _ => hng) hps, addPerson_snoc]
    simp only []
    cases g with
    | nil => rfl
    | cons t g =>
      rw [persons_read acc pre gi (t :: g) (gl ++ [s]) 4 (.inr rfl) (fun x hx => hs x (List.mem_cons_of_mem _ hx)) (by simp)]
      simp
theorem group_eq : (bGroup.toList == [103, 114, 111, 117, 112]) = true := by rw [tl]; rfl
theorem groups_read (acc : List ORule) (pre : ByteArray) : ∀ (gs gi : List (List ByteArray)) (p : Nat), (p = 2 ∨ p = 4) → (∀ g ∈ gs, 0 < g.length ∧ ∀ s ∈ g, personB s.data.toList = true) → gs ≠ [] → readB p (acc ++ [⟨pre, gi⟩]) (groupsWB gs) = some (4, acc ++ [⟨pre, gi ++ gs⟩])
  | [], gi, p, _, _, hne => absurd rfl hne
  | g :: gs, gi, p, hp, hg, _ => by
    obtain ⟨h1, h2⟩ := hg g (List.mem_cons_self ..)
    have e : groupsWB (g :: gs) = bGroup :: (g ++ groupsWB gs) := by simp [groupsWB]
    rw [e, readB, readW_group hp group_eq, addGroup_snoc]
    simp only []
    rw [readB_app g (groupsWB gs) 3 _ 4 _ (persons_read acc pre gi g [] 3 (.inl rfl) h2 (by intro e; rw [e] at h1; simp at h1))]
    cases gs with
    | nil => rfl
    | cons g' gs =>
      rw [List.nil_append, groups_read acc pre (g' :: gs) (gi ++ [g]) 4 (.inr rfl) (fun x hx => hg x (List.mem_cons_of_mem _ hx)) (by simp)]
      simp
theorem empty_bytes {p : ByteArray} (h : p.data.toList = []) : p = ⟨#[]⟩ := bytes_ext h
theorem rule_read (acc : List ORule) (r : ORule) (h : GoodO r) : readB 0 acc (wordsB r) = some (0, acc ++ [r]) := by
  have hhead : readB 0 acc (headW r.pre) = some (2, acc ++ [⟨r.pre, []⟩]) := by
    unfold headW
    split
    · rename_i he
      rw [readB, readW_all (by rw [tl]; rfl), empty_bytes he]; rfl
    · rw [readB, readW_prefix (by rw [tl]; rfl) (by rw [tl]; rfl)]
      simp only []
      rw [readB, readW_pre h.pre]; rfl
  have hgs : readB 2 (acc ++ [⟨r.pre, []⟩]) (groupsWB r.groups) = some (4, acc ++ [⟨r.pre, [] ++ r.groups⟩]) :=
    groups_read acc r.pre r.groups [] 2 (.inl rfl) (fun g hg => ⟨(h.each g hg).1, (h.each g hg).2.2⟩) (by intro e; have := h.len.1; rw [e] at this; simp at this)
  unfold wordsB
  rw [List.append_assoc, readB_app _ _ _ _ _ _ hhead, readB_app _ _ _ _ _ _ hgs, readB, readW_semi (by rw [tl]; rfl) (by unfold personS; rfl) (by rw [tl]; rfl)]
  rfl
theorem rules_read : ∀ (rs acc : List ORule), (∀ r ∈ rs, GoodO r) → readB 0 acc (allB rs) = some (0, acc ++ rs)
  | [], acc, _ => by simp [allB, readB]
  | r :: rs, acc, h => by
    have e : allB (r :: rs) = wordsB r ++ allB rs := by simp [allB]
    rw [e, readB_app _ _ _ _ _ _ (rule_read acc r (h r (List.mem_cons_self ..))), rules_read rs (acc ++ [r]) (fun q hq => h q (List.mem_cons_of_mem _ hq))]
    simp
/-! The characters of the words. -/
theorem let_char {c : UInt8} (h : preC c = true) : isSp c = false ∧ c ≠ 35 ∧ 42 ≤ c.toNat ∧ c.toNat ≤ 122 := by
  have hb : 45 ≤ c.toNat ∧ c.toNat ≤ 122 := by
    unfold preC letU letN at h
    simp only [Bool.or_eq_true, Bool.and_eq_true, decide_eq_true_eq, beq_iff_eq] at h
    rcases h with h | h
    · rcases h with ((((h | h) | h) | h) | h) | h <;> omega
    · rw [h]; decide
  have ne : ∀ d : UInt8, d.toNat < 45 → c ≠ d := fun d hd e => by rw [e] at hb; omega
  refine ⟨?_, ne 35 (by decide), by omega, by omega⟩
  unfold isSp
  have h1 := ne 32 (by decide)
  have h2 := ne 10 (by decide)
  simp [h1, h2]
def ascW (w : List UInt8) : Prop := w ≠ [] ∧ ∀ c ∈ w, 42 ≤ c.toNat ∧ c.toNat ≤ 122
theorem pre_word {p : List UInt8} (h : preB p = true) (hne : p ≠ []) : okW p ∧ ascW p := by
  unfold preB at h
  simp only [Bool.and_eq_true, List.all_eq_true] at h
  exact ⟨⟨hne, fun c hc => ⟨(let_char (h.2 c hc)).1, (let_char (h.2 c hc)).2.1⟩⟩, ⟨hne, fun c hc => (let_char (h.2 c hc)).2.2⟩⟩
theorem person_word {p : List UInt8} (h : personB p = true) : okW p ∧ ascW p := by
  have hl := person_len h
  have hne : p ≠ [] := by intro e; rw [e] at hl; simp at hl
  unfold personB nameB at h
  simp only [Bool.and_eq_true, List.all_eq_true] at h
  have hc : ∀ c ∈ p, preC c = true := fun c hc => by unfold preC; rw [h.2.2 c hc]; rfl
  exact ⟨⟨hne, fun c hcc => ⟨(let_char (hc c hcc)).1, (let_char (hc c hcc)).2.1⟩⟩, ⟨hne, fun c hcc => (let_char (hc c hcc)).2.2⟩⟩
theorem words_ok {r : ORule} (h : GoodO r) : ∀ x ∈ wordsB r, okW x.data.toList ∧ ascW x.data.toList := by
  intro x hx
  unfold wordsB at hx
  simp only [List.mem_append, List.mem_singleton] at hx
  have kw : ∀ w : List UInt8, w ≠ [] → (∀ c ∈ w, isSp c = false ∧ c ≠ 35) → (∀ c ∈ w, 42 ≤ c.toNat ∧ c.toNat ≤ 122) → okW w ∧ ascW w := fun w a b c => ⟨⟨a, b⟩, ⟨a, c⟩⟩
  rcases hx with (hx | hx) | rfl
  · unfold headW at hx
    split at hx
    · rw [List.mem_singleton.1 hx]; exact kw _ (by decide) (by decide) (by decide)
    · rename_i hne
      simp only [List.mem_cons, List.not_mem_nil, or_false] at hx
      rcases hx with rfl | rfl
      · exact kw _ (by decide) (by decide) (by decide)
      · exact pre_word h.pre hne
  · unfold groupsWB at hx
    obtain ⟨g, hg, hxg⟩ := List.mem_flatMap.1 hx
    rcases List.mem_cons.1 hxg with rfl | hxg
    · exact kw _ (by decide) (by decide) (by decide)
    · exact person_word ((h.each g hg).2.2 x hxg)
  · exact kw _ (by decide) (by decide) (by decide)
theorem all_ok {rs : List ORule} (h : ∀ r ∈ rs, GoodO r) : ∀ x ∈ allB rs, okW x.data.toList ∧ ascW x.data.toList := by
  intro x hx
  obtain ⟨r, hr, hxr⟩ := List.mem_flatMap.1 hx
  exact words_ok (h r hr) x hxr
/-! A text that is words with separators. -/
theorem map_data_inj {a b : List ByteArray} (h : a.map (·.data.toList) = b.map (·.data.toList)) : a = b := by
  have := congrArg (List.map fun l : List UInt8 => (⟨l.toArray⟩ : ByteArray)) h
  rw [List.map_map, List.map_map] at this
  have e : ((fun l : List UInt8 => (⟨l.toArray⟩ : ByteArray)) ∘ fun x : ByteArray => x.data.toList) = id := by funext x; rfl
  rwa [e, List.map_id, List.map_id] at this
theorem parse_glue {rs : List ORule} (hc : ocheckErr rs = 0) (ps : List (List UInt8 × List UInt8)) (hp : ps.map (·.1) = (allB rs).map (·.data.toList)) (hs : ∀ p ∈ ps, sepOK p.2) (t : ByteArray) (ht : t.data.toList = glue ps) : oparse t = (rs, 0, 0) := by
  have hgood := (ocheck_ok hc).2
  have hok : ∀ p ∈ ps, okW p.1 ∧ sepOK p.2 := fun p hpm => by
    have : p.1 ∈ (allB rs).map (·.data.toList) := by rw [← hp]; exact List.mem_map_of_mem hpm
    obtain ⟨x, hx, e⟩ := List.mem_map.1 this
    rw [← e]
    exact ⟨(all_ok hgood x hx).1, hs p hpm⟩
  obtain ⟨Ws, j, h1, h2⟩ := tk_glue ps hok [] 0
  rw [List.append_nil, tk_nil, List.append_nil] at h2
  have hw : wordsOf t = Ws := by rw [wordsOf_tk, ht, h2]
  have hm : Ws.map (·.1) = allB rs := map_data_inj (by rw [List.map_map]; exact h1.trans hp)
  have := readAll_of Ws 0 [] (0, [] ++ rs) (by rw [hm]; exact rules_read rs [] hgood)
  unfold oparse
  rw [hw, this]
  simp only []
  rw [if_pos trivial, List.nil_append, if_pos hc]
def sepsO : List (List UInt8) → List (List UInt8 × List UInt8)
  | [] => []
  | [x] => [(x, [10])]
  | x :: y :: l => (x, [32]) :: sepsO (y :: l)
def blanksL (l : List (List UInt8)) : List UInt8 := (l.map fun s => 32 :: s).flatten
theorem glue_seps : ∀ (x : List UInt8) (l : List (List UInt8)), glue (sepsO (x :: l)) = x ++ blanksL l ++ [10]
  | x, [] => by simp [sepsO, glue, blanksL]
  | x, y :: l => by
    rw [sepsO, glue_cons, glue_seps y l]
    simp [blanksL]
theorem seps_map : ∀ l : List (List UInt8), (sepsO l).map (·.1) = l
  | [] => rfl
  | [x] => rfl
  | x :: y :: l => by rw [sepsO, List.map_cons, seps_map (y :: l)]
theorem seps_ok : ∀ (l : List (List UInt8)) (p : List UInt8 × List UInt8), p ∈ sepsO l → sepOK p.2
  | [], p, h => by cases h
  | [x], p, h => by rw [List.mem_singleton.1 h]; exact sep_sp 10 rfl
  | x :: y :: l, p, h => by
    rw [sepsO] at h
    rcases List.mem_cons.1 h with rfl | h
    · exact sep_sp 32 rfl
    · exact seps_ok (y :: l) p h
theorem blanksL_app (a b : List (List UInt8)) : blanksL (a ++ b) = blanksL a ++ blanksL b := by simp [blanksL]
theorem groups_blanks : ∀ gs : List (List ByteArray), blanksL ((groupsWB gs).map (·.data.toList)) = (gs.map groupL).flatten
  | [] => rfl
  | g :: gs => by
    have e : groupsWB (g :: gs) = bGroup :: (g ++ groupsWB gs) := by simp [groupsWB]
    rw [e, List.map_cons, List.map_append]
    have e2 : blanksL (bGroup.data.toList :: (g.map (·.data.toList) ++ (groupsWB gs).map (·.data.toList))) = groupL g ++ blanksL ((groupsWB gs).map (·.data.toList)) := by
      simp [blanksL, groupL, blanks, wGroup, bGroup]
      rfl
    rw [e2, groups_blanks gs]; simp
theorem line_glue (r : ORule) : lineO r = glue (sepsO ((wordsB r).map (·.data.toList))) := by
  unfold wordsB headW lineO headO
  split
  · have e : ([bAll] ++ groupsWB r.groups ++ [bSemi]).map (·.data.toList) = bAll.data.toList :: ((groupsWB r.groups).map (·.data.toList) ++ [bSemi.data.toList]) := by simp
    rw [e, glue_seps, blanksL_app, groups_blanks]
    simp [blanksL, bAll, bSemi, wAll]
  · have e : ([bPrefix, r.pre] ++ groupsWB r.groups ++ [bSemi]).map (·.data.toList) = bPrefix.data.toList :: ([r.pre.data.toList] ++ ((groupsWB r.groups).map (·.data.toList) ++ [bSemi.data.toList])) := by simp
    rw [e, glue_seps, blanksL_app, blanksL_app, groups_blanks]
    simp [blanksL, bPrefix, bSemi, wPrefix]
def textPs (rs : List ORule) : List (List UInt8 × List UInt8) := rs.flatMap fun r => sepsO ((wordsB r).map (·.data.toList))
theorem text_glue (rs : List ORule) : textO rs = glue (textPs rs) := by
  induction rs with
  | nil => rfl
  | cons r rs ih =>
    have e : textO (r :: rs) = lineO r ++ textO rs := by simp [textO]
    have e2 : textPs (r :: rs) = sepsO ((wordsB r).map (·.data.toList)) ++ textPs rs := by simp [textPs]
    rw [e, e2, ih, line_glue]
    simp [glue]
theorem textPs_map (rs : List ORule) : (textPs rs).map (·.1) = (allB rs).map (·.data.toList) := by
  induction rs with
  | nil => rfl
  | cons r rs ih =>
    have e : textPs (r :: rs) = sepsO ((wordsB r).map (·.data.toList)) ++ textPs rs := by simp [textPs]
    have e2 : allB (r :: rs) = wordsB r ++ allB rs := by simp [allB]
    rw [e, e2, List.map_append, List.map_append, seps_map, ih]
theorem parse_text {rs : List ORule} (hc : ocheckErr rs = 0) : oparse (bOf (textO rs)) = (rs, 0, 0) :=
  parse_glue hc (textPs rs) (textPs_map rs) (fun p hp => by
    obtain ⟨r, _, hr⟩ := List.mem_flatMap.1 hp
    exact seps_ok _ p hr) _ (by rw [data_bOf, text_glue])
end Go.Proofs.YtidkpnabdfiilaaGreatDoor

namespace Go.Proofs.YtidkpnabdfiilaaGreatDoor

theorem readAll_pos : ∀ (ws : OWords) (p : Nat) (rs : List ORule) (i : Nat), readAll p rs ws = .error i → ∃ x ∈ ws, i = x.2
  | [], p, rs, i, h => by cases h
  | w :: ws, p, rs, i, h => by
    rw [readAll] at h
    cases hr : readW p rs w.1 with
    | none => rw [hr] at h; cases h; exact ⟨w, List.mem_cons_self .., rfl⟩
    | some x =>
      rw [hr] at h
      obtain ⟨y, hy, e⟩ := readAll_pos ws _ _ i h
      exact ⟨y, List.mem_cons_of_mem _ hy, e⟩
theorem oparse_error (s : ByteArray) (h : (oparse s).2.2 ≠ 0) : (oparse s).1 = [] ∧ 0 ≤ (oparse s).2.1 ∧ (oparse s).2.1 ≤ (s.size : Int) ∧ ((oparse s).2.2 = 3 ∨ (oparse s).2.1 = 0) := by
  unfold oparse at *
  cases hr : readAll 0 [] (wordsOf s) with
  | error i =>
    obtain ⟨x, hx, e⟩ := readAll_pos _ _ _ _ hr
    have := (toks_small s _ _ x hx).2
    refine ⟨rfl, ?_, ?_, .inl rfl⟩
    · show (0 : Int) ≤ (i : Int); omega
    · show (i : Int) ≤ (s.size : Int); omega
  | ok q =>
    obtain ⟨p, rs⟩ := q
    simp only [hr] at h ⊢
    split
    · rename_i hp
      split
      · rename_i hc; rw [if_pos hp, if_pos hc] at h; exact absurd rfl h
      · exact ⟨rfl, by simp, by simp, .inr rfl⟩
    · exact ⟨rfl, by simp, by simp, .inl rfl⟩
theorem oparse_okay (s : ByteArray) (h : (oparse s).2.2 = 0) : ∃ rs, oparse s = (rs, 0, 0) ∧ ocheckErr rs = 0 ∧ readAll 0 [] (wordsOf s) = .ok (0, rs) := by
  unfold oparse at *
  cases hr : readAll 0 [] (wordsOf s) with
  | error i => simp only [hr] at h; cases h
  | ok q =>
    obtain ⟨p, rs⟩ := q
    simp only [hr] at h ⊢
    split at h
    · rename_i hp
      split at h
      · rename_i hc; subst hp; exact ⟨rs, by rw [if_pos rfl, if_pos hc], hc, rfl⟩
      · rename_i hc; exact absurd h hc
    · cases h
/-! The words that were read. -/
def Wd (p : Nat) (rs : List ORule) (ws : List ByteArray) : Prop :=
  (p = 0 ∧ ws = allB rs) ∨ (p = 1 ∧ ws = allB rs ++ [bPrefix]) ∨ (2 ≤ p ∧ ∃ ri pre gs, rs = ri ++ [⟨pre, gs⟩] ∧ ws = allB ri ++ headW pre ++ groupsWB gs)
theorem allB_app (a b : List ORule) : allB (a ++ b) = allB a ++ allB b := by simp [allB]
theorem groupsWB_app (a b : List (List ByteArray)) : groupsWB (a ++ b) = groupsWB a ++ groupsWB b := by simp [groupsWB]
theorem readW_word {p p' : Nat} {rs rs' : List ORule} {w : ByteArray} {ws : List ByteArray} (h : readW p rs w = some (p', rs')) (ho : OkP p rs) (hne : w.data.toList ≠ []) (hw : Wd p rs ws) : Wd p' rs' (ws ++ [w]) := by
  unfold readW at h
  split at h
  · rename_i hc
    cases h
    rcases hw with ⟨_, rfl⟩ | ⟨e, _⟩ | ⟨e, _⟩
    · refine .inr (.inr ⟨by omega, rs, _, _, rfl, ?_⟩)
      rw [show w = bAll from bytes_ext hc.2]
      simp [headW, groupsWB]
    · omega
    · omega
  split at h
  · rename_i hc
    cases h
    rcases hw with ⟨_, rfl⟩ | ⟨e, _⟩ | ⟨e, _⟩
    · exact .inr (.inl ⟨rfl, by rw [show w = bPrefix from bytes_ext hc.2]⟩)
    · omega
    · omega
  split at h
  · rename_i hc
    cases h
    rcases hw with ⟨e, _⟩ | ⟨_, rfl⟩ | ⟨e, _⟩
    · omega
    · refine .inr (.inr ⟨by omega, rs, _, _, rfl, ?_⟩)
      simp [headW, hne, groupsWB]
    · omega
  split at h
  · rename_i hc
    cases h
    rcases hw with ⟨e, _⟩ | ⟨e, _⟩ | ⟨_, ri, pre, gs, rfl, rfl⟩
    · omega
    · omega
    · refine .inr (.inr ⟨by omega, ri, pre, gs ++ [[]], addGroup_snoc _ _ _, ?_⟩)
      rw [groupsWB_app, show w = bGroup from bytes_ext hc.2]
      simp [groupsWB]
  split at h
  · rename_i hc
    cases h
    rcases hw with ⟨e, _⟩ | ⟨e, _⟩ | ⟨_, ri, pre, gs, rfl, rfl⟩
    · omega
    · omega
    · obtain ⟨ri', pre', gi, gl, e⟩ := ho.2.2 hc.1
      obtain ⟨rfl, e2⟩ := List.append_inj' e rfl
      cases e2
      refine .inr (.inr ⟨by omega, ri, pre, gi ++ [gl ++ [w]], addPerson_snoc _ _ _ _ _, ?_⟩)
      rw [groupsWB_app, groupsWB_app]
      simp [groupsWB]
  split at h
  · rename_i hc
    cases h
    rcases hw with ⟨e, _⟩ | ⟨e, _⟩ | ⟨_, ri, pre, gs, rfl, rfl⟩
    · omega
    · omega
    · refine .inl ⟨rfl, ?_⟩
      rw [allB_app, show w = bSemi from bytes_ext hc.2]
      simp [allB, wordsB]
  · cases h
theorem readAll_words : ∀ (ws : OWords) (p K : Nat) (rs : List ORule) (us : List ByteArray) (q : Nat) (rs' : List ORule), (∀ x ∈ ws, x.1.data.toList ≠ [] ∧ x.1.size ≤ 40000) → OkP p rs → Bnd K rs → Wd p rs us → readAll p rs ws = .ok (q, rs') → Wd q rs' (us ++ ws.map (·.1))
  | [], p, K, rs, us, q, rs', _, _, _, hw, h => by rw [readAll] at h; cases h; simpa using hw
  | w :: ws, p, K, rs, us, q, rs', hs, ho, hB, hw, h => by
    rw [readAll] at h
    cases hr : readW p rs w.1 with
    | none => rw [hr] at h; cases h
    | some x =>
      rw [hr] at h
      obtain ⟨p1, rs1⟩ := x
      have hk := readW_keeps hr ho hB (hs w (List.mem_cons_self ..)).2
      have := readAll_words ws p1 (K + 1) rs1 (us ++ [w.1]) q rs' (fun y hy => hs y (List.mem_cons_of_mem _ hy)) hk.1 hk.2 (readW_word hr ho (hs w (List.mem_cons_self ..)).1 hw) h
      simpa using this
/-! Lengths. -/
def sumB (l : List ByteArray) : Nat := (l.map fun x => x.data.toList.length + 1).sum
theorem tk_words : ∀ (n : Nat) (l : List UInt8) (i : Nat), l.length ≤ n → sumB ((tk l i).map (·.1)) ≤ l.length + 1 ∧ (∀ x ∈ tk l i, x.1.data.toList ≠ [])
  | 0, l, i, h => by
    obtain rfl : l = [] := List.eq_nil_of_length_eq_zero (by omega)
    simp [tk_nil, sumB]
  | n + 1, [], i, h => by simp [tk_nil, sumB]
  | n + 1, c :: r, i, h => by
    simp only [List.length_cons] at h
    cases hs : isSp c with
    | true =>
      rw [tk_sp hs]
      have := tk_words n r (i + 1) (by omega)
      exact ⟨by simp only [List.length_cons]; omega, this.2⟩
    | false =>
      by_cases h35 : c = 35
      · obtain ⟨a, b, rfl, h1, h2⟩ := span_of isNl r
        rw [h35, tk_com h1 h2]
        have := tk_words n b (i + 1 + a.length) (by simp at h; omega)
        exact ⟨by simp only [List.length_cons, List.length_append]; omega, this.2⟩
      · obtain ⟨a, b, rfl, h1, h2⟩ := span_of isSp r
        rw [tk_word hs h35 h1 h2]
        cases b with
        | nil =>
          rw [tk_nil]
          refine ⟨by show ((c :: a).length + 1) + 0 ≤ _; simp, fun x hx => ?_⟩
          rw [List.mem_singleton.1 hx]; simp
        | cons y b =>
          rw [tk_sp (h2 y b rfl)]
          have := tk_words n b (i + 1 + a.length + 1) (by simp at h; omega)
          refine ⟨?_, fun x hx => ?_⟩
          · have e : sumB (List.map (·.1) ((⟨(c :: a).toArray⟩, i) :: tk b (i + 1 + a.length + 1))) = (a.length + 1 + 1) + sumB ((tk b (i + 1 + a.length + 1)).map (·.1)) := rfl
            rw [e]
            simp only [List.length_cons, List.length_append]
            omega
          · rcases List.mem_cons.1 hx with rfl | hx
            · simp
            · exact this.2 x hx
theorem sumB_app (a b : List ByteArray) : sumB (a ++ b) = sumB a + sumB b := by simp [sumB]
theorem seps_len : ∀ l : List ByteArray, (glue (sepsO (l.map (·.data.toList)))).length = sumB l
  | [] => rfl
  | [x] => by simp [sepsO, glue, sumB]
  | x :: y :: l => by
    have ih := seps_len (y :: l)
    have e : sumB (x :: y :: l) = x.data.toList.length + 1 + sumB (y :: l) := by simp [sumB]
    rw [List.map_cons, List.map_cons, sepsO, glue_cons, e, ← ih, List.map_cons]
    simp; omega
theorem text_len : ∀ rs : List ORule, (textO rs).length = sumB (allB rs)
  | [] => rfl
  | r :: rs => by
    have e : textO (r :: rs) = lineO r ++ textO rs := by simp [textO]
    have e2 : allB (r :: rs) = wordsB r ++ allB rs := by simp [allB]
    rw [e, e2, List.length_append, text_len rs, sumB_app, line_glue, seps_len]
theorem text_short {s : ByteArray} {rs : List ORule} (hs : s.size ≤ 40000) (h : readAll 0 [] (wordsOf s) = .ok (0, rs)) : (textO rs).length ≤ s.size + 1 := by
  obtain ⟨h1, h2⟩ := tk_words s.data.toList.length s.data.toList 0 (Nat.le_refl _)
  rw [← wordsOf_tk] at h1 h2
  have hsm := words_small s hs
  have := readAll_words (wordsOf s) 0 0 [] [] 0 rs (fun x hx => ⟨h2 x hx, (hsm.each x hx).1⟩) ⟨by omega, by omega, by omega⟩ ⟨Nat.zero_le _, fun r hr => by cases hr⟩ (.inl ⟨rfl, rfl⟩) h
  rcases this with ⟨_, e⟩ | ⟨e, _⟩ | ⟨e, _⟩
  · rw [text_len, ← e, List.nil_append, ← sz]; exact h1
  · omega
  · omega
end Go.Proofs.YtidkpnabdfiilaaGreatDoor
