/- Reading rules out of words, plainly, step by step as the reader does; and the reader's parts as five like steps. -/
import Derived.Test.YtgcmekpfhagnbaaDoorRdD
namespace Go.Proofs.YtgcmekpfhagnbaaDoor
open Go.RowKit

/-- The reader's state: the words that are left, and the rule so far. -/
structure St where
  ws : Words
  kd : Int
  nm : ByteArray
  ds : List ByteArray
  vs : List ByteArray
def step (j : Nat) (st : St) : Bool × St :=
  match j with
  | 0 => match kindOf st.ws with
    | some k => (true, ⟨st.ws.tail, k, ⟨#[]⟩, [], []⟩)
    | none => (false, ⟨st.ws, 2, ⟨#[]⟩, [], []⟩)
  | 1 => if freeNameS (headT st.ws) then (true, ⟨st.ws.tail, st.kd, headT st.ws, st.ds, st.vs⟩) else (false, ⟨st.ws, st.kd, headT st.ws, st.ds, st.vs⟩)
  | 2 => ((listOf bb_deps freeLabelS st.ws).2.1, ⟨(listOf bb_deps freeLabelS st.ws).2.2, st.kd, st.nm, (listOf bb_deps freeLabelS st.ws).1, st.vs⟩)
  | 3 => ((listOf bb_visible viewerS st.ws).2.1, ⟨(listOf bb_visible viewerS st.ws).2.2, st.kd, st.nm, st.ds, (listOf bb_visible viewerS st.ws).1⟩)
  | _ => if (headT st.ws).toList == b_semi.toList then (true, ⟨st.ws.tail, st.kd, st.nm, st.ds, st.vs⟩) else (false, st)
/-- The steps from j on, n of them, as long as they go well. -/
def stepsFrom (j : Nat) : Nat → St → Bool × St
  | 0, st => (true, st)
  | n + 1, st => if (step j st).1 then stepsFrom (j + 1) n (step j st).2 else (false, (step j st).2)
def ruleOf (st : St) : Rule := ⟨st.kd, st.nm, st.ds, st.vs⟩
/-- The rules of words: the rules, or the words at which they do not fit. -/
def parseW : Nat → St → List Rule → Except Words (List Rule)
  | 0, _, rs => .ok rs
  | f + 1, st, rs => if st.ws.length = 0 then .ok rs else
      if (stepsFrom 0 5 st).1 then parseW f (stepsFrom 0 5 st).2 (rs ++ [ruleOf (stepsFrom 0 5 st).2]) else .error (stepsFrom 0 5 st).2.ws
structure SmallSt (st : St) : Prop where
  ws : SmallW st.ws
  nm : st.nm.size ≤ 40000
  ds : ∀ s ∈ st.ds, s.size ≤ 40000
  vs : ∀ s ∈ st.vs, s.size ≤ 40000
theorem SmallSt.rule {st : St} (h : SmallSt st) : SmallR (ruleOf st) := ⟨h.nm, h.ds, h.vs⟩
theorem small_tail {ws : Words} (h : SmallW ws) : SmallW ws.tail := by
  cases ws with
  | nil => exact h
  | cons x r => exact h.tail
theorem listOf_small (txt : ByteArray) (vb : ByteArray → Bool) {ws : Words} (h : SmallW ws) : (∀ s ∈ (listOf txt vb ws).1, s.size ≤ 40000) ∧ SmallW (listOf txt vb ws).2.2 ∧ (listOf txt vb ws).2.2.length ≤ ws.length := by
  unfold listOf
  split
  · obtain ⟨h1, h2, h3⟩ := takeV_small vb (small_tail h)
    refine ⟨h1, h2, ?_⟩
    have := ws.length_tail
    show (takeV vb ws.tail).2.length ≤ _
    omega
  · exact ⟨by simp, h, Nat.le_refl _⟩
theorem step_small (j : Nat) {st : St} (h : SmallSt st) : SmallSt (step j st).2 ∧ (step j st).2.ws.length ≤ st.ws.length := by
  have ht := small_tail h.ws
  have hl : st.ws.tail.length ≤ st.ws.length := by rw [List.length_tail]; omega
  unfold step
  split
  · split
    · exact ⟨⟨ht, Nat.zero_le _, by simp, by simp⟩, hl⟩
    · exact ⟨⟨h.ws, Nat.zero_le _, by simp, by simp⟩, Nat.le_refl _⟩
  · split
    · exact ⟨⟨ht, h.ws.head, h.ds, h.vs⟩, hl⟩
    · exact ⟨⟨h.ws, h.ws.head, h.ds, h.vs⟩, Nat.le_refl _⟩
  · obtain ⟨h1, h2, h3⟩ := listOf_small bb_deps freeLabelS h.ws
    exact ⟨⟨h2, h.nm, h1, h.vs⟩, h3⟩
  · obtain ⟨h1, h2, h3⟩ := listOf_small bb_visible viewerS h.ws
    exact ⟨⟨h2, h.nm, h.ds, h1⟩, h3⟩
  · split
    · exact ⟨⟨ht, h.nm, h.ds, h.vs⟩, hl⟩
    · exact ⟨h, Nat.le_refl _⟩
theorem steps_small : ∀ (n j : Nat) {st : St}, SmallSt st → SmallSt (stepsFrom j n st).2 ∧ (stepsFrom j n st).2.ws.length ≤ st.ws.length
  | 0, _, _, h => ⟨h, Nat.le_refl _⟩
  | n + 1, j, st, h => by
    rw [stepsFrom]
    obtain ⟨h1, h2⟩ := step_small j h
    split
    · obtain ⟨h3, h4⟩ := steps_small n (j + 1) h1
      exact ⟨h3, Nat.le_trans h4 h2⟩
    · exact ⟨h1, h2⟩
theorem kindOf_some {ws : Words} {k : Int} (h : kindOf ws = some k) : ∃ x r, ws = x :: r := by
  unfold kindOf at h
  split at h
  · exact head_cons (txt := b_lib) (by assumption) (by decide)
  · split at h
    · exact head_cons (txt := b_test) (by assumption) (by decide)
    · cases h
/-- A rule that goes well takes a word at least. -/
theorem rule_less {st : St} (h : SmallSt st) (hr : (stepsFrom 0 5 st).1 = true) : (stepsFrom 0 5 st).2.ws.length < st.ws.length := by
  rw [stepsFrom] at hr ⊢
  cases hk : kindOf st.ws with
  | none =>
    have : step 0 st = (false, ⟨st.ws, 2, ⟨#[]⟩, [], []⟩) := by simp [step, hk]
    rw [this] at hr
    simp at hr
  | some k =>
    have e : step 0 st = (true, ⟨st.ws.tail, k, ⟨#[]⟩, [], []⟩) := by simp [step, hk]
    obtain ⟨x, r, hw⟩ := kindOf_some hk
    have h1 := (step_small 0 h).1
    rw [e] at h1 ⊢
    simp only [if_true, Nat.zero_add]
    have := (steps_small 4 1 h1).2
    rw [hw] at this ⊢
    simp only [List.tail_cons, List.length_cons] at this ⊢
    omega

/-- The reader at R is in the state st; the lists lie from B on. -/
def StIs (w : World) (R B : Nat) (st : St) : Prop :=
  ∃ v dv vv, Rd w R v st.kd st.nm dv vv ∧ RdW w R st.ws v ∧ (Strs w dv st.ds ∧ OwnStr B w dv) ∧ (Strs w vv st.vs ∧ OwnStr B w vv)
def PartPost (R B : Nat) (x : Bool × St) (w : World) (e : Ending) (w' : World) : Prop := e = .returned (.bool x.1) ∧ StIs w' R B x.2 ∧ Mod [R] w w'
theorem ownNil (B : Nat) (w : World) : OwnStr B w (.slice none 0 0) := fun g hg => by cases hg
theorem strsNil (w : World) : Strs w (.slice none 0 0) [] := Strs.nil _ _ _ (Nat.zero_le _)
theorem Strs.modB {w w' : World} {v : Value} {ss : List ByteArray} {R B : Nat} (h : Strs w v ss) (ho : OwnStr B w v) (m : Mod [R] w w') (hRB : R < B) : Strs w' v ss ∧ OwnStr B w' v :=
  ⟨h.mod m (fun b hb => by have := (ho b hb).1; simp; omega), ho.mod m (by simp; exact hRB)⟩

theorem part0 (R B : Nat) (st : St) (w : World) (_ : R < B) (_ : B ≤ w.heap.size) (h : StIs w R B st) (hs : SmallSt st) : Calls Tryd.prog 27 #[.pointer (some ⟨R, 0, none⟩)] w (PartPost R B (step 0 st) w) := by
  obtain ⟨v, dv, vv, hr, hw, _, _⟩ := h
  refine (kind_any R st.ws v _ _ _ _ w hr hw hs.ws).mono ?_
  intro e w' hp
  unfold KindPost at hp
  unfold PartPost step
  cases hk : kindOf st.ws with
  | none =>
    rw [hk] at hp
    obtain ⟨he, ⟨v', hr', hw'⟩, hm⟩ := hp
    exact ⟨he, ⟨v', _, _, hr', hw', ⟨strsNil _, ownNil _ _⟩, ⟨strsNil _, ownNil _ _⟩⟩, hm⟩
  | some k =>
    rw [hk] at hp
    obtain ⟨he, ⟨v', hr', hw'⟩, hm⟩ := hp
    exact ⟨he, ⟨v', _, _, hr', hw', ⟨strsNil _, ownNil _ _⟩, ⟨strsNil _, ownNil _ _⟩⟩, hm⟩
theorem part1 (R B : Nat) (st : St) (w : World) (hRB : R < B) (_ : B ≤ w.heap.size) (h : StIs w R B st) (hs : SmallSt st) : Calls Tryd.prog 28 #[.pointer (some ⟨R, 0, none⟩)] w (PartPost R B (step 1 st) w) := by
  obtain ⟨v, dv, vv, hr, hw, hd, hv⟩ := h
  refine (name_any R st.ws v _ _ _ _ w hr hw hs.ws).mono ?_
  intro e w' hp
  unfold NamePost at hp
  unfold PartPost step
  cases hf : freeNameS (headT st.ws) with
  | false =>
    rw [hf, if_neg (by simp)] at hp
    obtain ⟨he, ⟨v', hr', hw'⟩, hm⟩ := hp
    exact ⟨he, ⟨v', _, _, hr', hw', hd.1.modB hd.2 hm hRB, hv.1.modB hv.2 hm hRB⟩, hm⟩
  | true =>
    rw [hf, if_pos rfl] at hp
    obtain ⟨he, ⟨v', hr', hw'⟩, hm⟩ := hp
    exact ⟨he, ⟨v', _, _, hr', hw', hd.1.modB hd.2 hm hRB, hv.1.modB hv.2 hm hRB⟩, hm⟩
theorem part2 (R B : Nat) (st : St) (w : World) (hRB : R < B) (hB : B ≤ w.heap.size) (h : StIs w R B st) (hs : SmallSt st) : Calls Tryd.prog 29 #[.pointer (some ⟨R, 0, none⟩)] w (PartPost R B (step 2 st) w) := by
  obtain ⟨v, dv, vv, hr, hw, hd, hv⟩ := h
  refine (deps_any R st.ws v _ _ _ _ w hr hw hs.ws).mono ?_
  rintro e w' ⟨he, dv', hst, hos, ⟨v', hr', hw'⟩, hm⟩
  exact ⟨he, ⟨v', _, _, hr', hw', ⟨hst, hos.lower hB⟩, hv.1.modB hv.2 hm hRB⟩, hm⟩
theorem part3 (R B : Nat) (st : St) (w : World) (hRB : R < B) (hB : B ≤ w.heap.size) (h : StIs w R B st) (hs : SmallSt st) : Calls Tryd.prog 30 #[.pointer (some ⟨R, 0, none⟩)] w (PartPost R B (step 3 st) w) := by
  obtain ⟨v, dv, vv, hr, hw, hd, hv⟩ := h
  refine (visible_any R st.ws v _ _ _ _ w hr hw hs.ws).mono ?_
  rintro e w' ⟨he, vv', hst, hos, ⟨v', hr', hw'⟩, hm⟩
  exact ⟨he, ⟨v', _, _, hr', hw', hd.1.modB hd.2 hm hRB, ⟨hst, hos.lower hB⟩⟩, hm⟩
theorem part4 (R B : Nat) (st : St) (w : World) (hRB : R < B) (_ : B ≤ w.heap.size) (h : StIs w R B st) (hs : SmallSt st) : Calls Tryd.prog 31 #[.pointer (some ⟨R, 0, none⟩)] w (PartPost R B (step 4 st) w) := by
  obtain ⟨v, dv, vv, hr, hw, hd, hv⟩ := h
  refine (end_any R st.ws v _ _ _ _ w hr hw hs.ws).mono ?_
  intro e w' hp
  unfold EndPost at hp
  unfold PartPost step
  cases hf : ((headT st.ws).toList == b_semi.toList) with
  | false =>
    rw [hf, if_neg (by simp)] at hp
    obtain ⟨he, ⟨v', hr', hw'⟩, hm⟩ := hp
    exact ⟨he, ⟨v', _, _, hr', hw', hd.1.modB hd.2 hm hRB, hv.1.modB hv.2 hm hRB⟩, hm⟩
  | true =>
    rw [hf, if_pos rfl] at hp
    obtain ⟨he, ⟨v', hr', hw'⟩, hm⟩ := hp
    exact ⟨he, ⟨v', _, _, hr', hw', hd.1.modB hd.2 hm hRB, hv.1.modB hv.2 hm hRB⟩, hm⟩
end Go.Proofs.YtgcmekpfhagnbaaDoor
