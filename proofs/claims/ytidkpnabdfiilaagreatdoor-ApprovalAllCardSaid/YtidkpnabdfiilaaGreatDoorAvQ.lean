/- Plain: approvals: what a person saw, who stands, what is missing, what has fallen. -/
import Derived.Test.YtidkpnabdfiilaaGreatDoorExB
namespace Go.Proofs.YtidkpnabdfiilaaGreatDoor
open Go.RowKit

structure Appr where
  who : ByteArray
  change : Int
  saw : ByteArray
def viewOf (old fresh : List OFile) (who : ByteArray) : ByteArray := bOf (encC (seenL old fresh who))
def sawOf (old fresh : List OFile) (who : ByteArray) : ByteArray × Int := if treesErr old fresh = 0 then (viewOf old fresh who, 0) else (⟨#[]⟩, treesErr old fresh)
def standsB (old fresh : List OFile) (a : Appr) : Bool := decide (treesErr old fresh = 0) && (a.saw.data.toList == (viewOf old fresh a.who).data.toList)
def countsB (change : Int) (old fresh : List OFile) (a : Appr) : Bool := (a.change == change) && standsB old fresh a
def peopleL (l : List Appr) (change : Int) (old fresh : List OFile) : List ByteArray := (l.filter (countsB change old fresh)).map (·.who)
def missL (gs : List (List ByteArray)) (ps : List ByteArray) : List (List ByteArray) := gs.filter fun g => !someIn ps g
def reqL (old fresh : List OFile) : List (List ByteArray) := reqFrom (rulesM old) [] (pathsC old fresh)
def missingOf (l : List Appr) (change : Int) (old fresh : List OFile) : List (List ByteArray) × Int := if treesErr old fresh = 0 then (missL (reqL old fresh) (peopleL l change old fresh), 0) else ([], treesErr old fresh)
def fallB (change : Int) (old fresh : List OFile) (a : Appr) : Bool := (a.change == change) && !standsB old fresh a
def fallenL (l : List Appr) (change : Int) (old fresh : List OFile) : List Appr := l.filter (fallB change old fresh)
theorem required_eq (old fresh : List OFile) : requiredOf old fresh = if treesErr old fresh = 0 then (reqL old fresh, 0) else ([], treesErr old fresh) := by
  unfold requiredOf treesErr reqL
  by_cases e : treeErr old = 0
  · rw [if_pos e, if_pos e]
  · rw [if_neg e, if_neg e, if_neg e]
theorem treesErr_two {old fresh : List OFile} (h : treesErr old fresh = 0) : TreeOk old ∧ TreeOk fresh := by
  unfold treesErr at h
  split at h
  · rename_i e; exact ⟨(treeErr_iff _).1 e, (treeErr_iff _).1 h⟩
  · rename_i e; exact absurd h e
theorem req_good (old fresh : List OFile) : ∀ g ∈ reqL old fresh, GoodGr g := reqFrom_good (rulesM_good old) (fun _ h => by cases h)
theorem seenFrom_exam (old fresh : List OFile) (who : ByteArray) : ((examL old fresh).filter fun x => x.2.any fun g => memS who g).map (·.1) = seenL old fresh who := by
  unfold examL seenL seesC
  rw [List.filter_map, List.map_map]
  exact List.map_id _

/-! What two persons see. -/
theorem seen_small {old fresh : List OFile} (h1 : greatF old = false) (h2 : greatF fresh = false) (T1 : TreeOk old) (T2 : TreeOk fresh) (who : ByteArray) : (seenL old fresh who).length ≤ 20 ∧ ∀ c ∈ seenL old fresh who, c.path.size ≤ 120 ∧ c.old.size ≤ 200 ∧ c.fresh.size ≤ 200 := by
  obtain ⟨a1, a2⟩ := greatF_small h1
  obtain ⟨b1, b2⟩ := greatF_small h2
  have := diff_len _ old fresh (Nat.le_refl _)
  refine ⟨Nat.le_trans (List.length_filter_le _ _) (by omega), fun c hc => ?_⟩
  obtain ⟨h, hm, rfl, _⟩ := ((diff_spec _ old fresh (Nat.le_refl _) T1.ord T2.ord).1 c).1 (List.mem_filter.1 hc).1
  have fd : ∀ (l : List OFile), (∀ f ∈ l, f.path.size ≤ 120 ∧ f.data.size ≤ 200) → ∀ x, (findD l x).size ≤ 200 := fun l hl x => by
    unfold findD
    cases e : findF l x with
    | none => exact Nat.zero_le _
    | some f => exact (hl f (List.mem_of_find?_eq_some e)).2
  exact ⟨hm.elim (fun hm => (a2 h hm).1) (fun hm => (b2 h hm).1), fd old a2 _, fd fresh b2 _⟩
theorem view_inj {o1 f1 o2 f2 : List OFile} (g1 : greatF o1 = false) (g2 : greatF f1 = false) (g3 : greatF o2 = false) (g4 : greatF f2 = false) (h1 : treesErr o1 f1 = 0) (h2 : treesErr o2 f2 = 0) (who : ByteArray) :
    (viewOf o1 f1 who).data.toList = (viewOf o2 f2 who).data.toList ↔ seenL o1 f1 who = seenL o2 f2 who := by
  obtain ⟨t1, t2⟩ := treesErr_two h1
  obtain ⟨t3, t4⟩ := treesErr_two h2
  obtain ⟨a1, a2⟩ := seen_small g1 g2 t1 t2 who
  obtain ⟨b1, b2⟩ := seen_small g3 g4 t3 t4 who
  constructor
  · intro h
    exact encC_inj (by omega) (by omega) (fun c hc => by have := a2 c hc; exact ⟨by omega, by omega, by omega⟩) (fun c hc => by have := b2 c hc; exact ⟨by omega, by omega, by omega⟩) h
  · intro h
    unfold viewOf; rw [h]

/-! Nothing is missing. -/
theorem miss_nil (gs : List (List ByteArray)) (ps : List ByteArray) : (missL gs ps).length = 0 ↔ enoughB gs ps = true := by
  unfold missL enoughB
  rw [List.length_eq_zero_iff, List.filter_eq_nil_iff, List.all_eq_true]
  simp
theorem someIn_sub {ps qs g : List ByteArray} (h : ∀ s ∈ ps, s ∈ qs) (hs : someIn ps g = true) : someIn qs g = true := by
  unfold someIn memS at *
  rw [List.any_eq_true] at *
  obtain ⟨s, h1, h2⟩ := hs
  rw [List.any_eq_true] at h2
  obtain ⟨t, h3, h4⟩ := h2
  refine ⟨s, h1, ?_⟩
  rw [List.any_eq_true]
  exact ⟨t, h t h3, h4⟩
theorem people_append (l more : List Appr) (change : Int) (old fresh : List OFile) : peopleL (l ++ more) change old fresh = peopleL l change old fresh ++ peopleL more change old fresh := by
  unfold peopleL; rw [List.filter_append, List.map_append]
theorem miss_more {gs : List (List ByteArray)} {ps qs : List ByteArray} {g : List ByteArray} (h : g ∈ missL gs (ps ++ qs)) : g ∈ missL gs ps := by
  unfold missL at *
  rw [List.mem_filter] at *
  refine ⟨h.1, ?_⟩
  cases e : someIn ps g with
  | false => rfl
  | true => rw [someIn_sub (fun s hs => List.mem_append_left _ hs) e] at h; exact absurd h.2 (by simp)

/-! One member of each group. -/
theorem all_stand {l : List Appr} {change : Int} {old fresh : List OFile} (h : ∀ a ∈ l, a.change = change ∧ standsB old fresh a = true) : peopleL l change old fresh = l.map (·.who) ∧ fallenL l change old fresh = [] := by
  constructor
  · unfold peopleL
    rw [List.filter_eq_self.2 (fun a ha => by obtain ⟨h1, h2⟩ := h a ha; unfold countsB; rw [h1, h2]; simp)]
  · unfold fallenL
    rw [List.filter_eq_nil_iff]
    intro a ha
    obtain ⟨h1, h2⟩ := h a ha
    unfold fallB; rw [h2]; simp
theorem miss_all {gs : List (List ByteArray)} {ps : List ByteArray} (h : ∀ g ∈ gs, ∃ s ∈ g, s ∈ ps) : missL gs ps = [] := by
  unfold missL
  rw [List.filter_eq_nil_iff]
  intro g hg
  obtain ⟨s, h1, h2⟩ := h g hg
  have : someIn ps g = true := by
    unfold someIn memS
    rw [List.any_eq_true]
    refine ⟨s, h1, ?_⟩
    rw [List.any_eq_true]
    exact ⟨s, h2, by simp⟩
  rw [this]; simp
theorem miss_none {gs : List (List ByteArray)} : missL gs [] = gs := by
  unfold missL
  rw [List.filter_eq_self]
  intro g _
  have : someIn [] g = false := by unfold someIn memS; simp
  rw [this]; rfl

/-! A file elsewhere. -/
theorem own_with {f : OFile} {l : List OFile} (hl : l.Pairwise lessF) (hf : ownF f = false) : (withF l f).filter ownF = l.filter ownF := by
  obtain ⟨h1, h2⟩ := with_spec f l hl
  have key : ∀ {a b : List OFile}, a.Pairwise lessF → b.Pairwise lessF → (∀ x, x ∈ a ↔ x ∈ b) → a = b := by
    intro a
    induction a with
    | nil =>
      intro b _ _ h
      cases b with
      | nil => rfl
      | cons y b => exact absurd ((h y).2 (List.mem_cons_self ..)) (by simp)
    | cons x a ih =>
      intro b ha hb h
      cases b with
      | nil => exact absurd ((h x).1 (List.mem_cons_self ..)) (by simp)
      | cons y b =>
        have irr : ∀ z : OFile, ¬ lessF z z := fun z hz => lessF_ne hz rfl
        have hxy : x = y := by
          rcases List.mem_cons.1 ((h x).1 (List.mem_cons_self ..)) with e | hx
          · exact e
          · rcases List.mem_cons.1 ((h y).2 (List.mem_cons_self ..)) with e | hy
            · exact e.symm
            · exact absurd (less_trans (List.rel_of_pairwise_cons ha hy) (List.rel_of_pairwise_cons hb hx)) (irr _)
        subst hxy
        rw [ih ha.of_cons hb.of_cons (fun z => ?_)]
        constructor
        · intro hz
          rcases List.mem_cons.1 ((h z).1 (List.mem_cons_of_mem _ hz)) with rfl | hz'
          · exact absurd (List.rel_of_pairwise_cons ha hz) (irr _)
          · exact hz'
        · intro hz
          rcases List.mem_cons.1 ((h z).2 (List.mem_cons_of_mem _ hz)) with rfl | hz'
          · exact absurd (List.rel_of_pairwise_cons hb hz) (irr _)
          · exact hz'
  refine key (h2.filter _) (hl.filter _) (fun x => ?_)
  rw [List.mem_filter, List.mem_filter, h1]
  constructor
  · rintro ⟨rfl | ⟨h3, _⟩, h4⟩
    · rw [hf] at h4; cases h4
    · exact ⟨h3, h4⟩
  · rintro ⟨h3, h4⟩
    refine ⟨.inr ⟨h3, fun e => ?_⟩, h4⟩
    unfold ownF at h4 hf
    rw [e, hf] at h4; cases h4
theorem find_with {f : OFile} {l : List OFile} (hl : l.Pairwise lessF) {p : List UInt8} (hp : p ≠ f.path.data.toList) : findF (withF l f) p = findF l p := by
  induction l with
  | nil =>
    show findF (withGo f false []) p = findF [] p
    rw [withGo, if_neg (by simp), find_ne (fun e => hp e.symm)]
  | cons h l ih =>
    rw [with_cases f h l hl]
    split
    · by_cases e : h.path.data.toList = p
      · rw [← e, find_head, find_head]
      · rw [find_ne e, find_ne e, ih hl.of_cons]
    · split
      · rename_i h1 h2
        have e : h.path.data.toList = f.path.data.toList := by simpa [sameP] using h2
        rw [find_ne (fun x => hp x.symm), find_ne (fun x => hp (by rw [← x, e]))]
      · rw [find_ne (fun x => hp x.symm)]
theorem elsewhere {old fresh : List OFile} {f g : OFile} {who : ByteArray} (T1 : TreeOk old) (T2 : TreeOk fresh) (hp : f.path.data.toList = g.path.data.toList) (hf : ownF f = false)
    (hs : (ownersM (rulesM old) f.path).any (fun x => memS who x) = false) : seenL (withF old f) (withF fresh g) who = seenL old fresh who := by
  have hr : rulesM (withF old f) = rulesM old := by rw [← rulesM_filter, own_with T1.ord hf, rulesM_filter]
  obtain ⟨w1, w2⟩ := with_spec f old T1.ord
  obtain ⟨v1, v2⟩ := with_spec g fresh T2.ord
  obtain ⟨d1, d2⟩ := diff_spec _ old fresh (Nat.le_refl _) T1.ord T2.ord
  obtain ⟨e1, e2⟩ := diff_spec _ (withF old f) (withF fresh g) (Nat.le_refl _) w2 v2
  unfold seenL
  rw [hr]
  have mk : ∀ p : ByteArray, p.data.toList ≠ f.path.data.toList → mkC (withF old f) (withF fresh g) p = mkC old fresh p := fun p hp' => by
    unfold mkC findB findD
    rw [find_with T1.ord hp', find_with T2.ord (by rw [← hp]; exact hp')]
  have no : ∀ p : ByteArray, p.data.toList = f.path.data.toList → ∀ c : FChg, c.path = p → seesC (rulesM old) who c = false := fun p hp' c hc => by
    have : p = f.path := bytes_eq hp'
    unfold seesC; rw [hc, this]; exact hs
  refine sorted_eq (e2.filter _) (d2.filter _) (fun c => ?_)
  rw [List.mem_filter, List.mem_filter, e1, d1]
  constructor
  · rintro ⟨⟨h, hm, rfl, hc⟩, hse⟩
    by_cases e : h.path.data.toList = f.path.data.toList
    · rw [no h.path e _ rfl] at hse; cases hse
    · rw [mk _ e] at hse hc ⊢
      refine ⟨⟨h, ?_, rfl, hc⟩, hse⟩
      rcases hm with hm | hm
      · rcases (w1 h).1 hm with rfl | ⟨h3, _⟩
        · exact absurd rfl e
        · exact .inl h3
      · rcases (v1 h).1 hm with rfl | ⟨h3, _⟩
        · exact absurd hp.symm e
        · exact .inr h3
  · rintro ⟨⟨h, hm, rfl, hc⟩, hse⟩
    by_cases e : h.path.data.toList = f.path.data.toList
    · rw [no h.path e _ rfl] at hse; cases hse
    · rw [← mk _ e] at hse hc ⊢
      refine ⟨⟨h, ?_, rfl, hc⟩, hse⟩
      rcases hm with hm | hm
      · exact .inl ((w1 h).2 (.inr ⟨hm, e⟩))
      · exact .inr ((v1 h).2 (.inr ⟨hm, by rw [← hp]; exact e⟩))
end Go.Proofs.YtidkpnabdfiilaaGreatDoor
