/- Changes of files, plainly: two lists in order walked side by side, and the reference's way by With; both are the same. The groups that must approve a change, plainly; the text of a group is one-to-one on groups of persons. Approvals, plainly: what a person sees, its encoding and that it is one-to-one; the files that decide; valid trees. -/
import Derived.Test.YtidkpnabdfiilaaGreatDoorQ21
import Derived.Test.YtidkpnabdfiilaaGreatDoorQ22
import Derived.Test.YtidkpnabdfiilaaGreatDoorQ18
namespace Go.Proofs.YtidkpnabdfiilaaGreatDoor
open Go.RowKit

structure FChg where
  path : ByteArray
  hasOld : Bool
  hasNew : Bool
  old : ByteArray
  fresh : ByteArray

def lessB (f g : OFile) : Bool := Op.bytesLess f.path.data.toList g.path.data.toList
def sameP (f g : OFile) : Bool := f.path.data.toList == g.path.data.toList
def sameDt (f g : OFile) : Bool := f.data.data.toList == g.data.data.toList
def oldC (f : OFile) : FChg := ⟨f.path, true, false, f.data, ⟨#[]⟩⟩
def newC (g : OFile) : FChg := ⟨g.path, false, true, ⟨#[]⟩, g.data⟩
def bothC (f g : OFile) : FChg := ⟨f.path, true, true, f.data, g.data⟩
def diffIn (f : OFile) (rest : List OFile → List FChg) : List OFile → List FChg
  | [] => oldC f :: rest []
  | g :: b => if lessB f g then oldC f :: rest (g :: b) else if lessB g f then newC g :: diffIn f rest b else if sameDt f g then rest b else bothC f g :: rest b
def diffC : List OFile → List OFile → List FChg
  | [], b => b.map newC
  | f :: a, b => diffIn f (diffC a) b
theorem diff_end (f : OFile) (a : List OFile) : diffC (f :: a) [] = oldC f :: diffC a [] := rfl
theorem diff_fresh (g : OFile) (b : List OFile) : diffC [] (g :: b) = newC g :: diffC [] b := rfl
theorem diff_old {f g : OFile} (h : lessB f g = true) (a b : List OFile) : diffC (f :: a) (g :: b) = oldC f :: diffC a (g :: b) := by
  rw [diffC, diffIn, if_pos h]
theorem diff_new {f g : OFile} (h : lessB f g = false) (h2 : lessB g f = true) (a b : List OFile) : diffC (f :: a) (g :: b) = newC g :: diffC (f :: a) b := by
  rw [diffC, diffIn, if_neg (by rw [h]; simp), if_pos h2, diffC]
theorem diff_both {f g : OFile} (h : lessB f g = false) (h2 : lessB g f = false) (a b : List OFile) : diffC (f :: a) (g :: b) = (if sameDt f g then diffC a b else bothC f g :: diffC a b) := by
  rw [diffC, diffIn, if_neg (by rw [h]; simp), if_neg (by rw [h2]; simp)]

/-! By looking paths up. -/
def mkC (a b : List OFile) (p : ByteArray) : FChg := ⟨p, findB a p.data.toList, findB b p.data.toList, findD a p.data.toList, findD b p.data.toList⟩
def isChg (c : FChg) : Bool := (c.hasOld != c.hasNew) || !(c.old.data.toList == c.fresh.data.toList)
theorem bytes_eq {a b : ByteArray} (h : a.data.toList = b.data.toList) : a = b := by
  cases a with | mk x => cases b with | mk y => cases x with | mk u => cases y with | mk v => simp at h; rw [h]
theorem find_head (f : OFile) (a : List OFile) : findF (f :: a) f.path.data.toList = some f := by simp [findF]
theorem find_ne {f : OFile} {x : List UInt8} (h : f.path.data.toList ≠ x) (a : List OFile) : findF (f :: a) x = findF a x := by
  unfold findF; rw [List.find?_cons_of_neg]; simpa using h
theorem find_no {a : List OFile} {x : List UInt8} (h : ∀ f ∈ a, f.path.data.toList ≠ x) : findF a x = none := by
  unfold findF; rw [List.find?_eq_none]; intro f hf; simpa using h f hf
theorem mkC_ne1 {f : OFile} {p : ByteArray} (h : f.path.data.toList ≠ p.data.toList) (a b : List OFile) : mkC (f :: a) b p = mkC a b p := by
  unfold mkC findB findD; rw [find_ne h]
theorem mkC_ne2 {f : OFile} {p : ByteArray} (h : f.path.data.toList ≠ p.data.toList) (a b : List OFile) : mkC a (f :: b) p = mkC a b p := by
  unfold mkC findB findD; rw [find_ne h]
theorem less_ne {f g : OFile} (h : lessF f g) : f.path.data.toList ≠ g.path.data.toList := lessF_ne h
theorem mkC_old {f : OFile} {b : List OFile} (h : ∀ g ∈ b, lessF f g) (a : List OFile) : mkC (f :: a) b f.path = oldC f := by
  unfold mkC findB findD; rw [find_head, find_no (fun g hg => (lessF_ne (h g hg)).symm)]; rfl
theorem mkC_new {g : OFile} {a : List OFile} (h : ∀ f ∈ a, lessF g f) (b : List OFile) : mkC a (g :: b) g.path = newC g := by
  unfold mkC findB findD; rw [find_head, find_no (fun f hf => (lessF_ne (h f hf)).symm)]; rfl
theorem mkC_both {f g : OFile} (h : f.path.data.toList = g.path.data.toList) (a b : List OFile) : mkC (f :: a) (g :: b) f.path = bothC f g := by
  unfold mkC findB findD; rw [find_head, h, find_head]; rfl
def MemC (a b : List OFile) (c : FChg) : Prop := ∃ h, (h ∈ a ∨ h ∈ b) ∧ c = mkC a b h.path ∧ isChg c = true
theorem isChg_old (f : OFile) : isChg (oldC f) = true := rfl
theorem isChg_new (f : OFile) : isChg (newC f) = true := rfl
theorem not_less_eq {f g : OFile} (h : lessB f g = false) (h2 : lessB g f = false) : f.path.data.toList = g.path.data.toList := by
  rcases less_total f.path.data.toList g.path.data.toList with e | e | e
  · unfold lessB at h; rw [h] at e; cases e
  · exact e
  · unfold lessB at h2; rw [h2] at e; cases e
theorem less_tail {f g : OFile} {b : List OFile} (h : lessF f g) (hb : (g :: b).Pairwise lessF) : ∀ x ∈ g :: b, lessF f x := by
  intro x hx
  rcases List.mem_cons.1 hx with rfl | hx
  · exact h
  · exact less_trans h (List.rel_of_pairwise_cons hb hx)
theorem memC_old {f : OFile} {a b : List OFile} (ha : ∀ x ∈ a, lessF f x) (hb : ∀ x ∈ b, lessF f x) (c : FChg) : MemC (f :: a) b c ↔ c = oldC f ∨ MemC a b c := by
  constructor
  · rintro ⟨h, hm, hc, hi⟩
    rcases hm with hm | hm
    · rcases List.mem_cons.1 hm with rfl | hm
      · left; rw [hc, mkC_old hb]
      · right; exact ⟨h, .inl hm, by rw [hc, mkC_ne1 (lessF_ne (ha h hm))], hi⟩
    · right; exact ⟨h, .inr hm, by rw [hc, mkC_ne1 (lessF_ne (hb h hm))], hi⟩
  · rintro (hc | ⟨h, hm, hc, hi⟩)
    · exact ⟨f, .inl (List.mem_cons_self ..), by rw [hc, mkC_old hb], by rw [hc]; rfl⟩
    · have hl : lessF f h := hm.elim (ha h) (hb h)
      exact ⟨h, hm.imp (List.mem_cons_of_mem _) id, by rw [hc, mkC_ne1 (lessF_ne hl)], hi⟩
theorem memC_new {g : OFile} {a b : List OFile} (ha : ∀ x ∈ a, lessF g x) (hb : ∀ x ∈ b, lessF g x) (c : FChg) : MemC a (g :: b) c ↔ c = newC g ∨ MemC a b c := by
  constructor
  · rintro ⟨h, hm, hc, hi⟩
    rcases hm with hm | hm
    · right; exact ⟨h, .inl hm, by rw [hc, mkC_ne2 (lessF_ne (ha h hm))], hi⟩
    · rcases List.mem_cons.1 hm with rfl | hm
      · left; rw [hc, mkC_new ha]
      · right; exact ⟨h, .inr hm, by rw [hc, mkC_ne2 (lessF_ne (hb h hm))], hi⟩
  · rintro (hc | ⟨h, hm, hc, hi⟩)
    · exact ⟨g, .inr (List.mem_cons_self ..), by rw [hc, mkC_new ha], by rw [hc]; rfl⟩
    · have hl : lessF g h := hm.elim (ha h) (hb h)
      exact ⟨h, hm.imp id (List.mem_cons_of_mem _), by rw [hc, mkC_ne2 (lessF_ne hl)], hi⟩
theorem memC_both {f g : OFile} {a b : List OFile} (e : f.path.data.toList = g.path.data.toList) (ha : ∀ x ∈ a, lessF f x) (hb : ∀ x ∈ b, lessF f x) (c : FChg) : MemC (f :: a) (g :: b) c ↔ (c = bothC f g ∧ sameDt f g = false) ∨ MemC a b c := by
  have hgp : g.path = f.path := (bytes_eq e).symm
  have hd : isChg (bothC f g) = true ↔ sameDt f g = false := by unfold isChg bothC sameDt; simp
  have hne : ∀ h, (h ∈ a ∨ h ∈ b) → mkC (f :: a) (g :: b) h.path = mkC a b h.path := fun h hm => by
    have hl : lessF f h := hm.elim (ha h) (hb h)
    rw [mkC_ne1 (lessF_ne hl), mkC_ne2 (by rw [← e]; exact lessF_ne hl)]
  constructor
  · rintro ⟨h, hm, hc, hi⟩
    by_cases hh : h = f ∨ h = g
    · left
      have : c = bothC f g := by
        rcases hh with rfl | rfl
        · rw [hc, mkC_both e]
        · rw [hgp] at hc; rw [hc, mkC_both e]
      exact ⟨this, hd.1 (this ▸ hi)⟩
    · right
      have hm' : h ∈ a ∨ h ∈ b := by
        rcases hm with hm | hm
        · rcases List.mem_cons.1 hm with rfl | hm
          · exact absurd (.inl rfl) hh
          · exact .inl hm
        · rcases List.mem_cons.1 hm with rfl | hm
          · exact absurd (.inr rfl) hh
          · exact .inr hm
      exact ⟨h, hm', by rw [hc, hne h hm'], hi⟩
  · rintro (⟨hc, hs⟩ | ⟨h, hm, hc, hi⟩)
    · exact ⟨f, .inl (List.mem_cons_self ..), by rw [hc, mkC_both e], by rw [hc]; exact hd.2 hs⟩
    · exact ⟨h, hm.imp (List.mem_cons_of_mem _) (List.mem_cons_of_mem _), by rw [hc, hne h hm], hi⟩
def lessC (c d : FChg) : Prop := Op.bytesLess c.path.data.toList d.path.data.toList = true
theorem memC_gt {a b : List OFile} {x : ByteArray} (ha : ∀ h ∈ a, Op.bytesLess x.data.toList h.path.data.toList = true) (hb : ∀ h ∈ b, Op.bytesLess x.data.toList h.path.data.toList = true) {c : FChg} (hc : MemC a b c) : Op.bytesLess x.data.toList c.path.data.toList = true := by
  obtain ⟨h, hm, rfl, _⟩ := hc
  exact hm.elim (ha h) (hb h)
theorem diff_spec : ∀ (n : Nat) (a b : List OFile), a.length + b.length ≤ n → a.Pairwise lessF → b.Pairwise lessF → (∀ c, c ∈ diffC a b ↔ MemC a b c) ∧ (diffC a b).Pairwise lessC := by
  intro n
  induction n with
  | zero =>
    intro a b h _ _
    obtain rfl : a = [] := List.length_eq_zero_iff.1 (by omega)
    obtain rfl : b = [] := List.length_eq_zero_iff.1 (by omega)
    refine ⟨fun c => ⟨fun h => (nomatch h), ?_⟩, List.Pairwise.nil⟩
    rintro ⟨h, hm | hm, _⟩ <;> cases hm
  | succ n ih =>
    intro a b hn ha hb
    have oldCase : ∀ (f : OFile) (a b : List OFile), a.length + b.length ≤ n → (f :: a).Pairwise lessF → b.Pairwise lessF → (∀ x ∈ b, lessF f x) → (∀ c, c ∈ oldC f :: diffC a b ↔ MemC (f :: a) b c) ∧ (oldC f :: diffC a b).Pairwise lessC := fun f a b hl ha hb hfb => by
      have hfa : ∀ x ∈ a, lessF f x := fun x hx => List.rel_of_pairwise_cons ha hx
      obtain ⟨i1, i2⟩ := ih a b hl ha.of_cons hb
      refine ⟨fun c => ?_, List.Pairwise.cons (fun c hc => ?_) i2⟩
      · rw [List.mem_cons, memC_old hfa hfb, i1]
      · exact memC_gt (x := f.path) hfa hfb ((i1 c).1 hc)
    have newCase : ∀ (g : OFile) (a b : List OFile), a.length + b.length ≤ n → a.Pairwise lessF → (g :: b).Pairwise lessF → (∀ x ∈ a, lessF g x) → (∀ c, c ∈ newC g :: diffC a b ↔ MemC a (g :: b) c) ∧ (newC g :: diffC a b).Pairwise lessC := fun g a b hl ha hb hga => by
      have hgb : ∀ x ∈ b, lessF g x := fun x hx => List.rel_of_pairwise_cons hb hx
      obtain ⟨i1, i2⟩ := ih a b hl ha hb.of_cons
      refine ⟨fun c => ?_, List.Pairwise.cons (fun c hc => ?_) i2⟩
      · rw [List.mem_cons, memC_new hga hgb, i1]
      · exact memC_gt (x := g.path) hga hgb ((i1 c).1 hc)
    match a, b, hn, ha, hb with
    | [], [], _, _, _ =>
      refine ⟨fun c => ⟨fun h => (nomatch h), ?_⟩, List.Pairwise.nil⟩
      rintro ⟨h, hm | hm, _⟩ <;> cases hm
    | f :: a, [], hn, ha, hb => rw [diff_end]; exact oldCase f a [] (by simp at hn ⊢; omega) ha hb (fun x hx => by cases hx)
    | [], g :: b, hn, ha, hb => rw [diff_fresh]; exact newCase g [] b (by simp at hn ⊢; omega) ha hb (fun x hx => by cases hx)
    | f :: a, g :: b, hn, ha, hb =>
      cases h1 : lessB f g with
      | true => rw [diff_old h1]; exact oldCase f a (g :: b) (by simp at hn ⊢; omega) ha hb (less_tail h1 hb)
      | false =>
        cases h2 : lessB g f with
        | true => rw [diff_new h1 h2]; exact newCase g (f :: a) b (by simp at hn ⊢; omega) ha hb (less_tail h2 ha)
        | false =>
          have e := not_less_eq h1 h2
          rw [diff_both h1 h2]
          have hfa : ∀ x ∈ a, lessF f x := fun x hx => List.rel_of_pairwise_cons ha hx
          have hfb : ∀ x ∈ b, lessF f x := fun x hx => by have := List.rel_of_pairwise_cons hb hx; unfold lessF at this ⊢; rw [e]; exact this
          obtain ⟨i1, i2⟩ := ih a b (by simp at hn; omega) ha.of_cons hb.of_cons
          cases hs : sameDt f g with
          | true =>
            refine ⟨fun c => ?_, i2⟩
            rw [memC_both e hfa hfb, hs]
            simp [i1]
          | false =>
            refine ⟨fun c => ?_, ?_⟩
            · rw [memC_both e hfa hfb, hs]; simp [i1]
            · refine List.Pairwise.cons (fun c hc => ?_) i2
              exact memC_gt (x := f.path) hfa hfb ((i1 c).1 hc)
theorem sorted_eq : ∀ {l m : List FChg}, l.Pairwise lessC → m.Pairwise lessC → (∀ c, c ∈ l ↔ c ∈ m) → l = m
  | [], [], _, _, _ => rfl
  | [], c :: _, _, _, h => by have := (h c).2 (List.mem_cons_self ..); cases this
  | c :: _, [], _, _, h => by have := (h c).1 (List.mem_cons_self ..); cases this
  | c :: l, d :: m, hl, hm, h => by
    have irr : ∀ c : FChg, ¬ lessC c c := fun c hc => by unfold lessC at hc; rw [less_irrefl] at hc; cases hc
    have e : c = d := by
      rcases List.mem_cons.1 ((h c).1 (List.mem_cons_self ..)) with e | h1
      · exact e
      · rcases List.mem_cons.1 ((h d).2 (List.mem_cons_self ..)) with e | h2
        · exact e.symm
        · exact absurd (less_trans (List.rel_of_pairwise_cons hm h1) (List.rel_of_pairwise_cons hl h2)) (irr d)
    subst e
    congr 1
    refine sorted_eq hl.of_cons hm.of_cons fun x => ⟨fun hx => ?_, fun hx => ?_⟩
    · rcases List.mem_cons.1 ((h x).1 (List.mem_cons_of_mem _ hx)) with rfl | hx'
      · exact absurd (List.rel_of_pairwise_cons hl hx) (irr _)
      · exact hx'
    · rcases List.mem_cons.1 ((h x).2 (List.mem_cons_of_mem _ hx)) with rfl | hx'
      · exact absurd (List.rel_of_pairwise_cons hm hx) (irr _)
      · exact hx'

/-! With. -/
def withGo (f : OFile) : Bool → List OFile → List OFile
  | put, [] => if put then [] else [f]
  | put, h :: l => (if !put && !(lessB h f) then [f] else []) ++ (if sameP h f then [] else [h]) ++ withGo f (put || !(lessB h f)) l
def withF (l : List OFile) (f : OFile) : List OFile := withGo f false l
theorem with_put (f : OFile) : ∀ {l : List OFile}, (∀ h ∈ l, lessF f h) → withGo f true l = l
  | [], _ => rfl
  | h :: l, hl => by
    have h1 : sameP h f = false := by unfold sameP; simpa using (lessF_ne (hl h (List.mem_cons_self ..))).symm
    rw [withGo, h1, Bool.true_or, with_put f (fun x hx => hl x (List.mem_cons_of_mem _ hx))]; rfl
theorem with_cases (f h : OFile) (l : List OFile) (hl : (h :: l).Pairwise lessF) : withF (h :: l) f = if lessB h f then h :: withF l f else if sameP h f then f :: l else f :: h :: l := by
  unfold withF
  rw [withGo]
  cases h1 : lessB h f with
  | true =>
    have h2 : sameP h f = false := by unfold sameP; simpa using lessF_ne h1
    rw [h2]; rfl
  | false =>
    cases h2 : sameP h f with
    | true =>
      have e : h.path.data.toList = f.path.data.toList := by simpa [sameP] using h2
      rw [show (false || !false) = true from rfl, with_put f (l := l) (fun x hx => by have := List.rel_of_pairwise_cons hl hx; unfold lessF at this ⊢; rw [← e]; exact this)]
      rfl
    | false =>
      have hf : lessF f h := by
        rcases less_total h.path.data.toList f.path.data.toList with e | e | e
        · unfold lessB at h1; rw [h1] at e; cases e
        · unfold sameP at h2; rw [e] at h2; simp at h2
        · exact e
      rw [show (false || !false) = true from rfl, with_put f (l := l) (fun x hx => less_trans hf (List.rel_of_pairwise_cons hl hx))]
      rfl
theorem with_spec (f : OFile) : ∀ (l : List OFile), l.Pairwise lessF → (∀ x, x ∈ withF l f ↔ x = f ∨ (x ∈ l ∧ x.path.data.toList ≠ f.path.data.toList)) ∧ (withF l f).Pairwise lessF
  | [], _ => ⟨fun x => by simp [withF, withGo], by simp [withF, withGo]⟩
  | h :: l, hl => by
    rw [with_cases f h l hl]
    obtain ⟨i1, i2⟩ := with_spec f l hl.of_cons
    have hhl : ∀ x ∈ l, lessF h x := fun x hx => List.rel_of_pairwise_cons hl hx
    cases h1 : lessB h f with
    | true =>
      have hne := lessF_ne (show lessF h f from h1)
      refine ⟨fun x => ?_, List.Pairwise.cons (fun x hx => ?_) i2⟩
      · rw [if_pos rfl, List.mem_cons, i1, List.mem_cons]
        constructor
        · rintro (rfl | h | ⟨h3, h4⟩)
          · exact .inr ⟨.inl rfl, hne⟩
          · exact .inl h
          · exact .inr ⟨.inr h3, h4⟩
        · rintro (h | ⟨h3 | h3, h4⟩)
          · exact .inr (.inl h)
          · exact .inl h3
          · exact .inr (.inr ⟨h3, h4⟩)
      · rcases (i1 x).1 hx with rfl | ⟨h3, _⟩
        · exact h1
        · exact hhl x h3
    | false =>
      cases h2 : sameP h f with
      | true =>
        have e : h.path.data.toList = f.path.data.toList := by simpa [sameP] using h2
        have hfl : ∀ x ∈ l, lessF f x := fun x hx => by have := hhl x hx; unfold lessF at this ⊢; rw [← e]; exact this
        rw [if_neg (by simp), if_pos rfl]
        refine ⟨fun x => ?_, List.Pairwise.cons hfl hl.of_cons⟩
        rw [List.mem_cons, List.mem_cons]
        constructor
        · rintro (h | h)
          · exact .inl h
          · exact .inr ⟨.inr h, (lessF_ne (hfl x h)).symm⟩
        · rintro (h | ⟨rfl | h3, h4⟩)
          · exact .inl h
          · exact absurd e h4
          · exact .inr h3
      | false =>
        have hf : lessF f h := by
          rcases less_total h.path.data.toList f.path.data.toList with e | e | e
          · unfold lessB at h1; rw [h1] at e; cases e
          · unfold sameP at h2; rw [e] at h2; simp at h2
          · exact e
        rw [if_neg (by simp), if_neg (by simp)]
        have hfl := less_tail hf hl
        refine ⟨fun x => ?_, List.Pairwise.cons hfl hl⟩
        rw [List.mem_cons]
        constructor
        · rintro (h | h)
          · exact .inl h
          · exact .inr ⟨h, (lessF_ne (hfl x h)).symm⟩
        · rintro (h | ⟨h3, h4⟩)
          · exact .inl h
          · exact .inr h3
theorem fold_with : ∀ (b l : List OFile), l.Pairwise lessF → (b.foldl withF l).Pairwise lessF ∧ ∀ p : List UInt8, (∃ x ∈ b.foldl withF l, x.path.data.toList = p) ↔ ((∃ x ∈ l, x.path.data.toList = p) ∨ ∃ x ∈ b, x.path.data.toList = p)
  | [], l, hl => ⟨hl, fun p => by simp⟩
  | f :: b, l, hl => by
    obtain ⟨i1, i2⟩ := with_spec f l hl
    obtain ⟨j1, j2⟩ := fold_with b _ i2
    refine ⟨j1, fun p => ?_⟩
    rw [List.foldl_cons, j2]
    constructor
    · rintro (⟨x, hx, e⟩ | ⟨x, hx, e⟩)
      · rcases (i1 x).1 hx with rfl | ⟨h1, _⟩
        · exact .inr ⟨x, List.mem_cons_self .., e⟩
        · exact .inl ⟨x, h1, e⟩
      · exact .inr ⟨x, List.mem_cons_of_mem _ hx, e⟩
    · rintro (⟨x, hx, e⟩ | ⟨x, hx, e⟩)
      · by_cases hq : x.path.data.toList = f.path.data.toList
        · exact .inl ⟨f, (i1 f).2 (.inl rfl), by rw [← hq, e]⟩
        · exact .inl ⟨x, (i1 x).2 (.inr ⟨hx, hq⟩), e⟩
      · rcases List.mem_cons.1 hx with rfl | hx
        · exact .inl ⟨x, (i1 x).2 (.inl rfl), e⟩
        · exact .inr ⟨x, hx, e⟩
def allF (a b : List OFile) : List OFile := b.foldl withF (a.foldl withF [])
def pickC (a b : List OFile) (f : OFile) : List FChg := if isChg (mkC a b f.path) then [mkC a b f.path] else []
def changesR (a b : List OFile) : List FChg := (allF a b).flatMap (pickC a b)
theorem changes_diff {a b : List OFile} (ha : a.Pairwise lessF) (hb : b.Pairwise lessF) : changesR a b = diffC a b := by
  obtain ⟨h1, h2⟩ := diff_spec _ a b (Nat.le_refl _) ha hb
  obtain ⟨k1, k2⟩ := fold_with a [] List.Pairwise.nil
  obtain ⟨k3, k4⟩ := fold_with b _ k1
  refine sorted_eq ?_ h2 fun c => ?_
  · unfold changesR allF
    generalize b.foldl withF (a.foldl withF []) = l at k3
    clear k4 h1 h2
    induction l with
    | nil => exact List.Pairwise.nil
    | cons f l ih =>
      rw [List.flatMap_cons]
      have tail := ih k3.of_cons
      unfold pickC at tail ⊢
      split
      · refine List.Pairwise.cons (fun c hc => ?_) tail
        obtain ⟨g, hg, hc⟩ := List.mem_flatMap.1 hc
        have hgt := List.rel_of_pairwise_cons k3 hg
        split at hc
        · rw [List.mem_singleton.1 hc]; exact hgt
        · cases hc
      · exact tail
  · rw [h1]
    unfold changesR MemC
    rw [List.mem_flatMap]
    constructor
    · rintro ⟨f, hf, hc⟩
      unfold pickC at hc
      split at hc
      · rename_i hi
        have hc := List.mem_singleton.1 hc
        have := (k4 f.path.data.toList).1 ⟨f, hf, rfl⟩
        rw [k2] at this
        rcases this with (⟨x, hx, _⟩ | ⟨x, hx, e⟩) | ⟨x, hx, e⟩
        · cases hx
        · exact ⟨x, .inl hx, by rw [hc, bytes_eq e], by rw [hc]; exact hi⟩
        · exact ⟨x, .inr hx, by rw [hc, bytes_eq e], by rw [hc]; exact hi⟩
      · cases hc
    · rintro ⟨h, hm, hc, hi⟩
      have : ∃ x ∈ allF a b, x.path.data.toList = h.path.data.toList := by
        refine (k4 _).2 ?_
        rcases hm with hm | hm
        · exact .inl ((k2 _).2 (.inr ⟨h, hm, rfl⟩))
        · exact .inr ⟨h, hm, rfl⟩
      obtain ⟨x, hx, e⟩ := this
      refine ⟨x, hx, ?_⟩
      unfold pickC
      rw [bytes_eq e, ← hc, if_pos hi]
      exact List.mem_singleton.2 rfl
/-- No file changes from a list to itself. -/
theorem diff_self : ∀ l : List OFile, diffC l l = []
  | [] => rfl
  | f :: l => by
    have h : lessB f f = false := less_irrefl _
    rw [diff_both h h, if_pos (by simp [sameDt]), diff_self l]
end Go.Proofs.YtidkpnabdfiilaaGreatDoor

namespace Go.Proofs.YtidkpnabdfiilaaGreatDoor
open Go.RowKit

def addG (out : List (List ByteArray)) (g : List ByteArray) : List (List ByteArray) := if hasG out g then out else out ++ [g]
def addGs (out gs : List (List ByteArray)) : List (List ByteArray) := gs.foldl addG out
def reqFrom (m : ruleMap) (out : List (List ByteArray)) (ps : List ByteArray) : List (List ByteArray) := ps.foldl (fun o p => addGs o (ownersM m p)) out
def pathsC (old fresh : List OFile) : List ByteArray := (diffC old fresh).map (·.path)
def requiredOf (old fresh : List OFile) : List (List ByteArray) × Int :=
  if treeErr old = 0 then (if treeErr fresh = 0 then (reqFrom (rulesM old) [] (pathsC old fresh), 0) else ([], treeErr fresh)) else ([], treeErr old)
theorem addGs_at {out gs : List (List ByteArray)} {k : Nat} {g : List ByteArray} (h : gs[k]? = some g) : addGs out (gs.take (k + 1)) = addG (addGs out (gs.take k)) g := by
  rw [take_at h, addGs, addGs, List.foldl_append]; rfl
theorem reqFrom_at {m : ruleMap} {out : List (List ByteArray)} {ps : List ByteArray} {k : Nat} {p : ByteArray} (h : ps[k]? = some p) : reqFrom m out (ps.take (k + 1)) = addGs (reqFrom m out (ps.take k)) (ownersM m p) := by
  rw [take_at h, reqFrom, reqFrom, List.foldl_append]; rfl

/-! Groups of persons. -/
structure GoodGr (g : List ByteArray) : Prop where
  pos : 0 < g.length
  len : g.length ≤ 20
  each : ∀ s ∈ g, personB s.data.toList = true
def GoodM (m : ruleMap) : Prop := ∀ x rs, m x = some rs → ∀ r ∈ rs, GoodO r
theorem rulesM_good (fs : List OFile) : GoodM (rulesM fs) := by
  have key : ∀ (l : List OFile) (m : ruleMap), GoodM m → GoodM (l.foldl rulesStep m) := by
    intro l
    induction l with
    | nil => intro m hm; exact hm
    | cons f l ih =>
      intro m hm
      refine ih _ (fun x rs h => ?_)
      unfold rulesStep at h
      split at h
      · rename_i hc
        cases h
        simp only [Bool.and_eq_true, beq_iff_eq] at hc
        obtain ⟨rs, e, hk, _⟩ := oparse_okay f.data hc.1.2
        rw [e]
        exact (ocheck_ok hk).2
      · exact hm x rs h
  exact key fs _ (fun x rs h => by cases h)
theorem fitFrom_mem (rest : List UInt8) : ∀ (rs : List ORule) (best : Option ORule) (r : ORule), fitFrom rest best rs = some r → best = some r ∨ r ∈ rs
  | [], best, r, h => .inl h
  | x :: rs, best, r, h => by
    rw [fitFrom] at h
    rcases fitFrom_mem rest rs _ r h with h | h
    · split at h
      · cases h; exact .inr (List.mem_cons_self ..)
      · exact .inl h
    · exact .inr (List.mem_cons_of_mem _ h)
theorem fit_mem {rs : List ORule} {rest : List UInt8} {r : ORule} (h : fit rs rest = some r) : r ∈ rs := by
  rcases fitFrom_mem rest rs none r h with h | h
  · cases h
  · exact h
theorem ownersFrom_good {m : ruleMap} (hm : GoodM m) (p : ByteArray) : ∀ (es : List Nat) (g : List ByteArray), g ∈ ownersFrom m p es → GoodGr g
  | [], g, h => by cases h
  | e :: es, g, h => by
    rw [ownersFrom] at h
    split at h
    · rename_i r hr
      have hr := fit_mem hr
      unfold rulesAt at hr
      cases hq : m (fileAt p e).data.toList with
      | none => rw [hq] at hr; cases hr
      | some rs =>
        rw [hq] at hr
        have hg := (hm _ _ hq r hr).each g h
        exact ⟨hg.1, hg.2.1, hg.2.2⟩
    · exact ownersFrom_good hm p es g h
theorem ownersM_good {m : ruleMap} (hm : GoodM m) (p : ByteArray) : ∀ g ∈ ownersM m p, GoodGr g := fun g hg => ownersFrom_good hm p _ g hg
theorem addG_good {out : List (List ByteArray)} {g : List ByteArray} (ho : ∀ h ∈ out, GoodGr h) (hg : GoodGr g) : ∀ h ∈ addG out g, GoodGr h := by
  intro h hh
  unfold addG at hh
  split at hh
  · exact ho h hh
  · rcases List.mem_append.1 hh with hh | hh
    · exact ho h hh
    · rw [List.mem_singleton.1 hh]; exact hg
theorem addGs_good : ∀ {gs out : List (List ByteArray)}, (∀ h ∈ out, GoodGr h) → (∀ h ∈ gs, GoodGr h) → ∀ h ∈ addGs out gs, GoodGr h
  | [], _, ho, _ => ho
  | g :: gs, out, ho, hg => addGs_good (gs := gs) (out := addG out g) (addG_good ho (hg g (List.mem_cons_self ..))) (fun h hh => hg h (List.mem_cons_of_mem _ hh))
theorem reqFrom_good {m : ruleMap} (hm : GoodM m) : ∀ {ps : List ByteArray} {out : List (List ByteArray)}, (∀ h ∈ out, GoodGr h) → ∀ h ∈ reqFrom m out ps, GoodGr h
  | [], _, ho => ho
  | p :: ps, out, ho => reqFrom_good hm (ps := ps) (out := addGs out (ownersM m p)) (addGs_good ho (ownersM_good hm p))
theorem addG_len (out : List (List ByteArray)) (g : List ByteArray) : (addG out g).length ≤ out.length + 1 := by
  unfold addG; split <;> simp
theorem addGs_len : ∀ (gs out : List (List ByteArray)), (addGs out gs).length ≤ out.length + gs.length
  | [], _ => Nat.le_refl _
  | g :: gs, out => by
    have := addGs_len gs (addG out g)
    have h2 := addG_len out g
    show (addGs (addG out g) gs).length ≤ _
    simp only [List.length_cons]; omega
theorem ownersFrom_len {m : ruleMap} (hm : GoodM m) (p : ByteArray) : ∀ (es : List Nat), (ownersFrom m p es).length ≤ 8
  | [] => Nat.zero_le _
  | e :: es => by
    rw [ownersFrom]
    split
    · rename_i r hr
      have hr := fit_mem hr
      unfold rulesAt at hr
      cases hq : m (fileAt p e).data.toList with
      | none => rw [hq] at hr; cases hr
      | some rs =>
        rw [hq] at hr
        exact (hm _ _ hq r hr).len.2
    · exact ownersFrom_len hm p es
theorem ownersM_len {m : ruleMap} (hm : GoodM m) (p : ByteArray) : (ownersM m p).length ≤ 8 := ownersFrom_len hm p _
theorem reqFrom_len {m : ruleMap} (hm : GoodM m) : ∀ (ps : List ByteArray) (out : List (List ByteArray)), (reqFrom m out ps).length ≤ out.length + ps.length * 8
  | [], _ => Nat.le_refl _
  | p :: ps, out => by
    have h1 := reqFrom_len hm ps (addGs out (ownersM m p))
    have h2 := addGs_len (ownersM m p) out
    have h3 := ownersM_len hm p
    show (reqFrom m (addGs out (ownersM m p)) ps).length ≤ _
    simp only [List.length_cons]; omega

/-! Joined. -/
def joinL (g : List ByteArray) : List UInt8 := Lib.join (g.map (·.data.toList)) [32]
theorem cut_at : ∀ {x y r t : List UInt8}, (32 : UInt8) ∉ x → (32 : UInt8) ∉ y → (∀ c k, r = c :: k → c = 32) → (∀ c k, t = c :: k → c = 32) → x ++ r = y ++ t → x = y ∧ r = t
  | [], [], _, _, _, _, _, _, h => ⟨rfl, h⟩
  | [], c :: y, r, t, _, hy, hr, _, h => by
    have := hr c (y ++ t) h
    exact absurd (by rw [this]; exact List.mem_cons_self ..) hy
  | c :: x, [], r, t, hx, _, _, ht, h => by
    have := ht c (x ++ r) h.symm
    exact absurd (by rw [this]; exact List.mem_cons_self ..) hx
  | c :: x, d :: y, r, t, hx, hy, hr, ht, h => by
    rw [List.cons_append, List.cons_append] at h
    injection h with h1 h2
    obtain ⟨e1, e2⟩ := cut_at (fun k => hx (List.mem_cons_of_mem _ k)) (fun k => hy (List.mem_cons_of_mem _ k)) hr ht h2
    exact ⟨by rw [h1, e1], e2⟩
theorem blanks_head (l : List ByteArray) : ∀ c k, blanks l = c :: k → c = 32 := by
  intro c k h
  cases l with
  | nil => cases h
  | cons x l =>
    rw [blanks, List.map_cons, List.flatten_cons, List.cons_append] at h
    injection h with h1 h2
    exact h1.symm
theorem no_blank {s : ByteArray} (h : personB s.data.toList = true) : (32 : UInt8) ∉ s.data.toList := fun hm => by
  have := ((person_word h).1.2 32 hm).1
  cases this
theorem blanks_inj : ∀ {l k : List ByteArray}, (∀ s ∈ l, personB s.data.toList = true) → (∀ s ∈ k, personB s.data.toList = true) → blanks l = blanks k → l = k
  | [], [], _, _, _ => rfl
  | [], _ :: _, _, _, h => by simp [blanks] at h
  | _ :: _, [], _, _, h => by simp [blanks] at h
  | x :: l, y :: k, hl, hk, h => by
    have e : x.data.toList ++ blanks l = y.data.toList ++ blanks k := by
      rw [blanks, blanks, List.map_cons, List.map_cons, List.flatten_cons, List.flatten_cons, List.cons_append, List.cons_append] at h
      injection h
    obtain ⟨e1, e2⟩ := cut_at (no_blank (hl x (List.mem_cons_self ..))) (no_blank (hk y (List.mem_cons_self ..))) (blanks_head l) (blanks_head k) e
    rw [bytes_eq e1, blanks_inj (fun s hs => hl s (List.mem_cons_of_mem _ hs)) (fun s hs => hk s (List.mem_cons_of_mem _ hs)) e2]
theorem joinL_inj {g h : List ByteArray} (hg : GoodGr g) (hh : GoodGr h) (e : joinL g = joinL h) : g = h := by
  cases g with
  | nil => exact absurd hg.pos (by simp)
  | cons x l =>
    cases h with
    | nil => exact absurd hh.pos (by simp)
    | cons y k =>
      rw [joinL, joinL, join_blanks, join_blanks] at e
      obtain ⟨e1, e2⟩ := cut_at (no_blank (hg.each x (List.mem_cons_self ..))) (no_blank (hh.each y (List.mem_cons_self ..))) (blanks_head l) (blanks_head k) e
      rw [bytes_eq e1, blanks_inj (fun s hs => hg.each s (List.mem_cons_of_mem _ hs)) (fun s hs => hh.each s (List.mem_cons_of_mem _ hs)) e2]
theorem joinL_len {g : List ByteArray} (hg : GoodGr g) : (joinL g).length ≤ 600 := by
  cases g with
  | nil => exact absurd hg.pos (by simp)
  | cons x l =>
    rw [joinL, join_blanks, List.length_append]
    have h1 := (person_len (hg.each x (List.mem_cons_self ..))).2
    have h2 := blanks_len 24 (l := l) (fun s hs => (person_len (hg.each s (List.mem_cons_of_mem _ hs))).2)
    have h3 := hg.len
    simp only [List.length_cons] at h3
    have h4 : l.length * (24 + 1) ≤ 19 * 25 := Nat.mul_le_mul (by omega) (Nat.le_refl _)
    omega
def hasJ (out : List (List ByteArray)) (x : List UInt8) : Bool := out.any fun h => joinL h == x
theorem map_data_eq {a b : List ByteArray} (h : a.map (·.data.toList) = b.map (·.data.toList)) : a = b := map_data_inj h
theorem sameS_iff (a b : List ByteArray) : sameS a b = true ↔ a = b := by
  unfold sameS; rw [beq_iff_eq]; exact ⟨map_data_inj, fun h => by rw [h]⟩
theorem hasG_iff (gs : List (List ByteArray)) (g : List ByteArray) : hasG gs g = true ↔ g ∈ gs := by
  unfold hasG
  rw [List.any_eq_true]
  constructor
  · rintro ⟨h, hh, e⟩; rw [← (sameS_iff h g).1 e]; exact hh
  · intro h; exact ⟨g, h, (sameS_iff g g).2 rfl⟩
theorem hasJ_good {out : List (List ByteArray)} {g : List ByteArray} (ho : ∀ h ∈ out, GoodGr h) (hg : GoodGr g) : hasJ out (joinL g) = hasG out g := by
  rw [Bool.eq_iff_iff, hasG_iff]
  unfold hasJ
  rw [List.any_eq_true]
  constructor
  · rintro ⟨h, hh, e⟩; rw [← joinL_inj (ho h hh) hg (by simpa using e)]; exact hh
  · intro h; exact ⟨g, h, by simp⟩
def metJ (out : List (List ByteArray)) (x : List UInt8) : Option Value := if hasJ out x = true then some (.bool true) else none
theorem metJ_get {out : List (List ByteArray)} {g : List ByteArray} (ho : ∀ h ∈ out, GoodGr h) (hg : GoodGr g) : (metJ out (joinL g)).getD (.bool false) = .bool (hasG out g) := by
  unfold metJ
  rw [hasJ_good ho hg]
  cases hasG out g <;> rfl
theorem metJ_snoc (out : List (List ByteArray)) (g : List ByteArray) : (fun x => if x = joinL g then some (Value.bool true) else metJ out x) = metJ (out ++ [g]) := by
  funext x
  unfold metJ hasJ
  rw [List.any_append]
  by_cases e : x = joinL g
  · simp [e]
  · have : (joinL g == x) = false := by rw [beq_eq_false_iff_ne]; exact fun h => e h.symm
    simp [e, this]
end Go.Proofs.YtidkpnabdfiilaaGreatDoor

namespace Go.Proofs.YtidkpnabdfiilaaGreatDoor
open Go.RowKit

/-! Valid trees. -/
theorem treeFrom_ok : ∀ (l pre : List OFile), (∀ f ∈ l, pathS f.path = true) → l.Pairwise lessF → (∀ g, pre.getLast? = some g → ∀ f ∈ l, lessF g f) → treeFrom pre l = 0
  | [], _, _, _, _ => rfl
  | f :: l, pre, hp, hl, hg => by
    have ho : orderBad pre f = false := by
      unfold orderBad
      cases h : pre.getLast? with
      | none => rfl
      | some g =>
        show leB _ _ = false
        have := hg g h f (List.mem_cons_self ..)
        unfold lessF at this
        rw [leB_not, this]; rfl
    rw [treeFrom, if_pos (hp f (List.mem_cons_self ..)), ho, if_neg (by simp)]
    refine treeFrom_ok l _ (fun x hx => hp x (List.mem_cons_of_mem _ hx)) hl.of_cons (fun g h x hx => ?_)
    rw [List.getLast?_append] at h
    cases h
    exact List.rel_of_pairwise_cons hl hx
theorem treeFrom_path : ∀ (l pre : List OFile), treeFrom pre l = 0 → ∀ f ∈ l, pathS f.path = true
  | [], _, _, f, hf => by cases hf
  | x :: l, pre, h, f, hf => by
    rw [treeFrom] at h
    split at h
    · rename_i hp
      split at h
      · cases h
      · rcases List.mem_cons.1 hf with rfl | hf
        · exact hp
        · exact treeFrom_path l _ h f hf
    · cases h
structure TreeOk (fs : List OFile) : Prop where
  len : fs.length ≤ 200
  path : ∀ f ∈ fs, pathS f.path = true
  ord : fs.Pairwise lessF
  dir : someDir fs fs = false
theorem treeErr_iff (fs : List OFile) : treeErr fs = 0 ↔ TreeOk fs := by
  constructor
  · intro h
    have h1 := treeErr_from h
    unfold treeErr at h
    split at h
    · cases h
    · rename_i hl
      split at h
      · cases h
      · rename_i hd
        exact ⟨by omega, treeFrom_path _ _ h1, (tree_order _ _ h1).2, by simpa using hd⟩
  · rintro ⟨h1, h2, h3, h4⟩
    unfold treeErr
    rw [if_neg (by omega), if_pos (treeFrom_ok fs [] h2 h3 (fun g h => by cases h)), h4]; rfl
theorem someDir_sub {fs gs : List OFile} (h : ∀ f ∈ gs, f ∈ fs) (hd : someDir fs fs = false) : someDir gs gs = false := by
  rw [someDir_below] at hd ⊢
  rw [List.any_eq_false] at hd ⊢
  intro f hf hc
  refine hd f (h f hf) ?_
  rw [List.any_eq_true] at hc ⊢
  obtain ⟨g, hg, e⟩ := hc
  exact ⟨g, h g hg, e⟩
theorem TreeOk.filter {fs : List OFile} (h : TreeOk fs) (p : OFile → Bool) : TreeOk (fs.filter p) :=
  ⟨Nat.le_trans (List.length_filter_le _ _) h.len, fun f hf => h.path f (List.mem_filter.1 hf).1, h.ord.filter _, someDir_sub (fun _ hf => (List.mem_filter.1 hf).1) h.dir⟩
/-! The files that decide. -/
def ownF (f : OFile) : Bool := isOwn f.path.data.toList
theorem rules_filter : ∀ (l : List OFile) (m : ruleMap), (l.filter ownF).foldl rulesStep m = l.foldl rulesStep m
  | [], _ => rfl
  | f :: l, m => by
    cases h : ownF f with
    | true => rw [List.filter_cons_of_pos h, List.foldl_cons, List.foldl_cons, rules_filter l]
    | false =>
      rw [List.filter_cons_of_neg (by rw [h]; simp), List.foldl_cons, rulesStep_skip (by unfold ownF at h; rw [h]; rfl), rules_filter l]
theorem rulesM_filter (fs : List OFile) : rulesM (fs.filter ownF) = rulesM fs := rules_filter fs _
theorem groupsOf_ok {fs : List OFile} (h : TreeOk fs) {p : ByteArray} (hp : pathS p = true) : groupsOf fs p = (ownersM (rulesM fs) p, 0) := by
  rw [groupsOf, if_pos ((treeErr_iff fs).2 h), treeErr_one, hp]; rfl
theorem groupsOf_filter {fs : List OFile} (h : TreeOk fs) {p : ByteArray} (hp : pathS p = true) : groupsOf (fs.filter ownF) p = (ownersM (rulesM fs) p, 0) := by
  rw [groupsOf_ok (h.filter _) hp, rulesM_filter]
theorem diff_path {a b : List OFile} (ha : TreeOk a) (hb : TreeOk b) {c : FChg} (hc : c ∈ diffC a b) : pathS c.path = true := by
  obtain ⟨h, hm, rfl, _⟩ := ((diff_spec _ a b (Nat.le_refl _) ha.ord hb.ord).1 c).1 hc
  exact hm.elim (ha.path h) (hb.path h)
theorem diff_len : ∀ (n : Nat) (a b : List OFile), a.length + b.length ≤ n → (diffC a b).length ≤ a.length + b.length := by
  intro n
  induction n with
  | zero =>
    intro a b h
    obtain rfl : a = [] := List.length_eq_zero_iff.1 (by omega)
    obtain rfl : b = [] := List.length_eq_zero_iff.1 (by omega)
    exact Nat.le_refl _
  | succ n ih =>
    intro a b hn
    match a, b, hn with
    | [], b, _ => simp [diffC]
    | f :: a, [], hn => rw [diff_end]; have := ih a [] (by simp at hn ⊢; omega); simp at this ⊢; omega
    | f :: a, g :: b, hn =>
      cases h1 : lessB f g with
      | true => rw [diff_old h1]; have := ih a (g :: b) (by simp at hn ⊢; omega); simp at this ⊢; omega
      | false =>
        cases h2 : lessB g f with
        | true => rw [diff_new h1 h2]; have := ih (f :: a) b (by simp at hn ⊢; omega); simp at this ⊢; omega
        | false =>
          rw [diff_both h1 h2]
          have := ih a b (by simp at hn; omega)
          split <;> simp <;> omega
/-! What a person sees. -/
def seesC (m : ruleMap) (who : ByteArray) (c : FChg) : Bool := (ownersM m c.path).any fun g => memS who g
def seenL (old fresh : List OFile) (who : ByteArray) : List FChg := (diffC old fresh).filter (seesC (rulesM old) who)
def treesErr (old fresh : List OFile) : Int := if treeErr old = 0 then treeErr fresh else treeErr old
def seenOf (old fresh : List OFile) (who : ByteArray) : List FChg × Int := if treesErr old fresh = 0 then (seenL old fresh who, 0) else ([], treesErr old fresh)

/-! The encoding. -/
def encT (s : ByteArray) : List UInt8 := intB s.size ++ s.data.toList
def encF (b : Bool) : List UInt8 := intB (if b then 1 else 0)
def encC1 (c : FChg) : List UInt8 := encT c.path ++ (encF c.hasOld ++ (encF c.hasNew ++ (encT c.old ++ encT c.fresh)))
def encC (l : List FChg) : List UInt8 := intB l.length ++ (l.map encC1).flatten
theorem u8_inj {a b : Nat} (ha : a < 256) (hb : b < 256) (h : UInt8.ofNat a = UInt8.ofNat b) : a = b := by
  have := congrArg UInt8.toNat h
  rw [UInt8.toNat_ofNat', UInt8.toNat_ofNat'] at this
  omega
theorem digs_pref : ∀ (f n m : Nat) (r t : List UInt8), n < 128 ^ (f + 1) → m < 128 ^ (f + 1) → digs f n ++ r = digs f m ++ t → n = m ∧ r = t
  | 0, n, m, r, t, hn, hm, h => by
    simp only [digs, List.cons_append, List.nil_append] at h
    injection h with h1 h2
    exact ⟨u8_inj (by omega) (by omega) h1, h2⟩
  | f + 1, n, m, r, t, hn, hm, h => by
    simp only [digs] at h
    have key : ∀ (a : Nat), a < 128 ^ (f + 1 + 1) → a / 128 < 128 ^ (f + 1) := fun a ha => by
      rw [Nat.pow_succ] at ha; exact Nat.div_lt_of_lt_mul (by rw [Nat.mul_comm]; exact ha)
    split at h
    · rename_i h1
      split at h
      · rename_i h2
        simp only [List.cons_append, List.nil_append] at h
        injection h with e1 e2
        exact ⟨u8_inj (by omega) (by omega) e1, e2⟩
      · rename_i h2
        simp only [List.cons_append, List.nil_append] at h
        injection h with e1 e2
        have := u8_inj (by omega) (by omega) e1
        omega
    · rename_i h1
      split at h
      · rename_i h2
        simp only [List.cons_append, List.nil_append] at h
        injection h with e1 e2
        have := u8_inj (by omega) (by omega) e1
        omega
      · rename_i h2
        simp only [List.cons_append] at h
        injection h with e1 e2
        have e3 := u8_inj (by omega) (by omega) e1
        obtain ⟨e4, e5⟩ := digs_pref f _ _ r t (key n hn) (key m hm) e2
        exact ⟨by omega, e5⟩
theorem intB_pref {n m : Nat} {r t : List UInt8} (hn : n < 128 ^ 9) (hm : m < 128 ^ 9) (h : intB n ++ r = intB m ++ t) : n = m ∧ r = t := digs_pref 8 n m r t hn hm h
theorem encT_pref {a b : ByteArray} {r t : List UInt8} (ha : a.size < 128 ^ 9) (hb : b.size < 128 ^ 9) (h : encT a ++ r = encT b ++ t) : a = b ∧ r = t := by
  unfold encT at h
  rw [List.append_assoc, List.append_assoc] at h
  obtain ⟨e1, e2⟩ := intB_pref ha hb h
  obtain ⟨e3, e4⟩ := List.append_inj e2 (by rw [sz, sz]; exact e1)
  exact ⟨bytes_eq e3, e4⟩
theorem encF_pref {a b : Bool} {r t : List UInt8} (h : encF a ++ r = encF b ++ t) : a = b ∧ r = t := by
  unfold encF at h
  obtain ⟨e1, e2⟩ := intB_pref (by split <;> decide) (by split <;> decide) h
  refine ⟨?_, e2⟩
  cases a <;> cases b <;> simp at e1 <;> rfl
structure SmallC (c : FChg) : Prop where
  path : c.path.size ≤ 40000
  old : c.old.size ≤ 40000
  fresh : c.fresh.size ≤ 40000
theorem small_pow {n : Nat} (h : n ≤ 40000) : n < 128 ^ 9 := Nat.lt_of_le_of_lt h (by decide)
theorem encC1_pref {c d : FChg} {r t : List UInt8} (hc : SmallC c) (hd : SmallC d) (h : encC1 c ++ r = encC1 d ++ t) : c = d ∧ r = t := by
  unfold encC1 at h
  simp only [List.append_assoc] at h
  obtain ⟨e1, h⟩ := encT_pref (small_pow hc.path) (small_pow hd.path) h
  obtain ⟨e2, h⟩ := encF_pref h
  obtain ⟨e3, h⟩ := encF_pref h
  obtain ⟨e4, h⟩ := encT_pref (small_pow hc.old) (small_pow hd.old) h
  obtain ⟨e5, h⟩ := encT_pref (small_pow hc.fresh) (small_pow hd.fresh) h
  refine ⟨?_, h⟩
  cases c; cases d
  simp only at e1 e2 e3 e4 e5
  rw [e1, e2, e3, e4, e5]
theorem encs_inj : ∀ {l m : List FChg}, l.length = m.length → (∀ c ∈ l, SmallC c) → (∀ c ∈ m, SmallC c) → (l.map encC1).flatten = (m.map encC1).flatten → l = m
  | [], [], _, _, _, _ => rfl
  | [], _ :: _, h, _, _, _ => by simp at h
  | _ :: _, [], h, _, _, _ => by simp at h
  | c :: l, d :: m, hl, hc, hd, h => by
    rw [List.map_cons, List.map_cons, List.flatten_cons, List.flatten_cons] at h
    obtain ⟨e1, e2⟩ := encC1_pref (hc c (List.mem_cons_self ..)) (hd d (List.mem_cons_self ..)) h
    rw [e1, encs_inj (by simpa using hl) (fun x hx => hc x (List.mem_cons_of_mem _ hx)) (fun x hx => hd x (List.mem_cons_of_mem _ hx)) e2]
theorem encC_inj {l m : List FChg} (hl : l.length ≤ 40000) (hm : m.length ≤ 40000) (hc : ∀ c ∈ l, SmallC c) (hd : ∀ c ∈ m, SmallC c) (h : encC l = encC m) : l = m := by
  unfold encC at h
  obtain ⟨e1, e2⟩ := intB_pref (small_pow hl) (small_pow hm) h
  exact encs_inj e1 hc hd e2
end Go.Proofs.YtidkpnabdfiilaaGreatDoor
