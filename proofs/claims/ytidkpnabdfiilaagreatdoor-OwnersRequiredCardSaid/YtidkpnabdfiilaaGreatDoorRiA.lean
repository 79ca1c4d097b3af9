/- Changes of files, plainly: two lists in order walked side by side, and the reference's way by With; both are the same. -/
import Derived.Test.YtidkpnabdfiilaaGreatDoorRgG
namespace Go.Proofs.YtidkpnabdfiilaaGreatDoor
open Go.RowKit

structure FChg where
  path : ByteArray
  hasOld : Bool
  hasNew : Bool
  old : ByteArray
  fresh : ByteArray

def lessB (f g : OFile) : Bool := Op.bytesLess f.path.data.toList g.path.data.toList
def sameP (f g : OFile) : Bool := f.path.data.toList == g.path.data.toList
def sameDt (f g : OFile) : Bool := f.data.data.toList == g.data.data.toList
def oldC (f : OFile) : FChg := ⟨f.path, true, false, f.data, ⟨#[]⟩⟩
def newC (g : OFile) : FChg := ⟨g.path, false, true, ⟨#[]⟩, g.data⟩
def bothC (f g : OFile) : FChg := ⟨f.path, true, true, f.data, g.data⟩
def diffIn (f : OFile) (rest : List OFile → List FChg) : List OFile → List FChg
  | [] => oldC f :: rest []
  | g :: b => if lessB f g then oldC f :: rest (g :: b) else if lessB g f then newC g :: diffIn f rest b else if sameDt f g then rest b else bothC f g :: rest b
def diffC : List OFile → List OFile → List FChg
  | [], b => b.map newC
  | f :: a, b => diffIn f (diffC a) b
theorem diff_end (f : OFile) (a : List OFile) : diffC (f :: a) [] = oldC f :: diffC a [] := rfl
theorem diff_fresh (g : OFile) (b : List OFile) : diffC [] (g :: b) = newC g :: diffC [] b := rfl
theorem diff_old {f g : OFile} (h : lessB f g = true) (a b : List OFile) : diffC (f :: a) (g :: b) = oldC f :: diffC a (g :: b) := by
  rw [diffC, diffIn, if_pos h]
theorem diff_new {f g : OFile} (h : lessB f g = false) (h2 : lessB g f = true) (a b : List OFile) : diffC (f :: a) (g :: b) = newC g :: diffC (f :: a) b := by
  rw [diffC, diffIn, if_neg (by rw [h]; simp), if_pos h2, diffC]
theorem diff_both {f g : OFile} (h : lessB f g = false) (h2 : lessB g f = false) (a b : List OFile) : diffC (f :: a) (g :: b) = (if sameDt f g then diffC a b else bothC f g :: diffC a b) := by
  rw [diffC, diffIn, if_neg (by rw [h]; simp), if_neg (by rw [h2]; simp)]

/-! By looking paths up. -/
def mkC (a b : List OFile) (p : ByteArray) : FChg := ⟨p, findB a p.data.toList, findB b p.data.toList, findD a p.data.toList, findD b p.data.toList⟩
def isChg (c : FChg) : Bool := (c.hasOld != c.hasNew) || !(c.old.data.toList == c.fresh.data.toList)
theorem bytes_eq {a b : ByteArray} (h : a.data.toList = b.data.toList) : a = b := by
  cases a with | mk x => cases b with | mk y => cases x with | mk u => cases y with | mk v => simp at h; rw [h]
theorem find_head (f : OFile) (a : List OFile) : findF (f :: a) f.path.data.toList = some f := by simp [findF]
theorem find_ne {f : OFile} {x : List UInt8} (h : f.path.data.toList ≠ x) (a : List OFile) : findF (f :: a) x = findF a x := by
  unfold findF; rw [List.find?_cons_of_neg]; simpa using h
theorem find_no {a : List OFile} {x : List UInt8} (h : ∀ f ∈ a, f.path.data.toList ≠ x) : findF a x = none := by
  unfold findF; rw [List.find?_eq_none]; intro f hf; simpa using h f hf
theorem mkC_ne1 {f : OFile} {p : ByteArray} (h : f.path.data.toList ≠ p.data.toList) (a b : List OFile) : mkC (f :: a) b p = mkC a b p := by
  unfold mkC findB findD; rw [find_ne h]
theorem mkC_ne2 {f : OFile} {p : ByteArray} (h : f.path.data.toList ≠ p.data.toList) (a b : List OFile) : mkC a (f :: b) p = mkC a b p := by
  unfold mkC findB findD; rw [find_ne h]
theorem less_ne {f g : OFile} (h : lessF f g) : f.path.data.toList ≠ g.path.data.toList := lessF_ne h
theorem mkC_old {f : OFile} {b : List OFile} (h : ∀ g ∈ b, lessF f g) (a : List OFile) : mkC (f :: a) b f.path = oldC f := by
  unfold mkC findB findD; rw [find_head, find_no (fun g hg => (lessF_ne (h g hg)).symm)]; rfl
theorem mkC_new {g : OFile} {a : List OFile} (h : ∀ f ∈ a, lessF g f) (b : List OFile) : mkC a (g :: b) g.path = newC g := by
  unfold mkC findB findD; rw [find_head, find_no (fun f hf => (lessF_ne (h f hf)).symm)]; rfl
theorem mkC_both {f g : OFile} (h : f.path.data.toList = g.path.data.toList) (a b : List OFile) : mkC (f :: a) (g :: b) f.path = bothC f g := by
  unfold mkC findB findD; rw [find_head, h, find_head]; rfl
def MemC (a b : List OFile) (c : FChg) : Prop := ∃ h, (h ∈ a ∨ h ∈ b) ∧ c = mkC a b h.path ∧ isChg c = true
theorem isChg_old (f : OFile) : isChg (oldC f) = true := rfl
theorem isChg_new (f : OFile) : isChg (newC f) = true := rfl
theorem not_less_eq {f g : OFile} (h : lessB f g = false) (h2 : lessB g f = false) : f.path.data.toList = g.path.data.toList := by
  rcases less_total f.path.data.toList g.path.data.toList with e | e | e
  · unfold lessB at h; rw [h] at e; cases e
  · exact e
  · unfold lessB at h2; rw [h2] at e; cases e
theorem less_tail {f g : OFile} {b : List OFile} (h : lessF f g) (hb : (g :: b).Pairwise lessF) : ∀ x ∈ g :: b, lessF f x := by
  intro x hx
  rcases List.mem_cons.1 hx with rfl | hx
  · exact h
  · exact less_trans h (List.rel_of_pairwise_cons hb hx)
theorem memC_old {f : OFile} {a b : List OFile} (ha : ∀ x ∈ a, lessF f x) (hb : ∀ x ∈ b, lessF f x) (c : FChg) : MemC (f :: a) b c ↔ c = oldC f ∨ MemC a b c := by
  constructor
  · rintro ⟨h, hm, hc, hi⟩
    rcases hm with hm | hm
    · rcases List.mem_cons.1 hm with rfl | hm
      · left; rw [hc, mkC_old hb]
      · right; exact ⟨h, .inl hm, by rw [hc, mkC_ne1 (lessF_ne (ha h hm))], hi⟩
    · right; exact ⟨h, .inr hm, by rw [hc, mkC_ne1 (lessF_ne (hb h hm))], hi⟩
  · rintro (hc | ⟨h, hm, hc, hi⟩)
    · exact ⟨f, .inl (List.mem_cons_self ..), by rw [hc, mkC_old hb], by rw [hc]; rfl⟩
    · have hl : lessF f h := hm.elim (ha h) (hb h)
      exact ⟨h, hm.imp (List.mem_cons_of_mem _) id, by rw [hc, mkC_ne1 (lessF_ne hl)], hi⟩
theorem memC_new {g : OFile} {a b : List OFile} (ha : ∀ x ∈ a, lessF g x) (hb : ∀ x ∈ b, lessF g x) (c : FChg) : MemC a (g :: b) c ↔ c = newC g ∨ MemC a b c := by
  constructor
  · rintro ⟨h, hm, hc, hi⟩
    rcases hm with hm | hm
    · right; exact ⟨h, .inl hm, by rw [hc, mkC_ne2 (lessF_ne (ha h hm))], hi⟩
    · rcases List.mem_cons.1 hm with rfl | hm
      · left; rw [hc, mkC_new ha]
      · right; exact ⟨h, .inr hm, by rw [hc, mkC_ne2 (lessF_ne (hb h hm))], hi⟩
  · rintro (hc | ⟨h, hm, hc, hi⟩)
    · exact ⟨g, .inr (List.mem_cons_self ..), by rw [hc, mkC_new ha], by rw [hc]; rfl⟩
    · have hl : lessF g h := hm.elim (ha h) (hb h)
      exact ⟨h, hm.imp id (List.mem_cons_of_mem _), by rw [hc, mkC_ne2 (lessF_ne hl)], hi⟩
theorem memC_both {f g : OFile} {a b : List OFile} (e : f.path.data.toList = g.path.data.toList) (ha : ∀ x ∈ a, lessF f x) (hb : ∀ x ∈ b, lessF f x) (c : FChg) : MemC (f :: a) (g :: b) c ↔ (c = bothC f g ∧ sameDt f g = false) ∨ MemC a b c := by
  have hgp : g.path = f.path := (bytes_eq e).symm
  have hd : isChg (bothC f g) = true ↔ sameDt f g = false := by unfold isChg bothC sameDt; simp
  have hne : ∀ h, (h ∈ a ∨ h ∈ b) → mkC (f :: a) (g :: b) h.path = mkC a b h.path := fun h hm => by
    have hl : lessF f h := hm.elim (ha h) (hb h)
    rw [mkC_ne1 (lessF_ne hl), mkC_ne2 (by rw [← e]; exact lessF_ne hl)]
  constructor
  · rintro ⟨h, hm, hc, hi⟩
    by_cases hh : h = f ∨ h = g
    · left
      have : c = bothC f g := by
        rcases hh with rfl | rfl
        · rw [hc, mkC_both e]
        · rw [hgp] at hc; rw [hc, mkC_both e]
      exact ⟨this, hd.1 (this ▸ hi)⟩
    · right
      have hm' : h ∈ a ∨ h ∈ b := by
        rcases hm with hm | hm
        · rcases List.mem_cons.1 hm with rfl | hm
          · exact absurd (.inl rfl) hh
          · exact .inl hm
        · rcases List.mem_cons.1 hm with rfl | hm
          · exact absurd (.inr rfl) hh
          · exact .inr hm
      exact ⟨h, hm', by rw [hc, hne h hm'], hi⟩
  · rintro (⟨hc, hs⟩ | ⟨h, hm, hc, hi⟩)
    · exact ⟨f, .inl (List.mem_cons_self ..), by rw [hc, mkC_both e], by rw [hc]; exact hd.2 hs⟩
    · exact ⟨h, hm.imp (List.mem_cons_of_mem _) (List.mem_cons_of_mem _), by rw [hc, hne h hm], hi⟩
def lessC (c d : FChg) : Prop := Op.bytesLess c.path.data.toList d.path.data.toList = true
theorem memC_gt {a b : List OFile} {x : ByteArray} (ha : ∀ h ∈ a, Op.bytesLess x.data.toList h.path.data.toList = true) (hb : ∀ h ∈ b, Op.bytesLess x.data.toList h.path.data.toList = true) {c : FChg} (hc : MemC a b c) : Op.bytesLess x.data.toList c.path.data.toList = true := by
  obtain ⟨h, hm, rfl, _⟩ := hc
  exact hm.elim (ha h) (hb h)
theorem diff_spec : ∀ (n : Nat) (a b : List OFile), a.length + b.length ≤ n → a.Pairwise lessF → b.Pairwise lessF → (∀ c, c ∈ diffC a b ↔ MemC a b c) ∧ (diffC a b).Pairwise lessC := by
  intro n
  induction n with
  | zero =>
    intro a b h _ _
    obtain rfl : a = [] := List.length_eq_zero_iff.1 (by omega)
    obtain rfl : b = [] := List.length_eq_zero_iff.1 (by omega)
    refine ⟨fun c => ⟨fun h => (nomatch h), ?_⟩, List.Pairwise.nil⟩
    rintro ⟨h, hm | hm, _⟩ <;> cases hm
  | succ n ih =>
    intro a b hn ha hb
    have oldCase : ∀ (f : OFile) (a b : List OFile), a.length + b.length ≤ n → (f :: a).Pairwise lessF → b.Pairwise lessF → (∀ x ∈ b, lessF f x) → (∀ c, c ∈ oldC f :: diffC a b ↔ MemC (f :: a) b c) ∧ (oldC f :: diffC a b).Pairwise lessC := fun f a b hl ha hb hfb => by
      have hfa : ∀ x ∈ a, lessF f x := fun x hx => List.rel_of_pairwise_cons ha hx
      obtain ⟨i1, i2⟩ := ih a b hl ha.of_cons hb
      refine ⟨fun c => ?_, List.Pairwise.cons (fun c hc => ?_) i2⟩
      · rw [List.mem_cons, memC_old hfa hfb, i1]
      · exact memC_gt (x := f.path) hfa hfb ((i1 c).1 hc)
    have newCase : ∀ (g : OFile) (a b : List OFile), a.length + b.length ≤ n → a.Pairwise lessF → (g :: b).Pairwise lessF → (∀ x ∈ a, lessF g x) → (∀ c, c ∈ newC g :: diffC a b ↔ MemC a (g :: b) c) ∧ (newC g :: diffC a b).Pairwise lessC := fun g a b hl ha hb hga => by
      have hgb : ∀ x ∈ b, lessF g x := fun x hx => List.rel_of_pairwise_cons hb hx
      obtain ⟨i1, i2⟩ := ih a b hl ha hb.of_cons
      refine ⟨fun c => ?_, List.Pairwise.cons (fun c hc => ?_) i2⟩
      · rw [List.mem_cons, memC_new hga hgb, i1]
      · exact memC_gt (x := g.path) hga hgb ((i1 c).1 hc)
    match a, b, hn, ha, hb with
    | [], [], _, _, _ =>
      refine ⟨fun c => ⟨fun h => (nomatch h), ?_⟩, List.Pairwise.nil⟩
      rintro ⟨h, hm | hm, _⟩ <;> cases hm
    | f :: a, [], hn, ha, hb => rw [diff_end]; exact oldCase f a [] (by simp at hn ⊢; omega) ha hb (fun x hx => by cases hx)
    | [], g :: b, hn, ha, hb => rw [diff_fresh]; exact newCase g [] b (by simp at hn ⊢; omega) ha hb (fun x hx => by cases hx)
    | f :: a, g :: b, hn, ha, hb =>
      cases h1 : lessB f g with
      | true => rw [diff_old h1]; exact oldCase f a (g :: b) (by simp at hn ⊢; omega) ha hb (less_tail h1 hb)
      | false =>
        cases h2 : lessB g f with
        | true => rw [diff_new h1 h2]; exact newCase g (f :: a) b (by simp at hn ⊢; omega) ha hb (less_tail h2 ha)
        | false =>
          have e := not_less_eq h1 h2
          rw [diff_both h1 h2]
          have hfa : ∀ x ∈ a, lessF f x := fun x hx => List.rel_of_pairwise_cons ha hx
          have hfb : ∀ x ∈ b, lessF f x := fun x hx => by have := List.rel_of_pairwise_cons hb hx; unfold lessF at this ⊢; rw [e]; exact this
          obtain ⟨i1, i2⟩ := ih a b (by simp at hn; omega) ha.of_cons hb.of_cons
          cases hs : sameDt f g with
          | true =>
            refine ⟨fun c => ?_, i2⟩
            rw [memC_both e hfa hfb, hs]
            simp [i1]
          | false =>
            refine ⟨fun c => ?_, ?_⟩
            · rw [memC_both e hfa hfb, hs]; simp [i1]
            · refine List.Pairwise.cons (fun c hc => ?_) i2
              exact memC_gt (x := f.path) hfa hfb ((i1 c).1 hc)
theorem sorted_eq : ∀ {l m : List FChg}, l.Pairwise lessC → m.Pairwise lessC → (∀ c, c ∈ l ↔ c ∈ m) → l = m
  | [], [], _, _, _ => rfl
  | [], c :: _, _, _, h => by have := (h c).2 (List.mem_cons_self ..); cases this
  | c :: _, [], _, _, h => by have := (h c).1 (List.mem_cons_self ..); cases this
  | c :: l, d :: m, hl, hm, h => by
    have irr : ∀ c : FChg, ¬ lessC c c := fun c hc => by unfold lessC at hc; rw [less_irrefl] at hc; cases hc
    have e : c = d := by
      rcases List.mem_cons.1 ((h c).1 (List.mem_cons_self ..)) with e | h1
      · exact e
      · rcases List.mem_cons.1 ((h d).2 (List.mem_cons_self ..)) with e | h2
        · exact e.symm
        · exact absurd (less_trans (List.rel_of_pairwise_cons hm h1) (List.rel_of_pairwise_cons hl h2)) (irr d)
    subst e
    congr 1
    refine sorted_eq hl.of_cons hm.of_cons fun x => ⟨fun hx => ?_, fun hx => ?_⟩
    · rcases List.mem_cons.1 ((h x).1 (List.mem_cons_of_mem _ hx)) with rfl | hx'
      · exact absurd (List.rel_of_pairwise_cons hl hx) (irr _)
      · exact hx'
    · rcases List.mem_cons.1 ((h x).2 (List.mem_cons_of_mem _ hx)) with rfl | hx'
      · exact absurd (List.rel_of_pairwise_cons hm hx) (irr _)
      · exact hx'

/-! With. -/
def withGo (f : OFile) : Bool → List OFile → List OFile
  | put, [] => if put then [] else [f]
  | put, h :: l => (if !put && !(lessB h f) then [f] else []) ++ (if sameP h f then [] else [h]) ++ withGo f (put || !(lessB h f)) l
def withF (l : List OFile) (f : OFile) : List OFile := withGo f false l
theorem with_put (f : OFile) : ∀ {l : List OFile}, (∀ h ∈ l, lessF f h) → withGo f true l = l
  | [], _ => rfl
  | h :: l, hl => by
    have h1 : sameP h f = false := by unfold sameP; simpa using (lessF_ne (hl h (List.mem_cons_self ..))).symm
    rw [withGo, h1, Bool.true_or, with_put f (fun x hx => hl x (List.mem_cons_of_mem _ hx))]; rfl
theorem with_cases (f h : OFile) (l : List OFile) (hl : (h :: l).Pairwise lessF) : withF (h :: l) f = if lessB h f then h :: withF l f else if sameP h f then f :: l else f :: h :: l := by
  unfold withF
  rw [withGo]
  cases h1 : lessB h f with
  | true =>
    have h2 : sameP h f = false := by unfold sameP; simpa using lessF_ne h1
    rw [h2]; rfl
  | false =>
    cases h2 : sameP h f with
    | true =>
      have e : h.path.data.toList = f.path.data.toList := by simpa [sameP] using h2
      rw [show (false || !false) = true from rfl, with_put f (l := l) (fun x hx => by have := List.rel_of_pairwise_cons hl hx; unfold lessF at this ⊢; rw [← e]; exact this)]
      rfl
    | false =>
      have hf : lessF f h := by
        rcases less_total h.path.data.toList f.path.data.toList with e | e | e
        · unfold lessB at h1; rw [h1] at e; cases e
        · unfold sameP at h2; rw [e] at h2; simp at h2
        · exact e
      rw [show (false || !false) = true from rfl, with_put f (l := l) (fun x hx => less_trans hf (List.rel_of_pairwise_cons hl hx))]
      rfl
theorem with_spec (f : OFile) : ∀ (l : List OFile), l.Pairwise lessF → (∀ x, x ∈ withF l f ↔ x = f ∨ (x ∈ l ∧ x.path.data.toList ≠ f.path.data.toList)) ∧ (withF l f).Pairwise lessF
  | [], _ => ⟨fun x => by simp [withF, withGo], by simp [withF, withGo]⟩
  | h :: l, hl => by
    rw [with_cases f h l hl]
    obtain ⟨i1, i2⟩ := with_spec f l hl.of_cons
    have hhl : ∀ x ∈ l, lessF h x := fun x hx => List.rel_of_pairwise_cons hl hx
    cases h1 : lessB h f with
    | true =>
      have hne := lessF_ne (show lessF h f from h1)
      refine ⟨fun x => ?_, List.Pairwise.cons (fun x hx => ?_) i2⟩
      · rw [if_pos rfl, List.mem_cons, i1, List.mem_cons]
        constructor
        · rintro (rfl | h | ⟨h3, h4⟩)
          · exact .inr ⟨.inl rfl, hne⟩
          · exact .inl h
          · exact .inr ⟨.inr h3, h4⟩
        · rintro (h | ⟨h3 | h3, h4⟩)
          · exact .inr (.inl h)
          · exact .inl h3
          · exact .inr (.inr ⟨h3, h4⟩)
      · rcases (i1 x).1 hx with rfl | ⟨h3, _⟩
        · exact h1
        · exact hhl x h3
    | false =>
      cases h2 : sameP h f with
      | true =>
        have e : h.path.data.toList = f.path.data.toList := by simpa [sameP] using h2
        have hfl : ∀ x ∈ l, lessF f x := fun x hx => by have := hhl x hx; unfold lessF at this ⊢; rw [← e]; exact this
        rw [if_neg (by simp), if_pos rfl]
        refine ⟨fun x => ?_, List.Pairwise.cons hfl hl.of_cons⟩
        rw [List.mem_cons, List.mem_cons]
        constructor
        · rintro (h | h)
          · exact .inl h
          · exact .inr ⟨.inr h, (lessF_ne (hfl x h)).symm⟩
        · rintro (h | ⟨rfl | h3, h4⟩)
          · exact .inl h
          · exact absurd e h4
          · exact .inr h3
      | false =>
        have hf : lessF f h := by
          rcases less_total h.path.data.toList f.path.data.toList with e | e | e
          · unfold lessB at h1; rw [h1] at e; cases e
          · unfold sameP at h2; rw [e] at h2; simp at h2
          · exact e
        rw [if_neg (by simp), if_neg (by simp)]
        have hfl := less_tail hf hl
        refine ⟨fun x => ?_, List.Pairwise.cons hfl hl⟩
        rw [List.mem_cons]
        constructor
        · rintro (h | h)
          · exact .inl h
          · exact .inr ⟨h, (lessF_ne (hfl x h)).symm⟩
        · rintro (h | ⟨h3, h4⟩)
          · exact .inl h
          · exact .inr h3
theorem fold_with : ∀ (b l : List OFile), l.Pairwise lessF → (b.foldl withF l).Pairwise lessF ∧ ∀ p : List UInt8, (∃ x ∈ b.foldl withF l, x.path.data.toList = p) ↔ ((∃ x ∈ l, x.path.data.toList = p) ∨ ∃ x ∈ b, x.path.data.toList = p)
  | [], l, hl => ⟨hl, fun p => by simp⟩
  | f :: b, l, hl => by
    obtain ⟨i1, i2⟩ := with_spec f l hl
    obtain ⟨j1, j2⟩ := fold_with b _ i2
    refine ⟨j1, fun p => ?_⟩
    rw [List.foldl_cons, j2]
    constructor
    · rintro (⟨x, hx, e⟩ | ⟨x, hx, e⟩)
      · rcases (i1 x).1 hx with rfl | ⟨h1, _⟩
        · exact .inr ⟨x, List.mem_cons_self .., e⟩
        · exact .inl ⟨x, h1, e⟩
      · exact .inr ⟨x, List.mem_cons_of_mem _ hx, e⟩
    · rintro (⟨x, hx, e⟩ | ⟨x, hx, e⟩)
      · by_cases hq : x.path.data.toList = f.path.data.toList
        · exact .inl ⟨f, (i1 f).2 (.inl rfl), by rw [← hq, e]⟩
        · exact .inl ⟨x, (i1 x).2 (.inr ⟨hx, hq⟩), e⟩
      · rcases List.mem_cons.1 hx with rfl | hx
        · exact .inl ⟨x, (i1 x).2 (.inl rfl), e⟩
        · exact .inr ⟨x, hx, e⟩
def allF (a b : List OFile) : List OFile := b.foldl withF (a.foldl withF [])
def pickC (a b : List OFile) (f : OFile) : List FChg := if isChg (mkC a b f.path) then [mkC a b f.path] else []
def changesR (a b : List OFile) : List FChg := (allF a b).flatMap (pickC a b)
theorem changes_diff {a b : List OFile} (ha : a.Pairwise lessF) (hb : b.Pairwise lessF) : changesR a b = diffC a b := by
  obtain ⟨h1, h2⟩ := diff_spec _ a b (Nat.le_refl _) ha hb
  obtain ⟨k1, k2⟩ := fold_with a [] List.Pairwise.nil
  obtain ⟨k3, k4⟩ := fold_with b _ k1
  refine sorted_eq ?_ h2 fun c => ?_
  · unfold changesR allF
    generalize b.foldl withF (a.foldl withF []) = l at k3
    clear k4 h1 h2
    induction l with
    | nil => exact List.Pairwise.nil
    | cons f l ih =>
      rw [List.flatMap_cons]
      have tail := ih k3.of_cons
      unfold pickC at tail ⊢
      split
      · refine List.Pairwise.cons (fun c hc => ?_) tail
        obtain ⟨g, hg, hc⟩ := List.mem_flatMap.1 hc
        have hgt := List.rel_of_pairwise_cons k3 hg
        split at hc
        · rw [List.mem_singleton.1 hc]; exact hgt
        · cases hc
      · exact tail
  · rw [h1]
    unfold changesR MemC
    rw [List.mem_flatMap]
    constructor
    · rintro ⟨f, hf, hc⟩
      unfold pickC at hc
      split at hc
      · rename_i hi
        have hc := List.mem_singleton.1 hc
        have := (k4 f.path.data.toList).1 ⟨f, hf, rfl⟩
        rw [k2] at this
        rcases this with (⟨x, hx, _⟩ | ⟨x, hx, e⟩) | ⟨x, hx, e⟩
        · cases hx
        · exact ⟨x, .inl hx, by rw [hc, bytes_eq e], by rw [hc]; exact hi⟩
        · exact ⟨x, .inr hx, by rw [hc, bytes_eq e], by rw [hc]; exact hi⟩
      · cases hc
    · rintro ⟨h, hm, hc, hi⟩
      have : ∃ x ∈ allF a b, x.path.data.toList = h.path.data.toList := by
        refine (k4 _).2 ?_
        rcases hm with hm | hm
        · exact .inl ((k2 _).2 (.inr ⟨h, hm, rfl⟩))
        · exact .inr ⟨h, hm, rfl⟩
      obtain ⟨x, hx, e⟩ := this
      refine ⟨x, hx, ?_⟩
      unfold pickC
      rw [bytes_eq e, ← hc, if_pos hi]
      exact List.mem_singleton.2 rfl
/-- No file changes from a list to itself. -/
theorem diff_self : ∀ l : List OFile, diffC l l = []
  | [] => rfl
  | f :: l => by
    have h : lessB f f = false := less_irrefl _
    rw [diff_both h h, if_pos (by simp [sameDt]), diff_self l]
end Go.Proofs.YtidkpnabdfiilaaGreatDoor
