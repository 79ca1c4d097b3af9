/- Approvals, plainly: what a person sees, its encoding and that it is one-to-one; the files that decide; valid trees. -/
import Derived.Test.YtidkpnabdfiilaaGreatDoorRiP
namespace Go.Proofs.YtidkpnabdfiilaaGreatDoor
open Go.RowKit

/-! Valid trees. -/
theorem treeFrom_ok : ∀ (l pre : List OFile), (∀ f ∈ l, pathS f.path = true) → l.Pairwise lessF → (∀ g, pre.getLast? = some g → ∀ f ∈ l, lessF g f) → treeFrom pre l = 0
  | [], _, _, _, _ => rfl
  | f :: l, pre, hp, hl, hg => by
    have ho : orderBad pre f = false := by
      unfold orderBad
      cases h : pre.getLast? with
      | none => rfl
      | some g =>
        show leB _ _ = false
        have := hg g h f (List.mem_cons_self ..)
        unfold lessF at this
        rw [leB_not, this]; rfl
    rw [treeFrom, if_pos (hp f (List.mem_cons_self ..)), ho, if_neg (by simp)]
    refine treeFrom_ok l _ (fun x hx => hp x (List.mem_cons_of_mem _ hx)) hl.of_cons (fun g h x hx => ?_)
    rw [List.getLast?_append] at h
    cases h
    exact List.rel_of_pairwise_cons hl hx
theorem treeFrom_path : ∀ (l pre : List OFile), treeFrom pre l = 0 → ∀ f ∈ l, pathS f.path = true
  | [], _, _, f, hf => by cases hf
  | x :: l, pre, h, f, hf => by
    rw [treeFrom] at h
    split at h
    · rename_i hp
      split at h
      · cases h
      · rcases List.mem_cons.1 hf with rfl | hf
        · exact hp
        · exact treeFrom_path l _ h f hf
    · cases h
structure TreeOk (fs : List OFile) : Prop where
  len : fs.length ≤ 200
  path : ∀ f ∈ fs, pathS f.path = true
  ord : fs.Pairwise lessF
  dir : someDir fs fs = false
theorem treeErr_iff (fs : List OFile) : treeErr fs = 0 ↔ TreeOk fs := by
  constructor
  · intro h
    have h1 := treeErr_from h
    unfold treeErr at h
    split at h
    · cases h
    · rename_i hl
      split at h
      · cases h
      · rename_i hd
        exact ⟨by omega, treeFrom_path _ _ h1, (tree_order _ _ h1).2, by simpa using hd⟩
  · rintro ⟨h1, h2, h3, h4⟩
    unfold treeErr
    rw [if_neg (by omega), if_pos (treeFrom_ok fs [] h2 h3 (fun g h => by cases h)), h4]; rfl
theorem someDir_sub {fs gs : List OFile} (h : ∀ f ∈ gs, f ∈ fs) (hd : someDir fs fs = false) : someDir gs gs = false := by
  rw [someDir_below] at hd ⊢
  rw [List.any_eq_false] at hd ⊢
  intro f hf hc
  refine hd f (h f hf) ?_
  rw [List.any_eq_true] at hc ⊢
  obtain ⟨g, hg, e⟩ := hc
  exact ⟨g, h g hg, e⟩
theorem TreeOk.filter {fs : List OFile} (h : TreeOk fs) (p : OFile → Bool) : TreeOk (fs.filter p) :=
  ⟨Nat.le_trans (List.length_filter_le _ _) h.len, fun f hf => h.path f (List.mem_filter.1 hf).1, h.ord.filter _, someDir_sub (fun _ hf => (List.mem_filter.1 hf).1) h.dir⟩
/-! The files that decide. -/
def ownF (f : OFile) : Bool := isOwn f.path.data.toList
theorem rules_filter : ∀ (l : List OFile) (m : ruleMap), (l.filter ownF).foldl rulesStep m = l.foldl rulesStep m
  | [], _ => rfl
  | f :: l, m => by
    cases h : ownF f with
    | true => rw [List.filter_cons_of_pos h, List.foldl_cons, List.foldl_cons, rules_filter l]
    | false =>
      rw [List.filter_cons_of_neg (by rw [h]; simp), List.foldl_cons, rulesStep_skip (by unfold ownF at h; rw [h]; rfl), rules_filter l]
theorem rulesM_filter (fs : List OFile) : rulesM (fs.filter ownF) = rulesM fs := rules_filter fs _
theorem groupsOf_ok {fs : List OFile} (h : TreeOk fs) {p : ByteArray} (hp : pathS p = true) : groupsOf fs p = (ownersM (rulesM fs) p, 0) := by
  rw [groupsOf, if_pos ((treeErr_iff fs).2 h), treeErr_one, hp]; rfl
theorem groupsOf_filter {fs : List OFile} (h : TreeOk fs) {p : ByteArray} (hp : pathS p = true) : groupsOf (fs.filter ownF) p = (ownersM (rulesM fs) p, 0) := by
  rw [groupsOf_ok (h.filter _) hp, rulesM_filter]
theorem diff_path {a b : List OFile} (ha : TreeOk a) (hb : TreeOk b) {c : FChg} (hc : c ∈ diffC a b) : pathS c.path = true := by
  obtain ⟨h, hm, rfl, _⟩ := ((diff_spec _ a b (Nat.le_refl _) ha.ord hb.ord).1 c).1 hc
  exact hm.elim (ha.path h) (hb.path h)
theorem diff_len : ∀ (n : Nat) (a b : List OFile), a.length + b.length ≤ n → (diffC a b).length ≤ a.length + b.length := by
  intro n
  induction n with
  | zero =>
    intro a b h
    obtain rfl : a = [] := List.length_eq_zero_iff.1 (by omega)
    obtain rfl : b = [] := List.length_eq_zero_iff.1 (by omega)
    exact Nat.le_refl _
  | succ n ih =>
    intro a b hn
    match a, b, hn with
    | [], b, _ => simp [diffC]
    | f :: a, [], hn => rw [diff_end]; have := ih a [] (by simp at hn ⊢; omega); simp at this ⊢; omega
    | f :: a, g :: b, hn =>
      cases h1 : lessB f g with
      | true => rw [diff_old h1]; have := ih a (g :: b) (by simp at hn ⊢; omega); simp at this ⊢; omega
      | false =>
        cases h2 : lessB g f with
        | true => rw [diff_new h1 h2]; have := ih (f :: a) b (by simp at hn ⊢; omega); simp at this ⊢; omega
        | false =>
          rw [diff_both h1 h2]
          have := ih a b (by simp at hn; omega)
          split <;> simp <;> omega
/-! What a person sees. -/
def seesC (m : ruleMap) (who : ByteArray) (c : FChg) : Bool := (ownersM m c.path).any fun g => memS who g
def seenL (old fresh : List OFile) (who : ByteArray) : List FChg := (diffC old fresh).filter (seesC (rulesM old) who)
def treesErr (old fresh : List OFile) : Int := if treeErr old = 0 then treeErr fresh else treeErr old
def seenOf (old fresh : List OFile) (who : ByteArray) : List FChg × Int := if treesErr old fresh = 0 then (seenL old fresh who, 0) else ([], treesErr old fresh)

/-! The encoding. -/
def encT (s : ByteArray) : List UInt8 := intB s.size ++ s.data.toList
def encF (b : Bool) : List UInt8 := intB (if b then 1 else 0)
def encC1 (c : FChg) : List UInt8 := encT c.path ++ (encF c.hasOld ++ (encF c.hasNew ++ (encT c.old ++ encT c.fresh)))
def encC (l : List FChg) : List UInt8 := intB l.length ++ (l.map encC1).flatten
theorem u8_inj {a b : Nat} (ha : a < 256) (hb : b < 256) (h : UInt8.ofNat a = UInt8.ofNat b) : a = b := by
  have := congrArg UInt8.toNat h
  rw [UInt8.toNat_ofNat', UInt8.toNat_ofNat'] at this
  omega
theorem digs_pref : ∀ (f n m : Nat) (r t : List UInt8), n < 128 ^ (f + 1) → m < 128 ^ (f + 1) → digs f n ++ r = digs f m ++ t → n = m ∧ r = t
  | 0, n, m, r, t, hn, hm, h => by
    simp only [digs, List.cons_append, List.nil_append] at h
    injection h with h1 h2
    exact ⟨u8_inj (by omega) (by omega) h1, h2⟩
  | f + 1, n, m, r, t, hn, hm, h => by
    simp only [digs] at h
    have key : ∀ (a : Nat), a < 128 ^ (f + 1 + 1) → a / 128 < 128 ^ (f + 1) := fun a ha => by
      rw [Nat.pow_succ] at ha; exact Nat.div_lt_of_lt_mul (by rw [Nat.mul_comm]; exact ha)
    split at h
    · rename_i h1
      split at h
      · rename_i h2
        simp only [List.cons_append, List.nil_append] at h
        injection h with e1 e2
        exact ⟨u8_inj (by omega) (by omega) e1, e2⟩
      · rename_i h2
        simp only [List.cons_append, List.nil_append] at h
        injection h with e1 e2
        have := u8_inj (by omega) (by omega) e1
        omega
    · rename_i h1
      split at h
      · rename_i h2
        simp only [List.cons_append, List.nil_append] at h
        injection h with e1 e2
        have := u8_inj (by omega) (by omega) e1
        omega
      · rename_i h2
        simp only [List.cons_append] at h
        injection h with e1 e2
        have e3 := u8_inj (by omega) (by omega) e1
        obtain ⟨e4, e5⟩ := digs_pref f _ _ r t (key n hn) (key m hm) e2
        exact ⟨by omega, e5⟩
theorem intB_pref {n m : Nat} {r t : List UInt8} (hn : n < 128 ^ 9) (hm : m < 128 ^ 9) (h : intB n ++ r = intB m ++ t) : n = m ∧ r = t := digs_pref 8 n m r t hn hm h
theorem encT_pref {a b : ByteArray} {r t : List UInt8} (ha : a.size < 128 ^ 9) (hb : b.size < 128 ^ 9) (h : encT a ++ r = encT b ++ t) : a = b ∧ r = t := by
  unfold encT at h
  rw [List.append_assoc, List.append_assoc] at h
  obtain ⟨e1, e2⟩ := intB_pref ha hb h
  obtain ⟨e3, e4⟩ := List.append_inj e2 (by rw [sz, sz]; exact e1)
  exact ⟨bytes_eq e3, e4⟩
theorem encF_pref {a b : Bool} {r t : List UInt8} (h : encF a ++ r = encF b ++ t) : a = b ∧ r = t := by
  unfold encF at h
  obtain ⟨e1, e2⟩ := intB_pref (by split <;> decide) (by split <;> decide) h
  refine ⟨?_, e2⟩
  cases a <;> cases b <;> simp at e1 <;> rfl
structure SmallC (c : FChg) : Prop where
  path : c.path.size ≤ 40000
  old : c.old.size ≤ 40000
  fresh : c.fresh.size ≤ 40000
theorem small_pow {n : Nat} (h : n ≤ 40000) : n < 128 ^ 9 := Nat.lt_of_le_of_lt h (by decide)
theorem encC1_pref {c d : FChg} {r t : List UInt8} (hc : SmallC c) (hd : SmallC d) (h : encC1 c ++ r = encC1 d ++ t) : c = d ∧ r = t := by
  unfold encC1 at h
  simp only [List.append_assoc] at h
  obtain ⟨e1, h⟩ := encT_pref (small_pow hc.path) (small_pow hd.path) h
  obtain ⟨e2, h⟩ := encF_pref h
  obtain ⟨e3, h⟩ := encF_pref h
  obtain ⟨e4, h⟩ := encT_pref (small_pow hc.old) (small_pow hd.old) h
  obtain ⟨e5, h⟩ := encT_pref (small_pow hc.fresh) (small_pow hd.fresh) h
  refine ⟨?_, h⟩
  cases c; cases d
  simp only at e1 e2 e3 e4 e5
  rw [e1, e2, e3, e4, e5]
theorem encs_inj : ∀ {l m : List FChg}, l.length = m.length → (∀ c ∈ l, SmallC c) → (∀ c ∈ m, SmallC c) → (l.map encC1).flatten = (m.map encC1).flatten → l = m
  | [], [], _, _, _, _ => rfl
  | [], _ :: _, h, _, _, _ => by simp at h
  | _ :: _, [], h, _, _, _ => by simp at h
  | c :: l, d :: m, hl, hc, hd, h => by
    rw [List.map_cons, List.map_cons, List.flatten_cons, List.flatten_cons] at h
    obtain ⟨e1, e2⟩ := encC1_pref (hc c (List.mem_cons_self ..)) (hd d (List.mem_cons_self ..)) h
    rw [e1, encs_inj (by simpa using hl) (fun x hx => hc x (List.mem_cons_of_mem _ hx)) (fun x hx => hd x (List.mem_cons_of_mem _ hx)) e2]
theorem encC_inj {l m : List FChg} (hl : l.length ≤ 40000) (hm : m.length ≤ 40000) (hc : ∀ c ∈ l, SmallC c) (hd : ∀ c ∈ m, SmallC c) (h : encC l = encC m) : l = m := by
  unfold encC at h
  obtain ⟨e1, e2⟩ := intB_pref (small_pow hl) (small_pow hm) h
  exact encs_inj e1 hc hd e2
end Go.Proofs.YtidkpnabdfiilaaGreatDoor
